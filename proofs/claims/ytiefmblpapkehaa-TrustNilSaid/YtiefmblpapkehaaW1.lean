import Derived.Test.YtiefmblpapkehaaBase
import Derived.Deep.QuietTactic
import Derived.BigQuiet
namespace Go.Proofs.Ytiefmblpapkehaa
open Go.RowKit
set_option linter.unusedVariables false

/-- The two counters, as a block of two cells of type T. -/
def Two (T : TypeId) (w : World) (b m o : Nat) : Prop := w.heap[b]? = some (.cells #[.int .u64 (m : Nat), .int .u64 (o : Nat)] T (0, 0))

theorem Two.c0 {T : TypeId} {w : World} {b m o : Nat} (h : Two T w b m o) : w.cell? ⟨b, 0, none⟩ = some (.int .u64 (m : Nat)) := by simp [World.cell?, show w.heap[b]? = _ from h]
theorem Two.c1 {T : TypeId} {w : World} {b m o : Nat} (h : Two T w b m o) : w.cell? ⟨b, 1, none⟩ = some (.int .u64 (o : Nat)) := by simp [World.cell?, show w.heap[b]? = _ from h]
theorem Two.f {T : TypeId} {w : World} {b m o : Nat} (h : Two T w b m o) (j : Nat) : w.frozen? ⟨b, j, none⟩ = false := by simp [World.frozen?, show w.heap[b]? = _ from h]
theorem Two.lt {T : TypeId} {w : World} {b m o : Nat} (h : Two T w b m o) : b < w.heap.size := heap_lt h
theorem Two.below {T : TypeId} {w w' : World} {b m o : Nat} (h : Two T w b m o) (hb : Below w.heap.size w w') : Two T w' b m o := heap_below h hb
theorem Two.kept {T : TypeId} {w w' : World} {b m o : Nat} {row : Option Nat} (h : Two T w b m o) (hg : w.grownBy w' row) (hn : some b ≠ row) : Two T w' b m o := by
  unfold Two; rw [hg.block b h.lt hn]; exact h
theorem Two.set0 {T : TypeId} {w : World} {b m o : Nat} (h : Two T w b m o) (n : Nat) : Two T (w.setCell ⟨b, 0, none⟩ (.int .u64 (n : Nat))) b n o := by
  unfold Two at *; simp [World.setCell, Array.getElem?_modify, h]
theorem Two.set1 {T : TypeId} {w : World} {b m o : Nat} (h : Two T w b m o) (n : Nat) : Two T (w.setCell ⟨b, 1, none⟩ (.int .u64 (n : Nat))) b m n := by
  unfold Two at *; simp [World.setCell, Array.getElem?_modify, h]
theorem grown_set (w : World) (b j : Nat) (v : Value) : w.grownBy (w.setCell ⟨b, j, none⟩ v) (some b) :=
  ⟨rfl, rfl, rfl, by simp [World.setCell], fun k _ hk => Below.heap_setCell _ _ _ _ (fun e => hk (by rw [e]))⟩
theorem grown_trans {a b c : World} {r : Option Nat} (h : a.grownBy b r) (k : b.grownBy c r) : a.grownBy c r :=
  ⟨k.os.trans h.os, k.tape.trans h.tape, k.output.trans h.output, Nat.le_trans h.size k.size, fun i hi hn => (k.block i (Nat.lt_of_lt_of_le hi h.size) hn).trans (h.block i hi hn)⟩
theorem grown_of_below {a b : World} (h : Below a.heap.size a b) (r : Option Nat) : a.grownBy b r := ⟨h.os, h.tape, h.output, h.size, fun i hi _ => h.block i hi⟩

set_option maxHeartbeats 400000 in
theorem new_any (w : World) : Calls Try.prog 8 #[] w fun e w' => e = .returned (.pointer (some ⟨w.heap.size, 0, none⟩)) ∧ Two 41 w' w.heap.size 0 0 ∧ Below w.heap.size w w' := by
  go_enter Try.func8, Try.ntmps8
  go_wp2
  go_ret
  exact ⟨rfl, heap_at _ _, (Below.refl _ _).alloc (Nat.le_refl _) _⟩

set_option maxHeartbeats 400000 in
theorem marks_any (b m o : Nat) (w : World) (h : Two 41 w b m o) : Calls Try.prog 13 #[.pointer (some ⟨b, 0, none⟩)] w fun e w' => e = .returned (.int .u64 (m : Nat)) ∧ w = w' := by
  have h0 := h.c0
  go_enter Try.func13, Try.ntmps13
  go_wp2
  go_ret
  exact ⟨rfl, rfl⟩
set_option maxHeartbeats 400000 in
theorem opens_any (b m o : Nat) (w : World) (h : Two 41 w b m o) : Calls Try.prog 14 #[.pointer (some ⟨b, 0, none⟩)] w fun e w' => e = .returned (.int .u64 (o : Nat)) ∧ w = w' := by
  have h0 := h.c1
  go_enter Try.func14, Try.ntmps14
  go_wp2
  go_ret
  exact ⟨rfl, rfl⟩
set_option maxHeartbeats 400000 in
theorem copy_any (b m o : Nat) (w : World) (h : Two 41 w b m o) : Calls Try.prog 15 #[.pointer (some ⟨b, 0, none⟩)] w fun e w' => e = .returned (.pointer (some ⟨w.heap.size, 0, none⟩)) ∧ Two 41 w' w.heap.size m o ∧ Below w.heap.size w w' := by
  have h0 := h.c0
  have h1 := h.c1
  go_enter Try.func15, Try.ntmps15
  go_wp2
  go_ret
  exact ⟨rfl, heap_at _ _, (Below.refl _ _).alloc (Nat.le_refl _) _⟩

def opened (o : Nat) : Nat := if o = 18446744073709551615 then o else o + 1
def openV (o : Nat) : Nat := if o = 18446744073709551615 then 0 else o + 1
def openE (o : Nat) : Int := if o = 18446744073709551615 then 4 else 0
set_option maxHeartbeats 400000 in
theorem open_any (b m o : Nat) (w : World) (h : Two 41 w b m o) (ho : o < 18446744073709551616) : Calls Try.prog 9 #[.pointer (some ⟨b, 0, none⟩)] w fun e w' =>
    e = .returned (.tuple #[.int .u64 (openV o : Nat), .int .i64 (openE o)]) ∧ Two 41 w' b m (opened o) ∧ w.grownBy w' (some b) := by
  have h0 := h.c0
  have h1 := h.c1
  have hf := h.f
  by_cases e : o = 18446744073709551615
  · have e1 : ((o : Int) == 18446744073709551615) = true := by simp; omega
    have v1 : openV o = 0 := by unfold openV; rw [if_pos e]
    have v2 : openE o = 4 := by unfold openE; rw [if_pos e]
    have v3 : opened o = o := by unfold opened; rw [if_pos e]
    rw [v1, v2, v3]
    clear e v1 v2 v3
    go_enter Try.func9, Try.ntmps9
    go_wp2
    go_ret2
    exact ⟨rfl, h, World.grownBy.refl _ _⟩
  · have e1 : ((o : Int) == 18446744073709551615) = false := by simp; omega
    have v1 : openV o = o + 1 := by unfold openV; rw [if_neg e]
    have v2 : openE o = 0 := by unfold openE; rw [if_neg e]
    have v3 : opened o = o + 1 := by unfold opened; rw [if_neg e]
    rw [v1, v2, v3]
    clear v1 v2 v3
    have hb : (o : Int) + 1 < 18446744073709551616 := by omega
    go_enter Try.func9, Try.ntmps9
    go_wp2
    go_ret2
    exact ⟨by simp, h.set1 (o + 1), grown_set _ _ _ _⟩
end Go.Proofs.Ytiefmblpapkehaa
