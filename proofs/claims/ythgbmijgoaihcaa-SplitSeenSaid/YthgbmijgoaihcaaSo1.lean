/-
  The sort of numbers of 64 bits: rows in memory; insertion sort.
-/
import Derived.Test.YthgbmijgoaihcaaMg9
import Derived.Sort.Row
import Derived.Sort.LotA
import Derived.CellFam
import Derived.BigCall
import Derived.BigGuard
import Derived.Deep.Draws
import Derived.RegionTactic
import Derived.ChangeAlike
namespace Go.Proofs.Ythgbmijgoaihcaa
open Go.RowKit Go.Sort
set_option linter.unusedVariables false

/-- less, at numbers. -/
def ltN (x y : Nat) : Bool := decide (x < y)
theorem swo_ltN : SWO ltN where
  irrefl x := by simp [ltN]
  trans x y z h1 h2 := by simp [ltN] at *; omega
  ntrans x y z h1 h2 := by simp [ltN] at *; omega

/-- Block g holds d from off on; it has S cells. -/
def RowU (w : World) (g off S : Nat) (d : Array Nat) : Prop :=
  ∃ cur, w.heap[g]? = some (.cells cur 31 (0, 0)) ∧ cur.size = S ∧ off + d.size ≤ S ∧ ∀ i, i < d.size → cur[off + i]? = some (.int .u64 (d[i]! : Nat))
/-- What lies outside block g is as it was. -/
structure But (g : Nat) (w w' : World) : Prop where
  os : w'.os = w.os
  tape : w'.tape = w.tape
  output : w'.output = w.output
  size : w.heap.size ≤ w'.heap.size
  block : ∀ k, k < w.heap.size → k ≠ g → w'.heap[k]? = w.heap[k]?
theorem But.refl (g : Nat) (w : World) : But g w w := ⟨rfl, rfl, rfl, Nat.le_refl _, fun _ _ _ => rfl⟩
theorem But.trans {g : Nat} {a b c : World} (h : But g a b) (k : But g b c) : But g a c :=
  ⟨k.os.trans h.os, k.tape.trans h.tape, k.output.trans h.output, Nat.le_trans h.size k.size, fun i h1 h2 => (k.block i (Nat.lt_of_lt_of_le h1 h.size) h2).trans (h.block i h1 h2)⟩
theorem But.drewN {g : Nat} {a w : World} (h : But g a w) (n : Nat) : But g a (w.drewN n) := ⟨h.os, h.tape, h.output, h.size, h.block⟩
theorem But.drew {g : Nat} {a w : World} (h : But g a w) : But g a w.drew := ⟨h.os, h.tape, h.output, h.size, h.block⟩
theorem But.alloc {g : Nat} {a w : World} (h : But g a w) (o : Obj) : But g a (w.alloc o) :=
  ⟨h.os, h.tape, h.output, Nat.le_trans h.size (by simp), fun k h1 h2 => (Below.heap_alloc _ _ _ (Nat.lt_of_lt_of_le h1 h.size)).trans (h.block k h1 h2)⟩
theorem But.setCell {g : Nat} {a w : World} (h : But g a w) (o : Nat) (v : Value) : But g a (w.setCell ⟨g, o, none⟩ v) :=
  ⟨h.os, h.tape, h.output, by simpa using h.size, fun k h1 h2 => (Below.heap_setCell _ _ _ _ h2).trans (h.block k h1 h2)⟩
theorem But.below {g B : Nat} {w w' : World} (h : But g w w') (hB : B ≤ g) (hg : g < w.heap.size) : Below B w w' :=
  ⟨h.os, h.tape, h.output, h.size, fun k hk => h.block k (by omega) (by omega)⟩
theorem RowU.lt {w : World} {g off S : Nat} {d : Array Nat} (h : RowU w g off S d) : g < w.heap.size := by
  obtain ⟨cur, h1, _⟩ := h
  exact heap_lt h1
theorem RowU.cell {w : World} {g off S : Nat} {d : Array Nat} (h : RowU w g off S d) (i : Nat) (hi : i < d.size) : w.cell? ⟨g, off + i, none⟩ = some (.int .u64 (d[i]! : Nat)) := by
  obtain ⟨cur, h1, _, _, h2⟩ := h
  simp only [World.cell?, h1]
  exact h2 i hi
theorem RowU.free {w : World} {g off S : Nat} {d : Array Nat} (h : RowU w g off S d) (o : Nat) : w.frozen? ⟨g, o, none⟩ = false := by
  obtain ⟨cur, h1, _⟩ := h
  simp [World.frozen?, h1]
theorem RowU.drewN {w : World} {g off S : Nat} {d : Array Nat} (h : RowU w g off S d) (n : Nat) : RowU (w.drewN n) g off S d := h
theorem RowU.drew {w : World} {g off S : Nat} {d : Array Nat} (h : RowU w g off S d) : RowU w.drew g off S d := h
theorem RowU.alloc {w : World} {g off S : Nat} {d : Array Nat} (h : RowU w g off S d) (o : Obj) : RowU (w.alloc o) g off S d := by
  obtain ⟨cur, h1, h2⟩ := h
  exact ⟨cur, heap_keep h1, h2⟩
theorem RowU.other {w : World} {g off S : Nat} {d : Array Nat} (h : RowU w g off S d) {a : Addr} (ha : g ≠ a.block) (v : Value) : RowU (w.setCell a v) g off S d := by
  obtain ⟨cur, h1, h2⟩ := h
  exact ⟨cur, (Below.heap_setCell _ _ _ _ ha).trans h1, h2⟩
theorem heap_set {w : World} {g o : Nat} {cur : Array Value} {t : TypeId} {fr : Nat × Nat} (h : w.heap[g]? = some (.cells cur t fr)) (v : Value) : (w.setCell ⟨g, o, none⟩ v).heap[g]? = some (.cells (cur.setIfInBounds o v) t fr) := by
  simp [World.setCell, Array.getElem?_modify, h]
theorem RowU.set {w : World} {g off S : Nat} {d : Array Nat} (h : RowU w g off S d) (j x : Nat) (hj : j < d.size) : RowU (w.setCell ⟨g, off + j, none⟩ (.int .u64 (x : Nat))) g off S (d.setIfInBounds j x) := by
  obtain ⟨cur, h1, h2, h3, h4⟩ := h
  refine ⟨_, heap_set h1 _, by simpa using h2, by simpa using h3, fun i hi => ?_⟩
  rw [Array.size_setIfInBounds] at hi
  by_cases e : i = j
  · subst e
    rw [getElem!_set_same _ _ _ hj, Array.getElem?_setIfInBounds]
    rw [if_pos rfl, if_pos (by omega)]
  · rw [getElem!_set_other _ _ _ _ e, Array.getElem?_setIfInBounds, if_neg (by omega)]
    exact h4 i hi
theorem RowU.swap {w : World} {g off S : Nat} {d : Array Nat} (h : RowU w g off S d) (j k : Nat) (hj : j < d.size) (hk : k < d.size) {x y : Nat} (hx : x = d[k]!) (hy : y = d[j]!) :
    RowU ((w.setCell ⟨g, off + j, none⟩ (.int .u64 (x : Nat))).setCell ⟨g, off + k, none⟩ (.int .u64 (y : Nat))) g off S (swp d j k) := by
  subst hx hy
  unfold swp
  exact (h.set j _ hj).set k _ (by simpa using hk)

theorem less_same (x y : Int) (w : World) : Calls Try.prog 58 #[.int .u64 x, .int .u64 y] w fun e w' => e = .returned (.bool (decide (x < y))) ∧ w' = w :=
  (less_any x y w).mono fun _ _ ⟨h1, h2⟩ => ⟨h1, h2.symm⟩

section
variable {α : Type} [Inhabited α] (lt : α → α → Bool)
theorem ins_go (a j : Nat) (d : Array α) (h : lt d[j + 1]! d[j]! = true) (hj : a < j + 1) : insInner lt a (j + 1) d = insInner lt a j (swp d (j + 1) j) := by
  conv => lhs; rw [insInner]
  simp [h, hj]
theorem ins_stop (a j : Nat) (d : Array α) (h : j ≤ a ∨ ∃ i, j = i + 1 ∧ lt d[i + 1]! d[i]! = false) : insInner lt a j d = d := by
  rcases h with h | ⟨i, rfl, h⟩
  · cases j with
    | zero => rw [insInner]
    | succ j => rw [insInner]; simp [show ¬ j + 1 > a by omega]
  · rw [insInner]; simp [h]
theorem out_go (a b i : Nat) (d : Array α) (h : i < b) : insOuter lt a b i d = insOuter lt a b (i + 1) (insInner lt a i d) := by rw [insOuter, if_pos h]
theorem out_stop (a b i : Nat) (d : Array α) (h : ¬ i < b) : insOuter lt a b i d = d := by rw [insOuter, if_neg h]
end

set_option maxRecDepth 100000 in
set_option maxHeartbeats 3200000 in
theorem ins_any (g off S cap n a b : Nat) (d : Array Nat) (hn : d.size = n) (w : World) (hR : RowU w g off S d) (hab : a ≤ b) (hb : b ≤ n) (hsz : n ≤ 17592186044400) :
    Calls Try.prog 65 #[.slice (some ⟨g, off, none⟩) n cap, .int .i64 a, .int .i64 b] w fun e w' => e = .returned (.tuple #[]) ∧ RowU w' g off S (insertionSort ltN d a b) ∧ But g w w' := by
  have HN := Lib.hid hn
  have HR := Lib.hid hR
  clear hn hR
  go_enter Try.func65, Try.ntmps65
  go_wp2
  go_loopw [6] (fun vi wr => ∃ (i : Nat) (dk : Array Nat), vi = .int .i64 i ∧ a < i ∧ i ≤ b + 1 ∧ Hid (dk.size = n ∧ RowU wr g off S dk ∧ But g w wr ∧ insOuter ltN a b i dk = insOuter ltN a b (a + 1) d)) (fun vi _ => b + 1 - (intOf vi).toNat)
  case atStart => exact ⟨a + 1, d, by go_num, by omega, by omega, Lib.hid ⟨HN.out, HR.out, But.refl _ _, rfl⟩⟩
  case round =>
    obtain ⟨i, dk, rfl, hai, hib, HO⟩ := hrel
    by_cases hlt : i < b
    · have hin : (i : Int) < (b : Int) := by omega
      go_wp2
      go_loopw [7] (fun vj wz => ∃ (j : Nat) (dj : Array Nat), vj = .int .i64 j ∧ a ≤ j ∧ j ≤ i ∧ Hid (dj.size = n ∧ RowU wz g off S dj ∧ But g w wz ∧ insInner ltN a j dj = insInner ltN a i dk)) (fun vj _ => (intOf vj).toNat)
      case atStart => exact ⟨i, dk, rfl, by omega, Nat.le_refl _, Lib.hid ⟨HO.out.1, HO.out.2.1, HO.out.2.2.1, rfl⟩⟩
      case round =>
        obtain ⟨j, dj, rfl, haj, hji, HI⟩ := hrel
        by_cases hja : a < j
        · obtain ⟨q, rfl⟩ : ∃ q, j = q + 1 := ⟨j - 1, by omega⟩
          have c1 := HI.out.2.1.cell (q + 1) (by rw [HI.out.1]; omega)
          have c0 := HI.out.2.1.cell q (by rw [HI.out.1]; omega)
          have f1 := HI.out.2.1.free (off + (q + 1))
          have f0 := HI.out.2.1.free (off + q)
          have hj1 : (a : Int) < (q : Int) + 1 := by omega
          have hd1 : decide ((a : Int) < (q : Int) + 1) = true := decide_eq_true hj1
          have hj2 : (q : Int) + 1 < (n : Int) := by omega
          have hj3 : (0 : Int) ≤ (q : Int) + 1 := by omega
          have hj4 : (q : Int) < (n : Int) := by omega
          have hj5 : (0 : Int) ≤ (q : Int) := by omega
          have hqw : IntKind.i64.wrap (q : Int) = (q : Int) := IntWalk.i64_in _ (by omega)
          obtain ⟨x, hx⟩ : ∃ x, dj[q + 1]! = x := ⟨_, rfl⟩
          obtain ⟨y, hy⟩ : ∃ y, dj[q]! = y := ⟨_, rfl⟩
          rw [hx] at c1
          rw [hy] at c0
          have HX := Lib.hid hx
          have HY := Lib.hid hy
          clear hx hy
          cases hl : decide (x < y) with
          | true =>
            have hl2 : decide ((x : Int) < (y : Int)) = true := by simpa using hl
            have HL : Hid (ltN dj[q + 1]! dj[q]! = true) := Lib.hid (by rw [HX.out, HY.out]; exact hl)
            go_wp2
            go_quiet (first | (go_at_call 58; exact Calls.quiet_of_same (less_same _ _ _)))
            go_wp2
            go_region
            all_goals go_wp2
            refine ⟨⟨q, swp dj (q + 1) q, rfl, by omega, by omega, Lib.hid ⟨by rw [size_swp]; exact HI.out.1, (HI.out.2.1.drewN _).swap (q + 1) q (by rw [HI.out.1]; omega) (by rw [HI.out.1]; omega) HY.out.symm HX.out.symm, ((HI.out.2.2.1.drewN _).setCell _ _).setCell _ _, by rw [← HI.out.2.2.2, ins_go ltN a q dj HL.out (by omega)]⟩⟩, by simp [intOf]⟩
          | false =>
            have hl2 : decide ((x : Int) < (y : Int)) = false := by simpa using hl
            have HS : Hid (insInner ltN a (q + 1) dj = dj) := Lib.hid (ins_stop ltN a (q + 1) dj (Or.inr ⟨q, rfl, by rw [HX.out, HY.out]; exact hl⟩))
            go_wp2
            go_quiet (first | (go_at_call 58; exact Calls.quiet_of_same (less_same _ _ _)))
            go_wp2
            refine ⟨⟨i + 1, dj, by go_num, by omega, by omega, Lib.hid ⟨HI.out.1, HI.out.2.1.drewN _, HI.out.2.2.1.drewN _, by rw [← HO.out.2.2.2, out_go ltN a b i dk hlt, ← HI.out.2.2.2, HS.out]⟩⟩, by simp [intOf]; omega⟩
        · obtain rfl : j = a := by omega
          have hd1 : decide ((j : Int) < (j : Int)) = false := by simp
          have HS : Hid (insInner ltN j j dj = dj) := Lib.hid (ins_stop ltN j j dj (Or.inl (Nat.le_refl _)))
          go_wp2
          go_quiet (fail)
          go_wp2
          refine ⟨⟨i + 1, dj, by go_num, by omega, by omega, Lib.hid ⟨HI.out.1, HI.out.2.1.drewN _, HI.out.2.2.1.drewN _, by rw [← HO.out.2.2.2, out_go ltN j b i dk hlt, ← HI.out.2.2.2, HS.out]⟩⟩, by simp [intOf]; omega⟩
    · have hin : ¬ (i : Int) < (b : Int) := by omega
      go_wp2
      go_end0
      exact ⟨rfl, by unfold insertionSort; rw [← HO.out.2.2.2, out_stop _ _ _ _ _ hlt]; exact HO.out.2.1, HO.out.2.2.1⟩
end Go.Proofs.Ythgbmijgoaihcaa
