import Derived.Test.YtiefmblpapkehaaW1
namespace Go.Proofs.Ytiefmblpapkehaa
open Go.RowKit
set_option linter.unusedVariables false

set_option maxHeartbeats 400000 in
theorem ropen_any (b m o : Nat) (w : World) (h : Two 29 w b m o) (ho : o < 18446744073709551616) : Calls Try.prog 10 #[.pointer (some ⟨b, 0, none⟩)] w fun e w' =>
    e = .returned (.tuple #[.int .u64 (openV o : Nat), .int .i64 (openE o)]) ∧ Two 29 w' b m (opened o) ∧ w.grownBy w' (some b) := by
  have h0 := h.c0
  have h1 := h.c1
  have hf := h.f
  by_cases e : o = 18446744073709551615
  · have e1 : ((o : Int) == 18446744073709551615) = true := by simp; omega
    have v1 : openV o = 0 := by unfold openV; rw [if_pos e]
    have v2 : openE o = 4 := by unfold openE; rw [if_pos e]
    have v3 : opened o = o := by unfold opened; rw [if_pos e]
    rw [v1, v2, v3]
    clear e v1 v2 v3
    go_enter Try.func10, Try.ntmps10
    go_wp2
    go_ret2
    exact ⟨rfl, h, World.grownBy.refl _ _⟩
  · have e1 : ((o : Int) == 18446744073709551615) = false := by simp; omega
    have v1 : openV o = o + 1 := by unfold openV; rw [if_neg e]
    have v2 : openE o = 0 := by unfold openE; rw [if_neg e]
    have v3 : opened o = o + 1 := by unfold opened; rw [if_neg e]
    rw [v1, v2, v3]
    clear v1 v2 v3
    have hb : (o : Int) + 1 < 18446744073709551616 := by omega
    go_enter Try.func10, Try.ntmps10
    go_wp2
    go_ret2
    exact ⟨by simp, h.set1 (o + 1), grown_set _ _ _ _⟩

def markE (m n : Nat) : Int := if n = m + 1 then 0 else 150
def marked (m n : Nat) : Nat := if n = m + 1 then n else m

set_option maxHeartbeats 400000 in
theorem rmark_any (b m o n : Nat) (w : World) (h : Two 29 w b m o) (hn : n < 18446744073709551616) (hm : m < 18446744073709551616) : Calls Try.prog 12 #[.pointer (some ⟨b, 0, none⟩), .int .u64 n] w fun e w' =>
    e = .returned (.int .i64 (markE m n)) ∧ Two 29 w' b (marked m n) o ∧ w.grownBy w' (some b) := by
  have h0 := h.c0
  have h1 := h.c1
  have hf := h.f
  by_cases e : n = m + 1
  · have v1 : markE m n = 0 := by unfold markE; rw [if_pos e]
    have v2 : marked m n = n := by unfold marked; rw [if_pos e]
    rw [v1, v2]
    have e1 : ((n : Int) == 0) = false := by simp; omega
    have e2 : (((n : Int) - 1) != (m : Int)) = false := by simp; omega
    have e3 : 1 ≤ (n : Int) := by omega
    clear v1 v2 e
    go_enter Try.func12, Try.ntmps12
    go_wp2
    go_ret
    exact ⟨rfl, h.set0 n, grown_set _ _ _ _⟩
  · have v1 : markE m n = 150 := by unfold markE; rw [if_neg e]
    have v2 : marked m n = m := by unfold marked; rw [if_neg e]
    rw [v1, v2]
    by_cases z : n = 0
    · have e1 : ((n : Int) == 0) = true := by simp; omega
      clear v1 v2 e z
      go_enter Try.func12, Try.ntmps12
      go_wp2
      go_ret
      exact ⟨rfl, h, World.grownBy.refl _ _⟩
    · have e1 : ((n : Int) == 0) = false := by simp; omega
      have e2 : (((n : Int) - 1) != (m : Int)) = true := by simp; omega
      have e3 : 1 ≤ (n : Int) := by omega
      clear v1 v2 e z
      go_enter Try.func12, Try.ntmps12
      go_wp2
      go_ret
      exact ⟨rfl, h, World.grownBy.refl _ _⟩

set_option maxHeartbeats 400000 in
theorem mark_ok (b m o n : Nat) (w : World) (h : Two 41 w b m o) (hn : n < 18446744073709551616) (hm : m < 18446744073709551616) (e : n = m + 1) : Calls Try.prog 11 #[.pointer (some ⟨b, 0, none⟩), .int .u64 n] w fun e w' =>
    e = .returned (.int .i64 0) ∧ Two 41 w' b n o ∧ w.grownBy w' (some b) := by
  have h0 := h.c0
  have h1 := h.c1
  have hf := h.f
  have hlt := h.lt
  have e1 : ((n : Int) == 0) = false := by simp; omega
  have e2 : (((n : Int) - 1) != (m : Int)) = false := by simp; omega
  have e3 : 1 ≤ (n : Int) := by omega
  have e4 : ((n : Int) == (m : Int)) = false := by simp; omega
  clear e
  go_enter Try.func11, Try.ntmps11
  go_wp2
  go_quiet (fail)
  go_wp2
  go_ret
  have hb1 : Below w.heap.size w ((w.alloc (Obj.cells #[Value.int IntKind.u64 ↑n, Value.int IntKind.u64 ↑o] 39)).drewN nq) := below_drewN ((Below.refl _ _).alloc (Nat.le_refl _) _) nq
  have h2 := ((h.below hb1).set0 n).set1 o
  exact ⟨rfl, h2, grown_trans (grown_trans (grown_of_below hb1 _) (grown_set _ _ _ _)) (grown_set _ _ _ _)⟩

set_option maxHeartbeats 400000 in
theorem mark_zero (b m o n : Nat) (w : World) (h : Two 41 w b m o) (e : n = 0) : Calls Try.prog 11 #[.pointer (some ⟨b, 0, none⟩), .int .u64 n] w fun e w' =>
    e = .returned (.int .i64 150) ∧ Two 41 w' b m o ∧ w.grownBy w' (some b) := by
  have h0 := h.c0
  have h1 := h.c1
  have hf := h.f
  have hlt := h.lt
  have e1 : ((n : Int) == 0) = true := by simp; omega
  clear e
  go_enter Try.func11, Try.ntmps11
  go_wp2
  go_quiet (fail)
  go_wp2
  go_ret
  have hb1 : Below w.heap.size w ((w.alloc (Obj.cells #[Value.int IntKind.u64 ↑n, Value.int IntKind.u64 ↑o] 39)).drewN nq) := below_drewN ((Below.refl _ _).alloc (Nat.le_refl _) _) nq
  exact ⟨rfl, h.below hb1, grown_of_below hb1 _⟩

set_option maxHeartbeats 400000 in
theorem mark_same (b m o n : Nat) (w : World) (h : Two 41 w b m o) (e : n = m) (hz : n ≠ 0) : Calls Try.prog 11 #[.pointer (some ⟨b, 0, none⟩), .int .u64 n] w fun e w' =>
    e = .returned (.int .i64 150) ∧ Two 41 w' b m o ∧ w.grownBy w' (some b) := by
  subst e
  have h0 := h.c0
  have h1 := h.c1
  have hf := h.f
  have hlt := h.lt
  have e1 : ((n : Int) == 0) = false := by simp; omega
  clear hz
  go_enter Try.func11, Try.ntmps11
  go_wp2
  go_quiet (fail)
  go_wp2
  go_ret
  have hb1 : Below w.heap.size w ((w.alloc (Obj.cells #[Value.int IntKind.u64 ↑n, Value.int IntKind.u64 ↑o] 39)).drewN nq) := below_drewN ((Below.refl _ _).alloc (Nat.le_refl _) _) nq
  exact ⟨rfl, h.below hb1, grown_of_below hb1 _⟩

set_option maxHeartbeats 400000 in
theorem mark_else (b m o n : Nat) (w : World) (h : Two 41 w b m o) (hn : n < 18446744073709551616) (hm : m < 18446744073709551616) (e : n ≠ m) (hz : n ≠ 0) (hs : n ≠ m + 1) : Calls Try.prog 11 #[.pointer (some ⟨b, 0, none⟩), .int .u64 n] w fun e w' =>
    e = .returned (.int .i64 150) ∧ Two 41 w' b m o ∧ w.grownBy w' (some b) := by
  have h0 := h.c0
  have h1 := h.c1
  have hf := h.f
  have hlt := h.lt
  have e1 : ((n : Int) == 0) = false := by simp; omega
  have e2 : (((n : Int) - 1) != (m : Int)) = true := by simp; omega
  have e3 : 1 ≤ (n : Int) := by omega
  have e4 : ((n : Int) == (m : Int)) = false := by simp; omega
  clear e hz hs
  go_enter Try.func11, Try.ntmps11
  go_wp2
  go_quiet (fail)
  go_wp2
  go_ret
  have hb1 : Below w.heap.size w ((w.alloc (Obj.cells #[Value.int IntKind.u64 ↑n, Value.int IntKind.u64 ↑o] 39)).drewN nq) := below_drewN ((Below.refl _ _).alloc (Nat.le_refl _) _) nq
  exact ⟨rfl, h.below hb1, grown_of_below hb1 _⟩

theorem mark_any (b m o n : Nat) (w : World) (h : Two 41 w b m o) (hn : n < 18446744073709551616) (hm : m < 18446744073709551616) : Calls Try.prog 11 #[.pointer (some ⟨b, 0, none⟩), .int .u64 n] w fun e w' =>
    e = .returned (.int .i64 (markE m n)) ∧ Two 41 w' b (marked m n) o ∧ w.grownBy w' (some b) := by
  by_cases e : n = m + 1
  · have v1 : markE m n = 0 := by unfold markE; rw [if_pos e]
    have v2 : marked m n = n := by unfold marked; rw [if_pos e]
    rw [v1, v2]; exact mark_ok b m o n w h hn hm e
  · have v1 : markE m n = 150 := by unfold markE; rw [if_neg e]
    have v2 : marked m n = m := by unfold marked; rw [if_neg e]
    rw [v1, v2]
    by_cases z : n = 0
    · exact mark_zero b m o n w h z
    · by_cases s : n = m
      · exact mark_same b m o n w h s z
      · exact mark_else b m o n w h hn hm s z e

theorem mark_at (v : Int) (b m o n : Nat) (w : World) (hv : v = n) (h : Two 41 w b m o) (hn : n < 18446744073709551616) (hm : m < 18446744073709551616) : Calls Try.prog 11 #[.pointer (some ⟨b, 0, none⟩), .int .u64 v] w fun e w' =>
    e = .returned (.int .i64 (markE m n)) ∧ Two 41 w' b (marked m n) o ∧ w.grownBy w' (some b) := by
  subst hv; exact mark_any b m o n w h hn hm

/-! The nil counters. -/
set_option maxHeartbeats 400000 in
theorem nil_open (w : World) : Calls Try.prog 9 #[.pointer none] w fun e w' => e = .returned (.tuple #[.int .u64 0, .int .i64 2]) ∧ w = w' := by
  go_enter Try.func9, Try.ntmps9
  go_wp2
  go_ret2
  exact ⟨rfl, rfl⟩
set_option maxHeartbeats 400000 in
theorem nil_mark (n : Int) (w : World) : Calls Try.prog 11 #[.pointer none, .int .u64 n] w fun e w' => e = .returned (.int .i64 2) ∧ w = w' := by
  go_enter Try.func11, Try.ntmps11
  go_wp2
  go_ret
  exact ⟨rfl, rfl⟩
set_option maxHeartbeats 400000 in
theorem nil_marks (w : World) : Calls Try.prog 13 #[.pointer none] w fun e w' => e = .returned (.int .u64 0) ∧ w = w' := by
  go_enter Try.func13, Try.ntmps13
  go_wp2
  go_ret
  exact ⟨rfl, rfl⟩
set_option maxHeartbeats 400000 in
theorem nil_opens (w : World) : Calls Try.prog 14 #[.pointer none] w fun e w' => e = .returned (.int .u64 0) ∧ w = w' := by
  go_enter Try.func14, Try.ntmps14
  go_wp2
  go_ret
  exact ⟨rfl, rfl⟩
set_option maxHeartbeats 400000 in
theorem nil_copy (w : World) : Calls Try.prog 15 #[.pointer none] w fun e w' => e = .returned (.pointer none) ∧ w = w' := by
  go_enter Try.func15, Try.ntmps15
  go_wp2
  go_ret
  exact ⟨rfl, rfl⟩

set_option maxHeartbeats 400000 in
theorem shown_any (w : World) : Calls Try.prog 7 #[] w fun e w' => e = .returned (.bool true) ∧ Below w.heap.size w w' := by
  go_enter Try.func7, Try.ntmps7
  go_wp2_with fail
  refine (new_any _).mono ?_
  rintro e w1 ⟨rfl, t1, b1⟩
  go_wp2_with fail
  refine (mark_at _ _ 0 0 2 _ rfl t1 (by omega) (by omega)).mono ?_
  rintro e w2 ⟨rfl, t2, g2⟩
  go_wp2_with fail
  refine (mark_at _ _ 0 0 1 _ rfl t2 (by omega) (by omega)).mono ?_
  rintro e w3 ⟨rfl, t3, g3⟩
  go_wp2_with fail
  refine (mark_at _ _ 1 0 1 _ rfl t3 (by omega) (by omega)).mono ?_
  rintro e w4 ⟨rfl, t4, g4⟩
  go_wp2_with fail
  refine (open_any _ _ 0 _ t4 (by omega)).mono ?_
  rintro e w5 ⟨rfl, t5, g5⟩
  go_wp2_with fail
  refine (open_any _ _ 1 _ t5 (by omega)).mono ?_
  rintro e w6 ⟨rfl, t6, g6⟩
  have x1 : markE 0 2 = 150 := by decide
  have x2 : markE 0 1 = 0 := by decide
  have x3 : markE 1 1 = 150 := by decide
  have x4 : openV 0 = 1 := by decide
  have x5 : openV 1 = 2 := by decide
  have x6 : openE 0 = 0 := by decide
  have x7 : openE 1 = 0 := by decide
  go_wp2_with fail
  go_ret
  exact ⟨rfl, below_own (below_own (below_own (below_own (below_own b1 g2 (Nat.le_refl _)) g3 (Nat.le_refl _)) g4 (Nat.le_refl _)) g5 (Nat.le_refl _)) g6 (Nat.le_refl _)⟩
end Go.Proofs.Ytiefmblpapkehaa
