import Derived.Test.YtiefmblpapkehaaW2
import Derived.Deep.RegionHeld3
namespace Go.Proofs.Ytiefmblpapkehaa
open Go.RowKit
set_option linter.unusedVariables false

set_option maxHeartbeats 400000 in
theorem law_nil (n : Int) (w : World) : Calls Try.prog 6 #[.int .u64 n] w fun e w' => e = .returned (.bool true) ∧ Below w.heap.size w w' := by
  go_enter Try.func6, Try.ntmps6
  go_wp2_with fail
  refine (nil_open _).mono ?_
  rintro e w' ⟨rfl, rfl⟩
  go_wp2_with fail
  refine (shown_any _).mono ?_
  rintro e w1 ⟨rfl, hw1⟩
  go_wp2_with fail
  refine (nil_marks _).mono ?_
  rintro e w' ⟨rfl, rfl⟩
  go_wp2_with fail
  refine (nil_opens _).mono ?_
  rintro e w' ⟨rfl, rfl⟩
  go_wp2_with fail
  refine (nil_mark _ _).mono ?_
  rintro e w' ⟨rfl, rfl⟩
  go_wp2_with fail
  refine (nil_copy _).mono ?_
  rintro e w' ⟨rfl, rfl⟩
  go_wp2_with fail
  go_ret
  exact ⟨rfl, hw1⟩

theorem marked_next (k n : Nat) (h : n = k + 1) : marked k n = k + 1 := by unfold marked; rw [if_pos h, h]
theorem opened_next (k : Nat) (h : k < 1000000) : opened k = k + 1 := by unfold opened; rw [if_neg (by omega)]

set_option maxHeartbeats 400000 in
theorem law_apart (m n : Nat) (w : World) (hm : m < 256) (hn : n < 256) : Calls Try.prog 5 #[.int .u8 m, .int .u8 n] w fun e w' => e = .returned (.bool true) ∧ Below w.heap.size w w' := by
  go_enter Try.func5, Try.ntmps5
  go_wp2_with fail
  refine (shown_any _).mono ?_
  rintro e w1 ⟨rfl, hw1⟩
  go_wp2_with fail
  refine (new_any _).mono ?_
  rintro e w2 ⟨rfl, t2, hw2⟩
  have hwa : Below w.heap.size w w2 := hw1.trans (hw2.mono hw1.size)
  have hbw := hw1.size
  generalize w1.heap.size = b at *
  clear hw1 hw2
  go_wp2_with fail
  go_loopw [14] (fun i wr => ∃ k : Nat, k ≤ m ∧ i = .int .u8 k ∧ Two 41 wr b k 0 ∧ Below w.heap.size w wr) (fun i _ => m - (intOf i).toNat)
  case atStart => exact ⟨0, by omega, rfl, t2, hwa⟩
  case round =>
    obtain ⟨k, hk, rfl, t3, hwr⟩ := hrel
    by_cases hlt : k < m
    · go_wp2_with fail
      refine (mark_at _ _ k 0 (k + 1) _ (by omega) t3 (by omega) (by omega)).mono ?_
      rintro e w4 ⟨rfl, t4, g4⟩
      rw [marked_next _ _ rfl] at t4
      go_wp2_with fail
      exact ⟨⟨k + 1, by omega, by go_num, t4, below_own hwr g4 hbw⟩, by simp [intOf]; omega⟩
    · obtain rfl : k = m := by omega
      go_wp2_with fail
      refine (copy_any _ _ _ _ t3).mono ?_
      rintro e w4 ⟨rfl, t4, hw4⟩
      have t3' := t3.below hw4
      have hlt3 := t3.lt
      have hwb : Below w.heap.size w w4 := hwr.trans (hw4.mono hwr.size)
      have hbc : w.heap.size ≤ wr.heap.size := hwr.size
      generalize wr.heap.size = c at *
      clear t3 hwr hw4 t2 hwa
      have hne : b ≠ c := by omega
      go_wp2_with fail
      go_loopw [28] (fun i wr => ∃ j : Nat, j ≤ n ∧ i = .int .u8 j ∧ Two 41 wr b k 0 ∧ Two 41 wr c (k + j) j ∧ Below w.heap.size w wr) (fun i _ => n - (intOf i).toNat)
      case atStart => exact ⟨0, by omega, rfl, t3', t4, hwb⟩
      case round =>
        obtain ⟨j, hj, rfl, tb, tc, hwr⟩ := hrel
        by_cases hlj : j < n
        · go_wp2_with fail
          refine (marks_any _ _ _ _ tc).mono ?_
          rintro e w' ⟨rfl, rfl⟩
          go_wp2_with fail
          refine (mark_at _ _ (k + j) j (k + (j + 1)) _ (by omega) tc (by omega) (by omega)).mono ?_
          rintro e w5 ⟨rfl, t5, g5⟩
          rw [marked_next _ _ (by omega)] at t5
          have tb5 := tb.kept g5 (by simp [hne])
          go_wp2_with fail
          refine (open_any _ _ _ _ t5 (by omega)).mono ?_
          rintro e w6 ⟨rfl, t6, g6⟩
          rw [opened_next _ (by omega)] at t6
          have tb6 := tb5.kept g6 (by simp [hne])
          go_wp2_with fail
          exact ⟨⟨j + 1, by omega, by go_num, tb6, t6, below_own (below_own hwr g5 hbc) g6 hbc⟩, by simp [intOf]; omega⟩
        · obtain rfl : j = n := by omega
          go_wp2_with fail
          refine (marks_any _ _ _ _ tb).mono ?_
          rintro e w' ⟨rfl, rfl⟩
          go_wp2_with fail
          refine (opens_any _ _ _ _ tb).mono ?_
          rintro e w' ⟨rfl, rfl⟩
          go_wp2_with fail
          refine (marks_any _ _ _ _ tc).mono ?_
          rintro e w' ⟨rfl, rfl⟩
          go_wp2_with fail
          refine (opens_any _ _ _ _ tc).mono ?_
          rintro e w' ⟨rfl, rfl⟩
          go_wp2_with fail
          go_ret
          exact ⟨ret_bool (by simp), hwr⟩
end Go.Proofs.Ytiefmblpapkehaa
