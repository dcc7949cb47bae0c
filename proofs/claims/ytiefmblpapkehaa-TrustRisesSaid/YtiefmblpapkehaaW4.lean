import Derived.Test.YtiefmblpapkehaaW3
namespace Go.Proofs.Ytiefmblpapkehaa
open Go.RowKit
set_option linter.unusedVariables false

theorem Nums.get {k : IntKind} {w : World} {b off : Nat} {l : List Nat} (h : Nums k w (some ⟨b, off, none⟩) l) (i : Nat) (hi : i < l.length) : w.cell? ⟨b, off + i, none⟩ = some (.int k (l[i] : Nat)) := by
  obtain ⟨b', off', e, hc⟩ := h i hi
  simp only [Option.some.injEq, Addr.mk.injEq, and_true] at e
  obtain ⟨rfl, rfl⟩ := e
  exact hc

set_option maxRecDepth 100000 in
set_option maxHeartbeats 2000000 in
theorem law_rises (a : Option Addr) (cap : Nat) (l : List Nat) (w : World) (hl : l.length ≤ maxLen) (hb : Nums .u64 w a l) (hw : ∀ n ∈ l, n < 18446744073709551616) :
    Calls Try.prog 4 #[.slice a l.length cap] w fun e w' => e = .returned (.bool true) ∧ Below w.heap.size w w' := by
  unfold maxLen at hl
  go_enter Try.func4, Try.ntmps4
  go_wp2_with fail
  refine (shown_any _).mono ?_
  rintro e w1 ⟨rfl, hw1⟩
  go_wp2_with fail
  refine (new_any _).mono ?_
  rintro e w2 ⟨rfl, t2, hw2⟩
  have hwa : Below w.heap.size w w2 := hw1.trans (hw2.mono hw1.size)
  have hbw := hw1.size
  generalize w1.heap.size = b at *
  clear hw1 hw2
  go_wp2_with fail
  go_loopw [17] (fun i wr => ∃ k m o : Nat, k ≤ l.length ∧ m ≤ k ∧ o ≤ k ∧ k ≤ 1000 ∧ i = .int .i64 k ∧ Two 41 wr b m o ∧ Below w.heap.size w wr) (fun i _ => l.length - (intOf i).toNat)
  case atStart => exact ⟨0, 0, 0, by omega, by omega, by omega, by omega, rfl, t2, hwa⟩
  case round =>
    obtain ⟨k, m, o, hk, hm, ho, hk1, rfl, tr, hwr⟩ := hrel
    by_cases hlt : k < l.length
    · by_cases h1 : k < 1000
      · obtain ⟨bb, off, rfl, hc⟩ := (hb.below hwr) k hlt
        have hn := hw l[k] (List.getElem_mem hlt)
        have hin : (k : Int) < (l.length : Int) := by omega
        have h1n : ¬ (1000 ≤ (k : Int)) := by omega
        have HG := Lib.hid (fun (w' : World) (h : Below w.heap.size w w') => (hb.below h).get k hlt)
        generalize l[k] = n at *
        by_cases he : k % 2 = 0
        · have hev : ((k : Int) % 2 == 0) = true := by simp; omega
          have o1 : opened o = o + 1 := opened_next o (by omega)
          have o2 : openV o = o + 1 := by unfold openV; rw [if_neg (by omega)]
          have o3 : openE o = 0 := by unfold openE; rw [if_neg (by omega)]
          clear he
          go_wp2_with fail
          refine (marks_any _ _ _ _ tr).mono ?_
          rintro e w' ⟨rfl, rfl⟩
          go_wp2_with fail
          refine (opens_any _ _ _ _ tr).mono ?_
          rintro e w' ⟨rfl, rfl⟩
          go_wp2_with fail
          refine (open_any _ _ _ _ tr (by omega)).mono ?_
          rintro e w3 ⟨rfl, t3, g3⟩
          rw [o1] at t3
          rw [o2, o3]
          clear o1 o2 o3
          go_wp2_with fail
          refine (opens_any _ _ _ _ t3).mono ?_
          rintro e w' ⟨rfl, rfl⟩
          go_wp2_with fail
          refine (marks_any _ _ _ _ t3).mono ?_
          rintro e w' ⟨rfl, rfl⟩
          go_wp2_with fail
          exact ⟨⟨k + 1, m, o + 1, by omega, by omega, by omega, by omega, by go_num, t3, below_own hwr g3 hbw⟩, by simp [intOf]; omega⟩
        · have hev : ((k : Int) % 2 == 0) = false := by simp; omega
          clear he
          by_cases hs : n = m + 1
          · have m1 : markE m n = 0 := by unfold markE; rw [if_pos hs]
            have m2 : marked m n = m + 1 := by unfold marked; rw [if_pos hs, hs]
            subst hs
            go_wp2_with fail
            refine (marks_any _ _ _ _ tr).mono ?_
            rintro e w' ⟨rfl, rfl⟩
            go_wp2_with fail
            refine (opens_any _ _ _ _ tr).mono ?_
            rintro e w' ⟨rfl, rfl⟩
            go_wp2_with fail
            refine (mark_at _ _ m o (m + 1) _ (by omega) tr hn (by omega)).mono ?_
            rintro e w3 ⟨rfl, t3, g3⟩
            rw [m2] at t3
            rw [m1]
            have hc3 : w3.cell? ⟨bb, off + k, none⟩ = some (.int .u64 (m + 1 : Nat)) := HG.out w3 (below_own hwr g3 hbw)
            clear m1 m2
            go_wp2_with fail
            refine (marks_any _ _ _ _ t3).mono ?_
            rintro e w' ⟨rfl, rfl⟩
            go_wp2_with fail
            refine (opens_any _ _ _ _ t3).mono ?_
            rintro e w' ⟨rfl, rfl⟩
            go_wp2_with fail
            exact ⟨⟨k + 1, m + 1, o, by omega, by omega, by omega, by omega, by go_num, t3, below_own hwr g3 hbw⟩, by simp [intOf]; omega⟩
          · have m1 : markE m n = 150 := by unfold markE; rw [if_neg hs]
            have m2 : marked m n = m := by unfold marked; rw [if_neg hs]
            have q1 : ((n : Int) == (m : Int) + 1) = false := by simp; omega
            have q2 : ((m : Int) == (m : Int) + 1) = false := by simp; omega
            go_wp2_with fail
            refine (marks_any _ _ _ _ tr).mono ?_
            rintro e w' ⟨rfl, rfl⟩
            go_wp2_with fail
            refine (opens_any _ _ _ _ tr).mono ?_
            rintro e w' ⟨rfl, rfl⟩
            go_wp2_with fail
            refine (mark_any _ _ _ _ _ tr hn (by omega)).mono ?_
            rintro e w3 ⟨rfl, t3, g3⟩
            rw [m2] at t3
            rw [m1]
            have hc3 : w3.cell? ⟨bb, off + k, none⟩ = some (.int .u64 (n : Nat)) := HG.out w3 (below_own hwr g3 hbw)
            clear m1 m2 hs
            go_wp2_with fail
            refine (marks_any _ _ _ _ t3).mono ?_
            rintro e w' ⟨rfl, rfl⟩
            go_wp2_with fail
            refine (marks_any _ _ _ _ t3).mono ?_
            rintro e w' ⟨rfl, rfl⟩
            go_wp2_with fail
            refine (opens_any _ _ _ _ t3).mono ?_
            rintro e w' ⟨rfl, rfl⟩
            go_wp2_with fail
            exact ⟨⟨k + 1, m, o, by omega, by omega, by omega, by omega, by go_num, t3, below_own hwr g3 hbw⟩, by simp [intOf]; omega⟩
      · have h1n : 1000 ≤ (k : Int) := by omega
        have hin : (k : Int) < (l.length : Int) := by omega
        go_wp2_with fail
        go_ret
        exact ⟨rfl, hwr⟩
    · obtain rfl : k = l.length := by omega
      go_wp2_with fail
      go_ret
      exact ⟨rfl, hwr⟩
end Go.Proofs.Ytiefmblpapkehaa
