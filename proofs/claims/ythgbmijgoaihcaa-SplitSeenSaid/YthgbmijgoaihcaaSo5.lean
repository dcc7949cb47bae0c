/-
  The sort of numbers of 64 bits: partial insertion sort.
-/
import Derived.Test.YthgbmijgoaihcaaSo4
namespace Go.Proofs.Ythgbmijgoaihcaa
open Go.RowKit Go.Sort
set_option linter.unusedVariables false

section
variable {α : Type} [Inhabited α] (lt : α → α → Bool)
theorem ss_go (b i : Nat) (d : Array α) (h : i < b) (hl : lt d[i]! d[i - 1]! = false) : scanSorted lt d b i = scanSorted lt d b (i + 1) := by
  conv => lhs; rw [scanSorted]
  simp [h, hl]
theorem ss_stop (b i : Nat) (d : Array α) (h : ¬ i < b ∨ lt d[i]! d[i - 1]! = true) : scanSorted lt d b i = i := by
  rw [scanSorted]
  rcases h with h | h <;> simp [h]
theorem shd_go (j : Nat) (d : Array α) (h : lt d[j + 1]! d[j]! = true) : shiftDown lt (j + 1) d = shiftDown lt j (swp d (j + 1) j) := by
  conv => lhs; rw [shiftDown]
  simp [h]
theorem shd_stop (j : Nat) (d : Array α) (h : lt d[j + 1]! d[j]! = false) : shiftDown lt (j + 1) d = d := by
  rw [shiftDown]; simp [h]
theorem shu_go (b j : Nat) (d : Array α) (hj : j + 1 < b) (h : lt d[j + 1]! d[j]! = true) : shiftUp lt b (j + 1) d = shiftUp lt b (j + 2) (swp d (j + 1) j) := by
  conv => lhs; rw [shiftUp]
  simp [h, hj]
theorem shu_stop (b j : Nat) (d : Array α) (h : lt d[j + 1]! d[j]! = false) : shiftUp lt b (j + 1) d = d := by
  rw [shiftUp]; simp [h]
theorem shu_end (b j : Nat) (d : Array α) (h : ¬ j < b) : shiftUp lt b j d = d := by
  rw [shiftUp]; simp [h]
end

set_option maxRecDepth 100000 in
set_option maxHeartbeats 6400000 in
theorem pis_any (g off S cap n a b : Nat) (d : Array Nat) (hn : d.size = n) (w : World) (hR : RowU w g off S d) (hab : a < b) (hb : b ≤ n) (hsz : n ≤ 17592186044400) :
    Calls Try.prog 70 #[.slice (some ⟨g, off, none⟩) n cap, .int .i64 a, .int .i64 b] w fun e w' => e = .returned (.bool (partialInsertionSort ltN d a b).2) ∧ RowU w' g off S (partialInsertionSort ltN d a b).1 ∧ But g w w' := by
  have HS0 : Hid (SU g off S n w d w) := Lib.hid ⟨hn, hR, But.refl _ _⟩
  obtain ⟨res, HRES⟩ : ∃ res, Hid (partialInsertionSort ltN d a b = res) := ⟨_, Lib.hid rfl⟩
  have HPT : Hid (partialIns ltN a b 5 (a + 1) d = res) := HRES
  rw [HRES.out]
  obtain ⟨ba, e_ba, H_ba⟩ : ∃ ba : Nat, (b : Int) - (a : Int) = (ba : Int) ∧ Hid (b - a = ba) := ⟨b - a, by omega, Lib.hid rfl⟩
  clear hn hR
  go_enter Try.func70, Try.ntmps70
  go_wp2
  go_loopw [7, 8] (fun vi vj wr => ∃ (i t s : Nat) (dk : Array Nat), vi = .int .i64 i ∧ vj = .int .i64 t ∧ a < i ∧ i ≤ b ∧ t + s = 5 ∧ Hid (SU g off S n w dk wr ∧ partialIns ltN a b s i dk = res)) (fun _ vj _ => 5 - (intOf vj).toNat)
  case atStart => exact ⟨a + 1, 0, 5, d, by go_num, by go_num, by omega, by omega, rfl, Lib.hid ⟨HS0.out, HPT.out⟩⟩
  case round =>
    obtain ⟨i, t, s, dk, rfl, rfl, hai, hib, hts, HL⟩ := hrel
    by_cases ht : t < 5
    · have htI : (t : Int) < 5 := by omega
      obtain ⟨s, rfl⟩ : ∃ s', s = s' + 1 := ⟨s - 1, by omega⟩
      have HL1 : Hid (SU g off S n w dk wr) := Lib.hid HL.out.1
      have HPE := Lib.hid (HL.out.2.symm.trans (partialIns_succ a b s i dk))
      obtain ⟨i2, H_i2⟩ : ∃ i2, Hid (scanSorted ltN dk b i = i2) := ⟨_, Lib.hid rfl⟩
      rw [H_i2.out] at HPE
      clear HL
      go_upto_block 2 with (fail)
      go_cut [7] (fun s wx => s = .int .i64 (i2 : Nat) ∧ i ≤ i2 ∧ i2 ≤ b ∧ Hid (SU g off S n w dk wx))
      case first =>
        go_wp2
        go_loopw [7] (fun vi wz => ∃ k : Nat, vi = .int .i64 k ∧ i ≤ k ∧ k ≤ b ∧ Hid (SU g off S n w dk wz ∧ scanSorted ltN dk b k = i2)) (fun vi _ => b - (intOf vi).toNat)
        case atStart => exact ⟨i, rfl, Nat.le_refl _, by omega, Lib.hid ⟨HL1.out, H_i2.out⟩⟩
        case round =>
          obtain ⟨k, rfl, hk1, hk2, HK⟩ := hrel
          obtain ⟨m, rfl⟩ : ∃ m, k = m + 1 := ⟨k - 1, by omega⟩
          by_cases hkb : m + 1 < b
          · have r1 := HK.out.1.row.cell (m + 1) (by rw [HK.out.1.sz]; omega)
            have r2 := HK.out.1.row.cell m (by rw [HK.out.1.sz]; omega)
            have t3 : (0 : Int) ≤ (m : Int) + 1 := by omega
            have t4 : (m : Int) + 1 < (n : Int) := by omega
            have t5 : (0 : Int) ≤ (m : Int) := by omega
            have t6 : (m : Int) < (n : Int) := by omega
            have tw : IntKind.i64.wrap (m : Int) = (m : Int) := IntWalk.i64_in _ (by omega)
            obtain ⟨x, hx⟩ : ∃ x, (dk)[m + 1]! = x := ⟨_, rfl⟩
            obtain ⟨y, hy⟩ : ∃ y, (dk)[m]! = y := ⟨_, rfl⟩
            rw [hx] at r1
            rw [hy] at r2
            have HX := Lib.hid hx
            have HY := Lib.hid hy
            clear hx hy
            have t1 : decide ((m : Int) + 1 < (b : Int)) = true := by simp; omega
            have t1b : (m : Int) + 1 < (b : Int) := by omega
            cases hl : decide (x < y) with
            | false =>
              have hl2 : decide ((x : Int) < (y : Int)) = false := by simpa using hl
              have HN : Hid (scanSorted ltN dk b (m + 1 + 1) = i2) := Lib.hid (by rw [← HK.out.2]; exact (ss_go ltN b (m + 1) dk hkb (by rw [Nat.add_sub_cancel, HX.out, HY.out]; exact hl)).symm)
              go_wp2
              go_quiet (first | (go_at_call 58; exact Calls.quiet_of_same (less_same _ _ _)))
              go_wp2
              exact ⟨⟨m + 1 + 1, by go_num, by omega, by omega, Lib.hid ⟨HK.out.1.drewN _, HN.out⟩⟩, by simp [intOf] <;> omega⟩
            | true =>
              have hl2 : decide ((x : Int) < (y : Int)) = true := by simpa using hl
              have HN : Hid (m + 1 = i2) := Lib.hid (by rw [← HK.out.2]; exact (ss_stop ltN b (m + 1) dk (Or.inr (by rw [Nat.add_sub_cancel, HX.out, HY.out]; exact hl))).symm)
              go_wp2
              go_quiet (first | (go_at_call 58; exact Calls.quiet_of_same (less_same _ _ _)))
              go_wp2
              go_meet
              case rel => (have := HN.out; subst this; exact ⟨by go_num, by omega, by omega, Lib.hid (HK.out.1.drewN _)⟩)
          · have t1 : decide ((m : Int) + 1 < (b : Int)) = false := by simp; omega
            have HN : Hid (m + 1 = i2) := Lib.hid (by rw [← HK.out.2]; exact (ss_stop ltN b (m + 1) dk (Or.inl hkb)).symm)
            go_wp2
            go_quiet (fail)
            go_wp2
            go_meet
            case rel => (have := HN.out; subst this; exact ⟨by go_num, by omega, by omega, Lib.hid (HK.out.1.drewN _)⟩)
      case rest =>
        obtain ⟨rfl, h_i21, h_i22, HS2⟩ := hcut
        clear HL1
        by_cases hib2 : i2 = b
        · have z1 : ((i2 : Int) == (b : Int)) = true := by simp; omega
          rw [if_pos hib2] at HPE
          clear hib2
          go_wp2
          go_ret
          exact ⟨ret_bool (by rw [HPE.out]), by rw [HPE.out]; exact HS2.out.row, HS2.out.but⟩
        · have z1 : ((i2 : Int) == (b : Int)) = false := by simp; omega
          rw [if_neg hib2] at HPE
          by_cases h50 : ba < 50
          · have z2 : (ba : Int) < 50 := by omega
            rw [if_pos (by have := H_ba.out; omega)] at HPE
            go_wp2
            go_ret
            exact ⟨ret_bool (by rw [HPE.out]), by rw [HPE.out]; exact HS2.out.row, HS2.out.but⟩
          · have z2 : ¬ (ba : Int) < 50 := by omega
            rw [if_neg (by have := H_ba.out; omega)] at HPE
            obtain ⟨q, rfl⟩ : ∃ q, i2 = q + 1 := ⟨i2 - 1, by omega⟩
            rw [Nat.add_sub_cancel] at HPE
            go_upto_region 11 with (fail)
            go_cut [] (fun wx => Hid (SU g off S n w (swp (dk) (q + 1) q) wx))
            case first =>
              have r1 := HS2.out.row.cell (q + 1) (by rw [HS2.out.sz]; omega)
              have r2 := HS2.out.row.cell q (by rw [HS2.out.sz]; omega)
              have f1 := HS2.out.row.free (off + (q + 1))
              have f2 := HS2.out.row.free (off + q)
              have t3 : (0 : Int) ≤ ((q : Int) + 1) := by omega
              have t4 : ((q : Int) + 1) < (n : Int) := by omega
              have t5 : (0 : Int) ≤ (q : Int) := by omega
              have t6 : (q : Int) < (n : Int) := by omega
              obtain ⟨x, hx⟩ : ∃ x, (dk)[(q + 1)]! = x := ⟨_, rfl⟩
              obtain ⟨y, hy⟩ : ∃ y, (dk)[q]! = y := ⟨_, rfl⟩
              rw [hx] at r1
              rw [hy] at r2
              obtain ⟨v3, hv3⟩ : ∃ v3, (wc.setCell ⟨g, off + (q + 1), none⟩ (.int .u64 (y : Nat))).cell? ⟨g, off + q, none⟩ = some v3 := ⟨_, (HS2.out.row.set (q + 1) y (by rw [HS2.out.sz]; omega)).cell q (by rw [Array.size_setIfInBounds, HS2.out.sz]; omega)⟩
              have HX := Lib.hid hx
              have HY := Lib.hid hy
              clear hx hy
              go_region
              all_goals
                go_wp2
                go_meet
                case rel => exact Lib.hid (HS2.out.swap (q + 1) q (by omega) (by omega) HY.out.symm HX.out.symm)
            case rest =>
              have HS3 := hcut
              obtain ⟨d2, HD2⟩ : ∃ d2, Hid (swp dk (q + 1) q = d2) := ⟨_, Lib.hid rfl⟩
              rw [HD2.out] at HS3 HPE
              clear HS2
              obtain ⟨d3, HD3⟩ : ∃ d3, Hid (fixDown ltN a (q + 1) d2 = d3) := ⟨_, Lib.hid rfl⟩
              obtain ⟨d4, HD4⟩ : ∃ d4, Hid (fixUp ltN b (q + 1) d3 = d4) := ⟨_, Lib.hid rfl⟩
              rw [HD3.out, HD4.out] at HPE
              go_upto_if 61 with (fail)
              go_cut [] (fun wx => Hid (SU g off S n w d3 wx))
              case first =>
                by_cases h2 : (q + 1) - a ≥ 2
                · have z3 : (2 : Int) ≤ (q : Int) + 1 - (a : Int) := by omega
                  have HF : Hid (shiftDown ltN q d2 = d3) := Lib.hid (by have := HD3.out; unfold fixDown at this; rw [if_pos h2, Nat.add_sub_cancel] at this; exact this)
                  go_wp2
                  go_loopw [9] (fun vj wz => ∃ (j : Nat) (dj : Array Nat), vj = .int .i64 j ∧ j ≤ q ∧ Hid (SU g off S n w dj wz ∧ shiftDown ltN j dj = d3)) (fun vj _ => (intOf vj).toNat)
                  case atStart => exact ⟨q, d2, by go_num, Nat.le_refl _, Lib.hid ⟨HS3.out, HF.out⟩⟩
                  case round =>
                    obtain ⟨j, dj, rfl, hjq, HK⟩ := hrel
                    by_cases hj0 : j = 0
                    · subst hj0
                      have HE : Hid (dj = d3) := Lib.hid (by have := HK.out.2; rw [shiftDown] at this; exact this)
                      go_wp2
                      go_meet
                      case rel => (rw [← HE.out]; exact Lib.hid HK.out.1)
                    · obtain ⟨m, rfl⟩ : ∃ m, j = m + 1 := ⟨j - 1, by omega⟩
                      have t1 : (1 : Int) ≤ (m : Int) + 1 := by omega
                      have r1 := HK.out.1.row.cell (m + 1) (by rw [HK.out.1.sz]; omega)
                      have r2 := HK.out.1.row.cell m (by rw [HK.out.1.sz]; omega)
                      have t3 : (0 : Int) ≤ (m : Int) + 1 := by omega
                      have t4 : (m : Int) + 1 < (n : Int) := by omega
                      have t5 : (0 : Int) ≤ (m : Int) := by omega
                      have t6 : (m : Int) < (n : Int) := by omega
                      have tw : IntKind.i64.wrap (m : Int) = (m : Int) := IntWalk.i64_in _ (by omega)
                      obtain ⟨x, hx⟩ : ∃ x, (dj)[m + 1]! = x := ⟨_, rfl⟩
                      obtain ⟨y, hy⟩ : ∃ y, (dj)[m]! = y := ⟨_, rfl⟩
                      rw [hx] at r1
                      rw [hy] at r2
                      have HX := Lib.hid hx
                      have HY := Lib.hid hy
                      clear hx hy
                      cases hl : decide (x < y) with
                      | false =>
                        have hl2 : decide ((x : Int) < (y : Int)) = false := by simpa using hl
                        have HE : Hid (dj = d3) := Lib.hid (by rw [← HK.out.2]; exact (shd_stop ltN m dj (by rw [HX.out, HY.out]; exact hl)).symm)
                        go_wp2
                        go_quiet (first | (go_at_call 58; exact Calls.quiet_of_same (less_same _ _ _)))
                        go_wp2
                        go_meet
                        case rel => (rw [← HE.out]; exact Lib.hid (HK.out.1.drewN _))
                      | true =>
                        have hl2 : decide ((x : Int) < (y : Int)) = true := by simpa using hl
                        have HN : Hid (shiftDown ltN m (swp dj (m + 1) m) = d3) := Lib.hid (by rw [← HK.out.2]; exact (shd_go ltN m dj (by rw [HX.out, HY.out]; exact hl)).symm)
                        go_wp2
                        go_quiet (first | (go_at_call 58; exact Calls.quiet_of_same (less_same _ _ _)))
                        have hsn := HK.out.1.drewN nq
                        generalize wr.drewN nq = wq at hsn ⊢
                        have HSQ := Lib.hid hsn
                        clear hsn r1 r2 HX HY
                        have r1 := HSQ.out.row.cell (m + 1) (by rw [HSQ.out.sz]; omega)
                        have r2 := HSQ.out.row.cell m (by rw [HSQ.out.sz]; omega)
                        have f1 := HSQ.out.row.free (off + (m + 1))
                        have f2 := HSQ.out.row.free (off + m)
                        obtain ⟨x, hx⟩ : ∃ x, (dj)[(m + 1)]! = x := ⟨_, rfl⟩
                        obtain ⟨y, hy⟩ : ∃ y, (dj)[m]! = y := ⟨_, rfl⟩
                        rw [hx] at r1
                        rw [hy] at r2
                        have HX := Lib.hid hx
                        have HY := Lib.hid hy
                        clear hx hy
                        go_wp2
                        go_region
                        all_goals go_wp2
                        exact ⟨⟨m, swp dj (m + 1) m, by go_num, by omega, Lib.hid ⟨HSQ.out.swap (m + 1) m (by omega) (by omega) HY.out.symm HX.out.symm, HN.out⟩⟩, by simp [intOf] <;> omega⟩
                · have z3 : ¬ (2 : Int) ≤ (q : Int) + 1 - (a : Int) := by omega
                  have HF : Hid (d2 = d3) := Lib.hid (by have := HD3.out; unfold fixDown at this; rw [if_neg h2] at this; exact this)
                  go_wp2
                  go_meet
                  case rel => (rw [← HF.out]; exact HS3)
              case rest =>
                have HS4 := hcut
                clear HS3
                by_cases h2 : b - (q + 1) ≥ 2
                · have z3 : (2 : Int) ≤ (b : Int) - ((q : Int) + 1) := by omega
                  have HF : Hid (shiftUp ltN b (q + 1 + 1) d3 = d4) := Lib.hid (by have := HD4.out; unfold fixUp at this; rw [if_pos h2] at this; exact this)
                  go_wp2
                  go_loopw [10] (fun vj wz => ∃ (j : Nat) (dj : Array Nat), vj = .int .i64 j ∧ 0 < j ∧ j ≤ b ∧ Hid (SU g off S n w dj wz ∧ shiftUp ltN b j dj = d4)) (fun vj _ => b - (intOf vj).toNat)
                  case atStart => exact ⟨q + 1 + 1, d3, by go_num, by omega, by omega, Lib.hid ⟨HS4.out, HF.out⟩⟩
                  case round =>
                    obtain ⟨j, dj, rfl, hj0, hjb, HK⟩ := hrel
                    by_cases hjlt : j < b
                    · obtain ⟨m, rfl⟩ : ∃ m, j = m + 1 := ⟨j - 1, by omega⟩
                      have t1 : (m : Int) + 1 < (b : Int) := by omega
                      have r1 := HK.out.1.row.cell (m + 1) (by rw [HK.out.1.sz]; omega)
                      have r2 := HK.out.1.row.cell m (by rw [HK.out.1.sz]; omega)
                      have t3 : (0 : Int) ≤ (m : Int) + 1 := by omega
                      have t4 : (m : Int) + 1 < (n : Int) := by omega
                      have t5 : (0 : Int) ≤ (m : Int) := by omega
                      have t6 : (m : Int) < (n : Int) := by omega
                      have tw : IntKind.i64.wrap (m : Int) = (m : Int) := IntWalk.i64_in _ (by omega)
                      obtain ⟨x, hx⟩ : ∃ x, (dj)[m + 1]! = x := ⟨_, rfl⟩
                      obtain ⟨y, hy⟩ : ∃ y, (dj)[m]! = y := ⟨_, rfl⟩
                      rw [hx] at r1
                      rw [hy] at r2
                      have HX := Lib.hid hx
                      have HY := Lib.hid hy
                      clear hx hy
                      cases hl : decide (x < y) with
                      | false =>
                        have hl2 : decide ((x : Int) < (y : Int)) = false := by simpa using hl
                        have HE : Hid (dj = d4) := Lib.hid (by rw [← HK.out.2]; exact (shu_stop ltN b m dj (by rw [HX.out, HY.out]; exact hl)).symm)
                        go_wp2
                        go_quiet (first | (go_at_call 58; exact Calls.quiet_of_same (less_same _ _ _)))
                        go_wp2
                        exact ⟨⟨q + 1, t + 1, s, d4, by go_num, by go_num, by omega, by omega, by omega, Lib.hid ⟨by rw [← HE.out]; exact HK.out.1.drewN _, HPE.out.symm⟩⟩, by simp [intOf] <;> omega⟩
                      | true =>
                        have hl2 : decide ((x : Int) < (y : Int)) = true := by simpa using hl
                        have HN : Hid (shiftUp ltN b (m + 2) (swp dj (m + 1) m) = d4) := Lib.hid (by rw [← HK.out.2]; exact (shu_go ltN b m dj hjlt (by rw [HX.out, HY.out]; exact hl)).symm)
                        go_wp2
                        go_quiet (first | (go_at_call 58; exact Calls.quiet_of_same (less_same _ _ _)))
                        have hsn := HK.out.1.drewN nq
                        generalize wr.drewN nq = wq at hsn ⊢
                        have HSQ := Lib.hid hsn
                        clear hsn r1 r2 HX HY
                        have r1 := HSQ.out.row.cell (m + 1) (by rw [HSQ.out.sz]; omega)
                        have r2 := HSQ.out.row.cell m (by rw [HSQ.out.sz]; omega)
                        have f1 := HSQ.out.row.free (off + (m + 1))
                        have f2 := HSQ.out.row.free (off + m)
                        obtain ⟨x, hx⟩ : ∃ x, (dj)[(m + 1)]! = x := ⟨_, rfl⟩
                        obtain ⟨y, hy⟩ : ∃ y, (dj)[m]! = y := ⟨_, rfl⟩
                        rw [hx] at r1
                        rw [hy] at r2
                        have HX := Lib.hid hx
                        have HY := Lib.hid hy
                        clear hx hy
                        go_wp2
                        go_region
                        all_goals go_wp2
                        exact ⟨⟨m + 2, swp dj (m + 1) m, by go_num, by omega, by omega, Lib.hid ⟨HSQ.out.swap (m + 1) m (by omega) (by omega) HY.out.symm HX.out.symm, HN.out⟩⟩, by simp [intOf] <;> omega⟩
                    · have t1 : ¬ (j : Int) < (b : Int) := by omega
                      have HE : Hid (dj = d4) := Lib.hid (by rw [← HK.out.2]; exact (shu_end ltN b j dj hjlt).symm)
                      go_wp2
                      exact ⟨⟨q + 1, t + 1, s, d4, by go_num, by go_num, by omega, by omega, by omega, Lib.hid ⟨by rw [← HE.out]; exact HK.out.1, HPE.out.symm⟩⟩, by simp [intOf] <;> omega⟩
                · have z3 : ¬ (2 : Int) ≤ (b : Int) - ((q : Int) + 1) := by omega
                  have HF : Hid (d3 = d4) := Lib.hid (by have := HD4.out; unfold fixUp at this; rw [if_neg h2] at this; exact this)
                  go_wp2
                  exact ⟨⟨q + 1, t + 1, s, d4, by go_num, by go_num, by omega, by omega, by omega, Lib.hid ⟨by rw [← HF.out]; exact HS4.out, HPE.out.symm⟩⟩, by simp [intOf] <;> omega⟩
    · obtain rfl : s = 0 := by omega
      have htI : ¬ (t : Int) < 5 := by omega
      have HE : Hid (res = (dk, false)) := Lib.hid HL.out.2.symm
      go_wp2
      go_ret
      exact ⟨ret_bool (by rw [HE.out]), by rw [HE.out]; exact HL.out.1.row, HL.out.1.but⟩
end Go.Proofs.Ythgbmijgoaihcaa
