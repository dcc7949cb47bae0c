/-
  The sort of numbers of 64 bits: heap sort; a range turned round.
-/
import Derived.Test.YthgbmijgoaihcaaSo2
import Derived.Deep.DeepCutAuto
namespace Go.Proofs.Ythgbmijgoaihcaa
open Go.RowKit Go.Sort
set_option linter.unusedVariables false

section
variable {α : Type} [Inhabited α] (lt : α → α → Bool)
theorem sd_size (hi F : Nat) : ∀ (n root : Nat) (d : Array α), hi - root ≤ n → (siftDown lt hi F root d).size = d.size
  | 0, root, d, h => by rw [sd_end lt d (by omega)]
  | n + 1, root, d, h => by
    unfold siftDown
    split
    · rfl
    · split
      · split
        · rfl
        · split
          · rw [sd_size hi F n _ _ (by omega), size_swp]
          · rfl
      · split
        · rfl
        · rw [sd_size hi F n _ _ (by omega), size_swp]
theorem sd_sz (hi F root : Nat) (d : Array α) : (siftDown lt hi F root d).size = d.size := sd_size lt hi F (hi - root) root d (Nat.le_refl _)
end

set_option maxRecDepth 100000 in
set_option maxHeartbeats 3200000 in
theorem rev_any (g off S cap n a b : Nat) (d : Array Nat) (hn : d.size = n) (w : World) (hR : RowU w g off S d) (hab : a < b) (hb : b ≤ n) (hsz : n ≤ 17592186044400) :
    Calls Try.prog 69 #[.slice (some ⟨g, off, none⟩) n cap, .int .i64 a, .int .i64 b] w fun e w' => e = .returned (.tuple #[]) ∧ RowU w' g off S (reverseRange d a b) ∧ But g w w' := by
  have HN := Lib.hid hn
  have HR := Lib.hid hR
  obtain ⟨b', rfl⟩ : ∃ b', b = b' + 1 := ⟨b - 1, by omega⟩
  clear hn hR
  go_enter Try.func69, Try.ntmps69
  go_wp2
  go_loopw [6, 7] (fun vi vj wr => ∃ (i j : Nat) (dk : Array Nat), vi = .int .i64 i ∧ vj = .int .i64 j ∧ j < n ∧ i ≤ n ∧ Hid (dk.size = n ∧ RowU wr g off S dk ∧ But g w wr ∧ reverseLoop i j dk = reverseLoop a b' d)) (fun _ vj _ => (intOf vj).toNat)
  case atStart => exact ⟨a, b', d, rfl, by go_num, by omega, by omega, Lib.hid ⟨HN.out, HR.out, But.refl _ _, rfl⟩⟩
  case round =>
    obtain ⟨i, j, dk, rfl, rfl, hj, hi, HI⟩ := hrel
    by_cases hij : i < j
    · obtain ⟨q, rfl⟩ : ∃ q, j = q + 1 := ⟨j - 1, by omega⟩
      have k1 := HI.out.2.1.cell i (by rw [HI.out.1]; omega)
      have k2 := HI.out.2.1.cell (q + 1) (by rw [HI.out.1]; omega)
      have f1 := HI.out.2.1.free (off + i)
      have f2 := HI.out.2.1.free (off + (q + 1))
      obtain ⟨x, hx⟩ : ∃ x, dk[i]! = x := ⟨_, rfl⟩
      obtain ⟨y, hy⟩ : ∃ y, dk[q + 1]! = y := ⟨_, rfl⟩
      rw [hx] at k1
      rw [hy] at k2
      have HX := Lib.hid hx
      have HY := Lib.hid hy
      clear hx hy
      have h1 : (i : Int) < (q : Int) + 1 := by omega
      have h2 : (i : Int) < (n : Int) := by omega
      have h3 : (q : Int) + 1 < (n : Int) := by omega
      have h4 : (0 : Int) ≤ (q : Int) + 1 := by omega
      have h5 : (0 : Int) ≤ (i : Int) := by omega
      have HS : Hid (reverseLoop i (q + 1) dk = reverseLoop (i + 1) q (swp dk i (q + 1))) := Lib.hid (by rw [reverseLoop, if_pos hij]; rfl)
      go_wp2
      go_region
      all_goals go_wp2
      refine ⟨⟨i + 1, q, swp dk i (q + 1), by go_num, rfl, by omega, by omega, Lib.hid ⟨by rw [size_swp]; exact HI.out.1, (HI.out.2.1.drewN 1).swap i (q + 1) (by rw [HI.out.1]; omega) (by rw [HI.out.1]; omega) HY.out.symm HX.out.symm, ((HI.out.2.2.1.drewN 1).setCell _ _).setCell _ _, by rw [← HS.out]; exact HI.out.2.2.2⟩⟩, by simp [intOf]⟩
    · have h1 : ¬ (i : Int) < (j : Int) := by omega
      have HS : Hid (reverseLoop i j dk = dk) := Lib.hid (by rw [reverseLoop, if_neg hij])
      go_wp2
      go_end0
      exact ⟨rfl, by unfold reverseRange; rw [Nat.add_sub_cancel, ← HI.out.2.2.2, HS.out]; exact HI.out.2.1, HI.out.2.2.1⟩

set_option maxRecDepth 100000 in
set_option maxHeartbeats 3200000 in
theorem heap_any (g off S cap n a b : Nat) (d : Array Nat) (hn : d.size = n) (w : World) (hR : RowU w g off S d) (hab : a ≤ b) (hb : b ≤ n) (hsz : n ≤ 17592186044400) :
    Calls Try.prog 66 #[.slice (some ⟨g, off, none⟩) n cap, .int .i64 a, .int .i64 b] w fun e w' => e = .returned (.tuple #[]) ∧ RowU w' g off S (heapSort ltN d a b) ∧ But g w w' := by
  have HN := Lib.hid hn
  have HR := Lib.hid hR
  obtain ⟨H, e_H, H_H⟩ : ∃ H : Nat, (b : Int) - (a : Int) = (H : Int) ∧ Hid (b - a = H) := ⟨b - a, by omega, Lib.hid rfl⟩
  obtain ⟨q, hqH, H_q⟩ : ∃ q : Nat, q ≤ H ∧ Hid ((H - 1) / 2 = q) := ⟨(H - 1) / 2, by omega, Lib.hid rfl⟩
  have hHn : a + H ≤ n := by have := H_H.out; omega
  clear hn hR
  go_enter Try.func66, Try.ntmps66
  go_upto_region 3 with (fail)
  go_cut [9] (fun s9 wx => s9 = .int .i64 (q : Int) ∧ w = wx)
  case first =>
    by_cases h0 : H = 0
    · obtain rfl : q = 0 := by omega
      subst h0
      go_wp2
      go_meet
      case rel => exact ⟨rfl, rfl⟩
    · obtain ⟨H', rfl⟩ : ∃ H', H = H' + 1 := ⟨H - 1, by omega⟩
      have e1 : (H' : Int) / 2 = (q : Int) := by have := H_q.out; omega
      have e2 : (H' : Int).tdiv 2 = (q : Int) := by have := H_q.out; rw [Int.tdiv_eq_ediv_of_nonneg (by omega)]; omega
      go_wp2
      go_meet
      case rel => exact ⟨rfl, rfl⟩
  case rest =>
    obtain ⟨rfl, rfl⟩ := hcut
    go_wp2
    go_loopw [9] (fun vi wr => ∃ (k : Nat) (i : Int) (dk : Array Nat), vi = .int .i64 i ∧ i = (k : Int) - 1 ∧ k ≤ q + 1 ∧ Hid (dk.size = n ∧ RowU wr g off S dk ∧ But g w wr ∧ heapBuild ltN H a k dk = heapBuild ltN H a (q + 1) d)) (fun vi _ => (intOf vi + 1).toNat)
    case atStart => exact ⟨q + 1, (q : Int), d, rfl, by omega, Nat.le_refl _, Lib.hid ⟨HN.out, HR.out, But.refl _ _, rfl⟩⟩
    case round =>
      obtain ⟨k, i, dk, rfl, hik, hk, HI⟩ := hrel
      have HIK := Lib.hid hik
      clear hik
      by_cases hk0 : k = 0
      · obtain rfl : i = -1 := by have := HIK.out; omega
        subst hk0
        go_wp2
        go_loopw [10] (fun vi wz => ∃ (k : Nat) (i : Int) (dj : Array Nat), vi = .int .i64 i ∧ i = (k : Int) - 1 ∧ k ≤ H ∧ Hid (dj.size = n ∧ RowU wz g off S dj ∧ But g w wz ∧ heapPop ltN a k dj = heapPop ltN a H dk)) (fun vi _ => (intOf vi + 1).toNat)
        case atStart => exact ⟨H, (H : Int) - 1, dk, rfl, rfl, Nat.le_refl _, Lib.hid ⟨HI.out.1, HI.out.2.1, HI.out.2.2.1, rfl⟩⟩
        case round =>
          obtain ⟨k, i, dj, rfl, hik, hk, HJ⟩ := hrel
          have HJK := Lib.hid hik
          clear hik
          by_cases hk0 : k = 0
          · obtain rfl : i = -1 := by have := HJK.out; omega
            subst hk0
            go_wp2
            go_end0
            refine ⟨rfl, ?_, HJ.out.2.2.1⟩
            have e : heapSort ltN d a b = dj := by
              unfold heapSort
              rw [H_H.out, H_q.out, ← HI.out.2.2.2]
              exact HJ.out.2.2.2.symm
            rw [e]
            exact HJ.out.2.1
          · obtain ⟨m, rfl⟩ : ∃ m, k = m + 1 := ⟨k - 1, by omega⟩
            obtain rfl : i = (m : Int) := by have := HJK.out; omega
            obtain ⟨am, e_am, W_am, p_am, H_am⟩ : ∃ am : Nat, (a : Int) + (m : Int) = (am : Int) ∧ IntKind.i64.wrap (am : Int) = (am : Int) ∧ (0 : Int) ≤ (am : Int) ∧ Hid (a + m = am) := ⟨a + m, by omega, IntWalk.i64_in _ (by omega), by omega, Lib.hid rfl⟩
            have han : a < n := by omega
            have hamn : am < n := by have := H_am.out; omega
            have g1 : (a : Int) < (n : Int) := by omega
            have g2 : (am : Int) < (n : Int) := by omega
            have g3 : (0 : Int) ≤ (m : Int) := by omega
            have g4 : (0 : Int) ≤ (a : Int) := by omega
            have k1 := HJ.out.2.1.cell a (by rw [HJ.out.1]; exact han)
            have k2 := HJ.out.2.1.cell am (by rw [HJ.out.1]; exact hamn)
            have f1 := HJ.out.2.1.free (off + a)
            have f2 := HJ.out.2.1.free (off + am)
            obtain ⟨x, hx⟩ : ∃ x, dj[a]! = x := ⟨_, rfl⟩
            obtain ⟨y, hy⟩ : ∃ y, dj[am]! = y := ⟨_, rfl⟩
            rw [hx] at k1
            rw [hy] at k2
            have HX := Lib.hid hx
            have HY := Lib.hid hy
            clear hx hy
            obtain ⟨v3, hv3⟩ : ∃ v3, (wr.setCell ⟨g, off + a, none⟩ (.int .u64 (y : Nat))).cell? ⟨g, off + am, none⟩ = some v3 := ⟨_, (HJ.out.2.1.set a y (by rw [HJ.out.1]; exact han)).cell am (by rw [Array.size_setIfInBounds, HJ.out.1]; exact hamn)⟩
            have HS : Hid (heapPop ltN a (m + 1) dj = heapPop ltN a m (siftDown ltN m a 0 (swp dj a am))) := Lib.hid (by rw [← H_am.out]; rfl)
            have HSW : Hid ((swp dj a am).size = n ∧ ∀ x' y' : Nat, x' = dj[am]! → y' = dj[a]! → RowU (((wr.drewN 1).setCell ⟨g, off + a, none⟩ (.int .u64 (x' : Nat))).setCell ⟨g, off + am, none⟩ (.int .u64 (y' : Nat))) g off S (swp dj a am)) := Lib.hid ⟨by rw [size_swp]; exact HJ.out.1, fun x' y' hx hy => (HJ.out.2.1.drewN 1).swap a am (by rw [HJ.out.1]; exact han) (by rw [HJ.out.1]; exact hamn) hx hy⟩
            go_wp2
            go_region
            all_goals
              go_wp2_with (first
                | (go_at_call 75; refine (sift_any g off S cap n 0 m a (swp dj a am) HSW.out.1 _ (HSW.out.2 y x HY.out.symm HX.out.symm) (by omega) (by omega) hsz).mono ?_; rintro _ w4 ⟨rfl, hR4, hB4⟩; have HR4 := Lib.hid hR4; have HB4 := Lib.hid hB4; clear hR4 hB4))
              exact ⟨⟨m, (m : Int) - 1, siftDown ltN m a 0 (swp dj a am), rfl, rfl, by omega, Lib.hid ⟨by rw [sd_sz]; exact HSW.out.1, HR4.out, (((HJ.out.2.2.1.drewN 1).setCell _ _).setCell _ _).trans HB4.out, by rw [← HJ.out.2.2.2, HS.out]⟩⟩, by simp [intOf] <;> omega⟩
      · obtain ⟨m, rfl⟩ : ∃ m, k = m + 1 := ⟨k - 1, by omega⟩
        obtain rfl : i = (m : Int) := by have := HIK.out; omega
        have g3 : (0 : Int) ≤ (m : Int) := by omega
        have HS : Hid (heapBuild ltN H a (m + 1) dk = heapBuild ltN H a m (siftDown ltN H a m dk)) := Lib.hid rfl
        go_wp2_with (first
          | (go_at_call 75; refine (sift_any g off S cap n m H a dk HI.out.1 _ HI.out.2.1 (by omega) (by omega) hsz).mono ?_; rintro _ w4 ⟨rfl, hR4, hB4⟩; have HR4 := Lib.hid hR4; have HB4 := Lib.hid hB4; clear hR4 hB4))
        exact ⟨⟨m, (m : Int) - 1, siftDown ltN H a m dk, rfl, rfl, by omega, Lib.hid ⟨by rw [sd_sz]; exact HI.out.1, HR4.out, HI.out.2.2.1.trans HB4.out, by rw [← HI.out.2.2.2, HS.out]⟩⟩, by simp [intOf] <;> omega⟩
end Go.Proofs.Ythgbmijgoaihcaa
