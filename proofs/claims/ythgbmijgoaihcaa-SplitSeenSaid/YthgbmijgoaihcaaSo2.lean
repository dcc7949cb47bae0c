/-
  The sort of numbers of 64 bits: the heap; a range turned round.
-/
import Derived.Test.YthgbmijgoaihcaaSo1
import Derived.Sort.LotB
import Derived.BigRegion
namespace Go.Proofs.Ythgbmijgoaihcaa
open Go.RowKit Go.Sort
set_option linter.unusedVariables false

section
variable {α : Type} [Inhabited α] (lt : α → α → Bool)
/-- The child that is looked at. -/
def Child (hi F root : Nat) (d : Array α) (ch : Nat) : Prop :=
  2 * root + 1 < hi ∧ ((ch = 2 * root + 2 ∧ 2 * root + 2 < hi ∧ lt d[F + (2 * root + 1)]! d[F + (2 * root + 1) + 1]! = true) ∨ (ch = 2 * root + 1 ∧ (2 * root + 2 < hi → lt d[F + (2 * root + 1)]! d[F + (2 * root + 1) + 1]! = false)))
theorem sd_end {hi F root : Nat} (d : Array α) (h : hi ≤ 2 * root + 1) : siftDown lt hi F root d = d := by rw [siftDown, dif_pos h]
theorem sd_stop {hi F root ch : Nat} (d : Array α) (h : Child lt hi F root d ch) (h3 : lt d[F + root]! d[F + ch]! = false) : siftDown lt hi F root d = d := by
  obtain ⟨h0, ⟨rfl, h1, h2⟩ | ⟨rfl, h2⟩⟩ := h
  · rw [siftDown, dif_neg (by omega), h2, h3]
    simp [show 2 * root + 1 + 1 < hi by omega]
  · rw [siftDown, dif_neg (by omega), h3]
    by_cases h : 2 * root + 2 < hi
    · simp [h2 h]
    · simp [show ¬ 2 * root + 1 + 1 < hi by omega]
theorem sd_go {hi F root ch : Nat} (d : Array α) (h : Child lt hi F root d ch) (h3 : lt d[F + root]! d[F + ch]! = true) : siftDown lt hi F root d = siftDown lt hi F ch (swp d (F + root) (F + ch)) := by
  obtain ⟨h0, ⟨rfl, h1, h2⟩ | ⟨rfl, h2⟩⟩ := h
  · rw [siftDown, dif_neg (by omega), h2, h3]
    simp [show 2 * root + 1 + 1 < hi by omega]
  · rw [siftDown, dif_neg (by omega), h3]
    by_cases h : 2 * root + 2 < hi
    · simp [h2 h]
    · simp [show ¬ 2 * root + 1 + 1 < hi by omega]
end

set_option maxRecDepth 100000 in
set_option maxHeartbeats 3200000 in
theorem sift_any (g off S cap n lo hi first : Nat) (d : Array Nat) (hn : d.size = n) (w : World) (hR : RowU w g off S d) (hb : first + hi ≤ n) (hlo : lo ≤ hi) (hsz : n ≤ 17592186044400) :
    Calls Try.prog 75 #[.slice (some ⟨g, off, none⟩) n cap, .int .i64 lo, .int .i64 hi, .int .i64 first] w fun e w' => e = .returned (.tuple #[]) ∧ RowU w' g off S (siftDown ltN hi first lo d) ∧ But g w w' := by
  have HN := Lib.hid hn
  have HR := Lib.hid hR
  clear hn hR
  go_enter Try.func75, Try.ntmps75
  go_wp2
  go_loopw [8] (fun vr wr => ∃ (root : Nat) (dk : Array Nat), vr = .int .i64 root ∧ root ≤ hi ∧ Hid (dk.size = n ∧ RowU wr g off S dk ∧ But g w wr ∧ siftDown ltN hi first root dk = siftDown ltN hi first lo d)) (fun vr _ => hi - (intOf vr).toNat)
  case atStart => exact ⟨lo, d, rfl, by omega, Lib.hid ⟨HN.out, HR.out, But.refl _ _, rfl⟩⟩
  case round =>
    obtain ⟨root, dk, rfl, hrh, HI⟩ := hrel
    obtain ⟨c, e_c, W_c, p_c, H_c⟩ : ∃ c : Nat, 2 * (root : Int) + 1 = (c : Int) ∧ IntKind.i64.wrap (c : Int) = (c : Int) ∧ (0 : Int) ≤ (c : Int) ∧ Hid (2 * root + 1 = c) := ⟨2 * root + 1, by omega, IntWalk.i64_in _ (by omega), by omega, Lib.hid rfl⟩
    by_cases h0 : hi ≤ c
    · have h0z : (hi : Int) ≤ (c : Int) := by omega
      have HS : Hid (siftDown ltN hi first root dk = dk) := Lib.hid (sd_end ltN dk (by have := H_c.out; omega))
      go_wp2
      go_end0
      exact ⟨rfl, by rw [← HI.out.2.2.2, HS.out]; exact HI.out.2.1, HI.out.2.2.1⟩
    · have h0z : ¬ (hi : Int) ≤ (c : Int) := by omega
      have hcr : root < c := by have := H_c.out; omega
      obtain ⟨fr, e_fr, W_fr, p_fr, H_fr⟩ : ∃ fr : Nat, (first : Int) + (root : Int) = (fr : Int) ∧ IntKind.i64.wrap (fr : Int) = (fr : Int) ∧ (0 : Int) ≤ (fr : Int) ∧ Hid (first + root = fr) := ⟨first + root, by omega, IntWalk.i64_in _ (by omega), by omega, Lib.hid rfl⟩
      obtain ⟨fc, e_fc, W_fc, p_fc, H_fc⟩ : ∃ fc : Nat, (first : Int) + (c : Int) = (fc : Int) ∧ IntKind.i64.wrap (fc : Int) = (fc : Int) ∧ (0 : Int) ≤ (fc : Int) ∧ Hid (first + c = fc) := ⟨first + c, by omega, IntWalk.i64_in _ (by omega), by omega, Lib.hid rfl⟩
      obtain ⟨c1, e_c1, W_c1, p_c1, H_c1⟩ : ∃ c1 : Nat, (c : Int) + 1 = (c1 : Int) ∧ IntKind.i64.wrap (c1 : Int) = (c1 : Int) ∧ (0 : Int) ≤ (c1 : Int) ∧ Hid (c + 1 = c1) := ⟨c + 1, by omega, IntWalk.i64_in _ (by omega), by omega, Lib.hid rfl⟩
      have e_fc1 : (fc : Int) + 1 = ((fc + 1 : Nat) : Int) := by omega
      have hfrn : (fr : Int) < (n : Int) := by have := H_fr.out; omega
      have hfcn : (fc : Int) < (n : Int) := by have := H_fc.out; omega
      have hfcn2 : fc < n := by omega
      by_cases h1 : c1 < hi
      · have h1z : decide ((c1 : Int) < (hi : Int)) = true := by simp; omega
        obtain ⟨gc, e_gc, W_gc, p_gc, H_gc⟩ : ∃ gc : Nat, (fc : Int) + 1 = (gc : Int) ∧ IntKind.i64.wrap (gc : Int) = (gc : Int) ∧ (0 : Int) ≤ (gc : Int) ∧ Hid (fc + 1 = gc) := ⟨fc + 1, by omega, IntWalk.i64_in _ (by omega), by omega, Lib.hid rfl⟩
        have e_gc2 : (first : Int) + (c1 : Int) = (gc : Int) := by have := H_gc.out; have := H_fc.out; have := H_c1.out; omega
        have hgcn : (gc : Int) < (n : Int) := by have := H_gc.out; have := H_fc.out; have := H_c1.out; omega
        have hgcn2 : gc < n := by omega
        clear e_fc1
        have k1 := HI.out.2.1.cell fc (by rw [HI.out.1]; exact hfcn2)
        have k2 := HI.out.2.1.cell gc (by rw [HI.out.1]; exact hgcn2)
        obtain ⟨u, hu⟩ : ∃ u, dk[fc]! = u := ⟨_, rfl⟩
        obtain ⟨v, hv⟩ : ∃ v, dk[gc]! = v := ⟨_, rfl⟩
        rw [hu] at k1
        rw [hv] at k2
        have HU := Lib.hid hu
        have HV := Lib.hid hv
        clear hu hv
        cases hq : decide (u < v) with
        | true =>
          have hq2 : decide ((u : Int) < (v : Int)) = true := by simpa using hq
          have ch0 : Hid (Child ltN hi first root dk c1) := Lib.hid (by
            refine ⟨by have := H_c.out; omega, Or.inl ⟨by have := H_c1.out; have := H_c.out; omega, by have := H_c1.out; have := H_c.out; omega, ?_⟩⟩
            rw [H_c.out, H_fc.out, H_gc.out, HU.out, HV.out]; exact hq)
          have hfg : Hid (first + c1 = gc) := Lib.hid (by have := H_gc.out; have := H_fc.out; have := H_c1.out; omega)
          have hrc1 : root < c1 := by have := H_c1.out; omega
          go_wp2
          go_quiet (first | (go_at_call 58; exact Calls.quiet_of_same (less_same _ _ _)))
          go_wp2
          revert nq; intro n1
          have hR2 := HI.out.2.1.drewN n1
          have hB2 := HI.out.2.2.1.drewN n1
          generalize wr.drewN n1 = w2 at hR2 hB2 ⊢
          have q1 := hR2.cell fr (by rw [HI.out.1]; have := H_fr.out; omega)
          have q2 := hR2.cell gc (by rw [HI.out.1]; omega)
          have HR2 := Lib.hid hR2
          have HB2 := Lib.hid hB2
          clear hR2 hB2
          obtain ⟨x, hx⟩ : ∃ x, dk[fr]! = x := ⟨_, rfl⟩
          obtain ⟨z, hz⟩ : ∃ z, dk[gc]! = z := ⟨_, rfl⟩
          rw [hx] at q1
          rw [hz] at q2
          have HX := Lib.hid hx
          have HZ := Lib.hid hz
          clear hx hz
          cases hl : decide (x < z) with
          | false =>
            have hl2 : decide ((x : Int) < (z : Int)) = false := by simpa using hl
            have HS : Hid (siftDown ltN hi first root dk = dk) := Lib.hid (sd_stop ltN dk ch0.out (by rw [H_fr.out, hfg.out, HX.out, HZ.out]; exact hl))
            go_quiet (first | (go_at_call 58; exact Calls.quiet_of_same (less_same _ _ _)))
            go_wp2
            (try simp only [Exit.inBlock, Exit.then]); refine bodyPost_ret (results_none rfl _ _ _) rfl ?_
            exact ⟨rfl, by rw [← HI.out.2.2.2, HS.out]; exact HR2.out.drewN _, HB2.out.drewN _⟩
          | true =>
            have hl2 : decide ((x : Int) < (z : Int)) = true := by simpa using hl
            have HS : Hid (siftDown ltN hi first root dk = siftDown ltN hi first c1 (swp dk fr gc)) := Lib.hid (by
              have := sd_go ltN dk ch0.out (by rw [H_fr.out, hfg.out, HX.out, HZ.out]; exact hl)
              rw [H_fr.out, hfg.out] at this
              exact this)
            go_quiet (first | (go_at_call 58; exact Calls.quiet_of_same (less_same _ _ _)))
            go_wp2
            revert nq; intro n3
            have hR3 := HR2.out.drewN n3
            have hB3 := HB2.out.drewN n3
            clear q1 q2
            generalize w2.drewN n3 = w3 at hR3 hB3 ⊢
            have q1 := hR3.cell fr (by rw [HI.out.1]; have := H_fr.out; omega)
            have q2 := hR3.cell gc (by rw [HI.out.1]; omega)
            rw [HX.out] at q1
            rw [HZ.out] at q2
            have f1 := hR3.free (off + fr)
            have f2 := hR3.free (off + gc)
            have HR3 := Lib.hid hR3
            have HB3 := Lib.hid hB3
            clear hR3 hB3
            go_region
            all_goals go_wp2
            refine ⟨⟨c1, swp dk fr gc, rfl, by omega, Lib.hid ⟨by rw [size_swp]; exact HI.out.1, (HR3.out.drewN 1).swap fr gc (by rw [HI.out.1]; have := H_fr.out; omega) (by rw [HI.out.1]; omega) HZ.out.symm HX.out.symm, ((HB3.out.drewN 1).setCell _ _).setCell _ _, by rw [← HS.out]; exact HI.out.2.2.2⟩⟩, by simp [intOf]; omega⟩
        | false =>
          have hq2 : decide ((u : Int) < (v : Int)) = false := by simpa using hq
          have ch0 : Hid (Child ltN hi first root dk c) := Lib.hid (by
            refine ⟨by have := H_c.out; omega, Or.inr ⟨by have := H_c.out; omega, fun _ => ?_⟩⟩
            rw [H_c.out, H_fc.out, H_gc.out, HU.out, HV.out]; exact hq)
          go_wp2
          go_quiet (first | (go_at_call 58; exact Calls.quiet_of_same (less_same _ _ _)))
          go_wp2
          revert nq; intro n1
          have hR2 := HI.out.2.1.drewN n1
          have hB2 := HI.out.2.2.1.drewN n1
          generalize wr.drewN n1 = w2 at hR2 hB2 ⊢
          have q1 := hR2.cell fr (by rw [HI.out.1]; have := H_fr.out; omega)
          have q2 := hR2.cell fc (by rw [HI.out.1]; omega)
          have HR2 := Lib.hid hR2
          have HB2 := Lib.hid hB2
          clear hR2 hB2
          obtain ⟨x, hx⟩ : ∃ x, dk[fr]! = x := ⟨_, rfl⟩
          obtain ⟨z, hz⟩ : ∃ z, dk[fc]! = z := ⟨_, rfl⟩
          rw [hx] at q1
          rw [hz] at q2
          have HX := Lib.hid hx
          have HZ := Lib.hid hz
          clear hx hz
          cases hl : decide (x < z) with
          | false =>
            have hl2 : decide ((x : Int) < (z : Int)) = false := by simpa using hl
            have HS : Hid (siftDown ltN hi first root dk = dk) := Lib.hid (sd_stop ltN dk ch0.out (by rw [H_fr.out, H_fc.out, HX.out, HZ.out]; exact hl))
            go_quiet (first | (go_at_call 58; exact Calls.quiet_of_same (less_same _ _ _)))
            go_wp2
            (try simp only [Exit.inBlock, Exit.then]); refine bodyPost_ret (results_none rfl _ _ _) rfl ?_
            exact ⟨rfl, by rw [← HI.out.2.2.2, HS.out]; exact HR2.out.drewN _, HB2.out.drewN _⟩
          | true =>
            have hl2 : decide ((x : Int) < (z : Int)) = true := by simpa using hl
            have HS : Hid (siftDown ltN hi first root dk = siftDown ltN hi first c (swp dk fr fc)) := Lib.hid (by
              have := sd_go ltN dk ch0.out (by rw [H_fr.out, H_fc.out, HX.out, HZ.out]; exact hl)
              rw [H_fr.out, H_fc.out] at this
              exact this)
            go_quiet (first | (go_at_call 58; exact Calls.quiet_of_same (less_same _ _ _)))
            go_wp2
            revert nq; intro n3
            have hR3 := HR2.out.drewN n3
            have hB3 := HB2.out.drewN n3
            clear q1 q2
            generalize w2.drewN n3 = w3 at hR3 hB3 ⊢
            have q1 := hR3.cell fr (by rw [HI.out.1]; have := H_fr.out; omega)
            have q2 := hR3.cell fc (by rw [HI.out.1]; omega)
            rw [HX.out] at q1
            rw [HZ.out] at q2
            have f1 := hR3.free (off + fr)
            have f2 := hR3.free (off + fc)
            have HR3 := Lib.hid hR3
            have HB3 := Lib.hid hB3
            clear hR3 hB3
            go_region
            all_goals go_wp2
            refine ⟨⟨c, swp dk fr fc, rfl, by omega, Lib.hid ⟨by rw [size_swp]; exact HI.out.1, (HR3.out.drewN 1).swap fr fc (by rw [HI.out.1]; have := H_fr.out; omega) (by rw [HI.out.1]; omega) HZ.out.symm HX.out.symm, ((HB3.out.drewN 1).setCell _ _).setCell _ _, by rw [← HS.out]; exact HI.out.2.2.2⟩⟩, by simp [intOf]; omega⟩
      · have h1z : decide ((c1 : Int) < (hi : Int)) = false := by simp; omega
        have h1y : decide (c1 < hi) = false := by simp; omega
        clear e_fc1
        have ch0 : Hid (Child ltN hi first root dk c) := Lib.hid (by
          refine ⟨by have := H_c.out; omega, Or.inr ⟨by have := H_c.out; omega, fun h => ?_⟩⟩
          have := H_c1.out; have := H_c.out; omega)
        go_wp2
        go_quiet (fail)
        go_wp2
        revert nq; intro n1
        have hR2 := HI.out.2.1.drewN n1
        have hB2 := HI.out.2.2.1.drewN n1
        generalize wr.drewN n1 = w2 at hR2 hB2 ⊢
        have q1 := hR2.cell fr (by rw [HI.out.1]; have := H_fr.out; omega)
        have q2 := hR2.cell fc (by rw [HI.out.1]; omega)
        have HR2 := Lib.hid hR2
        have HB2 := Lib.hid hB2
        clear hR2 hB2
        obtain ⟨x, hx⟩ : ∃ x, dk[fr]! = x := ⟨_, rfl⟩
        obtain ⟨z, hz⟩ : ∃ z, dk[fc]! = z := ⟨_, rfl⟩
        rw [hx] at q1
        rw [hz] at q2
        have HX := Lib.hid hx
        have HZ := Lib.hid hz
        clear hx hz
        cases hl : decide (x < z) with
        | false =>
          have hl2 : decide ((x : Int) < (z : Int)) = false := by simpa using hl
          have HS : Hid (siftDown ltN hi first root dk = dk) := Lib.hid (sd_stop ltN dk ch0.out (by rw [H_fr.out, H_fc.out, HX.out, HZ.out]; exact hl))
          go_quiet (first | (go_at_call 58; exact Calls.quiet_of_same (less_same _ _ _)))
          go_wp2
          (try simp only [Exit.inBlock, Exit.then]); refine bodyPost_ret (results_none rfl _ _ _) rfl ?_
          exact ⟨rfl, by rw [← HI.out.2.2.2, HS.out]; exact HR2.out.drewN _, HB2.out.drewN _⟩
        | true =>
          have hl2 : decide ((x : Int) < (z : Int)) = true := by simpa using hl
          have HS : Hid (siftDown ltN hi first root dk = siftDown ltN hi first c (swp dk fr fc)) := Lib.hid (by
            have := sd_go ltN dk ch0.out (by rw [H_fr.out, H_fc.out, HX.out, HZ.out]; exact hl)
            rw [H_fr.out, H_fc.out] at this
            exact this)
          go_quiet (first | (go_at_call 58; exact Calls.quiet_of_same (less_same _ _ _)))
          go_wp2
          revert nq; intro n3
          have hR3 := HR2.out.drewN n3
          have hB3 := HB2.out.drewN n3
          clear q1 q2
          generalize w2.drewN n3 = w3 at hR3 hB3 ⊢
          have q1 := hR3.cell fr (by rw [HI.out.1]; have := H_fr.out; omega)
          have q2 := hR3.cell fc (by rw [HI.out.1]; omega)
          rw [HX.out] at q1
          rw [HZ.out] at q2
          have f1 := hR3.free (off + fr)
          have f2 := hR3.free (off + fc)
          have HR3 := Lib.hid hR3
          have HB3 := Lib.hid hB3
          clear hR3 hB3
          go_region
          all_goals go_wp2
          refine ⟨⟨c, swp dk fr fc, rfl, by omega, Lib.hid ⟨by rw [size_swp]; exact HI.out.1, (HR3.out.drewN 1).swap fr fc (by rw [HI.out.1]; have := H_fr.out; omega) (by rw [HI.out.1]; omega) HZ.out.symm HX.out.symm, ((HB3.out.drewN 1).setCell _ _).setCell _ _, by rw [← HS.out]; exact HI.out.2.2.2⟩⟩, by simp [intOf]; omega⟩
end Go.Proofs.Ythgbmijgoaihcaa
