/-
  The reference's May; few.
-/
import Derived.Test.YtogihaiedemdhaaBl6
namespace Go.Proofs.Ytogihaiedemdhaa
open Go.RowKit
set_option linter.unusedVariables false

set_option maxRecDepth 100000 in
set_option maxHeartbeats 1600000 in
theorem rmay_row (b off cap N : Nat) (m : List UInt8) (c : UInt8) (s : ByteArray) (w : World) (hN : m.length = N) (hN1 : 1 ≤ N) (hN2 : N ≤ 1000000) (hcap : N + 1 ≤ cap) (hcm : cap ≤ maxLen) (hs : s.size ≤ maxLen) (hb : Bytes w (some ⟨b, off, none⟩) (m ++ [c])) :
    Calls Try.prog 21 #[.slice (some ⟨b, off, none⟩) (N + 1) cap, .string s] w fun e w' => e = .returned (.bool (mayc m c s)) ∧ Below w.heap.size w w' := by
  have hlast : w.cell? ⟨b, off + N, none⟩ = some (.int .u8 (c.toNat : Nat)) := by
    have := hb.get N (by simp; omega)
    rw [this]
    simp [← hN]
  have hcl := c.toNat_lt
  have n1 : ((N : Int) + 1) - 1 = (N : Int) := by omega
  have n2 : (N : Int) < (N : Int) + 1 := by omega
  have n3 : (0 : Int) ≤ (N : Int) := by omega
  have n4 : IntKind.i64.wrap (N : Int) = (N : Int) := IntWalk.i64_in _ (by omega)
  have n5 : (N : Int) ≤ (cap : Int) := by omega
  have n6 : decide ((N : Int) < 1) = false := by simp; omega
  have n7 : decide (N < 1) = false := by simp; omega
  have HB := Lib.hid hb
  have HLN := Lib.hid hN
  have HM : Hid (mayc m c s = if c.toNat = 0 ∨ 30 < c.toNat then true else mayOn m s c.toNat) := Lib.hid rfl
  clear hb hN
  generalize hR : c.toNat = R at *
  clear hR
  by_cases hk : R = 0 ∨ 30 < R
  · rw [if_pos hk] at HM
    rcases hk with hk | hk
    · subst hk
      go_enter Try.func21, Try.ntmps21
      go_wp2
      go_ret
      exact ⟨ret_bool HM.out.symm, Below.refl _ _⟩
    · have e1 : ((R : Int) == 0) = false := by simp; omega
      have e2 : (30 : Int) < (R : Int) := by omega
      go_enter Try.func21, Try.ntmps21
      go_wp2
      go_ret
      exact ⟨ret_bool HM.out.symm, Below.refl _ _⟩
  · rw [if_neg hk] at HM
    have e1 : ((R : Int) == 0) = false := by simp; omega
    have e2 : ¬ (30 : Int) < (R : Int) := by omega
    have hR : R ≤ 30 := by omega
    have hR1 : 0 < R := by omega
    clear hk
    have hR3 : R ≤ 100 := by omega
    go_enter Try.func21, Try.ntmps21
    go_wp2_with ((with_reducible refine (places_at s (8 * N) R _ w (by omega) hs (by omega) (by omega) hR3).mono ?_); rintro _ w3 ⟨v3, rfl, ho3, hb3⟩; obtain ⟨gp, cp, rfl, hgp⟩ := ho3.form (by omega); have HO3 := Lib.hid ho3; clear ho3)
    have hpm : Hid (∀ p ∈ plc (8 * N) (h0 s) (rot (h0 s) 15) R, p < 8 * N) := Lib.hid (plc_lt _ _ _ _ (by omega))
    have hpl : (plc (8 * N) (h0 s) (rot (h0 s) 15) R).length = R := plc_length _ _ _ _
    have HO : Hid (mayOn m s R = (plc (8 * N) (h0 s) (rot (h0 s) 15) R).all fun p => hasBit m p) := Lib.hid (by unfold mayOn; rw [HLN.out])
    generalize plc (8 * N) (h0 s) (rot (h0 s) 15) R = P at *
    go_loopw [7] (fun i wj => ∃ j : Nat, j ≤ R ∧ i = .int .i64 j ∧ Hid (((P.take j).all fun p => hasBit m p) = true) ∧ Below w3.heap.size w3 wj) (fun i _ => R - (intOf i).toNat)
    case atStart => exact ⟨0, by omega, rfl, Lib.hid rfl, Below.refl _ _⟩
    case round =>
      obtain ⟨j, hj, rfl, hall, hwj⟩ := hrel
      have hwB : Below w.heap.size w wr := hb3.trans (hwj.mono hb3.size)
      by_cases hltj : j < R
      · have hjP : j < P.length := by omega
        have hp8 := hpm.out P[j] (List.getElem_mem hjP)
        have HPJ : Hid (((P.take (j + 1)).all fun p => hasBit m p) = (((P.take j).all fun p => hasBit m p) && hasBit m P[j])) := Lib.hid (by rw [List.take_succ_eq_append_getElem hjP, List.all_append]; simp)
        have HF : Hid (hasBit m P[j] = false → mayOn m s R = false) := Lib.hid (by
          intro hf
          rw [HO.out]
          apply Bool.eq_false_iff.2
          intro ha
          rw [List.all_eq_true] at ha
          have := ha _ (List.getElem_mem hjP)
          rw [hf] at this
          cases this)
        have hcp : w3.cell? ⟨gp, j, none⟩ = some (.int .u32 (P[j] : Nat)) := by
          rw [HO3.out.cellAt j (by omega)]
          simp [cells32, hjP]
        have hcp2 : wr.cell? ⟨gp, j, none⟩ = some (.int .u32 (P[j] : Nat)) := by
          rw [hwj.cell (p := ⟨gp, j, none⟩) hgp.2]; exact hcp
        clear hcp
        generalize P[j] = p at *
        obtain ⟨q, hqd, hqt, hqw, hqq⟩ : ∃ q : Nat, (p : Int) / 8 = (q : Int) ∧ (p : Int).tdiv 8 = (q : Int) ∧ IntKind.u32.wrap (q : Int) = (q : Int) ∧ Hid (p / 8 = q) :=
          ⟨p / 8, by omega, by rw [Int.tdiv_eq_ediv_of_nonneg (by omega)]; omega, by rw [IntKind.wrap_u32]; omega, Lib.hid rfl⟩
        have hq : q < m.length := by rw [HLN.out, ← hqq.out]; omega
        have hqN : q < N := by rw [← hqq.out]; omega
        have hcell := (HB.out.below hwB).get q (by simp; omega)
        rw [List.getElem_append_left hq] at hcell
        have i1 : (0 : Int) ≤ (q : Int) := by omega
        have i2 : (q : Int) < (N : Int) + 1 := by omega
        have i3 : (j : Int) < (R : Int) := by omega
        have i4 : (0 : Int) ≤ (j : Int) := by omega
        obtain ⟨r, hr, hrt, hrw, hr8, hrv⟩ : ∃ r : Nat, (p : Int) % 8 = (r : Int) ∧ (p : Int).tmod 8 = (r : Int) ∧ IntKind.u32.wrap (r : Int) = (r : Int) ∧ r < 8 ∧ Hid (p % 8 = r) :=
          ⟨p % 8, by omega, by rw [Int.tmod_eq_emod_of_nonneg (by omega)]; omega, by rw [IntKind.wrap_u32]; omega, Nat.mod_lt _ (by omega), Lib.hid rfl⟩
        have HH : Hid (hasBit m p = ((m[q].toNat / 2 ^ r % 2) == 1)) := Lib.hid (by
          unfold hasBit
          rw [hqq.out, List.getElem?_eq_getElem hq, hrv.out]
          rfl)
        generalize m[q] = cq at *
        have hcq := cq.toNat_lt
        obtain ⟨v, hsh, hsw, hvb, hv256⟩ : ∃ v : Nat, Op.shift BinOp.shr IntKind.u8 (cq.toNat : Nat) IntKind.u32 (r : Int) = pure (.int .u8 (v : Int)) ∧ (cq.toNat : Int) / 2 ^ r = (v : Int) ∧ Hid (v = cq.toNat / 2 ^ r) ∧ v < 256 :=
          ⟨cq.toNat / 2 ^ r, shr8 _ _ hr8, by simp, Lib.hid rfl, Nat.lt_of_le_of_lt (Nat.div_le_self _ _) (by omega)⟩
        obtain ⟨z, hz1, hzt, hzw, hz2, hzb⟩ : ∃ z : Nat, (v : Int) % 2 = (z : Int) ∧ (v : Int).tmod 2 = (z : Int) ∧ IntKind.u8.wrap (z : Int) = (z : Int) ∧ z < 2 ∧ Hid (z = v % 2) :=
          ⟨v % 2, by omega, by rw [Int.tmod_eq_emod_of_nonneg (by omega)]; omega, by rw [IntKind.wrap_u8]; omega, by omega, Lib.hid rfl⟩
        by_cases h1 : z = 1
        · have e3 : ((z : Int) == 0) = false := by simp; omega
          have HZ := Lib.hid h1
          clear h1
          go_wp2
          go_quiet (fail)
          go_wp2
          refine ⟨⟨j + 1, by omega, by go_num, Lib.hid ?_, below_drewN hwj _⟩, by simp [intOf]; omega⟩
          rw [HPJ.out, hall.out]
          simp [HH.out, ← hvb.out, ← hzb.out, HZ.out]
        · have e3 : ((z : Int) == 0) = true := by simp; omega
          have HZ := Lib.hid h1
          clear h1
          go_wp2
          go_quiet (fail)
          go_wp2
          go_ret
          refine ⟨ret_bool ?_, below_drewN hwB _⟩
          rw [HM.out, HF.out]
          rw [HH.out, ← hvb.out, ← hzb.out]
          simpa using HZ.out
      · obtain rfl : j = R := by omega
        have i3 : ¬ (j : Int) < (j : Int) := by omega
        go_wp2
        go_ret
        refine ⟨ret_bool ?_, hwB⟩
        rw [HM.out, HO.out]
        have := hall.out
        rw [← hpl, List.take_length] at this
        exact this.symm
theorem rmay_any (a : Option Addr) (cap : Nat) (f : List UInt8) (s : ByteArray) (w : World) (hl : f.length ≤ 1000001) (hcap : f.length ≤ cap) (hcm : cap ≤ maxLen) (hs : s.size ≤ maxLen) (hb : Bytes w a f) :
    Calls Try.prog 21 #[.slice a f.length cap, .string s] w fun e w' => e = .returned (.bool (mayf f s)) ∧ Below w.heap.size w w' := by
  by_cases h2 : f.length < 2
  · have HM := Lib.hid (mayf_small f s h2)
    have d1 : decide ((f.length : Int) - 1 < 1) = true := by simp; omega
    have d2 : (f.length : Int) - 1 < 1 := by omega
    go_enter Try.func21, Try.ntmps21
    go_wp2
    go_ret
    exact ⟨ret_bool HM.out.symm, Below.refl _ _⟩
  · obtain ⟨m, c, rfl⟩ : ∃ m c, f = m ++ [c] := ⟨f.dropLast, f.getLast (by intro e; subst e; simp at h2), (List.dropLast_concat_getLast _).symm⟩
    obtain ⟨b, off, rfl, _⟩ := hb 0 (by omega)
    have hlen : (m ++ [c]).length = m.length + 1 := by simp
    rw [mayf_snoc m c s (by omega), hlen]
    exact rmay_row b off cap m.length m c s w rfl (by omega) (by omega) (by omega) hcm hs hb

set_option maxHeartbeats 400000 in
theorem few_any (a : Option Addr) (cap : Nat) (ks : List ByteArray) (w : World) (hcap : ks.length ≤ cap) (hcm : cap ≤ maxLen) :
    Calls Try.prog 18 #[.slice a ks.length cap] w fun e w' => e = .returned (.slice a (ks.take 10000).length cap) ∧ w = w' := by
  obtain ⟨k, hk, hkc, hkl⟩ : ∃ k : Nat, (if (10000 : Int) < (ks.length : Int) then 10000 else (ks.length : Int)) = (k : Int) ∧ (k : Int) ≤ (cap : Int) ∧ Hid ((ks.take 10000).length = k) :=
    ⟨(ks.take 10000).length, by simp; split <;> omega, by simp; omega, Lib.hid rfl⟩
  have hcm' : cap ≤ 9223372036854775807 := by unfold maxLen at hcm; omega
  clear hcm
  go_enter Try.func18, Try.ntmps18
  go_wp2
  go_ret
  exact ⟨by rw [hkl.out]; rfl, rfl⟩
end Go.Proofs.Ytogihaiedemdhaa
