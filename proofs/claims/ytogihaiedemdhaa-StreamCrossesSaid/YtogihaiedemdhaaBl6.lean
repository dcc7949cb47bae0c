/-
  The reference's Make.
-/
import Derived.Test.YtogihaiedemdhaaBl5
import Derived.Deep.DeepCutAuto
import Derived.StillTailTactics
namespace Go.Proofs.Ytogihaiedemdhaa
open Go.RowKit
set_option linter.unusedVariables false

set_option maxRecDepth 100000 in
set_option maxHeartbeats 3200000 in
theorem rmake_any (a : Option Addr) (cap : Nat) (ks : List ByteArray) (b : Int) (w : World) (hn : ks.length ≤ 10000) (hb : -9223372036854775808 ≤ b ∧ b ≤ 9223372036854775807) (hs : Strs w a ks) :
    Calls Try.prog 19 #[.slice a ks.length cap, .int .i64 b] w fun e w' => ∃ v, e = .returned v ∧ w'.ownsRow w.heap.size 5 1 v (mkf ks b).length (cells8 (mkf ks b)) ∧ Below w.heap.size w w' := by
  have hb1 := hb.1
  have hb2 := hb.2
  obtain ⟨V, hV, hV1, hV2⟩ : ∃ V : Nat, bitsOf b = V ∧ 1 ≤ V ∧ V ≤ 64 := ⟨_, rfl, (bitsOf_rng b).1, (bitsOf_rng b).2⟩
  obtain ⟨R, hR, hR1, hR2⟩ : ∃ R : Nat, probesOf b = R ∧ 1 ≤ R ∧ R ≤ 30 := ⟨_, rfl, (probesOf_rng b).1, (probesOf_rng b).2⟩
  obtain ⟨M, hM1, hM2, hM3⟩ : ∃ M : Nat, (ks.length : Int) * (V : Int) = (M : Int) ∧ M ≤ 640000 ∧ Hid (M = ks.length * V) :=
    ⟨ks.length * V, by simp, by have := Nat.mul_le_mul hn hV2; omega, Lib.hid rfl⟩
  obtain ⟨T, hT2, hT3⟩ : ∃ T : Nat, T ≤ 640000 ∧ T = max 64 M := ⟨max 64 M, by omega, rfl⟩
  obtain ⟨N, hN1, hN2, hN3⟩ : ∃ N : Nat, ((T : Int) + 7) / 8 = (N : Int) ∧ N ≤ 100000 ∧ 1 ≤ N := ⟨(T + 7) / 8, by omega, by omega, by omega⟩
  have hNl : N = lenOf ks.length b := by unfold lenOf; rw [hV, ← hM3.out]; omega
  have HN := Lib.hid hNl
  have HRp := Lib.hid hR
  have HVp := Lib.hid hV
  have HT := Lib.hid hT3
  clear hV hR hT3 hb hNl
  obtain ⟨i0, hi0, hz0, hz1, hz2⟩ := info_parts Try.infoB
  obtain ⟨Z, hZ, hmk⟩ : ∃ Z : Array Value, (Z.size = N ∧ Z.toList.take N = cells8 (List.replicate N 0)) ∧ ∀ w : World, (Instr.makeSlice 32 (.int .i64 (N : Int)) (.int .i64 (N : Int))).run Try.prog w = .ok (.slice (some ⟨w.heap.size, 0, none⟩) N N) (w.alloc (.cells Z 5)) := by
    refine ⟨madeCells #[.int .u8 0] N, ⟨size_madeCells _ _, ?_⟩, fun w => ?_⟩
    · rw [toList_madeCells_one, List.take_replicate, Nat.min_self]
      simp [cells8]
    · have := run_make (P := Try.prog) w 32 5 i0 _ Try.underlying32 hi0 hz0 .i64 .i64 N N (by omega) (by omega) (by rw [hz2]; omega) (by omega)
      rw [hz1, show (Value.int .u8 0).cells = #[Value.int .u8 0] from rfl, Nat.mul_one, Int.toNat_natCast] at this
      simpa using this
  have HZ := Lib.hid hZ
  clear hZ hi0 hz0 hz1 hz2 i0
  have hlen : ks.length ≤ 10000 := hn
  have HS := Lib.hid hs
  clear hs
  have hbits := bits_any b w hb1 hb2
  rw [HVp.out, HRp.out] at hbits
  have HBI := Lib.hid hbits
  clear hbits
  go_enter Try.func19, Try.ntmps19
  go_upto_if 22 with ((with_reducible refine HBI.out.mono ?_); rintro _ _ ⟨rfl, rfl⟩)
  go_cut [7] (fun s7 wx => s7 = .int .i64 T ∧ w = wx)
  case first =>
    by_cases hM : M < 64
    · have hTT : T = 64 := by have := HT.out; omega
      subst hTT
      go_wp2
      go_meet
      case rel => exact ⟨rfl, rfl⟩
    · have hTT : T = M := by have := HT.out; omega
      subst hTT
      go_wp2
      go_meet
      case rel => exact ⟨rfl, rfl⟩
  case rest =>
    obtain ⟨rfl, rfl⟩ := hcut
    clear hM1
    go_wp2
    have hO0 : (w.alloc (Obj.cells Z 5)).ownsRow w.heap.size 5 1 (.slice (some ⟨w.heap.size, 0, none⟩) N N) N (cells8 (putKeys (List.replicate N 0) (ks.take 0) R)) := by
      refine ⟨by simp [cells8, putKeys], .inr ⟨w.heap.size, N, Z, rfl, Nat.le_refl _, heap_at w _, Nat.le_refl _, by unfold maxLen; omega, by rw [HZ.out.1, Nat.mul_one], ?_⟩⟩
      rw [Nat.mul_one, HZ.out.2]; rfl
    have HO0 := Lib.hid hO0
    have hbw : Below w.heap.size w (w.alloc (Obj.cells Z 5)) := (Below.refl _ _).alloc (Nat.le_refl _) _
    clear hO0 HZ hmk HT hN1
    generalize w.alloc (Obj.cells Z 5) = w2 at *
    go_loopw [9] (fun i wr => ∃ k : Nat, k ≤ ks.length ∧ i = .int .i64 k ∧ Hid (wr.ownsRow w.heap.size 5 1 (.slice (some ⟨w.heap.size, 0, none⟩) N N) N (cells8 (putKeys (List.replicate N 0) (ks.take k) R))) ∧ Below w.heap.size w wr) (fun i _ => ks.length - (intOf i).toNat)
    case atStart => exact ⟨0, by omega, rfl, HO0, hbw⟩
    case round =>
      obtain ⟨k, hk, rfl, hown, hwr⟩ := hrel
      by_cases hlt : k < ks.length
      · obtain ⟨bb, off, rfl, hc, hkm⟩ := (HS.out.below hwr) k hlt
        have HP : Hid (putKeys (List.replicate N 0) (ks.take (k + 1)) R = putKey (putKeys (List.replicate N 0) (ks.take k) R) ks[k] R) := Lib.hid (putKeys_snoc _ _ _ _ hlt)
        have hpl : (putKeys (List.replicate N 0) (ks.take k) R).length = N := by rw [putKeys_length, List.length_replicate]
        generalize putKeys (List.replicate N 0) (ks.take k) R = m at *
        have hin : (k : Int) < (ks.length : Int) := by omega
        have hR : R ≤ 100 := by omega
        have HPK : Hid (putKey m ks[k] R = orBits m (plc (8 * N) (h0 ks[k]) (rot (h0 ks[k]) 15) R)) := Lib.hid (by unfold putKey; rw [hpl])
        have HM := Lib.hid hpl
        clear hpl
        generalize hKey : ks[k] = key at *
        clear hKey
        have hg0 : w.heap.size < wr.heap.size := (hown.out.lt _ rfl).2
        go_wp2_with ((with_reducible refine (places_at key (8 * N) R _ wr (by omega) hkm (by omega) (by omega) hR).mono ?_); rintro _ w3 ⟨v3, rfl, ho3, hb3⟩; obtain ⟨gp, cp, rfl, hgp⟩ := ho3.form (by omega); have HO3 := Lib.hid ho3; clear ho3)
        have hpm : Hid (∀ p ∈ plc (8 * N) (h0 key) (rot (h0 key) 15) R, p < 8 * N) := Lib.hid (plc_lt _ _ _ _ (by omega))
        have hpl : (plc (8 * N) (h0 key) (rot (h0 key) 15) R).length = R := plc_length _ _ _ _
        generalize plc (8 * N) (h0 key) (rot (h0 key) 15) R = P at *
        have hgg : wr.heap.size ≤ gp := (HO3.out.lt gp rfl).1
        obtain ⟨g0, hg⟩ : ∃ g0, w.heap.size = g0 := ⟨_, rfl⟩
        have hO3 : Hid (w3.ownsRow w.heap.size 5 1 (.slice (some ⟨w.heap.size, 0, none⟩) N N) N (cells8 (orBits m (P.take 0)))) := Lib.hid (by
          have := hown.out.kept (w' := w3) (row := none) ⟨hb3.os, hb3.tape, hb3.output, hb3.size, fun k hk _ => hb3.block k hk⟩ (by simp [Value.ownBlock])
          simpa [orBits] using this)
        clear hg g0
        go_loopw [11] (fun i wj => ∃ j : Nat, j ≤ R ∧ i = .int .i64 j ∧ Hid (wj.ownsRow w.heap.size 5 1 (.slice (some ⟨w.heap.size, 0, none⟩) N N) N (cells8 (orBits m (P.take j)))) ∧ Hid (wj.ownsRow wr.heap.size 24 1 (.slice (some ⟨gp, 0, none⟩) R cp) R (cells32 P)) ∧ Below w.heap.size w wj) (fun i _ => R - (intOf i).toNat)
        case atStart => exact ⟨0, by omega, rfl, hO3, HO3, hwr.trans (hb3.mono (by omega))⟩
        case round =>
          obtain ⟨j, hj, rfl, hownj, hownp, hwj⟩ := hrel
          by_cases hltj : j < R
          · have hjP : j < P.length := by omega
            have hp8 := hpm.out P[j] (List.getElem_mem hjP)
            have HPJ : Hid (orBits m (P.take (j + 1)) = orBit (orBits m (P.take j)) P[j]) := Lib.hid (by rw [List.take_succ_eq_append_getElem hjP, orBits_snoc])
            have hcp := hownp.out.cellAt j (by omega)
            rw [show (cells32 P)[j]? = some (.int .u32 (P[j] : Nat)) by simp [cells32, hjP]] at hcp
            have hml : (orBits m (P.take j)).length = N := by rw [orBits_length, HM.out]
            generalize P[j] = p at *
            generalize orBits m (P.take j) = mj at *
            obtain ⟨q, hqd, hqt, hqw, hqq⟩ : ∃ q : Nat, (p : Int) / 8 = (q : Int) ∧ (p : Int).tdiv 8 = (q : Int) ∧ IntKind.u32.wrap (q : Int) = (q : Int) ∧ Hid (p / 8 = q) :=
              ⟨p / 8, by omega, by rw [Int.tdiv_eq_ediv_of_nonneg (by omega)]; omega, by rw [IntKind.wrap_u32]; omega, Lib.hid rfl⟩
            have hq : q < mj.length := by rw [← hqq.out]; omega
            have hcell := hownj.out.cellAt q (by omega)
            rw [cells8_getElem? mj _ hq] at hcell
            have hfr := hownj.out.frozenAt q
            have i1 : (0 : Int) ≤ (q : Int) := by omega
            have i2 : (q : Int) < (N : Int) := by omega
            have i3 : (j : Int) < (R : Int) := by omega
            have i4 : (0 : Int) ≤ (j : Int) := by omega
            obtain ⟨r, hr, hrt, hrw, hr8, hrv⟩ : ∃ r : Nat, (p : Int) % 8 = (r : Int) ∧ (p : Int).tmod 8 = (r : Int) ∧ IntKind.u32.wrap (r : Int) = (r : Int) ∧ r < 8 ∧ Hid (p % 8 = r) :=
              ⟨p % 8, by omega, by rw [Int.tmod_eq_emod_of_nonneg (by omega)]; omega, by rw [IntKind.wrap_u32]; omega, Nat.mod_lt _ (by omega), Lib.hid rfl⟩
            obtain ⟨v, hsh, hsw, hvb⟩ : ∃ v : Nat, Op.shift BinOp.shl IntKind.u8 1 IntKind.u32 (r : Int) = pure (.int .u8 (v : Int)) ∧ IntKind.u8.wrap (2 ^ r) = (v : Int) ∧ Hid (v = (bit8 p).toNat) :=
              ⟨(bit8 p).toNat, by rw [← hrv.out]; exact shl8 _, by rw [← hrv.out]; exact shl8w _, Lib.hid rfl⟩
            obtain ⟨c', hor, hcv⟩ : ∃ c' : UInt8, bits BinOp.or IntKind.u8 ((mj[q]'hq).toNat : Nat) (v : Int) = (c'.toNat : Nat) ∧ Hid (orBit mj p = mj.set q c') :=
              ⟨mj[q]'hq ||| bit8 p, by rw [hvb.out]; exact or8 _ _, Lib.hid (by unfold orBit; rw [hqq.out, List.getElem?_eq_getElem hq]; rfl)⟩
            generalize (mj[q]'hq).toNat = cv at *
            go_wp2
            go_still_tail 22, (by kernel_rfl)
            change wpList _ _ _ _ _ wr.drew
            go_wp2
            have h5 := hownj.out.stored q (.int .u8 (c'.toNat : Nat))
            rw [cells8_set] at h5
            refine ⟨⟨j + 1, by omega, by go_num, Lib.hid ?_, Lib.hid (World.ownsRow.drew (hownp.out.kept h5.2 (Or.inr (by intro e; have e2 : gp = w.heap.size := Option.some.inj e; omega)))), (hwj.setCell (by show _ ≤ w.heap.size; omega) _).drew⟩, by simp [intOf]; omega⟩
            rw [HPJ.out, hcv.out]
            exact World.ownsRow.drew h5.1
          · obtain rfl : j = R := by omega
            have hin2 : ¬ (j : Int) < (j : Int) := by omega
            have HE : Hid (P.take j = P) := Lib.hid (by rw [← hpl, List.take_length])
            go_wp2
            refine ⟨⟨k + 1, by omega, by go_num, Lib.hid ?_, hwj⟩, by simp [intOf]; omega⟩
            have h5 := hownj.out
            rw [HE.out] at h5
            rw [HP.out, HPK.out]
            exact h5
      · obtain rfl : k = ks.length := by omega
        rw [List.take_length] at hown
        have hin : ¬ (ks.length : Int) < (ks.length : Int) := by omega
        have hpl : (putKeys (List.replicate N 0) ks R).length = N := by rw [putKeys_length, List.length_replicate]
        have HE : Hid (mkf ks b = putKeys (List.replicate N 0) ks R ++ [UInt8.ofNat R]) := Lib.hid (by unfold mkf; rw [← HN.out, HRp.out])
        have HR8 : Hid ((cells8 [UInt8.ofNat R]) = [.int .u8 (R : Nat)]) := Lib.hid (by
          simp [cells8]
          omega)
        generalize putKeys (List.replicate N 0) ks R = m at *
        have hNb : N ≤ 1000000000000 := by omega
        go_wp2_with (at_builtin; refine app_cell _ rfl _ _ 32 rfl Try.underlying32 Try.infoB rfl (by omega) rfl (hown.out.alloc _) rfl (heap_at wr _) rfl hNb (Nat.le_trans hwr.size (by simp)) ?_; intro v' w4 hown4 hb4 _; have HO4 := Lib.hid hown4; clear hown4)
        go_ret
        refine ⟨_, rfl, ?_, hwr.trans (((Below.refl _ _).alloc hwr.size _).trans hb4)⟩
        have h4 := HO4.out
        rw [HE.out, cells8_append, HR8.out, List.length_append, hpl]
        exact h4
end Go.Proofs.Ytogihaiedemdhaa
