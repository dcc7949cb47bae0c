/-
  The law on how few are kept.
-/
import Derived.Test.YthgbmijgoaihcaaSo10
import Derived.Test.YthgbmijgoaihcaaMg14
import Derived.Test.YthgbmijgoaihcaaMg15
import Derived.Test.YthgbmijgoaihcaaEnt2
import Derived.Test.YthgbmijgoaihcaaMg18
namespace Go.Proofs.Ythgbmijgoaihcaa
open Go.RowKit
set_option linter.unusedVariables false
theorem U64s.take {w : World} {a : Option Addr} {l : List Nat} (h : U64s w a l) (k : Nat) : U64s w a (l.take k) := by
  intro i hi
  have hi' : i < l.length := by simp at hi; omega
  obtain ⟨b, off, e, hc⟩ := h i hi'
  exact ⟨b, off, e, by simpa using hc⟩
set_option maxRecDepth 100000 in
set_option maxHeartbeats 3200000 in
theorem law_few (a : Option Addr) (cap : Nat) (l : List Ent) (am : Option Addr) (capm : Nat) (ms : List Nat) (last : Bool) (w : World) (hl : l.length ≤ cap) (hm : cap ≤ maxLen) (hb : Ents w a l)
    (hml : ms.length ≤ capm) (hmm : capm ≤ maxLen) (hms : ∀ m ∈ ms, m < 18446744073709551616) (hI : U64s w am ms) :
    Calls Try.prog 8 #[.slice a l.length cap, .slice am ms.length capm, .bool last] w fun e w' => e = .returned (.bool true) ∧ Below w.heap.size w w' := by
  have HSH := Lib.hid (fun w' => mshown_any sorts w')
  obtain ⟨p, HP⟩ : ∃ p, Hid (min l.length 500 = p) := ⟨_, Lib.hid rfl⟩
  obtain ⟨q, HQ⟩ : ∃ q, Hid (min ms.length 100 = q) := ⟨_, Lib.hid rfl⟩
  have hp5 : p ≤ 500 := by have := HP.out; omega
  have hq1 : q ≤ 100 := by have := HQ.out; omega
  have hpl : p ≤ l.length := by have := HP.out; omega
  have hql : q ≤ ms.length := by have := HQ.out; omega
  have hl1 : l.length ≤ 9223372036854775807 := by unfold maxLen at hm; omega
  have hm1 : ms.length ≤ 9223372036854775807 := by unfold maxLen at hmm; omega
  obtain ⟨xs, HX⟩ : ∃ xs, Hid (l.take p = xs) := ⟨_, Lib.hid rfl⟩
  obtain ⟨mq, HM⟩ : ∃ mq, Hid (ms.take q = mq) := ⟨_, Lib.hid rfl⟩
  have hxl : xs.length = p := by rw [← HX.out]; simp; omega
  have hml2 : mq.length = q := by rw [← HM.out]; simp; omega
  have HKP := Lib.hid (fun w' hb hu => keep_any sorts a cap xs am capm mq last w' (by omega) hm (by omega) hb (by omega) (fun m h => hms m (by rw [← HM.out] at h; exact List.mem_of_mem_take h)) hu)
  rw [hxl, hml2] at HKP
  have HE : Hid (Ents w a xs) := Lib.hid (by rw [← HX.out]; exact hb.take p)
  have HU : Hid (U64s w am mq) := Lib.hid (by rw [← HM.out]; exact hI.take q)
  have HF := Lib.hid (keep_few mq last xs)
  have HPL := Lib.hid (keep_places mq last xs)
  have HXB : Hid (keepR mq last xs ≠ [] → xs.Pairwise Bef) := Lib.hid (fun h => by
    by_cases hr : rises xs = true
    · exact rises_pw xs hr
    · exact absurd (by unfold keepR; rw [if_neg hr]) h)
  obtain ⟨i0, hi0⟩ : ∃ i0, Try.prog.info? 33 = some i0 := by
    obtain ⟨i0, hi0, _⟩ := info_parts Try.infoE
    exact ⟨i0, hi0⟩
  obtain ⟨i1, hi1⟩ : ∃ i1, Try.prog.info? 31 = some i1 := by
    obtain ⟨i1, hi1, _⟩ := info_parts infoU
    exact ⟨i1, hi1⟩
  have HC1 := Lib.hid (fun w => run_cut_to (P := Try.prog) Try.underlying22 hi0 a l.length cap p .i64 (by omega) w)
  have HC2 := Lib.hid (fun w => run_cut_to (P := Try.prog) Try.underlying35 hi1 am ms.length capm q .i64 (by omega) w)
  clear hi0 hi1 hb hI hms
  generalize keepR mq last xs = R at *
  go_enter Try.func8, Try.ntmps8
  go_upto_region 2 with (refine (HSH.out _).mono ?_; rintro _ w1 ⟨rfl, hb1⟩)
  have HB1 := Lib.hid hb1
  clear hb1
  go_cut [8] (fun v wx => v = .slice a p cap ∧ w1 = wx)
  case first =>
    have hcut := HC1.out
    by_cases h5 : l.length ≤ 500
    · obtain rfl : p = l.length := by have := HP.out; omega
      have h6 : (l.length : Int) ≤ 500 := by omega
      have h7 : ¬ (500 : Int) < (l.length : Int) := by omega
      go_wp2
      go_meet
      case rel => exact ⟨rfl, rfl⟩
    · obtain rfl : p = 500 := by have := HP.out; omega
      have h6 : ¬ (l.length : Int) ≤ 500 := by omega
      have h7 : (500 : Int) < (l.length : Int) := by omega
      go_wp2
      go_meet
      case rel => exact ⟨rfl, rfl⟩
  case rest =>
    obtain ⟨rfl, rfl⟩ := hcut
    go_upto_region 3 with (fail)
    go_cut [9] (fun v wx => v = .slice am q capm ∧ w1 = wx)
    case first =>
      have hcut := HC2.out
      by_cases h5 : ms.length ≤ 100
      · obtain rfl : q = ms.length := by have := HQ.out; omega
        have h6 : (ms.length : Int) ≤ 100 := by omega
        have h7 : ¬ (100 : Int) < (ms.length : Int) := by omega
        go_wp2
        go_meet
        case rel => exact ⟨rfl, rfl⟩
      · obtain rfl : q = 100 := by have := HQ.out; omega
        have h6 : ¬ (ms.length : Int) ≤ 100 := by omega
        have h7 : (100 : Int) < (ms.length : Int) := by omega
        go_wp2
        go_meet
        case rel => exact ⟨rfl, rfl⟩
    case rest =>
      obtain ⟨rfl, rfl⟩ := hcut
      go_wp2_with fail
      refine (HKP.out _ (HE.out.below HB1.out) (HU.out.below HB1.out)).mono ?_
      rintro _ w2 ⟨v1, rfl, ho1, hb2⟩
      obtain ⟨x1, c1, rfl, hc1, hc1m, he1, _⟩ := ho1.read
      have HR := Lib.hid he1
      have HB2 := Lib.hid (HB1.out.trans (hb2.mono HB1.out.size))
      have HE2 := Lib.hid (HE.out.below HB2.out)
      have hR1 : R.length ≤ 9223372036854775807 := by unfold maxLen at hc1m; omega
      obtain ⟨pl, HP1, HP2⟩ := HPL.out
      obtain ⟨fn, hfn⟩ : ∃ fn : Nat → Nat, Hid (fn 0 = 0 ∧ ∀ i, fn (i + 1) = runTo R i) := ⟨fun i => match i with | 0 => 0 | i + 1 => runTo R i, Lib.hid ⟨rfl, fun _ => rfl⟩⟩
      obtain ⟨fa, hfa⟩ : ∃ fa : Nat → Nat, Hid (fa 0 = 0 ∧ ∀ i, fa (i + 1) = pl i) := ⟨fun i => match i with | 0 => 0 | i + 1 => pl i, Lib.hid ⟨rfl, fun _ => rfl⟩⟩
      have HPa := Lib.hid HP1
      have HPb := Lib.hid HP2
      clear HP1 HP2 ho1 he1 hb2 HE HU HKP HPL HC1 HC2 HSH HX HM HP HQ
      go_wp2_with fail
      go_loopw [11, 12, 31] (fun nv av iv wr => ∃ i : Nat, i ≤ R.length ∧ iv = .int .i64 i ∧ nv = .int .i64 (fn i : Nat) ∧ av = .int .i64 (fa i : Nat) ∧ Below w2.heap.size w2 wr) (fun _ _ iv _ => R.length - (intOf iv).toNat)
      case atStart => exact ⟨0, by omega, rfl, by rw [hfn.out.1]; rfl, by rw [hfa.out.1]; rfl, Below.refl _ _⟩
      case round =>
        obtain ⟨i, hi, rfl, rfl, rfl, hwr⟩ := hrel
        obtain ⟨wA, rfl⟩ : ∃ wA, wA = wr := ⟨_, rfl⟩
        by_cases hlt : i < R.length
        · have HA := Lib.hid (HR.out.below hwr)
          obtain ⟨b, off, rfl, ⟨c0, c1, c2, c3⟩, ho1⟩ := HA.out i hlt
          have hin : (i : Int) < (R.length : Int) := by omega
          have h0 : (0 : Int) ≤ (i : Int) := by omega
          have hrun : runTo R i ≤ 101 := by have := HF.out i hlt; have := above_le mq (R.getD i default).seq; omega
          have hrunq : runTo R i ≤ q + 1 := by have := HF.out i hlt; have := above_le mq (R.getD i default).seq; omega
          have hpos : 0 < runTo R i := by cases i <;> unfold runTo <;> (try split) <;> omega
          -- is the key another than the one ahead?
          obtain ⟨g, hg⟩ : ∃ g : Nat, Hid (g + 1 = runTo R i) := ⟨runTo R i - 1, Lib.hid (by omega)⟩
          have hg1 : g ≤ 100 := by have := hg.out; omega
          have hgq : g ≤ q := by have := hg.out; omega
          clear hrun hrunq hpos
          obtain ⟨cb, hcb⟩ : ∃ cb : Bool, Hid (cb = (decide (0 < i) && !((R.getD i default).user.toList == (R.getD (i - 1) default).user.toList))) := ⟨_, Lib.hid rfl⟩
          have hcg : Hid (cb = true → g = 0) := Lib.hid (fun h => by
            have h1 := hg.out
            rw [hcb.out] at h
            cases i with
            | zero => simp at h
            | succ j =>
              rw [Bool.and_eq_true, Bool.not_eq_true', beq_eq_false_iff_ne, Nat.add_sub_cancel] at h
              unfold runTo at h1
              rw [if_neg h.2] at h1
              omega)
          have hcg2 : Hid (cb = false → fn i = g) := Lib.hid (fun h => by
            have h1 := hg.out
            rw [hcb.out] at h
            cases i with
            | zero => unfold runTo at h1; rw [hfn.out.1]; omega
            | succ j =>
              rw [Nat.add_sub_cancel] at h
              have h' : (R.getD (j + 1) default).user.toList = (R.getD j default).user.toList := by simpa using h
              unfold runTo at h1
              rw [if_pos h'] at h1
              rw [hfn.out.2]; omega)
          go_upto_region 9 with (fail)
          go_cut [49] (fun s wx => s = .bool cb ∧ Below wA.heap.size wA wx)
          case first =>
            by_cases hk0 : i = 0
            · have hv : Hid (cb = false) := Lib.hid (by rw [hcb.out]; simp [hk0])
              have d1 : decide ((0 : Int) < (i : Int)) = false := decide_eq_false (by omega)
              have d2 : decide (0 < i) = false := decide_eq_false (by omega)
              clear hk0
              go_quiet (fail)
              go_wp2
              go_meet
              case rel => exact ⟨congrArg Value.bool hv.out.symm, below_drewN (Below.refl _ _) _⟩
            · obtain ⟨j, rfl⟩ : ∃ j, i = j + 1 := ⟨i - 1, by omega⟩
              have d1 : decide ((0 : Int) < (j : Int) + 1) = true := decide_eq_true (by omega)
              have d2 : decide (0 < j + 1) = true := decide_eq_true (by omega)
              have hjl : j < R.length := by omega
              obtain ⟨_, _, ee, ⟨g0, g1, g2, g3⟩, _⟩ := HA.out j hjl
              cases ee
              have hv : Hid (cb = !((R[j + 1]'hlt).user.toList == (R[j]'hjl).user.toList)) := Lib.hid (by rw [hcb.out]; simp [List.getD_eq_getElem?_getD, hlt, hjl])
              have j1 : (j : Int) + 1 < (R.length : Int) := by omega
              have j2 : (0 : Int) ≤ (j : Int) + 1 := by omega
              have j3 : (j : Int) < (R.length : Int) := by omega
              have j4 : (0 : Int) ≤ (j : Int) := by omega
              have jw : IntKind.i64.wrap (j : Int) = (j : Int) := IntWalk.i64_in _ (by omega)
              clear hk0 hcb hcg hcg2
              generalize (R[j + 1]'hlt) = y at *
              generalize (R[j]'hjl) = x at *
              cases hu : (y.user.toList == x.user.toList) with
              | true =>
                go_quiet (fail)
                go_wp2
                go_meet
                case rel => exact ⟨congrArg Value.bool (by rw [hv.out, hu]; rfl), below_drewN (Below.refl _ _) _⟩
              | false =>
                go_quiet (fail)
                go_wp2
                go_meet
                case rel => exact ⟨congrArg Value.bool (by rw [hv.out, hu]; rfl), below_drewN (Below.refl _ _) _⟩
          case rest =>
            obtain ⟨rfl, hwx⟩ := hcut
            have HWX := Lib.hid (hwr.trans (hwx.mono hwr.size))
            clear hwx
            go_upto_if 49 with (fail)
            go_cut [11] (fun s wy => s = .int .i64 (g : Nat) ∧ Below w2.heap.size w2 wy)
            case first =>
              cases cb with
              | true =>
                have hv : Hid (g = 0) := Lib.hid (hcg.out rfl)
                clear hcg hcg2
                go_wp2
                go_meet
                case rel => exact ⟨by rw [hv.out]; rfl, HWX.out⟩
              | false =>
                have hv : Hid (fn i = g) := Lib.hid (hcg2.out rfl)
                clear hcg hcg2
                go_wp2
                go_meet
                case rel => exact ⟨by rw [hv.out], HWX.out⟩
            case rest =>
              obtain ⟨rfl, hwy⟩ := hcut
              have hPi := HPa.out i hlt
              have hfp : fa i ≤ pl i := by
                cases i with
                | zero => rw [hfa.out.1]; omega
                | succ j => rw [hfa.out.2]; exact Nat.le_of_lt (HPb.out j (by omega))
              have HPI := Lib.hid hPi.2
              have hplt : pl i < p := by have := hPi.1; omega
              have HBX : Hid (xs.Pairwise Bef) := Lib.hid (HXB.out (by intro e; rw [e] at hlt; simp at hlt))
              clear hPi hcg hcg2 hcb c0 c1 c2 c3 hwr
              go_wp2_with fail
              go_loopw [12] (fun av wz => ∃ m : Nat, av = .int .i64 m ∧ m ≤ pl i ∧ Below w2.heap.size w2 wz) (fun av _ => pl i - (intOf av).toNat)
              case atStart => exact ⟨fa i, rfl, hfp, hwy⟩
              case round =>
                obtain ⟨m, rfl, hmp, hwz⟩ := hrel
                obtain ⟨_, _, ee, ⟨c0, c1, c2, c3⟩, _⟩ := (HR.out.below hwz) i hlt
                cases ee
                have hml3 : m < xs.length := by omega
                obtain ⟨b', off', rfl, ⟨d0, d1, d2, d3⟩, _⟩ := (HE2.out.below hwz) m hml3
                have k1 : (m : Int) < (p : Int) := by omega
                have k2 : (0 : Int) ≤ (m : Int) := by omega
                have hxR : Hid (xs.getD (pl i) default = R[i]) := Lib.hid (HPI.out.trans (by simp [List.getD_eq_getElem?_getD, hlt]))
                by_cases hmq : m = pl i
                · have hxm : xs[m] = R[i] := by rw [← hxR.out, ← hmq]; simp [List.getD_eq_getElem?_getD, hml3]
                  rw [hxm] at d0 d1 d2 d3
                  have HMQ := Lib.hid hmq
                  clear hxm hxR hmq
                  generalize R[i] = x at *
                  have k3 : ((m : Int) == (p : Int)) = false := by simp; omega
                  have k4 : decide ((q : Int) + 1 < (g : Int) + 1) = false := by simp; omega
                  have k5 : ¬ ((q : Int) + 1 < (g : Int) + 1) := by omega
                  have k6 : ¬ ((q : Int) < (g : Int)) := by omega
                  go_wp2
                  go_quiet (fail)
                  go_wp2
                  exact ⟨⟨i + 1, by omega, by go_num, by rw [hfn.out.2, ← hg.out]; go_num, by rw [hfa.out.2, ← HMQ.out], below_drewN hwz _⟩, by simp [intOf]; omega⟩
                · have hbf : Bef xs[m] R[i] := by
                    have := bef_getD xs HBX.out m (pl i) (by omega) (by omega)
                    rw [hxR.out] at this
                    simpa [List.getD_eq_getElem?_getD, hml3] using this
                  clear hxR
                  generalize R[i] = x at *
                  generalize xs[m] = y at *
                  have H2 := Lib.hid hbf
                  clear hbf
                  by_cases hu : (y.user.toList == x.user.toList) = true
                  · have hs : ((y.seq : Int) == (x.seq : Int)) = false := by
                      have := bef_not_same H2.out (by simpa using hu)
                      simp; omega
                    go_wp2
                    go_quiet (fail)
                    go_wp2
                    exact ⟨⟨m + 1, by go_num, by omega, below_drewN hwz _⟩, by simp [intOf]; omega⟩
                  · rw [Bool.not_eq_true] at hu
                    go_wp2
                    go_quiet (fail)
                    go_wp2
                    exact ⟨⟨m + 1, by go_num, by omega, below_drewN hwz _⟩, by simp [intOf]; omega⟩
        · obtain rfl : i = R.length := by omega
          go_wp2
          go_ret
          exact ⟨rfl, HB2.out.trans (hwr.mono HB2.out.size)⟩
end Go.Proofs.Ythgbmijgoaihcaa
