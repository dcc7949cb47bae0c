/-
  The reference's Keep: the walk.
-/
import Derived.Test.YthgbmijgoaihcaaMg12
import Derived.Test.YthgbmijgoaihcaaSplit1
import Derived.Test.YthgbmijgoaihcaaEnt2
import Derived.Deep.DeepCutAuto
import Derived.IntWalk
namespace Go.Proofs.Ythgbmijgoaihcaa
open Go.RowKit
set_option linter.unusedVariables false

theorem seenB_snoc (ms : List Nat) (k a b : Nat) (h : k < ms.length) : seenB (ms.take (k + 1)) a b = (seenB (ms.take k) a b || (decide (a ≤ ms[k]) && decide (ms[k] < b))) := by
  unfold seenB
  rw [List.take_succ_eq_append_getElem h, List.any_append]
  simp
theorem seenB_hit (ms : List Nat) (k a b : Nat) (h : k < ms.length) (h1 : a ≤ ms[k]) (h2 : ms[k] < b) : seenB ms a b = true := by
  unfold seenB
  rw [List.any_eq_true]
  exact ⟨ms[k], List.getElem_mem h, by simp [h1, h2]⟩
set_option maxRecDepth 100000 in
set_option maxHeartbeats 800000 in
theorem seen_any (am : Option Addr) (capm : Nat) (ms : List Nat) (a b : Nat) (w : World) (hlen : ms.length ≤ 17592186044400) (hb : U64s w am ms) :
    Calls Try.prog 48 #[.slice am ms.length capm, .int .u64 (a : Nat), .int .u64 (b : Nat)] w fun e w' => e = .returned (.bool (seenB ms a b)) ∧ w' = w := by
  go_enter Try.func48, Try.ntmps48
  go_wp2
  go_loop [7] (fun i => ∃ k : Nat, k ≤ ms.length ∧ i = .int .i64 k ∧ Hid (seenB (ms.take k) a b = false)) (fun i => ms.length - (intOf i).toNat)
  case atStart => exact ⟨0, by omega, rfl, Lib.hid rfl⟩
  case round =>
    obtain ⟨k, hk, rfl, hs⟩ := hrel
    by_cases hlt : k < ms.length
    · obtain ⟨bb, off, rfl, hc⟩ := hb k hlt
      have hin : (k : Int) < (ms.length : Int) := by omega
      have h0 : (0 : Int) ≤ (k : Int) := by omega
      have HSN := Lib.hid (seenB_snoc ms k a b hlt)
      have HSH := Lib.hid (seenB_hit ms k a b hlt)
      generalize ms[k] = x at *
      by_cases h1 : a ≤ x
      · by_cases h2 : x < b
        · have d1 : decide ((a : Int) ≤ (x : Int)) = true := by simp; omega
          have d2 : decide ((x : Int) < (b : Int)) = true := by simp; omega
          have HT := Lib.hid (HSH.out h1 h2)
          go_wp2
          go_ret
          exact ⟨ret_bool HT.out.symm, rfl⟩
        · have d1 : decide ((a : Int) ≤ (x : Int)) = true := by simp; omega
          have d2 : decide ((x : Int) < (b : Int)) = false := by simp; omega
          have HN : Hid (seenB (ms.take (k + 1)) a b = false) := Lib.hid (by rw [HSN.out, hs.out]; simp [h2])
          go_wp2
          exact ⟨⟨k + 1, by omega, by go_num, HN⟩, by simp [intOf]; omega⟩
      · have d1 : decide ((a : Int) ≤ (x : Int)) = false := by simp; omega
        have HN : Hid (seenB (ms.take (k + 1)) a b = false) := Lib.hid (by rw [HSN.out, hs.out]; simp [h1])
        go_wp2
        exact ⟨⟨k + 1, by omega, by go_num, HN⟩, by simp [intOf]; omega⟩
    · obtain rfl : k = ms.length := by omega
      have hin : ¬ (ms.length : Int) < (ms.length : Int) := by omega
      rw [List.take_length] at hs
      go_wp2
      go_ret
      exact ⟨ret_bool hs.out.symm, rfl⟩

set_option maxRecDepth 100000 in
set_option maxHeartbeats 6400000 in
theorem rkeep_any (a : Option Addr) (cap : Nat) (l : List Ent) (am : Option Addr) (capm : Nat) (ms : List Nat) (last : Bool) (w : World) (hl : l.length ≤ cap) (hm : cap ≤ maxLen) (hl2 : l.length ≤ 2932031007400) (hb : Ents w a l)
    (hlen : ms.length ≤ 17592186044400) (hI : U64s w am ms) :
    Calls Try.prog 27 #[.slice a l.length cap, .slice am ms.length capm, .bool last] w fun e w' => ∃ v, e = .returned v ∧ OwnE 33 w' w.heap.size v (keepR ms last l) ∧ Below w.heap.size w w' := by
  have hle : l.length ≤ 9223372036854775807 := by omega
  obtain ⟨i0, hi0, hs0⟩ : ∃ i0, Try.prog.info? 33 = some i0 ∧ i0.size = 4 := by
    obtain ⟨i0, hi0, _, hz1, _⟩ := info_parts Try.infoE
    exact ⟨i0, hi0, hz1⟩
  have R2 := Lib.hid (fun (a : Option Addr) (len cap k : Nat) (h : k ≤ cap) (w : World) => run_cut_to Try.underlying22 hi0 a len cap k .i64 h w)
  have HM := Lib.hid (rrises_any a cap l w (Nat.le_trans hl hm) hb)
  have HI := Lib.hid hI
  obtain ⟨K, HK⟩ : ∃ K, Hid (w.heap.size = K) := ⟨_, Lib.hid rfl⟩
  rw [HK.out] at HM ⊢
  cases hr : rises l with
  | false =>
    rw [hr] at HM
    have hv : Hid (keepR ms last l = []) := Lib.hid (by unfold keepR; rw [hr]; rfl)
    go_enter Try.func27, Try.ntmps27
    go_wp2_with (first
      | ((with_reducible refine HM.out.mono ?_); rintro _ w1 ⟨rfl, hb1⟩))
    go_ret
    exact ⟨_, rfl, by rw [hv.out]; exact OwnE.nil _ _ _, hb1⟩
  | true =>
    rw [hr] at HM
    have hv : Hid (keepR ms last l = kr ms last l l.length) := Lib.hid (by unfold keepR; rw [hr]; rfl)
    clear hr hI
    go_enter Try.func27, Try.ntmps27
    go_wp2_with (first
      | ((with_reducible refine HM.out.mono ?_); rintro _ w1 ⟨rfl, hw1⟩))
    clear HM
    go_loopw [7, 8] (fun ov iv wr => ∃ (k : Nat), k ≤ l.length ∧ iv = .int .i64 k ∧ Hid (OwnE 33 wr K ov (kr ms last l k)) ∧ Below K w wr) (fun _ iv _ => l.length - (intOf iv).toNat)
    case atStart => exact ⟨0, by omega, rfl, Lib.hid (OwnE.nil _ _ _), hw1⟩
    case round =>
      obtain ⟨k, hk, rfl, hown, hwr⟩ := hrel
      have hKw : K ≤ wr.heap.size := by have := hwr.size; rw [HK.out] at this; exact this
      by_cases hlt : k < l.length
      · have HBR := Lib.hid (hb.below (w' := wr) (by rw [HK.out]; exact hwr))
        have HIR := Lib.hid (HI.out.below (w' := wr) (by rw [HK.out]; exact hwr))
        have hin : (k : Int) < (l.length : Int) := by omega
        have h0 : (0 : Int) ≤ (k : Int) := by omega
        obtain ⟨kb, HKB⟩ : ∃ kb, Hid (keepI ms l k = kb) := ⟨_, Lib.hid rfl⟩
        obtain ⟨eb, HEB⟩ : ∃ eb, Hid (endI l k = eb) := ⟨_, Lib.hid rfl⟩
        have HS : Hid (kr ms last l (k + 1) = if (eb && last) = true then trimU (l.getD k default).user.toList (kr ms last l k ++ if kb = true then [l.getD k default] else []) else kr ms last l k ++ if kb = true then [l.getD k default] else []) := Lib.hid (by rw [← HKB.out, ← HEB.out]; rfl)
        have hlo : (kr ms last l k).length + 1 ≤ 2932031007402 := by have := kr_len ms last l k; omega
        obtain ⟨bb, off, rfl, ⟨c0, c1, c2, c3⟩, hok⟩ := HBR.out k hlt
        have hg : Hid (l.getD k default = l[k]) := Lib.hid (by simp [List.getD_eq_getElem?_getD, hlt])
        go_upto_region 7 with (fail)
        go_cut [49] (fun s wx => s = .bool kb ∧ Below wr.heap.size wr wx)
        case first =>
          by_cases hk0 : k = 0
          · have hv : Hid (kb = true) := Lib.hid (by rw [← HKB.out]; unfold keepI; simp [hk0])
            have d1 : ((k : Int) == 0) = true := by simp; omega
            clear hk0
            go_quiet (fail)
            go_wp2
            go_meet
            case rel => exact ⟨congrArg Value.bool hv.out.symm, below_drewN (Below.refl _ _) _⟩
          · obtain ⟨j, rfl⟩ : ∃ j, k = j + 1 := ⟨k - 1, by omega⟩
            have d1 : ((j : Int) + 1 == 0) = false := by simp; omega
            have hjl : j < l.length := by omega
            obtain ⟨_, _, ee, ⟨g0, g1, g2, g3⟩, _⟩ := HBR.out j hjl
            cases ee
            have hv : Hid (keepI ms l (j + 1) = (!((l[j]'hjl).user.toList == (l[j + 1]'hlt).user.toList) || seenB ms (l[j + 1]'hlt).seq (l[j]'hjl).seq)) := Lib.hid (by unfold keepI sameU; simp [List.getD_eq_getElem?_getD, hlt, hjl])
            have HV : Hid (kb = (!((l[j]'hjl).user.toList == (l[j + 1]'hlt).user.toList) || seenB ms (l[j + 1]'hlt).seq (l[j]'hjl).seq)) := Lib.hid (HKB.out.symm.trans hv.out)
            have j1 : (j : Int) + 1 < (l.length : Int) := by omega
            have j2 : (0 : Int) ≤ (j : Int) + 1 := by omega
            have j3 : (j : Int) < (l.length : Int) := by omega
            have j4 : (0 : Int) ≤ (j : Int) := by omega
            clear hg hk0 hv HKB HS
            have jw : IntKind.i64.wrap (j : Int) = (j : Int) := IntWalk.i64_in _ (by omega)
            generalize (l[j + 1]'hlt) = y at *
            generalize (l[j]'hjl) = x at *
            cases hu : (x.user.toList == y.user.toList) with
            | false =>
              have d2 : (x.user.toList != y.user.toList) = true := by simp [bne, hu]
              rw [hu] at HV
              have HV2 : Hid (kb = true) := Lib.hid HV.out
              clear HV d2
              go_quiet (fail)
              go_wp2
              go_meet
              case rel => exact ⟨congrArg Value.bool HV2.out.symm, below_drewN (Below.refl _ _) _⟩
            | true =>
              have d2 : (x.user.toList != y.user.toList) = false := by simp [bne, hu]
              rw [hu] at HV
              have HV2 : Hid (kb = seenB ms y.seq x.seq) := Lib.hid HV.out
              clear HV d2
              go_quiet ((go_at_call 48; exact Calls.quiet_of_same (seen_any am capm ms y.seq x.seq _ hlen (HIR.out.below (below_drewN (Below.refl _ _) _)))))
              go_wp2
              go_meet
              case rel => exact ⟨congrArg Value.bool HV2.out.symm, below_drewN (Below.refl _ _) _⟩
        case rest =>
          obtain ⟨rfl, hb1⟩ := hcut
          rw [hg.out] at HS
          replace c0 := cell_later2 hb1 c0
          replace c1 := cell_later2 hb1 c1
          replace c2 := cell_later2 hb1 c2
          replace c3 := cell_later2 hb1 c3
          have HOW := Lib.hid (hown.out.later hb1)
          have HBR1 := Lib.hid (HBR.out.below hb1)
          have hw1k := hwr.trans (hb1.mono hKw)
          have hKc : K ≤ wc.heap.size := Nat.le_trans hKw hb1.size
          clear hown hg hwr hb1 HIR
          have hok' := hok
          obtain ⟨x, hx⟩ : ∃ x, l[k] = x := ⟨_, rfl⟩
          have HX := Lib.hid hx
          rw [hx] at HS c0 c1 c2 c3 hok
          clear hx hok'
          have HO0 := Lib.hid (kr_len ms last l k)
          generalize kr ms last l k = o0 at *
          go_upto_if 49 with (fail)
          go_cut [7] (fun v wx => Hid (OwnE 33 wx K v (o0 ++ if kb = true then [x] else [])) ∧ Below K w wx)
          case first =>
            cases kb with
            | false =>
              go_wp2
              go_meet
              case rel => exact ⟨Lib.hid (by simpa using HOW.out), hw1k⟩
            | true =>
              go_wp2_with (at_builtin; refine app_ent2 _ rfl _ _ 22 rfl Try.underlying22 Try.infoE rfl rfl (HOW.out.later ((Below.refl wc.heap.size wc).alloc (Nat.le_refl _) _)) (e := x) rfl (heap_at _ _) hok hlo (Nat.le_trans hKc (by simp)) ?_; intro v' w5 hown5 hb5)
              go_meet
              case rel => exact ⟨Lib.hid (by simpa using hown5), hw1k.trans ((((Below.refl wc.heap.size wc).alloc (Nat.le_refl _) _).mono hKc).trans hb5)⟩
          case rest =>
            obtain ⟨HO1, hwc⟩ := hcut
            have hKc2 : K ≤ wc.heap.size := by have := hwc.size; rw [HK.out] at this; exact this
            have HE2 := Lib.hid (hb.below (w' := wc) (by rw [HK.out]; exact hwc))
            have HLEN : Hid ((o0 ++ if kb = true then [x] else []).length ≤ k + 1) := Lib.hid (by
              rw [List.length_append]
              have h1 : (if kb = true then [x] else []).length ≤ 1 := by split <;> simp
              have := HO0.out
              omega)
            generalize (o0 ++ if kb = true then [x] else []) = o1 at *
            clear HOW HBR1 hw1k hKc c0 c1 c2 c3 hlo
            go_upto_region 9 with (fail)
            go_cut [9] (fun s wx => s = .bool eb ∧ Below wc.heap.size wc wx)
            case first =>
              by_cases hk1 : k + 1 = l.length
              · have hv : Hid (eb = true) := Lib.hid (by rw [← HEB.out]; unfold endI; simp [hk1])
                have d1 : ((k : Int) + 1 == (l.length : Int)) = true := by simp; omega
                clear hk1
                go_quiet (fail)
                go_wp2
                go_meet
                case rel => exact ⟨congrArg Value.bool hv.out.symm, below_drewN (Below.refl _ _) _⟩
              · have d1 : ((k : Int) + 1 == (l.length : Int)) = false := by simp; omega
                have hk2 : k + 1 < l.length := by omega
                obtain ⟨_, _, ee, ⟨g0, g1, g2, g3⟩, _⟩ := HE2.out k hlt
                cases ee
                obtain ⟨_, _, ee, ⟨z0, z1, z2, z3⟩, _⟩ := HE2.out (k + 1) hk2
                cases ee
                rw [HX.out] at g0 g1 g2 g3
                have hv : Hid (eb = !((l[k + 1]'hk2).user.toList == x.user.toList)) := Lib.hid (by
                  rw [← HEB.out, ← HX.out]
                  unfold endI sameU
                  simp [List.getD_eq_getElem?_getD, hlt, hk2, hk1])
                have j1 : (k : Int) + 1 < (l.length : Int) := by omega
                have j2 : (0 : Int) ≤ (k : Int) + 1 := by omega
                clear hk1
                generalize (l[k + 1]'hk2) = z at *
                cases hu : (z.user.toList == x.user.toList) with
                | false =>
                  rw [hu] at hv
                  go_quiet (fail)
                  go_wp2
                  go_meet
                  case rel => exact ⟨congrArg Value.bool hv.out.symm, below_drewN (Below.refl _ _) _⟩
                | true =>
                  rw [hu] at hv
                  go_quiet (fail)
                  go_wp2
                  go_meet
                  case rel => exact ⟨congrArg Value.bool hv.out.symm, below_drewN (Below.refl _ _) _⟩
            case rest =>
              obtain ⟨rfl, hb2⟩ := hcut
              have HE3 := Lib.hid (HE2.out.below hb2)
              have HO3 := Lib.hid (HO1.out.later hb2)
              have hw3 := hwc.trans (hb2.mono hKc2)
              clear HO1 hwc hb2 HE2 HEB
              obtain ⟨yv, yc, rfl, hyc, hym, _⟩ := HO3.out.read
              obtain ⟨on, HON⟩ : ∃ on, Hid (o1.length = on) := ⟨_, Lib.hid rfl⟩
              rw [HON.out] at HO3
              rw [HON.out] at hyc
              rw [HON.out]
              have hyc2 : yc ≤ 9223372036854775807 := by unfold maxLen at hym; omega
              clear hym
              go_wp2
              go_loopw [7] (fun ov wz => ∃ (ol : List Ent) (y : Option Addr) (n c : Nat), ov = .slice y n c ∧ Hid (ol.length = n) ∧ n ≤ c ∧ c ≤ 9223372036854775807 ∧ Hid (OwnE 33 wz K (.slice y n c) ol) ∧ Hid ((if (eb && last) = true then trimU x.user.toList ol else ol) = kr ms last l (k + 1)) ∧ Below K w wz) (fun ov _ => match ov with | .slice _ n _ => n | _ => 0)
              case atStart => exact ⟨o1, yv, on, yc, rfl, HON, hyc, hyc2, HO3, Lib.hid HS.out.symm, hw3⟩
              case round =>
                obtain ⟨ol, y, n, c, rfl, hon, hnc, hc2, hol, hT, hwz⟩ := hrel
                have hKz : K ≤ wr.heap.size := by have := hwz.size; rw [HK.out] at this; exact this
                cases eb with
                | false =>
                  have HF : Hid (ol = kr ms last l (k + 1)) := Lib.hid (by have := hT.out; simpa using this)
                  go_wp2
                  go_quiet (fail)
                  go_wp2
                  refine ⟨⟨k + 1, by omega, by go_num, Lib.hid (by rw [← HF.out]; exact hol.out.later (below_drewN (Below.refl _ _) _)), below_drewN hwz _⟩, by simp [intOf]; omega⟩
                | true =>
                  cases last with
                  | false =>
                    have HF : Hid (ol = kr ms false l (k + 1)) := Lib.hid (by have := hT.out; simpa using this)
                    go_wp2
                    go_quiet (fail)
                    go_wp2
                    refine ⟨⟨k + 1, by omega, by go_num, Lib.hid (by rw [← HF.out]; exact hol.out.later (below_drewN (Below.refl _ _) _)), below_drewN hwz _⟩, by simp [intOf]; omega⟩
                  | true =>
                    by_cases hn0 : n = 0
                    · subst hn0
                      have HF : Hid (ol = kr ms true l (k + 1)) := Lib.hid (by
                        have := hT.out
                        rw [List.eq_nil_of_length_eq_zero hon.out] at this ⊢
                        simpa [trimU_nil] using this)
                      go_wp2
                      go_quiet (fail)
                      go_wp2
                      refine ⟨⟨k + 1, by omega, by go_num, Lib.hid (by rw [← HF.out]; exact hol.out.later (below_drewN (Below.refl _ _) _)), below_drewN hwz _⟩, by simp [intOf]; omega⟩
                    · obtain ⟨q, rfl⟩ : ∃ q, n = q + 1 := ⟨n - 1, by omega⟩
                      have hql : q < ol.length := by rw [hon.out]; omega
                      obtain ⟨yx, yc2, ee, hq1, hq2, hEo, _, hyn, _⟩ := hol.out.read
                      rw [hon.out] at ee
                      cases ee
                      have hy0 : y ≠ none := fun h => by have := hyn h; rw [this] at hql; simp at hql
                      obtain ⟨bL, oL, rfl, ⟨l0, l1, l2, l3⟩, _⟩ := hEo q hql
                      obtain ⟨_, _, ee, ⟨g0, g1, g2, g3⟩, _⟩ := (hb.below (w' := wr) (by rw [HK.out]; exact hwz)) k hlt
                      cases ee
                      rw [HX.out] at g0 g1 g2 g3
                      have HTS : Hid (trimU x.user.toList ol = if gone x.user.toList (ol[q]'hql) = true then trimU x.user.toList (ol.take q) else ol) := Lib.hid (by
                        have e : ol = ol.take q ++ [ol[q]'hql] := by
                          have h1 := List.take_succ_eq_append_getElem hql
                          rw [← h1, List.take_of_length_le (by rw [hon.out]; exact Nat.le_refl _)]
                        conv => lhs; rw [e]
                        rw [trimU_snoc, ← e])
                      have q1 : (0 : Int) < (q : Int) + 1 := by omega
                      have q2 : (q : Int) < (q : Int) + 1 := by omega
                      have q3 : (0 : Int) ≤ (q : Int) := by omega
                      have q4 : (q : Int) ≤ (c : Int) := by omega
                      have q5 : decide ((0 : Int) < (q : Int) + 1) = true := decide_eq_true q1
                      have q6 : decide (0 < q + 1) = true := by simp
                      have hqw : IntKind.i64.wrap (q : Int) = (q : Int) := IntWalk.i64_in _ (by omega)
                      have hr6 := fun w => R2.out (some ⟨bL, oL, none⟩) (q + 1) c q (by omega) w
                      have hgo : Hid (gone x.user.toList (ol[q]'hql) = ((ol[q]'hql).user.toList == x.user.toList && decide ((ol[q]'hql).kind = 0))) := Lib.hid rfl
                      rw [hgo.out] at HTS
                      clear hgo hEo hyn
                      have HCUT := Lib.hid (hol.out.cut hy0 q (by rw [hon.out]; omega))
                      generalize (ol[q]'hql) = e at *
                      cases hu : (e.user.toList == x.user.toList) with
                      | false =>
                        rw [hu] at HTS
                        have HF : Hid (ol = kr ms true l (k + 1)) := Lib.hid (by
                          have h1 := hT.out
                          have h2 := HTS.out
                          simp at h1 h2
                          rw [← h1, h2])
                        clear HTS
                        go_wp2
                        go_quiet (fail)
                        go_wp2
                        refine ⟨⟨k + 1, by omega, by go_num, Lib.hid (by rw [← HF.out]; exact hol.out.later (below_drewN (Below.refl _ _) _)), below_drewN hwz _⟩, by simp [intOf]; omega⟩
                      | true =>
                        rw [hu] at HTS
                        by_cases hkd : e.kind = 0
                        · have d1 : ((e.kind : Int) == 0) = true := by simp; omega
                          have HT2 : Hid ((if (true && true) = true then trimU x.user.toList (ol.take q) else ol.take q) = kr ms true l (k + 1)) := Lib.hid (by
                            have h1 := hT.out
                            have h2 := HTS.out
                            simp [hkd] at h1 h2
                            simp only [Bool.and_self, if_true]
                            rw [← h1, h2])
                          clear HTS hkd
                          go_wp2
                          go_quiet (fail)
                          go_wp2
                          exact ⟨⟨ol.take q, some ⟨bL, oL, none⟩, q, c, rfl, Lib.hid (by simp; omega), by omega, hc2, Lib.hid (HCUT.out.later (below_drewN (Below.refl _ _) _)), HT2, below_drewN hwz _⟩, by show q < q + 1; omega⟩
                        · have d1 : ((e.kind : Int) == 0) = false := by simp; omega
                          have HF : Hid (ol = kr ms true l (k + 1)) := Lib.hid (by
                            have h1 := hT.out
                            have h2 := HTS.out
                            simp [hkd] at h1 h2
                            rw [← h1, h2])
                          clear HTS hkd
                          go_wp2
                          go_quiet (fail)
                          go_wp2
                          refine ⟨⟨k + 1, by omega, by go_num, Lib.hid (by rw [← HF.out]; exact hol.out.later (below_drewN (Below.refl _ _) _)), below_drewN hwz _⟩, by simp [intOf]; omega⟩
      · obtain rfl : k = l.length := by omega
        have hin : ¬ (l.length : Int) < (l.length : Int) := by omega
        go_wp2
        go_ret
        exact ⟨_, rfl, by rw [hv.out]; exact hown.out, hwr⟩
end Go.Proofs.Ythgbmijgoaihcaa
