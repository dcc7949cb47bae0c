/-
  The law that of tables that are put together all is seen as it was.
-/
import Derived.Test.YthgbmijgoaihcaaMg33
import Derived.Test.YthgbmijgoaihcaaMg20
import Derived.Test.YthgbmijgoaihcaaSplit7
namespace Go.Proofs.Ythgbmijgoaihcaa
open Go.RowKit
set_option linter.unusedVariables false

set_option maxRecDepth 100000 in
set_option maxHeartbeats 3200000 in
theorem law_sseen (a : Option Addr) (cap : Nat) (ls : List (List Ent)) (am : Option Addr) (capm : Nat) (ms : List Nat) (m : Int) (w : World) (hl : ls.length ≤ cap) (hm : cap ≤ maxLen) (hb : EntRows w a ls)
    (hml : ms.length ≤ capm) (hmm : capm ≤ maxLen) (hms : ∀ m ∈ ms, m < 18446744073709551616) (hI : U64s w am ms) (hmw : -9223372036854775808 ≤ m ∧ m ≤ 9223372036854775807) :
    Calls Try.prog 14 #[.slice a ls.length cap, .slice am ms.length capm, .int .i64 m] w fun e w' => e = .returned (.bool true) ∧ Below w.heap.size w w' := by
  have hl1 : ls.length ≤ 9223372036854775807 := by unfold maxLen at hm; omega
  have hm1 : ms.length ≤ 9223372036854775807 := by unfold maxLen at hmm; omega
  obtain ⟨q, HQ⟩ : ∃ q, Hid (min ms.length 100 = q) := ⟨_, Lib.hid rfl⟩
  have hq1 : q ≤ 100 := by have := HQ.out; omega
  have hql : q ≤ ms.length := by have := HQ.out; omega
  obtain ⟨mq, HM⟩ : ∃ mq, Hid (ms.take q = mq) := ⟨_, Lib.hid rfl⟩
  have hml2 : mq.length = q := by rw [← HM.out]; simp; omega
  have HML := Lib.hid hml2
  have HU : Hid (U64s w am mq) := Lib.hid (by rw [← HM.out]; exact U64s.take' hI q)
  have HMS : Hid (∀ m ∈ mq, m < 18446744073709551616) := Lib.hid (fun m h => hms m (by rw [← HM.out] at h; exact List.mem_of_mem_take h))
  obtain ⟨i1, hi1⟩ : ∃ i1, Try.prog.info? 31 = some i1 := by
    obtain ⟨i1, hi1, _⟩ := info_parts infoU
    exact ⟨i1, hi1⟩
  have HC2 := Lib.hid (fun w => run_cut_to (P := Try.prog) Try.underlying35 hi1 am ms.length capm q .i64 (by omega) w)
  have HB := Lib.hid hb
  have HT := Lib.hid (ten_ok ls)
  have HEN : Hid (∀ p ∈ ls, ∀ e ∈ p, e.seq < 18446744073709551616) := Lib.hid (fun p hp e he => by
    obtain ⟨i, hi, rfl⟩ := List.getElem_of_mem hp
    obtain ⟨_, _, _, _, _, _, _, _, hx⟩ := hb i hi
    exact (hx.ok e he).2.1)
  obtain ⟨n, hn⟩ : ∃ n, ls.length = n := ⟨_, rfl⟩
  have HN := Lib.hid hn
  have HTA := Lib.hid (tenTo_all ls)
  rw [hn] at hl hl1 HTA ⊢
  clear hb hn hml2 hi1 hI hms
  obtain ⟨K, HK⟩ : ∃ K, Hid (w.heap.size = K) := ⟨_, Lib.hid rfl⟩
  obtain ⟨lb, HLB⟩ : ∃ lb, Hid (decide (m < 0) = lb) := ⟨_, Lib.hid rfl⟩
  obtain ⟨mm, HMM⟩ : ∃ mm, Hid (bits .and .i64 m 65535 = mm) := ⟨_, Lib.hid rfl⟩
  have hmb : -9223372036854775808 ≤ mm ∧ mm ≤ 9223372036854775807 := by rw [← HMM.out]; exact bits_i64 m
  go_enter Try.func14, Try.ntmps14
  go_wp2_with fail
  refine (shown_any _).mono ?_
  rintro _ w0 ⟨rfl, hb0⟩
  have HW0 := Lib.hid hb0
  clear hb0
  go_wp2_with fail
  go_loopw [8, 20] (fun ov kv wr => ∃ (k : Nat) (rs : List Row), k ≤ n ∧ kv = .int .i64 k ∧ Hid (RowsSt w wr ov rs) ∧ Hid (rs.map (·.l) = tenTo ls k) ∧ Hid (Below w.heap.size w wr)) (fun _ kv _ => n - (intOf kv).toNat)
  case atStart => exact ⟨0, [], by omega, rfl, Lib.hid (RowsSt.nil _ _), Lib.hid (by simp [tenTo]), HW0⟩
  case round =>
    obtain ⟨k, rs, hk, rfl, HO, HF, HW⟩ := hrel
    obtain ⟨wA, rfl⟩ : ∃ wA, wA = wr := ⟨_, rfl⟩
    have hKw : K ≤ wA.heap.size := by have := HW.out.size; rw [HK.out] at this; exact this
    by_cases hlt : k < n
    · have hlt' : k < ls.length := by have := HN.out; omega
      have hink : (k : Int) < (n : Int) := by omega
      have hk0 : (0 : Int) ≤ (k : Int) := by omega
      by_cases h10 : k < 10
      · have hk10 : (k : Int) < 10 := by omega
        have hlo : rs.length + 1 ≤ 5864062014805 := by
          have h1 := congrArg List.length HF.out
          have h2 := tenTo_len ls k
          simp at h1; omega
        obtain ⟨b, off, x, c, rfl, hc0, hxl, hxm, hx⟩ := HB.out k hlt'
        have hc : wA.cell? ⟨b, off + k, none⟩ = some (.slice x ls[k].length c) := cell_later2 HW.out hc0
        have HFN := Lib.hid (tenTo_lt ls k hlt' h10)
        generalize ls[k] = y at *
        have HFY := Lib.hid (few_any x c y wA hxl hxm (hx.below HW.out))
        have HR : Hid ((y.take (fewN y)).length ≤ c ∧ c ≤ maxLen ∧ Ents w x (y.take (fewN y))) := Lib.hid ⟨by simp; omega, hxm, hx.take _⟩
        have HPL : Hid ((y.take (fewN y)).length = fewN y) := Lib.hid (by have := fewN_le y; simp; omega)
        generalize y.take (fewN y) = z at *
        generalize fewN y = p at *
        clear hx hc0 hxm h10 hxl
        go_wp2_with fail
        refine HFY.out.mono ?_
        rintro _ w1 ⟨rfl, hb1⟩
        have HW1 := Lib.hid (HW.out.trans (hb1.mono HW.out.size))
        have HO1 := Lib.hid (HO.out.later hb1)
        have hK1 : K ≤ w1.heap.size := Nat.le_trans hKw hb1.size
        clear hb1
        go_wp2_with (at_builtin; refine app_row _ rfl _ _ 25 rfl Try.underlying25 Try.infoEs (w0 := w) rfl (HO1.out.later ((Below.refl _ _).alloc (Nat.le_refl _) _)) (r := ⟨x, c, z⟩) HPL.out rfl (heap_at' rfl) HR.out hlo (by rw [HK.out]; exact Nat.le_trans hK1 (by simp)) ?_; intro v' w5 hown5 hb5)
        exact ⟨⟨k + 1, rs ++ [⟨x, c, z⟩], by omega, by go_num, Lib.hid hown5, Lib.hid (by rw [HFN.out, ← HF.out]; simp), Lib.hid (HW1.out.trans ((((Below.refl w1.heap.size w1).alloc (Nat.le_refl _) _).mono (by rw [HK.out]; exact hK1)).trans hb5))⟩, by simp [intOf]; omega⟩
      · have hk10 : ¬ (k : Int) < 10 := by omega
        have HFN := Lib.hid (tenTo_ge ls k (by omega))
        go_wp2
        exact ⟨⟨k + 1, rs, by omega, by go_num, HO, Lib.hid (by rw [HFN.out]; exact HF.out), HW⟩, by simp [intOf]; omega⟩
    · obtain rfl : k = n := by omega
      obtain ⟨y, c, rfl, hy, hyn, _⟩ := HO.out.read HW.out
      rw [HF.out, HTA.out] at hy
      have HY := Lib.hid hy
      have HYN := Lib.hid hyn
      have hrl : rs.length = (ten ls).length := by
        have := congrArg List.length HF.out
        rw [HTA.out] at this
        simpa using this
      rw [hrl]
      have HSQ : Hid (∀ e ∈ refM (ten ls), e.seq < 18446744073709551616) := Lib.hid (fun e he => by
        obtain ⟨p, hp, q⟩ := refM_in he
        unfold ten at hp
        obtain ⟨l, hl, rfl⟩ := List.mem_map.1 hp
        exact HEN.out l (List.mem_of_mem_take hl) e (List.mem_of_mem_take q))
      clear hy hyn hrl HO HF HTA HB HEN
      generalize ten ls = F at *
      obtain ⟨j1, j2, j3⟩ := joined_ok HT.out mq lb
      have HRI : Hid (rises (refM F) = true) := Lib.hid (refM_merge F).rises
      have HVW : Hid (∀ s, (s ∈ mq ∨ ∀ e ∈ refM F, e.seq ≤ s) → viewF (keepR mq lb (refM F)) s = viewF (refM F) s) := Lib.hid (fun s hs => keep_view mq lb _ s HRI.out hs)
      have hall := ssplit_all mm (keepR mq lb (refM F)) (keep_rises mq lb _)
      have HFL := Lib.hid hall.2.2
      have HZL : Hid ((ssplit mm (keepR mq lb (refM F))).length ≤ 5000) := Lib.hid (by
        have := length_flat _ hall.2.1
        rw [hall.2.2] at this
        omega)
      clear hall j3
      go_upto_region 9 with (fail)
      go_cut [10] (fun v wx => v = .slice am q capm ∧ wA = wx)
      case first =>
        have hcut := HC2.out
        by_cases h5 : ms.length ≤ 100
        · obtain rfl : q = ms.length := by have := HQ.out; omega
          have h6 : (ms.length : Int) ≤ 100 := by omega
          have h7 : ¬ (100 : Int) < (ms.length : Int) := by omega
          go_wp2
          go_meet
          case rel => exact ⟨rfl, rfl⟩
        · obtain rfl : q = 100 := by have := HQ.out; omega
          have h6 : ¬ (ms.length : Int) ≤ 100 := by omega
          have h7 : (100 : Int) < (ms.length : Int) := by omega
          go_wp2
          go_meet
          case rel => exact ⟨rfl, rfl⟩
      case rest =>
        obtain ⟨rfl, rfl⟩ := hcut
        have HJ := Lib.hid (join_any y c F am capm mq lb mm wA HT.out HYN.out HY.out (by have := HML.out; omega) HMS.out (HU.out.below HW.out) hmb)
        have HME := Lib.hid (fun w' hb => merge_any y c F w' (by have := HT.out.len; omega) hb HYN.out 5000 (by decide) HT.out.sum)
        have hlm := HML.out
        rw [hlm] at HJ
        have hlb' := HLB.out
        have hmm' := HMM.out
        have HUM : Hid (∀ r, IsMerge F r → r = refM F) := Lib.hid (fun r hr => hr.uniq (refM_merge _))
        have HSL : Hid ((keepR mq lb (refM F)).length ≤ 5000) := Lib.hid j2
        have HRL : Hid ((refM F).length ≤ 5000) := Lib.hid j1
        generalize ssplit mm (keepR mq lb (refM F)) = Z at *
        generalize keepR mq lb (refM F) = S at *
        generalize refM F = R at *
        generalize F.length = nF at *
        clear j1 j2 HT HQ HC2 HM
        go_wp2_with fail
        refine HJ.out.mono ?_
        rintro _ w2 ⟨v2, rfl, ⟨B2, K2, ho2⟩, hb2⟩
        obtain ⟨x2, c2, rfl, q2, p2, e2⟩ := ho2.read
        have HZ : Hid (EntRows w2 x2 Z) := Lib.hid e2
        have HB2 := Lib.hid hb2
        have HW2 := Lib.hid (HW.out.trans (hb2.mono HW.out.size))
        have hz1 : Z.length ≤ 5000 := HZL.out
        clear ho2 hb2 e2 hlb' hmm' hlm
        go_wp2_with fail
        go_loopw [11, 47] (fun ov kv wr => ∃ k : Nat, k ≤ Z.length ∧ kv = .int .i64 k ∧ Hid (OwnE 33 wr w2.heap.size ov (Z.take k).flatten) ∧ Hid (Below w2.heap.size w2 wr)) (fun _ kv _ => Z.length - (intOf kv).toNat)
        case atStart => exact ⟨0, by omega, rfl, Lib.hid (OwnE.nil _ _ _), Lib.hid (Below.refl _ _)⟩
        case round =>
          obtain ⟨j, hj, rfl, HO, HX⟩ := hrel
          obtain ⟨wB, rfl⟩ : ∃ wB, wB = wr := ⟨_, rfl⟩
          by_cases hlj : j < Z.length
          · obtain ⟨b, off, x, cx, rfl, hc, hxl, hxm, hx⟩ := (HZ.out.below HX.out) j hlj
            have hin : (j : Int) < (Z.length : Int) := by omega
            have h0 : (0 : Int) ≤ (j : Int) := by omega
            have HTK : Hid ((Z.take (j + 1)).flatten = (Z.take j).flatten ++ Z[j]) := Lib.hid (by rw [List.take_succ_eq_append_getElem hlj, List.flatten_append, List.flatten_singleton])
            have hlo : (Z.take j).flatten.length + Z[j].length ≤ 2932031007402 := by
              have h1 := (take_flat Z (j + 1)).1
              rw [HTK.out, HFL.out, List.length_append] at h1
              have := HSL.out
              omega
            have HXE := Lib.hid hx
            have hws := HX.out.size
            clear hx
            generalize Z[j] = g at *
            go_wp2_with (at_builtin; refine app_ents3 _ rfl _ _ 22 rfl Try.underlying22 Try.infoE rfl rfl HO.out rfl rfl HXE.out hlo hws ?_; intro v' w5 hown5 hb5)
            exact ⟨⟨j + 1, by omega, by go_num, Lib.hid (by rw [HTK.out]; exact hown5), Lib.hid (HX.out.trans hb5)⟩, by simp [intOf]; omega⟩
          · obtain rfl : j = Z.length := by omega
            have ho := HO.out
            rw [List.take_length, HFL.out] at ho
            obtain ⟨yS, cS, rfl, qS, pS, ES, _⟩ := ho.read
            have HES := Lib.hid ES
            have HWB := Lib.hid (HW2.out.trans (HX.out.mono HW2.out.size))
            have HMB := Lib.hid (HME.out wB ((HY.out.below HB2.out).below HX.out))
            clear ho ES HO HX HZ HME
            go_wp2_with fail
            refine HMB.out.mono ?_
            rintro _ w6 ⟨v6, rfl, ⟨r, hr6, him⟩, hb6⟩
            have hu := HUM.out r him
            subst hu
            obtain ⟨yR, cR, rfl, qR, pR, ER, _⟩ := hr6.read
            have HER := Lib.hid ER
            have HES6 := Lib.hid (HES.out.below hb6)
            have HW6 := Lib.hid (HWB.out.trans (hb6.mono HWB.out.size))
            have HVS := Lib.hid (fun s w' hs hb => view_any yS cS S s w' qS pS (by have := HSL.out; omega) hs hb)
            have HVR := Lib.hid (fun s w' hs hb => view_any yR cR r s w' qR pR (by have := HRL.out; omega) hs hb)
            clear him hr6 ER hb6 HES HUM
            obtain ⟨tl, htl⟩ : ∃ tl, [18446744073709551615] ++ mq = tl := ⟨_, rfl⟩
            have HTV : Hid (∀ s ∈ tl, s < 18446744073709551616 ∧ viewF S s = viewF r s) := Lib.hid (by
              intro s hs
              rw [← htl] at hs
              simp only [List.cons_append, List.nil_append, List.mem_cons] at hs
              rcases hs with rfl | hs
              · exact ⟨by decide, HVW.out _ (Or.inr fun e he => by have := HSQ.out e he; omega)⟩
              · exact ⟨HMS.out s hs, HVW.out _ (Or.inl hs)⟩)
            have htn : tl.length = q + 1 := by rw [← htl]; have := HML.out; simp; omega
            have HTL := Lib.hid htl
            have ht1 : tl.length ≤ 101 := by omega
            clear htl htn HVW HMS HSQ
            have HOWN : Hid ((w6.alloc (.cells #[.int .u64 18446744073709551615] 31)).ownsRow w6.heap.size 31 1 (.slice (some ⟨w6.heap.size, 0, none⟩) 1 1) 1 (u64Cells [18446744073709551615])) := Lib.hid (by
              have := World.ownsRow_lit (base := w6.heap.size) (e := 31) (size := 1) w6 #[.int .u64 18446744073709551615] 1 (Nat.le_refl _) (by unfold maxLen; omega) rfl
              exact this)
            have HUA : Hid (U64s (w6.alloc (.cells #[.int .u64 18446744073709551615] 31)) am mq) := Lib.hid (HU.out.below (HW6.out.trans (((Below.refl w6.heap.size w6).alloc (Nat.le_refl _) _).mono HW6.out.size)))
            go_wp2_with (at_builtin; refine app_u64s _ rfl _ _ 35 rfl Try.underlying35 infoU (K := w6.heap.size) (l := [18446744073709551615]) (n0 := 1) rfl rfl HOWN.out (m := mq) (n := q) HML.out rfl HUA.out (by have := HML.out; simp; omega) (by simp) ?_; intro v' w7 hown7 hb7; rw [HTL.out] at hown7; obtain ⟨yT, cT, rfl, hty, _⟩ := ownU_read rfl hown7)
            have HB7 : Hid (Below w6.heap.size w6 w7) := Lib.hid (((Below.refl w6.heap.size w6).alloc (Nat.le_refl _) _).trans hb7)
            have HTY := Lib.hid hty
            clear hty hown7 hb7 HOWN HUA HTL HU
            go_loopw [61] (fun iv wr => ∃ i : Nat, i ≤ tl.length ∧ iv = .int .i64 i ∧ Hid (Below w7.heap.size w7 wr)) (fun iv _ => tl.length - (intOf iv).toNat)
            case atStart => exact ⟨0, by omega, rfl, Lib.hid (Below.refl _ _)⟩
            case round =>
              obtain ⟨i, hi, rfl, HX⟩ := hrel
              obtain ⟨wC, rfl⟩ : ∃ wC, wC = wr := ⟨_, rfl⟩
              have H6C : Hid (Below w6.heap.size w6 wC) := Lib.hid (HB7.out.trans (HX.out.mono HB7.out.size))
              by_cases hli : i < tl.length
              · obtain ⟨b, off, rfl, c0⟩ := (HTY.out.below HX.out) i hli
                have hT := HTV.out tl[i] (List.getElem_mem hli)
                have hin : (i : Int) < (tl.length : Int) := by omega
                have h0 : (0 : Int) ≤ (i : Int) := by omega
                generalize tl[i] = s at *
                have h1 := fun w' hb => HVS.out s w' hT.1 hb
                have h2 := fun w' hb => HVR.out s w' hT.1 hb
                rw [hT.2] at h1
                generalize viewF r s = V at *
                have H1 := Lib.hid h1
                have H2 := Lib.hid h2
                clear h1 h2 hT
                go_wp2_with fail
                refine (H1.out _ (HES6.out.below H6C.out)).mono ?_
                rintro _ w8 ⟨v8, rfl, ho8, hb8⟩
                obtain ⟨y8, c8, rfl, e8, f8, he8⟩ := ho8.read
                have HW8 := Lib.hid (HX.out.trans (hb8.mono HX.out.size))
                have HE8 := Lib.hid he8
                have HR8 := Lib.hid (HER.out.below (H6C.out.trans (hb8.mono H6C.out.size)))
                clear ho8 he8 hb8
                go_wp2_with fail
                refine (H2.out _ HR8.out).mono ?_
                rintro _ w9 ⟨v9, rfl, ho9, hb9⟩
                obtain ⟨y9, c9, rfl, e9, f9, he9⟩ := ho9.read
                have HW9 := Lib.hid (HW8.out.trans (hb9.mono HW8.out.size))
                have HSP := Lib.hid (samePairs_any y8 y9 c8 c9 V V w9 (Nat.le_trans e8 f8) (HE8.out.below hb9) he9 rfl)
                clear ho9 he9 hb9
                go_wp2_with fail
                refine HSP.out.mono ?_
                rintro _ w10 ⟨rfl, hb10⟩
                have HW10 := Lib.hid (HW9.out.trans (hb10.mono HW9.out.size))
                clear hb10
                go_wp2
                exact ⟨⟨i + 1, by omega, by go_num, HW10⟩, by simp [intOf]; omega⟩
              · obtain rfl : i = tl.length := by omega
                have HWE := Lib.hid (HW6.out.trans (H6C.out.mono HW6.out.size))
                clear HX H6C
                go_wp2
                go_ret
                exact ⟨rfl, HWE.out⟩
end Go.Proofs.Ythgbmijgoaihcaa
