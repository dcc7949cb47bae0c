/-
  The law that tables put together are the document's.
-/
import Derived.Test.YthgbmijgoaihcaaMg33
namespace Go.Proofs.Ythgbmijgoaihcaa
open Go.RowKit
set_option linter.unusedVariables false

theorem U64s.take3 {w : World} {a : Option Addr} {l : List Nat} (h : U64s w a l) (k : Nat) : U64s w a (l.take k) := by
  intro i hi
  have hi' : i < l.length := by simp at hi; omega
  obtain ⟨b, off, e, hc⟩ := h i hi'
  exact ⟨b, off, e, by simpa using hc⟩
set_option maxRecDepth 100000 in
set_option maxHeartbeats 3200000 in
theorem law_joins (a : Option Addr) (cap : Nat) (ls : List (List Ent)) (am : Option Addr) (capm : Nat) (ms : List Nat) (m : Int) (w : World) (hl : ls.length ≤ cap) (hm : cap ≤ maxLen) (hb : EntRows w a ls)
    (hml : ms.length ≤ capm) (hmm : capm ≤ maxLen) (hms : ∀ m ∈ ms, m < 18446744073709551616) (hI : U64s w am ms) (hmw : -9223372036854775808 ≤ m ∧ m ≤ 9223372036854775807) :
    Calls Try.prog 13 #[.slice a ls.length cap, .slice am ms.length capm, .int .i64 m] w fun e w' => e = .returned (.bool true) ∧ Below w.heap.size w w' := by
  have hl1 : ls.length ≤ 9223372036854775807 := by unfold maxLen at hm; omega
  have hm1 : ms.length ≤ 9223372036854775807 := by unfold maxLen at hmm; omega
  obtain ⟨q, HQ⟩ : ∃ q, Hid (min ms.length 100 = q) := ⟨_, Lib.hid rfl⟩
  have hq1 : q ≤ 100 := by have := HQ.out; omega
  have hql : q ≤ ms.length := by have := HQ.out; omega
  obtain ⟨mq, HM⟩ : ∃ mq, Hid (ms.take q = mq) := ⟨_, Lib.hid rfl⟩
  have hml2 : mq.length = q := by rw [← HM.out]; simp; omega
  have HML := Lib.hid hml2
  have HU : Hid (U64s w am mq) := Lib.hid (by rw [← HM.out]; exact U64s.take3 hI q)
  have HMS : Hid (∀ m ∈ mq, m < 18446744073709551616) := Lib.hid (fun m h => hms m (by rw [← HM.out] at h; exact List.mem_of_mem_take h))
  obtain ⟨i1, hi1⟩ : ∃ i1, Try.prog.info? 31 = some i1 := by
    obtain ⟨i1, hi1, _⟩ := info_parts infoU
    exact ⟨i1, hi1⟩
  have HC2 := Lib.hid (fun w => run_cut_to (P := Try.prog) Try.underlying35 hi1 am ms.length capm q .i64 (by omega) w)
  have HB := Lib.hid hb
  have HT := Lib.hid (ten_ok ls)
  obtain ⟨n, hn⟩ : ∃ n, ls.length = n := ⟨_, rfl⟩
  have HN := Lib.hid hn
  have HTA := Lib.hid (tenTo_all ls)
  rw [hn] at hl hl1 HTA ⊢
  clear hb hn hml2 hi1 hI hms
  obtain ⟨K, HK⟩ : ∃ K, Hid (w.heap.size = K) := ⟨_, Lib.hid rfl⟩
  obtain ⟨lb, HLB⟩ : ∃ lb, Hid (decide (m < 0) = lb) := ⟨_, Lib.hid rfl⟩
  obtain ⟨mm, HMM⟩ : ∃ mm, Hid (bits .and .i64 m 65535 = mm) := ⟨_, Lib.hid rfl⟩
  have hmb : -9223372036854775808 ≤ mm ∧ mm ≤ 9223372036854775807 := by rw [← HMM.out]; exact bits_i64 m
  go_enter Try.func13, Try.ntmps13
  go_wp2_with fail
  go_loopw [7, 12] (fun ov kv wr => ∃ (k : Nat) (rs : List Row), k ≤ n ∧ kv = .int .i64 k ∧ Hid (RowsSt w wr ov rs) ∧ Hid (rs.map (·.l) = tenTo ls k) ∧ Hid (Below w.heap.size w wr)) (fun _ kv _ => n - (intOf kv).toNat)
  case atStart => exact ⟨0, [], by omega, rfl, Lib.hid (RowsSt.nil _ _), Lib.hid (by simp [tenTo]), Lib.hid (Below.refl _ _)⟩
  case round =>
    obtain ⟨k, rs, hk, rfl, HO, HF, HW⟩ := hrel
    obtain ⟨wA, rfl⟩ : ∃ wA, wA = wr := ⟨_, rfl⟩
    have hKw : K ≤ wA.heap.size := by have := HW.out.size; rw [HK.out] at this; exact this
    by_cases hlt : k < n
    · have hlt' : k < ls.length := by have := HN.out; omega
      have hink : (k : Int) < (n : Int) := by omega
      have hk0 : (0 : Int) ≤ (k : Int) := by omega
      by_cases h10 : k < 10
      · have hk10 : (k : Int) < 10 := by omega
        have hlo : rs.length + 1 ≤ 5864062014805 := by
          have h1 := congrArg List.length HF.out
          have h2 := tenTo_len ls k
          simp at h1; omega
        obtain ⟨b, off, x, c, rfl, hc0, hxl, hxm, hx⟩ := HB.out k hlt'
        have hc : wA.cell? ⟨b, off + k, none⟩ = some (.slice x ls[k].length c) := cell_later2 HW.out hc0
        have HFN := Lib.hid (tenTo_lt ls k hlt' h10)
        generalize ls[k] = y at *
        have HFY := Lib.hid (few_any x c y wA hxl hxm (hx.below HW.out))
        have HR : Hid ((y.take (fewN y)).length ≤ c ∧ c ≤ maxLen ∧ Ents w x (y.take (fewN y))) := Lib.hid ⟨by simp; omega, hxm, hx.take _⟩
        have HPL : Hid ((y.take (fewN y)).length = fewN y) := Lib.hid (by have := fewN_le y; simp; omega)
        generalize y.take (fewN y) = z at *
        generalize fewN y = p at *
        clear hx hc0 hxm h10 hxl
        go_wp2_with fail
        refine HFY.out.mono ?_
        rintro _ w1 ⟨rfl, hb1⟩
        have HW1 := Lib.hid (HW.out.trans (hb1.mono HW.out.size))
        have HO1 := Lib.hid (HO.out.later hb1)
        have hK1 : K ≤ w1.heap.size := Nat.le_trans hKw hb1.size
        clear hb1
        go_wp2_with (at_builtin; refine app_row _ rfl _ _ 25 rfl Try.underlying25 Try.infoEs (w0 := w) rfl (HO1.out.later ((Below.refl _ _).alloc (Nat.le_refl _) _)) (r := ⟨x, c, z⟩) HPL.out rfl (heap_at' rfl) HR.out hlo (by rw [HK.out]; exact Nat.le_trans hK1 (by simp)) ?_; intro v' w5 hown5 hb5)
        exact ⟨⟨k + 1, rs ++ [⟨x, c, z⟩], by omega, by go_num, Lib.hid hown5, Lib.hid (by rw [HFN.out, ← HF.out]; simp), Lib.hid (HW1.out.trans ((((Below.refl w1.heap.size w1).alloc (Nat.le_refl _) _).mono (by rw [HK.out]; exact hK1)).trans hb5))⟩, by simp [intOf]; omega⟩
      · have hk10 : ¬ (k : Int) < 10 := by omega
        have HFN := Lib.hid (tenTo_ge ls k (by omega))
        go_wp2
        exact ⟨⟨k + 1, rs, by omega, by go_num, HO, Lib.hid (by rw [HFN.out]; exact HF.out), HW⟩, by simp [intOf]; omega⟩
    · obtain rfl : k = n := by omega
      obtain ⟨y, c, rfl, hy, hyn, _⟩ := HO.out.read HW.out
      rw [HF.out, HTA.out] at hy
      have HY := Lib.hid hy
      have HYN := Lib.hid hyn
      have hrl : rs.length = (ten ls).length := by
        have := congrArg List.length HF.out
        rw [HTA.out] at this
        simpa using this
      rw [hrl]
      clear hy hyn hrl HO HF HTA HB
      generalize ten ls = F at *
      go_upto_region 8 with (fail)
      go_cut [9] (fun v wx => v = .slice am q capm ∧ wA = wx)
      case first =>
        have hcut := HC2.out
        by_cases h5 : ms.length ≤ 100
        · obtain rfl : q = ms.length := by have := HQ.out; omega
          have h6 : (ms.length : Int) ≤ 100 := by omega
          have h7 : ¬ (100 : Int) < (ms.length : Int) := by omega
          go_wp2
          go_meet
          case rel => exact ⟨rfl, rfl⟩
        · obtain rfl : q = 100 := by have := HQ.out; omega
          have h6 : ¬ (ms.length : Int) ≤ 100 := by omega
          have h7 : (100 : Int) < (ms.length : Int) := by omega
          go_wp2
          go_meet
          case rel => exact ⟨rfl, rfl⟩
      case rest =>
        obtain ⟨rfl, rfl⟩ := hcut
        go_wp2_with fail
        refine (shown_any _).mono ?_
        rintro _ w1 ⟨rfl, hb1⟩
        have HW1 := Lib.hid (HW.out.trans (hb1.mono HW.out.size))
        have HY1 := Lib.hid (HY.out.below hb1)
        clear hb1
        have HJ := Lib.hid (join_any y c F am capm mq lb mm w1 HT.out HYN.out HY1.out (by have := HML.out; omega) HMS.out (HU.out.below HW1.out) hmb)
        have hlm := HML.out
        rw [hlm] at HJ
        have hlb' := HLB.out
        have hmm' := HMM.out
        go_wp2_with fail
        refine HJ.out.mono ?_
        rintro _ w2 ⟨v2, rfl, ⟨B2, K2, ho2⟩, hb2⟩
        have HW2 := Lib.hid (HW1.out.trans (hb2.mono HW1.out.size))
        have hrj := refJoin_any y c F am capm mq lb mm w2 HT.out (HY1.out.below hb2) (by have := HML.out; omega) (HU.out.below HW2.out) hmb
        rw [hlm] at hrj
        have HRJ := Lib.hid hrj
        have HO2 := Lib.hid ho2
        clear hrj hb2 ho2
        go_wp2_with fail
        refine HRJ.out.mono ?_
        rintro _ w3 ⟨v3, rfl, ⟨B3, K3, ho3⟩, hb3⟩
        have HW3 := Lib.hid (HW2.out.trans (hb3.mono HW2.out.size))
        obtain ⟨x3, c3, rfl, q3, p3, e3⟩ := ho3.read
        obtain ⟨x2, c2, rfl, q2, p2, e2⟩ := (HO2.out.below (hb3.mono HO2.out.1)).read
        have HSM := Lib.hid (same2_any x2 x3 c2 c3 _ _ w3 (Nat.le_trans q2 p2) (Nat.le_trans q3 p3) e2 e3 rfl)
        clear e2 e3 ho3 hb3
        generalize ssplit mm (keepR mq lb (refM F)) = Z at *
        go_wp2_with fail
        refine HSM.out.mono ?_
        rintro _ w4 ⟨rfl, hb4⟩
        have HW4 := Lib.hid (HW3.out.trans (hb4.mono HW3.out.size))
        clear hb4
        go_wp2
        go_ret
        exact ⟨rfl, HW4.out⟩
end Go.Proofs.Ythgbmijgoaihcaa
