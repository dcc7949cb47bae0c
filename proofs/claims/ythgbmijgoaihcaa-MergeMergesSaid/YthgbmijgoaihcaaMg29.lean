/-
  The law that lists put together are the document's.
-/
import Derived.Test.YthgbmijgoaihcaaSo10
import Derived.Test.YthgbmijgoaihcaaMg15
import Derived.Test.YthgbmijgoaihcaaMg23
import Derived.Test.YthgbmijgoaihcaaMg27
import Derived.Test.YthgbmijgoaihcaaMg28
namespace Go.Proofs.Ythgbmijgoaihcaa
open Go.RowKit
set_option linter.unusedVariables false

theorem few20_sum (ls : List (List Ent)) : ((few20 ls).map (·.length)).sum ≤ 10000 := by
  unfold few20
  have : ∀ l : List (List Ent), (((l.map (·.take 500)).map (·.length)).sum) ≤ 500 * l.length := by
    intro l
    induction l with
    | nil => simp
    | cons x t ih => simp only [List.map_cons, List.sum_cons, List.length_cons, List.length_take]; omega
  have h1 := this (ls.take 20)
  have h2 : (ls.take 20).length ≤ 20 := by simp; omega
  omega
theorem few20_len (ls : List (List Ent)) : (few20 ls).length ≤ 20 := by unfold few20; simp; omega
set_option maxRecDepth 100000 in
set_option maxHeartbeats 1600000 in
theorem law_merges (a : Option Addr) (cap : Nat) (ls : List (List Ent)) (w : World) (hl : ls.length ≤ cap) (hm : cap ≤ maxLen) (hb : EntRows w a ls) :
    Calls Try.prog 10 #[.slice a ls.length cap] w fun e w' => e = .returned (.bool true) ∧ Below w.heap.size w w' := by
  have HSH := Lib.hid (fun w' => mshown_any sorts w')
  have HFW := Lib.hid (fun w' hb => few20_any a cap ls w' hl hm hb)
  have HB := Lib.hid hb
  have HSU := Lib.hid (few20_sum ls)
  have HSL := Lib.hid (few20_len ls)
  clear hb
  generalize few20 ls = F at *
  go_enter Try.func10, Try.ntmps10
  go_wp2_with fail
  refine (HSH.out _).mono ?_
  rintro _ w1 ⟨rfl, hb1⟩
  have HB1 := Lib.hid hb1
  clear hb1
  go_wp2_with fail
  refine (HFW.out _ (HB.out.below HB1.out)).mono ?_
  rintro _ w2 ⟨v2, rs2, rfl, ho2, e2, hb2⟩
  obtain ⟨x2, c2, rfl, hr2, hn2, _⟩ := ho2.read hb2
  rw [e2] at hr2
  have e2' : rs2.length = F.length := by rw [← e2]; simp
  have HM2 := Lib.hid (merge_any x2 c2 F w2 (by have := HSL.out; omega) hr2 hn2 10000 (by decide) HSU.out)
  have HB2 := Lib.hid (HB1.out.trans (hb2.mono HB1.out.size))
  rw [e2']
  clear ho2 hr2 hn2 e2' hb2 e2
  go_wp2_with fail
  refine HM2.out.mono ?_
  rintro _ w3 ⟨v3, rfl, ⟨m, hm3, him⟩, hb3⟩
  obtain ⟨x3, c3, rfl, hc3, hc3m, he3, _⟩ := hm3.read
  have HE3 := Lib.hid he3
  have HIM := Lib.hid him
  have HB3 := Lib.hid (HB2.out.trans (hb3.mono HB2.out.size))
  clear hm3 him he3 hb3
  go_wp2_with fail
  refine (HFW.out _ (HB.out.below HB3.out)).mono ?_
  rintro _ w4 ⟨v4, rs4, rfl, ho4, e4, hb4⟩
  obtain ⟨x4, c4, rfl, hr4, hn4, _⟩ := ho4.read hb4
  rw [e4] at hr4
  have e4' : rs4.length = F.length := by rw [← e4]; simp
  have HM4 := Lib.hid (refMerge_any x4 c4 F w4 (by have := HSL.out; omega) hr4 10000 (by decide) HSU.out)
  have HE4 := Lib.hid (HE3.out.below hb4)
  have HB4 := Lib.hid (HB3.out.trans (hb4.mono HB3.out.size))
  rw [e4']
  clear ho4 hr4 hn4 e4' hb4 e4 HE3
  go_wp2_with fail
  refine HM4.out.mono ?_
  rintro _ w5 ⟨v5, rfl, ho5, hb5⟩
  have hmm := HIM.out.uniq (refM_merge F)
  subst hmm
  obtain ⟨x5, c5, rfl, hc5, hc5m, he5, _⟩ := ho5.read
  have HS := Lib.hid (same_any x3 x5 c3 c5 _ _ w5 (Nat.le_trans hc3 hc3m) (Nat.le_trans hc5 hc5m) (HE4.out.below hb5) he5 rfl)
  have HB5 := Lib.hid (HB4.out.trans (hb5.mono HB4.out.size))
  clear ho5 he5 hb5
  go_wp2_with fail
  refine HS.out.mono ?_
  rintro _ w6 ⟨rfl, hb6⟩
  have HB6 := Lib.hid (HB5.out.trans (hb6.mono HB5.out.size))
  clear hb6
  go_wp2
  go_ret
  exact ⟨rfl, HB6.out⟩
end Go.Proofs.Ythgbmijgoaihcaa
