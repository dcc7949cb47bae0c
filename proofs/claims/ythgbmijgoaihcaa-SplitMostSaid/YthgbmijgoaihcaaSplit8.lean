/-
  SplitWhole.
-/
import Derived.Test.YthgbmijgoaihcaaSplit6
import Derived.Test.YthgbmijgoaihcaaSplit7
namespace Go.Proofs.Ythgbmijgoaihcaa
open Go.RowKit
set_option linter.unusedVariables false

theorem ssplit_len (m : Int) (l : List Ent) (h : rises l = true) : (ssplit m l).length ≤ l.length := by
  obtain ⟨_, h1, h2⟩ := ssplit_all m l h
  have := length_flat _ h1
  rwa [h2] at this

set_option maxRecDepth 100000 in
set_option maxHeartbeats 1600000 in
theorem law_whole (a : Option Addr) (cap : Nat) (l : List Ent) (m : Int) (w : World) (hcap : l.length ≤ cap) (hcm : cap ≤ maxLen) (hm : -9223372036854775808 ≤ m ∧ m ≤ 9223372036854775807) (hb : Ents w a l) :
    Calls Try.prog 4 #[.slice a l.length cap, .int .i64 m] w fun e w' => e = .returned (.bool true) ∧ Below w.heap.size w w' := by
  have h5 := fewN_500 l
  have hle := fewN_le l
  have hco := fewN_count l
  have hX : (l.take (fewN l)).length = fewN l := by simp; omega
  have c17 := fun w hb => split_any a cap (l.take (fewN l)) m w (by omega) (by omega) hcm (by omega) hm hb
  have c22 := fun w hb => rises_any a cap (l.take (fewN l)) w (by unfold maxLen; omega) hb
  simp only [hX] at c17 c22
  have C17 := Lib.hid c17
  have C22 := Lib.hid c22
  clear c17 c22
  have hbT := hb.take (fewN l)
  have H1 := Lib.hid (show ∀ w', Below w.heap.size w w' → Ents w' a l from fun w' h => hb.below h)
  have H2 := Lib.hid (show ∀ w', Below w.heap.size w w' → Ents w' a (l.take (fewN l)) from fun w' h => hbT.below h)
  clear hb hbT
  have hf := fun w hb => few_any a cap l w hcap hcm hb
  have HFW := Lib.hid hf
  clear hf
  generalize hXX : l.take (fewN l) = X at *
  clear hXX
  generalize fewN l = n at *
  subst hX
  go_enter Try.func4, Try.ntmps4
  by_cases hr : rises X = true
  case neg =>
    have hrf : rises X = false := by simpa using hr
    have hss : ssplit m X = [] := by unfold ssplit; simp [hrf]
    clear hr
    have HRF := Lib.hid hrf
    go_wp2_with (first
      | ((with_reducible refine (shown_any w).mono ?_); rintro _ w1 ⟨rfl, hb1⟩)
      | ((with_reducible refine (HFW.out w1 (H1.out w1 hb1)).mono ?_); rintro _ w2 ⟨rfl, hb2⟩; have hw2 := Lib.hid (hb1.trans (hb2.mono hb1.size)))
      | ((with_reducible refine (C17.out w2 (H2.out w2 hw2.out)).mono ?_); rintro _ w3 ⟨va, Ka, rfl, ha, hb3⟩; rw [hss] at ha; have hw3 := Lib.hid (hw2.out.trans (hb3.mono hw2.out.size)); obtain ⟨xp, cp, rfl, _, _, _⟩ := ha.read)
      | ((with_reducible refine (C22.out w3 (H2.out w3 hw3.out)).mono ?_); rintro _ w4 ⟨rfl, hb4⟩; have hw4 := Lib.hid (hw3.out.trans (hb4.mono hw3.out.size)); have hrt := HRF.out))
    go_ret
    exact ⟨rfl, hw4.out⟩
  have HR := Lib.hid hr
  have hpl := ssplit_len m X hr
  clear hr
  go_wp2_with (first
    | ((with_reducible refine (shown_any w).mono ?_); rintro _ w1 ⟨rfl, hb1⟩)
    | ((with_reducible refine (HFW.out w1 (H1.out w1 hb1)).mono ?_); rintro _ w2 ⟨rfl, hb2⟩; have hw2 := Lib.hid (hb1.trans (hb2.mono hb1.size)))
    | ((with_reducible refine (C17.out w2 (H2.out w2 hw2.out)).mono ?_); rintro _ w3 ⟨va, Ka, rfl, ha, hb3⟩; have hw3 := Lib.hid (hw2.out.trans (hb3.mono hw2.out.size)); obtain ⟨xp, cp, rfl, hp1, hp2, hpr⟩ := ha.rows; have hKw := ha.1; have HP := Lib.hid hpr; clear ha hpr)
    | ((with_reducible refine (C22.out w3 (H2.out w3 hw3.out)).mono ?_); rintro _ w4 ⟨rfl, hb4⟩; have hw4 := Lib.hid (hw3.out.trans (hb4.mono hw3.out.size)); have hrt := HR.out))
  have hall := ssplit_all m X HR.out
  have HNE := Lib.hid hall.2.1
  have HFL := Lib.hid hall.2.2
  have hlt := cutOk_lt (ssplit m X) [] hall.1 hall.2.1 (by rw [List.nil_append, hall.2.2]; exact HR.out)
  have HLT := Lib.hid hlt
  clear hlt hall
  generalize ssplit m X = P at *
  have hKw4 : Ka ≤ w4.heap.size := Nat.le_trans hKw hb4.size
  have HB4 := Lib.hid (hb4.mono hKw)
  have HXL : Hid (∀ k, (P.take k).flatten.length ≤ X.length) := Lib.hid (fun k => by have := (take_flat P k).1; rw [HFL.out] at this; exact this)
  have HEL : Hid (∀ k (h : k < P.length), P[k].length ≤ X.length) := Lib.hid (fun k h => by
    have h1 := HXL.out (k + 1)
    rw [List.take_succ_eq_append_getElem h, List.flatten_append, List.flatten_singleton, List.length_append] at h1
    omega)
  go_loopw [8, 27] (fun v i wr => ∃ k : Nat, k ≤ P.length ∧ i = .int .i64 k ∧ OwnE 33 wr w4.heap.size v (P.take k).flatten ∧ Below w4.heap.size w4 wr) (fun _ i _ => P.length - (intOf i).toNat)
  case atStart => exact ⟨0, by omega, rfl, OwnE.nil _ _ _, Below.refl _ _⟩
  case round =>
    obtain ⟨k, hk, rfl, hown, hwr⟩ := hrel
    have hal := HXL.out k
    by_cases hlt : k < P.length
    · have hne := HNE.out P[k] (List.getElem_mem hlt)
      have hel := HEL.out k hlt
      have hft : Hid ((P.take (k + 1)).flatten = (P.take k).flatten ++ P[k]) := Lib.hid (by rw [List.take_succ_eq_append_getElem hlt, List.flatten_append, List.flatten_singleton])
      have hwk : Below Ka w3 wr := HB4.out.trans (hwr.mono hKw4)
      obtain ⟨bp, op, yk, ck, rfl, hkc, hkm, hysp, hstab⟩ := HP.out k hlt
      obtain ⟨hcell, hEk⟩ := hstab wr hwk
      have hyk : ∀ z, yk = some z → z.spot = none := fun z hz => hysp z hz hne
      clear hysp
      have HST := Lib.hid hstab
      clear hstab
      have hpos : 0 < P[k].length := List.length_pos_iff.2 hne
      obtain ⟨bk, ok, rfl, ⟨e0, e1, e2, e3⟩, hok⟩ := hEk 0 hpos
      clear e1 e2 e3 hok
      rw [Nat.zero_mul, Nat.add_zero] at e0
      have hin : (k : Int) < (P.length : Int) := by omega
      have HEk := Lib.hid hEk
      clear hEk
      have HO := Lib.hid hown
      clear hown
      have hz : (P[k].length : Int) ≠ 0 := by omega
      have d0 : ((P[k].length : Int) == 0) = false := by simp; omega
      have hPk : Hid (∀ x0 j (hj : j + 1 < P.length) (hjk : j + 1 = k), P[k].head? = some x0 → ∀ y, P[j].getLast? = some y → lt y.user x0.user = true) := Lib.hid (by
        intro x0 j hj hjk h0 y hy
        subst hjk
        exact HLT.out j hj y x0 hy h0)
      have h0g : P[k].head? = some (P[k][0]) := by rw [List.head?_eq_getElem?]; simp
      have HH0 := Lib.hid h0g
      clear h0g hz
      generalize P[k] = g at *
      have HNE0 := Lib.hid hne
      clear hne
      have hfin : Hid (∀ v' w2 nq, OwnE 33 w2 w4.heap.size v' ((P.take k).flatten ++ g) → Below w4.heap.size (wr.drewN nq) w2 → (∃ k', k' ≤ P.length ∧ Value.int .i64 ((k : Int) + 1) = .int .i64 (k' : Nat) ∧ OwnE 33 w2 w4.heap.size v' (P.take k').flatten ∧ Below w4.heap.size w4 w2)) := Lib.hid (by
        intro v' w2 nq ho hb2
        exact ⟨k + 1, by omega, by simp, by rw [hft.out]; exact ho, (below_drewN hwr nq).trans hb2⟩)
      have hal2 : (P.take k).flatten.length ≤ 1000000000000 := by omega
      have hgl2 : g.length ≤ 1000000000000 := by omega
      have hws : w4.heap.size ≤ wr.heap.size := hwr.size
      by_cases hk0 : k = 0
      · subst hk0
        rw [Nat.add_zero] at hcell
        go_wp2
        go_quiet (fail)
        go_wp2_with (at_builtin; refine app_ents _ rfl _ _ 22 rfl Try.underlying22 Try.infoE rfl rfl (HO.out.later (below_drewN (Below.refl _ _) nq)) rfl (HST.out (wr.drewN nq) (below_drewN hwk nq)).2 hyk hal2 hgl2 (below_drewN hwr nq).size HNE0.out ?_; intro v' w2 hown2 hb2 _)
        have hf1 := hft.out
        rw [Nat.zero_add] at hf1
        exact ⟨⟨1, by omega, rfl, by rw [hf1]; exact hown2, (below_drewN hwr nq).trans hb2⟩, by simp [intOf]; omega⟩
      · obtain ⟨j, rfl⟩ : ∃ j, k = j + 1 := ⟨k - 1, by omega⟩
        have hjl : j < P.length := by omega
        obtain ⟨bj, oj, yj, cj, hbj, hjc, hjm, _, hjs⟩ := HP.out j hjl
        obtain ⟨rfl, rfl⟩ : bp = bj ∧ op = oj := by cases hbj; exact ⟨rfl, rfl⟩
        clear hbj
        obtain ⟨hcj, hEj⟩ := hjs wr hwk
        clear hjs
        have hnj := HNE.out P[j] (List.getElem_mem hjl)
        have hej := HEL.out j hjl
        obtain ⟨q, hq⟩ : ∃ q, P[j].length = q + 1 := ⟨P[j].length - 1, by have := List.length_pos_iff.2 hnj; omega⟩
        obtain ⟨by', oy', rfl, ⟨f0, f1, f2, f3⟩, hok2⟩ := hEj q (by omega)
        clear f1 f2 f3 hok2 hEj
        have hlast : P[j].getLast? = some (P[j][q]'(by omega)) := by rw [List.getLast?_eq_getElem?, show P[j].length - 1 = q by omega, List.getElem?_eq_getElem (by omega)]
        have hltu := hPk.out _ j (by omega) rfl HH0.out _ hlast
        unfold lt at hltu
        generalize (P[j][q]'(by omega)).user = uj at *
        generalize (g[0]'hpos).user = ug at *
        have HNJ := Lib.hid hnj
        clear hnj hlast
        rw [hq] at hcj
        have r1 : ((j : Int) + 1) - 1 = (j : Int) := by omega
        have r2 : IntKind.i64.wrap (j : Int) = (j : Int) := IntWalk.i64_in _ (by omega)
        have r3 : IntKind.i64.wrap ((j : Int) + 1) = (j : Int) + 1 := IntWalk.i64_in _ (by omega)
        have r4 : (0 : Int) < (j : Int) + 1 := by omega
        have r5 : (j : Int) < (P.length : Int) := by omega
        have r6 : ((q : Int) + 1) - 1 = (q : Int) := by omega
        have r7 : IntKind.i64.wrap (q : Int) = (q : Int) := IntWalk.i64_in _ (by omega)
        have r8 : (0 : Int) ≤ (q : Int) := by omega
        have r9 : (0 : Int) ≤ (j : Int) := by omega
        have ra : decide ((0 : Int) < (j : Int) + 1) = true := decide_eq_true r4
        go_wp2
        go_quiet (fail)
        go_wp2_with (at_builtin; refine app_ents _ rfl _ _ 22 rfl Try.underlying22 Try.infoE rfl rfl (HO.out.later (below_drewN (Below.refl _ _) nq)) rfl (HST.out (wr.drewN nq) (below_drewN hwk nq)).2 hyk hal2 hgl2 (below_drewN hwr nq).size HNE0.out ?_; intro v' w2 hown2 hb2 _)
        exact ⟨⟨j + 1 + 1, by omega, by go_num, by rw [hft.out]; exact hown2, (below_drewN hwr nq).trans hb2⟩, by simp [intOf]; omega⟩
    · obtain rfl : k = P.length := by omega
      rw [List.take_length, HFL.out] at hown
      have hin : ¬ (P.length : Int) < (P.length : Int) := by omega
      obtain ⟨y, c, rfl, hyc, hym, hye, _, _, _⟩ := hown.read
      clear hown
      have HY := Lib.hid hye
      clear hye
      have hwe : Below w.heap.size w wr := hw4.out.trans (hwr.mono hw4.out.size)
      have hXm : X.length ≤ maxLen := Nat.le_trans hyc hym
      go_wp2_with ((with_reducible refine (same_any y a c cap X X wr hXm hXm HY.out (H2.out wr hwe) rfl).mono ?_); rintro _ w9 ⟨rfl, hb9⟩)
      go_ret
      exact ⟨rfl, hwe.trans (hb9.mono hwe.size)⟩
end Go.Proofs.Ythgbmijgoaihcaa
