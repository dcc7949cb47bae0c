/-
  SplitMost.
-/
import Derived.Test.YthgbmijgoaihcaaSplit8
import Derived.Test.YthgbmijgoaihcaaSplit9
namespace Go.Proofs.Ythgbmijgoaihcaa
open Go.RowKit
set_option linter.unusedVariables false

theorem farOk_at (m : Int) : ∀ (ps : List (List Ent)), farOk m ps → ∀ i (h : i + 1 < ps.length), Far m ps[i] ps[i + 1] := by
  intro ps
  induction ps with
  | nil => intro _ i h; simp at h
  | cons a ps ih =>
    intro hf i h
    cases ps with
    | nil => simp at h
    | cons b ps =>
      cases i with
      | zero => exact hf.1
      | succ i => exact ih hf.2 i (by simpa using h)

/-- How many of a list's entries bear its first one's key. -/
theorem run_next (p : List Ent) (k : Nat) (h0 : 0 < p.length) (hk : k < p.length) (hs : p.take k = (firstRun p).take k) (hkr : k ≤ (firstRun p).length) : (p[k].user.toList = p[0].user.toList → k < (firstRun p).length ∧ p.take (k + 1) = (firstRun p).take (k + 1)) ∧ (p[k].user.toList ≠ p[0].user.toList → (firstRun p) = p.take k) := by
  cases p with
  | nil => simp at h0
  | cons x t =>
    cases k with
    | zero => exact ⟨fun _ => ⟨by simp [firstRun], by simp [firstRun]⟩, fun h => absurd rfl h⟩
    | succ k =>
      have e : firstRun (x :: t) = x :: t.takeWhile (fun y => decide (y.user.toList = x.user.toList)) := rfl
      rw [e] at hs hkr ⊢
      simp only [List.take_succ_cons, List.cons.injEq, true_and, List.length_cons, List.getElem_cons_succ, List.getElem_cons_zero] at hs hkr hk ⊢
      have key : ∀ (t : List Ent) (k : Nat) (hk : k < t.length), t.take k = (t.takeWhile fun y => decide (y.user.toList = x.user.toList)).take k → k ≤ (t.takeWhile fun y => decide (y.user.toList = x.user.toList)).length →
          (t[k].user.toList = x.user.toList → k < (t.takeWhile fun y => decide (y.user.toList = x.user.toList)).length ∧ t.take (k + 1) = (t.takeWhile fun y => decide (y.user.toList = x.user.toList)).take (k + 1)) ∧ (t[k].user.toList ≠ x.user.toList → (t.takeWhile fun y => decide (y.user.toList = x.user.toList)) = t.take k) := by
        intro t
        induction t with
        | nil => intro k hk; simp at hk
        | cons a t ih =>
          intro k hk h1 h2
          cases k with
          | zero =>
            refine ⟨fun h => ?_, fun h => ?_⟩
            · have : a.user.toList = x.user.toList := h
              simp [this]
            · have : ¬ a.user.toList = x.user.toList := h
              simp [this]
          | succ k =>
            by_cases ha : a.user.toList = x.user.toList
            · have et : (a :: t).takeWhile (fun y => decide (y.user.toList = x.user.toList)) = a :: t.takeWhile (fun y => decide (y.user.toList = x.user.toList)) := by simp [ha]
              rw [et] at h1 h2 ⊢
              obtain ⟨i1, i2⟩ := ih k (by simpa using hk) (by simpa using h1) (by simpa using h2)
              refine ⟨fun h => ?_, fun h => ?_⟩
              · obtain ⟨j1, j2⟩ := i1 h
                exact ⟨by simpa using j1, by rw [List.take_succ_cons, List.take_succ_cons, j2]⟩
              · rw [i2 h]; rfl
            · have et : (a :: t).takeWhile (fun y => decide (y.user.toList = x.user.toList)) = [] := by simp [ha]
              rw [et] at h2
              simp at h2
      obtain ⟨i1, i2⟩ := key t k (by omega) hs (by omega)
      refine ⟨fun h => ?_, fun h => ?_⟩
      · obtain ⟨j1, j2⟩ := i1 h
        exact ⟨by omega, j2⟩
      · exact i2 h
theorem firstRun_take (p : List Ent) : firstRun p = p.take (firstRun p).length ∧ (firstRun p).length ≤ p.length := by
  cases p with
  | nil => exact ⟨rfl, Nat.le_refl _⟩
  | cons x t =>
    have key : ∀ (f : Ent → Bool) (t : List Ent), t.takeWhile f = t.take (t.takeWhile f).length ∧ (t.takeWhile f).length ≤ t.length := by
      intro f t
      induction t with
      | nil => exact ⟨rfl, Nat.le_refl _⟩
      | cons a t ih =>
        by_cases h : f a = true
        · have e : (a :: t).takeWhile f = a :: t.takeWhile f := by simp [h]
          rw [e]
          refine ⟨?_, by simpa using ih.2⟩
          rw [List.length_cons, List.take_succ_cons, ← ih.1]
        · have e : (a :: t).takeWhile f = [] := by simp [h]
          rw [e]
          exact ⟨rfl, by simp⟩
    have e : firstRun (x :: t) = x :: t.takeWhile (fun y => decide (y.user.toList = x.user.toList)) := rfl
    obtain ⟨h1, h2⟩ := key (fun y => decide (y.user.toList = x.user.toList)) t
    rw [e]
    refine ⟨?_, by simpa using h2⟩
    rw [List.length_cons, List.take_succ_cons, ← h1]
theorem run_at (G : List Ent) (hG : 0 < G.length) : ∀ t (ht : t < G.length), t ≤ (firstRun G).length → (G[t].user.toList = G[0].user.toList → t + 1 ≤ (firstRun G).length) ∧ (G[t].user.toList ≠ G[0].user.toList → t = (firstRun G).length) := by
  intro t ht htr
  obtain ⟨h1, h2⟩ := firstRun_take G
  have hs : G.take t = (firstRun G).take t := by
    generalize (firstRun G).length = r at *
    rw [h1, List.take_take, Nat.min_eq_left htr]
  obtain ⟨z1, z2⟩ := run_next G t hG ht hs htr
  refine ⟨fun h => (z1 h).1, fun h => ?_⟩
  have := congrArg List.length (z2 h)
  rw [List.length_take, Nat.min_eq_left (by omega)] at this
  exact this.symm

set_option maxRecDepth 100000 in
set_option maxHeartbeats 3200000 in
theorem law_most (a : Option Addr) (cap : Nat) (l : List Ent) (m : Int) (w : World) (hcap : l.length ≤ cap) (hcm : cap ≤ maxLen) (hm : -9223372036854775808 ≤ m ∧ m ≤ 9223372036854775807) (hb : Ents w a l) :
    Calls Try.prog 5 #[.slice a l.length cap, .int .i64 m] w fun e w' => e = .returned (.bool true) ∧ Below w.heap.size w w' := by
  have h5 := fewN_500 l
  have hle := fewN_le l
  have hco := fewN_count l
  have hX : (l.take (fewN l)).length = fewN l := by simp; omega
  have c17 := fun w hb => split_any a cap (l.take (fewN l)) m w (by omega) (by omega) hcm (by omega) hm hb
  simp only [hX] at c17
  have C17 := Lib.hid c17
  clear c17
  have hbT := hb.take (fewN l)
  have H1 := Lib.hid (show ∀ w', Below w.heap.size w w' → Ents w' a l from fun w' h => hb.below h)
  have H2 := Lib.hid (show ∀ w', Below w.heap.size w w' → Ents w' a (l.take (fewN l)) from fun w' h => hbT.below h)
  clear hb hbT
  have hf := fun w hb => few_any a cap l w hcap hcm hb
  have HFW := Lib.hid hf
  clear hf
  generalize hXX : l.take (fewN l) = X at *
  clear hXX
  generalize fewN l = n at *
  subst hX
  have hP : Hid (∀ p ∈ ssplit m X, p ≠ []) ∧ Hid (∀ p ∈ ssplit m X, Fits m p) ∧ Hid (farOk m (ssplit m X)) ∧ Hid ((ssplit m X).length ≤ X.length) ∧ Hid (∀ k (h : k < (ssplit m X).length), (ssplit m X)[k].length ≤ X.length ∧ count (ssplit m X)[k] ≤ count X) := by
    by_cases hr : rises X = true
    · obtain ⟨_, a1, a2⟩ := ssplit_all m X hr
      obtain ⟨a3, a4⟩ := ssplit_most m X hr
      refine ⟨Lib.hid a1, Lib.hid a3, Lib.hid a4, Lib.hid (ssplit_len m X hr), Lib.hid (fun k h => ?_)⟩
      have h1 := take_flat (ssplit m X) (k + 1)
      rw [a2, List.take_succ_eq_append_getElem h, List.flatten_append, List.flatten_singleton, List.length_append, count_append] at h1
      omega
    · have e : ssplit m X = [] := by unfold ssplit; simp [hr]
      rw [e]
      exact ⟨Lib.hid (by simp), Lib.hid (by simp), Lib.hid trivial, Lib.hid (by simp), Lib.hid (by simp)⟩
  obtain ⟨HNE, HFI, HFA, HPL, HEL⟩ := hP
  generalize hPP : ssplit m X = P at *
  clear hPP
  have hpl := HPL.out
  go_enter Try.func5, Try.ntmps5
  by_cases hm1 : m < 1
  all_goals
    go_wp2_with (first
    | ((with_reducible refine (shown_any w).mono ?_); rintro _ w1 ⟨rfl, hb1⟩)
    | ((with_reducible refine (HFW.out w1 (H1.out w1 hb1)).mono ?_); rintro _ w2 ⟨rfl, hb2⟩; have hw2 := Lib.hid (hb1.trans (hb2.mono hb1.size)))
    | ((with_reducible refine (C17.out w2 (H2.out w2 hw2.out)).mono ?_); rintro _ w3 ⟨va, Ka, rfl, ha, hb3⟩; have hw3 := Lib.hid (hw2.out.trans (hb3.mono hw2.out.size)); obtain ⟨xp, cp, rfl, hp1, hp2, hpr⟩ := ha.rows; have hKw := ha.1; have HP := Lib.hid hpr; clear ha hpr))
  all_goals
    clear H1 H2 HFW C17
    go_loopw [20] (fun i wr => ∃ k : Nat, k ≤ P.length ∧ i = .int .i64 k ∧ Below w3.heap.size w3 wr) (fun i _ => P.length - (intOf i).toNat)
    case atStart => exact ⟨0, by omega, rfl, Below.refl _ _⟩
    case round =>
      obtain ⟨k, hk, rfl, hwr⟩ := hrel
      by_cases hlt : k < P.length
      · have hfi := Lib.hid (HFI.out P[k] (List.getElem_mem hlt))
        have hne := HNE.out P[k] (List.getElem_mem hlt)
        obtain ⟨hel, hcl⟩ := HEL.out k hlt
        have hwk : Below Ka w3 wr := hwr.mono hKw
        obtain ⟨bp, op, yk, ck, rfl, hkc, hkm, _, hstab⟩ := HP.out k hlt
        have hpos : 0 < P[k].length := List.length_pos_iff.2 hne
        obtain ⟨hcell, hEk⟩ := hstab wr hwk
        obtain ⟨bk, ok, rfl, _, _⟩ := hEk 0 hpos
        have HST := Lib.hid hstab
        have HEk := Lib.hid hEk
        clear hstab hEk
        have HFAR : Hid (∀ h : k + 1 < P.length, Far m P[k] P[k + 1]) := Lib.hid (fun h => farOk_at m P HFA.out k h)
        obtain ⟨q, hq⟩ : ∃ q, P[k].length = q + 1 := ⟨P[k].length - 1, by omega⟩
        have hcg : count P[k] ≤ 4611686018427387904 := by omega
        have hin : (k : Int) < (P.length : Int) := by omega
        have HNE1 := Lib.hid hne
        clear hne
        have hqP : q < P[k].length := by omega
        have HU : Hid (P[k][0].user.toList = P[k][q].user.toList ∨ (P[k][0].user.toList ≠ P[k][q].user.toList ∧ (count P[k] : Int) ≤ max 1 m)) := Lib.hid (by
          rcases hfi.out with h | h
          · exact Or.inl (h _ _ (List.getElem_mem _) (List.getElem_mem _))
          · by_cases hh : P[k][0].user.toList = P[k][q].user.toList
            · exact Or.inl hh
            · exact Or.inr ⟨hh, h⟩)
        have HC : Hid (∀ w', Below Ka w3 w' → w'.cell? ⟨bp, op + k, none⟩ = some (.slice (some ⟨bk, ok, none⟩) (q + 1) ck) ∧ w'.cell? ⟨bk, ok, none⟩ = some (.string P[k][0].user) ∧ w'.cell? ⟨bk, ok + q * 4, none⟩ = some (.string P[k][q].user)) := Lib.hid (fun w' h => by
          obtain ⟨z1, z2⟩ := HST.out w' h
          obtain ⟨e0, _⟩ := z2.get 0 hpos
          obtain ⟨e1, _⟩ := z2.get q hqP
          rw [hq] at z1
          rw [Nat.zero_mul, Nat.add_zero] at e0
          exact ⟨z1, e0, e1⟩)
        have c20 := fun (w : World) (hb : Ents w (some ⟨bk, ok, none⟩) P[k]) => count_any (some ⟨bk, ok, none⟩) ck P[k] w hcg hb
        rw [hq] at c20
        have C20 := Lib.hid c20
        clear c20
        generalize P[k][q].user = uq at *
        generalize P[k][0].user = u0 at *
        obtain ⟨y1, y2, y3⟩ := HC.out wr hwk
        clear hcell
        have r1 : ((q : Int) + 1) - 1 = (q : Int) := by omega
        have r2 : IntKind.i64.wrap (q : Int) = (q : Int) := IntWalk.i64_in _ (by omega)
        have r3 : (0 : Int) ≤ (q : Int) := by omega
        have r4 : (q : Int) < (q : Int) + 1 := by omega
        have r5 : ((q : Int) + 1 == 0) = false := by simp; omega
        go_wp2_with ((with_reducible refine (C20.out wr HEk.out).mono ?_); rintro _ w5 ⟨rfl, hb5⟩; have hw5 := Lib.hid (hwr.trans (hb5.mono hwr.size)); obtain ⟨x1, x2, x3⟩ := HC.out w5 (hw5.out.mono hKw))
        rcases HU.out with hu | ⟨hu, hcm2⟩
        case' inl => have d5 : (u0.toList == uq.toList) = true := by simp [hu]
        case' inr =>
          have d5 : (u0.toList == uq.toList) = false := by simp [hu]
          first
            | (have d6 : ¬ (1 : Int) < (count P[k] : Int) := by omega)
            | (have d6 : ¬ m < (count P[k] : Int) := by omega)
        all_goals clear hu
        all_goals go_quiet (fail)
        all_goals have hbn : Below w3.heap.size w3 (w5.drewN nq) := below_drewN hw5.out nq
        all_goals
          by_cases hnx : k + 1 < P.length
          case' neg =>
            have hnxi : ¬ (k : Int) + 1 < (P.length : Int) := by omega
          case' pos =>
            have hnxi : (k : Int) + 1 < (P.length : Int) := by omega
          case' pos =>
            have hFar := HFAR.out hnx
            unfold Far at hFar
            have hneG := HNE.out P[k + 1] (List.getElem_mem hnx)
            obtain ⟨hgl, hgc⟩ := HEL.out (k + 1) hnx
            obtain ⟨bp', op', yj, cj, hbj, hjc, hjm, _, hjs⟩ := HP.out (k + 1) hnx
            obtain ⟨rfl, rfl⟩ : bp = bp' ∧ op = op' := by cases hbj; exact ⟨rfl, rfl⟩
            clear hbj
            have hFT := firstRun_take P[k + 1]
            generalize P[k + 1] = G at *
            have hposG : 0 < G.length := List.length_pos_iff.2 hneG
            obtain ⟨hFT1, hFT2⟩ := hFT
            have hcR : count (firstRun G) ≤ count G := by rw [hFT1]; exact count_take_le G _
            have HN := Lib.hid (run_at G hposG)
            have HRT : Hid (firstRun G = G.take (firstRun G).length) := Lib.hid hFT1
            clear hFT1
            generalize firstRun G = F at *
            obtain ⟨_, hEj⟩ := hjs w3 (Below.refl _ _)
            obtain ⟨bj, oj, rfl, _, _⟩ := hEj 0 hposG
            clear hEj
            have HST2 := Lib.hid hjs
            clear hjs
            have hg64 : G.length ≤ 1000000 := by omega
            have hcj : cj ≤ 9223372036854775807 := by unfold maxLen at hjm; omega
            have q3 : IntKind.i64.wrap ((k : Int) + 1) = (k : Int) + 1 := IntWalk.i64_in _ (by omega)
            have q4 : (0 : Int) ≤ (k : Int) + 1 := by omega
            have q5 : ((k : Int) + 1).toNat = k + 1 := by omega
          all_goals go_wp2
          all_goals first
            | exact ⟨⟨k + 1, by omega, by go_num, hbn⟩, by simp [intOf]; omega⟩
            | skip
          all_goals
            go_loopw [10] (fun j wj => ∃ t : Nat, t ≤ F.length ∧ j = .int .i64 t ∧ Below w3.heap.size w3 wj) (fun j _ => F.length - (intOf j).toNat)
            case atStart => exact ⟨0, by omega, rfl, hbn⟩
            case round =>
              obtain ⟨t, ht, rfl, hwj⟩ := hrel
              obtain ⟨s1, s2⟩ := HST2.out wr (hwj.mono hKw)
              obtain ⟨e0, _⟩ := s2.get 0 hposG
              rw [Nat.zero_mul, Nat.add_zero] at e0
              have hz0 : (0 : Int) < (G.length : Int) := by omega
              have hcF : count F ≤ 4611686018427387904 := by omega
              have hEnd : t = F.length → ((t : Int) < (G.length : Int) → G.length = G.length) := fun _ _ => rfl
              clear hEnd
              by_cases hlt2 : t < G.length
              · obtain ⟨f0, _⟩ := s2.get t hlt2
                have hin2 : (t : Int) < (G.length : Int) := by omega
                obtain ⟨n1, n2⟩ := HN.out t hlt2 ht
                by_cases hu : G[t].user.toList = G[0].user.toList
                · have ht1 := n1 hu
                  clear n1 n2
                  have d1 : (G[t].user.toList == G[0].user.toList) = true := by simp [hu]
                  clear hu
                  generalize G[t].user = ut at *
                  generalize G[0].user = ug at *
                  clear s2 hFar
                  go_wp2
                  go_quiet (fail)
                  go_wp2
                  exact ⟨⟨t + 1, ht1, by go_num, below_drewN hwj _⟩, by simp [intOf]; omega⟩
                · have hte : t = F.length := n2 hu
                  clear n1 n2
                  have d1 : (G[t].user.toList == G[0].user.toList) = false := by simp [hu]
                  clear hu
                  generalize G[t].user = ut at *
                  generalize G[0].user = ug at *
                  subst hte
                  have HEF : Hid (∀ w', Below Ka w3 w' → w'.cell? ⟨bp, op + (k + 1), none⟩ = some (.slice (some ⟨bj, oj, none⟩) G.length cj) ∧ Ents w' (some ⟨bj, oj, none⟩) F) := Lib.hid (fun w' h => by obtain ⟨z1, z2⟩ := HST2.out w' h; exact ⟨z1, by rw [HRT.out]; exact z2.take _⟩)
                  have hkcj : (F.length : Int) ≤ (cj : Int) := by omega
                  have hc0 : (0 : Int) ≤ (count F : Int) := by omega
                  have hm2 : m ≤ 9223372036854775807 := hm.2
                  by_cases hg : (count F : Int) ≤ max 1 m
                  case' pos =>
                    first
                      | (have g1 : (count F : Int) ≤ 1 := by omega
                         have g2 : ¬ (count P[k] : Int) ≤ 1 - (count F : Int) := by omega)
                      | (have g1 : (count F : Int) ≤ m := by omega
                         have g2 : ¬ (count P[k] : Int) ≤ m - (count F : Int) := by omega)
                  case' neg =>
                    have g1 : decide ((count F : Int) ≤ 1) = false := by simp; omega
                    have g2 : decide ((count F : Int) ≤ m) = false := by simp; omega
                  all_goals
                    clear hg hFar s2
                    go_wp2
                    go_quiet (fail)
                    have hwn : Below w3.heap.size w3 (wr.drewN nq) := below_drewN hwj nq
                    obtain ⟨s4, _⟩ := HEF.out _ (hwn.mono hKw)
                    go_wp2_with (first | ((with_reducible refine (count_any (some ⟨bj, oj, none⟩) cj F (wr.drewN nq) hcF (HEF.out _ (hwn.mono hKw)).2).mono ?_); rintro _ w6 ⟨rfl, hb6⟩; have hw6 := Lib.hid (hwn.trans (hb6.mono hwn.size)); obtain ⟨s3, _⟩ := HEF.out w6 (hw6.out.mono hKw)) | ((with_reducible refine (count_any (some ⟨bj, oj, none⟩) cj F w6 hcF (HEF.out _ (hw6.out.mono hKw)).2).mono ?_); rintro _ w7 ⟨rfl, hb7⟩; have hw7 := Lib.hid (hw6.out.trans (hb7.mono hw6.out.size))))
                    first
                      | exact ⟨⟨k + 1, by omega, by go_num, hw7.out⟩, by simp [intOf]; omega⟩
                      | exact ⟨⟨k + 1, by omega, by go_num, hw6.out⟩, by simp [intOf]; omega⟩
              · have hte : t = F.length := by omega
                have hin2 : decide ((t : Int) < (G.length : Int)) = false := by simp; omega
                have hin3 : decide (t < G.length) = false := by simp; omega
                subst hte
                have HEF : Hid (∀ w', Below Ka w3 w' → w'.cell? ⟨bp, op + (k + 1), none⟩ = some (.slice (some ⟨bj, oj, none⟩) G.length cj) ∧ Ents w' (some ⟨bj, oj, none⟩) F) := Lib.hid (fun w' h => by obtain ⟨z1, z2⟩ := HST2.out w' h; exact ⟨z1, by rw [HRT.out]; exact z2.take _⟩)
                have hkcj : (F.length : Int) ≤ (cj : Int) := by omega
                have hc0 : (0 : Int) ≤ (count F : Int) := by omega
                have hm2 : m ≤ 9223372036854775807 := hm.2
                by_cases hg : (count F : Int) ≤ max 1 m
                case' pos =>
                  first
                    | (have g1 : (count F : Int) ≤ 1 := by omega
                       have g2 : ¬ (count P[k] : Int) ≤ 1 - (count F : Int) := by omega)
                    | (have g1 : (count F : Int) ≤ m := by omega
                       have g2 : ¬ (count P[k] : Int) ≤ m - (count F : Int) := by omega)
                case' neg =>
                  have g1 : decide ((count F : Int) ≤ 1) = false := by simp; omega
                  have g2 : decide ((count F : Int) ≤ m) = false := by simp; omega
                all_goals
                  clear hg hFar s2
                  go_wp2
                  go_quiet (fail)
                  have hwn : Below w3.heap.size w3 (wr.drewN nq) := below_drewN hwj nq
                  obtain ⟨s4, _⟩ := HEF.out _ (hwn.mono hKw)
                  go_wp2_with (first | ((with_reducible refine (count_any (some ⟨bj, oj, none⟩) cj F (wr.drewN nq) hcF (HEF.out _ (hwn.mono hKw)).2).mono ?_); rintro _ w6 ⟨rfl, hb6⟩; have hw6 := Lib.hid (hwn.trans (hb6.mono hwn.size)); obtain ⟨s3, _⟩ := HEF.out w6 (hw6.out.mono hKw)) | ((with_reducible refine (count_any (some ⟨bj, oj, none⟩) cj F w6 hcF (HEF.out _ (hw6.out.mono hKw)).2).mono ?_); rintro _ w7 ⟨rfl, hb7⟩; have hw7 := Lib.hid (hw6.out.trans (hb7.mono hw6.out.size))))
                  first
                    | exact ⟨⟨k + 1, by omega, by go_num, hw7.out⟩, by simp [intOf]; omega⟩
                    | exact ⟨⟨k + 1, by omega, by go_num, hw6.out⟩, by simp [intOf]; omega⟩
      · have hke : k = P.length := by omega
        subst hke
        have hin : ¬ (P.length : Int) < (P.length : Int) := by omega
        go_wp2
        go_ret
        exact ⟨rfl, hw3.out.trans (hwr.mono hw3.out.size)⟩
end Go.Proofs.Ythgbmijgoaihcaa
