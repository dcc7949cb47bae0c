/-
  The reference's Split.
-/
import Derived.Test.YthgbmijgoaihcaaSplit1
import Derived.Test.YthgbmijgoaihcaaEnt2
namespace Go.Proofs.Ythgbmijgoaihcaa
open Go.RowKit
set_option linter.unusedVariables false

theorem gstep_inv (s : List (List Ent) × List Ent) (e : Ent) (h : ∀ g ∈ s.1, g ≠ []) : (gstep s e).1.flatten ++ (gstep s e).2 = s.1.flatten ++ s.2 ++ [e] ∧ (∀ g ∈ (gstep s e).1, g ≠ []) ∧ (gstep s e).2 ≠ [] := by
  obtain ⟨o, n⟩ := s
  unfold gstep
  cases n with
  | nil => simpa using h
  | cons x t =>
    dsimp only at h ⊢
    split
    · simpa using h
    · refine ⟨by simp, ?_, by simp⟩
      intro g hg
      rcases List.mem_append.1 hg with h' | h'
      · exact h g h'
      · rw [List.mem_singleton.1 h']; simp
theorem gfold_inv (l : List Ent) : (gfold l).1.flatten ++ (gfold l).2 = l ∧ ∀ g ∈ (gfold l).1, g ≠ [] := by
  have : ∀ (l : List Ent) (s : List (List Ent) × List Ent), (∀ g ∈ s.1, g ≠ []) → (l.foldl gstep s).1.flatten ++ (l.foldl gstep s).2 = s.1.flatten ++ s.2 ++ l ∧ ∀ g ∈ (l.foldl gstep s).1, g ≠ [] := by
    intro l
    induction l with
    | nil => intro s h; simpa using h
    | cons e t ih =>
      intro s h
      obtain ⟨h1, h2, _⟩ := gstep_inv s e h
      obtain ⟨h3, h4⟩ := ih (gstep s e) h2
      refine ⟨?_, h4⟩
      rw [List.foldl_cons, h3, h1]
      simp
  simpa [gfold] using this l ([], []) (by simp)
theorem groups_flat (l : List Ent) : (groups l).flatten = l := by
  have h := (gfold_inv l).1
  unfold groups
  split
  · next e => rw [e, List.append_nil] at h; exact h
  · simpa using h
theorem groups_ne (l : List Ent) : ∀ g ∈ groups l, g ≠ [] := by
  have h := (gfold_inv l).2
  unfold groups
  split
  · exact h
  · next e =>
    intro g hg
    rcases List.mem_append.1 hg with h' | h'
    · exact h g h'
    · rw [List.mem_singleton.1 h']; exact e

def sstep (m : Int) (s : List (List Ent) × List Ent × Nat) (g : List Ent) : List (List Ent) × List Ent × Nat :=
  if s.2.1 ≠ [] ∧ max 1 m < ((s.2.2 + count g : Nat) : Int) then (s.1 ++ [s.2.1], g, count g) else (s.1, s.2.1 ++ g, s.2.2 + count g)
def sfold (m : Int) (gs : List (List Ent)) : List (List Ent) × List Ent × Nat := gs.foldl (sstep m) ([], [], 0)
def ssplit (m : Int) (l : List Ent) : List (List Ent) :=
  if rises l then (if (sfold m (groups l)).2.1 = [] then (sfold m (groups l)).1 else (sfold m (groups l)).1 ++ [(sfold m (groups l)).2.1]) else []

theorem sfold_take (m : Int) (gs : List (List Ent)) (k : Nat) (h : k < gs.length) : sfold m (gs.take (k + 1)) = sstep m (sfold m (gs.take k)) gs[k] := by
  unfold sfold; rw [List.take_succ_eq_append_getElem h, List.foldl_append]; rfl
theorem sfold_len (m : Int) (gs : List (List Ent)) (k : Nat) : (sfold m (gs.take k)).1.length ≤ k ∧ (sfold m (gs.take k)).2.1.length ≤ (gs.take k).flatten.length ∧ (sfold m (gs.take k)).2.2 ≤ count (gs.take k).flatten := by
  induction k with
  | zero => simp [sfold]
  | succ k ih =>
    by_cases h : k < gs.length
    · rw [sfold_take m gs k h, List.take_succ_eq_append_getElem h, List.flatten_append, List.flatten_singleton, count_append, List.length_append]
      generalize (gs.take k).flatten = q at *
      unfold sstep
      split
      · dsimp only; rw [List.length_append, List.length_singleton]; omega
      · dsimp only; rw [List.length_append]; omega
    · rw [List.take_of_length_le (by omega)] at ih ⊢; omega
theorem take_flat (gs : List (List Ent)) (k : Nat) : (gs.take k).flatten.length ≤ gs.flatten.length ∧ count (gs.take k).flatten ≤ count gs.flatten := by
  have h : gs.flatten = (gs.take k).flatten ++ (gs.drop k).flatten := by rw [← List.flatten_append, List.take_append_drop]
  rw [h, count_append, List.length_append]
  omega
theorem mem_flat (m : Int) (gs : List (List Ent)) (k : Nat) (h : k < gs.length) : gs[k].length ≤ gs.flatten.length ∧ (sfold m (gs.take k)).2.2 + count gs[k] ≤ count gs.flatten ∧ gs.length ≤ gs.length := by
  have h1 := sfold_len m gs k
  have h2 := take_flat gs (k + 1)
  rw [List.take_succ_eq_append_getElem h, List.flatten_append, List.flatten_singleton, count_append, List.length_append] at h2
  omega
theorem length_flat : ∀ (gs : List (List Ent)), (∀ g ∈ gs, g ≠ []) → gs.length ≤ gs.flatten.length := by
  intro gs
  induction gs with
  | nil => simp
  | cons g t ih =>
    intro h
    have := ih (fun x hx => h x (by simp [hx]))
    have h0 : 0 < g.length := List.length_pos_iff.2 (h g (by simp))
    rw [List.flatten_cons, List.length_append, List.length_cons]
    omega
theorem groups_facts (m : Int) (l : List Ent) : (groups l).length ≤ l.length ∧ ∀ k (h : k < (groups l).length), (groups l)[k] ≠ [] ∧ (groups l)[k].length ≤ l.length ∧ (sfold m ((groups l).take k)).2.2 + count (groups l)[k] ≤ count l := by
  have hf := groups_flat l
  have hn := groups_ne l
  have h1 := length_flat _ hn
  rw [hf] at h1
  refine ⟨h1, fun k h => ?_⟩
  have := mem_flat m _ k h
  rw [hf] at this
  exact ⟨hn _ (List.getElem_mem h), this.1, this.2.1⟩

theorem Outs.base {F : TypeId} {w : World} {base base' K : Nat} {v : Value} {outs : List (List Ent)} (h : Outs F w base K v outs) (hb : base' ≤ base) : Outs F w base' K v outs := by
  obtain ⟨h0, h1, vals, ⟨h2, h3⟩, h4⟩ := h
  refine ⟨h0, h1, vals, ⟨h2, ?_⟩, h4⟩
  rcases h3 with h3 | ⟨g, cap, cur, hv', hg, r⟩
  · exact Or.inl h3
  · exact Or.inr ⟨g, cap, cur, hv', by omega, r⟩

theorem Outs.rows {F : TypeId} {w : World} {base K : Nat} {v : Value} {outs : List (List Ent)} (h : Outs F w base K v outs) :
    ∃ x cap, v = .slice x outs.length cap ∧ outs.length ≤ cap ∧ cap ≤ maxLen ∧ ∀ i (h : i < outs.length), ∃ b off y c, x = some ⟨b, off, none⟩ ∧ outs[i].length ≤ c ∧ c ≤ maxLen ∧ (∀ z, y = some z → outs[i] ≠ [] → z.spot = none) ∧
      ∀ w', Below K w w' → w'.cell? ⟨b, off + i, none⟩ = some (.slice y outs[i].length c) ∧ Ents w' y outs[i] := by
  have hbel : ∀ w', Below K w w' → Outs F w' base K v outs := fun w' hb => h.below hb
  obtain ⟨h0, h1, vals, ⟨h2, h3⟩, h4⟩ := h
  rcases h3 with ⟨rfl, h3⟩ | ⟨g, cap, cur, rfl, hg, hh, r⟩
  · exact ⟨none, 0, by rw [h3], by omega, by unfold maxLen; omega, fun i hi => by omega⟩
  · refine ⟨_, cap, rfl, r.1, r.2.1, fun i hi => ?_⟩
    obtain ⟨x, c, e1, e2, e3, e4, e5⟩ := h4 i hi
    refine ⟨g, 0, x, c, rfl, e2, e3, ?_, fun w' hb => ⟨?_, e4.belowB (fun y hy => (e5 y hy).1) hb⟩⟩
    · intro z hz hne
      obtain ⟨b, off, e, _⟩ := e4 0 (List.length_pos_iff.2 hne)
      rw [e] at hz; cases hz; rfl
    · have hrow : w'.ownsRow base F 1 (.slice (some ⟨g, 0, none⟩) outs.length cap) outs.length vals := ⟨h2, Or.inr ⟨g, cap, cur, rfl, hg, by rw [hb.block g (h1 g rfl)]; exact hh, r⟩⟩
      rw [Nat.zero_add, World.ownsRow.cellAt hrow i (by omega)]
      exact e1

set_option maxRecDepth 100000 in
set_option maxHeartbeats 1600000 in
theorem refSplit_any (a : Option Addr) (cap : Nat) (l : List Ent) (m : Int) (w : World) (hl : l.length ≤ 1000000) (hc : count l ≤ 1000000000000) (hm : -9223372036854775808 ≤ m ∧ m ≤ 9223372036854775807) (hb : Ents w a l) :
    Calls Try.prog 19 #[.slice a l.length cap, .int .i64 m] w fun e w' => ∃ v K, e = .returned v ∧ Outs 22 w' w.heap.size K v (ssplit m l) ∧ Below w.heap.size w w' := by
  have hlm : l.length ≤ maxLen := by unfold maxLen; omega
  have HS := Lib.hid (show ssplit m l = if rises l then (if (sfold m (groups l)).2.1 = [] then (sfold m (groups l)).1 else (sfold m (groups l)).1 ++ [(sfold m (groups l)).2.1]) else [] from rfl)
  have HF := Lib.hid (groups_facts m l)
  go_enter Try.func19, Try.ntmps19
  by_cases hr : rises l = true
  case neg =>
    have hrf : rises l = false := by simpa using hr
    have hss : ssplit m l = [] := by rw [HS.out]; simp [hrf]
    clear HS HF hr
    go_wp2_with ((with_reducible refine (rrises_any a cap l w hlm hb).mono ?_); rintro _ w1 ⟨rfl, hb1⟩)
    go_ret
    refine ⟨_, w.heap.size, rfl, ?_, hb1⟩
    rw [hss]
    exact Outs.nil _ _ _ _ hb1.size
  have hss : Hid (ssplit m l = if (sfold m (groups l)).2.1 = [] then (sfold m (groups l)).1 else (sfold m (groups l)).1 ++ [(sfold m (groups l)).2.1]) := Lib.hid (by rw [HS.out]; simp [hr])
  clear HS
  have HR := Lib.hid hr
  clear hr
  go_wp2_with (first
    | ((with_reducible refine (rrises_any a cap l w hlm hb).mono ?_); rintro _ w1 ⟨rfl, hb1⟩; have hrt := HR.out)
    | ((with_reducible refine (groups_any a cap l w1 hl (hb.below hb1)).mono ?_); rintro _ w2 ⟨vg, K0, rfl, hg, hb2⟩))
  have hbx := hb1.trans (hb2.mono hb1.size)
  have hb1s := hb1.size
  replace hg := hg.mono (Nat.le_max_left K0 w1.heap.size) (Nat.max_le.2 ⟨hg.1, hb2.size⟩)
  have hK1 : w1.heap.size ≤ max K0 w1.heap.size := Nat.le_max_right _ _
  generalize max K0 w1.heap.size = K0 at hg hK1
  clear hb1 hb2 hb
  have hKx : w.heap.size ≤ K0 := Nat.le_trans hb1s hK1
  obtain ⟨xg, cg, rfl, hgc, hgm, hgr⟩ := hg.rows
  have hKw := hg.1
  clear hg
  have HG := Lib.hid hgr
  clear hgr
  go_loopw [6, 7, 8, 9] (fun vo vn n i wr => ∃ k K : Nat, k ≤ (groups l).length ∧ i = .int .i64 k ∧ K0 ≤ K ∧ n = .int .i64 ((sfold m ((groups l).take k)).2.2 : Nat) ∧ Outs 22 wr K0 K vo (sfold m ((groups l).take k)).1 ∧ OwnE 33 wr K vn (sfold m ((groups l).take k)).2.1 ∧ Below K0 w2 wr) (fun _ _ _ i _ => (groups l).length - (intOf i).toNat)
  case atStart => exact ⟨0, K0, by omega, rfl, Nat.le_refl _, rfl, Outs.nil _ _ _ _ hKw, OwnE.nil _ _ _, Below.refl _ _⟩
  case round =>
    obtain ⟨k, K, hk, rfl, hK, rfl, hout, hnow, hwr⟩ := hrel
    have hlen := sfold_len m (groups l) k
    have hfl := take_flat (groups l) k
    rw [groups_flat] at hfl
    have hgl := HF.out.1
    by_cases hlt : k < (groups l).length
    · obtain ⟨hg1, hg2, hg3⟩ := HF.out.2 k hlt
      have HGS := Lib.hid (sfold_take m (groups l) k hlt)
      obtain ⟨bg, og, yg, cc, rfl, hcc, hccm, hyg0, hrow⟩ := HG.out k hlt
      have hyg : ∀ z, yg = some z → z.spot = none := fun z hz => hyg0 z hz hg1
      clear hyg0
      obtain ⟨hcell, hE⟩ := hrow wr hwr
      have HRW := Lib.hid hrow
      clear hrow
      have hci : (k : Int) < ((groups l).length : Int) := by omega
      generalize hgk : (groups l)[k] = g at *
      generalize hs : sfold m ((groups l).take k) = s at *
      clear hs hgk
      obtain ⟨outs, now, n⟩ := s
      dsimp only at hout hnow hlen hg3
      obtain ⟨xo, co, rfl, ho1, ho2, ho3⟩ := hout.read
      clear ho3
      obtain ⟨y, c, rfl, hnc, hcm, hny, hno, hnn, hyo⟩ := hnow.read
      have hnl : now.length ≤ 1000000000000 := by omega
      have hol : outs.length ≤ 1000000000000 := by omega
      have hgl2 : g.length ≤ 1000000000000 := by omega
      have hcg : count g ≤ 4611686018427387904 := by omega
      have hnb : n ≤ 1000000000000 := by omega
      have hcb : count g ≤ 1000000000000 := by omega
      have hn0 : (0 : Int) ≤ (n : Int) := by omega
      have hK0w : K0 ≤ wr.heap.size := Nat.le_trans hKw hwr.size
      have HQ : Hid (∀ N, wr.heap.size ≤ N → ∀ u : Addr, y = some u → u.block < N ∧ (Value.slice xo outs.length co).ownBlock ≠ some u.block) := Lib.hid (by
        intro N hN u hu
        obtain ⟨q1, q2⟩ := hno u.block (hyo u hu)
        refine ⟨Nat.lt_of_lt_of_le q2 hN, fun hh => ?_⟩
        have := hout.2.1 _ hh
        omega)
      by_cases hcut : now ≠ [] ∧ max 1 m < ((n + count g : Nat) : Int)
      · have hst : Hid (sfold m ((groups l).take (k + 1)) = (outs ++ [now], g, count g)) := Lib.hid (by rw [HGS.out]; unfold sstep; rw [if_pos hcut])
        clear HGS
        have hpos : 0 < now.length := List.length_pos_iff.2 hcut.1
        have d0 : decide (0 < (now.length : Int)) = true := by simp; omega
        have d0n : decide (0 < now.length) = true := by simp; omega
        have hz : (0 : Int) < (now.length : Int) := by omega
        have hmx : max 1 m < (n : Int) + (count g : Int) := by have := hcut.2; omega
        have H1 : Hid ((m ≤ 1 ∧ (1 : Int) < (n : Int) + (count g : Int)) ∨ (¬ m ≤ 1 ∧ m < (n : Int) + (count g : Int))) := Lib.hid (by omega)
        clear hcut hmx
        rcases H1.out with ⟨q1, q2⟩ | ⟨q1, q2⟩
        all_goals clear H1
        all_goals
          go_wp2_with (first
            | ((with_reducible refine (size_any yg cc g wr hcg hE).mono ?_); rintro _ w3 ⟨rfl, hb3⟩)
            | (at_builtin; refine app_list _ rfl _ _ 25 rfl Try.underlying25 Try.infoEs rfl rfl (hout.below ((hb3.mono hout.1).alloc (Nat.le_trans hout.1 hb3.size) _)) rfl (heap_at w3 _) hnc hcm (hny.below (hb3.alloc hb3.size _)) (HQ.out _ (hb3.alloc hb3.size _).size) hol hK ?_; intro v' w4 K2 hout2 hb4 hK2 hK3; have hbw := hwr.trans (((hb3.mono hK0w).alloc (Nat.le_trans hK0w hb3.size) _).trans hb4); obtain ⟨hcell4, hE4⟩ := HRW.out w4 hbw)
            | (at_builtin; refine app_ents _ rfl _ _ 22 rfl Try.underlying22 Try.infoE rfl rfl (OwnE.nil _ _ K2) rfl hE4 hyg (Nat.zero_le _) hgl2 hout2.1 hg1 ?_; intro v5 w5 hown5 hb5 _))
        all_goals
          have hb45 : Below K2 w4 w5 := hb5
          refine ⟨⟨k + 1, K2, by omega, by go_num, Nat.le_trans hK hK2, by rw [hst.out], ?_, ?_, hbw.trans (hb45.mono (Nat.le_trans hK hK2))⟩, by simp [intOf]; omega⟩
          · rw [hst.out]; exact hout2.below hb45
          · rw [hst.out]; exact hown5
      · have hst : Hid (sfold m ((groups l).take (k + 1)) = (outs, now ++ g, n + count g)) := Lib.hid (by rw [HGS.out]; unfold sstep; rw [if_neg hcut])
        clear HGS
        have H1 : Hid (now = [] ∨ (now ≠ [] ∧ m ≤ 1 ∧ ¬ (1 : Int) < (n : Int) + (count g : Int)) ∨ (now ≠ [] ∧ ¬ m ≤ 1 ∧ ¬ m < (n : Int) + (count g : Int))) := Lib.hid (by
          by_cases q : now = []
          · exact Or.inl q
          · have : ¬ max 1 m < ((n + count g : Nat) : Int) := fun h => hcut ⟨q, h⟩
            by_cases q' : m ≤ 1
            · exact Or.inr (Or.inl ⟨q, q', by omega⟩)
            · exact Or.inr (Or.inr ⟨q, q', by omega⟩))
        clear hcut
        have hfin : ∀ v5 w3 w5, Below wr.heap.size wr w3 → OwnE 33 w5 K v5 (now ++ g) → Below K w3 w5 → Below K wr w5 := fun v5 w3 w5 hb3 _ hb5 => (hb3.mono hout.1).trans hb5
        rcases H1.out with q0 | ⟨q0, q1, q2⟩ | ⟨q0, q1, q2⟩
        all_goals clear H1
        case' inl =>
          subst q0
          have d0 : decide (0 < ((([] : List Ent).length : Nat) : Int)) = false := by simp
        case' inr.inl =>
          have hpos : 0 < now.length := List.length_pos_iff.2 q0
          have d0 : decide (0 < (now.length : Int)) = true := by simp; omega
          have d0n : decide (0 < now.length) = true := by simp; omega
          have hz : (0 : Int) < (now.length : Int) := by omega
        case' inr.inr =>
          have hpos : 0 < now.length := List.length_pos_iff.2 q0
          have d0 : decide (0 < (now.length : Int)) = true := by simp; omega
          have d0n : decide (0 < now.length) = true := by simp; omega
          have hz : (0 : Int) < (now.length : Int) := by omega
        all_goals
          go_wp2_with (first
            | ((with_reducible refine (size_any yg cc g wr hcg hE).mono ?_); rintro _ w3 ⟨rfl, hb3⟩; obtain ⟨hcell3, hE3⟩ := HRW.out w3 (hwr.trans (hb3.mono hK0w)))
            | (at_builtin; refine app_ents _ rfl _ _ 22 rfl Try.underlying22 Try.infoE rfl rfl (hnow.later hb3) rfl hE3 hyg hnl hgl2 (Nat.le_trans hout.1 hb3.size) hg1 ?_; intro v5 w5 hown5 hb5 _))
        all_goals
          have hb45 : Below K wr w5 := (hb3.mono hout.1).trans hb5
          refine ⟨⟨k + 1, K, by omega, by go_num, hK, by rw [hst.out]; go_num, ?_, ?_, hwr.trans (hb45.mono hK)⟩, by simp [intOf]; omega⟩
          · rw [hst.out]; exact hout.below hb45
          · rw [hst.out]; exact hown5
    · obtain rfl : k = (groups l).length := by omega
      rw [List.take_length] at *
      have HSS := Lib.hid hss.out
      clear hss HF HG
      generalize sfold m (groups l) = s at *
      obtain ⟨outs, now, n⟩ := s
      dsimp only at hout hnow hlen HSS
      obtain ⟨xo, co, rfl, ho1, ho2, ho3⟩ := hout.read
      clear ho3
      obtain ⟨y, c, rfl, hnc, hcm, hny, hno, hnn, hyo⟩ := hnow.read
      have hol : outs.length ≤ 1000000000000 := by omega
      have hin : ¬ ((groups l).length : Int) < ((groups l).length : Int) := by omega
      have hwk : Below w.heap.size w wr := hbx.trans (hwr.mono hKx)
      cases now with
      | nil =>
        have hgr : Hid (ssplit m l = outs) := Lib.hid (by have := HSS.out; simpa using this)
        clear HSS
        have d0 : decide (0 < ((([] : List Ent).length : Nat) : Int)) = false := by simp
        go_wp2
        go_ret
        refine ⟨_, rfl, ⟨K, ?_⟩, hwk⟩
        rw [hgr.out]
        exact hout.base hKx
      | cons x0 t =>
        have hgr : Hid (ssplit m l = outs ++ [x0 :: t]) := Lib.hid (by have := HSS.out; simpa using this)
        clear HSS
        have d0 : decide (0 < (((x0 :: t).length : Nat) : Int)) = true := by simp
        have hz : (0 : Int) < (((x0 :: t).length : Nat) : Int) := by simp
        have d0n : decide (0 < (x0 :: t).length) = true := by simp
        generalize hn : x0 :: t = now at *
        have HN := Lib.hid hn
        clear hn
        have HQ : Hid (∀ N, wr.heap.size ≤ N → ∀ u : Addr, y = some u → u.block < N ∧ (Value.slice xo outs.length co).ownBlock ≠ some u.block) := Lib.hid (by
          intro N hN u hu
          obtain ⟨q1, q2⟩ := hno u.block (hyo u hu)
          refine ⟨Nat.lt_of_lt_of_le q2 hN, fun hh => ?_⟩
          have := hout.2.1 _ hh
          omega)
        go_wp2_with (at_builtin; refine app_list _ rfl _ _ 25 rfl Try.underlying25 Try.infoEs rfl rfl (hout.below ((Below.refl _ _).alloc hout.1 _)) rfl (heap_at wr _) hnc hcm (hny.below ((Below.refl _ _).alloc (Nat.le_refl _) _)) (HQ.out _ ((Below.refl wr.heap.size wr).alloc (Nat.le_refl _) _).size) hol hK ?_; intro v' w2 K2 hout2 hb2 hK2 hK3)
        go_ret
        refine ⟨_, rfl, ⟨K2, ?_⟩, hwk.trans ((((Below.refl _ _).alloc hwk.size _)).trans (hb2.mono hKx))⟩
        rw [hgr.out]
        exact hout2.base hKx
end Go.Proofs.Ythgbmijgoaihcaa
