/-
  What Keep keeps, plainly: it rises, it is seen as it was, and of one key there is not more than a moment has use for.
-/
import Derived.Test.YthgbmijgoaihcaaMg10
namespace Go.Proofs.Ythgbmijgoaihcaa
open Go.RowKit
set_option linter.unusedVariables false

def Bef (x y : Ent) : Prop := lt x.user y.user = true ∨ (x.user.toList = y.user.toList ∧ y.seq < x.seq)
theorem Bef.irr (x : Ent) : ¬ Bef x x := by
  rintro (h | ⟨_, h⟩)
  · exact lt_ne _ _ h rfl
  · omega
theorem Bef.trans {x y z : Ent} (h1 : Bef x y) (h2 : Bef y z) : Bef x z := by
  rcases h1 with h1 | ⟨e1, h1⟩ <;> rcases h2 with h2 | ⟨e2, h2⟩
  · exact Or.inl (less_trans _ _ _ h1 h2)
  · left; unfold lt at *; rw [← e2]; exact h1
  · left; unfold lt at *; rw [e1]; exact h2
  · exact Or.inr ⟨e1.trans e2, by omega⟩
theorem rises_pw : ∀ l : List Ent, rises l = true → l.Pairwise Bef
  | [], _ => List.Pairwise.nil
  | [x], _ => by simp
  | x :: y :: l, h => by
    have h' : (ahead x y && rises (y :: l)) = true := h
    rw [Bool.and_eq_true] at h'
    have ih := rises_pw (y :: l) h'.2
    have hxy : Bef x y := ahead_parts x y h'.1
    refine List.Pairwise.cons ?_ ih
    intro z hz
    rcases List.mem_cons.1 hz with rfl | hz
    · exact hxy
    · exact hxy.trans ((List.pairwise_cons.1 ih).1 z hz)
theorem pw_rises : ∀ l : List Ent, l.Pairwise Bef → rises l = true
  | [], _ => rfl
  | [x], _ => rfl
  | x :: y :: l, h => by
    obtain ⟨h1, h2⟩ := List.pairwise_cons.1 h
    have ha : ahead x y = true := by
      unfold ahead
      rcases h1 y (by simp) with q | ⟨q1, q2⟩
      · simp [q]
      · simp [q1, q2]
    show (ahead x y && rises (y :: l)) = true
    rw [ha, pw_rises (y :: l) h2]; rfl
theorem eq_of_mem : ∀ (a b : List Ent), a.Pairwise Bef → b.Pairwise Bef → (∀ e, e ∈ a ↔ e ∈ b) → a = b
  | [], [], _, _, _ => rfl
  | [], y :: b, _, _, h => by have := (h y).2 (by simp); simp at this
  | x :: a, [], _, _, h => by have := (h x).1 (by simp); simp at this
  | x :: a, y :: b, ha, hb, h => by
    obtain ⟨ha1, ha2⟩ := List.pairwise_cons.1 ha
    obtain ⟨hb1, hb2⟩ := List.pairwise_cons.1 hb
    have hxy : x = y := by
      rcases List.mem_cons.1 ((h x).1 (by simp)) with e | e
      · exact e
      · rcases List.mem_cons.1 ((h y).2 (by simp)) with e2 | e2
        · exact e2.symm
        · exact absurd ((ha1 y e2).trans (hb1 x e)) (Bef.irr x)
    subst hxy
    congr 1
    refine eq_of_mem a b ha2 hb2 fun e => ⟨fun he => ?_, fun he => ?_⟩
    · rcases List.mem_cons.1 ((h e).1 (List.mem_cons_of_mem _ he)) with rfl | q
      · exact absurd (ha1 e he) (Bef.irr e)
      · exact q
    · rcases List.mem_cons.1 ((h e).2 (List.mem_cons_of_mem _ he)) with rfl | q
      · exact absurd (hb1 e he) (Bef.irr e)
      · exact q
theorem getD_in (l : List Ent) (i : Nat) (h : i < l.length) : l.getD i default ∈ l := by
  rw [show l.getD i default = l[i] by simp [List.getD_eq_getElem?_getD, h]]
  exact List.getElem_mem h
theorem in_getD (l : List Ent) (e : Ent) (h : e ∈ l) : ∃ i, i < l.length ∧ e = l.getD i default := by
  obtain ⟨i, hi, rfl⟩ := List.getElem_of_mem h
  exact ⟨i, hi, by simp [List.getD_eq_getElem?_getD, hi]⟩
theorem bef_getD (l : List Ent) (h : l.Pairwise Bef) (i j : Nat) (hij : i < j) (hj : j < l.length) : Bef (l.getD i default) (l.getD j default) := by
  have := List.pairwise_iff_getElem.1 h i j (by omega) hj hij
  simpa [List.getD_eq_getElem?_getD, hj, show i < l.length by omega] using this

/-! The view, without places. -/
def topB (l : List Ent) (s : Nat) (e : Ent) : Bool := decide (e.seq ≤ s) && l.all fun x => !(x.user.toList == e.user.toList && decide (x.seq ≤ s)) || decide (x.seq ≤ e.seq)
theorem topB_iff (l : List Ent) (s : Nat) (e : Ent) : topB l s e = true ↔ e.seq ≤ s ∧ ∀ x ∈ l, x.user.toList = e.user.toList → x.seq ≤ s → x.seq ≤ e.seq := by
  unfold topB
  rw [Bool.and_eq_true, decide_eq_true_eq, List.all_eq_true]
  constructor
  · rintro ⟨h1, h2⟩
    refine ⟨h1, fun x hx hu hs => ?_⟩
    have := h2 x hx
    simpa [hu, hs] using this
  · rintro ⟨h1, h2⟩
    refine ⟨h1, fun x hx => ?_⟩
    by_cases hu : x.user.toList = e.user.toList
    · by_cases hs : x.seq ≤ s
      · simp [h2 x hx hu hs]
      · simp [hs]
    · simp [hu]
theorem bef_not_same {x y : Ent} (h : Bef x y) (hu : x.user.toList = y.user.toList) : y.seq < x.seq := by
  rcases h with h | ⟨_, h⟩
  · exact absurd hu (lt_ne _ _ h)
  · exact h
theorem contig (l : List Ent) (h : l.Pairwise Bef) (i j : Nat) (hij : i < j) (hj : j < l.length) (hu : (l.getD i default).user.toList = (l.getD j default).user.toList) : (l.getD (j - 1) default).user.toList = (l.getD j default).user.toList := by
  by_cases e : i = j - 1
  · rw [← e]; exact hu
  · have h1 := bef_getD l h i (j - 1) (by omega) (by omega)
    have h2 := bef_getD l h (j - 1) j (by omega) hj
    rcases h2 with h2 | ⟨h2, _⟩
    · exfalso
      rcases h1 with h1 | ⟨h1, _⟩
      · exact lt_ne _ _ (less_trans _ _ _ h1 h2) hu
      · exact lt_ne _ _ h2 (h1.symm.trans hu)
    · exact h2
theorem top_newer (l : List Ent) (s k : Nat) (h : l.Pairwise Bef) (hk : k < l.length) : ((l.getD k default).seq ≤ s ∧ newer l s k = false) ↔ topB l s (l.getD k default) = true := by
  rw [topB_iff]
  constructor
  · rintro ⟨h1, h2⟩
    refine ⟨h1, fun x hx hu hs => ?_⟩
    obtain ⟨i, hi, rfl⟩ := in_getD l x hx
    rcases Nat.lt_trichotomy i k with hik | rfl | hik
    · exfalso
      have hc := contig l h i k hik hk hu
      have hsq : (l.getD (k - 1) default).seq ≤ s := by
        by_cases e : i = k - 1
        · rw [← e]; exact hs
        · have := bef_not_same (bef_getD l h i (k - 1) (by omega) (by omega)) (hu.trans hc.symm)
          omega
      unfold newer at h2
      rw [hc] at h2
      rw [decide_eq_true hsq, decide_eq_true (show 0 < k by omega)] at h2
      simp at h2
    · exact Nat.le_refl _
    · have := bef_not_same (bef_getD l h k i hik hi) hu.symm
      omega
  · rintro ⟨h1, h2⟩
    refine ⟨h1, ?_⟩
    unfold newer
    by_cases hk0 : 0 < k
    · by_cases hu : (l.getD (k - 1) default).user.toList = (l.getD k default).user.toList
      · by_cases hs : (l.getD (k - 1) default).seq ≤ s
        · have a := h2 _ (getD_in l (k - 1) (by omega)) hu hs
          have b := bef_not_same (bef_getD l h (k - 1) k (by omega) hk) hu
          omega
        · simp only [decide_eq_false hs, Bool.and_false]
      · simp only [beq_eq_false_iff_ne.2 hu, Bool.false_and, Bool.and_false]
    · simp [show k = 0 by omega]
theorem take_snoc (l : List Ent) (k : Nat) (h : k < l.length) : l.take (k + 1) = l.take k ++ [l.getD k default] := by
  rw [List.take_add_one]
  simp [List.getD_eq_getElem?_getD, h]
theorem viewR_top (l : List Ent) (s : Nat) (h : l.Pairwise Bef) : ∀ k, k ≤ l.length → viewRTo l s k = ((l.take k).filter (topB l s)).flatMap pairOf
  | 0, _ => by simp [viewRTo]
  | k + 1, hk => by
    unfold viewRTo
    rw [viewR_top l s h k (by omega), take_snoc l k (by omega), List.filter_append, List.flatMap_append]
    congr 1
    have := top_newer l s k h (by omega)
    cases ht : topB l s (l.getD k default) with
    | true => rw [ht] at this; rw [if_pos (this.2 rfl), List.filter_cons_of_pos ht]; simp
    | false => rw [ht] at this; rw [if_neg (fun q => by simpa using this.1 q), List.filter_cons_of_neg (by rw [ht]; simp)]; simp
theorem pairs_kind : ∀ l : List Ent, l.flatMap pairOf = (l.filter fun e => decide (e.kind = 1)).flatMap pairOf
  | [] => rfl
  | e :: l => by
    rw [List.flatMap_cons, pairs_kind l]
    by_cases h : e.kind = 1
    · rw [List.filter_cons_of_pos (by simp [h]), List.flatMap_cons]
    · rw [List.filter_cons_of_neg (by simp [h])]
      simp [pairOf, h]
theorem viewR_eq (k l : List Ent) (s : Nat) (hk : rises k = true) (hl : rises l = true) (h : ∀ e, e.kind = 1 → ((e ∈ k ∧ topB k s e = true) ↔ (e ∈ l ∧ topB l s e = true))) : viewR k s = viewR l s := by
  unfold viewR
  rw [hk, hl]
  simp only [if_true]
  have pk := rises_pw k hk
  have pl := rises_pw l hl
  rw [viewR_top k s pk _ (Nat.le_refl _), viewR_top l s pl _ (Nat.le_refl _), List.take_length, List.take_length, pairs_kind, pairs_kind (List.filter _ l)]
  congr 1
  refine eq_of_mem _ _ ((pk.sublist (List.filter_sublist)).sublist (List.filter_sublist)) ((pl.sublist (List.filter_sublist)).sublist (List.filter_sublist)) fun e => ?_
  simp only [List.mem_filter, decide_eq_true_eq]
  constructor
  · rintro ⟨q, q1⟩; exact ⟨(h e q1).1 q, q1⟩
  · rintro ⟨q, q1⟩; exact ⟨(h e q1).2 q, q1⟩

/-! What stays. -/
theorem trimU_prefix (u : List UInt8) (l : List Ent) : ∃ t, l = trimU u l ++ t ∧ ∀ e ∈ t, e.user.toList = u ∧ e.kind = 0 := by
  refine ⟨(l.reverse.takeWhile (gone u)).reverse, ?_, ?_⟩
  · unfold trimU
    rw [← List.reverse_append, List.takeWhile_append_dropWhile, List.reverse_reverse]
  · intro e he
    rw [List.mem_reverse] at he
    have : gone u e = true := List.all_eq_true.1 (List.all_takeWhile (p := gone u) (l := l.reverse)) e he
    simpa [gone] using this
theorem trimU_sublist (u : List UInt8) (l : List Ent) : (trimU u l).Sublist l := by
  obtain ⟨t, h, _⟩ := trimU_prefix u l
  conv => rhs; rw [h]
  exact List.sublist_append_left _ _
theorem kr_sub (ms : List Nat) (last : Bool) (l : List Ent) : ∀ i, i ≤ l.length → (kr ms last l i).Sublist (l.take i)
  | 0, _ => by simp [kr]
  | i + 1, hi => by
    have ih := kr_sub ms last l i (by omega)
    have h1 : (kr ms last l i ++ (if keepI ms l i = true then [l.getD i default] else [])).Sublist (l.take (i + 1)) := by
      rw [take_snoc l i (by omega)]
      refine List.Sublist.append ih ?_
      split
      · exact List.Sublist.refl _
      · simp
    unfold kr
    split
    · exact (trimU_sublist _ _).trans h1
    · exact h1
/-- Of two entries of one key that stay a moment lies between. -/
theorem kr_seen (ms : List Nat) (last : Bool) (l : List Ent) (h : rises l = true) : ∀ i, i ≤ l.length → (kr ms last l i).Pairwise fun x y => x.user.toList = y.user.toList → seenB ms y.seq x.seq = true
  | 0, _ => by simp [kr]
  | i + 1, hi => by
    have ih := kr_seen ms last l h i (by omega)
    have pl := rises_pw l h
    have h1 : (kr ms last l i ++ (if keepI ms l i = true then [l.getD i default] else [])).Pairwise fun x y => x.user.toList = y.user.toList → seenB ms y.seq x.seq = true := by
      refine List.pairwise_append.2 ⟨ih, by split <;> simp, ?_⟩
      intro x hx y hy hu
      by_cases hk : keepI ms l i = true
      · rw [if_pos hk] at hy
        simp only [List.mem_singleton] at hy
        subst hy
        obtain ⟨j, hj, rfl⟩ := kr_mem ms last l i (by omega) x hx
        have hc := contig l pl j i hj (by omega) hu
        unfold keepI at hk
        simp only [sameU, hc, beq_self_eq_true, Bool.not_true, Bool.false_or, Bool.or_eq_true, decide_eq_true_eq] at hk
        rcases hk with hk | hk
        · omega
        · unfold seenB at hk ⊢
          rw [List.any_eq_true] at hk ⊢
          obtain ⟨m, hm, hp⟩ := hk
          simp only [Bool.and_eq_true, decide_eq_true_eq] at hp
          refine ⟨m, hm, ?_⟩
          simp only [Bool.and_eq_true, decide_eq_true_eq]
          refine ⟨hp.1, ?_⟩
          by_cases e : j = i - 1
          · rw [e]; exact hp.2
          · have := bef_not_same (bef_getD l pl j (i - 1) (by omega) (by omega)) (hu.trans hc.symm)
            omega
      · rw [if_neg hk] at hy
        simp at hy
    unfold kr
    split
    · exact h1.sublist (trimU_sublist _ _)
    · exact h1
def krP (ms : List Nat) (l : List Ent) (i : Nat) (e : Ent) : Prop := ∃ j, j < i ∧ keepI ms l j = true ∧ e = l.getD j default
theorem kr_all (ms : List Nat) (last : Bool) (l : List Ent) (h : rises l = true) : ∀ i, i ≤ l.length →
    (∀ e, krP ms l i e → e.kind ≠ 0 → e ∈ kr ms last l i) ∧ (∀ e, krP ms l i e → e ∉ kr ms last l i → ∀ x ∈ kr ms last l i, x.user.toList = e.user.toList → e.seq < x.seq) ∧
    (∀ e, krP ms l i e → e ∉ kr ms last l i → i < l.length → e.user.toList ≠ (l.getD i default).user.toList)
  | 0, _ => ⟨fun e he => by obtain ⟨j, hj, _⟩ := he; omega, fun e he => by obtain ⟨j, hj, _⟩ := he; omega, fun e he => by obtain ⟨j, hj, _⟩ := he; omega⟩
  | i + 1, hi => by
    obtain ⟨i1, i2, i3⟩ := kr_all ms last l h i (by omega)
    have pl := rises_pw l h
    obtain ⟨X, hX⟩ : ∃ X, X = kr ms last l i ++ (if keepI ms l i = true then [l.getD i default] else []) := ⟨_, rfl⟩
    have inX : ∀ e, e ∈ X ↔ e ∈ kr ms last l i ∨ (keepI ms l i = true ∧ e = l.getD i default) := by
      intro e
      rw [hX, List.mem_append]
      by_cases hk : keepI ms l i = true <;> simp [hk]
    have old : ∀ e, krP ms l (i + 1) e → e ∉ X → krP ms l i e ∧ e ∉ kr ms last l i := by
      rintro e ⟨j, hj, hk, rfl⟩ hn
      rw [inX] at hn
      refine ⟨⟨j, ?_, hk, rfl⟩, fun q => hn (Or.inl q)⟩
      rcases Nat.lt_or_ge j i with q | q
      · exact q
      · obtain rfl : j = i := by omega
        exact absurd (Or.inr ⟨hk, rfl⟩) hn
    have x1 : ∀ e, krP ms l (i + 1) e → e.kind ≠ 0 → e ∈ X := by
      intro e he hk
      by_cases q : e ∈ X
      · exact q
      · obtain ⟨o1, o2⟩ := old e he q
        exact absurd (i1 e o1 hk) o2
    have x2 : ∀ e, krP ms l (i + 1) e → e ∉ X → ∀ x ∈ X, x.user.toList = e.user.toList → e.seq < x.seq := by
      intro e he hn x hx hu
      obtain ⟨o1, o2⟩ := old e he hn
      rcases (inX x).1 hx with q | ⟨_, rfl⟩
      · exact i2 e o1 o2 x q hu
      · exact absurd hu.symm (i3 e o1 o2 (by omega))
    have hK : kr ms last l (i + 1) = if (endI l i && last) = true then trimU (l.getD i default).user.toList X else X := by rw [hX]; rfl
    rw [hK]
    split
    · rename_i hend
      rw [Bool.and_eq_true] at hend
      obtain ⟨t, ht, ht2⟩ := trimU_prefix (l.getD i default).user.toList X
      have pX : X.Pairwise Bef := by
        have := (kr_sub ms false l (i + 1) hi)
        have s1 : X.Sublist (l.take (i + 1)) := by
          rw [hX, take_snoc l i (by omega)]
          refine List.Sublist.append (kr_sub ms last l i (by omega)) ?_
          split
          · exact List.Sublist.refl _
          · simp
        exact (pl.sublist (List.take_sublist _ _)).sublist s1
      obtain ⟨T, hT⟩ : ∃ T, trimU (l.getD i default).user.toList X = T := ⟨_, rfl⟩
      rw [hT] at ht ⊢
      refine ⟨?_, ?_, ?_⟩
      · intro e he hk
        have := x1 e he hk
        rw [ht, List.mem_append] at this
        rcases this with q | q
        · exact q
        · exact absurd (ht2 e q).2 hk
      · intro e he hn x hx hu
        by_cases q : e ∈ X
        · rw [ht, List.mem_append] at q
          rcases q with q | q
          · exact absurd q hn
          · rw [ht] at pX
            have := (List.pairwise_append.1 pX).2.2 x hx e q
            exact bef_not_same this hu
        · exact x2 e he q x (by rw [ht]; exact List.mem_append_left _ hx) hu
      · rintro e ⟨j, hj, hk, rfl⟩ hn hlt
        have he := hend.1
        unfold endI at he
        simp only [Bool.or_eq_true, decide_eq_true_eq, show ¬ i + 1 = l.length by omega, false_or, Bool.not_eq_true'] at he
        refine first_far l h (i + 1) hlt (Or.inr ?_) j hj
        rw [Nat.add_sub_cancel]
        unfold sameU at he ⊢
        rw [beq_eq_false_iff_ne] at he ⊢
        exact fun q => he q.symm
    · rename_i hend
      refine ⟨x1, x2, ?_⟩
      intro e he hn hlt hu
      obtain ⟨o1, o2⟩ := old e he hn
      have hne := i3 e o1 o2 (by omega)
      obtain ⟨j, hj, hk, rfl⟩ := o1
      exact hne (by
        have hc := contig l pl j (i + 1) (by omega) hlt hu
        rw [Nat.add_sub_cancel] at hc
        exact hu.trans hc.symm)
/-- What is kept rises. -/
theorem keep_rises (ms : List Nat) (last : Bool) (l : List Ent) : rises (keepR ms last l) = true := by
  unfold keepR
  split
  · rename_i h
    exact pw_rises _ (((rises_pw l h).sublist (List.take_sublist _ _)).sublist (kr_sub ms last l l.length (Nat.le_refl _)))
  · rfl
/-- What is kept is seen as it was. -/
theorem keep_view (ms : List Nat) (last : Bool) (l : List Ent) (s : Nat) (h : rises l = true) (hs : s ∈ ms ∨ ∀ e ∈ l, e.seq ≤ s) : viewF (keepR ms last l) s = viewF l s := by
  rw [viewF_viewR, viewF_viewR]
  have hr := keep_rises ms last l
  unfold keepR at hr ⊢
  rw [h] at hr ⊢
  simp only [if_true] at hr ⊢
  refine viewR_eq _ _ s hr h fun e hkind => ?_
  have pl := rises_pw l h
  obtain ⟨k1, k2, _⟩ := kr_all ms last l h l.length (Nat.le_refl _)
  have sub : ∀ x, x ∈ kr ms last l l.length → x ∈ l := fun x hx => by
    have := (kr_sub ms last l l.length (Nat.le_refl _)).subset hx
    rw [List.take_length] at this
    exact this
  have top : ∀ i, i < l.length → topB l s (l.getD i default) = true → krP ms l l.length (l.getD i default) := by
    intro i hi ht
    refine ⟨i, hi, ?_, rfl⟩
    rw [topB_iff] at ht
    unfold keepI
    by_cases hi0 : i = 0
    · simp [hi0]
    · by_cases hu : (l.getD (i - 1) default).user.toList = (l.getD i default).user.toList
      · have hlt := bef_not_same (bef_getD l pl (i - 1) i (by omega) hi) hu
        have hgt : s < (l.getD (i - 1) default).seq := by
          rcases Nat.lt_or_ge s (l.getD (i - 1) default).seq with q | q
          · exact q
          · have := ht.2 _ (getD_in l (i - 1) (by omega)) hu q
            omega
        have hsm : s ∈ ms := by
          rcases hs with q | q
          · exact q
          · have := q _ (getD_in l (i - 1) (by omega)); omega
        have : seenB ms (l.getD i default).seq (l.getD (i - 1) default).seq = true := by
          unfold seenB
          rw [List.any_eq_true]
          exact ⟨s, hsm, by rw [decide_eq_true ht.1, decide_eq_true hgt]; rfl⟩
        rw [this]; simp
      · have : sameU (l.getD (i - 1) default) (l.getD i default) = false := by unfold sameU; rw [beq_eq_false_iff_ne]; exact hu
        rw [this]; simp
  constructor
  · rintro ⟨he, ht⟩
    refine ⟨sub e he, ?_⟩
    rw [topB_iff] at ht ⊢
    refine ⟨ht.1, fun x hx hu hxs => ?_⟩
    obtain ⟨j, hj, rfl⟩ := in_getD l x hx
    rcases Nat.lt_or_ge e.seq (l.getD j default).seq with q | q
    · exfalso
      -- the first entry of the key that is seen at s
      have hex : ∃ i, i < l.length ∧ (l.getD i default).user.toList = e.user.toList ∧ (l.getD i default).seq ≤ s ∧ ∀ i', i' < i → (l.getD i' default).user.toList = e.user.toList → s < (l.getD i' default).seq := by
        clear q
        have : ∀ n, ∀ j, j ≤ n → j < l.length → (l.getD j default).user.toList = e.user.toList → (l.getD j default).seq ≤ s → ∃ i, i < l.length ∧ (l.getD i default).user.toList = e.user.toList ∧ (l.getD i default).seq ≤ s ∧ ∀ i', i' < i → (l.getD i' default).user.toList = e.user.toList → s < (l.getD i' default).seq := by
          intro n
          induction n with
          | zero => intro j hj0 hj hu hq; exact ⟨j, hj, hu, hq, fun i' h' => by omega⟩
          | succ n ih =>
            intro j hjn hj hu hq
            by_cases hh : ∃ i', i' < j ∧ (l.getD i' default).user.toList = e.user.toList ∧ (l.getD i' default).seq ≤ s
            · obtain ⟨i', a, b, c⟩ := hh
              exact ih i' (by omega) (by omega) b c
            · refine ⟨j, hj, hu, hq, fun i' hi' hu' => ?_⟩
              rcases Nat.lt_or_ge s (l.getD i' default).seq with r | r
              · exact r
              · exact absurd ⟨i', hi', hu', r⟩ hh
        exact this j j (Nat.le_refl _) hj hu hxs
      obtain ⟨i, hi, hiu, his, hmin⟩ := hex
      have hij : i ≤ j := by
        rcases Nat.lt_or_ge j i with r | r
        · have := hmin j r hu; omega
        · exact r
      have hge : (l.getD j default).seq ≤ (l.getD i default).seq := by
        by_cases e : i = j
        · rw [e]; exact Nat.le_refl _
        · have := bef_not_same (bef_getD l pl i j (by omega) hj) (hiu.trans hu.symm); omega
      have hti : topB l s (l.getD i default) = true := by
        rw [topB_iff]
        refine ⟨his, fun y hy hyu hys => ?_⟩
        obtain ⟨d, hd, rfl⟩ := in_getD l y hy
        rcases Nat.lt_trichotomy d i with r | rfl | r
        · have := hmin d r (hyu.trans hiu); omega
        · exact Nat.le_refl _
        · have := bef_not_same (bef_getD l pl i d r hd) hyu.symm; omega
      have hp := top i hi hti
      by_cases hin : l.getD i default ∈ kr ms last l l.length
      · have := ht.2 _ hin hiu his
        omega
      · have := k2 _ hp hin e he hiu.symm
        omega
    · exact q
  · rintro ⟨he, ht⟩
    obtain ⟨i, hi, rfl⟩ := in_getD l e he
    refine ⟨k1 _ (top i hi ht) (by rw [hkind]; decide), ?_⟩
    rw [topB_iff] at ht ⊢
    exact ⟨ht.1, fun x hx => ht.2 x (sub x hx)⟩

/-- How many of the moments are not below. -/
def above (ms : List Nat) (q : Nat) : Nat := (ms.filter fun m => decide (q ≤ m)).length
theorem above_le (ms : List Nat) (q : Nat) : above ms q ≤ ms.length := List.length_filter_le _ _
theorem above_lt : ∀ (ms : List Nat) (a b : Nat), a ≤ b → (above ms b ≤ above ms a) ∧ (seenB ms a b = true → above ms b < above ms a)
  | [], _, _, _ => ⟨Nat.le_refl _, fun h => by simp [seenB] at h⟩
  | m :: ms, a, b, h => by
    obtain ⟨i1, i2⟩ := above_lt ms a b h
    unfold above at *
    have hsb : seenB (m :: ms) a b = ((decide (a ≤ m) && decide (m < b)) || seenB ms a b) := rfl
    rw [hsb]
    by_cases ha : a ≤ m <;> by_cases hb : b ≤ m
    · have nb : ¬ m < b := by omega
      simp only [List.filter_cons, decide_eq_true ha, decide_eq_true hb, decide_eq_false nb, if_true, List.length_cons, Bool.and_false, Bool.false_or]
      exact ⟨by omega, fun q => by have := i2 q; omega⟩
    · simp only [List.filter_cons, decide_eq_true ha, decide_eq_false hb, if_true, List.length_cons, Bool.false_eq_true, if_false]
      exact ⟨by omega, fun _ => by omega⟩
    · omega
    · simp only [List.filter_cons, decide_eq_false ha, decide_eq_false hb, Bool.false_eq_true, if_false, Bool.false_and, Bool.false_or]
      exact ⟨i1, i2⟩
/-- The run of one key's entries that ends with place i. -/
def runTo (l : List Ent) : Nat → Nat
  | 0 => 1
  | i + 1 => if (l.getD (i + 1) default).user.toList = (l.getD i default).user.toList then runTo l i + 1 else 1
theorem keep_few (ms : List Nat) (last : Bool) (l : List Ent) : ∀ i, i < (keepR ms last l).length → runTo (keepR ms last l) i ≤ 1 + above ms ((keepR ms last l).getD i default).seq := by
  have hr := rises_pw _ (keep_rises ms last l)
  unfold keepR at hr ⊢
  split
  · rename_i h
    rw [if_pos h] at hr
    have hp := kr_seen ms last l h l.length (Nat.le_refl _)
    generalize kr ms last l l.length = K at *
    intro i
    induction i with
    | zero => intro _; unfold runTo; omega
    | succ i ih =>
      intro hi
      have ih' := ih (by omega)
      unfold runTo
      split
      · rename_i hu
        have hs := List.pairwise_iff_getElem.1 hp i (i + 1) (by omega) hi (by omega)
        have e1 : K.getD i default = K[i] := by simp [List.getD_eq_getElem?_getD, show i < K.length by omega]
        have e2 : K.getD (i + 1) default = K[i + 1] := by simp [List.getD_eq_getElem?_getD, hi]
        rw [e1, e2] at hu
        have hs' := hs hu.symm
        have hb := bef_getD K hr i (i + 1) (by omega) hi
        rw [e1] at ih'
        rw [e1, e2] at hb
        rw [e2]
        have := (above_lt ms _ _ (Nat.le_of_lt (bef_not_same hb hu.symm))).2 hs'
        omega
      · omega
  · intro i hi
    simp at hi
theorem keep_in (ms : List Nat) (last : Bool) (l : List Ent) : ∀ e ∈ keepR ms last l, e ∈ l := by
  intro e he
  unfold keepR at he
  split at he
  · have := (kr_sub ms last l l.length (Nat.le_refl _)).subset he
    rw [List.take_length] at this
    exact this
  · simp at he
/-- Where each that stays lies in the whole list. -/
theorem keep_places (ms : List Nat) (last : Bool) (l : List Ent) : ∃ at' : Nat → Nat, (∀ i, i < (keepR ms last l).length → at' i < l.length ∧ l.getD (at' i) default = (keepR ms last l).getD i default) ∧
    ∀ i, i + 1 < (keepR ms last l).length → at' i < at' (i + 1) := by
  have hr := rises_pw _ (keep_rises ms last l)
  have hin := keep_in ms last l
  by_cases h : rises l = true
  · have pl := rises_pw l h
    generalize keepR ms last l = K at *
    have g : ∀ i, ∃ j, i < K.length → j < l.length ∧ l.getD j default = K.getD i default := by
      intro i
      by_cases hi : i < K.length
      · obtain ⟨j, hj, e⟩ := in_getD l _ (hin _ (getD_in K i hi))
        exact ⟨j, fun _ => ⟨hj, e.symm⟩⟩
      · exact ⟨0, fun q => absurd q hi⟩
    refine ⟨fun i => (g i).choose, fun i hi => (g i).choose_spec hi, fun i hi => ?_⟩
    dsimp only
    have a := (g i).choose_spec (by omega)
    have b := (g (i + 1)).choose_spec hi
    generalize (g i).choose = x at *
    generalize (g (i + 1)).choose = y at *
    have hb := bef_getD K hr i (i + 1) (by omega) hi
    rw [← a.2, ← b.2] at hb
    rcases Nat.lt_trichotomy x y with q | rfl | q
    · exact q
    · exact absurd hb (Bef.irr _)
    · exact absurd (hb.trans (bef_getD l pl y x q a.1)) (Bef.irr _)
  · have : keepR ms last l = [] := by unfold keepR; rw [if_neg h]
    rw [this]
    exact ⟨fun _ => 0, fun i hi => by simp at hi, fun i hi => by simp at hi⟩
end Go.Proofs.Ythgbmijgoaihcaa
