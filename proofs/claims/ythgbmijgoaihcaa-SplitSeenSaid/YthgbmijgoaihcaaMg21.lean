/-
  Merge, plainly: by its members.
-/
import Derived.Test.YthgbmijgoaihcaaMg18
namespace Go.Proofs.Ythgbmijgoaihcaa
open Go.RowKit
set_option linter.unusedVariables false

def sameK (x y : Ent) : Prop := x.user.toList = y.user.toList ∧ x.seq = y.seq
theorem Bef.notK {x y : Ent} (h : Bef x y) : ¬ sameK x y := fun k => by
  have := bef_not_same h k.1
  have := k.2
  omega
theorem Bef.congr {x y z : Ent} (h : Bef y z) (k : sameK x y) : Bef x z := by
  rcases h with h | ⟨e, h⟩
  · left; unfold lt at *; rw [k.1]; exact h
  · exact Or.inr ⟨k.1.trans e, by have := k.2; omega⟩
theorem ahead_iff (x y : Ent) : ahead x y = true ↔ Bef x y := by
  constructor
  · exact ahead_parts x y
  · rintro (h | ⟨h1, h2⟩)
    · unfold ahead; simp [h]
    · unfold ahead; simp [h1, h2]
theorem less_total : ∀ a b : List UInt8, Op.bytesLess a b = true ∨ a = b ∨ Op.bytesLess b a = true
  | [], [] => Or.inr (Or.inl rfl)
  | [], _ :: _ => Or.inl rfl
  | _ :: _, [] => Or.inr (Or.inr rfl)
  | x :: a, y :: b => by
    rcases less_total a b with h | h | h
    · by_cases e : x = y
      · subst e; left; simp [Op.bytesLess, h]
      · rcases Nat.lt_or_gt_of_ne (fun q => e (UInt8.toNat_inj.1 q)) with q | q
        · left; simp [Op.bytesLess, UInt8.lt_iff_toNat_lt, q]
        · right; right; simp [Op.bytesLess, UInt8.lt_iff_toNat_lt, q]
    · subst h
      by_cases e : x = y
      · subst e; exact Or.inr (Or.inl rfl)
      · rcases Nat.lt_or_gt_of_ne (fun q => e (UInt8.toNat_inj.1 q)) with q | q
        · left; simp [Op.bytesLess, UInt8.lt_iff_toNat_lt, q]
        · right; right; simp [Op.bytesLess, UInt8.lt_iff_toNat_lt, q]
    · by_cases e : x = y
      · subst e; right; right; simp [Op.bytesLess, h]
      · rcases Nat.lt_or_gt_of_ne (fun q => e (UInt8.toNat_inj.1 q)) with q | q
        · left; simp [Op.bytesLess, UInt8.lt_iff_toNat_lt, q]
        · right; right; simp [Op.bytesLess, UInt8.lt_iff_toNat_lt, q]
theorem bef_total (x y : Ent) : Bef x y ∨ sameK x y ∨ Bef y x := by
  rcases less_total x.user.toList y.user.toList with h | h | h
  · exact Or.inl (Or.inl h)
  · rcases Nat.lt_trichotomy x.seq y.seq with q | q | q
    · exact Or.inr (Or.inr (Or.inr ⟨h.symm, q⟩))
    · exact Or.inr (Or.inl ⟨h, q⟩)
    · exact Or.inl (Or.inr ⟨h, q⟩)
  · exact Or.inr (Or.inr (Or.inl h))

/-- The entries that Merge gives: each from the first list that has its key and number. -/
def InM (ls : List (List Ent)) (e : Ent) : Prop := ∃ i, e ∈ ls.getD i [] ∧ ∀ j, j < i → ∀ x ∈ ls.getD j [], ¬ sameK x e
def IsMerge (ls : List (List Ent)) (m : List Ent) : Prop := if ls.all rises = true then m.Pairwise Bef ∧ ∀ e, e ∈ m ↔ InM ls e else m = []
theorem IsMerge.uniq {ls : List (List Ent)} {m m' : List Ent} (h : IsMerge ls m) (h' : IsMerge ls m') : m = m' := by
  unfold IsMerge at h h'
  split at h
  · rename_i hr
    rw [if_pos hr] at h'
    exact eq_of_mem _ _ h.1 h'.1 fun e => (h.2 e).trans (h'.2 e).symm
  · rename_i hr
    rw [if_neg hr] at h'
    rw [h, h']

/-! The round of the program's loop. -/
def pop1 (h : Ent) : List Ent → List Ent
  | [] => []
  | y :: s => if ahead h y = true then y :: s else s
theorem pop1_cons (h y : Ent) (s : List Ent) : pop1 h (y :: s) = if ahead h y = true then y :: s else s := rfl
theorem pop1_sub (h : Ent) (l : List Ent) : (pop1 h l).Sublist l := by
  cases l with
  | nil => exact List.Sublist.refl _
  | cons y s =>
    rw [pop1_cons]
    split
    · exact List.Sublist.refl _
    · exact List.sublist_cons_self _ _
def bestTo (rs : List (List Ent)) : Nat → Option Nat
  | 0 => none
  | i + 1 => if (rs.getD i []) ≠ [] ∧ (∀ b, bestTo rs i = some b → ahead ((rs.getD i []).getD 0 default) ((rs.getD b []).getD 0 default) = true) then some i else bestTo rs i
theorem best_inv (rs : List (List Ent)) : ∀ k, (bestTo rs k = none → ∀ i, i < k → rs.getD i [] = []) ∧
    (∀ b, bestTo rs k = some b → b < k ∧ rs.getD b [] ≠ [] ∧ (∀ i, i < k → rs.getD i [] ≠ [] → ahead ((rs.getD i []).getD 0 default) ((rs.getD b []).getD 0 default) = false) ∧
      ∀ i, i < b → rs.getD i [] ≠ [] → ahead ((rs.getD b []).getD 0 default) ((rs.getD i []).getD 0 default) = true)
  | 0 => ⟨fun _ i h => by omega, fun b h => by simp [bestTo] at h⟩
  | k + 1 => by
    obtain ⟨i1, i2⟩ := best_inv rs k
    have hstep : bestTo rs (k + 1) = if (rs.getD k []) ≠ [] ∧ (∀ b, bestTo rs k = some b → ahead ((rs.getD k []).getD 0 default) ((rs.getD b []).getD 0 default) = true) then some k else bestTo rs k := rfl
    by_cases hc : (rs.getD k []) ≠ [] ∧ (∀ b, bestTo rs k = some b → ahead ((rs.getD k []).getD 0 default) ((rs.getD b []).getD 0 default) = true)
    · rw [if_pos hc] at hstep
      rw [hstep]
      obtain ⟨hne, hb⟩ := hc
      refine ⟨(fun h => nomatch h), fun b hbk => ?_⟩
      cases hbk
      have key : ∀ i, i < k → rs.getD i [] ≠ [] → ahead ((rs.getD k []).getD 0 default) ((rs.getD i []).getD 0 default) = true := by
        intro i hi hin
        cases hB : bestTo rs k with
        | none => exact absurd (i1 hB i hi) hin
        | some c =>
          obtain ⟨c1, c2, c3, c4⟩ := i2 c hB
          have hkc := (ahead_iff _ _).1 (hb c hB)
          have hic := c3 i hi hin
          rw [ahead_iff]
          rcases bef_total ((rs.getD c []).getD 0 default) ((rs.getD i []).getD 0 default) with q | q | q
          · exact hkc.trans q
          · rcases hkc with r | ⟨r1, r2⟩
            · left; unfold lt at *; rw [← q.1]; exact r
            · exact Or.inr ⟨r1.trans q.1, by have := q.2; omega⟩
          · rw [(ahead_iff _ _).2 q] at hic; cases hic
      refine ⟨by omega, hne, fun i hi hin => ?_, key⟩
      by_cases e : i = k
      · subst e
        cases h : ahead ((rs.getD i []).getD 0 default) ((rs.getD i []).getD 0 default) with
        | false => rfl
        | true => exact absurd ((ahead_iff _ _).1 h) (Bef.irr _)
      · have h1 := (ahead_iff _ _).1 (key i (by omega) hin)
        cases h : ahead ((rs.getD i []).getD 0 default) ((rs.getD k []).getD 0 default) with
        | false => rfl
        | true => exact absurd (h1.trans ((ahead_iff _ _).1 h)) (Bef.irr _)
    · rw [if_neg hc] at hstep
      rw [hstep]
      refine ⟨fun h i hi => ?_, fun b hb => ?_⟩
      · by_cases e : i = k
        · subst e
          cases hl : rs.getD i [] with
          | nil => rfl
          | cons y s => exact absurd ⟨by rw [hl]; simp, fun b hb => by rw [h] at hb; cases hb⟩ hc
        · exact i1 h i (by omega)
      · obtain ⟨b1, b2, b3, b4⟩ := i2 b hb
        refine ⟨by omega, b2, fun i hi hin => ?_, b4⟩
        by_cases e : i = k
        · subst e
          cases h : ahead ((rs.getD i []).getD 0 default) ((rs.getD b []).getD 0 default) with
          | false => rfl
          | true => exact absurd ⟨hin, fun c hcb => by rw [hb] at hcb; cases hcb; exact h⟩ hc
        · exact b3 i (by omega) hin

structure MInv (ls rest : List (List Ent)) (out : List Ent) : Prop where
  a : ∀ i, (rest.getD i []).Pairwise Bef
  b : out.Pairwise Bef
  c : ∀ o ∈ out, ∀ i, ∀ e ∈ rest.getD i [], Bef o e
  d : ∀ e, InM ls e ↔ e ∈ out ∨ InM rest e
theorem MInv.start (ls : List (List Ent)) (h : ls.all rises = true) : MInv ls ls [] := by
  refine ⟨fun i => ?_, List.Pairwise.nil, fun o ho => by simp at ho, fun e => by simp⟩
  rw [List.all_eq_true] at h
  rcases Nat.lt_or_ge i ls.length with q | q
  · have e : ls.getD i [] = ls[i] := by simp [List.getD_eq_getElem?_getD, q]
    rw [e]; exact rises_pw _ (h _ (List.getElem_mem q))
  · have e : ls.getD i [] = [] := by simp [List.getD_eq_getElem?_getD, q]
    rw [e]; exact List.Pairwise.nil
theorem MInv.done {ls rest : List (List Ent)} {out : List Ent} (h : MInv ls rest out) (hr : ls.all rises = true) (he : ∀ i, rest.getD i [] = []) : IsMerge ls out := by
  unfold IsMerge
  rw [if_pos hr]
  refine ⟨h.b, fun e => ?_⟩
  rw [h.d]
  constructor
  · exact Or.inl
  · rintro (q | ⟨i, q, _⟩)
    · exact q
    · rw [he i] at q; simp at q
theorem MInv.round {ls rest rest' : List (List Ent)} {out : List Ent} (I : MInv ls rest out) {b : Nat} {h : Ent} {t : List Ent} (hb : rest.getD b [] = h :: t)
    (hmin : ∀ i y s, rest.getD i [] = y :: s → ahead y h = false) (hst : ∀ i y s, i < b → rest.getD i [] = y :: s → ahead h y = true)
    (hp : ∀ i, rest'.getD i [] = pop1 h (rest.getD i [])) : MInv ls rest' (out ++ [h]) := by
  have sub : ∀ i e, e ∈ rest'.getD i [] → e ∈ rest.getD i [] := fun i e he => by rw [hp] at he; exact (pop1_sub h _).subset he
  have aft : ∀ i, ∀ e ∈ rest'.getD i [], Bef h e := by
    intro i e he
    rw [hp] at he
    have hpw := I.a i
    cases hl : rest.getD i [] with
    | nil => rw [hl] at he; simp [pop1] at he
    | cons y s =>
      rw [hl] at he hpw
      obtain ⟨p1, p2⟩ := List.pairwise_cons.1 hpw
      rw [pop1_cons] at he
      split at he
      · rename_i ha
        have hy := (ahead_iff _ _).1 ha
        rcases List.mem_cons.1 he with rfl | q
        · exact hy
        · exact hy.trans (p1 e q)
      · rename_i ha
        have hm := hmin i y s hl
        rcases bef_total h y with q | q | q
        · exact absurd ((ahead_iff _ _).2 q) ha
        · exact (p1 e he).congr q
        · rw [(ahead_iff _ _).2 q] at hm; cases hm
  have keep : ∀ i x, x ∈ rest.getD i [] → ¬ sameK x h → x ∈ rest'.getD i [] := by
    intro i x hx hk
    rw [hp]
    cases hl : rest.getD i [] with
    | nil => rw [hl] at hx; simp at hx
    | cons y s =>
      rw [hl] at hx
      rw [pop1_cons]
      split
      · exact hx
      · rename_i ha
        rcases List.mem_cons.1 hx with rfl | q
        · exfalso
          have hm := hmin i x s hl
          rcases bef_total h x with q | q | q
          · exact ha ((ahead_iff _ _).2 q)
          · exact hk ⟨q.1.symm, q.2.symm⟩
          · rw [(ahead_iff _ _).2 q] at hm; cases hm
        · exact q
  have hpwb := I.a b
  rw [hb] at hpwb
  obtain ⟨pb1, pb2⟩ := List.pairwise_cons.1 hpwb
  have hin : h ∈ rest.getD b [] := by rw [hb]; simp
  have far : ∀ j, j < b → ∀ x ∈ rest.getD j [], Bef h x := by
    intro j hj x hx
    cases hl : rest.getD j [] with
    | nil => rw [hl] at hx; simp at hx
    | cons y s =>
      have hy := (ahead_iff _ _).1 (hst j y s hj hl)
      have hpw := I.a j
      rw [hl] at hx hpw
      rcases List.mem_cons.1 hx with rfl | q
      · exact hy
      · exact hy.trans ((List.pairwise_cons.1 hpw).1 x q)
  refine ⟨fun i => by rw [hp]; exact (I.a i).sublist (pop1_sub h _), ?_, ?_, fun e => ?_⟩
  · refine List.pairwise_append.2 ⟨I.b, by simp, fun x hx y hy => ?_⟩
    simp only [List.mem_singleton] at hy
    subst hy
    exact I.c x hx b y hin
  · intro o ho i e he
    rcases List.mem_append.1 ho with q | q
    · exact I.c o q i e (sub i e he)
    · simp only [List.mem_singleton] at q
      subst q
      exact aft i e he
  · rw [I.d, List.mem_append, List.mem_singleton, or_assoc]
    refine or_congr Iff.rfl ?_
    constructor
    · rintro ⟨i, hi, hj⟩
      by_cases hk : sameK e h
      · left
        rcases Nat.lt_trichotomy i b with q | rfl | q
        · exact absurd ⟨hk.1.symm, hk.2.symm⟩ (far i q e hi).notK
        · rw [hb] at hi
          rcases List.mem_cons.1 hi with r | r
          · exact r
          · exact absurd ⟨hk.1.symm, hk.2.symm⟩ (pb1 e r).notK
        · exact absurd ⟨hk.1.symm, hk.2.symm⟩ (hj b q h hin)
      · exact Or.inr ⟨i, keep i e hi hk, fun j hji x hx => hj j hji x (sub j x hx)⟩
    · rintro (rfl | ⟨i, hi, hj⟩)
      · exact ⟨b, hin, fun j hjb x hx k => (far j hjb x hx).notK ⟨k.1.symm, k.2.symm⟩⟩
      · refine ⟨i, sub i e hi, fun j hji x hx k => ?_⟩
        have hhe := aft i e hi
        refine hj j hji x (keep j x hx fun k2 => hhe.notK ⟨k2.1.symm.trans k.1, k2.2.symm.trans k.2⟩) k
end Go.Proofs.Ythgbmijgoaihcaa
