/-
  The reference's 'two', plainly.
-/
import Derived.Test.YthgbmijgoaihcaaMg24
namespace Go.Proofs.Ythgbmijgoaihcaa
open Go.RowKit
set_option linter.unusedVariables false

def headK (b : Ent) : List Ent → Bool
  | [] => false
  | e :: _ => e.user.toList == b.user.toList && e.seq == b.seq
def twoR : List Ent → List Ent → List Ent
  | a, [] => a
  | a, b :: bs => a.takeWhile (fun e => ahead e b) ++ ((if headK b (a.dropWhile fun e => ahead e b) = true then [] else [b]) ++ twoR (a.dropWhile fun e => ahead e b) bs)
theorem two_spec : ∀ (b a : List Ent), a.Pairwise Bef → b.Pairwise Bef → (twoR a b).Pairwise Bef ∧ ∀ e, e ∈ twoR a b ↔ e ∈ a ∨ (noK a e ∧ e ∈ b)
  | [], a, ha, _ => ⟨ha, fun e => by unfold twoR; simp⟩
  | b :: bs, a, ha, hb => by
    obtain ⟨hb1, hb2⟩ := List.pairwise_cons.1 hb
    obtain ⟨T, hT⟩ : ∃ T, a.takeWhile (fun e => ahead e b) = T := ⟨_, rfl⟩
    obtain ⟨D, hD⟩ : ∃ D, a.dropWhile (fun e => ahead e b) = D := ⟨_, rfl⟩
    have hTD : T ++ D = a := by rw [← hT, ← hD]; exact List.takeWhile_append_dropWhile
    have hTb : ∀ e ∈ T, Bef e b := fun e he => by
      rw [← hT] at he
      have : ahead e b = true := List.all_eq_true.1 (List.all_takeWhile (p := fun e => ahead e b) (l := a)) e he
      exact (ahead_iff _ _).1 this
    rw [← hTD] at ha
    obtain ⟨pT, pD, pTD⟩ := List.pairwise_append.1 ha
    have hDb : headK b D = false → ∀ e ∈ D, Bef b e := by
      intro hk
      cases hDc : D with
      | nil => intro e he; simp at he
      | cons d ds =>
        rw [hDc] at pD hk
        have hnd : ¬ Bef d b := fun q => by
          have h1 : ahead d b = true := (ahead_iff _ _).2 q
          have h2 : D.head? = some d := by rw [hDc]; rfl
          rw [← hD] at h2
          have h3 := List.head?_dropWhile_not (fun e => ahead e b) a
          rw [h2] at h3
          simp [h1] at h3
        have hbd : Bef b d := by
          rcases bef_total d b with q | q | q
          · exact absurd q hnd
          · have hk' : (d.user.toList == b.user.toList && d.seq == b.seq) = false := hk; rw [q.1, q.2] at hk'; simp at hk'
          · exact q
        intro e he
        rcases List.mem_cons.1 he with rfl | q
        · exact hbd
        · exact hbd.trans ((List.pairwise_cons.1 pD).1 e q)
    have hDk : headK b D = true → ∃ d ∈ D, sameK d b := by
      intro hk
      cases hDc : D with
      | nil => rw [hDc] at hk; cases hk
      | cons d ds =>
        rw [hDc] at hk
        unfold headK at hk
        simp only [Bool.and_eq_true, beq_iff_eq] at hk
        exact ⟨d, by simp, hk⟩
    obtain ⟨i1, i2⟩ := two_spec bs D pD hb2
    have e1 : twoR a (b :: bs) = T ++ ((if headK b D = true then [] else [b]) ++ twoR D bs) := by rw [← hT, ← hD]; rfl
    rw [e1]
    have hrest : ∀ e ∈ twoR D bs, e ∈ D ∨ e ∈ bs := fun e he => ((i2 e).1 he).elim Or.inl fun q => Or.inr q.2
    have hTr : ∀ x ∈ T, ∀ e ∈ twoR D bs, Bef x e := fun x hx e he => by
      rcases hrest e he with q | q
      · exact pTD x hx e q
      · exact (hTb x hx).trans (hb1 e q)
    have hnT : ∀ e, Bef b e → (noK a e ↔ noK D e) := fun e he => by
      rw [← hTD]
      constructor
      · intro q x hx; exact q x (List.mem_append_right _ hx)
      · intro q x hx
        rcases List.mem_append.1 hx with r | r
        · exact ((hTb x r).trans he).notK
        · exact q x r
    cases hk : headK b D with
    | true =>
      obtain ⟨d, hd, hdk⟩ := hDk hk
      simp only [if_true, List.nil_append]
      refine ⟨List.pairwise_append.2 ⟨pT, i1, hTr⟩, fun e => ?_⟩
      rw [List.mem_append, i2, ← hTD, List.mem_append, List.mem_cons]
      constructor
      · rintro (q | q | ⟨q, r⟩)
        · exact Or.inl (Or.inl q)
        · exact Or.inl (Or.inr q)
        · exact Or.inr ⟨by rw [hTD]; exact (hnT e (hb1 e r)).2 q, Or.inr r⟩
      · rintro ((q | q) | ⟨q, rfl | r⟩)
        · exact Or.inl q
        · exact Or.inr (Or.inl q)
        · exact absurd hdk (q d (List.mem_append_right _ hd))
        · exact Or.inr (Or.inr ⟨by rw [hTD] at q; exact (hnT e (hb1 e r)).1 q, r⟩)
    | false =>
      have hbD := hDb hk
      simp only [Bool.false_eq_true, if_false]
      refine ⟨List.pairwise_append.2 ⟨pT, List.pairwise_append.2 ⟨by simp, i1, ?_⟩, ?_⟩, fun e => ?_⟩
      · intro x hx e he
        simp only [List.mem_singleton] at hx
        subst hx
        exact (hrest e he).elim (hbD e) (hb1 e)
      · intro x hx e he
        rcases List.mem_append.1 he with q | q
        · simp only [List.mem_singleton] at q; subst q; exact hTb x hx
        · exact hTr x hx e q
      · rw [List.mem_append, List.mem_append, List.mem_singleton, i2, ← hTD, List.mem_append, List.mem_cons]
        constructor
        · rintro (q | rfl | q | ⟨q, r⟩)
          · exact Or.inl (Or.inl q)
          · refine Or.inr ⟨fun x hx => ?_, Or.inl rfl⟩
            rcases List.mem_append.1 hx with r | r
            · exact (hTb x r).notK
            · exact fun k => (hbD x r).notK ⟨k.1.symm, k.2.symm⟩
          · exact Or.inl (Or.inr q)
          · exact Or.inr ⟨by rw [hTD]; exact (hnT e (hb1 e r)).2 q, Or.inr r⟩
        · rintro ((q | q) | ⟨q, rfl | r⟩)
          · exact Or.inl q
          · exact Or.inr (Or.inr (Or.inl q))
          · exact Or.inr (Or.inl rfl)
          · exact Or.inr (Or.inr (Or.inr ⟨by rw [hTD] at q; exact (hnT e (hb1 e r)).1 q, r⟩))
theorem twoR_ahead (e : Ent) (a : List Ent) (b : Ent) (bs : List Ent) (h : ahead e b = true) : twoR (e :: a) (b :: bs) = e :: twoR a (b :: bs) := by
  simp [twoR, h]
theorem twoR_not (a : List Ent) (b : Ent) (bs : List Ent) (h : ∀ e t, a = e :: t → ahead e b = false) : twoR a (b :: bs) = (if headK b a = true then [] else [b]) ++ twoR a bs := by
  cases a with
  | nil => rfl
  | cons e t =>
    have := h e t rfl
    simp [twoR, this]
theorem twoR_len : ∀ (b a : List Ent), (twoR a b).length ≤ a.length + b.length
  | [], a => by simp [twoR]
  | b :: bs, a => by
    have ih := twoR_len bs (a.dropWhile fun e => ahead e b)
    have h1 : (a.takeWhile fun e => ahead e b).length + (a.dropWhile fun e => ahead e b).length = a.length := by
      rw [← List.length_append, List.takeWhile_append_dropWhile]
    unfold twoR
    rw [List.length_append, List.length_append, List.length_cons]
    have h2 : (if headK b (a.dropWhile fun e => ahead e b) = true then [] else [b]).length ≤ 1 := by split <;> simp
    omega
/-- The reference's loop behind k lists. -/
def foldR (ls : List (List Ent)) : Nat → List Ent
  | 0 => []
  | k + 1 => twoR (foldR ls k) (ls.getD k [])
theorem fold_spec (ls : List (List Ent)) (hr : ls.all rises = true) : ∀ k, (foldR ls k).Pairwise Bef ∧ ∀ e, e ∈ foldR ls k ↔ ∃ i, i < k ∧ e ∈ ls.getD i [] ∧ ∀ j, j < i → ∀ x ∈ ls.getD j [], ¬ sameK x e
  | 0 => ⟨List.Pairwise.nil, fun e => by simp [foldR]⟩
  | k + 1 => by
    obtain ⟨i1, i2⟩ := fold_spec ls hr k
    have hp : (ls.getD k []).Pairwise Bef := (MInv.start ls hr).a k
    obtain ⟨j1, j2⟩ := two_spec (ls.getD k []) (foldR ls k) i1 hp
    refine ⟨j1, fun e => ?_⟩
    show e ∈ twoR (foldR ls k) (ls.getD k []) ↔ _
    rw [j2, i2]
    constructor
    · rintro (⟨i, hi, h1, h2⟩ | ⟨h1, h2⟩)
      · exact ⟨i, by omega, h1, h2⟩
      · refine ⟨k, by omega, h2, ?_⟩
        intro j
        induction j using Nat.strongRecOn with
        | _ j ih =>
          intro hj x hx hk
          exact h1 x ((i2 x).2 ⟨j, hj, hx, fun j' hj' y hy hk2 => ih j' hj' (by omega) y hy ⟨hk2.1.trans hk.1, hk2.2.trans hk.2⟩⟩) hk
    · rintro ⟨i, hi, h1, h2⟩
      by_cases e' : i = k
      · subst e'
        right
        refine ⟨fun x hx hk => ?_, h1⟩
        obtain ⟨j, hj, hxj, _⟩ := (i2 x).1 hx
        exact h2 j hj x hxj hk
      · exact Or.inl ⟨i, by omega, h1, h2⟩
theorem fold_merge (ls : List (List Ent)) (hr : ls.all rises = true) : IsMerge ls (foldR ls ls.length) := by
  obtain ⟨h1, h2⟩ := fold_spec ls hr ls.length
  unfold IsMerge
  rw [if_pos hr]
  refine ⟨h1, fun e => ?_⟩
  rw [h2]
  constructor
  · rintro ⟨i, _, q⟩; exact ⟨i, q⟩
  · rintro ⟨i, q⟩
    refine ⟨i, ?_, q⟩
    rcases Nat.lt_or_ge i ls.length with r | r
    · exact r
    · have := q.1
      simp [List.getD_eq_getElem?_getD, r] at this
end Go.Proofs.Ythgbmijgoaihcaa
