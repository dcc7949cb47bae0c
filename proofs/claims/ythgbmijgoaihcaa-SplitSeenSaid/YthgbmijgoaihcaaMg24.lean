/-
  Merge, plainly: parts of a list.
-/
import Derived.Test.YthgbmijgoaihcaaMg21
namespace Go.Proofs.Ythgbmijgoaihcaa
open Go.RowKit
set_option linter.unusedVariables false

theorem same_in (x : List Ent) (hx : x.Pairwise Bef) (a b : Ent) (ha : a ∈ x) (hb : b ∈ x) (hk : sameK a b) : a = b := by
  obtain ⟨i, hi, rfl⟩ := in_getD x a ha
  obtain ⟨j, hj, rfl⟩ := in_getD x b hb
  rcases Nat.lt_trichotomy i j with q | rfl | q
  · exact absurd hk (bef_getD x hx i j q hj).notK
  · rfl
  · exact absurd ⟨hk.1.symm, hk.2.symm⟩ (bef_getD x hx j i q hi).notK
theorem inM_of (x : List Ent) (hx : x.Pairwise Bef) (ps : List (List Ent)) (hm : ∀ i, ∀ e ∈ ps.getD i [], e ∈ x) (e : Ent) : ∀ i, e ∈ ps.getD i [] → InM ps e := by
  intro i
  induction i using Nat.strongRecOn with
  | _ i ih =>
    intro hi
    by_cases h : ∃ j, j < i ∧ ∃ y ∈ ps.getD j [], sameK y e
    · obtain ⟨j, hj, y, hy, hk⟩ := h
      have := same_in x hx y e (hm j y hy) (hm i e hi) hk
      subst this
      exact ih j hj hy
    · exact ⟨i, hi, fun j hj y hy hk => h ⟨j, hj, y, hy, hk⟩⟩
/-- Parts of a list, put together, are the list. -/
theorem merge_parts (x : List Ent) (hx : rises x = true) (ps : List (List Ent)) (hr : ps.all rises = true) (hm : ∀ i, ∀ e ∈ ps.getD i [], e ∈ x) (hall : ∀ e ∈ x, ∃ i, e ∈ ps.getD i []) : IsMerge ps x := by
  unfold IsMerge
  rw [if_pos hr]
  have pw := rises_pw x hx
  refine ⟨pw, fun e => ⟨fun he => ?_, fun ⟨i, hi, _⟩ => hm i e hi⟩⟩
  obtain ⟨i, hi⟩ := hall e he
  exact inM_of x pw ps hm e i hi
theorem IsMerge.rises {ls : List (List Ent)} {m : List Ent} (h : IsMerge ls m) : rises m = true := by
  unfold IsMerge at h
  split at h
  · exact pw_rises _ h.1
  · rw [h]; rfl
theorem IsMerge.mem {ls : List (List Ent)} {m : List Ent} (h : IsMerge ls m) (hr : ls.all Go.Proofs.Ythgbmijgoaihcaa.rises = true) (e : Ent) : e ∈ m ↔ InM ls e := by
  unfold IsMerge at h
  rw [if_pos hr] at h
  exact h.2 e
def noK (l : List Ent) (e : Ent) : Prop := ∀ x ∈ l, ¬ sameK x e
theorem inM_cons (a : List Ent) (ls : List (List Ent)) (e : Ent) : InM (a :: ls) e ↔ e ∈ a ∨ (noK a e ∧ InM ls e) := by
  constructor
  · rintro ⟨i, hi, hj⟩
    cases i with
    | zero => exact Or.inl (by simpa using hi)
    | succ i =>
      refine Or.inr ⟨fun x hx => hj 0 (by omega) x (by simpa using hx), i, by simpa using hi, fun j hji x hx => hj (j + 1) (by omega) x (by simpa using hx)⟩
  · rintro (h | ⟨h0, i, hi, hj⟩)
    · exact ⟨0, by simpa using h, fun j hj => by omega⟩
    · refine ⟨i + 1, by simpa using hi, fun j hji x hx => ?_⟩
      cases j with
      | zero => exact h0 x (by simpa using hx)
      | succ j => exact hj j (by omega) x (by simpa using hx)
theorem inM_nil (e : Ent) : ¬ InM [] e := by
  rintro ⟨i, hi, _⟩
  simp at hi
theorem inM_one (a : List Ent) (e : Ent) : InM [a] e ↔ e ∈ a := by
  rw [inM_cons]
  exact ⟨fun h => h.elim id fun q => absurd q.2 (inM_nil e), Or.inl⟩
/-- No entry of a list that was put together has the key: none of its parts' has. -/
theorem noK_merge {ls : List (List Ent)} {m : List Ent} (h : ∀ e, e ∈ m ↔ InM ls e) (e : Ent) : noK m e ↔ ∀ i, noK (ls.getD i []) e := by
  constructor
  · intro hm i
    induction i using Nat.strongRecOn with
    | _ i ih =>
      intro x hx hk
      refine hm x ((h x).2 ⟨i, hx, fun j hj y hy hk2 => ?_⟩) hk
      exact ih j hj y hy ⟨hk2.1.trans hk.1, hk2.2.trans hk.2⟩
  · intro hi x hx hk
    obtain ⟨i, hxi, _⟩ := (h x).1 hx
    exact hi i x hxi hk
/-- Whichever brackets. -/
theorem merge_right {a b c m r : List Ent} (ha : Go.Proofs.Ythgbmijgoaihcaa.rises a = true) (hb : Go.Proofs.Ythgbmijgoaihcaa.rises b = true) (hc : Go.Proofs.Ythgbmijgoaihcaa.rises c = true) (hm : IsMerge [b, c] m) (h : IsMerge [a, m] r) : IsMerge [a, b, c] r := by
  have hbc : [b, c].all Go.Proofs.Ythgbmijgoaihcaa.rises = true := by simp [hb, hc]
  have ham : [a, m].all Go.Proofs.Ythgbmijgoaihcaa.rises = true := by simp [ha, hm.rises]
  have h1 := hm.mem hbc
  have h2 := h.mem ham
  unfold IsMerge
  rw [if_pos (by simp [ha, hb, hc])]
  refine ⟨rises_pw _ h.rises, fun e => ?_⟩
  rw [h2, inM_cons, inM_one, h1, inM_cons a [b, c]]
theorem merge_left {a b c m r : List Ent} (ha : Go.Proofs.Ythgbmijgoaihcaa.rises a = true) (hb : Go.Proofs.Ythgbmijgoaihcaa.rises b = true) (hc : Go.Proofs.Ythgbmijgoaihcaa.rises c = true) (hm : IsMerge [a, b] m) (h : IsMerge [m, c] r) : IsMerge [a, b, c] r := by
  have hab : [a, b].all Go.Proofs.Ythgbmijgoaihcaa.rises = true := by simp [ha, hb]
  have hmc : [m, c].all Go.Proofs.Ythgbmijgoaihcaa.rises = true := by simp [hc, hm.rises]
  have h1 := hm.mem hab
  have h2 := h.mem hmc
  unfold IsMerge
  rw [if_pos (by simp [ha, hb, hc])]
  refine ⟨rises_pw _ h.rises, fun e => ?_⟩
  have hn : noK m e ↔ noK a e ∧ noK b e := by
    rw [noK_merge h1]
    constructor
    · intro q; exact ⟨by simpa using q 0, by simpa using q 1⟩
    · rintro ⟨q0, q1⟩ i
      match i with
      | 0 => simpa using q0
      | 1 => simpa using q1
      | i + 2 => intro x hx; simp at hx
  rw [h2, inM_cons, inM_one, h1, hn, inM_cons, inM_one, inM_cons, inM_cons, inM_one]
  constructor
  · rintro ((q | q) | q)
    · exact Or.inl q
    · exact Or.inr ⟨q.1, Or.inl q.2⟩
    · exact Or.inr ⟨q.1.1, Or.inr ⟨q.1.2, q.2⟩⟩
  · rintro (q | ⟨q0, q | q⟩)
    · exact Or.inl (Or.inl q)
    · exact Or.inl (Or.inr ⟨q0, q⟩)
    · exact Or.inr ⟨⟨q0, q.1⟩, q.2⟩
end Go.Proofs.Ythgbmijgoaihcaa
