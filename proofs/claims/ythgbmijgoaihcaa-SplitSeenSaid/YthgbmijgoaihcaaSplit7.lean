/-
  Plain laws of the pieces: one behind the other they are the entries; none is empty; no key is in two.
-/
import Derived.Test.YthgbmijgoaihcaaSplit2
namespace Go.Proofs.Ythgbmijgoaihcaa
open Go.RowKit
set_option linter.unusedVariables false

/-- The last of a and the first of b bear different keys. -/
def Cut (a b : List Ent) : Prop := ∀ x y, a.getLast? = some x → b.head? = some y → x.user.toList ≠ y.user.toList
def cutOk : List (List Ent) → Prop
  | a :: b :: t => Cut a b ∧ cutOk (b :: t)
  | _ => True

theorem cutOk_tail {a : List Ent} {t : List (List Ent)} (h : cutOk (a :: t)) : cutOk t := by
  cases t with
  | nil => trivial
  | cons b t => exact h.2
theorem cutOk_merge : ∀ (o : List (List Ent)) (n g : List Ent) (t : List (List Ent)), n ≠ [] → g ≠ [] → cutOk (o ++ n :: g :: t) → cutOk (o ++ (n ++ g) :: t) := by
  intro o
  induction o with
  | nil =>
    intro n g t hn hg h
    simp only [List.nil_append] at h ⊢
    cases t with
    | nil => trivial
    | cons c t =>
      refine ⟨?_, h.2.2⟩
      intro x y hx hy
      refine h.2.1 x y ?_ hy
      rw [List.getLast?_append] at hx
      cases hgl : g.getLast? with
      | none => simp at hgl; exact absurd hgl hg
      | some z => rw [hgl] at hx; simpa using hx
  | cons a o ih =>
    intro n g t hn hg h
    have h' := ih n g t hn hg (cutOk_tail h)
    cases o with
    | nil =>
      refine ⟨?_, h'⟩
      intro x y hx hy
      refine h.1 x y hx ?_
      cases n with
      | nil => exact absurd rfl hn
      | cons z n => simpa using hy
    | cons b o => exact ⟨h.1, h'⟩
theorem cutOk_snoc_grow : ∀ (o : List (List Ent)) (n : List Ent) (e : Ent), n ≠ [] → cutOk (o ++ [n]) → cutOk (o ++ [n ++ [e]]) := by
  intro o
  induction o with
  | nil => intro n e hn h; trivial
  | cons a o ih =>
    intro n e hn h
    have h' := ih n e hn (cutOk_tail h)
    cases o with
    | nil =>
      refine ⟨?_, h'⟩
      intro x y hx hy
      refine h.1 x y hx ?_
      cases n with
      | nil => exact absurd rfl hn
      | cons z n => simpa using hy
    | cons b o => exact ⟨h.1, h'⟩
theorem cutOk_snoc : ∀ (o : List (List Ent)) (n g : List Ent), cutOk (o ++ [n]) → Cut n g → cutOk (o ++ [n] ++ [g]) := by
  intro o
  induction o with
  | nil => intro n g _ h; exact ⟨h, trivial⟩
  | cons a o ih =>
    intro n g h hc
    have h' := ih n g (cutOk_tail h) hc
    cases o with
    | nil => exact ⟨h.1, h'⟩
    | cons b o => exact ⟨h.1, h'⟩
theorem cutOk_left : ∀ (o t : List (List Ent)), cutOk (o ++ t) → cutOk o := by
  intro o
  induction o with
  | nil => intros; trivial
  | cons a o ih =>
    intro t h
    have h' := ih t (cutOk_tail h)
    cases o with
    | nil => trivial
    | cons b o => exact ⟨h.1, h'⟩

def gAll (s : List (List Ent) × List Ent) : List (List Ent) := if s.2 = [] then s.1 else s.1 ++ [s.2]
theorem gfold_cut (l : List Ent) : ∀ (s : List (List Ent) × List Ent), cutOk (gAll s) → (s.2 = [] → s.1 = []) → (∀ x t, s.2 = x :: t → ∀ y ∈ s.2, y.user.toList = x.user.toList) →
    cutOk (gAll (l.foldl gstep s)) := by
  induction l with
  | nil => intro s h _ _; exact h
  | cons e t ih =>
    intro s h h0 hs
    obtain ⟨o, n⟩ := s
    rw [List.foldl_cons]
    cases n with
    | nil =>
      have : o = [] := h0 rfl
      subst this
      exact ih ([], [e]) trivial (by simp) (by intro x t he y hy; simp at he hy; rw [hy, he.1])
    | cons x r =>
      by_cases hu : x.user.toList = e.user.toList
      · have s1 : gstep (o, x :: r) e = (o, (x :: r) ++ [e]) := by unfold gstep; simp [hu]
        rw [s1]
        refine ih _ ?_ (by simp) ?_
        · have : cutOk (o ++ [x :: r]) := by simpa [gAll] using h
          have := cutOk_snoc_grow o (x :: r) e (by simp) this
          simpa [gAll] using this
        · intro x' t' he y hy
          simp at he
          obtain ⟨rfl, _⟩ := he
          rcases List.mem_append.1 hy with h1 | h1
          · exact hs x r rfl y h1
          · rw [List.mem_singleton.1 h1]; exact hu.symm
      · have s1 : gstep (o, x :: r) e = (o ++ [x :: r], [e]) := by unfold gstep; simp [hu]
        rw [s1]
        refine ih _ ?_ (by simp) (by intro x t he y hy; simp at he hy; rw [hy, he.1])
        have h1 : cutOk (o ++ [x :: r]) := by simpa [gAll] using h
        have h2 : Cut (x :: r) [e] := by
          intro a b ha hb
          have ha' : a ∈ x :: r := List.mem_of_getLast? ha
          simp at hb
          rw [hs x r rfl a ha', ← hb]
          exact hu
        simpa [gAll] using cutOk_snoc o (x :: r) [e] h1 h2
theorem groups_cut (l : List Ent) : cutOk (groups l) := gfold_cut l ([], []) trivial (fun _ => rfl) (by intro x t h; cases h)

def sAll (s : List (List Ent) × List Ent × Nat) : List (List Ent) := if s.2.1 = [] then s.1 else s.1 ++ [s.2.1]
theorem sfold_all (m : Int) (gs : List (List Ent)) : ∀ (s : List (List Ent) × List Ent × Nat), (∀ g ∈ gs, g ≠ []) → (s.2.1 = [] → s.1 = []) → (∀ g ∈ s.1, g ≠ []) → cutOk (sAll s ++ gs) →
    cutOk (sAll (gs.foldl (sstep m) s)) ∧ (∀ g ∈ sAll (gs.foldl (sstep m) s), g ≠ []) ∧ (sAll (gs.foldl (sstep m) s)).flatten = (sAll s).flatten ++ gs.flatten := by
  induction gs with
  | nil =>
    intro s _ h0 h1 hc
    refine ⟨by simpa using hc, ?_, by simp⟩
    intro g hg
    simp only [List.foldl_nil] at hg
    unfold sAll at hg
    split at hg
    · exact h1 g hg
    · next hne =>
      rcases List.mem_append.1 hg with h | h
      · exact h1 g h
      · rw [List.mem_singleton.1 h]; exact hne
  | cons g t ih =>
    intro s hgs h0 h1 hc
    obtain ⟨o, n, k⟩ := s
    have hg : g ≠ [] := hgs g (by simp)
    rw [List.foldl_cons]
    unfold sstep
    dsimp only at h0 h1 ⊢
    by_cases hn : n = []
    · have : o = [] := h0 hn
      subst this; subst hn
      rw [if_neg (by simp)]
      obtain ⟨i1, i2, i3⟩ := ih ([], [] ++ g, k + count g) (fun x hx => hgs x (by simp [hx])) (by intro h; rfl) (by simp) (by simpa [sAll, hg] using hc)
      exact ⟨i1, i2, i3.trans (by simp [sAll, hg])⟩
    · by_cases hcut : n ≠ [] ∧ max 1 m < ((k + count g : Nat) : Int)
      · rw [if_pos hcut]
        obtain ⟨i1, i2, i3⟩ := ih (o ++ [n], g, count g) (fun x hx => hgs x (by simp [hx])) (fun h => absurd h hg) (by intro x hx; rcases List.mem_append.1 hx with h | h; exact h1 x h; rw [List.mem_singleton.1 h]; exact hn) (by simpa [sAll, hg, hn] using hc)
        exact ⟨i1, i2, i3.trans (by simp [sAll, hg, hn])⟩
      · rw [if_neg hcut]
        have hng : n ++ g ≠ [] := by simp [hn]
        obtain ⟨i1, i2, i3⟩ := ih (o, n ++ g, k + count g) (fun x hx => hgs x (by simp [hx])) (fun h => absurd h hng) h1 (by
          have h2 : cutOk (o ++ n :: g :: t) := by simpa [sAll, hn] using hc
          have := cutOk_merge o n g t hn hg h2
          simpa [sAll, hn] using this)
        exact ⟨i1, i2, i3.trans (by simp [sAll, hn])⟩

theorem ssplit_all (m : Int) (l : List Ent) (hr : rises l = true) : cutOk (ssplit m l) ∧ (∀ g ∈ ssplit m l, g ≠ []) ∧ (ssplit m l).flatten = l := by
  have h := sfold_all m (groups l) ([], [], 0) (groups_ne l) (fun _ => rfl) (by simp) (by simpa [sAll] using groups_cut l)
  have e : ssplit m l = sAll ((groups l).foldl (sstep m) ([], [], 0)) := by unfold ssplit sfold sAll; simp [hr]
  rw [e]
  refine ⟨h.1, h.2.1, ?_⟩
  rw [h.2.2, groups_flat]
  simp [sAll]

theorem rises_mid : ∀ (A : List Ent) (x y : Ent) (B : List Ent), rises (A ++ x :: y :: B) = true → ahead x y = true := by
  intro A
  induction A with
  | nil => intro x y B h; simp [rises] at h; exact h.1
  | cons a A ih =>
    intro x y B h
    refine ih x y B ?_
    cases A with
    | nil => simp [rises] at h ⊢; exact h.2
    | cons b A => simp [rises] at h ⊢; exact h.2
theorem cutOk_lt : ∀ (ps : List (List Ent)) (A : List Ent), cutOk ps → (∀ g ∈ ps, g ≠ []) → rises (A ++ ps.flatten) = true → ∀ i (h : i + 1 < ps.length) x y, ps[i].getLast? = some x → ps[i + 1].head? = some y → lt x.user y.user = true := by
  intro ps
  induction ps with
  | nil => intro A _ _ _ i h; simp at h
  | cons p ps ih =>
    intro A hc hn hr i h x y hx hy
    cases i with
    | succ i =>
      refine ih (A ++ p) (cutOk_tail hc) (fun g hg => hn g (by simp [hg])) (by simpa using hr) i (by simpa using h) x y ?_ ?_
      · simpa using hx
      · simpa using hy
    | zero =>
      cases ps with
      | nil => simp at h
      | cons q ps =>
        simp at hx hy
        obtain ⟨p', rfl⟩ := List.getLast?_eq_some_iff.1 hx
        cases q with
        | nil => simp at hy
        | cons y' q =>
          simp at hy
          subst hy
          have h1 : rises ((A ++ p') ++ x :: y' :: (q ++ ps.flatten)) = true := by simpa using hr
          have h2 := rises_mid _ _ _ _ h1
          have h3 := hc.1 x y' (by simp) (by simp)
          unfold ahead at h2
          simp [h3] at h2
          exact h2
end Go.Proofs.Ythgbmijgoaihcaa
