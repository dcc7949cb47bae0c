/-
  Plain law of the pieces: a piece of more keys than one counts no more than it may; with its next key it would.
-/
import Derived.Test.YthgbmijgoaihcaaSplit7
namespace Go.Proofs.Ythgbmijgoaihcaa
open Go.RowKit
set_option linter.unusedVariables false

/-- The entries of the first key. -/
def firstRun : List Ent → List Ent
  | [] => []
  | x :: t => x :: t.takeWhile fun y => decide (y.user.toList = x.user.toList)
def Uni (g : List Ent) : Prop := ∀ x y, x ∈ g → y ∈ g → x.user.toList = y.user.toList

theorem takeWhile_all {p : Ent → Bool} : ∀ (l : List Ent), (∀ x ∈ l, p x = true) → l.takeWhile p = l := by
  intro l
  induction l with
  | nil => intro _; rfl
  | cons a t ih => intro h; rw [List.takeWhile_cons, if_pos (h a (by simp)), ih (fun x hx => h x (by simp [hx]))]
theorem firstRun_uni {g : List Ent} (h : Uni g) : firstRun g = g := by
  cases g with
  | nil => rfl
  | cons x t =>
    show x :: t.takeWhile (fun y => decide (y.user.toList = x.user.toList)) = x :: t
    rw [takeWhile_all t (fun y hy => decide_eq_true (h y x (by simp [hy]) (by simp)))]
theorem takeWhile_app {p : Ent → Bool} : ∀ (l m : List Ent), ((∃ x, l.getLast? = some x ∧ p x = false) ∨ ∀ y, m.head? = some y → p y = false) → (l ++ m).takeWhile p = l.takeWhile p := by
  intro l
  induction l with
  | nil =>
    intro m h
    cases m with
    | nil => rfl
    | cons y m =>
      rcases h with ⟨x, hx, _⟩ | h
      · simp at hx
      · simp [h y rfl]
  | cons a t ih =>
    intro m h
    rw [List.cons_append, List.takeWhile_cons, List.takeWhile_cons]
    split
    · next hp =>
      rw [ih]
      rcases h with ⟨x, hx, hf⟩ | h
      · cases t with
        | nil => simp at hx; subst hx; rw [hp] at hf; cases hf
        | cons b t => exact Or.inl ⟨x, by simpa using hx, hf⟩
      · exact Or.inr h
    · rfl
theorem firstRun_app {n g : List Ent} (hn : n ≠ []) (h : Cut n g) : firstRun (n ++ g) = firstRun n := by
  cases n with
  | nil => exact absurd rfl hn
  | cons x t =>
    rw [List.cons_append]
    show x :: (t ++ g).takeWhile (fun y => decide (y.user.toList = x.user.toList)) = x :: t.takeWhile (fun y => decide (y.user.toList = x.user.toList))
    congr 1
    refine takeWhile_app t g ?_
    cases hl : t.getLast? with
    | none =>
      simp at hl
      subst hl
      refine Or.inr (fun y hy => ?_)
      have := h x y (by simp) hy
      simpa using fun e => this e.symm
    | some z =>
      have hlz : (x :: t).getLast? = some z := by
        cases t with
        | nil => simp at hl
        | cons b t => simpa using hl
      by_cases hz : z.user.toList = x.user.toList
      · refine Or.inr (fun y hy => ?_)
        have := h z y hlz hy
        rw [hz] at this
        simpa using fun e => this e.symm
      · exact Or.inl ⟨z, rfl, by simpa using hz⟩

def Far (m : Int) (a b : List Ent) : Prop := max 1 m < ((count a + count (firstRun b) : Nat) : Int)
def farOk (m : Int) : List (List Ent) → Prop
  | a :: b :: t => Far m a b ∧ farOk m (b :: t)
  | _ => True
theorem farOk_snoc (m : Int) : ∀ (o : List (List Ent)) (n g : List Ent), farOk m (o ++ [n]) → Far m n g → farOk m (o ++ [n] ++ [g]) := by
  intro o
  induction o with
  | nil => intro n g _ h; exact ⟨h, trivial⟩
  | cons a o ih =>
    intro n g h hc
    cases o with
    | nil => exact ⟨h.1, ih n g h.2 hc⟩
    | cons b o => exact ⟨h.1, ih n g h.2 hc⟩
theorem farOk_grow (m : Int) : ∀ (o : List (List Ent)) (n n' : List Ent), firstRun n' = firstRun n → farOk m (o ++ [n]) → farOk m (o ++ [n']) := by
  intro o
  induction o with
  | nil => intro n n' _ h; trivial
  | cons a o ih =>
    intro n n' he h
    cases o with
    | nil => exact ⟨by unfold Far; rw [he]; exact h.1, trivial⟩
    | cons b o => exact ⟨h.1, ih n n' he h.2⟩
theorem groups_uni (l : List Ent) : ∀ g ∈ groups l, Uni g := by
  have key : ∀ (l : List Ent) (s : List (List Ent) × List Ent), (∀ g ∈ s.1, Uni g) → Uni s.2 → (∀ g ∈ (l.foldl gstep s).1, Uni g) ∧ Uni (l.foldl gstep s).2 := by
    intro l
    induction l with
    | nil => intro s h1 h2; exact ⟨h1, h2⟩
    | cons e t ih =>
      intro s h1 h2
      obtain ⟨o, n⟩ := s
      rw [List.foldl_cons]
      have u1 : Uni [e] := by intro x y hx hy; simp at hx hy; rw [hx, hy]
      cases n with
      | nil => exact ih (o, [e]) h1 u1
      | cons x r =>
        by_cases hu : x.user.toList = e.user.toList
        · have s1 : gstep (o, x :: r) e = (o, (x :: r) ++ [e]) := by unfold gstep; simp [hu]
          rw [s1]
          refine ih _ h1 ?_
          have hall : ∀ y ∈ (x :: r) ++ [e], y.user.toList = x.user.toList := by
            intro y hy
            rcases List.mem_append.1 hy with h | h
            · exact h2 y x h (by simp)
            · rw [List.mem_singleton.1 h]; exact hu.symm
          intro a b ha hb
          rw [hall a ha, hall b hb]
        · have s1 : gstep (o, x :: r) e = (o ++ [x :: r], [e]) := by unfold gstep; simp [hu]
          rw [s1]
          exact ih _ (by intro g hg; rcases List.mem_append.1 hg with h | h; exact h1 g h; rw [List.mem_singleton.1 h]; exact h2) u1
  obtain ⟨h1, h2⟩ := key l ([], []) (by simp) (by intro x y hx; simp at hx)
  intro g hg
  unfold groups at hg
  split at hg
  · exact h1 g hg
  · rcases List.mem_append.1 hg with h | h
    · exact h1 g h
    · rw [List.mem_singleton.1 h]; exact h2

def Fits (m : Int) (p : List Ent) : Prop := Uni p ∨ ((count p : Nat) : Int) ≤ max 1 m
theorem sfold_most (m : Int) (gs : List (List Ent)) : ∀ (s : List (List Ent) × List Ent × Nat), (∀ g ∈ gs, g ≠ [] ∧ Uni g) → (s.2.1 = [] → s.1 = [] ∧ s.2.2 = 0) → s.2.2 = count s.2.1 → cutOk (sAll s ++ gs) →
    (∀ p ∈ sAll s, Fits m p) → farOk m (sAll s) →
    (∀ p ∈ sAll (gs.foldl (sstep m) s), Fits m p) ∧ farOk m (sAll (gs.foldl (sstep m) s)) := by
  induction gs with
  | nil => intro s _ _ _ _ h1 h2; exact ⟨h1, h2⟩
  | cons g t ih =>
    intro s hgs h0 hk hc h1 h2
    obtain ⟨o, n, k⟩ := s
    obtain ⟨hg, hu⟩ := hgs g (by simp)
    have hgs' : ∀ x ∈ t, x ≠ [] ∧ Uni x := fun x hx => hgs x (by simp [hx])
    rw [List.foldl_cons]
    unfold sstep
    dsimp only at h0 hk ⊢
    by_cases hn : n = []
    · obtain ⟨rfl, rfl⟩ := h0 hn
      subst hn
      rw [if_neg (by simp)]
      exact ih ([], [] ++ g, 0 + count g) hgs' (fun h => absurd h (by simpa using hg)) (by simp) (by simpa [sAll, hg] using hc) (fun p hp => (show p = g by simpa [sAll, hg] using hp) ▸ Or.inl hu) (by simp [sAll, hg, farOk])
    · by_cases hcut : n ≠ [] ∧ max 1 m < ((k + count g : Nat) : Int)
      · rw [if_pos hcut]
        refine ih (o ++ [n], g, count g) hgs' (fun h => absurd h hg) rfl (by simpa [sAll, hg, hn] using hc) ?_ ?_
        · intro p hp
          have hp' : p ∈ o ++ [n] ∨ p = g := by simpa [sAll, hg, or_assoc] using hp
          rcases hp' with h | rfl
          · exact h1 p (by simpa [sAll, hn] using h)
          · exact Or.inl hu
        · have := farOk_snoc m o n g (by simpa [sAll, hn] using h2) (by unfold Far; rw [firstRun_uni hu, ← hk]; exact hcut.2)
          simpa [sAll, hg] using this
      · rw [if_neg hcut]
        have hng : n ++ g ≠ [] := by simp [hn]
        have h3 : cutOk (o ++ n :: g :: t) := by simpa [sAll, hn] using hc
        have hcng : Cut n g := by
          clear ih h1 h2 hc hcut
          induction o with
          | nil => exact h3.1
          | cons a o iho => exact iho (fun h => absurd h hn) (cutOk_tail h3)
        refine ih (o, n ++ g, k + count g) hgs' (fun h => absurd h hng) (by rw [hk, count_append]) (by simpa [sAll, hn] using cutOk_merge o n g t hn hg h3) ?_ ?_
        · intro p hp
          have hp' : p ∈ o ∨ p = n ++ g := by simpa [sAll, hng, hn] using hp
          rcases hp' with h | rfl
          · exact h1 p (by simp [sAll, hn, h])
          · refine Or.inr ?_
            have : ¬ max 1 m < ((k + count g : Nat) : Int) := fun h => hcut ⟨hn, h⟩
            rw [count_append, ← hk]
            omega
        · have := farOk_grow m o n (n ++ g) (firstRun_app hn hcng) (by simpa [sAll, hn] using h2)
          simpa [sAll, hn] using this
theorem ssplit_most (m : Int) (l : List Ent) (hr : rises l = true) : (∀ p ∈ ssplit m l, Fits m p) ∧ farOk m (ssplit m l) := by
  have h := sfold_most m (groups l) ([], [], 0) (fun g hg => ⟨groups_ne l g hg, groups_uni l g hg⟩) (fun _ => ⟨rfl, rfl⟩) rfl (by simpa [sAll] using groups_cut l) (by simp [sAll]) (by simp [sAll, farOk])
  have e : ssplit m l = sAll ((groups l).foldl (sstep m) ([], [], 0)) := by unfold ssplit sfold sAll; simp [hr]
  rw [e]
  exact h
end Go.Proofs.Ythgbmijgoaihcaa
