/-
  Keep, plainly: the reference's loop, group by group.
-/
import Derived.Test.YthgbmijgoaihcaaMg4
namespace Go.Proofs.Ythgbmijgoaihcaa
open Go.RowKit
set_option linter.unusedVariables false

def seenB (ms : List Nat) (a b : Nat) : Bool := ms.any fun m => decide (a ≤ m) && decide (m < b)
def sameU (x y : Ent) : Bool := x.user.toList == y.user.toList
def gone (u : List UInt8) (e : Ent) : Bool := e.user.toList == u && decide (e.kind = 0)
def trimU (u : List UInt8) (l : List Ent) : List Ent := (l.reverse.dropWhile (gone u)).reverse
def trimK (l : List Ent) : List Ent := (l.reverse.dropWhile (fun e => decide (e.kind = 0))).reverse
def keepI (ms : List Nat) (l : List Ent) (i : Nat) : Bool := decide (i = 0) || (!(sameU (l.getD (i - 1) default) (l.getD i default)) || seenB ms (l.getD i default).seq (l.getD (i - 1) default).seq)
def endI (l : List Ent) (i : Nat) : Bool := decide (i + 1 = l.length) || !(sameU (l.getD (i + 1) default) (l.getD i default))
/-- The reference's list behind i rounds. -/
def kr (ms : List Nat) (last : Bool) (l : List Ent) : Nat → List Ent
  | 0 => []
  | i + 1 => if (endI l i && last) = true then trimU (l.getD i default).user.toList (kr ms last l i ++ if keepI ms l i = true then [l.getD i default] else []) else kr ms last l i ++ if keepI ms l i = true then [l.getD i default] else []
def keepR (ms : List Nat) (last : Bool) (l : List Ent) : List Ent := if rises l then kr ms last l l.length else []
/-- One key's entries that stay, ahead of the trim: the first j looked at. -/
def kp (ms : List Nat) (r : List Ent) : Nat → List Ent
  | 0 => []
  | j + 1 => kp ms r j ++ if (decide (j = 0) || seenB ms (r.getD j default).seq (r.getD (j - 1) default).seq) = true then [r.getD j default] else []

theorem trimK_nil : trimK [] = [] := rfl
theorem trimK_snoc (l : List Ent) (e : Ent) : trimK (l ++ [e]) = if e.kind = 0 then trimK l else l ++ [e] := by
  unfold trimK
  rw [List.reverse_append]
  simp only [List.reverse_cons, List.reverse_nil, List.nil_append, List.cons_append, List.dropWhile_cons]
  by_cases h : e.kind = 0 <;> simp [h]
theorem trimU_nil (u : List UInt8) : trimU u [] = [] := rfl
theorem trimU_snoc (u : List UInt8) (l : List Ent) (e : Ent) : trimU u (l ++ [e]) = if gone u e = true then trimU u l else l ++ [e] := by
  unfold trimU
  rw [List.reverse_append]
  simp only [List.reverse_cons, List.reverse_nil, List.nil_append, List.cons_append, List.dropWhile_cons]
  by_cases h : gone u e = true <;> simp [h]
theorem trimU_append (u : List UInt8) (a : List Ent) (h : ∀ e ∈ a, e.user.toList ≠ u) : ∀ b : List Ent, (∀ e ∈ b, e.user.toList = u) → trimU u (a ++ b) = a ++ trimK b := by
  have ha : trimU u a = a := by
    rcases List.eq_nil_or_concat a with rfl | ⟨t, e, rfl⟩
    · rfl
    · have : gone u e = false := by unfold gone; have := h e (by simp); simp [this]
      rw [List.concat_eq_append, trimU_snoc, this]; rfl
  intro b
  obtain ⟨r, rfl⟩ : ∃ r, b = r.reverse := ⟨b.reverse, by simp⟩
  induction r with
  | nil => intro _; rw [List.reverse_nil, List.append_nil, ha, trimK_nil, List.append_nil]
  | cons e t ih =>
    rw [List.reverse_cons]
    intro hb
    have ih' := ih (fun x hx => hb x (by simp [hx]))
    have he : gone u e = decide (e.kind = 0) := by unfold gone; rw [hb e (by simp)]; simp
    rw [← List.append_assoc, trimU_snoc, trimK_snoc, he, ih']
    by_cases q : e.kind = 0 <;> simp [q]
theorem trimU_sub (u : List UInt8) (l : List Ent) : ∀ e ∈ trimU u l, e ∈ l := by
  intro e he
  unfold trimU at he
  rw [List.mem_reverse] at he
  exact List.mem_reverse.1 (List.dropWhile_sublist (gone u) |>.subset he)
theorem trimK_sub (l : List Ent) : ∀ e ∈ trimK l, e ∈ l := by
  intro e he
  unfold trimK at he
  rw [List.mem_reverse] at he
  exact List.mem_reverse.1 (List.dropWhile_sublist _ |>.subset he)
theorem trimK_len (l : List Ent) : (trimK l).length ≤ l.length := by
  unfold trimK
  rw [List.length_reverse]
  have := (List.dropWhile_sublist (fun e : Ent => decide (e.kind = 0)) (l := l.reverse)).length_le
  simpa using this
theorem kr_mem (ms : List Nat) (last : Bool) (l : List Ent) : ∀ i, i ≤ l.length → ∀ e ∈ kr ms last l i, ∃ j, j < i ∧ e = l.getD j default
  | 0, _, e, he => by simp [kr] at he
  | i + 1, hi, e, he => by
    have h1 : e ∈ kr ms last l i ++ (if keepI ms l i = true then [l.getD i default] else []) := by
      unfold kr at he
      split at he
      · exact trimU_sub _ _ e he
      · exact he
    rcases List.mem_append.1 h1 with h | h
    · obtain ⟨j, hj, e'⟩ := kr_mem ms last l i (by omega) e h
      exact ⟨j, by omega, e'⟩
    · split at h
      · simp at h; exact ⟨i, by omega, by simpa using h⟩
      · simp at h
theorem kr_len (ms : List Nat) (last : Bool) (l : List Ent) : ∀ i, (kr ms last l i).length ≤ i
  | 0 => Nat.le_refl _
  | i + 1 => by
    have ih := kr_len ms last l i
    have h1 : (kr ms last l i ++ (if keepI ms l i = true then [l.getD i default] else [])).length ≤ i + 1 := by
      rw [List.length_append]
      split <;> simp <;> omega
    unfold kr
    split
    · unfold trimU
      rw [List.length_reverse]
      have := (List.dropWhile_sublist (gone (l.getD i default).user.toList) (l := (kr ms last l i ++ (if keepI ms l i = true then [l.getD i default] else [])).reverse)).length_le
      rw [List.length_reverse] at this
      omega
    · exact h1
theorem kp_len (ms : List Nat) (r : List Ent) : ∀ j, (kp ms r j).length ≤ j
  | 0 => Nat.le_refl _
  | j + 1 => by
    have ih := kp_len ms r j
    unfold kp
    rw [List.length_append]
    split <;> simp <;> omega
theorem kp_mem (ms : List Nat) (r : List Ent) : ∀ j, ∀ e ∈ kp ms r j, ∃ i, i < j ∧ e = r.getD i default
  | 0, e, he => by simp [kp] at he
  | j + 1, e, he => by
    unfold kp at he
    rcases List.mem_append.1 he with h | h
    · obtain ⟨i, hi, e'⟩ := kp_mem ms r j e h
      exact ⟨i, by omega, e'⟩
    · split at h
      · simp at h; exact ⟨j, by omega, by simpa using h⟩
      · simp at h
theorem lt_ne (a b : ByteArray) (h : lt a b = true) : a.toList ≠ b.toList := by
  intro e
  unfold lt at h
  rw [e, less_irrefl] at h
  cases h
/-- Ahead of a key's first entry no entry has that key. -/
theorem first_far (l : List Ent) (h : rises l = true) (p : Nat) (hp : p < l.length) (h0 : p = 0 ∨ sameU (l.getD (p - 1) default) (l.getD p default) = false) (d : Nat) (hd : d < p) : (l.getD d default).user.toList ≠ (l.getD p default).user.toList := by
  rcases h0 with h0 | h0
  · omega
  · have hne : (l.getD (p - 1) default).user.toList ≠ (l.getD p default).user.toList := by simpa [sameU] using h0
    have f1 := rises_far l h (p - 1) 1 (by omega)
    rw [show p - 1 + 1 = p by omega] at f1
    rcases f1 with f1 | ⟨f1, _⟩
    · have f2 := rises_far l h d (p - 1 - d) (by omega)
      rw [show d + (p - 1 - d) = p - 1 by omega] at f2
      rcases f2 with f2 | ⟨f2, _⟩
      · exact lt_ne _ _ (less_trans _ _ _ f2 f1)
      · rw [f2]; exact hne
    · exact absurd f1 hne
theorem getD_drop (l : List Ent) (p j : Nat) : (l.drop p).getD j default = l.getD (p + j) default := by
  simp [List.getD_eq_getElem?_getD]
/-- Within one key's entries. -/
theorem kr_in (ms : List Nat) (last : Bool) (l : List Ent) (p n : Nat) (h0 : p = 0 ∨ sameU (l.getD (p - 1) default) (l.getD p default) = false) (hn : p + n ≤ l.length) (hs : ∀ j, j < n → (l.getD (p + j) default).user.toList = (l.getD p default).user.toList) :
    ∀ j, j < n → kr ms last l (p + j) = kr ms last l p ++ kp ms (l.drop p) j ∧ (kr ms last l (p + j) ++ if keepI ms l (p + j) = true then [l.getD (p + j) default] else []) = kr ms last l p ++ kp ms (l.drop p) (j + 1)
  | 0, hj => by
    refine ⟨by simp [kp], ?_⟩
    have hk : keepI ms l (p + 0) = true := by
      unfold keepI
      rcases h0 with h0 | h0
      · simp [h0]
      · rw [Nat.add_zero, h0]; simp
    rw [hk]
    simp [kp, List.getD_eq_getElem?_getD]
  | j + 1, hj => by
    obtain ⟨i1, i2⟩ := kr_in ms last l p n h0 hn hs j (by omega)
    have he : endI l (p + j) = false := by
      unfold endI sameU
      rw [show p + j + 1 = p + (j + 1) by omega, hs (j + 1) hj, hs j (by omega)]
      simp; omega
    have e1 : kr ms last l (p + (j + 1)) = kr ms last l p ++ kp ms (l.drop p) (j + 1) := by
      rw [← Nat.add_assoc]
      show (if (endI l (p + j) && last) = true then _ else _) = _
      rw [he]
      exact i2
    refine ⟨e1, ?_⟩
    rw [e1]
    have hk : keepI ms l (p + (j + 1)) = (decide (j + 1 = 0) || seenB ms ((l.drop p).getD (j + 1) default).seq ((l.drop p).getD (j + 1 - 1) default).seq) := by
      unfold keepI sameU
      rw [show p + (j + 1) - 1 = p + j by omega, hs (j + 1) hj, hs j (by omega), getD_drop, getD_drop]
      simp
    rw [hk, List.append_assoc]
    congr 1
    conv => rhs; unfold kp
    rw [getD_drop]
theorem kr_group (ms : List Nat) (last : Bool) (l : List Ent) (h : rises l = true) (p n : Nat) (h0 : p = 0 ∨ sameU (l.getD (p - 1) default) (l.getD p default) = false) (hpos : 0 < n) (hn : p + n ≤ l.length) (hs : ∀ j, j < n → (l.getD (p + j) default).user.toList = (l.getD p default).user.toList)
    (he : p + n = l.length ∨ sameU (l.getD (p + n) default) (l.getD p default) = false) :
    kr ms last l (p + n) = kr ms last l p ++ (if last = true then trimK (kp ms (l.drop p) n) else kp ms (l.drop p) n) := by
  obtain ⟨m, rfl⟩ : ∃ m, n = m + 1 := ⟨n - 1, by omega⟩
  obtain ⟨_, i2⟩ := kr_in ms last l p (m + 1) h0 hn hs m (by omega)
  have hend : endI l (p + m) = true := by
    unfold endI
    rcases he with he | he
    · simp; left; omega
    · unfold sameU at he ⊢
      rw [show p + m + 1 = p + (m + 1) by omega, hs m (by omega), he]; simp
  rw [← Nat.add_assoc]
  show (if (endI l (p + m) && last) = true then _ else _) = _
  rw [hend, i2]
  cases last with
  | false => simp
  | true =>
    simp only [Bool.and_self, if_true]
    rw [hs m (by omega)]
    refine trimU_append _ _ ?_ _ ?_
    · intro e he'
      obtain ⟨d, hd, rfl⟩ := kr_mem ms true l p (by omega) e he'
      exact first_far l h p (by omega) h0 d hd
    · intro e he'
      obtain ⟨i, hi, rfl⟩ := kp_mem ms (l.drop p) (m + 1) e he'
      rw [getD_drop]
      exact hs i hi
theorem seenB_perm (ms ss : List Nat) (h : ss.Perm ms) (a b : Nat) : seenB ss a b = seenB ms a b := by
  unfold seenB
  rw [Bool.eq_iff_iff, List.any_eq_true, List.any_eq_true]
  exact ⟨fun ⟨m, hm, hp⟩ => ⟨m, h.mem_iff.1 hm, hp⟩, fun ⟨m, hm, hp⟩ => ⟨m, h.mem_iff.2 hm, hp⟩⟩
theorem hit_eq (ss : List Nat) (a b k : Nat) (hs : ss.Pairwise (· ≤ ·)) (h1 : ∀ i, i < k → ss.getD i 0 < a) (h2 : ∀ i, k ≤ i → i < ss.length → a ≤ ss.getD i 0) : (decide (k < ss.length) && decide (ss.getD k 0 < b)) = seenB ss a b := by
  rw [Bool.eq_iff_iff]
  unfold seenB
  rw [List.any_eq_true]
  simp only [Bool.and_eq_true, decide_eq_true_eq]
  constructor
  · rintro ⟨hk, hb⟩
    have e : ss.getD k 0 = ss[k] := by simp [List.getD_eq_getElem?_getD, hk]
    exact ⟨ss[k], List.getElem_mem hk, by rw [← e]; exact h2 k (Nat.le_refl _) hk, by rw [← e]; exact hb⟩
  · rintro ⟨m, hm, ha, hb⟩
    obtain ⟨i, hi, rfl⟩ := List.getElem_of_mem hm
    have e : ss.getD i 0 = ss[i] := by simp [List.getD_eq_getElem?_getD, hi]
    have hki : k ≤ i := by
      rcases Nat.lt_or_ge i k with h | h
      · have := h1 i h; rw [e] at this; omega
      · exact h
    refine ⟨by omega, ?_⟩
    by_cases ek : k = i
    · subst ek; rw [e]; exact hb
    · have hk : k < ss.length := by omega
      have := List.pairwise_iff_getElem.1 hs k i hk hi (by omega)
      have e2 : ss.getD k 0 = ss[k] := by simp [List.getD_eq_getElem?_getD, hk]
      rw [e2]; omega
end Go.Proofs.Ythgbmijgoaihcaa
