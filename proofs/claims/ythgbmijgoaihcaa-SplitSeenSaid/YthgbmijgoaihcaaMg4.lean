/-
  The reference's View.
-/
import Derived.Test.YthgbmijgoaihcaaMg3
import Derived.Test.YthgbmijgoaihcaaEnt2
namespace Go.Proofs.Ythgbmijgoaihcaa
open Go.RowKit
set_option linter.unusedVariables false

/-- Does the entry ahead hide it? -/
def newer (l : List Ent) (s i : Nat) : Bool := decide (0 < i) && ((l.getD (i - 1) default).user.toList == (l.getD i default).user.toList && decide ((l.getD (i - 1) default).seq ≤ s))
def viewRTo (l : List Ent) (s : Nat) : Nat → List Pr
  | 0 => []
  | i + 1 => viewRTo l s i ++ (if (l.getD i default).seq ≤ s ∧ newer l s i = false then pairOf (l.getD i default) else [])
def viewR (l : List Ent) (s : Nat) : List Pr := if rises l then viewRTo l s l.length else []
theorem less_trans : ∀ (a b c : List UInt8), Op.bytesLess a b = true → Op.bytesLess b c = true → Op.bytesLess a c = true
  | _, [], c, h1, _ => by cases ‹List UInt8› <;> simp [Op.bytesLess] at h1
  | _, _ :: _, [], _, h2 => by simp [Op.bytesLess] at h2
  | [], _ :: _, _ :: _, _, _ => by simp [Op.bytesLess]
  | x :: a, y :: b, z :: c, h1, h2 => by
    simp only [Op.bytesLess, Bool.or_eq_true, Bool.and_eq_true, decide_eq_true_eq, beq_iff_eq] at h1 h2 ⊢
    rcases h1 with h1 | ⟨rfl, h1⟩
    · rcases h2 with h2 | ⟨rfl, h2⟩
      · exact Or.inl (UInt8.lt_trans h1 h2)
      · exact Or.inl h1
    · rcases h2 with h2 | ⟨rfl, h2⟩
      · exact Or.inl h2
      · exact Or.inr ⟨rfl, less_trans a b c h1 h2⟩
theorem ahead_parts (x y : Ent) (h1 : ahead x y = true) : lt x.user y.user = true ∨ (x.user.toList = y.user.toList ∧ y.seq < x.seq) := by
  unfold ahead at h1
  simp only [Bool.or_eq_true, Bool.and_eq_true, decide_eq_true_eq, beq_iff_eq] at h1
  exact h1
theorem rises_far (l : List Ent) (h : rises l = true) (d : Nat) : ∀ n, d + n < l.length → lt (l.getD d default).user (l.getD (d + n) default).user = true ∨ ((l.getD d default).user.toList = (l.getD (d + n) default).user.toList ∧ (l.getD (d + n) default).seq ≤ (l.getD d default).seq)
  | 0, hn => Or.inr ⟨rfl, Nat.le_refl _⟩
  | n + 1, hn => by
    have ih := rises_far l h d n (by omega)
    have ht := rises_take l (d + n) (by omega)
    rw [rises_take_true l _ h] at ht
    have ha : ahead (l.getD (d + n) default) (l.getD (d + n + 1) default) = true := by
      have h1 : d + n < l.length := by omega
      have h2 : d + n + 1 < l.length := by omega
      rw [show l.getD (d + n) default = l[d + n] by simp [List.getD_eq_getElem?_getD, h1], show l.getD (d + n + 1) default = l[d + n + 1] by simp [List.getD_eq_getElem?_getD, h2]]
      cases hh : ahead l[d + n] l[d + n + 1] with
      | true => rfl
      | false => rw [hh] at ht; simp at ht
    rw [← Nat.add_assoc]
    generalize l.getD (d + n + 1) default = z at *
    generalize l.getD (d + n) default = y at *
    generalize l.getD d default = x at *
    rcases ahead_parts _ _ ha with h1 | ⟨h1, h2⟩ <;> rcases ih with h3 | ⟨h3, h4⟩
    · exact Or.inl (less_trans _ _ _ h3 h1)
    · left; unfold lt at *; rw [h3]; exact h1
    · left; unfold lt at *; rw [← h1]; exact h3
    · exact Or.inr ⟨h3.trans h1, by omega⟩
theorem newer_done (l : List Ent) (s k : Nat) (d : Int) (h : rises l = true) (hk : k < l.length) (hd0 : d < 0 → ∀ j, j < k → s < (l.getD j default).seq)
    (hd1 : ∀ m : Nat, d = m → m < k ∧ (l.getD m default).seq ≤ s ∧ ∀ j, m < j → j < k → s < (l.getD j default).seq ∨ (l.getD j default).user.toList = (l.getD m default).user.toList) (hr : -1 ≤ d) :
    doneIs l d (l.getD k default) = newer l s k := by
  by_cases hneg : d < 0
  · have h0 := hd0 hneg
    have e1 : doneIs l d (l.getD k default) = false := by simp [doneIs, show ¬ 0 ≤ d by omega]
    rw [e1]
    unfold newer
    by_cases hk0 : 0 < k
    · have := h0 (k - 1) (by omega)
      have e2 : decide ((l.getD (k - 1) default).seq ≤ s) = false := decide_eq_false (by omega)
      rw [e2, Bool.and_false, Bool.and_false]
    · simp [hk0]
  · obtain ⟨m, rfl⟩ := Int.eq_ofNat_of_zero_le (show 0 ≤ d by omega)
    obtain ⟨h1, h2, h3⟩ := hd1 m rfl
    have hk0 : 0 < k := by omega
    unfold doneIs newer
    simp only [Int.toNat_natCast, hk0, decide_true, Bool.true_and, show decide ((0 : Int) ≤ (m : Int)) = true by simp]
    have f1 := rises_far l h m (k - 1 - m) (by omega)
    rw [show m + (k - 1 - m) = k - 1 by omega] at f1
    have f2 := rises_far l h (k - 1) 1 (by omega)
    rw [show k - 1 + 1 = k by omega] at f2
    have f3 : m = k - 1 ∨ (s < (l.getD (k - 1) default).seq ∨ (l.getD (k - 1) default).user.toList = (l.getD m default).user.toList) := by
      by_cases hm : m = k - 1
      · exact Or.inl hm
      · exact Or.inr (h3 (k - 1) (by omega) (by omega))
    have f3' : s < (l.getD (k - 1) default).seq ∨ (l.getD (k - 1) default).user.toList = (l.getD m default).user.toList := by
      rcases f3 with f3 | f3
      · right; rw [← f3]
      · exact f3
    clear f3 h3
    generalize l.getD k default = z at *
    generalize l.getD (k - 1) default = y at *
    generalize l.getD m default = x at *
    by_cases q : x.user.toList = z.user.toList
    · have hxy : ¬ lt x.user y.user = true := by
        intro hh
        unfold lt at *
        rcases f2 with g | ⟨g, _⟩
        · have := less_trans _ _ _ hh g
          rw [q, less_irrefl] at this; cases this
        · rw [← g] at q
          rw [q, less_irrefl] at hh; cases hh
      rcases f1 with g | ⟨g, g'⟩
      · exact absurd g hxy
      · have : y.seq ≤ s := by omega
        rw [← g, q]; simp [this]
    · have e1 : (x.user.toList == z.user.toList) = false := by simp [q]
      rw [e1]
      rcases f3' with g | g
      · rw [show decide (y.seq ≤ s) = false from decide_eq_false (by omega), Bool.and_false]
      · rw [g]; simp [q]
theorem view_inv (l : List Ent) (s : Nat) (h : rises l = true) : ∀ k, k ≤ l.length → (viewTo l s k).2 = viewRTo l s k ∧ ((viewTo l s k).1 < 0 → ∀ j, j < k → s < (l.getD j default).seq) ∧
    (∀ m : Nat, (viewTo l s k).1 = m → m < k ∧ (l.getD m default).seq ≤ s ∧ ∀ j, m < j → j < k → s < (l.getD j default).seq ∨ (l.getD j default).user.toList = (l.getD m default).user.toList)
  | 0, _ => ⟨rfl, fun _ j hj => absurd hj (by omega), fun m hm => by simp [viewTo] at hm⟩
  | k + 1, hk => by
    obtain ⟨i1, i2, i3⟩ := view_inv l s h k (by omega)
    have hn := newer_done l s k (viewTo l s k).1 h (by omega) i2 i3 (viewTo_rng l s k).1
    unfold viewTo viewStep viewRTo
    dsimp only
    rw [hn]
    by_cases q : s < (l.getD k default).seq
    · rw [if_pos (Or.inl q), if_neg (by omega), List.append_nil]
      refine ⟨i1, fun hd j hj => ?_, fun m hm => ?_⟩
      · by_cases e : j = k
        · rw [e]; exact q
        · exact i2 hd j (by omega)
      · obtain ⟨a1, a2, a3⟩ := i3 m hm
        refine ⟨by omega, a2, fun j h1 h2 => ?_⟩
        by_cases e : j = k
        · rw [e]; exact Or.inl q
        · exact a3 j h1 (by omega)
    · by_cases q2 : newer l s k = true
      · rw [if_pos (Or.inr q2), if_neg (by simp [q2]), List.append_nil]
        rw [q2] at hn
        refine ⟨i1, fun hd j hj => ?_, fun m hm => ?_⟩
        · simp [doneIs] at hn; omega
        · obtain ⟨a1, a2, a3⟩ := i3 m hm
          refine ⟨by omega, a2, fun j h1 h2 => ?_⟩
          by_cases e : j = k
          · right
            unfold doneIs at hn
            rw [hm] at hn
            simp only [Bool.and_eq_true, beq_iff_eq, Int.toNat_natCast] at hn
            rw [e]; exact hn.2.symm
          · exact a3 j h1 (by omega)
      · have q3 : newer l s k = false := by simpa using q2
        rw [if_neg (by rw [q3]; exact fun hh => hh.elim q (by intro h'; cases h')), if_pos ⟨by omega, q3⟩]
        refine ⟨by rw [i1], fun hd => absurd hd (by show ¬ (k : Int) < 0; omega), fun m hm => ?_⟩
        have : k = m := by have : (k : Int) = (m : Int) := hm; omega
        subst this
        exact ⟨by omega, by omega, fun j h1 h2 => absurd h1 (by omega)⟩
theorem viewF_viewR (l : List Ent) (s : Nat) : viewF l s = viewR l s := by
  unfold viewF viewR
  cases h : rises l with
  | false => rfl
  | true => simpa using (view_inv l s h l.length (Nat.le_refl _)).1
end Go.Proofs.Ythgbmijgoaihcaa
