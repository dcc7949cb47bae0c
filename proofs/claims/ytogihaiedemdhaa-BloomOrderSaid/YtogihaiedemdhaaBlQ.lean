/-
  BloomOrder, plainly: lists of the same keys. The call's own lists of texts.
-/
import Derived.Test.YtogihaiedemdhaaBlP
import Derived.Test.YtogihaiedemdhaaBl3
namespace Go.Proofs.Ytogihaiedemdhaa
open Go.RowKit
set_option linter.unusedVariables false

def backTo (X : List ByteArray) (k : Nat) : List ByteArray := (List.range k).map fun i => X.getD (X.length - 1 - i) ⟨#[]⟩
def twiceTo (X : List ByteArray) (k : Nat) : List ByteArray := (List.range k).map fun i => X.getD (i / 2) ⟨#[]⟩
theorem backTo_succ (X : List ByteArray) (k : Nat) (h : k < X.length) : backTo X (k + 1) = backTo X k ++ [X[X.length - 1 - k]'(by omega)] := by
  unfold backTo
  rw [List.range_succ, List.map_append]
  simp [List.getD_eq_getElem?_getD, List.getElem?_eq_getElem (show X.length - 1 - k < X.length by omega)]
theorem twiceTo_succ (X : List ByteArray) (k : Nat) (h : k < X.length) : twiceTo X (k + 1) = twiceTo X k ++ [X[k / 2]'(by omega)] := by
  unfold twiceTo
  rw [List.range_succ, List.map_append]
  simp [List.getD_eq_getElem?_getD, List.getElem?_eq_getElem (show k / 2 < X.length by omega)]
theorem backTo_length (X : List ByteArray) (k : Nat) : (backTo X k).length = k := by simp [backTo]
theorem twiceTo_length (X : List ByteArray) (k : Nat) : (twiceTo X k).length = k := by simp [twiceTo]
theorem getD_lt (X : List ByteArray) (i : Nat) (h : i < X.length) : X.getD i ⟨#[]⟩ = X[i] := by simp [List.getD_eq_getElem?_getD, h]
theorem backTo_mem (X : List ByteArray) (s : ByteArray) : s ∈ backTo X X.length ↔ s ∈ X := by
  unfold backTo
  simp only [List.mem_map, List.mem_range]
  constructor
  · rintro ⟨i, hi, rfl⟩
    rw [getD_lt _ _ (by omega)]
    exact List.getElem_mem _
  · intro h
    obtain ⟨i, hi, rfl⟩ := List.getElem_of_mem h
    refine ⟨X.length - 1 - i, by omega, ?_⟩
    rw [getD_lt _ _ (by omega)]
    congr 1
    omega
def halfTo (X : List ByteArray) (j : Nat) : List ByteArray := X.take ((X.length + 1) / 2) ++ List.replicate j (X.getD 0 ⟨#[]⟩)
theorem halfTo_length (X : List ByteArray) (j : Nat) : (halfTo X j).length = (X.length + 1) / 2 + j := by simp [halfTo]; omega
theorem halfTo_succ (X : List ByteArray) (j : Nat) : halfTo X (j + 1) = halfTo X j ++ [X.getD 0 ⟨#[]⟩] := by
  unfold halfTo
  rw [List.replicate_succ', ← List.append_assoc]
theorem twice_half (X : List ByteArray) (s : ByteArray) : s ∈ twiceTo X X.length ↔ s ∈ halfTo X (X.length - (X.length + 1) / 2) := by
  unfold twiceTo halfTo
  simp only [List.mem_map, List.mem_range, List.mem_append, List.mem_replicate]
  constructor
  · rintro ⟨i, hi, rfl⟩
    left
    rw [getD_lt _ _ (by omega)]
    have : i / 2 < (X.take ((X.length + 1) / 2)).length := by simp; omega
    have h2 := List.getElem_mem this
    simpa using h2
  · rintro (h | ⟨h1, rfl⟩)
    · obtain ⟨i, hi, rfl⟩ := List.getElem_of_mem h
      have hi' : i < (X.length + 1) / 2 ∧ i < X.length := by simp at hi; omega
      refine ⟨2 * i, by omega, ?_⟩
      rw [show 2 * i / 2 = i by omega, getD_lt _ _ (by omega)]
      simp
    · exact ⟨0, by omega, rfl⟩
theorem mkf_back (X : List ByteArray) (b : Int) : mkf (backTo X X.length) b = mkf X b := mkf_same _ _ b (backTo_length _ _) (backTo_mem X)
theorem mkf_half (X : List ByteArray) (b : Int) : mkf (halfTo X (X.length - (X.length + 1) / 2)) b = mkf (twiceTo X X.length) b :=
  mkf_same _ _ b (by rw [halfTo_length, twiceTo_length]; omega) (fun s => (twice_half X s).symm)

/-! Memory. -/
def cellsS (l : List ByteArray) : List Value := l.map Value.string
theorem cellsS_one (l : List ByteArray) : ∀ u ∈ cellsS l, u.oneCell' = true := by
  intro u hu
  simp only [cellsS, List.mem_map] at hu
  obtain ⟨c, _, rfl⟩ := hu
  rfl
theorem cellsS_length (l : List ByteArray) : (cellsS l).length = l.length := by simp [cellsS]
theorem strs_owns {w : World} {base E : Nat} {v : Value} {l : List ByteArray} (h : w.ownsRow base E 1 v l.length (cellsS l)) (hm : ∀ s ∈ l, s.size ≤ maxLen) :
    ∃ x cap, v = .slice x l.length cap ∧ l.length ≤ cap ∧ cap ≤ maxLen ∧ Strs w x l := by
  have h' := h
  obtain ⟨h1, h2⟩ := h'
  rcases h2 with ⟨rfl, h2⟩ | ⟨g, cap, cur, rfl, hg, hh, h3, h4, h5, h6⟩
  · have : l = [] := List.eq_nil_of_length_eq_zero h2
    subst this
    exact ⟨none, 0, rfl, Nat.le_refl _, by unfold maxLen; omega, fun i hi => absurd hi (by simp)⟩
  · refine ⟨some ⟨g, 0, none⟩, cap, rfl, h3, h4, fun i hi => ⟨g, 0, rfl, ?_, hm _ (List.getElem_mem hi)⟩⟩
    rw [Nat.zero_add, World.ownsRow.cellAt h i (by omega)]
    simp [cellsS, hi]
theorem Strs.alloc {w : World} {a : Option Addr} {l : List ByteArray} (h : Strs w a l) (o : Obj) : Strs (w.alloc o) a l := h.below ((Below.refl _ _).alloc (Nat.le_refl _) _)
theorem Strs.news {w : World} {b off : Nat} {l : List ByteArray} (h : Strs w (some ⟨b, off, none⟩) l) : ∀ j u, (cellsS l)[j]? = some u → w.cell? ⟨b, off + j, none⟩ = some u := by
  intro j u hu
  have hj : j < l.length := by
    rcases Nat.lt_or_ge j l.length with h' | h'
    · exact h'
    · rw [List.getElem?_eq_none (by rw [cellsS_length]; exact h')] at hu; cases hu
  obtain ⟨b', off', e, hc, _⟩ := h j hj
  simp only [Option.some.injEq, Addr.mk.injEq, and_true] at e
  obtain ⟨rfl, rfl⟩ := e
  rw [hc]
  simpa [cellsS, hj] using hu

section laws
variable {P : Program} {ops : Array Oper} {rest : List Oper} {o : Oper} {a : Act} {Q : Exit → Act → World → Prop}

/-- 'append(out, u)', u of one cell, in a new block; where the row lies. -/
theorem app_cell2 (w : World) (hgd : o.guard = none) (s x : Operand) (t : TypeId) (ho : o.op = .call { callee := .builtin .append, args := #[s, x], argTypes := #[t, t] })
    {E : TypeId} (ht : P.underlying t = some (.slice E)) {z : Value} {by' : Nat} (hi : (P.info? E).map (fun i => (i.zero, i.size, i.bytes)) = some (some z, 1, by')) (hzc : z.cells.size = 1) (hby : by' ≤ 24)
    {K n : Nat} {v : Value} {xs : List Value} (hs : a.eval s = v) (hown : w.ownsRow K E 1 v n xs) {B : Nat} {u : Value} {fr : Nat × Nat} (hx : a.eval x = .slice (some ⟨B, 0, none⟩) 1 1) (hB : w.heap[B]? = some (.cells #[u] E fr)) (hu : u.oneCell' = true)
    (hl : n ≤ 1000000000000) (hK : K ≤ w.heap.size)
    (h : ∀ v' w', w'.ownsRow K E 1 v' (n + 1) (xs ++ [u]) → w.grownBy w' v.ownBlock → (v'.ownBlock = v.ownBlock ∨ v'.ownBlock = some w.heap.size) → wpList P ops Q rest (a.put o.dst v') w') : wpList P ops Q (o :: rest) a w := by
  obtain ⟨i0, hi0, hz0, hz1, hz2⟩ := info_parts hi
  have hbytes : (n + 1) * by' ≤ 140737488355328 := Nat.le_trans (Nat.mul_le_mul_left (n + 1) hby) (by omega)
  refine wpList_append_lies w hgd s x t ho K E i0 z 1 by' ht hi0 hz0 hz1 hz2 hzc (by decide) v n xs hs hown ⟨B, 0, none⟩ 1 1 [u] hx rfl
    (by have := World.news_of_block hB; simpa using this) (by intro u' hu'; simp at hu'; rw [hu']; exact hu) (by omega) (by unfold maxLen; omega) hbytes hK _ rfl ?_
  intro g cap w' h1 h2 h3 h4
  refine h _ _ h1 h2 ?_
  rcases h3 with h3 | h3
  · exact Or.inl h3.symm
  · exact Or.inr (by rw [← h3]; rfl)
end laws
/-- Two rows that share no block. -/
def Apart (v u : Value) : Prop := ∀ g, v.ownBlock = some g → u.ownBlock ≠ some g
theorem Apart.symm {v u : Value} (h : Apart v u) : Apart u v := fun g h1 h2 => h g h2 h1
/-- One of two rows has been appended to. -/
theorem pair_step {K E n m : Nat} {w w4 : World} {v u v' : Value} {xs ys : List Value} {o : Obj} (h1 : w.ownsRow K E 1 v n xs) (h2 : w.ownsRow K E 1 u m ys) (hap : Apart v u) (hK : K ≤ w.heap.size)
    (hg : (w.alloc o).grownBy w4 v.ownBlock) (hv : v'.ownBlock = v.ownBlock ∨ v'.ownBlock = some (w.alloc o).heap.size) : w4.ownsRow K E 1 u m ys ∧ Apart v' u ∧ Below K w w4 := by
  refine ⟨(h2.alloc o).kept hg ?_, fun g h3 h4 => ?_, ((Below.refl _ _).alloc hK o).grown hg (Nat.le_trans hK (by simp)) (fun k hk => (h1.lt k hk).1)⟩
  · cases hu : u.ownBlock with
    | none => exact Or.inl rfl
    | some g => exact Or.inr (fun e => hap g e.symm hu)
  · rcases hv with hv | hv
    · exact hap g (hv ▸ h3) h4
    · have h5 := (h2.lt g h4).2
      rw [hv] at h3
      have h6 : (w.alloc o).heap.size = g := Option.some.inj h3
      simp at h6
      omega
theorem cellsS_snoc (l : List ByteArray) (s : ByteArray) : cellsS (l ++ [s]) = cellsS l ++ [.string s] := by simp [cellsS]
end Go.Proofs.Ytogihaiedemdhaa
