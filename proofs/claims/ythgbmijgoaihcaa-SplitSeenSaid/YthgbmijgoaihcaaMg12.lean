/-
  Small laws for Keep: a list of one's own cut short, a literal, an append of nothing; what a boxed list and a sorted list keep.
-/
import Derived.Test.YthgbmijgoaihcaaMg11
import Derived.Test.YthgbmijgoaihcaaOwn
import Derived.OneCell
import Derived.Laws.OwnMore
namespace Go.Proofs.Ythgbmijgoaihcaa
open Go.RowKit
set_option linter.unusedVariables false

theorem OwnE.lit (w : World) (e : Ent) (B : Nat) (hB : B ≤ w.heap.size) (he : e.ok) : OwnE 33 (w.alloc (.cells (entCells e).toArray 33)) B (.slice (some ⟨w.heap.size, 0, none⟩) 1 1) [e] := by
  refine ⟨?_, by intro x hx; simp at hx; subst hx; exact he⟩
  have := World.ownsRow_lit (base := B) (e := 33) (size := 4) w (entCells e).toArray 1 hB (by unfold maxLen; omega) (by simp [entCells])
  simpa [entsCells] using this
theorem entsCells_take (l : List Ent) : ∀ k, (entsCells l).take (k * 4) = entsCells (l.take k) := by
  induction l with
  | nil => intro k; simp [entsCells]
  | cons e t ih =>
    intro k
    cases k with
    | zero => simp [entsCells]
    | succ k =>
      have h1 : entsCells (e :: t) = entCells e ++ entsCells t := rfl
      have h2 : entsCells ((e :: t).take (k + 1)) = entCells e ++ entsCells (t.take k) := rfl
      rw [h1, h2, ← ih k, show (k + 1) * 4 = (entCells e).length + k * 4 by simp [entCells]; omega, List.take_length_add_append]
theorem OwnE.cut {E : TypeId} {w : World} {K : Nat} {x : Option Addr} {n cap : Nat} {l : List Ent} (h : OwnE E w K (.slice x n cap) l) (hx : x ≠ none) (k : Nat) (hk : k ≤ l.length) : OwnE E w K (.slice x k cap) (l.take k) := by
  obtain ⟨⟨h1, h2⟩, h3⟩ := h
  have hl : (l.take k).length = k := by simp; omega
  refine ⟨⟨by rw [entsCells_length], ?_⟩, fun e he => h3 e (List.mem_of_mem_take he)⟩
  rcases h2 with ⟨h2, _⟩ | ⟨g, c, cur, hv, hg, hh, a1, a2, a3, a4⟩
  · cases h2; exact absurd rfl hx
  · cases hv
    refine Or.inr ⟨g, cap, cur, by rw [hl], hg, hh, by omega, a2, a3, ?_⟩
    rw [hl, ← entsCells_take l k, ← a4, List.take_take, Nat.min_eq_left (by omega)]
theorem run_append_zero {P : Program} {w : World} (base : Nat) (t ty e : TypeId) (i : TypeInfo) (size : Nat) (ht : P.underlying t = some (.slice e)) (hi : P.info? e = some i)
    (v : Value) (n : Nat) (xs : List Value) (hown : w.ownsRow base e size v n xs) (y : Option Addr) (c : Nat) :
    (Builtin.append_ #[t, t] ty #[v, .slice y 0 c]).run P w = .ok v w := by
  rcases hown.2 with ⟨rfl, rfl⟩ | ⟨g, cap, cur, rfl, _, _, hnc, _⟩
  · cases y <;> simp [Builtin.append_, run_underlying ht, sizeOf, typeInfo, hi, Builtin.lenOf, Builtin.firstCells, loadCells, loadCellsFrom]
  · cases y <;> simp [Builtin.append_, run_underlying ht, sizeOf, typeInfo, hi, Builtin.lenOf, Builtin.firstCells, hnc, storeCells, loadCells, loadCellsFrom]
theorem app_none {P : Program} {w : World} {ops : Array Oper} {rest : List Oper} {o : Oper} {a : Act} {Q : Exit → Act → World → Prop} (hgd : o.guard = none) (s x : Operand) (t : TypeId)
    (ho : o.op = .call { callee := .builtin .append, args := #[s, x], argTypes := #[t, t] })
    (base : Nat) (e : TypeId) (i : TypeInfo) (size : Nat) (ht : P.underlying t = some (.slice e)) (hi : P.info? e = some i)
    (v : Value) (n : Nat) (xs : List Value) (hs : a.eval s = v) (hown : w.ownsRow base e size v n xs) {y : Option Addr} {c : Nat} (hx : a.eval x = .slice y 0 c)
    (h : wpList P ops Q rest (a.put o.dst v) w) : wpList P ops Q (o :: rest) a w := by
  refine wpList_plain hgd fun K hK => ?_
  have hrun := run_append_zero (P := P) (w := w) base t o.type e i size ht hi v n xs hown y c
  unfold Oper.wp
  simp [execOp, ho, resolve, invoke, builtin, hs, hx, hrun, Result.andThen]
  exact hK _ _ h

section laws
variable {P : Program} {ops : Array Oper} {rest : List Oper} {o : Oper} {a : Act} {Q : Exit → Act → World → Prop}
/-- 'append(out, e)', as long as memory allows. -/
theorem app_ent2 (w : World) (hgd : o.guard = none) (s x : Operand) (t : TypeId) (ho : o.op = .call { callee := .builtin .append, args := #[s, x], argTypes := #[t, t] })
    {E : TypeId} (ht : P.underlying t = some (.slice E)) {z : Value} (hi : (P.info? E).map (fun i => (i.zero, i.size, i.bytes)) = some (some z, 4, 48)) (hzc : z.cells.size = 4)
    {K : Nat} {v : Value} {l : List Ent} (hs : a.eval s = v) (hown : OwnE E w K v l) {B : Nat} {e : Ent} {fr : Nat × Nat} (hx : a.eval x = .slice (some ⟨B, 0, none⟩) 1 1) (hB : w.heap[B]? = some (.cells (entCells e).toArray E fr)) (he : e.ok)
    (hl : l.length + 1 ≤ 2932031007402) (hK : K ≤ w.heap.size)
    (h : ∀ v' w', OwnE E w' K v' (l ++ [e]) → Below K w w' → wpList P ops Q rest (a.put o.dst v') w') : wpList P ops Q (o :: rest) a w := by
  obtain ⟨i0, hi0, hz0, hz1, hz2⟩ := info_parts hi
  refine wpList_append_lies w hgd s x t ho K E i0 z 4 48 ht hi0 hz0 hz1 hz2 hzc (by decide) v l.length (entsCells l) hs hown.1 ⟨B, 0, none⟩ 1 1 (entsCells [e]) hx (by rw [entsCells_length]; rfl)
    (by have := World.news_of_block hB; simpa [entsCells] using this) (entsCells_one _) (by omega) (by unfold maxLen; omega) (by omega) hK _ rfl ?_
  intro g cap w' h1 h2 h3 h4
  refine h _ _ ⟨?_, ?_⟩ ?_
  · rw [← entsCells_append] at h1
    simpa using h1
  · intro e' he'
    rcases List.mem_append.1 he' with h' | h'
    · exact hown.2 e' h'
    · simp at h'; subst h'; exact he
  · exact (Below.refl K w).grown h2 hK (fun k hk => (hown.1.lt k hk).1)
/-- 'append(out, m...)', m of any length. -/
theorem app_ents3 (w : World) (hgd : o.guard = none) (s x : Operand) (t : TypeId) (ho : o.op = .call { callee := .builtin .append, args := #[s, x], argTypes := #[t, t] })
    {E : TypeId} (ht : P.underlying t = some (.slice E)) {z : Value} (hi : (P.info? E).map (fun i => (i.zero, i.size, i.bytes)) = some (some z, 4, 48)) (hzc : z.cells.size = 4)
    {K : Nat} {v : Value} {l : List Ent} (hs : a.eval s = v) (hown : OwnE E w K v l) {y : Option Addr} {m : List Ent} {n c : Nat} (hn : m.length = n) (hx : a.eval x = .slice y n c) (hm : Ents w y m)
    (hl : l.length + m.length ≤ 2932031007402) (hK : K ≤ w.heap.size)
    (h : ∀ v' w', OwnE E w' K v' (l ++ m) → Below K w w' → wpList P ops Q rest (a.put o.dst v') w') : wpList P ops Q (o :: rest) a w := by
  obtain ⟨i0, hi0, hz0, hz1, hz2⟩ := info_parts hi
  subst hn
  by_cases hne : m = []
  · subst hne
    refine app_none hgd s x t ho K E i0 4 ht hi0 v l.length _ hs hown.1 hx ?_
    refine h v w (by rw [List.append_nil]; exact hown) (Below.refl _ _)
  have hpos : 0 < m.length := List.length_pos_iff.2 hne
  obtain ⟨b, off, rfl, _⟩ := hm 0 hpos
  refine wpList_append_lies w hgd s x t ho K E i0 z 4 48 ht hi0 hz0 hz1 hz2 hzc (by decide) v l.length (entsCells l) hs hown.1 ⟨b, off, none⟩ m.length c (entsCells m) hx (by rw [entsCells_length])
    hm.news (entsCells_one _) hpos (by unfold maxLen; omega) (by omega) hK _ rfl ?_
  intro g cap w' h1 h2 h3 h4
  refine h _ _ ⟨?_, ?_⟩ ?_
  · rw [← entsCells_append] at h1
    simpa using h1
  · intro e' he'
    rcases List.mem_append.1 he' with h' | h'
    · exact hown.2 e' h'
    · exact hm.ok e' h'
  · exact (Below.refl K w).grown h2 hK (fun k hk => (hown.1.lt k hk).1)
end laws
theorem ownU_read {w : World} {base : Nat} {v : Value} {l : List Nat} {n : Nat} (hn : n = l.length) (h : w.ownsRow base 31 1 v n (u64Cells l)) : ∃ x cap, v = .slice x n cap ∧ U64s w x l ∧ ∀ y, x = some y → base ≤ y.block ∧ y.block < w.heap.size := by
  subst hn
  have h' := h
  obtain ⟨h1, h2⟩ := h'
  rcases h2 with ⟨rfl, h2⟩ | ⟨g, cap, cur, rfl, hg, hh, h3, h4, h5, h6⟩
  · have : l = [] := List.eq_nil_of_length_eq_zero h2
    subst this
    exact ⟨none, 0, rfl, u64s_nil _ _, fun y hy => by cases hy⟩
  · refine ⟨some ⟨g, 0, none⟩, cap, rfl, fun i hi => ⟨g, 0, rfl, ?_⟩, fun y hy => by cases hy; exact ⟨hg, heap_lt hh⟩⟩
    rw [Nat.zero_add, World.ownsRow.cellAt h i (by omega)]
    simp [u64Cells, hi]

/-- What Keep's loop keeps: the boxed rest of the list, the sorted moments. -/
structure KS (w0 : World) (K N : Nat) (x : Option Addr) (n c : Nat) (sx : Option Addr) (ss : List Nat) (w : World) : Prop where
  box : w.heap[K]? = some (.cells #[.slice x n c] 22 (0, 0))
  srt : U64s w sx ss
  blk : ∀ y, sx = some y → y.block < N ∧ y.block ≠ K
  bel : Below K w0 w
  lt : K < N
  le : N ≤ w.heap.size
  k0 : K = w0.heap.size
theorem U64s.blocks {w w' : World} {a : Option Addr} {l : List Nat} (h : U64s w a l) (hb : ∀ y, a = some y → w'.heap[y.block]? = w.heap[y.block]?) : U64s w' a l := by
  intro i hi
  obtain ⟨b, off, e, hc⟩ := h i hi
  exact ⟨b, off, e, (World.cell?_of_block (w := w) (w' := w') (a := ⟨b, off + i, none⟩) (hb ⟨b, off, none⟩ e)).trans hc⟩
theorem KS.step {w0 w w' : World} {K N n c : Nat} {x sx : Option Addr} {ss : List Nat} (h : KS w0 K N x n c sx ss w) (hb : Below N w w') : KS w0 K N x n c sx ss w' :=
  ⟨by rw [hb.block K h.lt]; exact h.box, h.srt.blocks fun y hy => hb.block _ (h.blk y hy).1, h.blk, h.bel.trans (hb.mono (Nat.le_of_lt h.lt)), h.lt, Nat.le_trans h.le hb.size, h.k0⟩
theorem KS.later {w0 w w' : World} {K N n c : Nat} {x sx : Option Addr} {ss : List Nat} (h : KS w0 K N x n c sx ss w) (hb : Below w.heap.size w w') : KS w0 K N x n c sx ss w' := h.step (hb.mono h.le)
theorem KS.store {w0 w : World} {K N n c : Nat} {x sx : Option Addr} {ss : List Nat} (h : KS w0 K N x n c sx ss w) (y : Option Addr) (n' c' : Nat) : KS w0 K N y n' c' sx ss (w.setCell ⟨K, 0, none⟩ (.slice y n' c')) :=
  ⟨one_setCell h.box, h.srt.blocks fun z hz => Below.heap_setCell _ _ _ _ (h.blk z hz).2, h.blk, h.bel.setCell (Nat.le_refl _) _, h.lt, by simpa using h.le, h.k0⟩
theorem KS.cell {w0 w : World} {K N n c : Nat} {x sx : Option Addr} {ss : List Nat} (h : KS w0 K N x n c sx ss w) : w.cell? ⟨K, 0, none⟩ = some (.slice x n c) := cell_of_one h.box
theorem KS.free {w0 w : World} {K N n c : Nat} {x sx : Option Addr} {ss : List Nat} (h : KS w0 K N x n c sx ss w) : w.frozen? ⟨K, 0, none⟩ = false := free_of_one h.box
theorem KS.ents {w0 w : World} {K N n c : Nat} {x sx : Option Addr} {ss : List Nat} (h : KS w0 K N x n c sx ss w) {y : Option Addr} {l : List Ent} (hE : Ents w0 y l) : Ents w y l := hE.below (by rw [← h.k0]; exact h.bel)
end Go.Proofs.Ythgbmijgoaihcaa
