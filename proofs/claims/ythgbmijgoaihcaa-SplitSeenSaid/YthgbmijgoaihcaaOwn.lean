/-
  Lists of entries that the call itself builds: append of one entry, of a list; lists of such lists. No function of the program is named here.
-/
import Derived.Test.YthgbmijgoaihcaaEnts
import Derived.Deep.AppendLies
import Derived.Laws.AppendOwnNone
namespace Go.Proofs.Ythgbmijgoaihcaa
open Go.RowKit
set_option linter.unusedVariables false

def entsCells (l : List Ent) : List Value := l.flatMap entCells
theorem entsCells_length (l : List Ent) : (entsCells l).length = l.length * 4 := by
  induction l with
  | nil => rfl
  | cons e l ih => simp [entsCells, entCells] at ih ⊢; omega
theorem entsCells_append (l m : List Ent) : entsCells (l ++ m) = entsCells l ++ entsCells m := by simp [entsCells]
theorem entsCells_one (l : List Ent) : ∀ u ∈ entsCells l, u.oneCell' = true := by
  intro u hu
  simp only [entsCells, List.mem_flatMap, entCells] at hu
  obtain ⟨e, _, he⟩ := hu
  simp at he
  rcases he with rfl | rfl | rfl | rfl <;> rfl
theorem entsCells_getElem? : ∀ (l : List Ent) (i j : Nat) (h : i < l.length) (hj : j < 4), (entsCells l)[i * 4 + j]? = (entCells l[i])[j]?
  | e :: l, 0, j, h, hj => by
    simp only [entsCells, List.flatMap_cons, Nat.zero_mul, Nat.zero_add, List.getElem_cons_zero]
    rw [List.getElem?_append_left (by simp [entCells]; omega)]
  | e :: l, i + 1, j, h, hj => by
    have ih := entsCells_getElem? l i j (by simpa using h) hj
    simp only [entsCells, List.flatMap_cons, List.getElem_cons_succ] at ih ⊢
    rw [List.getElem?_append_right (by simp [entCells]; omega)]
    rw [← ih]; congr 1; simp [entCells]; omega

/-- The cells of a reading, as a source of an append. -/
theorem Ents.news {w : World} {b off : Nat} {l : List Ent} (h : Ents w (some ⟨b, off, none⟩) l) : ∀ j u, (entsCells l)[j]? = some u → w.cell? ((⟨b, off, none⟩ : Addr).add j) = some u := by
  intro j u hu
  have hj : j < l.length * 4 := by
    rcases Nat.lt_or_ge j (l.length * 4) with h' | h'
    · exact h'
    · rw [List.getElem?_eq_none (by rw [entsCells_length]; exact h')] at hu; cases hu
  have hi : j / 4 < l.length := by omega
  have hm : j % 4 < 4 := Nat.mod_lt _ (by omega)
  have e : j / 4 * 4 + j % 4 = j := by omega
  have h1 := entsCells_getElem? l (j / 4) (j % 4) hi hm
  rw [e, hu] at h1
  obtain ⟨c0, c1, c2, c3⟩ := h.get (j / 4) hi
  rw [addr_add]
  have hr : j % 4 = 0 ∨ j % 4 = 1 ∨ j % 4 = 2 ∨ j % 4 = 3 := by omega
  rcases hr with r | r | r | r <;> rw [r] at h1 <;> simp [entCells] at h1 <;> subst h1
  · have : off + j = off + j / 4 * 4 := by omega
    rw [this]; exact c0
  · have : off + j = off + j / 4 * 4 + 1 := by omega
    rw [this]; exact c1
  · have : off + j = off + j / 4 * 4 + 2 := by omega
    rw [this]; exact c2
  · have : off + j = off + j / 4 * 4 + 3 := by omega
    rw [this]; exact c3

/-- The call's own list of entries, in a block from K on (or nil). -/
def OwnE (E : TypeId) (w : World) (K : Nat) (v : Value) (l : List Ent) : Prop := w.ownsRow K E 4 v l.length (entsCells l) ∧ ∀ e ∈ l, e.ok

theorem OwnE.nil (E : TypeId) (w : World) (K : Nat) : OwnE E w K (.slice none 0 0) [] := ⟨World.ownsRow_nil w K E 4, by simp⟩

theorem OwnE.read {E : TypeId} {w : World} {K : Nat} {v : Value} {l : List Ent} (h : OwnE E w K v l) :
    ∃ x cap, v = .slice x l.length cap ∧ l.length ≤ cap ∧ cap ≤ maxLen ∧ Ents w x l ∧ (∀ g, v.ownBlock = some g → K ≤ g ∧ g < w.heap.size) ∧ (x = none → l = []) ∧ ∀ y, x = some y → v.ownBlock = some y.block := by
  have hlt := h.1.lt
  have h' := h.1
  obtain ⟨h1, h2⟩ := h'
  rcases h2 with ⟨rfl, h2⟩ | ⟨g, cap, cur, rfl, hg, hh, h3, h4, h5, h6⟩
  · have : l = [] := List.eq_nil_of_length_eq_zero h2
    subst this
    exact ⟨none, 0, rfl, Nat.le_refl _, by unfold maxLen; omega, ents_nil _ _, (fun g hg => by cases hg), (fun _ => rfl), (fun y hy => by cases hy)⟩
  · refine ⟨some ⟨g, 0, none⟩, cap, rfl, h3, h4, fun i hi => ⟨g, 0, rfl, ?_, h.2 _ (List.getElem_mem hi)⟩, fun g' hg' => hlt g' hg', (fun hx => by cases hx), fun y hy => by cases hy; rfl⟩
    have hc : ∀ j, j < 4 → w.cell? ⟨g, i * 4 + j, none⟩ = (entCells l[i])[j]? := by
      intro j hj
      rw [World.ownsRow.cellAt h.1 (i * 4 + j) (by omega), entsCells_getElem? l i j hi hj]
    rw [Nat.zero_add]
    exact ⟨hc 0 (by omega), hc 1 (by omega), hc 2 (by omega), hc 3 (by omega)⟩

theorem OwnE.below {E : TypeId} {w w' : World} {K K' : Nat} {v : Value} {l : List Ent} (h : OwnE E w K v l) (hb : Below K' w w') (hv : ∀ g, v.ownBlock = some g → g < K') : OwnE E w' K v l := by
  obtain ⟨⟨h1, h2⟩, h3⟩ := h
  refine ⟨⟨h1, ?_⟩, h3⟩
  rcases h2 with h2 | ⟨g, cap, cur, hv', hg, hh, r⟩
  · exact Or.inl h2
  · exact Or.inr ⟨g, cap, cur, hv', hg, by rw [hb.block g (hv g (by rw [hv']; rfl))]; exact hh, r⟩
theorem OwnE.later {E : TypeId} {w w' : World} {K : Nat} {v : Value} {l : List Ent} (h : OwnE E w K v l) (hb : Below w.heap.size w w') : OwnE E w' K v l :=
  h.below hb fun g hg => (h.1.lt g hg).2
theorem OwnE.mono {E : TypeId} {w : World} {K K' : Nat} {v : Value} {l : List Ent} (h : OwnE E w K v l) (hK : K' ≤ K) : OwnE E w K' v l := by
  obtain ⟨⟨h1, h2⟩, h3⟩ := h
  refine ⟨⟨h1, ?_⟩, h3⟩
  rcases h2 with h2 | ⟨g, cap, cur, hv', hg, r⟩
  · exact Or.inl h2
  · exact Or.inr ⟨g, cap, cur, hv', by omega, r⟩

section laws
variable {P : Program} {ops : Array Oper} {rest : List Oper} {o : Oper} {a : Act} {Q : Exit → Act → World → Prop}

/-- 'append(out, e)': e lies in a new block. -/
theorem app_ent (w : World) (hgd : o.guard = none) (s x : Operand) (t : TypeId) (ho : o.op = .call { callee := .builtin .append, args := #[s, x], argTypes := #[t, t] })
    {E : TypeId} (ht : P.underlying t = some (.slice E)) {z : Value} (hi : (P.info? E).map (fun i => (i.zero, i.size, i.bytes)) = some (some z, 4, 48)) (hzc : z.cells.size = 4)
    {K : Nat} {v : Value} {l : List Ent} (hs : a.eval s = v) (hown : OwnE E w K v l) {B : Nat} {e : Ent} {fr : Nat × Nat} (hx : a.eval x = .slice (some ⟨B, 0, none⟩) 1 1) (hB : w.heap[B]? = some (.cells (entCells e).toArray E fr)) (he : e.ok)
    (hl : l.length ≤ 1000000000000) (hK : K ≤ w.heap.size)
    (h : ∀ v' w', OwnE E w' K v' (l ++ [e]) → Below K w w' → v'.ownBlock ≠ none → wpList P ops Q rest (a.put o.dst v') w') : wpList P ops Q (o :: rest) a w := by
  obtain ⟨i0, hi0, hz0, hz1, hz2⟩ := info_parts hi
  refine wpList_append_lies w hgd s x t ho K E i0 z 4 48 ht hi0 hz0 hz1 hz2 hzc (by decide) v l.length (entsCells l) hs hown.1 ⟨B, 0, none⟩ 1 1 (entsCells [e]) hx (by rw [entsCells_length]; rfl)
    (by have := World.news_of_block hB; simpa [entsCells] using this) (entsCells_one _) (by omega) (by unfold maxLen; omega) (by omega) hK _ rfl ?_
  intro g cap w' h1 h2 h3 h4
  refine h _ _ ⟨?_, ?_⟩ ?_ (by intro hh; cases hh)
  · rw [← entsCells_append] at h1
    simpa using h1
  · intro e' he'
    rcases List.mem_append.1 he' with h' | h'
    · exact hown.2 e' h'
    · simp at h'; subst h'; exact he
  · exact (Below.refl K w).grown h2 hK (fun k hk => (hown.1.lt k hk).1)

/-- 'append(out, m...)'. -/
theorem app_ents (w : World) (hgd : o.guard = none) (s x : Operand) (t : TypeId) (ho : o.op = .call { callee := .builtin .append, args := #[s, x], argTypes := #[t, t] })
    {E : TypeId} (ht : P.underlying t = some (.slice E)) {z : Value} (hi : (P.info? E).map (fun i => (i.zero, i.size, i.bytes)) = some (some z, 4, 48)) (hzc : z.cells.size = 4)
    {K : Nat} {v : Value} {l : List Ent} (hs : a.eval s = v) (hown : OwnE E w K v l) {y : Option Addr} {m : List Ent} {c : Nat} (hx : a.eval x = .slice y m.length c) (hm : Ents w y m) (hy : ∀ z, y = some z → z.spot = none)
    (hl : l.length ≤ 1000000000000) (hl2 : m.length ≤ 1000000000000) (hK : K ≤ w.heap.size) (hne : m ≠ [])
    (h : ∀ v' w', OwnE E w' K v' (l ++ m) → Below K w w' → v'.ownBlock ≠ none → wpList P ops Q rest (a.put o.dst v') w') : wpList P ops Q (o :: rest) a w := by
  obtain ⟨i0, hi0, hz0, hz1, hz2⟩ := info_parts hi
  have hpos : 0 < m.length := List.length_pos_iff.2 hne
  obtain ⟨b, off, rfl, _⟩ := hm 0 hpos
  refine wpList_append_lies w hgd s x t ho K E i0 z 4 48 ht hi0 hz0 hz1 hz2 hzc (by decide) v l.length (entsCells l) hs hown.1 ⟨b, off, none⟩ m.length c (entsCells m) hx (by rw [entsCells_length])
    hm.news (entsCells_one _) hpos (by unfold maxLen; omega) (by omega) hK _ rfl ?_
  intro g cap w' h1 h2 h3 h4
  refine h _ _ ⟨?_, ?_⟩ ?_ (by intro hh; cases hh)
  · rw [← entsCells_append] at h1
    simpa using h1
  · intro e' he'
    rcases List.mem_append.1 he' with h' | h'
    · exact hown.2 e' h'
    · exact hm.ok e' h'
  · exact (Below.refl K w).grown h2 hK (fun k hk => (hown.1.lt k hk).1)
end laws

/-! Lists of lists. -/
/-- v is a slice of slices that the call itself has built; it reads as outs; all of it lies below block K, its own row from 'base' on. -/
def Outs (F : TypeId) (w : World) (base K : Nat) (v : Value) (outs : List (List Ent)) : Prop :=
  K ≤ w.heap.size ∧ (∀ g, v.ownBlock = some g → g < K) ∧ ∃ vals : List Value, w.ownsRow base F 1 v outs.length vals ∧
    ∀ i (h : i < outs.length), ∃ x cap, vals[i]? = some (.slice x outs[i].length cap) ∧ outs[i].length ≤ cap ∧ cap ≤ maxLen ∧ Ents w x outs[i] ∧ ∀ y, x = some y → y.block < K ∧ v.ownBlock ≠ some y.block

theorem Ents.belowB {B : Nat} {w w' : World} {x : Option Addr} {l : List Ent} (h : Ents w x l) (hl : ∀ y, x = some y → y.block < B) (hb : Below B w w') : Ents w' x l := by
  intro i hi
  obtain ⟨b, off, e, hc, ho⟩ := h i hi
  exact ⟨b, off, e, hc.belowB (hl _ e) hb, ho⟩

theorem Outs.nil (F : TypeId) (w : World) (base K : Nat) (hK : K ≤ w.heap.size) : Outs F w base K (.slice none 0 0) [] :=
  ⟨hK, (fun g h => by cases h), [], World.ownsRow_nil w base F 1, fun i h => absurd h (by simp)⟩

theorem Outs.below {F : TypeId} {w w' : World} {base K : Nat} {v : Value} {outs : List (List Ent)} (h : Outs F w base K v outs) (hb : Below K w w') : Outs F w' base K v outs := by
  obtain ⟨h0, h1, vals, ⟨h2, h3⟩, h4⟩ := h
  refine ⟨Nat.le_trans h0 hb.size, h1, vals, ⟨h2, ?_⟩, fun i hi => ?_⟩
  · rcases h3 with h3 | ⟨g, cap, cur, hv', hg, hh, r⟩
    · exact Or.inl h3
    · exact Or.inr ⟨g, cap, cur, hv', hg, by rw [hb.block g (h1 g (by rw [hv']; rfl))]; exact hh, r⟩
  · obtain ⟨x, cap, e1, e2, e3, e4, e5⟩ := h4 i hi
    exact ⟨x, cap, e1, e2, e3, e4.belowB (fun y hy => (e5 y hy).1) hb, e5⟩
theorem Outs.mono {F : TypeId} {w : World} {base K K' : Nat} {v : Value} {outs : List (List Ent)} (h : Outs F w base K v outs) (hK : K ≤ K') (hK' : K' ≤ w.heap.size) : Outs F w base K' v outs := by
  obtain ⟨h0, h1, vals, h2, h4⟩ := h
  refine ⟨hK', fun g hg => Nat.lt_of_lt_of_le (h1 g hg) hK, vals, h2, fun i hi => ?_⟩
  obtain ⟨x, cap, e1, e2, e3, e4, e5⟩ := h4 i hi
  exact ⟨x, cap, e1, e2, e3, e4, fun y hy => ⟨Nat.lt_of_lt_of_le (e5 y hy).1 hK, (e5 y hy).2⟩⟩

theorem Outs.read {F : TypeId} {w : World} {base K : Nat} {v : Value} {outs : List (List Ent)} (h : Outs F w base K v outs) :
    ∃ x cap, v = .slice x outs.length cap ∧ outs.length ≤ cap ∧ cap ≤ maxLen ∧ ∀ i (h : i < outs.length), ∃ b off y c, x = some ⟨b, off, none⟩ ∧ w.cell? ⟨b, off + i, none⟩ = some (.slice y outs[i].length c) ∧ outs[i].length ≤ c ∧ c ≤ maxLen ∧ Ents w y outs[i] := by
  obtain ⟨h0, h1, vals, h2, h4⟩ := h
  have h2' := h2
  obtain ⟨h2a, h3⟩ := h2'
  rcases h3 with ⟨rfl, h3⟩ | ⟨g, cap, cur, rfl, hg, hh, h5, h6, h7, h8⟩
  · exact ⟨none, 0, by rw [h3], by omega, by unfold maxLen; omega, fun i hi => by omega⟩
  · refine ⟨_, cap, rfl, h5, h6, fun i hi => ?_⟩
    obtain ⟨x, c, e1, e2, e3, e4, _⟩ := h4 i hi
    exact ⟨g, 0, x, c, rfl, by rw [Nat.zero_add, World.ownsRow.cellAt h2 i (by omega)]; exact e1, e2, e3, e4⟩

section laws2
variable {P : Program} {ops : Array Oper} {rest : List Oper} {o : Oper} {a : Act} {Q : Exit → Act → World → Prop}

/-- 'append(out, l)': the list l (its header in a new block) goes behind the others. -/
theorem app_list (w : World) (hgd : o.guard = none) (s x : Operand) (t : TypeId) (ho : o.op = .call { callee := .builtin .append, args := #[s, x], argTypes := #[t, t] })
    {F : TypeId} (ht : P.underlying t = some (.slice F)) {z : Value} (hi : (P.info? F).map (fun i => (i.zero, i.size, i.bytes)) = some (some z, 1, 24)) (hzc : z.cells.size = 1)
    {base K : Nat} {v : Value} {outs : List (List Ent)} (hs : a.eval s = v) (hout : Outs F w base K v outs) {B : Nat} {y : Option Addr} {l : List Ent} {c : Nat} {fr : Nat × Nat} (hx : a.eval x = .slice (some ⟨B, 0, none⟩) 1 1)
    (hB : w.heap[B]? = some (.cells #[.slice y l.length c] F fr)) (hlc : l.length ≤ c) (hcm : c ≤ maxLen) (hl : Ents w y l) (hy : ∀ u, y = some u → u.block < w.heap.size ∧ v.ownBlock ≠ some u.block)
    (hn : outs.length ≤ 1000000000000) (hbase : base ≤ K)
    (h : ∀ v' w' K', Outs F w' base K' v' (outs ++ [l]) → Below base w w' → K ≤ K' → K' = w'.heap.size → wpList P ops Q rest (a.put o.dst v') w') : wpList P ops Q (o :: rest) a w := by
  obtain ⟨i0, hi0, hz0, hz1, hz2⟩ := info_parts hi
  obtain ⟨h0, h1, vals, h2, h4⟩ := hout
  have hbs : base ≤ w.heap.size := Nat.le_trans hbase h0
  refine wpList_append_lies w hgd s x t ho base F i0 z 1 24 ht hi0 hz0 hz1 hz2 hzc (by decide) v outs.length vals hs h2 ⟨B, 0, none⟩ 1 1 [.slice y l.length c] hx rfl
    (by have := World.news_of_block hB; simpa using this) (by intro u hu; simp at hu; subst hu; rfl) (by omega) (by unfold maxLen; omega) (by omega) hbs _ rfl ?_
  intro g cap w' k1 k2 k3 k4
  have keep : ∀ (u : Option Addr) (m : List Ent), Ents w u m → (∀ z, u = some z → z.block < w.heap.size ∧ v.ownBlock ≠ some z.block) → Ents w' u m := by
    intro u m hm hu i hi
    obtain ⟨b, off, rfl, hc, ho⟩ := hm i hi
    obtain ⟨q1, q2⟩ := hu _ rfl
    refine ⟨b, off, rfl, ?_, ho⟩
    have hcell : ∀ j, w'.cell? ⟨b, j, none⟩ = w.cell? ⟨b, j, none⟩ := fun j => World.cell?_of_block (k2.block b q1 (fun e => q2 e.symm))
    obtain ⟨c0, c1, c2, c3⟩ := hc
    exact ⟨by rw [hcell]; exact c0, by rw [hcell]; exact c1, by rw [hcell]; exact c2, by rw [hcell]; exact c3⟩
  refine h _ w' w'.heap.size ⟨Nat.le_refl _, fun g' hg' => by cases hg'; exact k4, vals ++ [.slice y l.length c], by simpa using k1, fun i hi => ?_⟩ ((Below.refl base w).grown k2 hbs (fun k hk => (h2.lt k hk).1)) (Nat.le_trans h0 k2.size) rfl
  by_cases hlast : i < outs.length
  · obtain ⟨x', cap', e1, e2, e3, e4, e5⟩ := h4 i hlast
    have hv : vals.length = outs.length := by have := h2.1; omega
    refine ⟨x', cap', by rw [List.getElem?_append_left (by omega), e1]; simp [hlast], by simpa [hlast] using e2, e3, ?_, fun z hz => ?_⟩
    · have := keep x' _ e4 (fun z hz => ⟨Nat.lt_of_lt_of_le (e5 z hz).1 h0, (e5 z hz).2⟩)
      simpa [hlast] using this
    · obtain ⟨q1, q2⟩ := e5 z hz
      refine ⟨Nat.lt_of_lt_of_le (Nat.lt_of_lt_of_le q1 h0) k2.size, ?_⟩
      intro hh
      cases hh
      rcases k3 with k3 | k3
      · exact q2 k3
      · have k5 : z.block = w.heap.size := k3
        omega
  · have hi' : i = outs.length := by simp at hi; omega
    subst hi'
    have hv : vals.length = outs.length := by have := h2.1; omega
    refine ⟨y, c, by rw [List.getElem?_append_right (by omega), hv]; simp, by simpa using hlc, hcm, ?_, fun z hz => ?_⟩
    · have := keep y _ hl hy
      simpa using this
    · obtain ⟨q1, q2⟩ := hy z hz
      refine ⟨Nat.lt_of_lt_of_le q1 k2.size, ?_⟩
      intro hh
      cases hh
      rcases k3 with k3 | k3
      · exact q2 k3
      · have k5 : z.block = w.heap.size := k3
        omega
end laws2
end Go.Proofs.Ythgbmijgoaihcaa
