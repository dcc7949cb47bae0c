/-
  A list of lists whose last one still grows: the pieces of a Split under way.
-/
import Derived.Test.YthgbmijgoaihcaaOwn
import Derived.OneCell
namespace Go.Proofs.Ythgbmijgoaihcaa
open Go.RowKit
set_option linter.unusedVariables false

/-- As Outs, the row's values named; all elements' memory from 'base' on. -/
def OutsV (F : TypeId) (w : World) (base K : Nat) (v : Value) (outs : List (List Ent)) (vals : List Value) : Prop :=
  K ≤ w.heap.size ∧ (∀ g, v.ownBlock = some g → g < K) ∧ w.ownsRow base F 1 v outs.length vals ∧
    ∀ i (h : i < outs.length), ∃ x cap, vals[i]? = some (.slice x outs[i].length cap) ∧ outs[i].length ≤ cap ∧ cap ≤ maxLen ∧ Ents w x outs[i] ∧ ∀ y, x = some y → base ≤ y.block ∧ y.block < K ∧ v.ownBlock ≠ some y.block

theorem OutsV.outs {F : TypeId} {w : World} {base K : Nat} {v : Value} {outs : List (List Ent)} {vals : List Value} (h : OutsV F w base K v outs vals) : Outs F w base K v outs := by
  obtain ⟨h0, h1, h2, h4⟩ := h
  refine ⟨h0, h1, vals, h2, fun i hi => ?_⟩
  obtain ⟨x, c, e1, e2, e3, e4, e5⟩ := h4 i hi
  exact ⟨x, c, e1, e2, e3, e4, fun y hy => (e5 y hy).2⟩

theorem OutsV.nil (F : TypeId) (w : World) (base K : Nat) (hK : K ≤ w.heap.size) : OutsV F w base K (.slice none 0 0) [] [] :=
  ⟨hK, (fun g h => by cases h), World.ownsRow_nil w base F 1, fun i h => absurd h (by simp)⟩

/-- The last list grows in its own memory, from K on; the others lie below K. -/
def Pile (F E : TypeId) (w : World) (base K : Nat) (v : Value) (outs : List (List Ent)) (now : List Ent) : Prop :=
  K ≤ w.heap.size ∧ ∃ g cap cur vl, v = .slice (some ⟨g, 0, none⟩) (outs.length + 1) cap ∧ base ≤ g ∧ g < K ∧ w.heap[g]? = some (.cells cur F) ∧ outs.length + 1 ≤ cap ∧ cap ≤ maxLen ∧ cur.size = cap ∧
    cur[outs.length]? = some vl ∧ OwnE E w K vl now ∧
    ∀ i (h : i < outs.length), ∃ x c, cur[i]? = some (.slice x outs[i].length c) ∧ outs[i].length ≤ c ∧ c ≤ maxLen ∧ Ents w x outs[i] ∧ ∀ y, x = some y → base ≤ y.block ∧ y.block < K ∧ y.block ≠ g

theorem Pile.toOuts {F E : TypeId} {w : World} {base K : Nat} {v : Value} {outs : List (List Ent)} {now : List Ent} (h : Pile F E w base K v outs now) : ∃ vals, OutsV F w base w.heap.size v (outs ++ [now]) vals := by
  obtain ⟨h0, g, cap, cur, vl, rfl, hg, hgK, hh, h1, h2, h3, h4, h5, h6⟩ := h
  obtain ⟨x, c, rfl, q1, q2, q3, q4, q5, q6⟩ := h5.read
  have hsz : cur.toList.length = cap := by simpa using h3
  refine ⟨cur.toList.take (outs.length + 1), Nat.le_refl _, fun g' hg' => by cases hg'; exact Nat.lt_of_lt_of_le hgK h0, ⟨by simp; omega, Or.inr ⟨g, cap, cur, by simp, hg, hh, by simpa using h1, h2, by omega, by simp⟩⟩, fun i hi => ?_⟩
  by_cases hlast : i < outs.length
  · obtain ⟨x', c', e1, e2, e3, e4, e5⟩ := h6 i hlast
    refine ⟨x', c', by rw [List.getElem?_take_of_lt (by omega), Array.getElem?_toList, e1]; simp [hlast], by simpa [hlast] using e2, e3, by simpa [hlast] using e4, fun y hy => ?_⟩
    obtain ⟨r1, r2, r3⟩ := e5 y hy
    exact ⟨r1, Nat.lt_of_lt_of_le r2 h0, fun hh => by cases hh; exact r3 rfl⟩
  · have hi' : i = outs.length := by simp at hi; omega
    subst hi'
    refine ⟨x, c, by rw [List.getElem?_take_of_lt (by omega), Array.getElem?_toList, h4]; simp, by simpa using q1, q2, by simpa using q3, fun y hy => ?_⟩
    obtain ⟨r1, r2⟩ := q4 _ (q6 y hy)
    exact ⟨by omega, r2, fun hh => by have e : g = y.block := by simpa [Value.ownBlock] using hh
                                      omega⟩

theorem OutsV.toPile {F E : TypeId} {w : World} {base : Nat} {v : Value} {outs : List (List Ent)} {vals : List Value} (h : OutsV F w base w.heap.size v (outs ++ [[]]) (vals ++ [.slice none 0 0])) : Pile F E w base w.heap.size v outs [] := by
  obtain ⟨h0, h1, ⟨h2, h3⟩, h4⟩ := h
  have hv : vals.length = outs.length := by simp at h2; omega
  rcases h3 with ⟨rfl, h3⟩ | ⟨g, cap, cur, rfl, hg, hh, h5, h6, h7, h8⟩
  · simp at h3
  have hl : (outs ++ [([] : List Ent)]).length = outs.length + 1 := by simp
  have hget : ∀ i, i < outs.length + 1 → cur[i]? = (vals ++ [Value.slice none 0 0])[i]? := by
    intro i hi
    rw [← h8, List.getElem?_take_of_lt (by omega), Array.getElem?_toList]
  refine ⟨Nat.le_refl _, g, cap, cur, .slice none 0 0, by rw [hl], hg, h1 g rfl, hh, by omega, h6, by omega, ?_, OwnE.nil _ _ _, fun i hi => ?_⟩
  · rw [hget _ (by omega), List.getElem?_append_right (by omega), hv]; simp
  · obtain ⟨x', c', e1, e2, e3, e4, e5⟩ := h4 i (by omega)
    have hget' : (outs ++ [([] : List Ent)])[i]'(by omega) = outs[i] := by simp [hi]
    rw [hget'] at e1 e2 e4
    refine ⟨x', c', by rw [hget _ (by omega), e1], e2, e3, e4, fun y hy => ?_⟩
    obtain ⟨r1, r2, r3⟩ := e5 y hy
    exact ⟨r1, r2, fun hh => r3 (by simp [Value.ownBlock, hh])⟩

theorem EntAt.other {w w' : World} {b o : Nat} {e : Ent} (h : EntAt w b o e) (hb : w'.heap[b]? = w.heap[b]?) : EntAt w' b o e := by
  have hcell : ∀ j, w'.cell? ⟨b, j, none⟩ = w.cell? ⟨b, j, none⟩ := fun j => World.cell?_of_block hb
  obtain ⟨c0, c1, c2, c3⟩ := h
  exact ⟨by rw [hcell]; exact c0, by rw [hcell]; exact c1, by rw [hcell]; exact c2, by rw [hcell]; exact c3⟩
theorem Ents.other {w w' : World} {x : Option Addr} {l : List Ent} (h : Ents w x l) (hb : ∀ y, x = some y → w'.heap[y.block]? = w.heap[y.block]?) : Ents w' x l := by
  intro i hi
  obtain ⟨b, off, rfl, hc, ho⟩ := h i hi
  exact ⟨b, off, rfl, hc.other (hb _ rfl), ho⟩

/-- A store in a block below all of it. -/
theorem Pile.low {F E : TypeId} {w : World} {base K : Nat} {v : Value} {outs : List (List Ent)} {now : List Ent} (h : Pile F E w base K v outs now) {b : Nat} (hb : b < base) (hbK : base ≤ K) (u : Value) : Pile F E (w.setCell ⟨b, 0, none⟩ u) base K v outs now := by
  obtain ⟨h0, g, cap, cur, vl, rfl, hg, hgK, hh, h1, h2, h3, h4, h5, h6⟩ := h
  refine ⟨by simpa using h0, g, cap, cur, vl, rfl, hg, hgK, ?_, h1, h2, h3, h4, ?_, fun i hi => ?_⟩
  · rw [Below.heap_setCell _ _ _ _ (by show g ≠ b; omega)]; exact hh
  · refine ⟨ownsRow_setCell_other h5.1 (fun e => ?_) u, h5.2⟩
    obtain ⟨x, c, rfl, q1, q2, q3, q4, q5, q6⟩ := h5.read
    have := (q4 _ e).1
    have hx : (⟨b, 0, none⟩ : Addr).block = b := rfl
    omega
  · obtain ⟨x', c', e1, e2, e3, e4, e5⟩ := h6 i hi
    exact ⟨x', c', e1, e2, e3, e4.other (fun y hy => Below.heap_setCell _ _ _ _ (by have := (e5 y hy).1; show y.block ≠ b; omega)), e5⟩

/-- The last list grows: its new header is stored in the row. -/
theorem Pile.store {F E : TypeId} {w w2 : World} {base K : Nat} {g cap : Nat} {outs : List (List Ent)} {now now' : List Ent} (h : Pile F E w base K (.slice (some ⟨g, 0, none⟩) (outs.length + 1) cap) outs now) {vl' : Value} (hb : Below K w w2) (ho : OwnE E w2 K vl' now') :
    Pile F E (w2.setCell ⟨g, outs.length, none⟩ vl') base K (.slice (some ⟨g, 0, none⟩) (outs.length + 1) cap) outs now' := by
  obtain ⟨h0, g', cap', cur, vl, hv, hg, hgK, hh, h1, h2, h3, h4, h5, h6⟩ := h
  cases hv
  have hh2 : w2.heap[g]? = some (.cells cur F (0, 0)) := by rw [hb.block g hgK]; exact hh
  have hlt := lt_of_block hh2
  have hh3 : w2.heap[g] = .cells cur F (0, 0) := by simpa [Array.getElem?_eq_getElem hlt] using hh2
  refine ⟨by simpa using Nat.le_trans h0 hb.size, g, cap, cur.setIfInBounds outs.length vl', vl', rfl, hg, hgK, ?_, h1, h2, by simpa using h3, ?_, ?_, fun i hi => ?_⟩
  · show (w2.heap.modify g _)[g]? = _
    rw [Array.getElem?_eq_getElem (by simpa using hlt), Array.getElem_modify_self, hh3]
    rfl
  · rw [Array.getElem?_setIfInBounds_self_of_lt (by omega)]
  · refine ⟨ownsRow_setCell_other ho.1 (fun e => ?_) vl', ho.2⟩
    obtain ⟨x, c, rfl, q1, q2, q3, q4, q5, q6⟩ := ho.read
    have := (q4 _ e).1
    have hx : (⟨g, outs.length, none⟩ : Addr).block = g := rfl
    omega
  · obtain ⟨x', c', e1, e2, e3, e4, e5⟩ := h6 i hi
    refine ⟨x', c', by rw [Array.getElem?_setIfInBounds_ne (by omega)]; exact e1, e2, e3, ?_, e5⟩
    exact (e4.belowB (fun y hy => (e5 y hy).2.1) hb).other (fun y hy => Below.heap_setCell _ _ _ _ (by have := (e5 y hy).2.2; exact this))

section laws
variable {P : Program} {ops : Array Oper} {rest : List Oper} {o : Oper} {a : Act} {Q : Exit → Act → World → Prop}

/-- 'append(out, nil)'. -/
theorem app_nil (w : World) (hgd : o.guard = none) (s x : Operand) (t : TypeId) (ho : o.op = .call { callee := .builtin .append, args := #[s, x], argTypes := #[t, t] })
    {F : TypeId} (E : TypeId) (ht : P.underlying t = some (.slice F)) {z : Value} (hi : (P.info? F).map (fun i => (i.zero, i.size, i.bytes)) = some (some z, 1, 24)) (hzc : z.cells.size = 1)
    {base : Nat} {v : Value} {outs : List (List Ent)} {vals : List Value} (hs : a.eval s = v) (hout : OutsV F w base w.heap.size v outs vals) {B : Nat} {fr : Nat × Nat} (hx : a.eval x = .slice (some ⟨B, 0, none⟩) 1 1)
    (hB : w.heap[B]? = some (.cells #[.slice none 0 0] F fr))
    (hn : outs.length ≤ 1000000000000) (hbase : base ≤ w.heap.size)
    (h : ∀ g cap w', Pile F E w' base w'.heap.size (.slice (some ⟨g, 0, none⟩) (outs.length + 1) cap) outs [] → Below base w w' → wpList P ops Q rest (a.put o.dst (.slice (some ⟨g, 0, none⟩) (outs.length + 1) cap)) w') : wpList P ops Q (o :: rest) a w := by
  obtain ⟨i0, hi0, hz0, hz1, hz2⟩ := info_parts hi
  obtain ⟨h0, h1, h2, h4⟩ := hout
  refine wpList_append_lies w hgd s x t ho base F i0 z 1 24 ht hi0 hz0 hz1 hz2 hzc (by decide) v outs.length vals hs h2 ⟨B, 0, none⟩ 1 1 [.slice none 0 0] hx rfl
    (by have := World.news_of_block hB; simpa using this) (by intro u hu; simp at hu; subst hu; rfl) (by omega) (by unfold maxLen; omega) (by omega) hbase _ rfl ?_
  intro g cap w' k1 k2 k3 k4
  refine h g cap w' (OutsV.toPile (vals := vals) ⟨Nat.le_refl _, fun g' hg' => by cases hg'; exact k4, by simpa using k1, fun i hi => ?_⟩) ((Below.refl base w).grown k2 hbase (fun k hk => (h2.lt k hk).1))
  have hv : vals.length = outs.length := by have := h2.1; omega
  by_cases hlast : i < outs.length
  · obtain ⟨x', cap', e1, e2, e3, e4, e5⟩ := h4 i hlast
    refine ⟨x', cap', by rw [List.getElem?_append_left (by omega), e1]; simp [hlast], by simpa [hlast] using e2, e3, ?_, fun z hz => ?_⟩
    · have := e4.other (w' := w') (fun z hz => k2.block z.block (e5 z hz).2.1 (fun e => (e5 z hz).2.2 e.symm))
      simpa [hlast] using this
    · obtain ⟨q1, q2, q3⟩ := e5 z hz
      refine ⟨q1, Nat.lt_of_lt_of_le q2 k2.size, ?_⟩
      intro hh
      cases hh
      rcases k3 with k3 | k3
      · exact q3 k3
      · have k5 : z.block = w.heap.size := k3
        omega
  · have hi' : i = outs.length := by simp at hi; omega
    subst hi'
    exact ⟨none, 0, by rw [List.getElem?_append_right (by omega), hv]; simp, by simp, by unfold maxLen; omega, by simpa using ents_nil _ _, fun z hz => by cases hz⟩
end laws
end Go.Proofs.Ythgbmijgoaihcaa
