/-
  Lists of pairs in memory; the reference's SamePairs; some.
-/
import Derived.Test.YthgbmijgoaihcaaMg1
import Derived.Test.YthgbmijgoaihcaaOwn
namespace Go.Proofs.Ythgbmijgoaihcaa
open Go.RowKit
set_option linter.unusedVariables false

abbrev Pr := ByteArray × ByteArray
def prCells (p : Pr) : List Value := [.string p.1, .string p.2]
def PrAt (w : World) (b o : Nat) (p : Pr) : Prop := w.cell? ⟨b, o, none⟩ = some (.string p.1) ∧ w.cell? ⟨b, o + 1, none⟩ = some (.string p.2)
/-- A slice of pairs that reads as l. -/
def Prs (w : World) (a : Option Addr) (l : List Pr) : Prop := ∀ i (h : i < l.length), ∃ b off, a = some ⟨b, off, none⟩ ∧ PrAt w b (off + i * 2) l[i]
theorem Prs.below {w w' : World} {a : Option Addr} {l : List Pr} (h : Prs w a l) (hb : Below w.heap.size w w') : Prs w' a l := by
  intro i hi
  obtain ⟨b, off, e, h0, h1⟩ := h i hi
  exact ⟨b, off, e, by rw [hb.cell (p := ⟨b, off + i * 2, none⟩) (cell_lt h0)]; exact h0, by rw [hb.cell (p := ⟨b, off + i * 2 + 1, none⟩) (cell_lt h1)]; exact h1⟩
theorem prs_nil (w : World) (a : Option Addr) : Prs w a [] := fun i h => by simp at h
def prsCells (l : List Pr) : List Value := l.flatMap prCells
theorem prsCells_length (l : List Pr) : (prsCells l).length = l.length * 2 := by
  induction l with
  | nil => rfl
  | cons e t ih => simp only [prsCells, List.flatMap_cons, List.length_append, List.length_cons] at *; rw [ih]; simp [prCells]; omega
theorem prsCells_append (l m : List Pr) : prsCells (l ++ m) = prsCells l ++ prsCells m := by simp [prsCells]
theorem prsCells_one (l : List Pr) : ∀ u ∈ prsCells l, u.oneCell' = true := by
  intro u hu
  simp only [prsCells, List.mem_flatMap] at hu
  obtain ⟨e, _, he⟩ := hu
  simp only [prCells, List.mem_cons, List.not_mem_nil, or_false] at he
  rcases he with rfl | rfl <;> rfl
theorem prsCells_getElem? : ∀ (l : List Pr) (i j : Nat) (h : i < l.length) (hj : j < 2), (prsCells l)[i * 2 + j]? = (prCells l[i])[j]?
  | [], i, j, h, hj => by simp at h
  | e :: t, 0, j, h, hj => by
    simp only [prsCells, List.flatMap_cons, Nat.zero_mul, Nat.zero_add, List.getElem_cons_zero]
    rw [List.getElem?_append_left (by simp [prCells]; omega)]
  | e :: t, i + 1, j, h, hj => by
    have ih := prsCells_getElem? t i j (by simpa using h) hj
    simp only [prsCells, List.flatMap_cons, List.getElem_cons_succ] at *
    rw [List.getElem?_append_right (by simp [prCells]; omega), show (i + 1) * 2 + j - (prCells e).length = i * 2 + j by simp [prCells]; omega]
    exact ih
/-- The call's own list of pairs. -/
def OwnP (w : World) (K : Nat) (v : Value) (l : List Pr) : Prop := w.ownsRow K 61 2 v l.length (prsCells l)
theorem OwnP.nil (w : World) (K : Nat) : OwnP w K (.slice none 0 0) [] := World.ownsRow_nil w K _ 2
theorem OwnP.read {w : World} {K : Nat} {v : Value} {l : List Pr} (h : OwnP w K v l) : ∃ x cap, v = .slice x l.length cap ∧ l.length ≤ cap ∧ cap ≤ maxLen ∧ Prs w x l := by
  have h' := h
  obtain ⟨h1, h2⟩ := h'
  rcases h2 with ⟨rfl, h2⟩ | ⟨g, cap, cur, rfl, hg, hh, h3, h4, h5, h6⟩
  · have : l = [] := List.eq_nil_of_length_eq_zero h2
    subst this
    exact ⟨none, 0, rfl, Nat.le_refl _, by unfold maxLen; omega, prs_nil _ _⟩
  · refine ⟨some ⟨g, 0, none⟩, cap, rfl, h3, h4, fun i hi => ⟨g, 0, rfl, ?_⟩⟩
    have hc : ∀ j, j < 2 → w.cell? ⟨g, i * 2 + j, none⟩ = (prCells l[i])[j]? := by
      intro j hj
      rw [World.ownsRow.cellAt h (i * 2 + j) (by omega), prsCells_getElem? l i j hi hj]
    rw [Nat.zero_add]
    exact ⟨hc 0 (by omega), hc 1 (by omega)⟩
theorem OwnP.below {w w' : World} {K K' : Nat} {v : Value} {l : List Pr} (h : OwnP w K v l) (hb : Below K' w w') (hv : ∀ g, v.ownBlock = some g → g < K') : OwnP w' K v l := by
  obtain ⟨h1, h2⟩ := h
  refine ⟨h1, ?_⟩
  rcases h2 with h2 | ⟨g, cap, cur, hv', hg, hh, r⟩
  · exact Or.inl h2
  · exact Or.inr ⟨g, cap, cur, hv', hg, by rw [hb.block g (hv g (by rw [hv']; rfl))]; exact hh, r⟩
theorem OwnP.later {w w' : World} {K : Nat} {v : Value} {l : List Pr} (h : OwnP w K v l) (hb : Below w.heap.size w w') : OwnP w' K v l :=
  h.below hb fun g hg => (World.ownsRow.lt h g hg).2
section laws
variable {P : Program} {ops : Array Oper} {rest : List Oper} {o : Oper} {a : Act} {Q : Exit → Act → World → Prop}
/-- 'append(out, p)': p lies in a new block. -/
theorem app_pr (w : World) (hgd : o.guard = none) (s x : Operand) (t : TypeId) (ho : o.op = .call { callee := .builtin .append, args := #[s, x], argTypes := #[t, t] })
    (ht : P.underlying t = some (.slice 61)) {z : Value} (hi : (P.info? 61).map (fun i => (i.zero, i.size, i.bytes)) = some (some z, 2, 32)) (hzc : z.cells.size = 2)
    {K : Nat} {v : Value} {l : List Pr} (hs : a.eval s = v) (hown : OwnP w K v l) {B : Nat} {e : Pr} {fr : Nat × Nat} (hx : a.eval x = .slice (some ⟨B, 0, none⟩) 1 1) (hB : w.heap[B]? = some (.cells (prCells e).toArray 61 fr))
    (hl : l.length + 1 ≤ 4398046511104) (hK : K ≤ w.heap.size)
    (h : ∀ v' w', OwnP w' K v' (l ++ [e]) → Below K w w' → wpList P ops Q rest (a.put o.dst v') w') : wpList P ops Q (o :: rest) a w := by
  obtain ⟨i0, hi0, hz0, hz1, hz2⟩ := info_parts hi
  refine wpList_append_lies w hgd s x t ho K 61 i0 z 2 32 ht hi0 hz0 hz1 hz2 hzc (by decide) v l.length (prsCells l) hs hown ⟨B, 0, none⟩ 1 1 (prsCells [e]) hx (by rw [prsCells_length]; rfl)
    (by have := World.news_of_block hB; simpa [prsCells] using this) (prsCells_one _) (by omega) (by unfold maxLen; omega) (by omega) hK _ rfl ?_
  intro g cap w' h1 h2 h3 h4
  refine h _ _ ?_ ?_
  · rw [← prsCells_append] at h1
    simpa [OwnP] using h1
  · exact (Below.refl K w).grown h2 hK (fun k hk => (hown.lt k hk).1)
end laws

set_option maxRecDepth 100000 in
set_option maxHeartbeats 800000 in
theorem samePairs_any (a a' : Option Addr) (cap cap' : Nat) (l m : List Pr) (w : World) (hl : l.length ≤ maxLen) (hb : Prs w a l) (hb' : Prs w a' m) (heq : l = m) :
    Calls Try.prog 29 #[.slice a l.length cap, .slice a' m.length cap'] w fun e w' => e = .returned (.bool true) ∧ Below w.heap.size w w' := by
  subst heq
  unfold maxLen at hl
  go_enter Try.func29, Try.ntmps29
  go_wp2
  go_loopw [5] (fun i wr => ∃ k : Nat, k ≤ l.length ∧ i = .int .i64 k ∧ Below w.heap.size w wr) (fun i _ => l.length - (intOf i).toNat)
  case atStart => exact ⟨0, by omega, rfl, Below.refl _ _⟩
  case round =>
    obtain ⟨k, hk, rfl, hwr⟩ := hrel
    by_cases hlt : k < l.length
    · obtain ⟨b, off, rfl, c0, c1⟩ := (hb.below hwr) k hlt
      obtain ⟨b', off', rfl, d0, d1⟩ := (hb'.below hwr) k hlt
      have hin : (k : Int) < (l.length : Int) := by omega
      generalize l[k] = x at *
      go_wp2
      go_quiet (fail)
      go_wp2
      exact ⟨⟨k + 1, by omega, by go_num, below_drewN hwr _⟩, by simp [intOf]; omega⟩
    · obtain rfl : k = l.length := by omega
      go_wp2
      go_ret
      exact ⟨rfl, hwr⟩

set_option maxRecDepth 100000 in
theorem some_any (a : Option Addr) (cap n : Nat) (w : World) (hl : n ≤ cap) (hm : cap ≤ maxLen) :
    Calls Try.prog 26 #[.slice a n cap] w fun e w' => e = .returned (.slice a (min n 500) cap) ∧ w = w' := by
  have h1 : n ≤ 9223372036854775807 := by unfold maxLen at hm; omega
  have hinf : (Try.prog.info? 31).map (·.size) = some 1 := by kernel_rfl
  obtain ⟨i0, hi0⟩ : ∃ i0, Try.prog.info? 31 = some i0 := by
    cases h : Try.prog.info? 31 with
    | none => rw [h] at hinf; cases hinf
    | some i0 => exact ⟨i0, rfl⟩
  clear hinf
  by_cases h5 : n ≤ 500
  · rw [Nat.min_eq_left h5]
    have hcut := run_cut_to (P := Try.prog) Try.underlying35 hi0 a n cap n .i64 hl
    have h6 : (n : Int) ≤ 500 := by omega
    have h7 : ¬ (500 : Int) < (n : Int) := by omega
    clear hi0
    go_enter Try.func26, Try.ntmps26
    go_wp2
    go_ret
    exact ⟨rfl, rfl⟩
  · rw [Nat.min_eq_right (by omega)]
    have hcut := run_cut_to (P := Try.prog) Try.underlying35 hi0 a n cap 500 .i64 (by omega)
    have h6 : ¬ (n : Int) ≤ 500 := by omega
    have h7 : (500 : Int) < (n : Int) := by omega
    clear hi0
    go_enter Try.func26, Try.ntmps26
    go_wp2
    go_ret
    exact ⟨rfl, rfl⟩
end Go.Proofs.Ythgbmijgoaihcaa
