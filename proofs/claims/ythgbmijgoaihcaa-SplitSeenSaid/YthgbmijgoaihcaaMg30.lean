/-
  Parts of a list, plainly; three lists of the call's own in an array.
-/
import Derived.Test.YthgbmijgoaihcaaMg23
import Derived.Test.YthgbmijgoaihcaaMg24
import Derived.Test.YthgbmijgoaihcaaMg27
import Derived.Test.YthgbmijgoaihcaaMg28
import Derived.Test.YthgbmijgoaihcaaCut
namespace Go.Proofs.Ythgbmijgoaihcaa
open Go.RowKit
set_option linter.unusedVariables false

/-- To which part entry i belongs. -/
def kd (f : List Nat) (i : Nat) : Nat := if i < f.length then f.getD i 0 % 3 else 0
theorem kd_lt (f : List Nat) (i : Nat) : kd f i < 3 := by unfold kd; split <;> omega
def part (f : List Nat) (x : List Ent) (c : Nat) : Nat → List Ent
  | 0 => []
  | k + 1 => part f x c k ++ (if kd f k = c then [x.getD k default] else [])
theorem part_sub (f : List Nat) (x : List Ent) (c : Nat) : ∀ k, k ≤ x.length → (part f x c k).Sublist (x.take k)
  | 0, _ => by simp [part]
  | k + 1, h => by
    have ih := part_sub f x c k (by omega)
    have e : x.take (k + 1) = x.take k ++ [x.getD k default] := by
      rw [List.take_succ_eq_append_getElem (by omega)]
      simp [List.getD_eq_getElem?_getD, show k < x.length by omega]
    rw [e]
    unfold part
    refine ih.append ?_
    split
    · exact List.Sublist.refl _
    · exact List.nil_sublist _
theorem part_len (f : List Nat) (x : List Ent) (c k : Nat) (h : k ≤ x.length) : (part f x c k).length ≤ k := by
  have := (part_sub f x c k h).length_le
  simp at this; omega
theorem part_in (f : List Nat) (x : List Ent) (c k : Nat) (h : k ≤ x.length) (e : Ent) (he : e ∈ part f x c k) : e ∈ x := List.mem_of_mem_take ((part_sub f x c k h).subset he)
theorem part_mem (f : List Nat) (x : List Ent) : ∀ k i, i < k → x.getD i default ∈ part f x (kd f i) k
  | 0, i, h => by omega
  | k + 1, i, h => by
    unfold part
    by_cases e : i = k
    · subst e; rw [if_pos rfl]; simp
    · exact List.mem_append_left _ (part_mem f x k i (by omega))
theorem part_rises (f : List Nat) (x : List Ent) (c k : Nat) (h : k ≤ x.length) (hx : rises x = true) : rises (part f x c k) = true :=
  pw_rises _ ((rises_pw x hx).sublist ((part_sub f x c k h).trans (List.take_sublist _ _)))
/-- Parts, in whichever order: each is one of the three, and each of the three is among them. -/
theorem parts_merge (x : List Ent) (hx : rises x = true) (ps : List (List Ent)) (h1 : ∀ p ∈ ps, rises p = true ∧ ∀ e ∈ p, e ∈ x) (h2 : ∀ e ∈ x, ∃ p ∈ ps, e ∈ p) : IsMerge ps x := by
  refine merge_parts x hx ps ?_ ?_ ?_
  · rw [List.all_eq_true]; exact fun p hp => (h1 p hp).1
  · intro i e he
    rcases Nat.lt_or_ge i ps.length with q | q
    · have e1 : ps.getD i [] = ps[i] := by simp [List.getD_eq_getElem?_getD, q]
      rw [e1] at he
      exact (h1 _ (List.getElem_mem q)).2 e he
    · simp [List.getD_eq_getElem?_getD, q] at he
  · intro e he
    obtain ⟨p, hp, q⟩ := h2 e he
    obtain ⟨i, hi, rfl⟩ := List.getElem_of_mem hp
    exact ⟨i, by simpa [List.getD_eq_getElem?_getD, hi] using q⟩
theorem part_all (f : List Nat) (x : List Ent) (e : Ent) (he : e ∈ x) : e ∈ part f x 0 x.length ∨ e ∈ part f x 1 x.length ∨ e ∈ part f x 2 x.length := by
  obtain ⟨i, hi, rfl⟩ := in_getD x e he
  have h1 := part_mem f x x.length i hi
  have h2 := kd_lt f i
  have h3 : kd f i = 0 ∨ kd f i = 1 ∨ kd f i = 2 := by omega
  rcases h3 with q | q | q <;> rw [q] at h1
  · exact Or.inl h1
  · exact Or.inr (Or.inl h1)
  · exact Or.inr (Or.inr h1)

/-- Rows that a new block holds. -/
theorem rows_blk {w : World} {B : Nat} {rs : List Row} {T : TypeId} {fr : Nat × Nat} (hb : w.heap[B]? = some (.cells (rs.map Row.val).toArray T fr)) (ok : RowsOk w rs) : EntRows w (some ⟨B, 0, none⟩) (rs.map (·.l)) := by
  intro i hi
  have hi' : i < rs.length := by simpa using hi
  obtain ⟨h1, h2, h3⟩ := ok rs[i] (List.getElem_mem hi')
  refine ⟨B, 0, rs[i].a, rs[i].cap, rfl, ?_, by simpa using h1, h2, by simpa using h3⟩
  simp [World.cell?, hb, hi', Row.val]

structure PS (w0 wr : World) (B : Nat) (vs : Nat → Value) (ps : Nat → List Ent) : Prop where
  box : wr.heap[B]? = some (.cells #[vs 0, vs 1, vs 2] 50 (0, 0))
  own : ∀ c, c < 3 → OwnE 33 wr (B + 1) (vs c) (ps c)
  dis : ∀ c d, c < 3 → d < 3 → c ≠ d → ∀ g, (vs c).ownBlock = some g → (vs d).ownBlock ≠ some g
  bel : Below w0.heap.size w0 wr
  ge : w0.heap.size ≤ B
theorem PS.cell {w0 wr : World} {B : Nat} {vs : Nat → Value} {ps : Nat → List Ent} (h : PS w0 wr B vs ps) (c : Nat) (hc : c < 3) : wr.cell? ⟨B, c, none⟩ = some (vs c) ∧ wr.frozen? ⟨B, c, none⟩ = false := by
  have hb := h.box
  match c, hc with
  | 0, _ => exact ⟨by simp [World.cell?, hb], by simp [World.frozen?, hb]⟩
  | 1, _ => exact ⟨by simp [World.cell?, hb], by simp [World.frozen?, hb]⟩
  | 2, _ => exact ⟨by simp [World.cell?, hb], by simp [World.frozen?, hb]⟩
theorem PS.cellB {w0 wr w' : World} {B : Nat} {vs : Nat → Value} {ps : Nat → List Ent} (h : PS w0 wr B vs ps) {d : Nat} (hg : wr.grownBy w' (vs d).ownBlock) (hd : d < 3) : w'.cell? ⟨B, d, none⟩ = some (vs d) ∧ w'.frozen? ⟨B, d, none⟩ = false := by
  have hb : w'.heap[B]? = some (.cells #[vs 0, vs 1, vs 2] 50 (0, 0)) := (hg.block B (heap_lt h.box) (fun e => by
    have := ((h.own d hd).1.lt B e.symm).1
    omega)).trans h.box
  match d, hd with
  | 0, _ => exact ⟨by simp [World.cell?, hb], by simp [World.frozen?, hb]⟩
  | 1, _ => exact ⟨by simp [World.cell?, hb], by simp [World.frozen?, hb]⟩
  | 2, _ => exact ⟨by simp [World.cell?, hb], by simp [World.frozen?, hb]⟩
def upd (f : Nat → Value) (c : Nat) (v : Value) : Nat → Value := fun d => if d = c then v else f d
def updL (f : Nat → List Ent) (c : Nat) (v : List Ent) : Nat → List Ent := fun d => if d = c then v else f d
theorem OwnE.kept {E : TypeId} {w w' : World} {K : Nat} {v : Value} {l : List Ent} (h : OwnE E w K v l) (hb : ∀ g, v.ownBlock = some g → w'.heap[g]? = w.heap[g]?) : OwnE E w' K v l := by
  obtain ⟨⟨h1, h2⟩, h3⟩ := h
  refine ⟨⟨h1, ?_⟩, h3⟩
  rcases h2 with h2 | ⟨g, cap, cur, hv', hg, hh, r⟩
  · exact Or.inl h2
  · exact Or.inr ⟨g, cap, cur, hv', hg, by rw [hb g (by rw [hv']; rfl)]; exact hh, r⟩
/-- One of the three was appended to and stored back. -/
theorem PS.put {w0 wr w' : World} {B : Nat} {vs : Nat → Value} {ps : Nat → List Ent} (h : PS w0 wr B vs ps) (c : Nat) (hc : c < 3) {v : Value} {l : List Ent} (hown : OwnE 33 w' (B + 1) v l) (hg : wr.grownBy w' (vs c).ownBlock)
    (hloc : v.ownBlock = (vs c).ownBlock ∨ ∃ g, v.ownBlock = some g ∧ wr.heap.size ≤ g) : PS w0 (w'.setCell ⟨B, c, none⟩ v) B (upd vs c v) (updL ps c l) := by
  have hBlt : B < wr.heap.size := heap_lt h.box
  have hblk : ∀ d, d < 3 → ∀ g, (vs d).ownBlock = some g → B + 1 ≤ g ∧ g < wr.heap.size := fun d hd g hg => (h.own d hd).1.lt g hg
  have hboxw : w'.heap[B]? = wr.heap[B]? := hg.block B hBlt (fun e => by
    have := hblk c hc B e.symm
    omega)
  refine ⟨?_, fun d hd => ?_, fun d e hd he hde g hgd hge => ?_, ?_, h.ge⟩
  · have hb := hboxw.trans h.box
    have : (w'.setCell ⟨B, c, none⟩ v).heap[B]? = some (.cells ((#[vs 0, vs 1, vs 2] : Array Value).setIfInBounds c v) 50 (0, 0)) := heap_setCell_same _ _ _ _ _ _ hb
    rw [this]
    match c, hc with
    | 0, _ => rfl
    | 1, _ => rfl
    | 2, _ => rfl
  · unfold upd updL
    by_cases e : d = c
    · rw [if_pos e, if_pos e]
      refine hown.kept fun g hgv => Below.heap_setCell _ _ _ _ ?_
      have := (hown.1.lt g hgv).1
      simp; omega
    · rw [if_neg e, if_neg e]
      refine (h.own d hd).kept fun g hgv => ?_
      obtain ⟨q1, q2⟩ := hblk d hd g hgv
      rw [Below.heap_setCell _ _ _ _ (by simp; omega)]
      exact hg.block g q2 (fun q => h.dis d c hd hc e g hgv q.symm)
  · unfold upd at hgd hge
    by_cases e1 : d = c <;> by_cases e2 : e = c
    · omega
    · rw [if_pos e1] at hgd
      rw [if_neg e2] at hge
      rcases hloc with q | ⟨g', q, q2⟩
      · rw [q] at hgd
        exact h.dis c e hc he (fun x => e2 x.symm) g hgd hge
      · rw [q] at hgd
        cases hgd
        have := (hblk e he _ hge).2
        omega
    · rw [if_neg e1] at hgd
      rw [if_pos e2] at hge
      rcases hloc with q | ⟨g', q, q2⟩
      · rw [q] at hge
        exact h.dis c d hc hd (fun x => e1 x.symm) g hge hgd
      · rw [q] at hge
        cases hge
        have := (hblk d hd _ hgd).2
        omega
    · rw [if_neg e1] at hgd
      rw [if_neg e2] at hge
      exact h.dis d e hd he hde g hgd hge
  · have h1 : Below w0.heap.size wr w' := (Below.refl _ wr).grown hg h.bel.size (fun k hk => by have := (hblk c hc k hk).1; have := h.ge; omega)
    exact (h.bel.trans h1).setCell h.ge _
theorem PS.start (w : World) : PS w (w.alloc (.cells #[.slice none 0 0, .slice none 0 0, .slice none 0 0] 50)) w.heap.size (fun _ => .slice none 0 0) (fun _ => []) :=
  ⟨heap_at _ _, fun c _ => OwnE.nil _ _ _, (fun c d _ _ _ g hg => by cases hg), (Below.refl _ _).alloc (Nat.le_refl _) _, Nat.le_refl _⟩
theorem PS.later {w0 wr w' : World} {B : Nat} {vs : Nat → Value} {ps : Nat → List Ent} (h : PS w0 wr B vs ps) (hb : Below wr.heap.size wr w') : PS w0 w' B vs ps :=
  ⟨by rw [hb.block B (heap_lt h.box)]; exact h.box, fun c hc => (h.own c hc).later hb, h.dis, h.bel.trans (hb.mono h.bel.size), h.ge⟩
theorem updL_part (f : List Nat) (x : List Ent) (k c : Nat) (h : kd f k = c) : ∀ d, updL (fun c => part f x c k) c (part f x c k ++ [x.getD k default]) d = part f x d (k + 1) := by
  intro d
  have e2 : part f x d (k + 1) = part f x d k ++ (if kd f k = d then [x.getD k default] else []) := rfl
  rw [e2]
  unfold updL
  by_cases e : d = c
  · rw [if_pos e, h, if_pos e.symm, e]
  · rw [if_neg e, h, if_neg (fun q => e q.symm), List.append_nil]
section laws
variable {P : Program} {ops : Array Oper} {o : Oper} {a : Act} {Q : Exit → Act → World → Prop}
theorem step_app_e {E0 : Prop} {K : Act → World → Prop} (w : World) (hgd : o.guard = none) (s x : Operand) (t : TypeId) (ho : o.op = .call { callee := .builtin .append, args := #[s, x], argTypes := #[t, t] })
    (ht : P.underlying t = some (.slice 33)) {z : Value} (hi : (P.info? 33).map (fun i => (i.zero, i.size, i.bytes)) = some (some z, 4, 48)) (hzc : z.cells.size = 4)
    {B0 : Nat} {v : Value} {l : List Ent} (hs : a.eval s = v) (hown : OwnE 33 w B0 v l) {B : Nat} {e : Ent} {fr : Nat × Nat} (hx : a.eval x = .slice (some ⟨B, 0, none⟩) 1 1) (hB : w.heap[B]? = some (.cells (entCells e).toArray 33 fr)) (he : e.ok)
    (hl : l.length + 1 ≤ 2932031007402) (hK : B0 ≤ w.heap.size)
    (h : ∀ g cap w', OwnE 33 w' B0 (.slice (some ⟨g, 0, none⟩) (l.length + 1) cap) (l ++ [e]) → w.grownBy w' v.ownBlock → (v.ownBlock = some g ∨ g = w.heap.size) → K (a.put o.dst (.slice (some ⟨g, 0, none⟩) (l.length + 1) cap)) w') : if Region.wanted o (yielded ops a.tmps) = true then Oper.wp P o a w K Q else E0 := by
  obtain ⟨i0, hi0, hz0, hz1, hz2⟩ := info_parts hi
  refine step_append_lies (w := w) hgd s x t ho B0 33 i0 z 4 48 ht hi0 hz0 hz1 hz2 hzc (by decide) v l.length (entsCells l) hs hown.1 ⟨B, 0, none⟩ 1 1 (entsCells [e]) hx (by rw [entsCells_length]; rfl)
    (by have := World.news_of_block hB; simpa [entsCells] using this) (entsCells_one _) (by omega) (by unfold maxLen; omega) (by omega) hK _ rfl ?_
  intro g cap w' h1 h2 h3 h4
  refine h _ _ _ ⟨?_, ?_⟩ h2 h3
  · rw [← entsCells_append] at h1
    simpa using h1
  · intro e' he'
    rcases List.mem_append.1 he' with h' | h'
    · exact hown.2 e' h'
    · simp at h'; subst h'; exact he
end laws
theorem RowsOk.below {w w' : World} {rs : List Row} (h : RowsOk w rs) (hb : Below w.heap.size w w') : RowsOk w' rs := fun r hr => by
  obtain ⟨h1, h2, h3⟩ := h r hr
  exact ⟨h1, h2, h3.below hb⟩
/-- A value that reads as x. -/
structure Rd (w : World) (y : Option Addr) (c : Nat) (x : List Ent) : Prop where
  len : x.length ≤ c
  cap : c ≤ maxLen
  ents : Ents w y x
theorem Rd.below {w w' : World} {y : Option Addr} {c : Nat} {x : List Ent} (h : Rd w y c x) (hb : Below w.heap.size w w') : Rd w' y c x := ⟨h.len, h.cap, h.ents.below hb⟩
theorem isMerge_len {ls : List (List Ent)} {m : List Ent} (h : IsMerge ls m) : m.length ≤ (ls.map (·.length)).sum := by
  rw [h.uniq (refM_merge ls)]
  unfold refM
  split
  · have := fold_len ls ls.length
    rw [List.take_of_length_le (Nat.le_refl _)] at this
    exact this
  · simp
/-- Rows that a new block holds, put together. -/
theorem merge_rows (w' : World) (B : Nat) (rs : List Row) (n : Nat) (T : TypeId) (fr : Nat × Nat) (hn : rs.length = n) (hb : w'.heap[B]? = some (.cells (rs.map Row.val).toArray T fr)) (ok : RowsOk w' rs) (h20 : n ≤ 20) (hs : ((rs.map (·.l)).map (·.length)).sum ≤ 10000) :
    Calls Try.prog 33 #[.slice (some ⟨B, 0, none⟩) n n] w' fun e w'' => ∃ y c m, e = .returned (.slice y (List.length m) c) ∧ Rd w'' y c m ∧ IsMerge (rs.map (·.l)) m ∧ Below w'.heap.size w' w'' := by
  have h := merge_any (some ⟨B, 0, none⟩) n (rs.map (·.l)) w' (by simp; omega) (rows_blk hb ok) (fun h => by cases h) 10000 (by decide) hs
  rw [List.length_map, hn] at h
  refine h.mono ?_
  rintro _ w3 ⟨v3, rfl, ⟨m, hm3, him⟩, hb3⟩
  obtain ⟨x3, c3, rfl, hc3, hc3m, he3, _⟩ := hm3.read
  exact ⟨x3, c3, m, rfl, ⟨hc3, hc3m, he3⟩, him, hb3⟩
theorem merge_to (w' : World) (B : Nat) (rs : List Row) (n : Nat) (T : TypeId) (fr : Nat × Nat) (hn : rs.length = n) (hb : w'.heap[B]? = some (.cells (rs.map Row.val).toArray T fr)) (ok : RowsOk w' rs) (h20 : n ≤ 20) (hs : ((rs.map (·.l)).map (·.length)).sum ≤ 10000) (x : List Ent) (hx : IsMerge (rs.map (·.l)) x) :
    Calls Try.prog 33 #[.slice (some ⟨B, 0, none⟩) n n] w' fun e w'' => ∃ y c, e = .returned (.slice y (List.length x) c) ∧ Rd w'' y c x ∧ Below w'.heap.size w' w'' := by
  refine (merge_rows w' B rs n T fr hn hb ok h20 hs).mono ?_
  rintro _ w3 ⟨y, c, m, rfl, hr, him, hb3⟩
  have := him.uniq hx
  subst this
  exact ⟨y, c, rfl, hr, hb3⟩
/-- A part of the parts. -/
theorem inner_merge (x : List Ent) (hx : rises x = true) (ps : List (List Ent)) (m : List Ent) (h1 : ∀ p ∈ ps, rises p = true ∧ ∀ e ∈ p, e ∈ x) (hm : IsMerge ps m) : rises m = true ∧ (∀ e ∈ m, e ∈ x) ∧ ∀ p ∈ ps, ∀ e ∈ p, e ∈ m := by
  have hr : ps.all rises = true := by rw [List.all_eq_true]; exact fun p hp => (h1 p hp).1
  have hin : ∀ i, ∀ e ∈ ps.getD i [], e ∈ x := by
    intro i e he
    rcases Nat.lt_or_ge i ps.length with q | q
    · have e1 : ps.getD i [] = ps[i] := by simp [List.getD_eq_getElem?_getD, q]
      rw [e1] at he
      exact (h1 _ (List.getElem_mem q)).2 e he
    · simp [List.getD_eq_getElem?_getD, q] at he
  refine ⟨hm.rises, fun e he => ?_, fun p hp e he => ?_⟩
  · obtain ⟨i, hi, _⟩ := (hm.mem hr e).1 he
    exact hin i e hi
  · obtain ⟨i, hi, rfl⟩ := List.getElem_of_mem hp
    exact (hm.mem hr e).2 (inM_of x (rises_pw x hx) ps hin e i (by simpa [List.getD_eq_getElem?_getD, hi] using he))
end Go.Proofs.Ythgbmijgoaihcaa
