/-
  The reference's disk, plainly: where a name stands among rising ones; its files in memory.
-/
import Derived.Test.YtjojomjnbiakoaaDk19
import Derived.BigQuiet
namespace Go.Proofs.Ytjojomjnbiakoaa
open Go.RowKit Go.Maps
set_option linter.unusedVariables false
section rank
variable {α : Type}
def rank : List (Key × α) → Key → Nat
  | [], _ => 0
  | p :: t, k => if p.1 < k then rank t k + 1 else 0
theorem rank_le (k : Key) : ∀ fs : List (Key × α), rank fs k ≤ fs.length
  | [] => Nat.le_refl _
  | p :: t => by
    have := rank_le k t
    unfold rank
    split
    · simp; omega
    · simp
theorem rank_lt (k : Key) : ∀ (fs : List (Key × α)) (i : Nat) (h : i < fs.length), i < rank fs k → fs[i].1 < k
  | p :: t, i, h, hr => by
    unfold rank at hr
    split at hr
    · rename_i hp
      cases i with
      | zero => exact hp
      | succ i => exact rank_lt k t i (by simpa using h) (by omega)
    · omega
theorem rank_at (k : Key) : ∀ (fs : List (Key × α)) (h : rank fs k < fs.length), ¬ fs[rank fs k].1 < k
  | p :: t, h => by
    have ih := rank_at k t
    by_cases hp : p.1 < k
    · have e : rank (p :: t) k = rank t k + 1 := by simp [rank, hp]
      have ht : rank t k < t.length := by rw [e] at h; simpa using h
      have := ih ht
      simp only [e, List.getElem_cons_succ]
      exact this
    · have e : rank (p :: t) k = 0 := by simp [rank, hp]
      simp only [e, List.getElem_cons_zero]
      exact hp
theorem lkup_rank_none (k : Key) : ∀ (fs : List (Key × α)), SortedF fs → (∀ h : rank fs k < fs.length, fs[rank fs k].1 ≠ k) → lkup fs k = none
  | [], _, _ => rfl
  | p :: t, hs, h => by
    obtain ⟨h1, h2⟩ := List.pairwise_cons.1 hs
    by_cases hp : p.1 < k
    · have e : rank (p :: t) k = rank t k + 1 := by simp [rank, hp]
      have ne : p.1 ≠ k := fun q => key_irr k (by rw [q] at hp; exact hp)
      simp only [lkup, if_neg ne]
      refine lkup_rank_none k t h2 fun hh => ?_
      have := h (by rw [e]; simpa using hh)
      simp only [e, List.getElem_cons_succ] at this
      exact this
    · have e : rank (p :: t) k = 0 := by simp [rank, hp]
      have := h (by rw [e]; simp)
      simp only [e, List.getElem_cons_zero] at this
      have hkp : k < p.1 := by
        rcases key_tri p.1 k with q | q | q
        · exact absurd q hp
        · exact absurd q this
        · exact q
      exact lkup_none_lt fun q hq => by
        rcases List.mem_cons.1 hq with rfl | hq
        · exact hkp
        · exact key_trans hkp (h1 q hq)
theorem lkup_rank_some (k : Key) (fs : List (Key × α)) (hs : SortedF fs) (h : rank fs k < fs.length) (e : fs[rank fs k].1 = k) : lkup fs k = some fs[rank fs k].2 :=
  mem_lkup hs (by
    have := List.getElem_mem h
    have e2 : fs[rank fs k] = (k, fs[rank fs k].2) := Prod.ext e rfl
    rw [e2] at this
    exact this)
theorem put_rank (k : Key) (f : α) : ∀ (fs : List (Key × α)), SortedF fs → putF fs k f = fs.take (rank fs k) ++ (k, f) :: fs.drop (if (lkup fs k).isSome = true then rank fs k + 1 else rank fs k)
  | [], _ => by simp [putF, rank, lkup]
  | p :: t, hs => by
    obtain ⟨h1, h2⟩ := List.pairwise_cons.1 hs
    have ih := put_rank k f t h2
    by_cases hp : p.1 < k
    · have e : rank (p :: t) k = rank t k + 1 := by simp [rank, hp]
      have ne : p.1 ≠ k := fun q => key_irr k (by rw [q] at hp; exact hp)
      have el : lkup (p :: t) k = lkup t k := by simp [lkup, ne]
      rw [e, el]
      have : putF (p :: t) k f = p :: putF t k f := by simp [putF, hp]
      rw [this, ih]
      split
      · simp
      · simp
    · have e : rank (p :: t) k = 0 := by simp [rank, hp]
      rw [e]
      by_cases hq : p.1 = k
      · have el : lkup (p :: t) k = some p.2 := by simp [lkup, hq]
        have : putF (p :: t) k f = (k, f) :: t := by unfold putF; rw [if_neg hp, if_pos hq]
        rw [el, this]
        simp
      · have hkp : k < p.1 := by
          rcases key_tri p.1 k with q | q | q
          · exact absurd q hp
          · exact absurd q hq
          · exact q
        have el : lkup (p :: t) k = none := lkup_none_lt fun q hq => by
          rcases List.mem_cons.1 hq with rfl | hq
          · exact hkp
          · exact key_trans hkp (h1 q hq)
        have : putF (p :: t) k f = (k, f) :: p :: t := by unfold putF; rw [if_neg hp, if_neg hq]
        rw [el, this]
        simp
theorem del_rank (k : Key) : ∀ (fs : List (Key × α)), SortedF fs → (lkup fs k).isSome = true → delF fs k = fs.take (rank fs k) ++ fs.drop (rank fs k + 1)
  | [], _, h => by simp [lkup] at h
  | p :: t, hs, h => by
    obtain ⟨h1, h2⟩ := List.pairwise_cons.1 hs
    by_cases hp : p.1 < k
    · have e : rank (p :: t) k = rank t k + 1 := by simp [rank, hp]
      have ne : p.1 ≠ k := fun q => key_irr k (by rw [q] at hp; exact hp)
      have el : lkup (p :: t) k = lkup t k := by simp [lkup, ne]
      rw [el] at h
      have ih := del_rank k t h2 h
      have : delF (p :: t) k = p :: delF t k := by simp [delF, ne]
      rw [e, this, ih]
      simp
    · have e : rank (p :: t) k = 0 := by simp [rank, hp]
      have hpk : p.1 = k := by
        apply Classical.byContradiction
        intro hq
        have hkp : k < p.1 := by
          rcases key_tri p.1 k with q | q | q
          · exact absurd q hp
          · exact absurd q hq
          · exact q
        rw [lkup_none_lt (fun q hq => by
          rcases List.mem_cons.1 hq with rfl | hq
          · exact hkp
          · exact key_trans hkp (h1 q hq))] at h
        cases h
      rw [e]
      have : delF (p :: t) k = t := by
        unfold delF
        rw [List.filter_cons]
        simp only [ne_eq, hpk, not_true_eq_false, decide_false]
        refine List.filter_eq_self.2 fun q hq => ?_
        have := h1 q hq
        simp only [decide_eq_true_eq]
        intro e2
        rw [hpk, e2] at this
        exact key_irr _ this
      rw [this]
      simp
end rank

/-! Files in memory. -/
def fCells (p : Key × FM) : List Value := [.string (ofK p.1), .string (ofK p.2.b), .int .i64 (p.2.s : Nat)]
def fsCells (l : List (Key × FM)) : List Value := l.flatMap fCells
theorem fsCells_length (l : List (Key × FM)) : (fsCells l).length = l.length * 3 := by
  induction l with
  | nil => rfl
  | cons e l ih => simp [fsCells, fCells] at ih ⊢; omega
theorem fsCells_append (l m : List (Key × FM)) : fsCells (l ++ m) = fsCells l ++ fsCells m := by simp [fsCells]
theorem fsCells_one (l : List (Key × FM)) : ∀ u ∈ fsCells l, u.oneCell' = true := by
  intro u hu
  simp only [fsCells, List.mem_flatMap, fCells] at hu
  obtain ⟨e, _, he⟩ := hu
  simp at he
  rcases he with rfl | rfl | rfl <;> rfl
theorem fsCells_getElem? : ∀ (l : List (Key × FM)) (i j : Nat) (h : i < l.length) (hj : j < 3), (fsCells l)[i * 3 + j]? = (fCells l[i])[j]?
  | e :: l, 0, j, h, hj => by
    simp only [fsCells, List.flatMap_cons, Nat.zero_mul, Nat.zero_add, List.getElem_cons_zero]
    rw [List.getElem?_append_left (by simp [fCells]; omega)]
  | e :: l, i + 1, j, h, hj => by
    have ih := fsCells_getElem? l i j (by simpa using h) hj
    simp only [fsCells, List.flatMap_cons, List.getElem_cons_succ] at ih ⊢
    rw [List.getElem?_append_right (by simp [fCells]; omega)]
    rw [← ih]; congr 1; simp [fCells]; omega
def FAt (w : World) (b o : Nat) (p : Key × FM) : Prop :=
  w.cell? ⟨b, o, none⟩ = some (.string (ofK p.1)) ∧ w.cell? ⟨b, o + 1, none⟩ = some (.string (ofK p.2.b)) ∧ w.cell? ⟨b, o + 2, none⟩ = some (.int .i64 (p.2.s : Nat))
def Fls (w : World) (a : Option Addr) (l : List (Key × FM)) : Prop :=
  ∀ i (h : i < l.length), ∃ b off, a = some ⟨b, off, none⟩ ∧ FAt w b (off + i * 3) l[i]
theorem Fls.upd {S : Nat → Prop} {w w' : World} {a : Option Addr} {l : List (Key × FM)} (h : Fls w a l) (hu : Upd S w w') (hS : ∀ b, S b → NoStr w b) : Fls w' a l := by
  intro i hi
  obtain ⟨b, off, e, h0, h1, h2⟩ := h i hi
  have hb : ¬ S b := fun q => hS b q _ _ h0
  exact ⟨b, off, e, hu.cell hb h0, hu.cell hb h1, hu.cell hb h2⟩
theorem Fls.below {w w' : World} {a : Option Addr} {l : List (Key × FM)} (h : Fls w a l) (hb : Below w.heap.size w w') : Fls w' a l :=
  h.upd (S := fun _ => False) (Upd.of_below hb) fun _ q => q.elim
theorem fls_nil (w : World) (a : Option Addr) : Fls w a [] := fun i h => by simp at h
theorem Fls.take {w : World} {a : Option Addr} {l : List (Key × FM)} (h : Fls w a l) (k : Nat) : Fls w a (l.take k) := by
  intro i hi
  have hi' : i < l.length := by simp at hi; omega
  obtain ⟨b, off, e, hc⟩ := h i hi'
  exact ⟨b, off, e, by simpa using hc⟩
theorem Fls.drop {w : World} {a : Option Addr} {l : List (Key × FM)} (h : Fls w a l) {cap : Nat} (hl : l.length ≤ cap) (k : Nat) : Fls w (cutFrom a cap k 3) (l.drop k) := by
  intro i hi
  have hi' : k + i < l.length := by simp at hi; omega
  obtain ⟨b, off, e, hc⟩ := h (k + i) hi'
  refine ⟨b, off + k * 3, ?_, ?_⟩
  · unfold cutFrom; rw [if_neg (by omega), e]; simp [addr_add]
  · have : off + k * 3 + i * 3 = off + (k + i) * 3 := by omega
    rw [this]; simpa using hc
theorem Fls.get {w : World} {b off : Nat} {l : List (Key × FM)} (h : Fls w (some ⟨b, off, none⟩) l) (i : Nat) (hi : i < l.length) : FAt w b (off + i * 3) l[i] := by
  obtain ⟨b', off', e, hc⟩ := h i hi
  simp only [Option.some.injEq, Addr.mk.injEq, and_true] at e
  obtain ⟨rfl, rfl⟩ := e
  exact hc
theorem Fls.news {w : World} {b off : Nat} {l : List (Key × FM)} (h : Fls w (some ⟨b, off, none⟩) l) : ∀ j u, (fsCells l)[j]? = some u → w.cell? ((⟨b, off, none⟩ : Addr).add j) = some u := by
  intro j u hu
  have hj : j < l.length * 3 := by
    rcases Nat.lt_or_ge j (l.length * 3) with h' | h'
    · exact h'
    · rw [List.getElem?_eq_none (by rw [fsCells_length]; exact h')] at hu; cases hu
  have hi : j / 3 < l.length := by omega
  have hm : j % 3 < 3 := Nat.mod_lt _ (by omega)
  have e : j / 3 * 3 + j % 3 = j := by omega
  have h1 := fsCells_getElem? l (j / 3) (j % 3) hi hm
  rw [e, hu] at h1
  obtain ⟨c0, c1, c2⟩ := h.get (j / 3) hi
  rw [addr_add]
  have hr : j % 3 = 0 ∨ j % 3 = 1 ∨ j % 3 = 2 := by omega
  rcases hr with r | r | r <;> rw [r] at h1 <;> simp [fCells] at h1 <;> subst h1
  · have : off + j = off + j / 3 * 3 := by omega
    rw [this]; exact c0
  · have : off + j = off + j / 3 * 3 + 1 := by omega
    rw [this]; exact c1
  · have : off + j = off + j / 3 * 3 + 2 := by omega
    rw [this]; exact c2
def OwnF (w : World) (K : Nat) (v : Value) (l : List (Key × FM)) : Prop := w.ownsRow K 75 3 v l.length (fsCells l)
theorem OwnF.read {w : World} {K : Nat} {v : Value} {l : List (Key × FM)} (h : OwnF w K v l) :
    ∃ x c, v = .slice x l.length c ∧ l.length ≤ c ∧ c ≤ maxLen ∧ Fls w x l ∧ (∀ y, x = some y → K ≤ y.block ∧ y.spot = none) ∧ (x = none → c = 0) := by
  have h' : w.ownsRow K 75 3 v l.length (fsCells l) := h
  obtain ⟨h1, h2⟩ := h'
  rcases h2 with ⟨rfl, h2⟩ | ⟨g, cap, cur, rfl, hg, hh, h3, h4, h5, h6⟩
  · have : l = [] := List.eq_nil_of_length_eq_zero h2
    subst this
    exact ⟨none, 0, rfl, Nat.le_refl _, by unfold maxLen; omega, fls_nil _ _, (fun y e => by cases e), fun _ => rfl⟩
  · refine ⟨some ⟨g, 0, none⟩, cap, rfl, h3, h4, fun i hi => ⟨g, 0, rfl, ?_⟩, (fun y e => by cases e; exact ⟨hg, rfl⟩), fun e => by cases e⟩
    have hc : ∀ j, j < 3 → w.cell? ⟨g, i * 3 + j, none⟩ = (fCells l[i])[j]? := by
      intro j hj
      rw [World.ownsRow.cellAt h (i * 3 + j) (by omega), fsCells_getElem? l i j hi hj]
    rw [Nat.zero_add]
    exact ⟨hc 0 (by omega), hc 1 (by omega), hc 2 (by omega)⟩

section laws
variable {ops : Array Oper} {rest : List Oper} {o : Oper} {a : Act} {Q : Exit → Act → World → Prop}
theorem infoF : (Try.prog.info? 75).map (fun i => (i.zero, i.size, i.bytes)) = some (some (.agg #[.string ⟨#[]⟩, .string ⟨#[]⟩, .int .i64 0]), 3, 40) := by kernel_rfl
/-- 'append(out, m...)'. -/
theorem app_fs (w : World) (hgd : o.guard = none) (s x : Operand) (ho : o.op = .call { callee := .builtin .append, args := #[s, x], argTypes := #[70, 70] })
    {K : Nat} {v : Value} {l : List (Key × FM)} (hs : a.eval s = v) (hown : OwnF w K v l) {y : Option Addr} {m : List (Key × FM)} {c n : Nat} (hn : n = m.length) (hx : a.eval x = .slice y n c) (hm : Fls w y m)
    (hl : l.length ≤ 1000000000000) (hl2 : m.length ≤ 1000000000000) (hK : K ≤ w.heap.size)
    (h : ∀ v' w', OwnF w' K v' (l ++ m) → Below K w w' → wpList Try.prog ops Q rest (a.put o.dst v') w') : wpList Try.prog ops Q (o :: rest) a w := by
  obtain ⟨i0, hi0, hz0, hz1, hz2⟩ := info_parts infoF
  subst hn
  by_cases hb0 : m = []
  · subst hb0
    obtain ⟨y0, c0, rfl, hle, _, _, _, hz⟩ := hown.read
    exact app_zero hgd s x 70 ho 75 i0 Try.underlying70 hi0 y0 l.length c0 hle hz hs hx (h _ _ (by simpa using hown) (Below.refl _ _))
  · have hpos : 0 < m.length := List.length_pos_iff.2 hb0
    obtain ⟨b, off, rfl, _⟩ := hm 0 hpos
    refine wpList_append_lies w hgd s x 70 ho K 75 i0 _ 3 40 Try.underlying70 hi0 hz0 hz1 hz2 rfl (by decide) v l.length (fsCells l) hs hown ⟨b, off, none⟩ m.length c (fsCells m) hx (by rw [fsCells_length])
      hm.news (fsCells_one _) hpos (by unfold maxLen; omega) (by omega) hK _ rfl ?_
    intro g cap w' h1 h2 h3 h4
    refine h _ _ ?_ ((Below.refl K w).grown h2 hK (fun k hk => (hown.lt k hk).1))
    rw [← fsCells_append] at h1
    show w'.ownsRow K 75 3 _ (l ++ m).length (fsCells (l ++ m))
    rw [List.length_append]
    exact h1
/-- 'append(out, x)': x lies in a new block. -/
theorem app_f (w : World) (hgd : o.guard = none) (s x : Operand) (ho : o.op = .call { callee := .builtin .append, args := #[s, x], argTypes := #[70, 70] })
    {K : Nat} {v : Value} {l : List (Key × FM)} (hs : a.eval s = v) (hown : OwnF w K v l) {B : Nat} {p : Key × FM} {fr : Nat × Nat} (hx : a.eval x = .slice (some ⟨B, 0, none⟩) 1 1) (hB : w.heap[B]? = some (.cells (fCells p).toArray 75 fr))
    (hl : l.length ≤ 1000000000000) (hK : K ≤ w.heap.size)
    (h : ∀ v' w', OwnF w' K v' (l ++ [p]) → Below K w w' → wpList Try.prog ops Q rest (a.put o.dst v') w') : wpList Try.prog ops Q (o :: rest) a w :=
  app_fs w hgd s x ho hs hown (m := [p]) rfl hx (fun i hi => by
    obtain rfl : i = 0 := by simpa using hi
    refine ⟨B, 0, rfl, ?_, ?_, ?_⟩ <;> (simp only [World.cell?, hB]; rfl)) hl (by simp) hK h
end laws

/-! The reference's disk. -/
def refCells (v : Value) (A : DM) : Array Value := #[v, .int .i64 (A.room : Nat), .bool A.dead, .int .i64 A.fuse, .int .i64 (A.done : Nat)]
structure RefSt (w : World) (bw : Nat) (A : DM) : Prop where
  box : ∃ x c, w.heap[bw]? = some (.cells (refCells (.slice x A.fs.length c) A) 72 (0, 0)) ∧ A.fs.length ≤ c ∧ c ≤ maxLen ∧ Fls w x A.fs ∧ (x = none → c = 0)
  ok : A.Ok
theorem RefSt.lt {w : World} {bw : Nat} {A : DM} (h : RefSt w bw A) : bw < w.heap.size := by
  obtain ⟨x, c, hb, _⟩ := h.box
  exact heap_lt hb
theorem RefSt.noStr {w : World} {bw : Nat} {A : DM} (h : RefSt w bw A) : NoStr w bw := by
  obtain ⟨x, c, hb, _⟩ := h.box
  intro j s hc
  simp only [World.cell?, hb, refCells] at hc
  match j with
  | 0 => simp at hc
  | 1 => simp at hc
  | 2 => simp at hc
  | 3 => simp at hc
  | 4 => simp at hc
  | j + 5 => simp at hc
theorem RefSt.noU8 {w : World} {bw : Nat} {A : DM} (h : RefSt w bw A) : NoU8 w bw := by
  obtain ⟨x, c, hb, _⟩ := h.box
  intro j s hc
  simp only [World.cell?, hb, refCells] at hc
  match j with
  | 0 => simp at hc
  | 1 => simp at hc
  | 2 => simp at hc
  | 3 => simp at hc
  | 4 => simp at hc
  | j + 5 => simp at hc
theorem RefSt.upd {S : Nat → Prop} {w w' : World} {bw : Nat} {A : DM} (h : RefSt w bw A) (hu : Upd S w w') (hS : ∀ b, S b → NoStr w b) (hn : ¬ S bw) : RefSt w' bw A := by
  obtain ⟨x, c, hb, h1, h2, h3, h4⟩ := h.box
  exact ⟨⟨x, c, hu.heap hn hb, h1, h2, h3.upd hu hS, h4⟩, h.ok⟩
theorem RefSt.later {w w' : World} {bw : Nat} {A : DM} (h : RefSt w bw A) (hb : Below w.heap.size w w') : RefSt w' bw A :=
  h.upd (S := fun _ => False) (Upd.of_below hb) (fun _ q => q.elim) (fun q => q)
/-- Both disks are in blocks of their own. -/
theorem RefSt.ne {w : World} {bd bm bw : Nat} {A B : DM} (h : RefSt w bw A) (hd : DiskSt w bd bm B) : ¬ DS bd bm bw := by
  obtain ⟨x, c, hb, _⟩ := h.box
  rintro (e | e)
  · have := hd.box
    rw [← e, hb] at this
    simp [diskCells, refCells] at this
  · obtain ⟨D, ⟨es, clock, hm, _⟩, _⟩ := hd.map
    rw [← e, hb] at hm
    cases hm
theorem RefSt.set {w' : World} {bw : Nat} {B : DM} {x : Option Addr} {c : Nat} (hok : B.Ok) (hc : B.fs.length ≤ c) (hm : c ≤ maxLen) (hf : Fls w' x B.fs) (hz : x = none → c = 0)
    (hbox : w'.heap[bw]? = some (.cells (refCells (.slice x B.fs.length c) B) 72 (0, 0))) : RefSt w' bw B := ⟨⟨x, c, hbox, hc, hm, hf, hz⟩, hok⟩
/-- The reference's disk, opened. -/
structure RB (w : World) (bw : Nat) (x : Option Addr) (c : Nat) (A : DM) : Prop where
  box : w.heap[bw]? = some (.cells (refCells (.slice x A.fs.length c) A) 72 (0, 0))
  le : A.fs.length ≤ c
  cap : c ≤ maxLen
  fls : Fls w x A.fs
  nil : x = none → c = 0
theorem RefSt.open {w : World} {bw : Nat} {A : DM} (h : RefSt w bw A) : ∃ x c, RB w bw x c A := by
  obtain ⟨x, c, h1, h2, h3, h4, h5⟩ := h.box
  exact ⟨x, c, h1, h2, h3, h4, h5⟩
theorem RB.cells {w : World} {bw : Nat} {x : Option Addr} {c : Nat} {A : DM} (h : RB w bw x c A) :
    (w.cell? ⟨bw, 0, none⟩ = some (.slice x A.fs.length c) ∧ w.cell? ⟨bw, 1, none⟩ = some (.int .i64 (A.room : Nat)) ∧ w.cell? ⟨bw, 2, none⟩ = some (.bool A.dead) ∧ w.cell? ⟨bw, 3, none⟩ = some (.int .i64 A.fuse) ∧ w.cell? ⟨bw, 4, none⟩ = some (.int .i64 (A.done : Nat))) ∧ (∀ j, w.frozen? ⟨bw, j, none⟩ = false) := by
  have hb := h.box
  refine ⟨⟨?_, ?_, ?_, ?_, ?_⟩, fun j => ?_⟩
  · simp [World.cell?, hb, refCells]
  · simp [World.cell?, hb, refCells]
  · simp [World.cell?, hb, refCells]
  · simp [World.cell?, hb, refCells]
  · simp [World.cell?, hb, refCells]
  · simp [World.frozen?, hb]
theorem RB.later {w w' : World} {bw : Nat} {x : Option Addr} {c : Nat} {A : DM} (h : RB w bw x c A) (hb : Below w.heap.size w w') : RB w' bw x c A :=
  ⟨heap_below h.box hb, h.le, h.cap, h.fls.below hb, h.nil⟩
theorem RB.ref {w : World} {bw : Nat} {x : Option Addr} {c : Nat} {A : DM} (h : RB w bw x c A) (ho : A.Ok) : RefSt w bw A := ⟨⟨x, c, h.box, h.le, h.cap, h.fls, h.nil⟩, ho⟩
theorem ofK_toL (k : Key) : (ofK k).toList = k := by rw [toL]; simp [ofK]
theorem ofK_less (k k2 : Key) : Op.bytesLess (ofK k).toList (ofK k2).toList = decide (k < k2) := by rw [ofK_toL, ofK_toL, bytesLess_eq]
theorem ofK_eq (k k2 : Key) : ((ofK k).toList == (ofK k2).toList) = decide (k = k2) := by rw [ofK_toL, ofK_toL]; by_cases h : k = k2 <;> simp [h]
end Go.Proofs.Ytjojomjnbiakoaa
