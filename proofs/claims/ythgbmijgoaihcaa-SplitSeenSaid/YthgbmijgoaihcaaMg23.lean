/-
  Merge: the walk's state.
-/
import Derived.Test.YthgbmijgoaihcaaMg22
import Derived.Test.YthgbmijgoaihcaaSplit1
import Derived.Deep.DeepCutAuto
namespace Go.Proofs.Ythgbmijgoaihcaa
open Go.RowKit
set_option linter.unusedVariables false

/-- The rests' rows, in a block of the call's own. -/
structure OwnR (w : World) (K : Nat) (y : Option Addr) (n c : Nat) (rs : List Row) : Prop where
  own : w.ownsRow K 22 1 (.slice y n c) n (rs.map Row.val)
  len : rs.length = n
theorem OwnR.cell {w : World} {K n c : Nat} {y : Option Addr} {rs : List Row} (h : OwnR w K y n c rs) (i : Nat) (hi : i < n) :
    ∃ g, y = some ⟨g, 0, none⟩ ∧ w.cell? ⟨g, i, none⟩ = some (.slice (rs.getD i default).a (rs.getD i default).l.length (rs.getD i default).cap) ∧ w.frozen? ⟨g, i, none⟩ = false ∧ K ≤ g ∧ g < w.heap.size := by
  have ho := h.own
  have hl := h.len
  obtain ⟨g, hg⟩ : ∃ g, y = some ⟨g, 0, none⟩ := by
    obtain ⟨_, h2⟩ := h.own
    rcases h2 with ⟨h2, _⟩ | ⟨g, cap, cur, hv, _⟩
    · cases h2; omega
    · cases hv; exact ⟨g, rfl⟩
  subst hg
  refine ⟨g, rfl, ?_, ho.frozenAt i, (ho.lt g rfl).1, (ho.lt g rfl).2⟩
  rw [ho.cellAt i (by omega)]
  have hi' : i < rs.length := by omega
  simp [List.getD_eq_getElem?_getD, hi', Row.val]
theorem OwnR.block {w w' : World} {K n c : Nat} {y : Option Addr} {rs : List Row} (h : OwnR w K y n c rs) (hb : ∀ g, y = some ⟨g, 0, none⟩ → w'.heap[g]? = w.heap[g]?) : OwnR w' K y n c rs := by
  refine ⟨⟨h.own.1, ?_⟩, h.len⟩
  rcases h.own.2 with h2 | ⟨g, cap, cur, hv, hg, hh, r⟩
  · exact Or.inl h2
  · refine Or.inr ⟨g, cap, cur, hv, hg, ?_, r⟩
    cases hv
    rw [hb g rfl]; exact hh
theorem OwnR.later {w w' : World} {K n c : Nat} {y : Option Addr} {rs : List Row} (h : OwnR w K y n c rs) (hb : Below w.heap.size w w') : OwnR w' K y n c rs :=
  h.block fun g hg => hb.block g (by
    subst hg
    exact (h.own.lt g rfl).2)
theorem OwnR.stored {w : World} {K n c : Nat} {g : Nat} {rs : List Row} (h : OwnR w K (some ⟨g, 0, none⟩) n c rs) (i : Nat) (r : Row) : OwnR (w.setCell ⟨g, i, none⟩ (.slice r.a r.l.length r.cap)) K (some ⟨g, 0, none⟩) n c (rs.set i r) := by
  refine ⟨?_, by simpa using h.len⟩
  have := (h.own.stored i r.val).1
  rw [List.map_set]
  exact this
theorem cloned_own {w w' : World} {v : Value} {ls : List (List Ent)} (h : Cloned w w' v ls) : ∃ y c rs, v = .slice y ls.length c ∧ rs.map (·.l) = ls ∧ RowsOk w rs ∧ OwnR w' w.heap.size y ls.length c rs := by
  obtain ⟨rs, h1, h2, h3⟩ := h
  have hl : rs.length = ls.length := by rw [← h1]; simp
  rw [hl] at h3
  have h3' := h3
  rcases h3.2 with ⟨rfl, hn⟩ | ⟨g, cap, cur, rfl, _⟩
  · exact ⟨none, 0, rs, by rw [hn], h1, h2, by rw [hn] at h3' ⊢; exact ⟨h3', by omega⟩⟩
  · exact ⟨_, cap, rs, rfl, h1, h2, ⟨h3', hl⟩⟩
def bInt : Option Nat → Int
  | none => -1
  | some b => b
def vlen : Value → Nat
  | .slice _ n _ => n
  | _ => 0
def total (rs : List Row) : Nat := (rs.map fun r => r.l.length).sum
def Merged (w' : World) (K : Nat) (v : Value) (ls : List (List Ent)) : Prop := ∃ m, OwnE 33 w' K v m ∧ IsMerge ls m
/-- What the outer loop keeps. -/
structure MSt (w : World) (K2 : Nat) (y : Option Addr) (n c : Nat) (ls : List (List Ent)) (T : Nat) (wr : World) (ov : Value) (rs : List Row) (out : List Ent) : Prop where
  ok : RowsOk w rs
  own : OwnR wr w.heap.size y n c rs
  outs : OwnE 33 wr K2 ov out
  bel : Below w.heap.size w wr
  le : K2 ≤ wr.heap.size
  lo : w.heap.size ≤ K2
  yk : ∀ g, y = some ⟨g, 0, none⟩ → g < K2
  inv : MInv ls (rs.map (·.l)) out
  tot : out.length + total rs ≤ T
theorem MSt.later {w : World} {K2 : Nat} {y : Option Addr} {n c : Nat} {ls : List (List Ent)} {T : Nat} {wr w' : World} {ov : Value} {rs : List Row} {out : List Ent} (h : MSt w K2 y n c ls T wr ov rs out) (hb : Below wr.heap.size wr w') : MSt w K2 y n c ls T w' ov rs out :=
  ⟨h.ok, h.own.later hb, h.outs.later hb, h.bel.trans (hb.mono h.bel.size), Nat.le_trans h.le hb.size, h.lo, h.yk, h.inv, h.tot⟩
theorem getD_rows (rs : List Row) (i : Nat) : (rs.map (·.l)).getD i [] = (rs.getD i default).l := by
  rcases Nat.lt_or_ge i rs.length with h | h
  · simp [List.getD_eq_getElem?_getD, h]
  · simp [List.getD_eq_getElem?_getD, h]; rfl
theorem MSt.row {w : World} {K2 : Nat} {y : Option Addr} {n c : Nat} {ls : List (List Ent)} {T : Nat} {wr : World} {ov : Value} {rs : List Row} {out : List Ent} (h : MSt w K2 y n c ls T wr ov rs out) (i : Nat) (hi : i < n) :
    (rs.getD i default).l.length ≤ (rs.getD i default).cap ∧ (rs.getD i default).cap ≤ maxLen ∧ Ents wr (rs.getD i default).a (rs.getD i default).l := by
  have hl := h.own.len
  have hm : rs.getD i default ∈ rs := by
    rw [show rs.getD i default = rs[i]'(by omega) by simp [List.getD_eq_getElem?_getD, show i < rs.length by omega]]
    exact List.getElem_mem _
  obtain ⟨h1, h2, h3⟩ := h.ok _ hm
  exact ⟨h1, h2, h3.below h.bel⟩

theorem MSt.row0 {w : World} {K2 : Nat} {y : Option Addr} {n c : Nat} {ls : List (List Ent)} {T : Nat} {wr : World} {ov : Value} {rs : List Row} {out : List Ent} (h : MSt w K2 y n c ls T wr ov rs out) (i : Nat) (hi : i < n) :
    (rs.getD i default).l.length ≤ (rs.getD i default).cap ∧ (rs.getD i default).cap ≤ maxLen ∧ Ents w (rs.getD i default).a (rs.getD i default).l := by
  have hl := h.own.len
  refine h.ok _ ?_
  rw [show rs.getD i default = rs[i]'(by omega) by simp [List.getD_eq_getElem?_getD, show i < rs.length by omega]]
  exact List.getElem_mem _
/-- What the popping loop keeps. -/
structure PSt (w : World) (K2 E g n c : Nat) (x : Ent) (wz : World) (ov : Value) (o2 : List Ent) (rs' : List Row) : Prop where
  own : OwnR wz w.heap.size (some ⟨g, 0, none⟩) n c rs'
  outs : OwnE 33 wz K2 ov o2
  bel : Below w.heap.size w wz
  le : K2 ≤ wz.heap.size
  box : wz.heap[E]? = some (.cells (entCells x).toArray 33 (0, 0))
  lt : g < K2
  gE : K2 ≤ E
  lo : w.heap.size ≤ g
theorem PSt.later {w : World} {K2 E g n c : Nat} {x : Ent} {wz w' : World} {ov : Value} {o2 : List Ent} {rs' : List Row} (h : PSt w K2 E g n c x wz ov o2 rs') (hb : Below wz.heap.size wz w') : PSt w K2 E g n c x w' ov o2 rs' :=
  ⟨h.own.later hb, h.outs.later hb, h.bel.trans (hb.mono h.bel.size), Nat.le_trans h.le hb.size, by rw [hb.block E (heap_lt h.box)]; exact h.box, h.lt, h.gE, h.lo⟩
theorem PSt.stored {w : World} {K2 E g n c : Nat} {x : Ent} {wz : World} {ov : Value} {o2 : List Ent} {rs' : List Row} (h : PSt w K2 E g n c x wz ov o2 rs') (i : Nat) (r : Row) : PSt w K2 E g n c x (wz.setCell ⟨g, i, none⟩ (.slice r.a r.l.length r.cap)) ov o2 (rs'.set i r) :=
  ⟨h.own.stored i r, ⟨ownsRow_setCell_below h.outs.1 h.lt _, h.outs.2⟩, h.bel.setCell h.lo _, by simpa using h.le, (Below.heap_setCell _ _ _ _ (by have h1 := h.lt; have h2 := h.gE; simp; omega)).trans h.box, h.lt, h.gE, h.lo⟩
theorem ahead50_at (x y : Ent) (w : World) (hx : x.ok) (hy : y.ok) :
    Calls Try.prog 50 #[.agg #[.string x.user, .int .u64 (x.seq : Nat), .int .u8 (x.kind : Nat), .string x.value], .agg #[.string y.user, .int .u64 (y.seq : Nat), .int .u8 (y.kind : Nat), .string y.value]] w fun e w' => e = .returned (.bool (ahead x y)) ∧ Below w.heap.size w w' := ahead50_any x y w hx hy
theorem best_step (rs : List Row) (i : Nat) : bestTo (rs.map (·.l)) (i + 1) = if (rs.getD i default).l ≠ [] ∧ (∀ b, bestTo (rs.map (·.l)) i = some b → ahead ((rs.getD i default).l.getD 0 default) ((rs.getD b default).l.getD 0 default) = true) then some i else bestTo (rs.map (·.l)) i := by
  have : bestTo (rs.map (·.l)) (i + 1) = if ((rs.map (·.l)).getD i []) ≠ [] ∧ (∀ b, bestTo (rs.map (·.l)) i = some b → ahead (((rs.map (·.l)).getD i []).getD 0 default) (((rs.map (·.l)).getD b []).getD 0 default) = true) then some i else bestTo (rs.map (·.l)) i := rfl
  rw [this]
  simp only [getD_rows]
section laws
variable {P : Program} {ops : Array Oper} {rest : List Oper} {o : Oper} {a : Act} {Q : Exit → Act → World → Prop}
/-- As app_ent2; and every block but the row's own is kept. -/
theorem app_ent3 (w : World) (hgd : o.guard = none) (s x : Operand) (t : TypeId) (ho : o.op = .call { callee := .builtin .append, args := #[s, x], argTypes := #[t, t] })
    {E : TypeId} (ht : P.underlying t = some (.slice E)) {z : Value} (hi : (P.info? E).map (fun i => (i.zero, i.size, i.bytes)) = some (some z, 4, 48)) (hzc : z.cells.size = 4)
    {K : Nat} {v : Value} {l : List Ent} (hs : a.eval s = v) (hown : OwnE E w K v l) {B : Nat} {e : Ent} {fr : Nat × Nat} (hx : a.eval x = .slice (some ⟨B, 0, none⟩) 1 1) (hB : w.heap[B]? = some (.cells (entCells e).toArray E fr)) (he : e.ok)
    (hl : l.length + 1 ≤ 2932031007402) (hK : K ≤ w.heap.size)
    (h : ∀ v' w', OwnE E w' K v' (l ++ [e]) → Below K w w' → (∀ k, k < w.heap.size → v.ownBlock ≠ some k → w'.heap[k]? = w.heap[k]?) → wpList P ops Q rest (a.put o.dst v') w') : wpList P ops Q (o :: rest) a w := by
  obtain ⟨i0, hi0, hz0, hz1, hz2⟩ := info_parts hi
  refine wpList_append_lies w hgd s x t ho K E i0 z 4 48 ht hi0 hz0 hz1 hz2 hzc (by decide) v l.length (entsCells l) hs hown.1 ⟨B, 0, none⟩ 1 1 (entsCells [e]) hx (by rw [entsCells_length]; rfl)
    (by have := World.news_of_block hB; simpa [entsCells] using this) (entsCells_one _) (by omega) (by unfold maxLen; omega) (by omega) hK _ rfl ?_
  intro g cap w' h1 h2 h3 h4
  refine h _ _ ⟨?_, ?_⟩ ?_ ?_
  · rw [← entsCells_append] at h1
    simpa using h1
  · intro e' he'
    rcases List.mem_append.1 he' with h' | h'
    · exact hown.2 e' h'
    · simp at h'; subst h'; exact he
  · exact (Below.refl K w).grown h2 hK (fun k hk => (hown.1.lt k hk).1)
  · exact fun k hk hne => h2.block k hk (fun e => hne e.symm)
end laws
def popR (x : Ent) (r : Row) : Row := match r.l with
  | [] => r
  | y :: s => if ahead x y = true then r else ⟨cutFrom r.a r.cap 1 4, r.cap - 1, s⟩
theorem popR_l (x : Ent) (r : Row) : (popR x r).l = pop1 x r.l := by
  unfold popR
  split
  · rename_i h; rw [h]; rfl
  · rename_i y s h
    rw [h, pop1_cons]
    split
    · exact h
    · rfl
theorem popR_ok {w : World} {r : Row} (x : Ent) (h : r.l.length ≤ r.cap ∧ r.cap ≤ maxLen ∧ Ents w r.a r.l) : (popR x r).l.length ≤ (popR x r).cap ∧ (popR x r).cap ≤ maxLen ∧ Ents w (popR x r).a (popR x r).l := by
  obtain ⟨h1, h2, h3⟩ := h
  unfold popR
  split
  · exact ⟨h1, h2, h3⟩
  · rename_i y s hs
    split
    · exact ⟨h1, h2, h3⟩
    · rw [hs] at h1 h3
      have := Ents.drop h3 h1 1
      simp only [List.length_cons] at h1
      exact ⟨by dsimp only; omega, by dsimp only; omega, by simpa using this⟩
theorem total_le : ∀ (rs rs' : List Row), rs.length = rs'.length → (∀ j, (rs'.getD j default).l.length ≤ (rs.getD j default).l.length) → total rs' ≤ total rs ∧ ∀ b, (rs'.getD b default).l.length + 1 ≤ (rs.getD b default).l.length → total rs' + 1 ≤ total rs
  | [], [], _, _ => ⟨Nat.le_refl _, fun b h => by simp at h; omega⟩
  | [], _ :: _, h, _ => by simp at h
  | _ :: _, [], h, _ => by simp at h
  | r :: rs, r' :: rs', h, hj => by
    obtain ⟨i1, i2⟩ := total_le rs rs' (by simpa using h) (fun j => by simpa using hj (j + 1))
    have h0 : r'.l.length ≤ r.l.length := by simpa using hj 0
    have t1 : total (r :: rs) = r.l.length + total rs := by simp [total]
    have t2 : total (r' :: rs') = r'.l.length + total rs' := by simp [total]
    rw [t1, t2]
    refine ⟨by omega, fun b hb => ?_⟩
    cases b with
    | zero => have : r'.l.length + 1 ≤ r.l.length := by simpa using hb
              omega
    | succ b => have := i2 b (by simpa using hb); omega
/-- The round's end. -/
theorem MSt.popped {w : World} {K2 : Nat} {y : Option Addr} {n c : Nat} {ls : List (List Ent)} {T : Nat} {wr w' : World} {ov ov' : Value} {rs rs' : List Row} {out : List Ent} (h : MSt w K2 y n c ls T wr ov rs out) {b : Nat} {x : Ent} {t : List Ent}
    (hb : (rs.getD b default).l = x :: t) (hbn : b < n)
    (hmin : ∀ i, i < n → (rs.map (·.l)).getD i [] ≠ [] → ahead (((rs.map (·.l)).getD i []).getD 0 default) (((rs.map (·.l)).getD b []).getD 0 default) = false)
    (hstr : ∀ i, i < b → (rs.map (·.l)).getD i [] ≠ [] → ahead (((rs.map (·.l)).getD b []).getD 0 default) (((rs.map (·.l)).getD i []).getD 0 default) = true)
    (own : OwnR w' w.heap.size y n c rs') (outs : OwnE 33 w' K2 ov' (out ++ [x])) (bel : Below w.heap.size w w') (le : K2 ≤ w'.heap.size)
    (hp : ∀ j, j < n → rs'.getD j default = popR x (rs.getD j default)) : MSt w K2 y n c ls T w' ov' rs' (out ++ [x]) := by
  have hl := h.own.len
  have hl' := own.len
  have hp' : ∀ j, (rs'.getD j default).l = pop1 x (rs.getD j default).l := by
    intro j
    rcases Nat.lt_or_ge j n with q | q
    · rw [hp j q, popR_l]
    · rw [show rs'.getD j default = default by simp [List.getD_eq_getElem?_getD, show ¬ j < rs'.length by omega], show rs.getD j default = default by simp [List.getD_eq_getElem?_getD, show ¬ j < rs.length by omega]]
      rfl
  refine ⟨?_, own, outs, bel, le, h.lo, h.yk, ?_, ?_⟩
  · intro r hr
    obtain ⟨j, hj, rfl⟩ := List.getElem_of_mem hr
    have e : rs'[j] = popR x (rs.getD j default) := by rw [← hp j (by omega)]; simp [List.getD_eq_getElem?_getD, hj]
    rw [e]
    refine popR_ok x (h.ok _ ?_)
    rw [show rs.getD j default = rs[j]'(by omega) by simp [List.getD_eq_getElem?_getD, show j < rs.length by omega]]
    exact List.getElem_mem _
  · have hbl : (rs.map (·.l)).getD b [] = x :: t := by rw [getD_rows]; exact hb
    refine h.inv.round (b := b) (t := t) hbl ?_ ?_ ?_
    · intro i y s hi
      have hin : i < n := by
        rcases Nat.lt_or_ge i n with q | q
        · exact q
        · rw [show (rs.map (·.l)).getD i [] = [] by simp [List.getD_eq_getElem?_getD, show ¬ i < rs.length by omega]] at hi; cases hi
      have := hmin i hin (by rw [hi]; simp)
      rw [hi, hbl] at this
      simpa using this
    · intro i y s hib hi
      have := hstr i hib (by rw [hi]; simp)
      rw [hi, hbl] at this
      simpa using this
    · intro i
      rw [getD_rows, getD_rows]
      exact hp' i
  · have hj : ∀ j, (rs'.getD j default).l.length ≤ (rs.getD j default).l.length := fun j => by rw [hp' j]; exact (pop1_sub x _).length_le
    have h2 := (total_le rs rs' (by omega) hj).2 b (by
      rw [hp' b, hb, pop1_cons, if_neg (by rw [Bool.not_eq_true]; cases hh : ahead x x with | false => rfl | true => exact absurd ((ahead_iff _ _).1 hh) (Bef.irr _))]
      simp)
    have h3 := h.tot
    simp only [List.length_append, List.length_cons, List.length_nil]
    omega
set_option maxRecDepth 100000 in
set_option maxHeartbeats 3200000 in
theorem merge_any (a : Option Addr) (cap : Nat) (ls : List (List Ent)) (w : World) (hl : ls.length ≤ 5864062014805) (hb : EntRows w a ls) (hnil : a = none → cap = 0) (T : Nat) (hT : T ≤ 2932031007400) (htot : (ls.map (·.length)).sum ≤ T) :
    Calls Try.prog 33 #[.slice a ls.length cap] w fun e w' => ∃ v, e = .returned v ∧ Merged w' w.heap.size v ls ∧ Below w.heap.size w w' := by
  have HM := Lib.hid (mrises_any a cap ls w (by unfold maxLen; omega) hb)
  have HCL := Lib.hid (fun w' hb => clone_any a cap ls w' hl hb hnil)
  have HB := Lib.hid hb
  obtain ⟨n, hn⟩ : ∃ n, ls.length = n := ⟨_, rfl⟩
  have HN := Lib.hid hn
  rw [hn] at HM HCL hl ⊢
  clear hb hnil hn
  cases hr : ls.all rises with
  | false =>
    rw [hr] at HM
    have HI : Hid (IsMerge ls []) := Lib.hid (by unfold IsMerge; rw [hr]; simp)
    go_enter Try.func33, Try.ntmps33
    go_wp2_with fail
    refine HM.out.mono ?_
    rintro _ w1 ⟨rfl, hb1⟩
    go_wp2
    go_ret
    exact ⟨_, rfl, ⟨[], OwnE.nil _ _ _, HI.out⟩, hb1⟩
  | true =>
    rw [hr] at HM
    have HR := Lib.hid hr
    clear hr
    go_enter Try.func33, Try.ntmps33
    go_wp2_with fail
    refine HM.out.mono ?_
    rintro _ w1 ⟨rfl, hb1⟩
    have HB1 := Lib.hid hb1
    clear hb1 HM
    go_wp2_with fail
    refine (HCL.out _ (HB.out.below HB1.out)).mono ?_
    rintro _ w2 ⟨v, rfl, hcl, hb2⟩
    obtain ⟨y, c, rs0, rfl, hrs, hok0, hown0⟩ := cloned_own hcl
    rw [HN.out] at hown0 ⊢
    have HST : Hid (MSt w1 w2.heap.size y n c ls T w2 (.slice none 0 0) rs0 []) := Lib.hid
      ⟨hok0, hown0, OwnE.nil _ _ _, hb2, Nat.le_refl _, hb2.size, fun g hg => by subst hg; exact (hown0.own.lt g rfl).2, by rw [hrs]; exact MInv.start ls HR.out, by
        have : total rs0 = (ls.map (·.length)).sum := by unfold total; rw [← hrs, List.map_map]; rfl
        simp only [List.length_nil]; omega⟩
    clear hcl hrs hok0 hown0 hb2 HCL HB
    go_wp2_with fail
    go_loopw [4] (fun ov wr => ∃ rs out, Hid (MSt w1 w2.heap.size y n c ls T wr ov rs out)) (fun ov _ => T - vlen ov)
    case atStart => exact ⟨rs0, [], HST⟩
    case round =>
      obtain ⟨rs, out, HS⟩ := hrel
      obtain ⟨wA, rfl⟩ : ∃ wA, wA = wr := ⟨_, rfl⟩
      clear HST
      go_wp2_with fail
      go_loopw [5, 18] (fun bv iv wz => ∃ i : Nat, i ≤ n ∧ iv = .int .i64 i ∧ bv = .int .i64 (bInt (bestTo (rs.map (·.l)) i)) ∧ Below wA.heap.size wA wz) (fun _ iv _ => n - (intOf iv).toNat)
      case atStart => exact ⟨0, by omega, rfl, rfl, Below.refl _ _⟩
      case round =>
        obtain ⟨i, hi, rfl, rfl, hwz⟩ := hrel
        obtain ⟨wB, rfl⟩ : ∃ wB, wB = wr := ⟨_, rfl⟩
        have HBI := Lib.hid (best_inv (rs.map (·.l)) i)
        have HSS := Lib.hid (best_step rs i)
        have HB := Lib.hid hwz
        clear hwz
        by_cases hlt : i < n
        · have HT := Lib.hid (HS.out.later HB.out)
          obtain ⟨g, rfl, hc, hf, _, _⟩ := HT.out.own.cell i hlt
          obtain ⟨r1, r2, r3⟩ := HT.out.row i hlt
          have hin : (i : Int) < (n : Int) := by omega
          have h0 : (0 : Int) ≤ (i : Int) := by omega
          cases hl : (rs.getD i default).l with
          | nil =>
            rw [hl] at hc HSS
            have HV : Hid (bestTo (rs.map (·.l)) (i + 1) = bestTo (rs.map (·.l)) i) := Lib.hid (by rw [HSS.out]; simp)
            clear hl HSS
            generalize rs.getD i default = r at *
            go_wp2
            go_quiet (fail)
            go_wp2
            exact ⟨⟨i + 1, by omega, by go_num, by rw [HV.out], by first | exact HB.out | exact below_drewN HB.out _⟩, by simp [intOf]; omega⟩
          | cons x t =>
            rw [hl] at hc HSS r1 r3
            obtain ⟨b1, o1, ha1, ⟨e0, e1, e2, e3⟩, hxo⟩ := r3 0 (by simp)
            rw [Nat.zero_mul, Nat.add_zero] at e0 e1 e2 e3
            rw [ha1] at hc
            cases hbt : bestTo (rs.map (·.l)) i with
            | none =>
              rw [hbt] at HSS
              have HV : Hid (bestTo (rs.map (·.l)) (i + 1) = some i) := Lib.hid (by rw [HSS.out]; simp)
              clear hl HSS r1 r3 hbt ha1
              generalize rs.getD i default = r at *
              simp only [List.getElem_cons_zero, List.length_cons] at e0 e1 e2 e3 hc
              have k1 : decide ((0 : Int) < (t.length : Int) + 1) = true := decide_eq_true (by omega)
              show Code.wp _ _ _ _ _
              simp only [bInt]
              go_wp2
              go_quiet (fail)
              go_wp2
              exact ⟨⟨i + 1, by omega, by go_num, by rw [HV.out], by first | exact HB.out | exact below_drewN HB.out _⟩, by simp [intOf]; omega⟩
            | some b =>
              rw [hbt] at HSS
              obtain ⟨hbi, hbne, _, _⟩ := HBI.out.2 b hbt
              rw [getD_rows] at hbne
              obtain ⟨tb, htb⟩ : ∃ tb, ahead x ((rs.getD b default).l.getD 0 default) = tb := ⟨_, rfl⟩
              have HV : Hid (bestTo (rs.map (·.l)) (i + 1) = if tb = true then some i else some b) := Lib.hid (by
                rw [HSS.out, ← htb]
                simp)
              obtain ⟨g2, eg, hc2, hf2, _, _⟩ := HT.out.own.cell b (by omega)
              cases eg
              obtain ⟨q1, q2, q3⟩ := HT.out.row b (by omega)
              cases hlb : (rs.getD b default).l with
              | nil => exact absurd hlb hbne
              | cons x2 t2 =>
                rw [hlb] at hc2 q1 q3 htb
                obtain ⟨b2, o2, ha2, ⟨f0, f1, f2, f3⟩, hxo2⟩ := q3 0 (by simp)
                rw [Nat.zero_mul, Nat.add_zero] at f0 f1 f2 f3
                rw [ha2] at hc2
                clear hl HSS r1 r3 hbt ha1 q1 q3 ha2 hlb hbne HBI
                simp only [List.getElem_cons_zero, List.length_cons] at e0 e1 e2 e3 hc f0 f1 f2 f3 hc2 hxo hxo2 htb
                have HTB : Hid (ahead x x2 = tb) := Lib.hid (by simpa using htb)
                clear htb
                generalize rs.getD i default = r at *
                generalize rs.getD b default = r' at *
                have k1 : decide ((0 : Int) < (t.length : Int) + 1) = true := decide_eq_true (by omega)
                have k2 : decide ((b : Int) < 0) = false := decide_eq_false (by omega)
                have k3 : (b : Int) < (n : Int) := by omega
                have k4 : (0 : Int) ≤ (b : Int) := by omega
                have k5 : (0 : Int) < (t.length : Int) + 1 := by omega
                have k6 : (0 : Int) < (t2.length : Int) + 1 := by omega
                have KS : Hid (∀ w', Below wB.heap.size wB w' → (w'.cell? ⟨g, b, none⟩ = some (.slice (some ⟨b2, o2, none⟩) (t2.length + 1) r'.cap) ∧ w'.cell? ⟨b1, o1, none⟩ = some (.string x.user) ∧ w'.cell? ⟨b1, o1 + 1, none⟩ = some (.int .u64 (x.seq : Nat)) ∧ w'.cell? ⟨b1, o1 + 2, none⟩ = some (.int .u8 (x.kind : Nat)) ∧ w'.cell? ⟨b1, o1 + 3, none⟩ = some (.string x.value) ∧ w'.cell? ⟨b2, o2, none⟩ = some (.string x2.user) ∧ w'.cell? ⟨b2, o2 + 1, none⟩ = some (.int .u64 (x2.seq : Nat)) ∧ w'.cell? ⟨b2, o2 + 2, none⟩ = some (.int .u8 (x2.kind : Nat)) ∧ w'.cell? ⟨b2, o2 + 3, none⟩ = some (.string x2.value) ∧ Below wB.heap.size wB w')) :=
                  Lib.hid (fun w' hb => ⟨cell_later2 hb hc2, cell_later2 hb e0, cell_later2 hb e1, cell_later2 hb e2, cell_later2 hb e3, cell_later2 hb f0, cell_later2 hb f1, cell_later2 hb f2, cell_later2 hb f3, hb⟩)
                simp only [bInt]
                go_upto_region 9 with (fail)
                go_cut [41] (fun s wx => s = .bool tb ∧ Below wB.heap.size wB wx)
                case first =>
                  refine wp_region_held_drew (S := (fun w' => w'.cell? ⟨g, b, none⟩ = some (.slice (some ⟨b2, o2, none⟩) (t2.length + 1) r'.cap) ∧ w'.cell? ⟨b1, o1, none⟩ = some (.string x.user) ∧ w'.cell? ⟨b1, o1 + 1, none⟩ = some (.int .u64 (x.seq : Nat)) ∧ w'.cell? ⟨b1, o1 + 2, none⟩ = some (.int .u8 (x.kind : Nat)) ∧ w'.cell? ⟨b1, o1 + 3, none⟩ = some (.string x.value) ∧ w'.cell? ⟨b2, o2, none⟩ = some (.string x2.user) ∧ w'.cell? ⟨b2, o2 + 1, none⟩ = some (.int .u64 (x2.seq : Nat)) ∧ w'.cell? ⟨b2, o2 + 2, none⟩ = some (.int .u8 (x2.kind : Nat)) ∧ w'.cell? ⟨b2, o2 + 3, none⟩ = some (.string x2.value) ∧ Below wB.heap.size wB w')) (by kernel_rfl) ?_ (fun hS0 => ?_)
                  · exact KS.out _ (Below.refl _ _).drew
                  refine wpAnyH_take (i := 0) (oi := { dst := some 23, op := Op.move (Operand.tmp 7), type := 22, pos := "merge.go:29", after := #[], guard := none }) (v := ?_) rfl (by kernel_rfl) (by kernel_rfl) (by kernel_rfl) (fun _ _ _ h => h) (Or.inl ⟨by rfl, ?hy1⟩) (by assumption) ?_
                  case hy1 => (intro w hSw; (try dsimp only at hSw); go_simp; try with_reducible rfl)
                  (try simp only [Act.put, List.setIfInBounds_toArray, List.set_cons_zero, List.set_cons_succ])
                  refine wpAnyH_take (i := 1) (oi := { dst := some 24, op := Op.call { callee := Callee.builtin Builtin.len, args := #[Operand.tmp 23], argTypes := #[22] }, type := 3, pos := "merge.go:29", after := #[{ on := 0, ground := Ground.data }], guard := none }) (v := ?_) rfl (by kernel_rfl) (by kernel_rfl) (by kernel_rfl) (fun _ _ _ h => h) (Or.inl ⟨by rfl, ?hy2⟩) (by assumption) ?_
                  case hy2 => (intro w hSw; (try dsimp only at hSw); go_simp; try with_reducible rfl)
                  (try simp only [Act.put, List.setIfInBounds_toArray, List.set_cons_zero, List.set_cons_succ])
                  refine wpAnyH_take (i := 2) (oi := { dst := some 25, op := Op.binOp BinOp.gtr 3 (Operand.tmp 24) (Operand.const (Value.int IntKind.i64 0)) 3, type := 4, pos := "merge.go:29", after := #[{ on := 1, ground := Ground.data }], guard := none }) (v := ?_) rfl (by kernel_rfl) (by kernel_rfl) (by kernel_rfl) (fun _ _ _ h => h) (Or.inl ⟨by rfl, ?hy3⟩) (by assumption) ?_
                  case hy3 => (intro w hSw; (try dsimp only at hSw); go_simp; try with_reducible rfl)
                  (try simp only [Act.put, List.setIfInBounds_toArray, List.set_cons_zero, List.set_cons_succ])
                  refine wpAnyH_take (i := 3) (oi := { dst := some 26, op := Op.move (Operand.tmp 25), type := 4, pos := "merge.go:29", after := #[{ on := 2, ground := Ground.data }], guard := none }) (v := ?_) rfl (by kernel_rfl) (by kernel_rfl) (by kernel_rfl) (fun _ _ _ h => h) (Or.inl ⟨by rfl, ?hy4⟩) (by assumption) ?_
                  case hy4 => (intro w hSw; (try dsimp only at hSw); go_simp; try with_reducible rfl)
                  (try simp only [Act.put, List.setIfInBounds_toArray, List.set_cons_zero, List.set_cons_succ])
                  refine wpAnyH_take (i := 4) (oi := { dst := some 27, op := Op.move (Operand.tmp 5), type := 3, pos := "merge.go:29", after := #[{ on := 3, ground := Ground.guard }], guard := some (3, true) }) (v := ?_) rfl (by kernel_rfl) (by kernel_rfl) (by kernel_rfl) (fun _ _ _ h => h) (Or.inl ⟨by rfl, ?hy5⟩) (by assumption) ?_
                  case hy5 => (intro w hSw; (try dsimp only at hSw); go_simp; try with_reducible rfl)
                  (try simp only [Act.put, List.setIfInBounds_toArray, List.set_cons_zero, List.set_cons_succ])
                  refine wpAnyH_take (i := 5) (oi := { dst := some 28, op := Op.binOp BinOp.lss 3 (Operand.tmp 27) (Operand.const (Value.int IntKind.i64 0)) 3, type := 4, pos := "merge.go:29", after := #[{ on := 4, ground := Ground.data }, { on := 3, ground := Ground.guard }], guard := some (3, true) }) (v := ?_) rfl (by kernel_rfl) (by kernel_rfl) (by kernel_rfl) (fun _ _ _ h => h) (Or.inl ⟨by rfl, ?hy6⟩) (by assumption) ?_
                  case hy6 => (intro w hSw; (try dsimp only at hSw); go_simp; try with_reducible rfl)
                  (try simp only [Act.put, List.setIfInBounds_toArray, List.set_cons_zero, List.set_cons_succ])
                  refine wpAnyH_take (i := 6) (oi := { dst := some 29, op := Op.move (Operand.tmp 28), type := 4, pos := "merge.go:29", after := #[{ on := 5, ground := Ground.data }, { on := 3, ground := Ground.chain }, { on := 3, ground := Ground.guard }], guard := some (3, true) }) (v := ?_) rfl (by kernel_rfl) (by kernel_rfl) (by kernel_rfl) (fun _ _ _ h => h) (Or.inl ⟨by rfl, ?hy7⟩) (by assumption) ?_
                  case hy7 => (intro w hSw; (try dsimp only at hSw); go_simp; try with_reducible rfl)
                  (try simp only [Act.put, List.setIfInBounds_toArray, List.set_cons_zero, List.set_cons_succ])
                  refine wpAnyH_take (i := 7) (oi := { dst := some 30, op := Op.move (Operand.tmp 7), type := 22, pos := "merge.go:29", after := #[{ on := 6, ground := Ground.guard }], guard := some (6, false) }) (v := ?_) rfl (by kernel_rfl) (by kernel_rfl) (by kernel_rfl) (fun _ _ _ h => h) (Or.inl ⟨by rfl, ?hy8⟩) (by assumption) ?_
                  case hy8 => (intro w hSw; (try dsimp only at hSw); go_simp; try with_reducible rfl)
                  (try simp only [Act.put, List.setIfInBounds_toArray, List.set_cons_zero, List.set_cons_succ])
                  refine wpAnyH_take (i := 8) (oi := { dst := some 31, op := Op.indexAddr 22 (Operand.tmp 30) (Operand.const (Value.int IntKind.i64 0)), type := 0, pos := "merge.go:29", after := #[{ on := 7, ground := Ground.data }, { on := 6, ground := Ground.guard }], guard := some (6, false) }) (v := ?_) rfl (by kernel_rfl) (by kernel_rfl) (by kernel_rfl) (fun _ _ _ h => h) (Or.inl ⟨by rfl, ?hy9⟩) (by assumption) ?_
                  case hy9 => (intro w hSw; (try dsimp only at hSw); go_simp; try with_reducible rfl)
                  (try simp only [Act.put, List.setIfInBounds_toArray, List.set_cons_zero, List.set_cons_succ])
                  refine wpAnyH_take (i := 9) (oi := { dst := some 32, op := Op.load 33 (Operand.tmp 31), type := 33, pos := "merge.go:29", after := #[{ on := 8, ground := Ground.data }, { on := 6, ground := Ground.guard }], guard := some (6, false) }) (v := ?_) rfl (by kernel_rfl) (by kernel_rfl) (by kernel_rfl) (fun _ _ _ h => h) (Or.inl ⟨by rfl, ?hy10⟩) (by assumption) ?_
                  case hy10 => (intro w hSw; (try dsimp only at hSw); go_simp; try with_reducible rfl)
                  (try simp only [Act.put, List.setIfInBounds_toArray, List.set_cons_zero, List.set_cons_succ])
                  refine wpAnyH_take (i := 10) (oi := { dst := some 33, op := Op.move (Operand.tmp 3), type := 25, pos := "merge.go:29", after := #[{ on := 6, ground := Ground.guard }], guard := some (6, false) }) (v := ?_) rfl (by kernel_rfl) (by kernel_rfl) (by kernel_rfl) (fun _ _ _ h => h) (Or.inl ⟨by rfl, ?hy11⟩) (by assumption) ?_
                  case hy11 => (intro w hSw; (try dsimp only at hSw); go_simp; try with_reducible rfl)
                  (try simp only [Act.put, List.setIfInBounds_toArray, List.set_cons_zero, List.set_cons_succ])
                  refine wpAnyH_take (i := 11) (oi := { dst := some 34, op := Op.move (Operand.tmp 5), type := 3, pos := "merge.go:29", after := #[{ on := 6, ground := Ground.guard }], guard := some (6, false) }) (v := ?_) rfl (by kernel_rfl) (by kernel_rfl) (by kernel_rfl) (fun _ _ _ h => h) (Or.inl ⟨by rfl, ?hy12⟩) (by assumption) ?_
                  case hy12 => (intro w hSw; (try dsimp only at hSw); go_simp; try with_reducible rfl)
                  (try simp only [Act.put, List.setIfInBounds_toArray, List.set_cons_zero, List.set_cons_succ])
                  refine wpAnyH_take (i := 12) (oi := { dst := some 35, op := Op.indexAddr 25 (Operand.tmp 33) (Operand.tmp 34), type := 0, pos := "merge.go:29", after := #[{ on := 10, ground := Ground.data }, { on := 11, ground := Ground.data }, { on := 6, ground := Ground.guard }], guard := some (6, false) }) (v := ?_) rfl (by kernel_rfl) (by kernel_rfl) (by kernel_rfl) (fun _ _ _ h => h) (Or.inl ⟨by rfl, ?hy13⟩) (by assumption) ?_
                  case hy13 => (intro w hSw; (try dsimp only at hSw); go_simp; try with_reducible rfl)
                  (try simp only [Act.put, List.setIfInBounds_toArray, List.set_cons_zero, List.set_cons_succ])
                  refine wpAnyH_take (i := 13) (oi := { dst := some 36, op := Op.load 22 (Operand.tmp 35), type := 22, pos := "merge.go:29", after := #[{ on := 12, ground := Ground.data }, { on := 6, ground := Ground.guard }], guard := some (6, false) }) (v := ?_) rfl (by kernel_rfl) (by kernel_rfl) (by kernel_rfl) (fun _ _ _ h => h) (Or.inl ⟨by rfl, ?hy14⟩) (by assumption) ?_
                  case hy14 => (intro w hSw; (try dsimp only at hSw); go_simp; try with_reducible rfl)
                  (try simp only [Act.put, List.setIfInBounds_toArray, List.set_cons_zero, List.set_cons_succ])
                  refine wpAnyH_take (i := 14) (oi := { dst := some 37, op := Op.indexAddr 22 (Operand.tmp 36) (Operand.const (Value.int IntKind.i64 0)), type := 0, pos := "merge.go:29", after := #[{ on := 13, ground := Ground.data }, { on := 6, ground := Ground.guard }], guard := some (6, false) }) (v := ?_) rfl (by kernel_rfl) (by kernel_rfl) (by kernel_rfl) (fun _ _ _ h => h) (Or.inl ⟨by rfl, ?hy15⟩) (by assumption) ?_
                  case hy15 => (intro w hSw; (try dsimp only at hSw); go_simp; try with_reducible rfl)
                  (try simp only [Act.put, List.setIfInBounds_toArray, List.set_cons_zero, List.set_cons_succ])
                  refine wpAnyH_take (i := 15) (oi := { dst := some 38, op := Op.load 33 (Operand.tmp 37), type := 33, pos := "merge.go:29", after := #[{ on := 14, ground := Ground.data }, { on := 6, ground := Ground.guard }], guard := some (6, false) }) (v := ?_) rfl (by kernel_rfl) (by kernel_rfl) (by kernel_rfl) (fun _ _ _ h => h) (Or.inl ⟨by rfl, ?hy16⟩) (by assumption) ?_
                  case hy16 => (intro w hSw; (try dsimp only at hSw); go_simp; try with_reducible rfl)
                  (try simp only [Act.put, List.setIfInBounds_toArray, List.set_cons_zero, List.set_cons_succ])
                  refine wpAnyH_ready (rs := [16]) (by kernel_rfl) (by simp) (AllReadyH.cons (o := { dst := some 39, op := Op.call { callee := Callee.value (Operand.func 50), args := #[Operand.tmp 32, Operand.tmp 38], argTypes := #[33, 33] }, type := 4, pos := "merge.go:29", after := #[{ on := 9, ground := Ground.data }, { on := 15, ground := Ground.data }, { on := 6, ground := Ground.chain }, { on := 6, ground := Ground.guard }], guard := some (6, false) }) rfl (fun K hK => ?_) AllReadyH.nil)
                  go_simp
                  refine (ahead50_at x x2 _ hxo hxo2).mono ?_
                  rintro _ wx ⟨rfl, hbx⟩
                  rw [HTB.out]
                  (try dsimp only)
                  refine Shut.out hK _ _ ?_ (fun hS16 => ?_)
                  · exact KS.out _ (hS0.2.2.2.2.2.2.2.2.2.trans (hbx.mono hS0.2.2.2.2.2.2.2.2.2.size))
                  clear hK K
                  (try simp only [Act.put, List.setIfInBounds_toArray, List.set_cons_zero, List.set_cons_succ])
                  refine wpAnyH_take (i := 17) (oi := { dst := some 40, op := Op.pick (Operand.tmp 29) (Operand.const (Value.bool true)) (Operand.tmp 39), type := 4, pos := "merge.go:29", after := #[{ on := 6, ground := Ground.data }, { on := 16, ground := Ground.data }, { on := 3, ground := Ground.guard }], guard := some (3, true) }) (v := ?_) rfl (by kernel_rfl) (by kernel_rfl) (by kernel_rfl) (fun _ _ _ h => h) (Or.inl ⟨by rfl, ?hy17⟩) (by assumption) ?_
                  case hy17 => (intro w hSw; (try dsimp only at hSw); go_simp; try with_reducible rfl)
                  (try simp only [Act.put, List.setIfInBounds_toArray, List.set_cons_zero, List.set_cons_succ])
                  refine wpAnyH_take (i := 18) (oi := { dst := some 41, op := Op.pick (Operand.tmp 26) (Operand.tmp 40) (Operand.const (Value.bool false)), type := 4, pos := "merge.go:29", after := #[{ on := 3, ground := Ground.data }, { on := 17, ground := Ground.data }], guard := none }) (v := ?_) rfl (by kernel_rfl) (by kernel_rfl) (by kernel_rfl) (fun _ _ _ h => h) (Or.inl ⟨by rfl, ?hy18⟩) (by assumption) ?_
                  case hy18 => (intro w hSw; (try dsimp only at hSw); go_simp; try with_reducible rfl)
                  (try simp only [Act.put, List.setIfInBounds_toArray, List.set_cons_zero, List.set_cons_succ])
                  refine wpAnyH_done (by kernel_rfl) ?_ _
                  go_wp2
                  go_meet
                  case rel => exact ⟨rfl, hS16.2.2.2.2.2.2.2.2.2⟩
                case rest =>
                  obtain ⟨rfl, hbx⟩ := hcut
                  have HBX := Lib.hid (HB.out.trans (hbx.mono HB.out.size))
                  clear hbx
                  cases tb with
                  | true =>
                    have HV' : Hid (bestTo (rs.map (·.l)) (i + 1) = some i) := HV
                    go_wp2
                    exact ⟨⟨i + 1, by omega, by go_num, by rw [HV'.out], HBX.out⟩, by simp [intOf]; omega⟩
                  | false =>
                    have HV' : Hid (bestTo (rs.map (·.l)) (i + 1) = some b) := HV
                    go_wp2
                    exact ⟨⟨i + 1, by omega, by go_num, by rw [HV'.out], HBX.out⟩, by simp [intOf]; omega⟩
        · obtain rfl : i = n := by omega
          have HT := Lib.hid (HS.out.later HB.out)
          cases hbt : bestTo (rs.map (·.l)) i with
          | none =>
            have HD : Hid (IsMerge ls out) := Lib.hid (HT.out.inv.done HR.out fun j => by
              rcases Nat.lt_or_ge j i with q | q
              · exact HBI.out.1 hbt j q
              · have hl := HT.out.own.len
                simp [List.getD_eq_getElem?_getD, show ¬ j < rs.length by omega])
            clear HBI HSS hbt
            simp only [bInt]
            go_wp2
            go_ret
            have hlo := HT.out.lo
            have h1 := HB1.out.size
            exact ⟨_, rfl, ⟨out, HT.out.outs.mono (by omega), HD.out⟩, HB1.out.trans (HT.out.bel.mono h1)⟩
          | some b =>
            obtain ⟨hbi, hbne, HMIN, HSTR⟩ := HBI.out.2 b hbt
            rw [getD_rows] at hbne
            have HMN := Lib.hid HMIN
            have HSR := Lib.hid HSTR
            clear HMIN HSTR HBI HSS hbt
            obtain ⟨g, rfl, hc, hf, _, _⟩ := HT.out.own.cell b hbi
            obtain ⟨r1, r2, r3⟩ := HT.out.row b hbi
            cases hl : (rs.getD b default).l with
            | nil => exact absurd hl hbne
            | cons x t =>
              have HL := Lib.hid hl
              rw [hl] at hc r1 r3
              obtain ⟨b1, o1, ha1, ⟨e0, e1, e2, e3⟩, hxo⟩ := r3 0 (by simp)
              rw [Nat.zero_mul, Nat.add_zero] at e0 e1 e2 e3
              rw [ha1] at hc
              clear hl r1 r3 ha1 hbne
              simp only [List.getElem_cons_zero, List.length_cons] at e0 e1 e2 e3 hc hxo
              have k3 : (b : Int) < (i : Int) := by omega
              have k4 : (0 : Int) ≤ (b : Int) := by omega
              have k6 : (0 : Int) < (t.length : Int) + 1 := by omega
              have k7 : decide ((b : Int) < 0) = false := decide_eq_false (by omega)
              generalize (rs.getD b default).a = ra at *
              generalize (rs.getD b default).cap = rc at *
              simp only [bInt]
              go_upto_region 15 with (fail)
              have hlo : out.length + 1 ≤ 2932031007402 := by have := HT.out.tot; omega
              have HOB : Hid (∀ k, u4.ownBlock = some k → k < wB.heap.size) := Lib.hid (fun k hk => (HT.out.outs.1.lt k hk).2)
              have HTC := Lib.hid (HT.out.later ((Below.refl wB.heap.size wB).alloc (Nat.le_refl _) (.cells #[.string x.user, .int .u64 (x.seq : Nat), .int .u8 (x.kind : Nat), .string x.value] 33)))
              have hxo' := hxo
              have HXO := Lib.hid hxo'
              clear hxo'
              go_wp2_with (at_builtin; refine app_ent3 _ rfl _ _ 22 rfl Try.underlying22 Try.infoE rfl rfl (HTC.out.outs.later ((Below.refl _ _).alloc (Nat.le_refl _) _)) (e := x) rfl (heap_at' (by simp)) HXO.out hlo (Nat.le_trans HTC.out.le (by simp)) ?_; intro v' w5 hown5 hb5 hblk5)
              have HP5 : Hid (PSt w1 w2.heap.size wB.heap.size g i c x w5 v' (out ++ [x]) rs) := Lib.hid (by
                have hal := (Below.refl (wB.alloc (.cells #[.string x.user, .int .u64 (x.seq : Nat), .int .u8 (x.kind : Nat), .string x.value] 33)).heap.size (wB.alloc (.cells #[.string x.user, .int .u64 (x.seq : Nat), .int .u8 (x.kind : Nat), .string x.value] 33))).alloc (Nat.le_refl _) (.cells (entCells x).toArray 33)
                have hla := HTC.out.later hal
                have hg := HT.out.yk g rfl
                refine ⟨hla.own.block fun g' hg' => ?_, hown5, hla.bel.trans (hb5.mono hla.lo), Nat.le_trans hla.le hb5.size, ?_, hg, HT.out.le, (HT.out.own.own.lt g rfl).1⟩
                · cases hg'
                  exact hb5.block g hg
                · exact (hblk5 wB.heap.size (by simp; omega) (fun e => absurd (HOB.out _ e) (Nat.lt_irrefl _))).trans ((hal.block wB.heap.size (by simp)).trans (heap_at wB _)))
              clear hown5 hb5 hblk5 HTC HOB hc hf e0 e1 e2 e3
              obtain ⟨i0, hi0, hz0⟩ : ∃ i0, Try.prog.info? 33 = some i0 ∧ i0.size = 4 := by
                obtain ⟨i0, hi0, _, hz1, _⟩ := info_parts Try.infoE
                exact ⟨i0, hi0, hz1⟩
              have HCUT : Hid (∀ (ad : Option Addr) (len cp : Nat) (w : World), (Instr.slice 22 (.slice ad (len + 1) cp) (some (.int .i64 1)) none none).run Try.prog w = .ok (.slice (cutFrom ad cp 1 4) len (cp - 1)) w) := Lib.hid (fun ad len cp w => by
                have := run_cut_from (P := Try.prog) Try.underlying22 hi0 ad (len + 1) cp 1 .i64 (by omega) w
                rw [hz0] at this
                simpa using this)
              clear hi0 hz0 k3 k4 k6 k7 r2
              obtain ⟨E, hE⟩ : ∃ E, wB.heap.size = E := ⟨_, rfl⟩
              rw [hE] at HP5
              try rw [hE]
              clear hE
              go_loopw [59] (fun iv wz => ∃ (j : Nat) (rs' : List Row), j ≤ i ∧ iv = .int .i64 j ∧ Hid (PSt w1 w2.heap.size E g i c x wz v' (out ++ [x]) rs') ∧ Hid (∀ k, k < i → rs'.getD k default = if k < j then popR x (rs.getD k default) else rs.getD k default)) (fun iv _ => i - (intOf iv).toNat)
              case atStart => exact ⟨0, rs, by omega, rfl, HP5, Lib.hid (fun k hk => by simp)⟩
              case round =>
                obtain ⟨j, rs', hj, rfl, HPS, HPR⟩ := hrel
                clear HP5
                obtain ⟨wz, rfl⟩ : ∃ wz, wz = wr := ⟨_, rfl⟩
                by_cases hlt : j < i
                · obtain ⟨_, eg, hc, hf, _, _⟩ := HPS.out.own.cell j hlt
                  cases eg
                  have hrow := HPR.out j hlt
                  rw [if_neg (Nat.lt_irrefl j)] at hrow
                  rw [hrow] at hc
                  obtain ⟨m1, m2, m3⟩ := HT.out.row0 j hlt
                  have m3 := m3.below (w' := wz) HPS.out.bel
                  have hin : (j : Int) < (i : Int) := by omega
                  have h0 : (0 : Int) ≤ (j : Int) := by omega
                  cases hl : (rs.getD j default).l with
                  | nil =>
                    rw [hl] at hc
                    have HN : Hid (∀ k, k < i → rs'.getD k default = if k < j + 1 then popR x (rs.getD k default) else rs.getD k default) := Lib.hid (fun k hk => by
                      have h1 := HPR.out k hk
                      by_cases e : k = j
                      · subst e
                        rw [hrow, if_pos (by omega)]
                        unfold popR; rw [hl]
                      · by_cases q : k < j
                        · rw [if_pos q] at h1; rw [if_pos (by omega)]; exact h1
                        · rw [if_neg q] at h1; rw [if_neg (by omega)]; exact h1)
                    clear hl hrow m1 m2 m3
                    generalize (rs.getD j default).a = ra' at *
                    generalize (rs.getD j default).cap = rc' at *
                    go_wp2
                    go_quiet (fail)
                    go_wp2
                    exact ⟨⟨j + 1, rs', by omega, by go_num, Lib.hid (HPS.out.later (below_drewN (Below.refl _ _) _)), HN⟩, by simp [intOf]; omega⟩
                  | cons z s =>
                    rw [hl] at hc m1 m3
                    obtain ⟨b2, o2, ha2, ⟨f0, f1, f2, f3⟩, hzo⟩ := m3 0 (by simp)
                    rw [Nat.zero_mul, Nat.add_zero] at f0 f1 f2 f3
                    rw [ha2] at hc
                    simp only [List.getElem_cons_zero, List.length_cons] at f0 f1 f2 f3 hc hzo
                    have HC2 := Lib.hid hc
                    obtain ⟨tb, htb⟩ : ∃ tb, ahead x z = tb := ⟨_, rfl⟩
                    have HTB := Lib.hid htb
                    have HPV : Hid (popR x (rs.getD j default) = if tb = true then rs.getD j default else ⟨cutFrom (some ⟨b2, o2, none⟩) (rs.getD j default).cap 1 4, (rs.getD j default).cap - 1, s⟩) := Lib.hid (by
                      rw [← ha2, ← htb]
                      unfold popR
                      split
                      · rename_i h; rw [hl] at h; cases h
                      · rename_i y' s' h; rw [hl] at h; cases h; rfl)
                    have HN : Hid (∀ rs2 : List Row, rs2.getD j default = popR x (rs.getD j default) → (∀ k, k ≠ j → rs2.getD k default = rs'.getD k default) → ∀ k, k < i → rs2.getD k default = if k < j + 1 then popR x (rs.getD k default) else rs.getD k default) := Lib.hid (fun rs2 h1 h2 k hk => by
                      by_cases e : k = j
                      · subst e; rw [if_pos (by omega)]; exact h1
                      · rw [h2 k e, HPR.out k hk]
                        by_cases q : k < j
                        · rw [if_pos q, if_pos (by omega)]
                        · rw [if_neg q, if_neg (by omega)])
                    have HRO := Lib.hid hrow
                    clear hl hrow m1 m2 m3 htb ha2 HPR
                    have bx := HPS.out.box
                    have d0 : wz.cell? ⟨E, 0, none⟩ = some (.string x.user) := by simp [World.cell?, bx, entCells]
                    have d1 : wz.cell? ⟨E, 1, none⟩ = some (.int .u64 (x.seq : Nat)) := by simp [World.cell?, bx, entCells]
                    have d2 : wz.cell? ⟨E, 2, none⟩ = some (.int .u8 (x.kind : Nat)) := by simp [World.cell?, bx, entCells]
                    have d3 : wz.cell? ⟨E, 3, none⟩ = some (.string x.value) := by simp [World.cell?, bx, entCells]
                    obtain ⟨rj, hrj⟩ : ∃ rj, rs.getD j default = rj := ⟨_, rfl⟩
                    rw [hrj] at HPV HN HRO hc HC2
                    clear bx hrj
                    have k1 : decide ((0 : Int) < (s.length : Int) + 1) = true := decide_eq_true (by omega)
                    have k5 : (0 : Int) < (s.length : Int) + 1 := by omega
                    have KS : Hid (∀ w', Below wz.heap.size wz w' → (w'.cell? ⟨E, 0, none⟩ = some (.string x.user) ∧ w'.cell? ⟨E, 1, none⟩ = some (.int .u64 (x.seq : Nat)) ∧ w'.cell? ⟨E, 2, none⟩ = some (.int .u8 (x.kind : Nat)) ∧ w'.cell? ⟨E, 3, none⟩ = some (.string x.value) ∧ w'.cell? ⟨b2, o2, none⟩ = some (.string z.user) ∧ w'.cell? ⟨b2, o2 + 1, none⟩ = some (.int .u64 (z.seq : Nat)) ∧ w'.cell? ⟨b2, o2 + 2, none⟩ = some (.int .u8 (z.kind : Nat)) ∧ w'.cell? ⟨b2, o2 + 3, none⟩ = some (.string z.value) ∧ Below wz.heap.size wz w')) :=
                      Lib.hid (fun w' hb => ⟨cell_later2 hb d0, cell_later2 hb d1, cell_later2 hb d2, cell_later2 hb d3, cell_later2 hb f0, cell_later2 hb f1, cell_later2 hb f2, cell_later2 hb f3, hb⟩)
                    go_upto_region 19 with (fail)
                    go_cut [74] (fun q wx => q = .bool (!tb) ∧ Below wz.heap.size wz wx)
                    case first =>
                      refine wp_region_held_drew (S := (fun w' => w'.cell? ⟨E, 0, none⟩ = some (.string x.user) ∧ w'.cell? ⟨E, 1, none⟩ = some (.int .u64 (x.seq : Nat)) ∧ w'.cell? ⟨E, 2, none⟩ = some (.int .u8 (x.kind : Nat)) ∧ w'.cell? ⟨E, 3, none⟩ = some (.string x.value) ∧ w'.cell? ⟨b2, o2, none⟩ = some (.string z.user) ∧ w'.cell? ⟨b2, o2 + 1, none⟩ = some (.int .u64 (z.seq : Nat)) ∧ w'.cell? ⟨b2, o2 + 2, none⟩ = some (.int .u8 (z.kind : Nat)) ∧ w'.cell? ⟨b2, o2 + 3, none⟩ = some (.string z.value) ∧ Below wz.heap.size wz w')) (by kernel_rfl) ?_ (fun hS0 => ?_)
                      · exact KS.out _ (Below.refl _ _).drew
                      refine wpAnyH_take (i := 0) (oi := { dst := some 64, op := Op.move (Operand.tmp 10), type := 22, pos := "merge.go:39", after := #[], guard := none }) (v := ?_) rfl (by kernel_rfl) (by kernel_rfl) (by kernel_rfl) (fun _ _ _ h => h) (Or.inl ⟨by rfl, ?hy1⟩) (by assumption) ?_
                      case hy1 => (intro w hSw; (try dsimp only at hSw); go_simp; try with_reducible rfl)
                      (try simp only [Act.put, List.setIfInBounds_toArray, List.set_cons_zero, List.set_cons_succ])
                      refine wpAnyH_take (i := 1) (oi := { dst := some 65, op := Op.call { callee := Callee.builtin Builtin.len, args := #[Operand.tmp 64], argTypes := #[22] }, type := 3, pos := "merge.go:39", after := #[{ on := 0, ground := Ground.data }], guard := none }) (v := ?_) rfl (by kernel_rfl) (by kernel_rfl) (by kernel_rfl) (fun _ _ _ h => h) (Or.inl ⟨by rfl, ?hy2⟩) (by assumption) ?_
                      case hy2 => (intro w hSw; (try dsimp only at hSw); go_simp; try with_reducible rfl)
                      (try simp only [Act.put, List.setIfInBounds_toArray, List.set_cons_zero, List.set_cons_succ])
                      refine wpAnyH_take (i := 2) (oi := { dst := some 66, op := Op.binOp BinOp.gtr 3 (Operand.tmp 65) (Operand.const (Value.int IntKind.i64 0)) 3, type := 4, pos := "merge.go:39", after := #[{ on := 1, ground := Ground.data }], guard := none }) (v := ?_) rfl (by kernel_rfl) (by kernel_rfl) (by kernel_rfl) (fun _ _ _ h => h) (Or.inl ⟨by rfl, ?hy3⟩) (by assumption) ?_
                      case hy3 => (intro w hSw; (try dsimp only at hSw); go_simp; try with_reducible rfl)
                      (try simp only [Act.put, List.setIfInBounds_toArray, List.set_cons_zero, List.set_cons_succ])
                      refine wpAnyH_take (i := 3) (oi := { dst := some 67, op := Op.move (Operand.tmp 66), type := 4, pos := "merge.go:39", after := #[{ on := 2, ground := Ground.data }], guard := none }) (v := ?_) rfl (by kernel_rfl) (by kernel_rfl) (by kernel_rfl) (fun _ _ _ h => h) (Or.inl ⟨by rfl, ?hy4⟩) (by assumption) ?_
                      case hy4 => (intro w hSw; (try dsimp only at hSw); go_simp; try with_reducible rfl)
                      (try simp only [Act.put, List.setIfInBounds_toArray, List.set_cons_zero, List.set_cons_succ])
                      refine wpAnyH_take (i := 4) (oi := { dst := some 68, op := Op.load 33 (Operand.tmp 8), type := 33, pos := "merge.go:39", after := #[{ on := 3, ground := Ground.guard }], guard := some (3, true) }) (v := ?_) rfl (by kernel_rfl) (by kernel_rfl) (by kernel_rfl) (fun _ _ _ h => h) (Or.inl ⟨by rfl, ?hy5⟩) (by assumption) ?_
                      case hy5 => (intro w hSw; (try dsimp only at hSw); go_simp; try with_reducible rfl)
                      (try simp only [Act.put, List.setIfInBounds_toArray, List.set_cons_zero, List.set_cons_succ])
                      refine wpAnyH_take (i := 5) (oi := { dst := some 69, op := Op.move (Operand.tmp 10), type := 22, pos := "merge.go:39", after := #[{ on := 3, ground := Ground.guard }], guard := some (3, true) }) (v := ?_) rfl (by kernel_rfl) (by kernel_rfl) (by kernel_rfl) (fun _ _ _ h => h) (Or.inl ⟨by rfl, ?hy6⟩) (by assumption) ?_
                      case hy6 => (intro w hSw; (try dsimp only at hSw); go_simp; try with_reducible rfl)
                      (try simp only [Act.put, List.setIfInBounds_toArray, List.set_cons_zero, List.set_cons_succ])
                      refine wpAnyH_take (i := 6) (oi := { dst := some 70, op := Op.indexAddr 22 (Operand.tmp 69) (Operand.const (Value.int IntKind.i64 0)), type := 0, pos := "merge.go:39", after := #[{ on := 5, ground := Ground.data }, { on := 3, ground := Ground.guard }], guard := some (3, true) }) (v := ?_) rfl (by kernel_rfl) (by kernel_rfl) (by kernel_rfl) (fun _ _ _ h => h) (Or.inl ⟨by rfl, ?hy7⟩) (by assumption) ?_
                      case hy7 => (intro w hSw; (try dsimp only at hSw); go_simp; try with_reducible rfl)
                      (try simp only [Act.put, List.setIfInBounds_toArray, List.set_cons_zero, List.set_cons_succ])
                      refine wpAnyH_take (i := 7) (oi := { dst := some 71, op := Op.load 33 (Operand.tmp 70), type := 33, pos := "merge.go:39", after := #[{ on := 6, ground := Ground.data }, { on := 3, ground := Ground.guard }], guard := some (3, true) }) (v := ?_) rfl (by kernel_rfl) (by kernel_rfl) (by kernel_rfl) (fun _ _ _ h => h) (Or.inl ⟨by rfl, ?hy8⟩) (by assumption) ?_
                      case hy8 => (intro w hSw; (try dsimp only at hSw); go_simp; try with_reducible rfl)
                      (try simp only [Act.put, List.setIfInBounds_toArray, List.set_cons_zero, List.set_cons_succ])
                      refine wpAnyH_ready (rs := [8]) (by kernel_rfl) (by simp) (AllReadyH.cons (o := { dst := some 72, op := Op.call { callee := Callee.value (Operand.func 50), args := #[Operand.tmp 68, Operand.tmp 71], argTypes := #[33, 33] }, type := 4, pos := "merge.go:39", after := #[{ on := 4, ground := Ground.data }, { on := 7, ground := Ground.data }, { on := 3, ground := Ground.chain }, { on := 3, ground := Ground.guard }], guard := some (3, true) }) rfl (fun K hK => ?_) AllReadyH.nil)
                      go_simp
                      refine (ahead50_at x z _ HXO.out hzo).mono ?_
                      rintro _ wx ⟨rfl, hbx⟩
                      rw [HTB.out]
                      (try dsimp only)
                      refine Shut.out hK _ _ ?_ (fun hS8 => ?_)
                      · exact KS.out _ (hS0.2.2.2.2.2.2.2.2.trans (hbx.mono hS0.2.2.2.2.2.2.2.2.size))
                      clear hK K
                      (try simp only [Act.put, List.setIfInBounds_toArray, List.set_cons_zero, List.set_cons_succ])
                      refine wpAnyH_take (i := 9) (oi := { dst := some 73, op := Op.unOp UnOp.not 4 (Operand.tmp 72), type := 4, pos := "merge.go:39", after := #[{ on := 8, ground := Ground.data }, { on := 3, ground := Ground.guard }], guard := some (3, true) }) (v := ?_) rfl (by kernel_rfl) (by kernel_rfl) (by kernel_rfl) (fun _ _ _ h => h) (Or.inl ⟨by rfl, ?hy9⟩) (by assumption) ?_
                      case hy9 => (intro w hSw; (try dsimp only at hSw); go_simp; try with_reducible rfl)
                      (try simp only [Act.put, List.setIfInBounds_toArray, List.set_cons_zero, List.set_cons_succ])
                      refine wpAnyH_take (i := 10) (oi := { dst := some 74, op := Op.pick (Operand.tmp 67) (Operand.tmp 73) (Operand.const (Value.bool false)), type := 4, pos := "merge.go:39", after := #[{ on := 3, ground := Ground.data }, { on := 9, ground := Ground.data }], guard := none }) (v := ?_) rfl (by kernel_rfl) (by kernel_rfl) (by kernel_rfl) (fun _ _ _ h => h) (Or.inl ⟨by rfl, ?hy10⟩) (by assumption) ?_
                      case hy10 => (intro w hSw; (try dsimp only at hSw); go_simp; try with_reducible rfl)
                      (try simp only [Act.put, List.setIfInBounds_toArray, List.set_cons_zero, List.set_cons_succ])
                      refine wpAnyH_done (by kernel_rfl) ?_ _
                      go_wp2
                      go_meet
                      case rel => exact ⟨rfl, hS8.2.2.2.2.2.2.2.2⟩
                    case rest =>
                      obtain ⟨rfl, hbx⟩ := hcut
                      have HPX := Lib.hid (HPS.out.later hbx)
                      have hcx := cell_later2 hbx HC2.out
                      clear hbx hc hf d0 d1 d2 d3 f0 f1 f2 f3
                      cases tb with
                      | true =>
                        have HPV' : Hid (popR x rj = rj) := HPV
                        go_wp2
                        exact ⟨⟨j + 1, rs', by omega, by go_num, HPX, Lib.hid (HN.out rs' (by rw [HPV'.out]; exact HRO.out) (fun _ _ => rfl))⟩, by simp [intOf]; omega⟩
                      | false =>
                        have HPV' : Hid (popR x rj = ⟨cutFrom (some ⟨b2, o2, none⟩) rj.cap 1 4, rj.cap - 1, s⟩) := HPV
                        obtain ⟨_, eg2, _, hfx, _, _⟩ := HPX.out.own.cell j hlt
                        cases eg2
                        have hct := fun w => HCUT.out (some ⟨b2, o2, none⟩) s.length rj.cap w
                        have HLJ : Hid (j < rs'.length) := Lib.hid (by have := HPS.out.own.len; omega)
                        go_wp2
                        exact ⟨⟨j + 1, rs'.set j ⟨cutFrom (some ⟨b2, o2, none⟩) rj.cap 1 4, rj.cap - 1, s⟩, by omega, by go_num, Lib.hid (HPX.out.stored j ⟨cutFrom (some ⟨b2, o2, none⟩) rj.cap 1 4, rj.cap - 1, s⟩), Lib.hid (HN.out _ (by rw [HPV'.out]; simp [List.getD_eq_getElem?_getD, HLJ.out]) (fun k hk => by simp [List.getD_eq_getElem?_getD, Ne.symm hk]))⟩, by simp [intOf]; omega⟩
                · obtain rfl : j = i := by omega
                  have HFIN : Hid (MSt w1 w2.heap.size (some ⟨g, 0, none⟩) j c ls T wz v' rs' (out ++ [x])) := Lib.hid (HT.out.popped HL.out hbi HMN.out HSR.out HPS.out.own HPS.out.outs HPS.out.bel HPS.out.le (fun k hk => by rw [HPR.out k hk, if_pos hk]))
                  have HLN : Hid (vlen v' = out.length + 1 ∧ vlen u4 = out.length) := Lib.hid (by
                    obtain ⟨_, _, e1, _⟩ := HPS.out.outs.read
                    obtain ⟨_, _, e2, _⟩ := HT.out.outs.read
                    rw [e1, e2]
                    exact ⟨by simp [vlen], rfl⟩)
                  have hTT := HFIN.out.tot
                  rw [List.length_append] at hTT
                  simp only [List.length_cons, List.length_nil] at hTT
                  clear HPR HMN HSR
                  go_wp2
                  exact ⟨⟨rs', out ++ [x], HFIN⟩, by have h1 := HLN.out.1; have h2 := HLN.out.2; show T - vlen v' < T - vlen u4; omega⟩
end Go.Proofs.Ythgbmijgoaihcaa
