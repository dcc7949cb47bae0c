/-
  Rows of lists: what the clone of a list of lists is; 'ahead' of the merge.
-/
import Derived.Test.YthgbmijgoaihcaaMg1
import Derived.Test.YthgbmijgoaihcaaMg12
import Derived.Test.YthgbmijgoaihcaaMg21
namespace Go.Proofs.Ythgbmijgoaihcaa
open Go.RowKit
set_option linter.unusedVariables false

structure Row where
  a : Option Addr
  cap : Nat
  l : List Ent
instance : Inhabited Row := ⟨⟨none, 0, []⟩⟩
def Row.val (r : Row) : Value := .slice r.a r.l.length r.cap
def RowsOk (w : World) (rs : List Row) : Prop := ∀ r ∈ rs, r.l.length ≤ r.cap ∧ r.cap ≤ maxLen ∧ Ents w r.a r.l
theorem rows_of {w : World} {a : Option Addr} {ls : List (List Ent)} (h : EntRows w a ls) : ∃ rs : List Row, rs.map (·.l) = ls ∧ RowsOk w rs ∧ ∀ i (h : i < rs.length), ∃ b off, a = some ⟨b, off, none⟩ ∧ w.cell? ⟨b, off + i, none⟩ = some rs[i].val := by
  have g : ∀ i, ∃ r : Row, ∀ h : i < ls.length, r.l = ls[i] ∧ (r.l.length ≤ r.cap ∧ r.cap ≤ maxLen ∧ Ents w r.a r.l) ∧ ∃ b off, a = some ⟨b, off, none⟩ ∧ w.cell? ⟨b, off + i, none⟩ = some r.val := by
    intro i
    by_cases hi : i < ls.length
    · obtain ⟨b, off, x, cap, e, hc, h1, h2, h3⟩ := h i hi
      exact ⟨⟨x, cap, ls[i]⟩, fun _ => ⟨rfl, ⟨h1, h2, h3⟩, b, off, e, hc⟩⟩
    · exact ⟨default, fun q => absurd q hi⟩
  refine ⟨(List.range ls.length).map fun i => (g i).choose, ?_, ?_, ?_⟩
  · apply List.ext_getElem
    · simp
    · intro i h1 h2
      simp only [List.getElem_map, List.getElem_range]
      exact ((g i).choose_spec h2).1
  · intro r hr
    simp only [List.mem_map, List.mem_range] at hr
    obtain ⟨i, hi, rfl⟩ := hr
    exact ((g i).choose_spec hi).2.1
  · intro i hi
    simp only [List.length_map, List.length_range] at hi
    simp only [List.getElem_map, List.getElem_range]
    exact ((g i).choose_spec hi).2.2

set_option maxRecDepth 100000 in
set_option maxHeartbeats 800000 in
theorem ahead50_any (x y : Ent) (w : World) (hx : x.ok) (hy : y.ok) :
    Calls Try.prog 50 #[.agg (entCells x).toArray, .agg (entCells y).toArray] w fun e w' => e = .returned (.bool (ahead x y)) ∧ Below w.heap.size w w' := by
  have hb : ∀ A B : Obj, Below w.heap.size w ((w.alloc A).alloc B) := fun A B => ((Below.refl _ _).alloc (Nat.le_refl _) _).alloc (by simp) _
  have HB := Lib.hid hb; clear hb
  by_cases h1 : Op.bytesLess x.user.toList y.user.toList = true
  · have v : ahead x y = true := by simp [ahead, lt, h1]
    rw [v]
    unfold entCells
    clear v
    go_enter Try.func50, Try.ntmps50
    go_wp2
    go_ret
    exact ⟨rfl, HB.out _ _⟩
  · have h1' : Op.bytesLess x.user.toList y.user.toList = false := by simpa using h1
    by_cases h2 : x.user.toList = y.user.toList
    · have v : ahead x y = decide (y.seq < x.seq) := by unfold ahead lt; rw [h1', h2]; simp
      have V := Lib.hid v; clear v
      unfold entCells
      have e2 : (x.user.toList == y.user.toList) = true := by simp [h2]
      clear h1 h2
      go_enter Try.func50, Try.ntmps50
      go_wp2
      go_ret
      exact ⟨by rw [V.out]; rfl, HB.out _ _⟩
    · have v : ahead x y = false := by simp [ahead, lt, h2, h1']
      rw [v]
      unfold entCells
      have e2 : (x.user.toList == y.user.toList) = false := by simp [h2]
      clear h1 v
      go_enter Try.func50, Try.ntmps50
      go_wp2
      go_ret
      exact ⟨rfl, HB.out _ _⟩

section laws
variable {P : Program} {ops : Array Oper} {rest : List Oper} {o : Oper} {a : Act} {Q : Exit → Act → World → Prop}
theorem app_rows (w : World) (hgd : o.guard = none) (s x : Operand) (t : TypeId) (ho : o.op = .call { callee := .builtin .append, args := #[s, x], argTypes := #[t, t] })
    {E : TypeId} (ht : P.underlying t = some (.slice E)) (hi : (P.info? E).map (fun i => (i.zero, i.size, i.bytes)) = some (some (.slice none 0 0), 1, 24))
    {K : Nat} {v : Value} (hs : a.eval s = v) (hown : w.ownsRow K E 1 v 0 []) {y : Option Addr} {rs : List Row} {n c : Nat} (hn : rs.length = n) (hx : a.eval x = .slice y n c) (hm : ∀ i (h : i < rs.length), ∃ b off, y = some ⟨b, off, none⟩ ∧ w.cell? ⟨b, off + i, none⟩ = some rs[i].val)
    (hl : rs.length ≤ 5864062014805) (hK : K ≤ w.heap.size)
    (h : ∀ v' w', w'.ownsRow K E 1 v' rs.length (rs.map Row.val) → Below K w w' → wpList P ops Q rest (a.put o.dst v') w') : wpList P ops Q (o :: rest) a w := by
  obtain ⟨i0, hi0, hz0, hz1, hz2⟩ := info_parts hi
  subst hn
  by_cases hne : rs = []
  · subst hne
    refine app_none hgd s x t ho K E i0 1 ht hi0 v 0 _ hs hown hx ?_
    exact h v w hown (Below.refl _ _)
  have hpos : 0 < rs.length := List.length_pos_iff.2 hne
  obtain ⟨b, off, rfl, _⟩ := hm 0 hpos
  refine wpList_append_lies w hgd s x t ho K E i0 (.slice none 0 0) 1 24 ht hi0 hz0 hz1 hz2 rfl (by decide) v 0 [] hs hown ⟨b, off, none⟩ rs.length c (rs.map Row.val) hx (by simp)
    ?_ (by intro u hu; simp only [List.mem_map] at hu; obtain ⟨r, _, rfl⟩ := hu; rfl) hpos (by unfold maxLen; omega) (by omega) hK _ rfl ?_
  · intro j u hu
    have hj : j < rs.length := by
      rcases Nat.lt_or_ge j rs.length with h' | h'
      · exact h'
      · rw [List.getElem?_eq_none (by simpa using h')] at hu; cases hu
    obtain ⟨b1, o1, e, hc⟩ := hm j hj
    cases e
    rw [addr_add, hc]
    simpa [hj] using hu
  · intro g cap w' h1 h2 h3 h4
    refine h _ _ ?_ ?_
    · simpa using h1
    · exact (Below.refl K w).grown h2 hK (fun k hk => (hown.lt k hk).1)
end laws
theorem infoRow : (Try.prog.info? 22).map (fun i => (i.zero, i.size, i.bytes)) = some (some (.slice none 0 0), 1, 24) := by kernel_rfl
def Cloned (w w' : World) (v : Value) (ls : List (List Ent)) : Prop := ∃ rs : List Row, rs.map (·.l) = ls ∧ RowsOk w rs ∧ w'.ownsRow w.heap.size 22 1 v rs.length (rs.map Row.val)

set_option maxRecDepth 100000 in
set_option maxHeartbeats 800000 in
theorem clone_any (a : Option Addr) (cap : Nat) (ls : List (List Ent)) (w : World) (hl : ls.length ≤ 5864062014805) (hb : EntRows w a ls) (hnil : a = none → cap = 0) :
    Calls Try.prog 49 #[.slice a ls.length cap] w fun e w' => ∃ v, e = .returned v ∧ Cloned w w' v ls ∧ Below w.heap.size w w' := by
  cases a with
  | none =>
    have hn : ls = [] := by
      cases ls with
      | nil => rfl
      | cons x t => obtain ⟨b, off, _, _, e, _⟩ := hb 0 (by simp); cases e
    subst hn
    obtain rfl := hnil rfl
    have he : ∀ w : World, (binOp .eql 25 (.slice none 0 0) (.slice none 0 0)).run Try.prog w = .ok (.bool true) w := fun _ => rfl
    go_enter Try.func49, Try.ntmps49
    go_wp2
    go_ret
    exact ⟨_, rfl, ⟨[], rfl, fun r hr => by simp at hr, World.ownsRow_nil _ _ _ _⟩, Below.refl _ _⟩
  | some ad =>
    obtain ⟨rs, hrl, hok, hcells⟩ := rows_of hb
    have hlen : rs.length = ls.length := by rw [← hrl]; simp
    have HC := Lib.hid hcells
    have HO := Lib.hid hok
    have HR := Lib.hid hrl
    have hls : rs.length ≤ 5864062014805 := by omega
    have HB : Hid (Below w.heap.size w (w.alloc (.cells #[] 22))) := Lib.hid ((Below.refl _ _).alloc (Nat.le_refl _) _)
    have HCA : Hid (∀ i (h : i < rs.length), ∃ b off, some ad = some ⟨b, off, none⟩ ∧ (w.alloc (.cells #[] 22)).cell? ⟨b, off + i, none⟩ = some rs[i].val) := Lib.hid (fun i hi => by
      obtain ⟨b, off, e, hc⟩ := HC.out i hi
      exact ⟨b, off, e, by rw [HB.out.cell (p := ⟨b, off + i, none⟩) (cell_lt hc)]; exact hc⟩)
    have HOWN : Hid ((w.alloc (.cells #[] 22)).ownsRow w.heap.size 22 1 (.slice (some ⟨w.heap.size, 0, none⟩) 0 0) 0 []) := Lib.hid (World.ownsRow_lit (base := w.heap.size) (e := 22) (size := 1) w #[] 0 (Nat.le_refl _) (by unfold maxLen; omega) rfl)
    clear hcells hok hrl hb hnil HC
    have he : ∀ w : World, (binOp .eql 25 (.slice (some ad) ls.length cap) (.slice none 0 0)).run Try.prog w = .ok (.bool false) w := fun _ => rfl
    go_enter Try.func49, Try.ntmps49
    go_wp2_with (at_builtin; refine app_rows _ rfl _ _ 25 rfl Try.underlying25 infoRow (K := w.heap.size) rfl HOWN.out (rs := rs) (n := ls.length) hlen rfl HCA.out hls (by simp) ?_; intro v' w5 hown5 hb5)
    go_ret
    exact ⟨_, rfl, ⟨rs, HR.out, HO.out, hown5⟩, HB.out.trans hb5⟩
end Go.Proofs.Ythgbmijgoaihcaa
