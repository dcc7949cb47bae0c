/-
  More of the merge laws' arguments: lists of lists, three lists, small numbers.
-/
import Derived.Test.YthgbmijgoaihcaaMgRead
import Derived.Test.YthgbmijgoaihcaaEnt3
namespace Go.Proofs.Ythgbmijgoaihcaa
open Go.RowKit Go.ChangeShapes Go.WideShapes Go.ChangeAt
set_option linter.unusedVariables false
theorem read_ents1 {H : Type} {enc : TypeId × Value → H} {W : World} {base : Nat} {held : Bool} {fuel : Nat} {v : Value} {x : DataW H × List MemPlace} (hf : DataW.trod enc Try.prog W base (fun _ => true) held fuel 22 [v] = some x) :
    ∃ a cap l, v = .slice a l.length cap ∧ l.length ≤ cap ∧ cap ≤ maxLen ∧ Ents W a l := by
  obtain ⟨a, len, cap, rfl⟩ : ∃ a len cap, v = .slice a len cap := by
    rcases Deep.open_slice Try.underlying22 hf with ⟨hcs, _⟩ | ⟨y, l, c, m, n, D, Pl, hcs, _⟩
    · simp at hcs; exact ⟨_, _, _, hcs⟩
    · simp at hcs; exact ⟨_, _, _, hcs⟩
  obtain ⟨l, rfl, h1, h2, h3, _⟩ := read_ents (q := 0) (u8 := 0) (u64 := 0) (r := .any) (b0 := 0) (v := .int .i64 0) (d := x.1) (ps := x.2) Try.underlying22 Try.underlying33 (by kernel_rfl) rfl rfl rfl rfl (by kernel_rfl) (by kernel_rfl) (by kernel_rfl) (by kernel_rfl) (by kernel_rfl) (by kernel_rfl) (by kernel_rfl) (by kernel_rfl) hf
  exact ⟨a, cap, l, rfl, h1, h2, h3⟩
theorem read_rows {H : Type} {enc : TypeId × Value → H} {W : World} {r : Reach} {b0 base : Nat} {held : Bool} {v : Value} {d : DataW H} {p : List MemPlace} (o : Value.okWide Try.prog W r b0 25 v) (h : DataW.Trod enc Try.prog W base (fun _ => true) held 25 v d p) :
    ∃ a cap ls, v = .slice a ls.length cap ∧ ls.length ≤ cap ∧ cap ≤ maxLen ∧ EntRows W a ls := by
  obtain ⟨a, len, cap, rfl⟩ := okWide_slice Try.underlying25 o
  obtain ⟨fuel, hf⟩ := h
  rcases Deep.open_slice1 Try.underlying25 (by kernel_rfl) hf with ⟨hcs, _⟩ | ⟨y, l, c, m, n, V, D, Pl, hcs, _, hl, hm, hmm, _, hx⟩
  · simp [Value.cells] at hcs
    obtain ⟨rfl, rfl, rfl⟩ := hcs
    exact ⟨none, 0, [], rfl, Nat.le_refl _, by unfold maxLen; omega, fun i h => by simp at h⟩
  · simp [Value.cells] at hcs
    obtain ⟨rfl, rfl, rfl⟩ := hcs
    simp only [if_true] at hmm
    subst hmm
    have each : ∀ i, ∃ e : List Ent, i < m → ∃ x c, V i = .slice x e.length c ∧ e.length ≤ c ∧ c ≤ maxLen ∧ Ents W x e := by
      intro i
      by_cases hi : i < m
      · obtain ⟨_, h2⟩ := hx i hi
        obtain ⟨x, c, e, q⟩ := read_ents1 h2
        exact ⟨e, fun _ => ⟨x, c, q⟩⟩
      · exact ⟨[], fun q => absurd q hi⟩
    refine ⟨some y, m, (List.range len).map fun i => (each i).choose, by simp, by simpa using hl, hm, fun i hi => ?_⟩
    have hi' : i < len := by simpa using hi
    obtain ⟨b, off, spot⟩ := y
    have h0 := (hx 0 (by omega)).1
    have hs : spot = none := by simpa [Addr.add] using World.cell?_spot h0
    subst hs
    have h1 := (hx i (by omega)).1
    rw [addr_add] at h1
    obtain ⟨x, c, e1, e2, e3, e4⟩ := (each i).choose_spec (by omega)
    simp only [List.getElem_map, List.getElem_range]
    exact ⟨b, off, x, c, rfl, h1.trans (congrArg some e1), e2, e3, e4⟩
theorem okWide_array' {P : Program} {t : TypeId} {n : Nat} {e : TypeId} (ht : P.underlying t = some (.array n e)) {W : World} {r : Reach} {b0 : Nat} {v : Value} (h : Value.okWide P W r b0 t v) : ∃ cs, v = .agg cs := by
  unfold Value.okWide at h
  rw [ht] at h
  cases v <;> simp_all
theorem read_rows3 {H : Type} {enc : TypeId × Value → H} {w : World} {base b0 : Nat} {held : Bool} {r : Reach} {v : Value} {d : DataW H} {ps : List MemPlace}
    (hval : Value.okWide Try.prog w r b0 50 v) (hd : DataW.Trod enc Try.prog w base (fun _ => true) held 50 v d ps) :
    ∃ a0 c0 l0 a1 c1 l1 a2 c2 l2, v = .agg #[.slice a0 (List.length l0) c0, .slice a1 (List.length l1) c1, .slice a2 (List.length l2) c2] ∧ (l0.length ≤ c0 ∧ c0 ≤ maxLen ∧ Ents w a0 l0) ∧ (l1.length ≤ c1 ∧ c1 ≤ maxLen ∧ Ents w a1 l1) ∧ (l2.length ≤ c2 ∧ c2 ≤ maxLen ∧ Ents w a2 l2) := by
  obtain ⟨cs, rfl⟩ := okWide_array' Try.underlying50 hval
  obtain ⟨fuel, hf⟩ := hd
  obtain ⟨xs, m, _, _, hl, hxs, hi⟩ := DataW.trod_array Try.underlying50 hf
  have c2 : Try.prog.cellsOf 50 = 3 := by kernel_rfl
  have c1 : Try.prog.cellsOf 22 = 1 := by kernel_rfl
  rw [c2] at hl
  have hcs : (Value.agg cs).cells.toList = cs.toList := rfl
  rw [hcs] at hl hi
  have g : ∀ i, i < 3 → ∃ a cap l, cs.toList[i]? = some (.slice a (List.length l) cap) ∧ l.length ≤ cap ∧ cap ≤ maxLen ∧ Ents w a l := by
    intro i hlt
    have h1 := hi i hlt
    rw [c1, Nat.mul_one, List.getElem?_eq_getElem (by omega)] at h1
    have hil : i < cs.toList.length := by omega
    have e : (cs.toList.drop i).take 1 = [cs.toList[i]] := by
      rw [List.drop_eq_getElem_cons hil]; rfl
    rw [e] at h1
    obtain ⟨a, cap, l, hv, q⟩ := read_ents1 h1
    exact ⟨a, cap, l, by rw [List.getElem?_eq_getElem hil, hv], q⟩
  obtain ⟨a0, k0, l0, h0, q0⟩ := g 0 (by decide)
  obtain ⟨a1, k1, l1, h1, q1⟩ := g 1 (by decide)
  obtain ⟨a2, k2, l2, h2, q2⟩ := g 2 (by decide)
  refine ⟨a0, k0, l0, a1, k1, l1, a2, k2, l2, ?_, q0, q1, q2⟩
  congr 1
  apply Array.ext'
  apply List.ext_getElem?
  intro i
  match i with
  | 0 => rw [h0]; rfl
  | 1 => rw [h1]; rfl
  | 2 => rw [h2]; rfl
  | i + 3 => rw [List.getElem?_eq_none (by omega)]; rfl
/-- A slice of bytes that reads as l. -/
def U8s (w : World) (a : Option Addr) (l : List Nat) : Prop := ∀ i (h : i < l.length), ∃ b off, a = some ⟨b, off, none⟩ ∧ w.cell? ⟨b, off + i, none⟩ = some (.int .u8 (l[i] : Nat)) ∧ l[i] < 256
theorem U8s.below {w w' : World} {a : Option Addr} {l : List Nat} (h : U8s w a l) (hb : Below w.heap.size w w') : U8s w' a l := by
  intro i hi
  obtain ⟨b, off, e, hc, q⟩ := h i hi
  exact ⟨b, off, e, cell_later2 hb hc, q⟩
theorem read_u8s {H : Type} {enc : TypeId × Value → H} {W : World} {r : Reach} {b0 base : Nat} {held : Bool} {v : Value} {d : DataW H} {p : List MemPlace} (o : Value.okWide Try.prog W r b0 49 v) (h : DataW.Trod enc Try.prog W base (fun _ => true) held 49 v d p) :
    ∃ a cap ms, v = .slice a ms.length cap ∧ ms.length ≤ cap ∧ cap ≤ maxLen ∧ U8s W a ms := by
  obtain ⟨a, len, cap, rfl⟩ := okWide_slice Try.underlying49 o
  obtain ⟨fuel, hf⟩ := h
  rcases open_ints Try.underlying49 Try.underlying5 (by kernel_rfl) hf with ⟨hcs, _⟩ | ⟨x, l, c, zs, hcs, _, hl, hm, hzl, _, hcell, hwz⟩
  · simp [Value.cells] at hcs
    obtain ⟨rfl, rfl, rfl⟩ := hcs
    exact ⟨none, 0, [], rfl, Nat.le_refl _, by unfold maxLen; omega, fun i h => by simp at h⟩
  · simp [Value.cells] at hcs
    obtain ⟨rfl, rfl, rfl⟩ := hcs
    simp at hzl
    refine ⟨some x, cap, (zs.take len).map Int.toNat, by simp; omega, by simp; omega, hm, ?_⟩
    intro i hi
    have hi' : i < len := by simp at hi; omega
    have h0 := hcell 0 (by omega)
    obtain ⟨b, off, spot⟩ := x
    have hs : spot = none := by simpa [Addr.add] using World.cell?_spot h0
    subst hs
    have h1 := hcell i (by omega)
    rw [addr_add] at h1
    have his : i < zs.length := by omega
    have eg : zs.getD i 0 = zs[i] := by simp [List.getD_eq_getElem?_getD, his]
    rw [eg] at h1
    have hw := wf_u8 (hwz zs[i] (List.getElem_mem _))
    refine ⟨b, off, rfl, ?_, by simp; omega⟩
    rw [h1]
    simp
    omega
end Go.Proofs.Ythgbmijgoaihcaa
