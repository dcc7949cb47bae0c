/-
  The merge laws' arguments: readings opened.
-/
import Derived.Test.YthgbmijgoaihcaaEntRead
import Derived.Test.YthgbmijgoaihcaaMg8
namespace Go.Proofs.Ythgbmijgoaihcaa
open Go.RowKit Go.ChangeShapes Go.WideShapes Go.ChangeAt
set_option linter.unusedVariables false
theorem read_entries_r {H : Type} {enc : TypeId × Value → H} {W : World} {r : Reach} {b0 base : Nat} {held : Bool} {v : Value} {d : DataW H} {p : List MemPlace} (o : Value.okWide Try.prog W r b0 22 v) (h : DataW.Trod enc Try.prog W base (fun _ => true) held 22 v d p)
    (hz : ∀ n ∈ d.weights Try.prog 22, n ≤ reachBytes) :
    ∃ a cap l, v = .slice a l.length cap ∧ l.length ≤ cap ∧ cap ≤ maxLen ∧ Ents W a l ∧ l.length ≤ 2932031007400 := by
  obtain ⟨a, cap, l, rfl, h1, h2, h3⟩ := read_entries o h
  refine ⟨a, cap, l, rfl, h1, h2, h3, ?_⟩
  obtain ⟨fuel, hf⟩ := h
  rcases Deep.open_slice Try.underlying22 hf with ⟨hcs, _⟩ | ⟨y, len, c, m, n, D, Pl, hcs, _, hl, hm, hmm, hx, _⟩
  · simp [Value.cells] at hcs
    omega
  · simp [Value.cells] at hcs
    obtain ⟨rfl, rfl, rfl⟩ := hcs
    simp only [if_true] at hmm
    subst hmm
    simp only [Prod.mk.injEq] at hx
    obtain ⟨rfl, _⟩ := hx
    have hb : Try.prog.bytesOf 33 = 48 := by kernel_rfl
    have := hz ((((List.range l.length).map D).length + ((List.range (m - l.length)).map fun j => D (l.length + j)).length) * Try.prog.bytesOf 33) (by simp [DataW.weights, Try.underlying22])
    rw [hb] at this
    simp only [List.length_map, List.length_range] at this
    have e : reachBytes = 140737488351232 := rfl
    omega
theorem read_moments {H : Type} {enc : TypeId × Value → H} {W : World} {r : Reach} {b0 base : Nat} {held : Bool} {v : Value} {d : DataW H} {p : List MemPlace} (o : Value.okWide Try.prog W r b0 35 v) (h : DataW.Trod enc Try.prog W base (fun _ => true) held 35 v d p) :
    ∃ a cap ms, v = .slice a ms.length cap ∧ ms.length ≤ cap ∧ cap ≤ maxLen ∧ U64s W a ms ∧ ∀ m ∈ ms, m < 18446744073709551616 := by
  obtain ⟨a, len, cap, rfl⟩ := okWide_slice Try.underlying35 o
  obtain ⟨fuel, hf⟩ := h
  rcases open_ints Try.underlying35 Try.underlying31 (by kernel_rfl) hf with ⟨hcs, _⟩ | ⟨x, l, c, zs, hcs, _, hl, hm, hzl, _, hcell, hwz⟩
  · simp [Value.cells] at hcs
    obtain ⟨rfl, rfl, rfl⟩ := hcs
    exact ⟨none, 0, [], rfl, Nat.le_refl _, by unfold maxLen; omega, u64s_nil _ _, by simp⟩
  · simp [Value.cells] at hcs
    obtain ⟨rfl, rfl, rfl⟩ := hcs
    simp at hzl
    refine ⟨some x, cap, (zs.take len).map Int.toNat, by simp; omega, by simp; omega, hm, ?_, ?_⟩
    · intro i hi
      have hi' : i < len := by simp at hi; omega
      have h0 := hcell 0 (by omega)
      obtain ⟨b, off, spot⟩ := x
      have hs : spot = none := by simpa [Addr.add] using World.cell?_spot h0
      subst hs
      have h1 := hcell i (by omega)
      rw [addr_add] at h1
      have his : i < zs.length := by omega
      have eg : zs.getD i 0 = zs[i] := by simp [List.getD_eq_getElem?_getD, his]
      rw [eg] at h1
      have hw := wf_u64 (hwz zs[i] (List.getElem_mem _))
      refine ⟨b, off, rfl, ?_⟩
      rw [h1]
      simp
      omega
    · intro m hmm
      simp only [List.mem_map] at hmm
      obtain ⟨z, hz, rfl⟩ := hmm
      have hw := wf_u64 (hwz z (List.mem_of_mem_take hz))
      omega
end Go.Proofs.Ythgbmijgoaihcaa
