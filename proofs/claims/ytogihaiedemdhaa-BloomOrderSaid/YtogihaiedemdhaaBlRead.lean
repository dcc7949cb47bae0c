/-
  Arguments' readings opened: slices of bytes, slices of texts.
-/
import Derived.Test.YtogihaiedemdhaaBl3
import Derived.SliceStrings
import Derived.ChangeMaps5
namespace Go.Proofs.Ytogihaiedemdhaa
open Go.RowKit Go.ChangeShapes Go.WideShapes Go.ChangeAt
set_option linter.unusedVariables false
section reads
variable {P : Program} {w : World} {H : Type} {enc : TypeId × Value → H}
theorem read_strs {base : Nat} {held : Bool} {t e : TypeId} {r : Reach} {b0 : Nat} {v : Value} {d : DataW H} {ps : List MemPlace} (ht : P.underlying t = some (.slice e)) (he : P.underlying e = some .string) (hc : P.cellsOf e = 1)
    (hval : Value.okWide P w r b0 t v) (hd : DataW.Trod enc P w base (fun _ => true) held t v d ps) :
    ∃ a cap ks, v = .slice a ks.length cap ∧ ks.length ≤ cap ∧ cap ≤ maxLen ∧ Strs w a ks := by
  obtain ⟨a, len, cap, rfl⟩ := okWide_slice ht hval
  obtain ⟨fuel, hf⟩ := hd
  rcases open_strings ht he hc hf with ⟨hcs, _⟩ | ⟨x, l, c, ss, hcs, _, hl, hm, hz, _, hcell, hsz⟩
  · simp [Value.cells] at hcs
    obtain ⟨rfl, rfl, rfl⟩ := hcs
    exact ⟨none, 0, [], rfl, Nat.le_refl _, by unfold maxLen; omega, fun i h => by simp at h⟩
  · simp [Value.cells] at hcs
    obtain ⟨rfl, rfl, rfl⟩ := hcs
    simp at hz
    refine ⟨some x, cap, ss.take len, by simp; omega, by simp; omega, hm, fun i hi => ?_⟩
    have hi' : i < len := by simp at hi; omega
    have h0 := hcell 0 (by omega)
    obtain ⟨b, off, spot⟩ := x
    have hs : spot = none := by simpa [Addr.add] using World.cell?_spot h0
    subst hs
    have h1 := hcell i (by omega)
    rw [addr_add] at h1
    have his : i < ss.length := by omega
    have eg : ss.getD i ByteArray.empty = ss[i] := by simp [List.getD_eq_getElem?_getD, his]
    rw [eg] at h1
    exact ⟨b, off, rfl, by simpa using h1, by simpa using hsz ss[i] (List.getElem_mem _)⟩
end reads
end Go.Proofs.Ytogihaiedemdhaa
