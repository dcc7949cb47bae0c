/-
  An argument's reading opens into its entries.
-/
import Derived.Test.YthgbmijgoaihcaaEnts
import Derived.Test.YthgbmijgoaihcaaBase
namespace Go.Proofs.Ythgbmijgoaihcaa
open Go.RowKit Go.ChangeShapes Go.WideShapes Go.ChangeAt
set_option linter.unusedVariables false
theorem read_entries {H : Type} {enc : TypeId × Value → H} {W : World} {r : Reach} {b0 base : Nat} {held : Bool} {v : Value} {d : DataW H} {p : List MemPlace} (o : Value.okWide Try.prog W r b0 22 v) (h : DataW.Trod enc Try.prog W base (fun _ => true) held 22 v d p) :
    ∃ a cap l, v = .slice a l.length cap ∧ l.length ≤ cap ∧ cap ≤ maxLen ∧ Ents W a l := by
  obtain ⟨a, len, cap, rfl⟩ := okWide_slice Try.underlying22 o
  obtain ⟨fuel, hf⟩ := h
  obtain ⟨l, rfl, h1, h2, h3, _⟩ := read_ents (q := 0) (u8 := 0) (u64 := 0) (r := r) (b0 := 0) (v := .int .i64 0) (d := d) (ps := p) Try.underlying22 Try.underlying33 (by kernel_rfl) rfl rfl rfl rfl (by kernel_rfl) (by kernel_rfl) (by kernel_rfl) (by kernel_rfl) (by kernel_rfl) (by kernel_rfl) (by kernel_rfl) (by kernel_rfl) hf
  exact ⟨a, cap, l, rfl, h1, h2, h3⟩
end Go.Proofs.Ythgbmijgoaihcaa
