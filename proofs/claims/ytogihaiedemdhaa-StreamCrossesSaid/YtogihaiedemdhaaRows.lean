/-
  No cell of these rows narrows 'for every input' (looked for: loops, veiled, ifaces, maps, wideKeys, modest, calm, conditions, laid).
  DERIVED. THE GIVEN ROWS OF THIS SEAT. 10 by the template 'for every input the law returns true; each argument reads behind the call as it read before'; 0 by the template 'total and deterministic' (their statements: YtogihaiedemdhaaTotals.lean).
  GIVEN WITH THE SEED: the statements are not yours to turn. If you find one false, say at which input.
  Laid BY PROGRAM, IN A SANDBOX (cutbox-rows.mjs): the forced cells as the released guide's own fill.sh prints them over the translation 5739cac83db7f59c… (all of the seat's roots in one cut). By AI agents, Wed Nov 11 2026. No macro, syntax, notation, axiom, sorry.
-/
import Derived.Test.YtogihaiedemdhaaChecked
import GoSem.Claim
import GoSem.ClaimJoined
import GoSem.ClaimMapViews
import Derived.JoinedTies
import Derived.KernelRfl
namespace Go.Proofs.Ytogihaiedemdhaa
/- THE CELL 'sum', in the pinned program and in every row, IS THE sha256 OF THE DUMP (.gsa) THAT YtogihaiedemdhaaProg.lean LOADS. Nothing in Lean hashes anything: it is a label: what it is worth is what the hold of that sum in a sandbox is worth. -/
noncomputable def Try.pinned : Pinned := { name := "ytogihaiedemdhaa", sum := "5739cac83db7f59c54cd464d176c6bb36eb366b87d4ae71659123e0663c9b74b", checked := Try.checked }
namespace Rows
def none {H : Type} : Left H := { results := [], args := [] }

/-- 'tantaluslaw05.StreamBlocks': WHATEVER THE INPUT: true; the input reads as it did. -/
def streamBlocksSpec : ChangeSpec := { name := "streamBlocks", fn := fun _ => fun
  | [d] => { results := [.lit (.bool true)], args := [d] }
  | _ => none }
def streamBlocksRow : OpenClaim := { program := "ytogihaiedemdhaa", sum := "5739cac83db7f59c54cd464d176c6bb36eb366b87d4ae71659123e0663c9b74b", func := "tantalus/tantaluslaw05.StreamBlocks", spec := "streamBlocks", apart := false }
def StreamBlocksSaid : Prop := streamBlocksRow.holds Try.pinned (OpenSpec.ofChange streamBlocksSpec)

/-- ITS FALSE NEIGHBOUR: 'it returns false'. Refute it at one input. -/
def streamBlocksWrong : ChangeSpec := { name := "streamBlocks", fn := fun _ => fun
  | [d] => { results := [.lit (.bool false)], args := [d] }
  | _ => none }
def StreamBlocksWrongFalsely : Prop := streamBlocksRow.holds Try.pinned (OpenSpec.ofChange streamBlocksWrong)

/-- 'tantaluslaw09.BloomMakes': WHATEVER THE INPUT: true; the input reads as it did. -/
def bloomMakesSpec : ChangeSpec := { name := "bloomMakes", fn := fun _ => fun
  | [d1, d2] => { results := [.lit (.bool true)], args := [d1, d2] }
  | _ => none }
def bloomMakesRow : OpenClaim := { program := "ytogihaiedemdhaa", sum := "5739cac83db7f59c54cd464d176c6bb36eb366b87d4ae71659123e0663c9b74b", func := "tantalus/tantaluslaw09.BloomMakes", spec := "bloomMakes", apart := false }
def BloomMakesSaid : Prop := bloomMakesRow.holds Try.pinned (OpenSpec.ofChange bloomMakesSpec)

/-- ITS FALSE NEIGHBOUR: 'it returns false'. Refute it at one input. -/
def bloomMakesWrong : ChangeSpec := { name := "bloomMakes", fn := fun _ => fun
  | [d1, d2] => { results := [.lit (.bool false)], args := [d1, d2] }
  | _ => none }
def BloomMakesWrongFalsely : Prop := bloomMakesRow.holds Try.pinned (OpenSpec.ofChange bloomMakesWrong)

/-- 'tantaluslaw09.BloomMays': WHATEVER THE INPUT: true; the input reads as it did. -/
def bloomMaysSpec : ChangeSpec := { name := "bloomMays", fn := fun _ => fun
  | [d1, d2] => { results := [.lit (.bool true)], args := [d1, d2] }
  | _ => none }
def bloomMaysRow : OpenClaim := { program := "ytogihaiedemdhaa", sum := "5739cac83db7f59c54cd464d176c6bb36eb366b87d4ae71659123e0663c9b74b", func := "tantalus/tantaluslaw09.BloomMays", spec := "bloomMays", apart := false }
def BloomMaysSaid : Prop := bloomMaysRow.holds Try.pinned (OpenSpec.ofChange bloomMaysSpec)

/-- ITS FALSE NEIGHBOUR: 'it returns false'. Refute it at one input. -/
def bloomMaysWrong : ChangeSpec := { name := "bloomMays", fn := fun _ => fun
  | [d1, d2] => { results := [.lit (.bool false)], args := [d1, d2] }
  | _ => none }
def BloomMaysWrongFalsely : Prop := bloomMaysRow.holds Try.pinned (OpenSpec.ofChange bloomMaysWrong)

/-- 'tantaluslaw09.BloomHas': WHATEVER THE INPUT: true; the input reads as it did. -/
def bloomHasSpec : ChangeSpec := { name := "bloomHas", fn := fun _ => fun
  | [d1, d2] => { results := [.lit (.bool true)], args := [d1, d2] }
  | _ => none }
def bloomHasRow : OpenClaim := { program := "ytogihaiedemdhaa", sum := "5739cac83db7f59c54cd464d176c6bb36eb366b87d4ae71659123e0663c9b74b", func := "tantalus/tantaluslaw09.BloomHas", spec := "bloomHas", apart := false }
def BloomHasSaid : Prop := bloomHasRow.holds Try.pinned (OpenSpec.ofChange bloomHasSpec)

/-- ITS FALSE NEIGHBOUR: 'it returns false'. Refute it at one input. -/
def bloomHasWrong : ChangeSpec := { name := "bloomHas", fn := fun _ => fun
  | [d1, d2] => { results := [.lit (.bool false)], args := [d1, d2] }
  | _ => none }
def BloomHasWrongFalsely : Prop := bloomHasRow.holds Try.pinned (OpenSpec.ofChange bloomHasWrong)

/-- 'tantaluslaw09.BloomMore': WHATEVER THE INPUT: true; the input reads as it did. -/
def bloomMoreSpec : ChangeSpec := { name := "bloomMore", fn := fun _ => fun
  | [d1, d2, d3] => { results := [.lit (.bool true)], args := [d1, d2, d3] }
  | _ => none }
def bloomMoreRow : OpenClaim := { program := "ytogihaiedemdhaa", sum := "5739cac83db7f59c54cd464d176c6bb36eb366b87d4ae71659123e0663c9b74b", func := "tantalus/tantaluslaw09.BloomMore", spec := "bloomMore", apart := false }
def BloomMoreSaid : Prop := bloomMoreRow.holds Try.pinned (OpenSpec.ofChange bloomMoreSpec)

/-- ITS FALSE NEIGHBOUR: 'it returns false'. Refute it at one input. -/
def bloomMoreWrong : ChangeSpec := { name := "bloomMore", fn := fun _ => fun
  | [d1, d2, d3] => { results := [.lit (.bool false)], args := [d1, d2, d3] }
  | _ => none }
def BloomMoreWrongFalsely : Prop := bloomMoreRow.holds Try.pinned (OpenSpec.ofChange bloomMoreWrong)

/-- 'tantaluslaw09.BloomOrder': WHATEVER THE INPUT: true; the input reads as it did. -/
def bloomOrderSpec : ChangeSpec := { name := "bloomOrder", fn := fun _ => fun
  | [d1, d2] => { results := [.lit (.bool true)], args := [d1, d2] }
  | _ => none }
def bloomOrderRow : OpenClaim := { program := "ytogihaiedemdhaa", sum := "5739cac83db7f59c54cd464d176c6bb36eb366b87d4ae71659123e0663c9b74b", func := "tantalus/tantaluslaw09.BloomOrder", spec := "bloomOrder", apart := false }
def BloomOrderSaid : Prop := bloomOrderRow.holds Try.pinned (OpenSpec.ofChange bloomOrderSpec)

/-- ITS FALSE NEIGHBOUR: 'it returns false'. Refute it at one input. -/
def bloomOrderWrong : ChangeSpec := { name := "bloomOrder", fn := fun _ => fun
  | [d1, d2] => { results := [.lit (.bool false)], args := [d1, d2] }
  | _ => none }
def BloomOrderWrongFalsely : Prop := bloomOrderRow.holds Try.pinned (OpenSpec.ofChange bloomOrderWrong)

/-- 'tantaluslaw05.StreamCrosses': WHATEVER THE INPUT: true; the input reads as it did. -/
def streamCrossesSpec : ChangeSpec := { name := "streamCrosses", fn := fun _ => fun
  | [d1, d2] => { results := [.lit (.bool true)], args := [d1, d2] }
  | _ => none }
def streamCrossesRow : OpenClaim := { program := "ytogihaiedemdhaa", sum := "5739cac83db7f59c54cd464d176c6bb36eb366b87d4ae71659123e0663c9b74b", func := "tantalus/tantaluslaw05.StreamCrosses", spec := "streamCrosses", apart := false }
def StreamCrossesSaid : Prop := streamCrossesRow.holds Try.pinned (OpenSpec.ofChange streamCrossesSpec)

/-- ITS FALSE NEIGHBOUR: 'it returns false'. Refute it at one input. -/
def streamCrossesWrong : ChangeSpec := { name := "streamCrosses", fn := fun _ => fun
  | [d1, d2] => { results := [.lit (.bool false)], args := [d1, d2] }
  | _ => none }
def StreamCrossesWrongFalsely : Prop := streamCrossesRow.holds Try.pinned (OpenSpec.ofChange streamCrossesWrong)

/-- 'tantaluslaw05.StreamTwice': WHATEVER THE INPUT: true; the input reads as it did. -/
def streamTwiceSpec : ChangeSpec := { name := "streamTwice", fn := fun _ => fun
  | [d1, d2] => { results := [.lit (.bool true)], args := [d1, d2] }
  | _ => none }
def streamTwiceRow : OpenClaim := { program := "ytogihaiedemdhaa", sum := "5739cac83db7f59c54cd464d176c6bb36eb366b87d4ae71659123e0663c9b74b", func := "tantalus/tantaluslaw05.StreamTwice", spec := "streamTwice", apart := false }
def StreamTwiceSaid : Prop := streamTwiceRow.holds Try.pinned (OpenSpec.ofChange streamTwiceSpec)

/-- ITS FALSE NEIGHBOUR: 'it returns false'. Refute it at one input. -/
def streamTwiceWrong : ChangeSpec := { name := "streamTwice", fn := fun _ => fun
  | [d1, d2] => { results := [.lit (.bool false)], args := [d1, d2] }
  | _ => none }
def StreamTwiceWrongFalsely : Prop := streamTwiceRow.holds Try.pinned (OpenSpec.ofChange streamTwiceWrong)

/-- 'tantaluslaw05.StreamLater': WHATEVER THE INPUT: true; the input reads as it did. -/
def streamLaterSpec : ChangeSpec := { name := "streamLater", fn := fun _ => fun
  | [d1, d2, d3] => { results := [.lit (.bool true)], args := [d1, d2, d3] }
  | _ => none }
def streamLaterRow : OpenClaim := { program := "ytogihaiedemdhaa", sum := "5739cac83db7f59c54cd464d176c6bb36eb366b87d4ae71659123e0663c9b74b", func := "tantalus/tantaluslaw05.StreamLater", spec := "streamLater", apart := false }
def StreamLaterSaid : Prop := streamLaterRow.holds Try.pinned (OpenSpec.ofChange streamLaterSpec)

/-- ITS FALSE NEIGHBOUR: 'it returns false'. Refute it at one input. -/
def streamLaterWrong : ChangeSpec := { name := "streamLater", fn := fun _ => fun
  | [d1, d2, d3] => { results := [.lit (.bool false)], args := [d1, d2, d3] }
  | _ => none }
def StreamLaterWrongFalsely : Prop := streamLaterRow.holds Try.pinned (OpenSpec.ofChange streamLaterWrong)

/-- 'tantaluslaw05.StreamPlaces': WHATEVER THE INPUT: true; the input reads as it did. -/
def streamPlacesSpec : ChangeSpec := { name := "streamPlaces", fn := fun _ => fun
  | [d1, d2, d3] => { results := [.lit (.bool true)], args := [d1, d2, d3] }
  | _ => none }
def streamPlacesRow : OpenClaim := { program := "ytogihaiedemdhaa", sum := "5739cac83db7f59c54cd464d176c6bb36eb366b87d4ae71659123e0663c9b74b", func := "tantalus/tantaluslaw05.StreamPlaces", spec := "streamPlaces", apart := false }
def StreamPlacesSaid : Prop := streamPlacesRow.holds Try.pinned (OpenSpec.ofChange streamPlacesSpec)

/-- ITS FALSE NEIGHBOUR: 'it returns false'. Refute it at one input. -/
def streamPlacesWrong : ChangeSpec := { name := "streamPlaces", fn := fun _ => fun
  | [d1, d2, d3] => { results := [.lit (.bool false)], args := [d1, d2, d3] }
  | _ => none }
def StreamPlacesWrongFalsely : Prop := streamPlacesRow.holds Try.pinned (OpenSpec.ofChange streamPlacesWrong)

/- THE SECOND FORM. 'bulk': how many values and letters a reading holds, each counted each time it is reached (what is shared counts as often as it is met; a slice's spare places count too). A statement '..UptoSaid' is the law's where the arguments, and the package variables that the reading takes, are together of bulk at most 1048576: NARROWER than '..Said'. Prove '..Said' where nothing that the law and all that it calls make is longer than what came in: it says more and counts as full. Else prove '..UptoSaid'. A law counts once. -/
mutual
def uptoBulk {H : Type} : DataW H → Nat
  | .lit (.string bytes) => bytes.length + 1
  | .lit _ => 1
  | .nil => 1
  | .ptr d => uptoBulk d + 1
  | .slice elems spare => uptoBulkAll elems + uptoBulkAll spare + 1
  | .agg parts => uptoBulkAll parts + 1
  | .iface _ d => uptoBulk d + 1
  | .map entries => uptoBulkEntries entries + 1
  | .held _ => 1
def uptoBulkAll {H : Type} : List (DataW H) → Nat
  | [] => 0
  | d :: r => uptoBulk d + uptoBulkAll r
def uptoBulkEntries {H : Type} : List (Lit × DataW H) → Nat
  | [] => 0
  | x :: r => uptoBulkEntry x + uptoBulkEntries r
def uptoBulkEntry {H : Type} : Lit × DataW H → Nat
  | (.string bytes, d) => bytes.length + uptoBulk d + 1
  | (_, d) => uptoBulk d + 1
 end
def uptoSmall : (H : Type) → List (DataW H) → Bool := fun _ ds => decide (uptoBulkAll ds ≤ 1048576)
def OpenSpec.upto (s : _root_.Go.ChangeSpec) : _root_.Go.OpenSpec := { _root_.Go.OpenSpec.ofChange s with cond := some uptoSmall }

/-- 'tantaluslaw05.StreamBlocks', WHERE WHAT IT READS IS OF BULK AT MOST 1048576: true; the input reads as it did. -/
def streamBlocksUptoRow : OpenClaim := { program := "ytogihaiedemdhaa", sum := "5739cac83db7f59c54cd464d176c6bb36eb366b87d4ae71659123e0663c9b74b", func := "tantalus/tantaluslaw05.StreamBlocks", spec := "streamBlocks", apart := false, narrowed := true }
def StreamBlocksUptoSaid : Prop := streamBlocksUptoRow.holds Try.pinned (OpenSpec.upto streamBlocksSpec)

/-- 'tantaluslaw09.BloomMakes', WHERE WHAT IT READS IS OF BULK AT MOST 1048576: true; the input reads as it did. -/
def bloomMakesUptoRow : OpenClaim := { program := "ytogihaiedemdhaa", sum := "5739cac83db7f59c54cd464d176c6bb36eb366b87d4ae71659123e0663c9b74b", func := "tantalus/tantaluslaw09.BloomMakes", spec := "bloomMakes", apart := false, narrowed := true }
def BloomMakesUptoSaid : Prop := bloomMakesUptoRow.holds Try.pinned (OpenSpec.upto bloomMakesSpec)

/-- 'tantaluslaw09.BloomMays', WHERE WHAT IT READS IS OF BULK AT MOST 1048576: true; the input reads as it did. -/
def bloomMaysUptoRow : OpenClaim := { program := "ytogihaiedemdhaa", sum := "5739cac83db7f59c54cd464d176c6bb36eb366b87d4ae71659123e0663c9b74b", func := "tantalus/tantaluslaw09.BloomMays", spec := "bloomMays", apart := false, narrowed := true }
def BloomMaysUptoSaid : Prop := bloomMaysUptoRow.holds Try.pinned (OpenSpec.upto bloomMaysSpec)

/-- 'tantaluslaw09.BloomHas', WHERE WHAT IT READS IS OF BULK AT MOST 1048576: true; the input reads as it did. -/
def bloomHasUptoRow : OpenClaim := { program := "ytogihaiedemdhaa", sum := "5739cac83db7f59c54cd464d176c6bb36eb366b87d4ae71659123e0663c9b74b", func := "tantalus/tantaluslaw09.BloomHas", spec := "bloomHas", apart := false, narrowed := true }
def BloomHasUptoSaid : Prop := bloomHasUptoRow.holds Try.pinned (OpenSpec.upto bloomHasSpec)

/-- 'tantaluslaw09.BloomMore', WHERE WHAT IT READS IS OF BULK AT MOST 1048576: true; the input reads as it did. -/
def bloomMoreUptoRow : OpenClaim := { program := "ytogihaiedemdhaa", sum := "5739cac83db7f59c54cd464d176c6bb36eb366b87d4ae71659123e0663c9b74b", func := "tantalus/tantaluslaw09.BloomMore", spec := "bloomMore", apart := false, narrowed := true }
def BloomMoreUptoSaid : Prop := bloomMoreUptoRow.holds Try.pinned (OpenSpec.upto bloomMoreSpec)

/-- 'tantaluslaw09.BloomOrder', WHERE WHAT IT READS IS OF BULK AT MOST 1048576: true; the input reads as it did. -/
def bloomOrderUptoRow : OpenClaim := { program := "ytogihaiedemdhaa", sum := "5739cac83db7f59c54cd464d176c6bb36eb366b87d4ae71659123e0663c9b74b", func := "tantalus/tantaluslaw09.BloomOrder", spec := "bloomOrder", apart := false, narrowed := true }
def BloomOrderUptoSaid : Prop := bloomOrderUptoRow.holds Try.pinned (OpenSpec.upto bloomOrderSpec)

/-- 'tantaluslaw05.StreamCrosses', WHERE WHAT IT READS IS OF BULK AT MOST 1048576: true; the input reads as it did. -/
def streamCrossesUptoRow : OpenClaim := { program := "ytogihaiedemdhaa", sum := "5739cac83db7f59c54cd464d176c6bb36eb366b87d4ae71659123e0663c9b74b", func := "tantalus/tantaluslaw05.StreamCrosses", spec := "streamCrosses", apart := false, narrowed := true }
def StreamCrossesUptoSaid : Prop := streamCrossesUptoRow.holds Try.pinned (OpenSpec.upto streamCrossesSpec)

/-- 'tantaluslaw05.StreamTwice', WHERE WHAT IT READS IS OF BULK AT MOST 1048576: true; the input reads as it did. -/
def streamTwiceUptoRow : OpenClaim := { program := "ytogihaiedemdhaa", sum := "5739cac83db7f59c54cd464d176c6bb36eb366b87d4ae71659123e0663c9b74b", func := "tantalus/tantaluslaw05.StreamTwice", spec := "streamTwice", apart := false, narrowed := true }
def StreamTwiceUptoSaid : Prop := streamTwiceUptoRow.holds Try.pinned (OpenSpec.upto streamTwiceSpec)

/-- 'tantaluslaw05.StreamLater', WHERE WHAT IT READS IS OF BULK AT MOST 1048576: true; the input reads as it did. -/
def streamLaterUptoRow : OpenClaim := { program := "ytogihaiedemdhaa", sum := "5739cac83db7f59c54cd464d176c6bb36eb366b87d4ae71659123e0663c9b74b", func := "tantalus/tantaluslaw05.StreamLater", spec := "streamLater", apart := false, narrowed := true }
def StreamLaterUptoSaid : Prop := streamLaterUptoRow.holds Try.pinned (OpenSpec.upto streamLaterSpec)

/-- 'tantaluslaw05.StreamPlaces', WHERE WHAT IT READS IS OF BULK AT MOST 1048576: true; the input reads as it did. -/
def streamPlacesUptoRow : OpenClaim := { program := "ytogihaiedemdhaa", sum := "5739cac83db7f59c54cd464d176c6bb36eb366b87d4ae71659123e0663c9b74b", func := "tantalus/tantaluslaw05.StreamPlaces", spec := "streamPlaces", apart := false, narrowed := true }
def StreamPlacesUptoSaid : Prop := streamPlacesUptoRow.holds Try.pinned (OpenSpec.upto streamPlacesSpec)

end Rows
end Go.Proofs.Ytogihaiedemdhaa
