/-
  No cell of these rows narrows 'for every input' (looked for: loops, veiled, ifaces, maps, wideKeys, modest, calm, conditions, laid).
  DERIVED. THE GIVEN ROWS OF THIS SEAT. 12 by the template 'for every input the law returns true; each argument reads behind the call as it read before'; 0 by the template 'total and deterministic' (their statements: YthgbmijgoaihcaaTotals.lean).
  GIVEN WITH THE SEED: the statements are not yours to turn. If you find one false, say at which input.
  Laid BY PROGRAM, IN A SANDBOX (cutbox-rows.mjs): the forced cells as the released guide's own fill.sh prints them over the translation b19f8e7da4d08390… (all of the seat's roots in one cut). By AI agents, Wed Nov 11 2026. No macro, syntax, notation, axiom, sorry.
-/
import Derived.Test.YthgbmijgoaihcaaChecked
import GoSem.Claim
import GoSem.ClaimJoined
import GoSem.ClaimMapViews
import Derived.JoinedTies
import Derived.KernelRfl
namespace Go.Proofs.Ythgbmijgoaihcaa
/- THE CELL 'sum', in the pinned program and in every row, IS THE sha256 OF THE DUMP (.gsa) THAT YthgbmijgoaihcaaProg.lean LOADS. Nothing in Lean hashes anything: it is a label: what it is worth is what the hold of that sum in a sandbox is worth. -/
noncomputable def Try.pinned : Pinned := { name := "ythgbmijgoaihcaa", sum := "b19f8e7da4d083906c52bbe641bf84c47684c5c85c62302b46b80a3e3a601225", checked := Try.checked }
namespace Rows
def none {H : Type} : Left H := { results := [], args := [] }

/-- 'tantaluslaw22.SplitSplits': WHATEVER THE INPUT: true; the input reads as it did. -/
def splitSplitsSpec : ChangeSpec := { name := "splitSplits", fn := fun _ => fun
  | [d1, d2] => { results := [.lit (.bool true)], args := [d1, d2] }
  | _ => none }
def splitSplitsRow : OpenClaim := { program := "ythgbmijgoaihcaa", sum := "b19f8e7da4d083906c52bbe641bf84c47684c5c85c62302b46b80a3e3a601225", func := "tantalus/tantaluslaw22.SplitSplits", spec := "splitSplits", unfollowed := true, recurses := true, apart := false }
def SplitSplitsSaid : Prop := splitSplitsRow.holds Try.pinned (OpenSpec.ofChange splitSplitsSpec)

/-- ITS FALSE NEIGHBOUR: 'it returns false'. Refute it at one input. -/
def splitSplitsWrong : ChangeSpec := { name := "splitSplits", fn := fun _ => fun
  | [d1, d2] => { results := [.lit (.bool false)], args := [d1, d2] }
  | _ => none }
def SplitSplitsWrongFalsely : Prop := splitSplitsRow.holds Try.pinned (OpenSpec.ofChange splitSplitsWrong)

/-- 'tantaluslaw22.SplitWhole': WHATEVER THE INPUT: true; the input reads as it did. -/
def splitWholeSpec : ChangeSpec := { name := "splitWhole", fn := fun _ => fun
  | [d1, d2] => { results := [.lit (.bool true)], args := [d1, d2] }
  | _ => none }
def splitWholeRow : OpenClaim := { program := "ythgbmijgoaihcaa", sum := "b19f8e7da4d083906c52bbe641bf84c47684c5c85c62302b46b80a3e3a601225", func := "tantalus/tantaluslaw22.SplitWhole", spec := "splitWhole", unfollowed := true, recurses := true, apart := false }
def SplitWholeSaid : Prop := splitWholeRow.holds Try.pinned (OpenSpec.ofChange splitWholeSpec)

/-- ITS FALSE NEIGHBOUR: 'it returns false'. Refute it at one input. -/
def splitWholeWrong : ChangeSpec := { name := "splitWhole", fn := fun _ => fun
  | [d1, d2] => { results := [.lit (.bool false)], args := [d1, d2] }
  | _ => none }
def SplitWholeWrongFalsely : Prop := splitWholeRow.holds Try.pinned (OpenSpec.ofChange splitWholeWrong)

/-- 'tantaluslaw22.SplitMost': WHATEVER THE INPUT: true; the input reads as it did. -/
def splitMostSpec : ChangeSpec := { name := "splitMost", fn := fun _ => fun
  | [d1, d2] => { results := [.lit (.bool true)], args := [d1, d2] }
  | _ => none }
def splitMostRow : OpenClaim := { program := "ythgbmijgoaihcaa", sum := "b19f8e7da4d083906c52bbe641bf84c47684c5c85c62302b46b80a3e3a601225", func := "tantalus/tantaluslaw22.SplitMost", spec := "splitMost", unfollowed := true, recurses := true, apart := false }
def SplitMostSaid : Prop := splitMostRow.holds Try.pinned (OpenSpec.ofChange splitMostSpec)

/-- ITS FALSE NEIGHBOUR: 'it returns false'. Refute it at one input. -/
def splitMostWrong : ChangeSpec := { name := "splitMost", fn := fun _ => fun
  | [d1, d2] => { results := [.lit (.bool false)], args := [d1, d2] }
  | _ => none }
def SplitMostWrongFalsely : Prop := splitMostRow.holds Try.pinned (OpenSpec.ofChange splitMostWrong)

/-- 'tantaluslaw20.MergeKeeps': WHATEVER THE INPUT: true; the input reads as it did. -/
def mergeKeepsSpec : ChangeSpec := { name := "mergeKeeps", fn := fun _ => fun
  | [d1, d2, d3] => { results := [.lit (.bool true)], args := [d1, d2, d3] }
  | _ => none }
def mergeKeepsRow : OpenClaim := { program := "ythgbmijgoaihcaa", sum := "b19f8e7da4d083906c52bbe641bf84c47684c5c85c62302b46b80a3e3a601225", func := "tantalus/tantaluslaw20.MergeKeeps", spec := "mergeKeeps", unfollowed := true, recurses := true, apart := false }
def MergeKeepsSaid : Prop := mergeKeepsRow.holds Try.pinned (OpenSpec.ofChange mergeKeepsSpec)

/-- ITS FALSE NEIGHBOUR: 'it returns false'. Refute it at one input. -/
def mergeKeepsWrong : ChangeSpec := { name := "mergeKeeps", fn := fun _ => fun
  | [d1, d2, d3] => { results := [.lit (.bool false)], args := [d1, d2, d3] }
  | _ => none }
def MergeKeepsWrongFalsely : Prop := mergeKeepsRow.holds Try.pinned (OpenSpec.ofChange mergeKeepsWrong)

/-- 'tantaluslaw20.MergeSeen': WHATEVER THE INPUT: true; the input reads as it did. -/
def mergeSeenSpec : ChangeSpec := { name := "mergeSeen", fn := fun _ => fun
  | [d1, d2, d3] => { results := [.lit (.bool true)], args := [d1, d2, d3] }
  | _ => none }
def mergeSeenRow : OpenClaim := { program := "ythgbmijgoaihcaa", sum := "b19f8e7da4d083906c52bbe641bf84c47684c5c85c62302b46b80a3e3a601225", func := "tantalus/tantaluslaw20.MergeSeen", spec := "mergeSeen", unfollowed := true, recurses := true, apart := false }
def MergeSeenSaid : Prop := mergeSeenRow.holds Try.pinned (OpenSpec.ofChange mergeSeenSpec)

/-- ITS FALSE NEIGHBOUR: 'it returns false'. Refute it at one input. -/
def mergeSeenWrong : ChangeSpec := { name := "mergeSeen", fn := fun _ => fun
  | [d1, d2, d3] => { results := [.lit (.bool false)], args := [d1, d2, d3] }
  | _ => none }
def MergeSeenWrongFalsely : Prop := mergeSeenRow.holds Try.pinned (OpenSpec.ofChange mergeSeenWrong)

/-- 'tantaluslaw20.MergeFew': WHATEVER THE INPUT: true; the input reads as it did. -/
def mergeFewSpec : ChangeSpec := { name := "mergeFew", fn := fun _ => fun
  | [d1, d2, d3] => { results := [.lit (.bool true)], args := [d1, d2, d3] }
  | _ => none }
def mergeFewRow : OpenClaim := { program := "ythgbmijgoaihcaa", sum := "b19f8e7da4d083906c52bbe641bf84c47684c5c85c62302b46b80a3e3a601225", func := "tantalus/tantaluslaw20.MergeFew", spec := "mergeFew", unfollowed := true, recurses := true, apart := false }
def MergeFewSaid : Prop := mergeFewRow.holds Try.pinned (OpenSpec.ofChange mergeFewSpec)

/-- ITS FALSE NEIGHBOUR: 'it returns false'. Refute it at one input. -/
def mergeFewWrong : ChangeSpec := { name := "mergeFew", fn := fun _ => fun
  | [d1, d2, d3] => { results := [.lit (.bool false)], args := [d1, d2, d3] }
  | _ => none }
def MergeFewWrongFalsely : Prop := mergeFewRow.holds Try.pinned (OpenSpec.ofChange mergeFewWrong)

/-- 'tantaluslaw20.MergeViews': WHATEVER THE INPUT: true; the input reads as it did. -/
def mergeViewsSpec : ChangeSpec := { name := "mergeViews", fn := fun _ => fun
  | [d1, d2, d3] => { results := [.lit (.bool true)], args := [d1, d2, d3] }
  | _ => none }
def mergeViewsRow : OpenClaim := { program := "ythgbmijgoaihcaa", sum := "b19f8e7da4d083906c52bbe641bf84c47684c5c85c62302b46b80a3e3a601225", func := "tantalus/tantaluslaw20.MergeViews", spec := "mergeViews", unfollowed := true, recurses := true, apart := false }
def MergeViewsSaid : Prop := mergeViewsRow.holds Try.pinned (OpenSpec.ofChange mergeViewsSpec)

/-- ITS FALSE NEIGHBOUR: 'it returns false'. Refute it at one input. -/
def mergeViewsWrong : ChangeSpec := { name := "mergeViews", fn := fun _ => fun
  | [d1, d2, d3] => { results := [.lit (.bool false)], args := [d1, d2, d3] }
  | _ => none }
def MergeViewsWrongFalsely : Prop := mergeViewsRow.holds Try.pinned (OpenSpec.ofChange mergeViewsWrong)

/-- 'tantaluslaw20.MergeMerges': WHATEVER THE INPUT: true; the input reads as it did. -/
def mergeMergesSpec : ChangeSpec := { name := "mergeMerges", fn := fun _ => fun
  | [d] => { results := [.lit (.bool true)], args := [d] }
  | _ => none }
def mergeMergesRow : OpenClaim := { program := "ythgbmijgoaihcaa", sum := "b19f8e7da4d083906c52bbe641bf84c47684c5c85c62302b46b80a3e3a601225", func := "tantalus/tantaluslaw20.MergeMerges", spec := "mergeMerges", unfollowed := true, recurses := true, apart := false }
def MergeMergesSaid : Prop := mergeMergesRow.holds Try.pinned (OpenSpec.ofChange mergeMergesSpec)

/-- ITS FALSE NEIGHBOUR: 'it returns false'. Refute it at one input. -/
def mergeMergesWrong : ChangeSpec := { name := "mergeMerges", fn := fun _ => fun
  | [d] => { results := [.lit (.bool false)], args := [d] }
  | _ => none }
def MergeMergesWrongFalsely : Prop := mergeMergesRow.holds Try.pinned (OpenSpec.ofChange mergeMergesWrong)

/-- 'tantaluslaw20.MergeParts': WHATEVER THE INPUT: true; the input reads as it did. -/
def mergePartsSpec : ChangeSpec := { name := "mergeParts", fn := fun _ => fun
  | [d1, d2] => { results := [.lit (.bool true)], args := [d1, d2] }
  | _ => none }
def mergePartsRow : OpenClaim := { program := "ythgbmijgoaihcaa", sum := "b19f8e7da4d083906c52bbe641bf84c47684c5c85c62302b46b80a3e3a601225", func := "tantalus/tantaluslaw20.MergeParts", spec := "mergeParts", unfollowed := true, recurses := true, apart := false }
def MergePartsSaid : Prop := mergePartsRow.holds Try.pinned (OpenSpec.ofChange mergePartsSpec)

/-- ITS FALSE NEIGHBOUR: 'it returns false'. Refute it at one input. -/
def mergePartsWrong : ChangeSpec := { name := "mergeParts", fn := fun _ => fun
  | [d1, d2] => { results := [.lit (.bool false)], args := [d1, d2] }
  | _ => none }
def MergePartsWrongFalsely : Prop := mergePartsRow.holds Try.pinned (OpenSpec.ofChange mergePartsWrong)

/-- 'tantaluslaw20.MergeBrackets': WHATEVER THE INPUT: true; the input reads as it did. -/
def mergeBracketsSpec : ChangeSpec := { name := "mergeBrackets", fn := fun _ => fun
  | [d] => { results := [.lit (.bool true)], args := [d] }
  | _ => none }
def mergeBracketsRow : OpenClaim := { program := "ythgbmijgoaihcaa", sum := "b19f8e7da4d083906c52bbe641bf84c47684c5c85c62302b46b80a3e3a601225", func := "tantalus/tantaluslaw20.MergeBrackets", spec := "mergeBrackets", unfollowed := true, recurses := true, apart := false }
def MergeBracketsSaid : Prop := mergeBracketsRow.holds Try.pinned (OpenSpec.ofChange mergeBracketsSpec)

/-- ITS FALSE NEIGHBOUR: 'it returns false'. Refute it at one input. -/
def mergeBracketsWrong : ChangeSpec := { name := "mergeBrackets", fn := fun _ => fun
  | [d] => { results := [.lit (.bool false)], args := [d] }
  | _ => none }
def MergeBracketsWrongFalsely : Prop := mergeBracketsRow.holds Try.pinned (OpenSpec.ofChange mergeBracketsWrong)

/-- 'tantaluslaw22.SplitJoins': WHATEVER THE INPUT: true; the input reads as it did. -/
def splitJoinsSpec : ChangeSpec := { name := "splitJoins", fn := fun _ => fun
  | [d1, d2, d3] => { results := [.lit (.bool true)], args := [d1, d2, d3] }
  | _ => none }
def splitJoinsRow : OpenClaim := { program := "ythgbmijgoaihcaa", sum := "b19f8e7da4d083906c52bbe641bf84c47684c5c85c62302b46b80a3e3a601225", func := "tantalus/tantaluslaw22.SplitJoins", spec := "splitJoins", unfollowed := true, recurses := true, apart := false }
def SplitJoinsSaid : Prop := splitJoinsRow.holds Try.pinned (OpenSpec.ofChange splitJoinsSpec)

/-- ITS FALSE NEIGHBOUR: 'it returns false'. Refute it at one input. -/
def splitJoinsWrong : ChangeSpec := { name := "splitJoins", fn := fun _ => fun
  | [d1, d2, d3] => { results := [.lit (.bool false)], args := [d1, d2, d3] }
  | _ => none }
def SplitJoinsWrongFalsely : Prop := splitJoinsRow.holds Try.pinned (OpenSpec.ofChange splitJoinsWrong)

/-- 'tantaluslaw22.SplitSeen': WHATEVER THE INPUT: true; the input reads as it did. -/
def splitSeenSpec : ChangeSpec := { name := "splitSeen", fn := fun _ => fun
  | [d1, d2, d3] => { results := [.lit (.bool true)], args := [d1, d2, d3] }
  | _ => none }
def splitSeenRow : OpenClaim := { program := "ythgbmijgoaihcaa", sum := "b19f8e7da4d083906c52bbe641bf84c47684c5c85c62302b46b80a3e3a601225", func := "tantalus/tantaluslaw22.SplitSeen", spec := "splitSeen", unfollowed := true, recurses := true, apart := false }
def SplitSeenSaid : Prop := splitSeenRow.holds Try.pinned (OpenSpec.ofChange splitSeenSpec)

/-- ITS FALSE NEIGHBOUR: 'it returns false'. Refute it at one input. -/
def splitSeenWrong : ChangeSpec := { name := "splitSeen", fn := fun _ => fun
  | [d1, d2, d3] => { results := [.lit (.bool false)], args := [d1, d2, d3] }
  | _ => none }
def SplitSeenWrongFalsely : Prop := splitSeenRow.holds Try.pinned (OpenSpec.ofChange splitSeenWrong)

/- THE SECOND FORM. 'bulk': how many values and letters a reading holds, each counted each time it is reached (what is shared counts as often as it is met; a slice's spare places count too). A statement '..UptoSaid' is the law's where the arguments, and the package variables that the reading takes, are together of bulk at most 1048576: NARROWER than '..Said'. Prove '..Said' where nothing that the law and all that it calls make is longer than what came in: it says more and counts as full. Else prove '..UptoSaid'. A law counts once. -/
mutual
def uptoBulk {H : Type} : DataW H → Nat
  | .lit (.string bytes) => bytes.length + 1
  | .lit _ => 1
  | .nil => 1
  | .ptr d => uptoBulk d + 1
  | .slice elems spare => uptoBulkAll elems + uptoBulkAll spare + 1
  | .agg parts => uptoBulkAll parts + 1
  | .iface _ d => uptoBulk d + 1
  | .map entries => uptoBulkEntries entries + 1
  | .held _ => 1
def uptoBulkAll {H : Type} : List (DataW H) → Nat
  | [] => 0
  | d :: r => uptoBulk d + uptoBulkAll r
def uptoBulkEntries {H : Type} : List (Lit × DataW H) → Nat
  | [] => 0
  | x :: r => uptoBulkEntry x + uptoBulkEntries r
def uptoBulkEntry {H : Type} : Lit × DataW H → Nat
  | (.string bytes, d) => bytes.length + uptoBulk d + 1
  | (_, d) => uptoBulk d + 1
 end
def uptoSmall : (H : Type) → List (DataW H) → Bool := fun _ ds => decide (uptoBulkAll ds ≤ 1048576)
def OpenSpec.upto (s : _root_.Go.ChangeSpec) : _root_.Go.OpenSpec := { _root_.Go.OpenSpec.ofChange s with cond := some uptoSmall }

/-- 'tantaluslaw22.SplitSplits', WHERE WHAT IT READS IS OF BULK AT MOST 1048576: true; the input reads as it did. -/
def splitSplitsUptoRow : OpenClaim := { program := "ythgbmijgoaihcaa", sum := "b19f8e7da4d083906c52bbe641bf84c47684c5c85c62302b46b80a3e3a601225", func := "tantalus/tantaluslaw22.SplitSplits", spec := "splitSplits", unfollowed := true, recurses := true, apart := false, narrowed := true }
def SplitSplitsUptoSaid : Prop := splitSplitsUptoRow.holds Try.pinned (OpenSpec.upto splitSplitsSpec)

/-- 'tantaluslaw22.SplitWhole', WHERE WHAT IT READS IS OF BULK AT MOST 1048576: true; the input reads as it did. -/
def splitWholeUptoRow : OpenClaim := { program := "ythgbmijgoaihcaa", sum := "b19f8e7da4d083906c52bbe641bf84c47684c5c85c62302b46b80a3e3a601225", func := "tantalus/tantaluslaw22.SplitWhole", spec := "splitWhole", unfollowed := true, recurses := true, apart := false, narrowed := true }
def SplitWholeUptoSaid : Prop := splitWholeUptoRow.holds Try.pinned (OpenSpec.upto splitWholeSpec)

/-- 'tantaluslaw22.SplitMost', WHERE WHAT IT READS IS OF BULK AT MOST 1048576: true; the input reads as it did. -/
def splitMostUptoRow : OpenClaim := { program := "ythgbmijgoaihcaa", sum := "b19f8e7da4d083906c52bbe641bf84c47684c5c85c62302b46b80a3e3a601225", func := "tantalus/tantaluslaw22.SplitMost", spec := "splitMost", unfollowed := true, recurses := true, apart := false, narrowed := true }
def SplitMostUptoSaid : Prop := splitMostUptoRow.holds Try.pinned (OpenSpec.upto splitMostSpec)

/-- 'tantaluslaw20.MergeKeeps', WHERE WHAT IT READS IS OF BULK AT MOST 1048576: true; the input reads as it did. -/
def mergeKeepsUptoRow : OpenClaim := { program := "ythgbmijgoaihcaa", sum := "b19f8e7da4d083906c52bbe641bf84c47684c5c85c62302b46b80a3e3a601225", func := "tantalus/tantaluslaw20.MergeKeeps", spec := "mergeKeeps", unfollowed := true, recurses := true, apart := false, narrowed := true }
def MergeKeepsUptoSaid : Prop := mergeKeepsUptoRow.holds Try.pinned (OpenSpec.upto mergeKeepsSpec)

/-- 'tantaluslaw20.MergeSeen', WHERE WHAT IT READS IS OF BULK AT MOST 1048576: true; the input reads as it did. -/
def mergeSeenUptoRow : OpenClaim := { program := "ythgbmijgoaihcaa", sum := "b19f8e7da4d083906c52bbe641bf84c47684c5c85c62302b46b80a3e3a601225", func := "tantalus/tantaluslaw20.MergeSeen", spec := "mergeSeen", unfollowed := true, recurses := true, apart := false, narrowed := true }
def MergeSeenUptoSaid : Prop := mergeSeenUptoRow.holds Try.pinned (OpenSpec.upto mergeSeenSpec)

/-- 'tantaluslaw20.MergeFew', WHERE WHAT IT READS IS OF BULK AT MOST 1048576: true; the input reads as it did. -/
def mergeFewUptoRow : OpenClaim := { program := "ythgbmijgoaihcaa", sum := "b19f8e7da4d083906c52bbe641bf84c47684c5c85c62302b46b80a3e3a601225", func := "tantalus/tantaluslaw20.MergeFew", spec := "mergeFew", unfollowed := true, recurses := true, apart := false, narrowed := true }
def MergeFewUptoSaid : Prop := mergeFewUptoRow.holds Try.pinned (OpenSpec.upto mergeFewSpec)

/-- 'tantaluslaw20.MergeViews', WHERE WHAT IT READS IS OF BULK AT MOST 1048576: true; the input reads as it did. -/
def mergeViewsUptoRow : OpenClaim := { program := "ythgbmijgoaihcaa", sum := "b19f8e7da4d083906c52bbe641bf84c47684c5c85c62302b46b80a3e3a601225", func := "tantalus/tantaluslaw20.MergeViews", spec := "mergeViews", unfollowed := true, recurses := true, apart := false, narrowed := true }
def MergeViewsUptoSaid : Prop := mergeViewsUptoRow.holds Try.pinned (OpenSpec.upto mergeViewsSpec)

/-- 'tantaluslaw20.MergeMerges', WHERE WHAT IT READS IS OF BULK AT MOST 1048576: true; the input reads as it did. -/
def mergeMergesUptoRow : OpenClaim := { program := "ythgbmijgoaihcaa", sum := "b19f8e7da4d083906c52bbe641bf84c47684c5c85c62302b46b80a3e3a601225", func := "tantalus/tantaluslaw20.MergeMerges", spec := "mergeMerges", unfollowed := true, recurses := true, apart := false, narrowed := true }
def MergeMergesUptoSaid : Prop := mergeMergesUptoRow.holds Try.pinned (OpenSpec.upto mergeMergesSpec)

/-- 'tantaluslaw20.MergeParts', WHERE WHAT IT READS IS OF BULK AT MOST 1048576: true; the input reads as it did. -/
def mergePartsUptoRow : OpenClaim := { program := "ythgbmijgoaihcaa", sum := "b19f8e7da4d083906c52bbe641bf84c47684c5c85c62302b46b80a3e3a601225", func := "tantalus/tantaluslaw20.MergeParts", spec := "mergeParts", unfollowed := true, recurses := true, apart := false, narrowed := true }
def MergePartsUptoSaid : Prop := mergePartsUptoRow.holds Try.pinned (OpenSpec.upto mergePartsSpec)

/-- 'tantaluslaw20.MergeBrackets', WHERE WHAT IT READS IS OF BULK AT MOST 1048576: true; the input reads as it did. -/
def mergeBracketsUptoRow : OpenClaim := { program := "ythgbmijgoaihcaa", sum := "b19f8e7da4d083906c52bbe641bf84c47684c5c85c62302b46b80a3e3a601225", func := "tantalus/tantaluslaw20.MergeBrackets", spec := "mergeBrackets", unfollowed := true, recurses := true, apart := false, narrowed := true }
def MergeBracketsUptoSaid : Prop := mergeBracketsUptoRow.holds Try.pinned (OpenSpec.upto mergeBracketsSpec)

/-- 'tantaluslaw22.SplitJoins', WHERE WHAT IT READS IS OF BULK AT MOST 1048576: true; the input reads as it did. -/
def splitJoinsUptoRow : OpenClaim := { program := "ythgbmijgoaihcaa", sum := "b19f8e7da4d083906c52bbe641bf84c47684c5c85c62302b46b80a3e3a601225", func := "tantalus/tantaluslaw22.SplitJoins", spec := "splitJoins", unfollowed := true, recurses := true, apart := false, narrowed := true }
def SplitJoinsUptoSaid : Prop := splitJoinsUptoRow.holds Try.pinned (OpenSpec.upto splitJoinsSpec)

/-- 'tantaluslaw22.SplitSeen', WHERE WHAT IT READS IS OF BULK AT MOST 1048576: true; the input reads as it did. -/
def splitSeenUptoRow : OpenClaim := { program := "ythgbmijgoaihcaa", sum := "b19f8e7da4d083906c52bbe641bf84c47684c5c85c62302b46b80a3e3a601225", func := "tantalus/tantaluslaw22.SplitSeen", spec := "splitSeen", unfollowed := true, recurses := true, apart := false, narrowed := true }
def SplitSeenUptoSaid : Prop := splitSeenUptoRow.holds Try.pinned (OpenSpec.upto splitSeenSpec)

end Rows
end Go.Proofs.Ythgbmijgoaihcaa
