/-
  No cell of these rows narrows 'for every input' (looked for: loops, veiled, ifaces, maps, wideKeys, modest, calm, conditions, laid).
  DERIVED. THE GIVEN ROWS OF THIS SEAT. 5 by the template 'for every input the law returns true; each argument reads behind the call as it read before'; 0 by the template 'total and deterministic' (their statements: YtfaeljmkbadgdaaTotals.lean).
  GIVEN WITH THE SEED: the statements are not yours to turn. If you find one false, say at which input.
  Laid BY PROGRAM, IN A SANDBOX (cutbox-rows.mjs): the forced cells as the released guide's own fill.sh prints them over the translation 57ad5f3d99a4bf69… (all of the seat's roots in one cut). By AI agents, Wed Nov 11 2026. No macro, syntax, notation, axiom, sorry.
-/
import Derived.Test.YtfaeljmkbadgdaaChecked
import GoSem.Claim
import GoSem.ClaimJoined
import GoSem.ClaimMapViews
import Derived.JoinedTies
import Derived.KernelRfl
namespace Go.Proofs.Ytfaeljmkbadgdaa
/- THE CELL 'sum', in the pinned program and in every row, IS THE sha256 OF THE DUMP (.gsa) THAT YtfaeljmkbadgdaaProg.lean LOADS. Nothing in Lean hashes anything: it is a label: what it is worth is what the hold of that sum in a sandbox is worth. -/
noncomputable def Try.pinned : Pinned := { name := "ytfaeljmkbadgdaa", sum := "57ad5f3d99a4bf69f9bd62531f876dab12fcabc4c5757ea827b6b32582606b78", checked := Try.checked }
namespace Rows
def none {H : Type} : Left H := { results := [], args := [] }

/-- 'gavottelaw11.StepPair': WHATEVER THE INPUT: true; the input reads as it did. -/
def stepPairSpec : ChangeSpec := { name := "stepPair", fn := fun _ => fun
  | [d1, d2] => { results := [.lit (.bool true)], args := [d1, d2] }
  | _ => none }
def stepPairRow : OpenClaim := { program := "ytfaeljmkbadgdaa", sum := "57ad5f3d99a4bf69f9bd62531f876dab12fcabc4c5757ea827b6b32582606b78", func := "gavotte/gavottelaw11.StepPair", spec := "stepPair", inPlace := ["slices.overlaps[gavotte/api.Message]"], unfollowed := true, recurses := true, apart := false }
def StepPairSaid : Prop := stepPairRow.holds Try.pinned (OpenSpec.ofChange stepPairSpec)

/-- ITS FALSE NEIGHBOUR: 'it returns false'. Refute it at one input. -/
def stepPairWrong : ChangeSpec := { name := "stepPair", fn := fun _ => fun
  | [d1, d2] => { results := [.lit (.bool false)], args := [d1, d2] }
  | _ => none }
def StepPairWrongFalsely : Prop := stepPairRow.holds Try.pinned (OpenSpec.ofChange stepPairWrong)

/-- 'gavottelaw11.StepDoubles': WHATEVER THE INPUT: true; the input reads as it did. -/
def stepDoublesSpec : ChangeSpec := { name := "stepDoubles", fn := fun _ => fun
  | [d1, d2, d3] => { results := [.lit (.bool true)], args := [d1, d2, d3] }
  | _ => none }
def stepDoublesRow : OpenClaim := { program := "ytfaeljmkbadgdaa", sum := "57ad5f3d99a4bf69f9bd62531f876dab12fcabc4c5757ea827b6b32582606b78", func := "gavotte/gavottelaw11.StepDoubles", spec := "stepDoubles", inPlace := ["slices.overlaps[gavotte/api.Message]"], unfollowed := true, recurses := true, apart := false }
def StepDoublesSaid : Prop := stepDoublesRow.holds Try.pinned (OpenSpec.ofChange stepDoublesSpec)

/-- ITS FALSE NEIGHBOUR: 'it returns false'. Refute it at one input. -/
def stepDoublesWrong : ChangeSpec := { name := "stepDoubles", fn := fun _ => fun
  | [d1, d2, d3] => { results := [.lit (.bool false)], args := [d1, d2, d3] }
  | _ => none }
def StepDoublesWrongFalsely : Prop := stepDoublesRow.holds Try.pinned (OpenSpec.ofChange stepDoublesWrong)

/-- 'gavottelaw10.EventLists': WHATEVER THE INPUT: true; the input reads as it did. -/
def eventListsSpec : ChangeSpec := { name := "eventLists", fn := fun _ => fun
  | [d1, d2, d3] => { results := [.lit (.bool true)], args := [d1, d2, d3] }
  | _ => none }
def eventListsRow : OpenClaim := { program := "ytfaeljmkbadgdaa", sum := "57ad5f3d99a4bf69f9bd62531f876dab12fcabc4c5757ea827b6b32582606b78", func := "gavotte/gavottelaw10.EventLists", spec := "eventLists", inPlace := ["slices.overlaps[gavotte/api.Message]"], unfollowed := true, recurses := true, apart := false }
def EventListsSaid : Prop := eventListsRow.holds Try.pinned (OpenSpec.ofChange eventListsSpec)

/-- ITS FALSE NEIGHBOUR: 'it returns false'. Refute it at one input. -/
def eventListsWrong : ChangeSpec := { name := "eventLists", fn := fun _ => fun
  | [d1, d2, d3] => { results := [.lit (.bool false)], args := [d1, d2, d3] }
  | _ => none }
def EventListsWrongFalsely : Prop := eventListsRow.holds Try.pinned (OpenSpec.ofChange eventListsWrong)

/-- 'gavottelaw10.EventBudgets': WHATEVER THE INPUT: true; the input reads as it did. -/
def eventBudgetsSpec : ChangeSpec := { name := "eventBudgets", fn := fun _ => fun
  | [d1, d2, d3, d4] => { results := [.lit (.bool true)], args := [d1, d2, d3, d4] }
  | _ => none }
def eventBudgetsRow : OpenClaim := { program := "ytfaeljmkbadgdaa", sum := "57ad5f3d99a4bf69f9bd62531f876dab12fcabc4c5757ea827b6b32582606b78", func := "gavotte/gavottelaw10.EventBudgets", spec := "eventBudgets", inPlace := ["slices.overlaps[gavotte/api.Message]"], unfollowed := true, recurses := true, apart := false }
def EventBudgetsSaid : Prop := eventBudgetsRow.holds Try.pinned (OpenSpec.ofChange eventBudgetsSpec)

/-- ITS FALSE NEIGHBOUR: 'it returns false'. Refute it at one input. -/
def eventBudgetsWrong : ChangeSpec := { name := "eventBudgets", fn := fun _ => fun
  | [d1, d2, d3, d4] => { results := [.lit (.bool false)], args := [d1, d2, d3, d4] }
  | _ => none }
def EventBudgetsWrongFalsely : Prop := eventBudgetsRow.holds Try.pinned (OpenSpec.ofChange eventBudgetsWrong)

/-- 'gavottelaw10.EventOdd': WHATEVER THE INPUT: true; the input reads as it did. -/
def eventOddSpec : ChangeSpec := { name := "eventOdd", fn := fun _ => fun
  | [d1, d2] => { results := [.lit (.bool true)], args := [d1, d2] }
  | _ => none }
def eventOddRow : OpenClaim := { program := "ytfaeljmkbadgdaa", sum := "57ad5f3d99a4bf69f9bd62531f876dab12fcabc4c5757ea827b6b32582606b78", func := "gavotte/gavottelaw10.EventOdd", spec := "eventOdd", inPlace := ["slices.overlaps[gavotte/api.Message]"], unfollowed := true, recurses := true, apart := false }
def EventOddSaid : Prop := eventOddRow.holds Try.pinned (OpenSpec.ofChange eventOddSpec)

/-- ITS FALSE NEIGHBOUR: 'it returns false'. Refute it at one input. -/
def eventOddWrong : ChangeSpec := { name := "eventOdd", fn := fun _ => fun
  | [d1, d2] => { results := [.lit (.bool false)], args := [d1, d2] }
  | _ => none }
def EventOddWrongFalsely : Prop := eventOddRow.holds Try.pinned (OpenSpec.ofChange eventOddWrong)

/- THE SECOND FORM. 'bulk': how many values and letters a reading holds, each counted each time it is reached (what is shared counts as often as it is met; a slice's spare places count too). A statement '..UptoSaid' is the law's where the arguments, and the package variables that the reading takes, are together of bulk at most 1048576: NARROWER than '..Said'. Prove '..Said' where nothing that the law and all that it calls make is longer than what came in: it says more and counts as full. Else prove '..UptoSaid'. A law counts once. -/
mutual
def uptoBulk {H : Type} : DataW H → Nat
  | .lit (.string bytes) => bytes.length + 1
  | .lit _ => 1
  | .nil => 1
  | .ptr d => uptoBulk d + 1
  | .slice elems spare => uptoBulkAll elems + uptoBulkAll spare + 1
  | .agg parts => uptoBulkAll parts + 1
  | .iface _ d => uptoBulk d + 1
  | .map entries => uptoBulkEntries entries + 1
  | .held _ => 1
def uptoBulkAll {H : Type} : List (DataW H) → Nat
  | [] => 0
  | d :: r => uptoBulk d + uptoBulkAll r
def uptoBulkEntries {H : Type} : List (Lit × DataW H) → Nat
  | [] => 0
  | x :: r => uptoBulkEntry x + uptoBulkEntries r
def uptoBulkEntry {H : Type} : Lit × DataW H → Nat
  | (.string bytes, d) => bytes.length + uptoBulk d + 1
  | (_, d) => uptoBulk d + 1
 end
def uptoSmall : (H : Type) → List (DataW H) → Bool := fun _ ds => decide (uptoBulkAll ds ≤ 1048576)
def OpenSpec.upto (s : _root_.Go.ChangeSpec) : _root_.Go.OpenSpec := { _root_.Go.OpenSpec.ofChange s with cond := some uptoSmall }

/-- 'gavottelaw11.StepPair', WHERE WHAT IT READS IS OF BULK AT MOST 1048576: true; the input reads as it did. -/
def stepPairUptoRow : OpenClaim := { program := "ytfaeljmkbadgdaa", sum := "57ad5f3d99a4bf69f9bd62531f876dab12fcabc4c5757ea827b6b32582606b78", func := "gavotte/gavottelaw11.StepPair", spec := "stepPair", inPlace := ["slices.overlaps[gavotte/api.Message]"], unfollowed := true, recurses := true, apart := false, narrowed := true }
def StepPairUptoSaid : Prop := stepPairUptoRow.holds Try.pinned (OpenSpec.upto stepPairSpec)

/-- 'gavottelaw11.StepDoubles', WHERE WHAT IT READS IS OF BULK AT MOST 1048576: true; the input reads as it did. -/
def stepDoublesUptoRow : OpenClaim := { program := "ytfaeljmkbadgdaa", sum := "57ad5f3d99a4bf69f9bd62531f876dab12fcabc4c5757ea827b6b32582606b78", func := "gavotte/gavottelaw11.StepDoubles", spec := "stepDoubles", inPlace := ["slices.overlaps[gavotte/api.Message]"], unfollowed := true, recurses := true, apart := false, narrowed := true }
def StepDoublesUptoSaid : Prop := stepDoublesUptoRow.holds Try.pinned (OpenSpec.upto stepDoublesSpec)

/-- 'gavottelaw10.EventLists', WHERE WHAT IT READS IS OF BULK AT MOST 1048576: true; the input reads as it did. -/
def eventListsUptoRow : OpenClaim := { program := "ytfaeljmkbadgdaa", sum := "57ad5f3d99a4bf69f9bd62531f876dab12fcabc4c5757ea827b6b32582606b78", func := "gavotte/gavottelaw10.EventLists", spec := "eventLists", inPlace := ["slices.overlaps[gavotte/api.Message]"], unfollowed := true, recurses := true, apart := false, narrowed := true }
def EventListsUptoSaid : Prop := eventListsUptoRow.holds Try.pinned (OpenSpec.upto eventListsSpec)

/-- 'gavottelaw10.EventBudgets', WHERE WHAT IT READS IS OF BULK AT MOST 1048576: true; the input reads as it did. -/
def eventBudgetsUptoRow : OpenClaim := { program := "ytfaeljmkbadgdaa", sum := "57ad5f3d99a4bf69f9bd62531f876dab12fcabc4c5757ea827b6b32582606b78", func := "gavotte/gavottelaw10.EventBudgets", spec := "eventBudgets", inPlace := ["slices.overlaps[gavotte/api.Message]"], unfollowed := true, recurses := true, apart := false, narrowed := true }
def EventBudgetsUptoSaid : Prop := eventBudgetsUptoRow.holds Try.pinned (OpenSpec.upto eventBudgetsSpec)

/-- 'gavottelaw10.EventOdd', WHERE WHAT IT READS IS OF BULK AT MOST 1048576: true; the input reads as it did. -/
def eventOddUptoRow : OpenClaim := { program := "ytfaeljmkbadgdaa", sum := "57ad5f3d99a4bf69f9bd62531f876dab12fcabc4c5757ea827b6b32582606b78", func := "gavotte/gavottelaw10.EventOdd", spec := "eventOdd", inPlace := ["slices.overlaps[gavotte/api.Message]"], unfollowed := true, recurses := true, apart := false, narrowed := true }
def EventOddUptoSaid : Prop := eventOddUptoRow.holds Try.pinned (OpenSpec.upto eventOddSpec)

end Rows
end Go.Proofs.Ytfaeljmkbadgdaa
