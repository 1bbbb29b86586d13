/-
  No cell of these rows narrows 'for every input' (looked for: loops, veiled, ifaces, maps, wideKeys, modest, calm, conditions, laid).
  DERIVED. THE GIVEN ROWS OF THIS SEAT. 7 by the template 'for every input the law returns true; each argument reads behind the call as it read before'; 0 by the template 'total and deterministic' (their statements: YtfaeljmkbadgdaaGreatTotals.lean).
  GIVEN WITH THE SEED: the statements are not yours to turn. If you find one false, say at which input.
  Laid BY PROGRAM, IN A SANDBOX (cutbox-rows.mjs): the forced cells as the released guide's own fill.sh prints them over the translation 96d00c0aec6d88e8… (all of the seat's roots in one cut). By AI agents, Wed Nov 11 2026. No macro, syntax, notation, axiom, sorry.
-/
import Derived.Test.YtfaeljmkbadgdaaGreatChecked
import GoSem.Claim
import GoSem.ClaimJoined
import GoSem.ClaimMapViews
import Derived.JoinedTies
import Derived.KernelRfl
namespace Go.Proofs.YtfaeljmkbadgdaaGreat
/- THE CELL 'sum', in the pinned program and in every row, IS THE sha256 OF THE DUMP (.gsa) THAT YtfaeljmkbadgdaaGreatProg.lean LOADS. Nothing in Lean hashes anything: it is a label: what it is worth is what the hold of that sum in a sandbox is worth. -/
noncomputable def Tryz.pinned : Pinned := { name := "ytfaeljmkbadgdaagreat", sum := "96d00c0aec6d88e8bd514e90ac9bc6e22d06e4f0f26bd12b508878cc94832a6c", checked := Tryz.checked }
namespace Rows
def none {H : Type} : Left H := { results := [], args := [] }

/-- 'gavottelaw11.StepTells': WHATEVER THE INPUT: true; the input reads as it did. -/
def stepTellsSpec : ChangeSpec := { name := "stepTells", fn := fun _ => fun
  | [d1, d2, d3, d4] => { results := [.lit (.bool true)], args := [d1, d2, d3, d4] }
  | _ => none }
def stepTellsRow : OpenClaim := { program := "ytfaeljmkbadgdaagreat", sum := "96d00c0aec6d88e8bd514e90ac9bc6e22d06e4f0f26bd12b508878cc94832a6c", func := "gavotte/gavottelaw11.StepTells", spec := "stepTells", inPlace := ["slices.overlaps[gavotte/api.Message]"], unfollowed := true, recurses := true, apart := false }
def StepTellsSaid : Prop := stepTellsRow.holds Tryz.pinned (OpenSpec.ofChange stepTellsSpec)

/-- ITS FALSE NEIGHBOUR: 'it returns false'. Refute it at one input. -/
def stepTellsWrong : ChangeSpec := { name := "stepTells", fn := fun _ => fun
  | [d1, d2, d3, d4] => { results := [.lit (.bool false)], args := [d1, d2, d3, d4] }
  | _ => none }
def StepTellsWrongFalsely : Prop := stepTellsRow.holds Tryz.pinned (OpenSpec.ofChange stepTellsWrong)

/-- 'gavottelaw11.StepRuns': WHATEVER THE INPUT: true; the input reads as it did. -/
def stepRunsSpec : ChangeSpec := { name := "stepRuns", fn := fun _ => fun
  | [d1, d2, d3] => { results := [.lit (.bool true)], args := [d1, d2, d3] }
  | _ => none }
def stepRunsRow : OpenClaim := { program := "ytfaeljmkbadgdaagreat", sum := "96d00c0aec6d88e8bd514e90ac9bc6e22d06e4f0f26bd12b508878cc94832a6c", func := "gavotte/gavottelaw11.StepRuns", spec := "stepRuns", inPlace := ["slices.overlaps[gavotte/api.Message]"], unfollowed := true, recurses := true, apart := false }
def StepRunsSaid : Prop := stepRunsRow.holds Tryz.pinned (OpenSpec.ofChange stepRunsSpec)

/-- ITS FALSE NEIGHBOUR: 'it returns false'. Refute it at one input. -/
def stepRunsWrong : ChangeSpec := { name := "stepRuns", fn := fun _ => fun
  | [d1, d2, d3] => { results := [.lit (.bool false)], args := [d1, d2, d3] }
  | _ => none }
def StepRunsWrongFalsely : Prop := stepRunsRow.holds Tryz.pinned (OpenSpec.ofChange stepRunsWrong)

/-- 'gavottelaw10.EventTells': WHATEVER THE INPUT: true; the input reads as it did. -/
def eventTellsSpec : ChangeSpec := { name := "eventTells", fn := fun _ => fun
  | [d1, d2, d3, d4] => { results := [.lit (.bool true)], args := [d1, d2, d3, d4] }
  | _ => none }
def eventTellsRow : OpenClaim := { program := "ytfaeljmkbadgdaagreat", sum := "96d00c0aec6d88e8bd514e90ac9bc6e22d06e4f0f26bd12b508878cc94832a6c", func := "gavotte/gavottelaw10.EventTells", spec := "eventTells", inPlace := ["slices.overlaps[gavotte/api.Message]"], unfollowed := true, recurses := true, apart := false }
def EventTellsSaid : Prop := eventTellsRow.holds Tryz.pinned (OpenSpec.ofChange eventTellsSpec)

/-- ITS FALSE NEIGHBOUR: 'it returns false'. Refute it at one input. -/
def eventTellsWrong : ChangeSpec := { name := "eventTells", fn := fun _ => fun
  | [d1, d2, d3, d4] => { results := [.lit (.bool false)], args := [d1, d2, d3, d4] }
  | _ => none }
def EventTellsWrongFalsely : Prop := eventTellsRow.holds Tryz.pinned (OpenSpec.ofChange eventTellsWrong)

/-- 'gavottelaw12.TouchSends': WHATEVER THE INPUT: true; the input reads as it did. -/
def touchSendsSpec : ChangeSpec := { name := "touchSends", fn := fun _ => fun
  | [d1, d2, d3, d4] => { results := [.lit (.bool true)], args := [d1, d2, d3, d4] }
  | _ => none }
def touchSendsRow : OpenClaim := { program := "ytfaeljmkbadgdaagreat", sum := "96d00c0aec6d88e8bd514e90ac9bc6e22d06e4f0f26bd12b508878cc94832a6c", func := "gavotte/gavottelaw12.TouchSends", spec := "touchSends", inPlace := ["slices.overlaps[gavotte/api.Message]"], unfollowed := true, recurses := true, apart := false }
def TouchSendsSaid : Prop := touchSendsRow.holds Tryz.pinned (OpenSpec.ofChange touchSendsSpec)

/-- ITS FALSE NEIGHBOUR: 'it returns false'. Refute it at one input. -/
def touchSendsWrong : ChangeSpec := { name := "touchSends", fn := fun _ => fun
  | [d1, d2, d3, d4] => { results := [.lit (.bool false)], args := [d1, d2, d3, d4] }
  | _ => none }
def TouchSendsWrongFalsely : Prop := touchSendsRow.holds Tryz.pinned (OpenSpec.ofChange touchSendsWrong)

/-- 'gavottelaw11.StepWalks': WHATEVER THE INPUT: true; the input reads as it did. -/
def stepWalksSpec : ChangeSpec := { name := "stepWalks", fn := fun _ => fun
  | [d1, d2, d3] => { results := [.lit (.bool true)], args := [d1, d2, d3] }
  | _ => none }
def stepWalksRow : OpenClaim := { program := "ytfaeljmkbadgdaagreat", sum := "96d00c0aec6d88e8bd514e90ac9bc6e22d06e4f0f26bd12b508878cc94832a6c", func := "gavotte/gavottelaw11.StepWalks", spec := "stepWalks", inPlace := ["slices.overlaps[gavotte/api.Message]"], unfollowed := true, recurses := true, apart := false }
def StepWalksSaid : Prop := stepWalksRow.holds Tryz.pinned (OpenSpec.ofChange stepWalksSpec)

/-- ITS FALSE NEIGHBOUR: 'it returns false'. Refute it at one input. -/
def stepWalksWrong : ChangeSpec := { name := "stepWalks", fn := fun _ => fun
  | [d1, d2, d3] => { results := [.lit (.bool false)], args := [d1, d2, d3] }
  | _ => none }
def StepWalksWrongFalsely : Prop := stepWalksRow.holds Tryz.pinned (OpenSpec.ofChange stepWalksWrong)

/-- 'gavottelaw12.TouchSwaps': WHATEVER THE INPUT: true; the input reads as it did. -/
def touchSwapsSpec : ChangeSpec := { name := "touchSwaps", fn := fun _ => fun
  | [d1, d2, d3, d4, d5] => { results := [.lit (.bool true)], args := [d1, d2, d3, d4, d5] }
  | _ => none }
def touchSwapsRow : OpenClaim := { program := "ytfaeljmkbadgdaagreat", sum := "96d00c0aec6d88e8bd514e90ac9bc6e22d06e4f0f26bd12b508878cc94832a6c", func := "gavotte/gavottelaw12.TouchSwaps", spec := "touchSwaps", inPlace := ["slices.overlaps[gavotte/api.Message]"], unfollowed := true, recurses := true, apart := false }
def TouchSwapsSaid : Prop := touchSwapsRow.holds Tryz.pinned (OpenSpec.ofChange touchSwapsSpec)

/-- ITS FALSE NEIGHBOUR: 'it returns false'. Refute it at one input. -/
def touchSwapsWrong : ChangeSpec := { name := "touchSwaps", fn := fun _ => fun
  | [d1, d2, d3, d4, d5] => { results := [.lit (.bool false)], args := [d1, d2, d3, d4, d5] }
  | _ => none }
def TouchSwapsWrongFalsely : Prop := touchSwapsRow.holds Tryz.pinned (OpenSpec.ofChange touchSwapsWrong)

/-- 'gavottelaw12.TouchWalks': WHATEVER THE INPUT: true; the input reads as it did. -/
def touchWalksSpec : ChangeSpec := { name := "touchWalks", fn := fun _ => fun
  | [d1, d2, d3] => { results := [.lit (.bool true)], args := [d1, d2, d3] }
  | _ => none }
def touchWalksRow : OpenClaim := { program := "ytfaeljmkbadgdaagreat", sum := "96d00c0aec6d88e8bd514e90ac9bc6e22d06e4f0f26bd12b508878cc94832a6c", func := "gavotte/gavottelaw12.TouchWalks", spec := "touchWalks", inPlace := ["slices.overlaps[gavotte/api.Message]"], unfollowed := true, recurses := true, apart := false }
def TouchWalksSaid : Prop := touchWalksRow.holds Tryz.pinned (OpenSpec.ofChange touchWalksSpec)

/-- ITS FALSE NEIGHBOUR: 'it returns false'. Refute it at one input. -/
def touchWalksWrong : ChangeSpec := { name := "touchWalks", fn := fun _ => fun
  | [d1, d2, d3] => { results := [.lit (.bool false)], args := [d1, d2, d3] }
  | _ => none }
def TouchWalksWrongFalsely : Prop := touchWalksRow.holds Tryz.pinned (OpenSpec.ofChange touchWalksWrong)

/- THE SECOND FORM. 'bulk': how many values and letters a reading holds, each counted each time it is reached (what is shared counts as often as it is met; a slice's spare places count too). A statement '..UptoSaid' is the law's where the arguments, and the package variables that the reading takes, are together of bulk at most 1048576: NARROWER than '..Said'. Prove '..Said' where nothing that the law and all that it calls make is longer than what came in: it says more and counts as full. Else prove '..UptoSaid'. A law counts once. -/
mutual
def uptoBulk {H : Type} : DataW H → Nat
  | .lit (.string bytes) => bytes.length + 1
  | .lit _ => 1
  | .nil => 1
  | .ptr d => uptoBulk d + 1
  | .slice elems spare => uptoBulkAll elems + uptoBulkAll spare + 1
  | .agg parts => uptoBulkAll parts + 1
  | .iface _ d => uptoBulk d + 1
  | .map entries => uptoBulkEntries entries + 1
  | .held _ => 1
def uptoBulkAll {H : Type} : List (DataW H) → Nat
  | [] => 0
  | d :: r => uptoBulk d + uptoBulkAll r
def uptoBulkEntries {H : Type} : List (Lit × DataW H) → Nat
  | [] => 0
  | x :: r => uptoBulkEntry x + uptoBulkEntries r
def uptoBulkEntry {H : Type} : Lit × DataW H → Nat
  | (.string bytes, d) => bytes.length + uptoBulk d + 1
  | (_, d) => uptoBulk d + 1
 end
def uptoSmall : (H : Type) → List (DataW H) → Bool := fun _ ds => decide (uptoBulkAll ds ≤ 1048576)
def OpenSpec.upto (s : _root_.Go.ChangeSpec) : _root_.Go.OpenSpec := { _root_.Go.OpenSpec.ofChange s with cond := some uptoSmall }

/-- 'gavottelaw11.StepTells', WHERE WHAT IT READS IS OF BULK AT MOST 1048576: true; the input reads as it did. -/
def stepTellsUptoRow : OpenClaim := { program := "ytfaeljmkbadgdaagreat", sum := "96d00c0aec6d88e8bd514e90ac9bc6e22d06e4f0f26bd12b508878cc94832a6c", func := "gavotte/gavottelaw11.StepTells", spec := "stepTells", inPlace := ["slices.overlaps[gavotte/api.Message]"], unfollowed := true, recurses := true, apart := false, narrowed := true }
def StepTellsUptoSaid : Prop := stepTellsUptoRow.holds Tryz.pinned (OpenSpec.upto stepTellsSpec)

/-- 'gavottelaw11.StepRuns', WHERE WHAT IT READS IS OF BULK AT MOST 1048576: true; the input reads as it did. -/
def stepRunsUptoRow : OpenClaim := { program := "ytfaeljmkbadgdaagreat", sum := "96d00c0aec6d88e8bd514e90ac9bc6e22d06e4f0f26bd12b508878cc94832a6c", func := "gavotte/gavottelaw11.StepRuns", spec := "stepRuns", inPlace := ["slices.overlaps[gavotte/api.Message]"], unfollowed := true, recurses := true, apart := false, narrowed := true }
def StepRunsUptoSaid : Prop := stepRunsUptoRow.holds Tryz.pinned (OpenSpec.upto stepRunsSpec)

/-- 'gavottelaw10.EventTells', WHERE WHAT IT READS IS OF BULK AT MOST 1048576: true; the input reads as it did. -/
def eventTellsUptoRow : OpenClaim := { program := "ytfaeljmkbadgdaagreat", sum := "96d00c0aec6d88e8bd514e90ac9bc6e22d06e4f0f26bd12b508878cc94832a6c", func := "gavotte/gavottelaw10.EventTells", spec := "eventTells", inPlace := ["slices.overlaps[gavotte/api.Message]"], unfollowed := true, recurses := true, apart := false, narrowed := true }
def EventTellsUptoSaid : Prop := eventTellsUptoRow.holds Tryz.pinned (OpenSpec.upto eventTellsSpec)

/-- 'gavottelaw12.TouchSends', WHERE WHAT IT READS IS OF BULK AT MOST 1048576: true; the input reads as it did. -/
def touchSendsUptoRow : OpenClaim := { program := "ytfaeljmkbadgdaagreat", sum := "96d00c0aec6d88e8bd514e90ac9bc6e22d06e4f0f26bd12b508878cc94832a6c", func := "gavotte/gavottelaw12.TouchSends", spec := "touchSends", inPlace := ["slices.overlaps[gavotte/api.Message]"], unfollowed := true, recurses := true, apart := false, narrowed := true }
def TouchSendsUptoSaid : Prop := touchSendsUptoRow.holds Tryz.pinned (OpenSpec.upto touchSendsSpec)

/-- 'gavottelaw11.StepWalks', WHERE WHAT IT READS IS OF BULK AT MOST 1048576: true; the input reads as it did. -/
def stepWalksUptoRow : OpenClaim := { program := "ytfaeljmkbadgdaagreat", sum := "96d00c0aec6d88e8bd514e90ac9bc6e22d06e4f0f26bd12b508878cc94832a6c", func := "gavotte/gavottelaw11.StepWalks", spec := "stepWalks", inPlace := ["slices.overlaps[gavotte/api.Message]"], unfollowed := true, recurses := true, apart := false, narrowed := true }
def StepWalksUptoSaid : Prop := stepWalksUptoRow.holds Tryz.pinned (OpenSpec.upto stepWalksSpec)

/-- 'gavottelaw12.TouchSwaps', WHERE WHAT IT READS IS OF BULK AT MOST 1048576: true; the input reads as it did. -/
def touchSwapsUptoRow : OpenClaim := { program := "ytfaeljmkbadgdaagreat", sum := "96d00c0aec6d88e8bd514e90ac9bc6e22d06e4f0f26bd12b508878cc94832a6c", func := "gavotte/gavottelaw12.TouchSwaps", spec := "touchSwaps", inPlace := ["slices.overlaps[gavotte/api.Message]"], unfollowed := true, recurses := true, apart := false, narrowed := true }
def TouchSwapsUptoSaid : Prop := touchSwapsUptoRow.holds Tryz.pinned (OpenSpec.upto touchSwapsSpec)

/-- 'gavottelaw12.TouchWalks', WHERE WHAT IT READS IS OF BULK AT MOST 1048576: true; the input reads as it did. -/
def touchWalksUptoRow : OpenClaim := { program := "ytfaeljmkbadgdaagreat", sum := "96d00c0aec6d88e8bd514e90ac9bc6e22d06e4f0f26bd12b508878cc94832a6c", func := "gavotte/gavottelaw12.TouchWalks", spec := "touchWalks", inPlace := ["slices.overlaps[gavotte/api.Message]"], unfollowed := true, recurses := true, apart := false, narrowed := true }
def TouchWalksUptoSaid : Prop := touchWalksUptoRow.holds Tryz.pinned (OpenSpec.upto touchWalksSpec)

end Rows
end Go.Proofs.YtfaeljmkbadgdaaGreat
