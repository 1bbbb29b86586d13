/-
  No cell of these rows narrows 'for every input' (looked for: loops, veiled, ifaces, maps, wideKeys, modest, calm, conditions, laid).
  DERIVED. THE GIVEN ROWS OF THIS SEAT. 10 by the template 'for every input the law returns true; each argument reads behind the call as it read before'; 0 by the template 'total and deterministic' (their statements: YtkjefeclbdjkcaaTotals.lean).
  GIVEN WITH THE SEED: the statements are not yours to turn. If you find one false, say at which input.
  Laid BY PROGRAM, IN A SANDBOX (cutbox-rows.mjs): the forced cells as the released guide's own fill.sh prints them over the translation c5d114b6cbaa68f4… (all of the seat's roots in one cut). By AI agents, Wed Nov 11 2026. No macro, syntax, notation, axiom, sorry.
-/
import Derived.Test.YtkjefeclbdjkcaaChecked
import GoSem.Claim
import GoSem.ClaimJoined
import GoSem.ClaimMapViews
import Derived.JoinedTies
import Derived.KernelRfl
namespace Go.Proofs.Ytkjefeclbdjkcaa
/- THE CELL 'sum', in the pinned program and in every row, IS THE sha256 OF THE DUMP (.gsa) THAT YtkjefeclbdjkcaaProg.lean LOADS. Nothing in Lean hashes anything: it is a label: what it is worth is what the hold of that sum in a sandbox is worth. -/
noncomputable def Try.pinned : Pinned := { name := "ytkjefeclbdjkcaa", sum := "c5d114b6cbaa68f4afc540ce84814ed013a6bc384ae79080b454cdc9f342d3c0", checked := Try.checked }
namespace Rows
def none {H : Type} : Left H := { results := [], args := [] }

/-- 'gavottelaw22.WireNumbers': WHATEVER THE INPUT: true; the input reads as it did. -/
def wireNumbersSpec : ChangeSpec := { name := "wireNumbers", fn := fun _ => fun
  | [d1, d2] => { results := [.lit (.bool true)], args := [d1, d2] }
  | _ => none }
def wireNumbersRow : OpenClaim := { program := "ytkjefeclbdjkcaa", sum := "c5d114b6cbaa68f4afc540ce84814ed013a6bc384ae79080b454cdc9f342d3c0", func := "gavotte/gavottelaw22.WireNumbers", spec := "wireNumbers", unfollowed := true, recurses := true, apart := false }
def WireNumbersSaid : Prop := wireNumbersRow.holds Try.pinned (OpenSpec.ofChange wireNumbersSpec)

/-- ITS FALSE NEIGHBOUR: 'it returns false'. Refute it at one input. -/
def wireNumbersWrong : ChangeSpec := { name := "wireNumbers", fn := fun _ => fun
  | [d1, d2] => { results := [.lit (.bool false)], args := [d1, d2] }
  | _ => none }
def WireNumbersWrongFalsely : Prop := wireNumbersRow.holds Try.pinned (OpenSpec.ofChange wireNumbersWrong)

/-- 'gavottelaw22.WireTasks': WHATEVER THE INPUT: true; the input reads as it did. -/
def wireTasksSpec : ChangeSpec := { name := "wireTasks", fn := fun _ => fun
  | [d1, d2] => { results := [.lit (.bool true)], args := [d1, d2] }
  | _ => none }
def wireTasksRow : OpenClaim := { program := "ytkjefeclbdjkcaa", sum := "c5d114b6cbaa68f4afc540ce84814ed013a6bc384ae79080b454cdc9f342d3c0", func := "gavotte/gavottelaw22.WireTasks", spec := "wireTasks", unfollowed := true, recurses := true, apart := false }
def WireTasksSaid : Prop := wireTasksRow.holds Try.pinned (OpenSpec.ofChange wireTasksSpec)

/-- ITS FALSE NEIGHBOUR: 'it returns false'. Refute it at one input. -/
def wireTasksWrong : ChangeSpec := { name := "wireTasks", fn := fun _ => fun
  | [d1, d2] => { results := [.lit (.bool false)], args := [d1, d2] }
  | _ => none }
def WireTasksWrongFalsely : Prop := wireTasksRow.holds Try.pinned (OpenSpec.ofChange wireTasksWrong)

/-- 'gavottelaw22.WireBack': WHATEVER THE INPUT: true; the input reads as it did. -/
def wireBackSpec : ChangeSpec := { name := "wireBack", fn := fun _ => fun
  | [d1, d2, d3, d4] => { results := [.lit (.bool true)], args := [d1, d2, d3, d4] }
  | _ => none }
def wireBackRow : OpenClaim := { program := "ytkjefeclbdjkcaa", sum := "c5d114b6cbaa68f4afc540ce84814ed013a6bc384ae79080b454cdc9f342d3c0", func := "gavotte/gavottelaw22.WireBack", spec := "wireBack", unfollowed := true, recurses := true, apart := false }
def WireBackSaid : Prop := wireBackRow.holds Try.pinned (OpenSpec.ofChange wireBackSpec)

/-- ITS FALSE NEIGHBOUR: 'it returns false'. Refute it at one input. -/
def wireBackWrong : ChangeSpec := { name := "wireBack", fn := fun _ => fun
  | [d1, d2, d3, d4] => { results := [.lit (.bool false)], args := [d1, d2, d3, d4] }
  | _ => none }
def WireBackWrongFalsely : Prop := wireBackRow.holds Try.pinned (OpenSpec.ofChange wireBackWrong)

/-- 'gavottelaw22.WirePaths': WHATEVER THE INPUT: true; the input reads as it did. -/
def wirePathsSpec : ChangeSpec := { name := "wirePaths", fn := fun _ => fun
  | [d1, d2] => { results := [.lit (.bool true)], args := [d1, d2] }
  | _ => none }
def wirePathsRow : OpenClaim := { program := "ytkjefeclbdjkcaa", sum := "c5d114b6cbaa68f4afc540ce84814ed013a6bc384ae79080b454cdc9f342d3c0", func := "gavotte/gavottelaw22.WirePaths", spec := "wirePaths", unfollowed := true, recurses := true, apart := false }
def WirePathsSaid : Prop := wirePathsRow.holds Try.pinned (OpenSpec.ofChange wirePathsSpec)

/-- ITS FALSE NEIGHBOUR: 'it returns false'. Refute it at one input. -/
def wirePathsWrong : ChangeSpec := { name := "wirePaths", fn := fun _ => fun
  | [d1, d2] => { results := [.lit (.bool false)], args := [d1, d2] }
  | _ => none }
def WirePathsWrongFalsely : Prop := wirePathsRow.holds Try.pinned (OpenSpec.ofChange wirePathsWrong)

/-- 'gavottelaw22.WireSizes': WHATEVER THE INPUT: true; the input reads as it did. -/
def wireSizesSpec : ChangeSpec := { name := "wireSizes", fn := fun _ => fun
  | [d1, d2] => { results := [.lit (.bool true)], args := [d1, d2] }
  | _ => none }
def wireSizesRow : OpenClaim := { program := "ytkjefeclbdjkcaa", sum := "c5d114b6cbaa68f4afc540ce84814ed013a6bc384ae79080b454cdc9f342d3c0", func := "gavotte/gavottelaw22.WireSizes", spec := "wireSizes", unfollowed := true, recurses := true, apart := false }
def WireSizesSaid : Prop := wireSizesRow.holds Try.pinned (OpenSpec.ofChange wireSizesSpec)

/-- ITS FALSE NEIGHBOUR: 'it returns false'. Refute it at one input. -/
def wireSizesWrong : ChangeSpec := { name := "wireSizes", fn := fun _ => fun
  | [d1, d2] => { results := [.lit (.bool false)], args := [d1, d2] }
  | _ => none }
def WireSizesWrongFalsely : Prop := wireSizesRow.holds Try.pinned (OpenSpec.ofChange wireSizesWrong)

/-- 'gavottelaw22.WireSame': WHATEVER THE INPUT: true; the input reads as it did. -/
def wireSameSpec : ChangeSpec := { name := "wireSame", fn := fun _ => fun
  | [d1, d2] => { results := [.lit (.bool true)], args := [d1, d2] }
  | _ => none }
def wireSameRow : OpenClaim := { program := "ytkjefeclbdjkcaa", sum := "c5d114b6cbaa68f4afc540ce84814ed013a6bc384ae79080b454cdc9f342d3c0", func := "gavotte/gavottelaw22.WireSame", spec := "wireSame", unfollowed := true, recurses := true, apart := false }
def WireSameSaid : Prop := wireSameRow.holds Try.pinned (OpenSpec.ofChange wireSameSpec)

/-- ITS FALSE NEIGHBOUR: 'it returns false'. Refute it at one input. -/
def wireSameWrong : ChangeSpec := { name := "wireSame", fn := fun _ => fun
  | [d1, d2] => { results := [.lit (.bool false)], args := [d1, d2] }
  | _ => none }
def WireSameWrongFalsely : Prop := wireSameRow.holds Try.pinned (OpenSpec.ofChange wireSameWrong)

/-- 'gavottelaw22.WirePieces': WHATEVER THE INPUT: true; the input reads as it did. -/
def wirePiecesSpec : ChangeSpec := { name := "wirePieces", fn := fun _ => fun
  | [d1, d2] => { results := [.lit (.bool true)], args := [d1, d2] }
  | _ => none }
def wirePiecesRow : OpenClaim := { program := "ytkjefeclbdjkcaa", sum := "c5d114b6cbaa68f4afc540ce84814ed013a6bc384ae79080b454cdc9f342d3c0", func := "gavotte/gavottelaw22.WirePieces", spec := "wirePieces", unfollowed := true, recurses := true, apart := false }
def WirePiecesSaid : Prop := wirePiecesRow.holds Try.pinned (OpenSpec.ofChange wirePiecesSpec)

/-- ITS FALSE NEIGHBOUR: 'it returns false'. Refute it at one input. -/
def wirePiecesWrong : ChangeSpec := { name := "wirePieces", fn := fun _ => fun
  | [d1, d2] => { results := [.lit (.bool false)], args := [d1, d2] }
  | _ => none }
def WirePiecesWrongFalsely : Prop := wirePiecesRow.holds Try.pinned (OpenSpec.ofChange wirePiecesWrong)

/-- 'gavottelaw8.MailTells': WHATEVER THE INPUT: true; the input reads as it did. -/
def mailTellsSpec : ChangeSpec := { name := "mailTells", fn := fun _ => fun
  | [d1, d2, d3, d4] => { results := [.lit (.bool true)], args := [d1, d2, d3, d4] }
  | _ => none }
def mailTellsRow : OpenClaim := { program := "ytkjefeclbdjkcaa", sum := "c5d114b6cbaa68f4afc540ce84814ed013a6bc384ae79080b454cdc9f342d3c0", func := "gavotte/gavottelaw8.MailTells", spec := "mailTells", inPlace := ["slices.overlaps[gavotte/api.Message]"], unfollowed := true, recurses := true, apart := false }
def MailTellsSaid : Prop := mailTellsRow.holds Try.pinned (OpenSpec.ofChange mailTellsSpec)

/-- ITS FALSE NEIGHBOUR: 'it returns false'. Refute it at one input. -/
def mailTellsWrong : ChangeSpec := { name := "mailTells", fn := fun _ => fun
  | [d1, d2, d3, d4] => { results := [.lit (.bool false)], args := [d1, d2, d3, d4] }
  | _ => none }
def MailTellsWrongFalsely : Prop := mailTellsRow.holds Try.pinned (OpenSpec.ofChange mailTellsWrong)

/-- 'gavottelaw8.MailActs': WHATEVER THE INPUT: true; the input reads as it did. -/
def mailActsSpec : ChangeSpec := { name := "mailActs", fn := fun _ => fun
  | [d] => { results := [.lit (.bool true)], args := [d] }
  | _ => none }
def mailActsRow : OpenClaim := { program := "ytkjefeclbdjkcaa", sum := "c5d114b6cbaa68f4afc540ce84814ed013a6bc384ae79080b454cdc9f342d3c0", func := "gavotte/gavottelaw8.MailActs", spec := "mailActs", inPlace := ["slices.overlaps[gavotte/api.Message]"], unfollowed := true, recurses := true, apart := false }
def MailActsSaid : Prop := mailActsRow.holds Try.pinned (OpenSpec.ofChange mailActsSpec)

/-- ITS FALSE NEIGHBOUR: 'it returns false'. Refute it at one input. -/
def mailActsWrong : ChangeSpec := { name := "mailActs", fn := fun _ => fun
  | [d] => { results := [.lit (.bool false)], args := [d] }
  | _ => none }
def MailActsWrongFalsely : Prop := mailActsRow.holds Try.pinned (OpenSpec.ofChange mailActsWrong)

/-- 'gavottelaw8.MailSorted': WHATEVER THE INPUT: true; the input reads as it did. -/
def mailSortedSpec : ChangeSpec := { name := "mailSorted", fn := fun _ => fun
  | [d] => { results := [.lit (.bool true)], args := [d] }
  | _ => none }
def mailSortedRow : OpenClaim := { program := "ytkjefeclbdjkcaa", sum := "c5d114b6cbaa68f4afc540ce84814ed013a6bc384ae79080b454cdc9f342d3c0", func := "gavotte/gavottelaw8.MailSorted", spec := "mailSorted", inPlace := ["slices.overlaps[gavotte/api.Message]"], unfollowed := true, recurses := true, apart := false }
def MailSortedSaid : Prop := mailSortedRow.holds Try.pinned (OpenSpec.ofChange mailSortedSpec)

/-- ITS FALSE NEIGHBOUR: 'it returns false'. Refute it at one input. -/
def mailSortedWrong : ChangeSpec := { name := "mailSorted", fn := fun _ => fun
  | [d] => { results := [.lit (.bool false)], args := [d] }
  | _ => none }
def MailSortedWrongFalsely : Prop := mailSortedRow.holds Try.pinned (OpenSpec.ofChange mailSortedWrong)

/- THE SECOND FORM. 'bulk': how many values and letters a reading holds, each counted each time it is reached (what is shared counts as often as it is met; a slice's spare places count too). A statement '..UptoSaid' is the law's where the arguments, and the package variables that the reading takes, are together of bulk at most 1048576: NARROWER than '..Said'. Prove '..Said' where nothing that the law and all that it calls make is longer than what came in: it says more and counts as full. Else prove '..UptoSaid'. A law counts once. -/
mutual
def uptoBulk {H : Type} : DataW H → Nat
  | .lit (.string bytes) => bytes.length + 1
  | .lit _ => 1
  | .nil => 1
  | .ptr d => uptoBulk d + 1
  | .slice elems spare => uptoBulkAll elems + uptoBulkAll spare + 1
  | .agg parts => uptoBulkAll parts + 1
  | .iface _ d => uptoBulk d + 1
  | .map entries => uptoBulkEntries entries + 1
  | .held _ => 1
def uptoBulkAll {H : Type} : List (DataW H) → Nat
  | [] => 0
  | d :: r => uptoBulk d + uptoBulkAll r
def uptoBulkEntries {H : Type} : List (Lit × DataW H) → Nat
  | [] => 0
  | x :: r => uptoBulkEntry x + uptoBulkEntries r
def uptoBulkEntry {H : Type} : Lit × DataW H → Nat
  | (.string bytes, d) => bytes.length + uptoBulk d + 1
  | (_, d) => uptoBulk d + 1
 end
def uptoSmall : (H : Type) → List (DataW H) → Bool := fun _ ds => decide (uptoBulkAll ds ≤ 1048576)
def OpenSpec.upto (s : _root_.Go.ChangeSpec) : _root_.Go.OpenSpec := { _root_.Go.OpenSpec.ofChange s with cond := some uptoSmall }

/-- 'gavottelaw22.WireNumbers', WHERE WHAT IT READS IS OF BULK AT MOST 1048576: true; the input reads as it did. -/
def wireNumbersUptoRow : OpenClaim := { program := "ytkjefeclbdjkcaa", sum := "c5d114b6cbaa68f4afc540ce84814ed013a6bc384ae79080b454cdc9f342d3c0", func := "gavotte/gavottelaw22.WireNumbers", spec := "wireNumbers", unfollowed := true, recurses := true, apart := false, narrowed := true }
def WireNumbersUptoSaid : Prop := wireNumbersUptoRow.holds Try.pinned (OpenSpec.upto wireNumbersSpec)

/-- 'gavottelaw22.WireTasks', WHERE WHAT IT READS IS OF BULK AT MOST 1048576: true; the input reads as it did. -/
def wireTasksUptoRow : OpenClaim := { program := "ytkjefeclbdjkcaa", sum := "c5d114b6cbaa68f4afc540ce84814ed013a6bc384ae79080b454cdc9f342d3c0", func := "gavotte/gavottelaw22.WireTasks", spec := "wireTasks", unfollowed := true, recurses := true, apart := false, narrowed := true }
def WireTasksUptoSaid : Prop := wireTasksUptoRow.holds Try.pinned (OpenSpec.upto wireTasksSpec)

/-- 'gavottelaw22.WireBack', WHERE WHAT IT READS IS OF BULK AT MOST 1048576: true; the input reads as it did. -/
def wireBackUptoRow : OpenClaim := { program := "ytkjefeclbdjkcaa", sum := "c5d114b6cbaa68f4afc540ce84814ed013a6bc384ae79080b454cdc9f342d3c0", func := "gavotte/gavottelaw22.WireBack", spec := "wireBack", unfollowed := true, recurses := true, apart := false, narrowed := true }
def WireBackUptoSaid : Prop := wireBackUptoRow.holds Try.pinned (OpenSpec.upto wireBackSpec)

/-- 'gavottelaw22.WirePaths', WHERE WHAT IT READS IS OF BULK AT MOST 1048576: true; the input reads as it did. -/
def wirePathsUptoRow : OpenClaim := { program := "ytkjefeclbdjkcaa", sum := "c5d114b6cbaa68f4afc540ce84814ed013a6bc384ae79080b454cdc9f342d3c0", func := "gavotte/gavottelaw22.WirePaths", spec := "wirePaths", unfollowed := true, recurses := true, apart := false, narrowed := true }
def WirePathsUptoSaid : Prop := wirePathsUptoRow.holds Try.pinned (OpenSpec.upto wirePathsSpec)

/-- 'gavottelaw22.WireSizes', WHERE WHAT IT READS IS OF BULK AT MOST 1048576: true; the input reads as it did. -/
def wireSizesUptoRow : OpenClaim := { program := "ytkjefeclbdjkcaa", sum := "c5d114b6cbaa68f4afc540ce84814ed013a6bc384ae79080b454cdc9f342d3c0", func := "gavotte/gavottelaw22.WireSizes", spec := "wireSizes", unfollowed := true, recurses := true, apart := false, narrowed := true }
def WireSizesUptoSaid : Prop := wireSizesUptoRow.holds Try.pinned (OpenSpec.upto wireSizesSpec)

/-- 'gavottelaw22.WireSame', WHERE WHAT IT READS IS OF BULK AT MOST 1048576: true; the input reads as it did. -/
def wireSameUptoRow : OpenClaim := { program := "ytkjefeclbdjkcaa", sum := "c5d114b6cbaa68f4afc540ce84814ed013a6bc384ae79080b454cdc9f342d3c0", func := "gavotte/gavottelaw22.WireSame", spec := "wireSame", unfollowed := true, recurses := true, apart := false, narrowed := true }
def WireSameUptoSaid : Prop := wireSameUptoRow.holds Try.pinned (OpenSpec.upto wireSameSpec)

/-- 'gavottelaw22.WirePieces', WHERE WHAT IT READS IS OF BULK AT MOST 1048576: true; the input reads as it did. -/
def wirePiecesUptoRow : OpenClaim := { program := "ytkjefeclbdjkcaa", sum := "c5d114b6cbaa68f4afc540ce84814ed013a6bc384ae79080b454cdc9f342d3c0", func := "gavotte/gavottelaw22.WirePieces", spec := "wirePieces", unfollowed := true, recurses := true, apart := false, narrowed := true }
def WirePiecesUptoSaid : Prop := wirePiecesUptoRow.holds Try.pinned (OpenSpec.upto wirePiecesSpec)

/-- 'gavottelaw8.MailTells', WHERE WHAT IT READS IS OF BULK AT MOST 1048576: true; the input reads as it did. -/
def mailTellsUptoRow : OpenClaim := { program := "ytkjefeclbdjkcaa", sum := "c5d114b6cbaa68f4afc540ce84814ed013a6bc384ae79080b454cdc9f342d3c0", func := "gavotte/gavottelaw8.MailTells", spec := "mailTells", inPlace := ["slices.overlaps[gavotte/api.Message]"], unfollowed := true, recurses := true, apart := false, narrowed := true }
def MailTellsUptoSaid : Prop := mailTellsUptoRow.holds Try.pinned (OpenSpec.upto mailTellsSpec)

/-- 'gavottelaw8.MailActs', WHERE WHAT IT READS IS OF BULK AT MOST 1048576: true; the input reads as it did. -/
def mailActsUptoRow : OpenClaim := { program := "ytkjefeclbdjkcaa", sum := "c5d114b6cbaa68f4afc540ce84814ed013a6bc384ae79080b454cdc9f342d3c0", func := "gavotte/gavottelaw8.MailActs", spec := "mailActs", inPlace := ["slices.overlaps[gavotte/api.Message]"], unfollowed := true, recurses := true, apart := false, narrowed := true }
def MailActsUptoSaid : Prop := mailActsUptoRow.holds Try.pinned (OpenSpec.upto mailActsSpec)

/-- 'gavottelaw8.MailSorted', WHERE WHAT IT READS IS OF BULK AT MOST 1048576: true; the input reads as it did. -/
def mailSortedUptoRow : OpenClaim := { program := "ytkjefeclbdjkcaa", sum := "c5d114b6cbaa68f4afc540ce84814ed013a6bc384ae79080b454cdc9f342d3c0", func := "gavotte/gavottelaw8.MailSorted", spec := "mailSorted", inPlace := ["slices.overlaps[gavotte/api.Message]"], unfollowed := true, recurses := true, apart := false, narrowed := true }
def MailSortedUptoSaid : Prop := mailSortedUptoRow.holds Try.pinned (OpenSpec.upto mailSortedSpec)

end Rows
end Go.Proofs.Ytkjefeclbdjkcaa
