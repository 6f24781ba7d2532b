/-
  No cell of these rows narrows 'for every input' (looked for: loops, veiled, ifaces, maps, wideKeys, modest, calm, conditions, laid).
  DERIVED. THE GIVEN ROWS OF THIS SEAT. 17 by the template 'for every input the law returns true; each argument reads behind the call as it read before'; 0 by the template 'total and deterministic' (their statements: YtffiompkjhopkaaTotals.lean).
  GIVEN WITH THE SEED: the statements are not yours to turn. If you find one false, say at which input.
  Laid BY PROGRAM, IN A SANDBOX (cutbox-rows.mjs): the forced cells as the released guide's own fill.sh prints them over the translation 3bc2e175031298ce… (all of the seat's roots in one cut). By AI agents, Wed Nov 11 2026. No macro, syntax, notation, axiom, sorry.
-/
import Derived.Test.YtffiompkjhopkaaChecked
import GoSem.Claim
import GoSem.ClaimJoined
import GoSem.ClaimMapViews
import Derived.JoinedTies
import Derived.KernelRfl
namespace Go.Proofs.Ytffiompkjhopkaa
/- THE CELL 'sum', in the pinned program and in every row, IS THE sha256 OF THE DUMP (.gsa) THAT YtffiompkjhopkaaProg.lean LOADS. Nothing in Lean hashes anything: it is a label: what it is worth is what the hold of that sum in a sandbox is worth. -/
noncomputable def Try.pinned : Pinned := { name := "ytffiompkjhopkaa", sum := "3bc2e175031298ce35bd4bad4d471e6038e3fe1e5ae91f09077c2bdad9712e75", checked := Try.checked }
namespace Rows
def none {H : Type} : Left H := { results := [], args := [] }

/-- 'bordereaulaw04.StepTells': WHATEVER THE INPUT: true; the input reads as it did. -/
def stepTellsSpec : ChangeSpec := { name := "stepTells", fn := fun _ => fun
  | [d1, d2] => { results := [.lit (.bool true)], args := [d1, d2] }
  | _ => none }
def stepTellsRow : OpenClaim := { program := "ytffiompkjhopkaa", sum := "3bc2e175031298ce35bd4bad4d471e6038e3fe1e5ae91f09077c2bdad9712e75", func := "bordereau/bordereaulaw04.StepTells", spec := "stepTells", unfollowed := true, recurses := true, apart := false }
def StepTellsSaid : Prop := stepTellsRow.holds Try.pinned (OpenSpec.ofChange stepTellsSpec)

/-- ITS FALSE NEIGHBOUR: 'it returns false'. Refute it at one input. -/
def stepTellsWrong : ChangeSpec := { name := "stepTells", fn := fun _ => fun
  | [d1, d2] => { results := [.lit (.bool false)], args := [d1, d2] }
  | _ => none }
def StepTellsWrongFalsely : Prop := stepTellsRow.holds Try.pinned (OpenSpec.ofChange stepTellsWrong)

/-- 'bordereaulaw04.StepSets': WHATEVER THE INPUT: true; the input reads as it did. -/
def stepSetsSpec : ChangeSpec := { name := "stepSets", fn := fun _ => fun
  | [d1, d2, d3] => { results := [.lit (.bool true)], args := [d1, d2, d3] }
  | _ => none }
def stepSetsRow : OpenClaim := { program := "ytffiompkjhopkaa", sum := "3bc2e175031298ce35bd4bad4d471e6038e3fe1e5ae91f09077c2bdad9712e75", func := "bordereau/bordereaulaw04.StepSets", spec := "stepSets", unfollowed := true, recurses := true, apart := false }
def StepSetsSaid : Prop := stepSetsRow.holds Try.pinned (OpenSpec.ofChange stepSetsSpec)

/-- ITS FALSE NEIGHBOUR: 'it returns false'. Refute it at one input. -/
def stepSetsWrong : ChangeSpec := { name := "stepSets", fn := fun _ => fun
  | [d1, d2, d3] => { results := [.lit (.bool false)], args := [d1, d2, d3] }
  | _ => none }
def StepSetsWrongFalsely : Prop := stepSetsRow.holds Try.pinned (OpenSpec.ofChange stepSetsWrong)

/-- 'bordereaulaw04.StepHolds': WHATEVER THE INPUT: true; the input reads as it did. -/
def stepHoldsSpec : ChangeSpec := { name := "stepHolds", fn := fun _ => fun
  | [d1, d2, d3, d4, d5] => { results := [.lit (.bool true)], args := [d1, d2, d3, d4, d5] }
  | _ => none }
def stepHoldsRow : OpenClaim := { program := "ytffiompkjhopkaa", sum := "3bc2e175031298ce35bd4bad4d471e6038e3fe1e5ae91f09077c2bdad9712e75", func := "bordereau/bordereaulaw04.StepHolds", spec := "stepHolds", unfollowed := true, recurses := true, apart := false }
def StepHoldsSaid : Prop := stepHoldsRow.holds Try.pinned (OpenSpec.ofChange stepHoldsSpec)

/-- ITS FALSE NEIGHBOUR: 'it returns false'. Refute it at one input. -/
def stepHoldsWrong : ChangeSpec := { name := "stepHolds", fn := fun _ => fun
  | [d1, d2, d3, d4, d5] => { results := [.lit (.bool false)], args := [d1, d2, d3, d4, d5] }
  | _ => none }
def StepHoldsWrongFalsely : Prop := stepHoldsRow.holds Try.pinned (OpenSpec.ofChange stepHoldsWrong)

/-- 'bordereaulaw04.StepApart': WHATEVER THE INPUT: true; the input reads as it did. -/
def stepApartSpec : ChangeSpec := { name := "stepApart", fn := fun _ => fun
  | [d1, d2, d3, d4, d5, d6] => { results := [.lit (.bool true)], args := [d1, d2, d3, d4, d5, d6] }
  | _ => none }
def stepApartRow : OpenClaim := { program := "ytffiompkjhopkaa", sum := "3bc2e175031298ce35bd4bad4d471e6038e3fe1e5ae91f09077c2bdad9712e75", func := "bordereau/bordereaulaw04.StepApart", spec := "stepApart", unfollowed := true, recurses := true, apart := false }
def StepApartSaid : Prop := stepApartRow.holds Try.pinned (OpenSpec.ofChange stepApartSpec)

/-- ITS FALSE NEIGHBOUR: 'it returns false'. Refute it at one input. -/
def stepApartWrong : ChangeSpec := { name := "stepApart", fn := fun _ => fun
  | [d1, d2, d3, d4, d5, d6] => { results := [.lit (.bool false)], args := [d1, d2, d3, d4, d5, d6] }
  | _ => none }
def StepApartWrongFalsely : Prop := stepApartRow.holds Try.pinned (OpenSpec.ofChange stepApartWrong)

/-- 'bordereaulaw04.StepCuts': WHATEVER THE INPUT: true; the input reads as it did. -/
def stepCutsSpec : ChangeSpec := { name := "stepCuts", fn := fun _ => fun
  | [d1, d2, d3, d4] => { results := [.lit (.bool true)], args := [d1, d2, d3, d4] }
  | _ => none }
def stepCutsRow : OpenClaim := { program := "ytffiompkjhopkaa", sum := "3bc2e175031298ce35bd4bad4d471e6038e3fe1e5ae91f09077c2bdad9712e75", func := "bordereau/bordereaulaw04.StepCuts", spec := "stepCuts", unfollowed := true, recurses := true, apart := false }
def StepCutsSaid : Prop := stepCutsRow.holds Try.pinned (OpenSpec.ofChange stepCutsSpec)

/-- ITS FALSE NEIGHBOUR: 'it returns false'. Refute it at one input. -/
def stepCutsWrong : ChangeSpec := { name := "stepCuts", fn := fun _ => fun
  | [d1, d2, d3, d4] => { results := [.lit (.bool false)], args := [d1, d2, d3, d4] }
  | _ => none }
def StepCutsWrongFalsely : Prop := stepCutsRow.holds Try.pinned (OpenSpec.ofChange stepCutsWrong)

/-- 'bordereaulaw04.StepSums': WHATEVER THE INPUT: true; the input reads as it did. -/
def stepSumsSpec : ChangeSpec := { name := "stepSums", fn := fun _ => fun
  | [d1, d2] => { results := [.lit (.bool true)], args := [d1, d2] }
  | _ => none }
def stepSumsRow : OpenClaim := { program := "ytffiompkjhopkaa", sum := "3bc2e175031298ce35bd4bad4d471e6038e3fe1e5ae91f09077c2bdad9712e75", func := "bordereau/bordereaulaw04.StepSums", spec := "stepSums", unfollowed := true, recurses := true, apart := false }
def StepSumsSaid : Prop := stepSumsRow.holds Try.pinned (OpenSpec.ofChange stepSumsSpec)

/-- ITS FALSE NEIGHBOUR: 'it returns false'. Refute it at one input. -/
def stepSumsWrong : ChangeSpec := { name := "stepSums", fn := fun _ => fun
  | [d1, d2] => { results := [.lit (.bool false)], args := [d1, d2] }
  | _ => none }
def StepSumsWrongFalsely : Prop := stepSumsRow.holds Try.pinned (OpenSpec.ofChange stepSumsWrong)

/-- 'bordereaulaw04.StepPieces': WHATEVER THE INPUT: true; the input reads as it did. -/
def stepPiecesSpec : ChangeSpec := { name := "stepPieces", fn := fun _ => fun
  | [d1, d2, d3, d4] => { results := [.lit (.bool true)], args := [d1, d2, d3, d4] }
  | _ => none }
def stepPiecesRow : OpenClaim := { program := "ytffiompkjhopkaa", sum := "3bc2e175031298ce35bd4bad4d471e6038e3fe1e5ae91f09077c2bdad9712e75", func := "bordereau/bordereaulaw04.StepPieces", spec := "stepPieces", unfollowed := true, recurses := true, apart := false }
def StepPiecesSaid : Prop := stepPiecesRow.holds Try.pinned (OpenSpec.ofChange stepPiecesSpec)

/-- ITS FALSE NEIGHBOUR: 'it returns false'. Refute it at one input. -/
def stepPiecesWrong : ChangeSpec := { name := "stepPieces", fn := fun _ => fun
  | [d1, d2, d3, d4] => { results := [.lit (.bool false)], args := [d1, d2, d3, d4] }
  | _ => none }
def StepPiecesWrongFalsely : Prop := stepPiecesRow.holds Try.pinned (OpenSpec.ofChange stepPiecesWrong)

/-- 'bordereaulaw04.StepAdds': WHATEVER THE INPUT: true; the input reads as it did. -/
def stepAddsSpec : ChangeSpec := { name := "stepAdds", fn := fun _ => fun
  | [d1, d2] => { results := [.lit (.bool true)], args := [d1, d2] }
  | _ => none }
def stepAddsRow : OpenClaim := { program := "ytffiompkjhopkaa", sum := "3bc2e175031298ce35bd4bad4d471e6038e3fe1e5ae91f09077c2bdad9712e75", func := "bordereau/bordereaulaw04.StepAdds", spec := "stepAdds", unfollowed := true, recurses := true, apart := false }
def StepAddsSaid : Prop := stepAddsRow.holds Try.pinned (OpenSpec.ofChange stepAddsSpec)

/-- ITS FALSE NEIGHBOUR: 'it returns false'. Refute it at one input. -/
def stepAddsWrong : ChangeSpec := { name := "stepAdds", fn := fun _ => fun
  | [d1, d2] => { results := [.lit (.bool false)], args := [d1, d2] }
  | _ => none }
def StepAddsWrongFalsely : Prop := stepAddsRow.holds Try.pinned (OpenSpec.ofChange stepAddsWrong)

/-- 'bordereaulaw04.StepTogether': WHATEVER THE INPUT: true; the input reads as it did. -/
def stepTogetherSpec : ChangeSpec := { name := "stepTogether", fn := fun _ => fun
  | [d1, d2, d3, d4, d5] => { results := [.lit (.bool true)], args := [d1, d2, d3, d4, d5] }
  | _ => none }
def stepTogetherRow : OpenClaim := { program := "ytffiompkjhopkaa", sum := "3bc2e175031298ce35bd4bad4d471e6038e3fe1e5ae91f09077c2bdad9712e75", func := "bordereau/bordereaulaw04.StepTogether", spec := "stepTogether", unfollowed := true, recurses := true, apart := false }
def StepTogetherSaid : Prop := stepTogetherRow.holds Try.pinned (OpenSpec.ofChange stepTogetherSpec)

/-- ITS FALSE NEIGHBOUR: 'it returns false'. Refute it at one input. -/
def stepTogetherWrong : ChangeSpec := { name := "stepTogether", fn := fun _ => fun
  | [d1, d2, d3, d4, d5] => { results := [.lit (.bool false)], args := [d1, d2, d3, d4, d5] }
  | _ => none }
def StepTogetherWrongFalsely : Prop := stepTogetherRow.holds Try.pinned (OpenSpec.ofChange stepTogetherWrong)

/-- 'bordereaulaw03.SpanOne': WHATEVER THE INPUT: true; the input reads as it did. -/
def spanOneSpec : ChangeSpec := { name := "spanOne", fn := fun _ => fun
  | [d1, d2] => { results := [.lit (.bool true)], args := [d1, d2] }
  | _ => none }
def spanOneRow : OpenClaim := { program := "ytffiompkjhopkaa", sum := "3bc2e175031298ce35bd4bad4d471e6038e3fe1e5ae91f09077c2bdad9712e75", func := "bordereau/bordereaulaw03.SpanOne", spec := "spanOne", unfollowed := true, recurses := true, apart := false }
def SpanOneSaid : Prop := spanOneRow.holds Try.pinned (OpenSpec.ofChange spanOneSpec)

/-- ITS FALSE NEIGHBOUR: 'it returns false'. Refute it at one input. -/
def spanOneWrong : ChangeSpec := { name := "spanOne", fn := fun _ => fun
  | [d1, d2] => { results := [.lit (.bool false)], args := [d1, d2] }
  | _ => none }
def SpanOneWrongFalsely : Prop := spanOneRow.holds Try.pinned (OpenSpec.ofChange spanOneWrong)

/-- 'bordereaulaw03.SpanTwo': WHATEVER THE INPUT: true; the input reads as it did. -/
def spanTwoSpec : ChangeSpec := { name := "spanTwo", fn := fun _ => fun
  | [d1, d2] => { results := [.lit (.bool true)], args := [d1, d2] }
  | _ => none }
def spanTwoRow : OpenClaim := { program := "ytffiompkjhopkaa", sum := "3bc2e175031298ce35bd4bad4d471e6038e3fe1e5ae91f09077c2bdad9712e75", func := "bordereau/bordereaulaw03.SpanTwo", spec := "spanTwo", unfollowed := true, recurses := true, apart := false }
def SpanTwoSaid : Prop := spanTwoRow.holds Try.pinned (OpenSpec.ofChange spanTwoSpec)

/-- ITS FALSE NEIGHBOUR: 'it returns false'. Refute it at one input. -/
def spanTwoWrong : ChangeSpec := { name := "spanTwo", fn := fun _ => fun
  | [d1, d2] => { results := [.lit (.bool false)], args := [d1, d2] }
  | _ => none }
def SpanTwoWrongFalsely : Prop := spanTwoRow.holds Try.pinned (OpenSpec.ofChange spanTwoWrong)

/-- 'bordereaulaw03.SpanDays': WHATEVER THE INPUT: true; the input reads as it did. -/
def spanDaysSpec : ChangeSpec := { name := "spanDays", fn := fun _ => fun
  | [d1, d2, d3] => { results := [.lit (.bool true)], args := [d1, d2, d3] }
  | _ => none }
def spanDaysRow : OpenClaim := { program := "ytffiompkjhopkaa", sum := "3bc2e175031298ce35bd4bad4d471e6038e3fe1e5ae91f09077c2bdad9712e75", func := "bordereau/bordereaulaw03.SpanDays", spec := "spanDays", unfollowed := true, recurses := true, apart := false }
def SpanDaysSaid : Prop := spanDaysRow.holds Try.pinned (OpenSpec.ofChange spanDaysSpec)

/-- ITS FALSE NEIGHBOUR: 'it returns false'. Refute it at one input. -/
def spanDaysWrong : ChangeSpec := { name := "spanDays", fn := fun _ => fun
  | [d1, d2, d3] => { results := [.lit (.bool false)], args := [d1, d2, d3] }
  | _ => none }
def SpanDaysWrongFalsely : Prop := spanDaysRow.holds Try.pinned (OpenSpec.ofChange spanDaysWrong)

/-- 'bordereaulaw03.SpanSums': WHATEVER THE INPUT: true; the input reads as it did. -/
def spanSumsSpec : ChangeSpec := { name := "spanSums", fn := fun _ => fun
  | [d1, d2] => { results := [.lit (.bool true)], args := [d1, d2] }
  | _ => none }
def spanSumsRow : OpenClaim := { program := "ytffiompkjhopkaa", sum := "3bc2e175031298ce35bd4bad4d471e6038e3fe1e5ae91f09077c2bdad9712e75", func := "bordereau/bordereaulaw03.SpanSums", spec := "spanSums", unfollowed := true, recurses := true, apart := false }
def SpanSumsSaid : Prop := spanSumsRow.holds Try.pinned (OpenSpec.ofChange spanSumsSpec)

/-- ITS FALSE NEIGHBOUR: 'it returns false'. Refute it at one input. -/
def spanSumsWrong : ChangeSpec := { name := "spanSums", fn := fun _ => fun
  | [d1, d2] => { results := [.lit (.bool false)], args := [d1, d2] }
  | _ => none }
def SpanSumsWrongFalsely : Prop := spanSumsRow.holds Try.pinned (OpenSpec.ofChange spanSumsWrong)

/-- 'bordereaulaw03.SpanJoin': WHATEVER THE INPUT: true; the input reads as it did. -/
def spanJoinSpec : ChangeSpec := { name := "spanJoin", fn := fun _ => fun
  | [d] => { results := [.lit (.bool true)], args := [d] }
  | _ => none }
def spanJoinRow : OpenClaim := { program := "ytffiompkjhopkaa", sum := "3bc2e175031298ce35bd4bad4d471e6038e3fe1e5ae91f09077c2bdad9712e75", func := "bordereau/bordereaulaw03.SpanJoin", spec := "spanJoin", unfollowed := true, recurses := true, apart := false }
def SpanJoinSaid : Prop := spanJoinRow.holds Try.pinned (OpenSpec.ofChange spanJoinSpec)

/-- ITS FALSE NEIGHBOUR: 'it returns false'. Refute it at one input. -/
def spanJoinWrong : ChangeSpec := { name := "spanJoin", fn := fun _ => fun
  | [d] => { results := [.lit (.bool false)], args := [d] }
  | _ => none }
def SpanJoinWrongFalsely : Prop := spanJoinRow.holds Try.pinned (OpenSpec.ofChange spanJoinWrong)

/-- 'bordereaulaw03.SpanAny': WHATEVER THE INPUT: true; the input reads as it did. -/
def spanAnySpec : ChangeSpec := { name := "spanAny", fn := fun _ => fun
  | [d1, d2] => { results := [.lit (.bool true)], args := [d1, d2] }
  | _ => none }
def spanAnyRow : OpenClaim := { program := "ytffiompkjhopkaa", sum := "3bc2e175031298ce35bd4bad4d471e6038e3fe1e5ae91f09077c2bdad9712e75", func := "bordereau/bordereaulaw03.SpanAny", spec := "spanAny", unfollowed := true, recurses := true, apart := false }
def SpanAnySaid : Prop := spanAnyRow.holds Try.pinned (OpenSpec.ofChange spanAnySpec)

/-- ITS FALSE NEIGHBOUR: 'it returns false'. Refute it at one input. -/
def spanAnyWrong : ChangeSpec := { name := "spanAny", fn := fun _ => fun
  | [d1, d2] => { results := [.lit (.bool false)], args := [d1, d2] }
  | _ => none }
def SpanAnyWrongFalsely : Prop := spanAnyRow.holds Try.pinned (OpenSpec.ofChange spanAnyWrong)

/-- 'bordereaulaw03.SpanTurned': WHATEVER THE INPUT: true; the input reads as it did. -/
def spanTurnedSpec : ChangeSpec := { name := "spanTurned", fn := fun _ => fun
  | [d1, d2] => { results := [.lit (.bool true)], args := [d1, d2] }
  | _ => none }
def spanTurnedRow : OpenClaim := { program := "ytffiompkjhopkaa", sum := "3bc2e175031298ce35bd4bad4d471e6038e3fe1e5ae91f09077c2bdad9712e75", func := "bordereau/bordereaulaw03.SpanTurned", spec := "spanTurned", unfollowed := true, recurses := true, apart := false }
def SpanTurnedSaid : Prop := spanTurnedRow.holds Try.pinned (OpenSpec.ofChange spanTurnedSpec)

/-- ITS FALSE NEIGHBOUR: 'it returns false'. Refute it at one input. -/
def spanTurnedWrong : ChangeSpec := { name := "spanTurned", fn := fun _ => fun
  | [d1, d2] => { results := [.lit (.bool false)], args := [d1, d2] }
  | _ => none }
def SpanTurnedWrongFalsely : Prop := spanTurnedRow.holds Try.pinned (OpenSpec.ofChange spanTurnedWrong)

/-- 'bordereaulaw03.SpanParts': WHATEVER THE INPUT: true; the input reads as it did. -/
def spanPartsSpec : ChangeSpec := { name := "spanParts", fn := fun _ => fun
  | [d1, d2] => { results := [.lit (.bool true)], args := [d1, d2] }
  | _ => none }
def spanPartsRow : OpenClaim := { program := "ytffiompkjhopkaa", sum := "3bc2e175031298ce35bd4bad4d471e6038e3fe1e5ae91f09077c2bdad9712e75", func := "bordereau/bordereaulaw03.SpanParts", spec := "spanParts", unfollowed := true, recurses := true, apart := false }
def SpanPartsSaid : Prop := spanPartsRow.holds Try.pinned (OpenSpec.ofChange spanPartsSpec)

/-- ITS FALSE NEIGHBOUR: 'it returns false'. Refute it at one input. -/
def spanPartsWrong : ChangeSpec := { name := "spanParts", fn := fun _ => fun
  | [d1, d2] => { results := [.lit (.bool false)], args := [d1, d2] }
  | _ => none }
def SpanPartsWrongFalsely : Prop := spanPartsRow.holds Try.pinned (OpenSpec.ofChange spanPartsWrong)

/- THE SECOND FORM. 'bulk': how many values and letters a reading holds, each counted each time it is reached (what is shared counts as often as it is met; a slice's spare places count too). A statement '..UptoSaid' is the law's where the arguments, and the package variables that the reading takes, are together of bulk at most 1048576: NARROWER than '..Said'. Prove '..Said' where nothing that the law and all that it calls make is longer than what came in: it says more and counts as full. Else prove '..UptoSaid'. A law counts once. -/
mutual
def uptoBulk {H : Type} : DataW H → Nat
  | .lit (.string bytes) => bytes.length + 1
  | .lit _ => 1
  | .nil => 1
  | .ptr d => uptoBulk d + 1
  | .slice elems spare => uptoBulkAll elems + uptoBulkAll spare + 1
  | .agg parts => uptoBulkAll parts + 1
  | .iface _ d => uptoBulk d + 1
  | .map entries => uptoBulkEntries entries + 1
  | .held _ => 1
def uptoBulkAll {H : Type} : List (DataW H) → Nat
  | [] => 0
  | d :: r => uptoBulk d + uptoBulkAll r
def uptoBulkEntries {H : Type} : List (Lit × DataW H) → Nat
  | [] => 0
  | x :: r => uptoBulkEntry x + uptoBulkEntries r
def uptoBulkEntry {H : Type} : Lit × DataW H → Nat
  | (.string bytes, d) => bytes.length + uptoBulk d + 1
  | (_, d) => uptoBulk d + 1
 end
def uptoSmall : (H : Type) → List (DataW H) → Bool := fun _ ds => decide (uptoBulkAll ds ≤ 1048576)
def OpenSpec.upto (s : _root_.Go.ChangeSpec) : _root_.Go.OpenSpec := { _root_.Go.OpenSpec.ofChange s with cond := some uptoSmall }

/-- 'bordereaulaw04.StepTells', WHERE WHAT IT READS IS OF BULK AT MOST 1048576: true; the input reads as it did. -/
def stepTellsUptoRow : OpenClaim := { program := "ytffiompkjhopkaa", sum := "3bc2e175031298ce35bd4bad4d471e6038e3fe1e5ae91f09077c2bdad9712e75", func := "bordereau/bordereaulaw04.StepTells", spec := "stepTells", unfollowed := true, recurses := true, apart := false, narrowed := true }
def StepTellsUptoSaid : Prop := stepTellsUptoRow.holds Try.pinned (OpenSpec.upto stepTellsSpec)

/-- 'bordereaulaw04.StepSets', WHERE WHAT IT READS IS OF BULK AT MOST 1048576: true; the input reads as it did. -/
def stepSetsUptoRow : OpenClaim := { program := "ytffiompkjhopkaa", sum := "3bc2e175031298ce35bd4bad4d471e6038e3fe1e5ae91f09077c2bdad9712e75", func := "bordereau/bordereaulaw04.StepSets", spec := "stepSets", unfollowed := true, recurses := true, apart := false, narrowed := true }
def StepSetsUptoSaid : Prop := stepSetsUptoRow.holds Try.pinned (OpenSpec.upto stepSetsSpec)

/-- 'bordereaulaw04.StepHolds', WHERE WHAT IT READS IS OF BULK AT MOST 1048576: true; the input reads as it did. -/
def stepHoldsUptoRow : OpenClaim := { program := "ytffiompkjhopkaa", sum := "3bc2e175031298ce35bd4bad4d471e6038e3fe1e5ae91f09077c2bdad9712e75", func := "bordereau/bordereaulaw04.StepHolds", spec := "stepHolds", unfollowed := true, recurses := true, apart := false, narrowed := true }
def StepHoldsUptoSaid : Prop := stepHoldsUptoRow.holds Try.pinned (OpenSpec.upto stepHoldsSpec)

/-- 'bordereaulaw04.StepApart', WHERE WHAT IT READS IS OF BULK AT MOST 1048576: true; the input reads as it did. -/
def stepApartUptoRow : OpenClaim := { program := "ytffiompkjhopkaa", sum := "3bc2e175031298ce35bd4bad4d471e6038e3fe1e5ae91f09077c2bdad9712e75", func := "bordereau/bordereaulaw04.StepApart", spec := "stepApart", unfollowed := true, recurses := true, apart := false, narrowed := true }
def StepApartUptoSaid : Prop := stepApartUptoRow.holds Try.pinned (OpenSpec.upto stepApartSpec)

/-- 'bordereaulaw04.StepCuts', WHERE WHAT IT READS IS OF BULK AT MOST 1048576: true; the input reads as it did. -/
def stepCutsUptoRow : OpenClaim := { program := "ytffiompkjhopkaa", sum := "3bc2e175031298ce35bd4bad4d471e6038e3fe1e5ae91f09077c2bdad9712e75", func := "bordereau/bordereaulaw04.StepCuts", spec := "stepCuts", unfollowed := true, recurses := true, apart := false, narrowed := true }
def StepCutsUptoSaid : Prop := stepCutsUptoRow.holds Try.pinned (OpenSpec.upto stepCutsSpec)

/-- 'bordereaulaw04.StepSums', WHERE WHAT IT READS IS OF BULK AT MOST 1048576: true; the input reads as it did. -/
def stepSumsUptoRow : OpenClaim := { program := "ytffiompkjhopkaa", sum := "3bc2e175031298ce35bd4bad4d471e6038e3fe1e5ae91f09077c2bdad9712e75", func := "bordereau/bordereaulaw04.StepSums", spec := "stepSums", unfollowed := true, recurses := true, apart := false, narrowed := true }
def StepSumsUptoSaid : Prop := stepSumsUptoRow.holds Try.pinned (OpenSpec.upto stepSumsSpec)

/-- 'bordereaulaw04.StepPieces', WHERE WHAT IT READS IS OF BULK AT MOST 1048576: true; the input reads as it did. -/
def stepPiecesUptoRow : OpenClaim := { program := "ytffiompkjhopkaa", sum := "3bc2e175031298ce35bd4bad4d471e6038e3fe1e5ae91f09077c2bdad9712e75", func := "bordereau/bordereaulaw04.StepPieces", spec := "stepPieces", unfollowed := true, recurses := true, apart := false, narrowed := true }
def StepPiecesUptoSaid : Prop := stepPiecesUptoRow.holds Try.pinned (OpenSpec.upto stepPiecesSpec)

/-- 'bordereaulaw04.StepAdds', WHERE WHAT IT READS IS OF BULK AT MOST 1048576: true; the input reads as it did. -/
def stepAddsUptoRow : OpenClaim := { program := "ytffiompkjhopkaa", sum := "3bc2e175031298ce35bd4bad4d471e6038e3fe1e5ae91f09077c2bdad9712e75", func := "bordereau/bordereaulaw04.StepAdds", spec := "stepAdds", unfollowed := true, recurses := true, apart := false, narrowed := true }
def StepAddsUptoSaid : Prop := stepAddsUptoRow.holds Try.pinned (OpenSpec.upto stepAddsSpec)

/-- 'bordereaulaw04.StepTogether', WHERE WHAT IT READS IS OF BULK AT MOST 1048576: true; the input reads as it did. -/
def stepTogetherUptoRow : OpenClaim := { program := "ytffiompkjhopkaa", sum := "3bc2e175031298ce35bd4bad4d471e6038e3fe1e5ae91f09077c2bdad9712e75", func := "bordereau/bordereaulaw04.StepTogether", spec := "stepTogether", unfollowed := true, recurses := true, apart := false, narrowed := true }
def StepTogetherUptoSaid : Prop := stepTogetherUptoRow.holds Try.pinned (OpenSpec.upto stepTogetherSpec)

/-- 'bordereaulaw03.SpanOne', WHERE WHAT IT READS IS OF BULK AT MOST 1048576: true; the input reads as it did. -/
def spanOneUptoRow : OpenClaim := { program := "ytffiompkjhopkaa", sum := "3bc2e175031298ce35bd4bad4d471e6038e3fe1e5ae91f09077c2bdad9712e75", func := "bordereau/bordereaulaw03.SpanOne", spec := "spanOne", unfollowed := true, recurses := true, apart := false, narrowed := true }
def SpanOneUptoSaid : Prop := spanOneUptoRow.holds Try.pinned (OpenSpec.upto spanOneSpec)

/-- 'bordereaulaw03.SpanTwo', WHERE WHAT IT READS IS OF BULK AT MOST 1048576: true; the input reads as it did. -/
def spanTwoUptoRow : OpenClaim := { program := "ytffiompkjhopkaa", sum := "3bc2e175031298ce35bd4bad4d471e6038e3fe1e5ae91f09077c2bdad9712e75", func := "bordereau/bordereaulaw03.SpanTwo", spec := "spanTwo", unfollowed := true, recurses := true, apart := false, narrowed := true }
def SpanTwoUptoSaid : Prop := spanTwoUptoRow.holds Try.pinned (OpenSpec.upto spanTwoSpec)

/-- 'bordereaulaw03.SpanDays', WHERE WHAT IT READS IS OF BULK AT MOST 1048576: true; the input reads as it did. -/
def spanDaysUptoRow : OpenClaim := { program := "ytffiompkjhopkaa", sum := "3bc2e175031298ce35bd4bad4d471e6038e3fe1e5ae91f09077c2bdad9712e75", func := "bordereau/bordereaulaw03.SpanDays", spec := "spanDays", unfollowed := true, recurses := true, apart := false, narrowed := true }
def SpanDaysUptoSaid : Prop := spanDaysUptoRow.holds Try.pinned (OpenSpec.upto spanDaysSpec)

/-- 'bordereaulaw03.SpanSums', WHERE WHAT IT READS IS OF BULK AT MOST 1048576: true; the input reads as it did. -/
def spanSumsUptoRow : OpenClaim := { program := "ytffiompkjhopkaa", sum := "3bc2e175031298ce35bd4bad4d471e6038e3fe1e5ae91f09077c2bdad9712e75", func := "bordereau/bordereaulaw03.SpanSums", spec := "spanSums", unfollowed := true, recurses := true, apart := false, narrowed := true }
def SpanSumsUptoSaid : Prop := spanSumsUptoRow.holds Try.pinned (OpenSpec.upto spanSumsSpec)

/-- 'bordereaulaw03.SpanJoin', WHERE WHAT IT READS IS OF BULK AT MOST 1048576: true; the input reads as it did. -/
def spanJoinUptoRow : OpenClaim := { program := "ytffiompkjhopkaa", sum := "3bc2e175031298ce35bd4bad4d471e6038e3fe1e5ae91f09077c2bdad9712e75", func := "bordereau/bordereaulaw03.SpanJoin", spec := "spanJoin", unfollowed := true, recurses := true, apart := false, narrowed := true }
def SpanJoinUptoSaid : Prop := spanJoinUptoRow.holds Try.pinned (OpenSpec.upto spanJoinSpec)

/-- 'bordereaulaw03.SpanAny', WHERE WHAT IT READS IS OF BULK AT MOST 1048576: true; the input reads as it did. -/
def spanAnyUptoRow : OpenClaim := { program := "ytffiompkjhopkaa", sum := "3bc2e175031298ce35bd4bad4d471e6038e3fe1e5ae91f09077c2bdad9712e75", func := "bordereau/bordereaulaw03.SpanAny", spec := "spanAny", unfollowed := true, recurses := true, apart := false, narrowed := true }
def SpanAnyUptoSaid : Prop := spanAnyUptoRow.holds Try.pinned (OpenSpec.upto spanAnySpec)

/-- 'bordereaulaw03.SpanTurned', WHERE WHAT IT READS IS OF BULK AT MOST 1048576: true; the input reads as it did. -/
def spanTurnedUptoRow : OpenClaim := { program := "ytffiompkjhopkaa", sum := "3bc2e175031298ce35bd4bad4d471e6038e3fe1e5ae91f09077c2bdad9712e75", func := "bordereau/bordereaulaw03.SpanTurned", spec := "spanTurned", unfollowed := true, recurses := true, apart := false, narrowed := true }
def SpanTurnedUptoSaid : Prop := spanTurnedUptoRow.holds Try.pinned (OpenSpec.upto spanTurnedSpec)

/-- 'bordereaulaw03.SpanParts', WHERE WHAT IT READS IS OF BULK AT MOST 1048576: true; the input reads as it did. -/
def spanPartsUptoRow : OpenClaim := { program := "ytffiompkjhopkaa", sum := "3bc2e175031298ce35bd4bad4d471e6038e3fe1e5ae91f09077c2bdad9712e75", func := "bordereau/bordereaulaw03.SpanParts", spec := "spanParts", unfollowed := true, recurses := true, apart := false, narrowed := true }
def SpanPartsUptoSaid : Prop := spanPartsUptoRow.holds Try.pinned (OpenSpec.upto spanPartsSpec)

end Rows
end Go.Proofs.Ytffiompkjhopkaa
