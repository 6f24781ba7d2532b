/-
  No cell of these rows narrows 'for every input' (looked for: loops, veiled, ifaces, maps, wideKeys, modest, calm, conditions, laid).
  DERIVED. THE GIVEN ROWS OF THIS SEAT. 12 by the template 'for every input the law returns true; each argument reads behind the call as it read before'; 0 by the template 'total and deterministic' (their statements: YtkagkiepicepeaaTotals.lean).
  GIVEN WITH THE SEED: the statements are not yours to turn. If you find one false, say at which input.
  Laid BY PROGRAM, IN A SANDBOX (cutbox-rows.mjs): the forced cells as the released guide's own fill.sh prints them over the translation ec0af676cf141fa8… (all of the seat's roots in one cut). By AI agents, Wed Nov 11 2026. No macro, syntax, notation, axiom, sorry.
-/
import Derived.Test.YtkagkiepicepeaaChecked
import GoSem.Claim
import GoSem.ClaimJoined
import GoSem.ClaimMapViews
import Derived.JoinedTies
import Derived.KernelRfl
namespace Go.Proofs.Ytkagkiepicepeaa
/- THE CELL 'sum', in the pinned program and in every row, IS THE sha256 OF THE DUMP (.gsa) THAT YtkagkiepicepeaaProg.lean LOADS. Nothing in Lean hashes anything: it is a label: what it is worth is what the hold of that sum in a sandbox is worth. -/
noncomputable def Try.pinned : Pinned := { name := "ytkagkiepicepeaa", sum := "ec0af676cf141fa85a8420242936775afcd71b32adaf7251df0a925020e5a3ff", checked := Try.checked }
namespace Rows
def none {H : Type} : Left H := { results := [], args := [] }

/-- 'bordereaulaw27.FactPuts': WHATEVER THE INPUT: true; the input reads as it did. -/
def factPutsSpec : ChangeSpec := { name := "factPuts", fn := fun _ => fun
  | [d1, d2, d3] => { results := [.lit (.bool true)], args := [d1, d2, d3] }
  | _ => none }
def factPutsRow : OpenClaim := { program := "ytkagkiepicepeaa", sum := "ec0af676cf141fa85a8420242936775afcd71b32adaf7251df0a925020e5a3ff", func := "bordereau/bordereaulaw27.FactPuts", spec := "factPuts", unfollowed := true, recurses := true, apart := false }
def FactPutsSaid : Prop := factPutsRow.holds Try.pinned (OpenSpec.ofChange factPutsSpec)

/-- ITS FALSE NEIGHBOUR: 'it returns false'. Refute it at one input. -/
def factPutsWrong : ChangeSpec := { name := "factPuts", fn := fun _ => fun
  | [d1, d2, d3] => { results := [.lit (.bool false)], args := [d1, d2, d3] }
  | _ => none }
def FactPutsWrongFalsely : Prop := factPutsRow.holds Try.pinned (OpenSpec.ofChange factPutsWrong)

/-- 'bordereaulaw27.FactUpto': WHATEVER THE INPUT: true; the input reads as it did. -/
def factUptoSpec : ChangeSpec := { name := "factUpto", fn := fun _ => fun
  | [d1, d2] => { results := [.lit (.bool true)], args := [d1, d2] }
  | _ => none }
def factUptoRow : OpenClaim := { program := "ytkagkiepicepeaa", sum := "ec0af676cf141fa85a8420242936775afcd71b32adaf7251df0a925020e5a3ff", func := "bordereau/bordereaulaw27.FactUpto", spec := "factUpto", unfollowed := true, recurses := true, apart := false }
def FactUptoSaid : Prop := factUptoRow.holds Try.pinned (OpenSpec.ofChange factUptoSpec)

/-- ITS FALSE NEIGHBOUR: 'it returns false'. Refute it at one input. -/
def factUptoWrong : ChangeSpec := { name := "factUpto", fn := fun _ => fun
  | [d1, d2] => { results := [.lit (.bool false)], args := [d1, d2] }
  | _ => none }
def FactUptoWrongFalsely : Prop := factUptoRow.holds Try.pinned (OpenSpec.ofChange factUptoWrong)

/-- 'bordereaulaw27.FactBegins': WHATEVER THE INPUT: true; the input reads as it did. -/
def factBeginsSpec : ChangeSpec := { name := "factBegins", fn := fun _ => fun
  | [d1, d2] => { results := [.lit (.bool true)], args := [d1, d2] }
  | _ => none }
def factBeginsRow : OpenClaim := { program := "ytkagkiepicepeaa", sum := "ec0af676cf141fa85a8420242936775afcd71b32adaf7251df0a925020e5a3ff", func := "bordereau/bordereaulaw27.FactBegins", spec := "factBegins", unfollowed := true, recurses := true, apart := false }
def FactBeginsSaid : Prop := factBeginsRow.holds Try.pinned (OpenSpec.ofChange factBeginsSpec)

/-- ITS FALSE NEIGHBOUR: 'it returns false'. Refute it at one input. -/
def factBeginsWrong : ChangeSpec := { name := "factBegins", fn := fun _ => fun
  | [d1, d2] => { results := [.lit (.bool false)], args := [d1, d2] }
  | _ => none }
def FactBeginsWrongFalsely : Prop := factBeginsRow.holds Try.pinned (OpenSpec.ofChange factBeginsWrong)

/-- 'bordereaulaw27.FactNever': WHATEVER THE INPUT: true; the input reads as it did. -/
def factNeverSpec : ChangeSpec := { name := "factNever", fn := fun _ => fun
  | [d1, d2, d3] => { results := [.lit (.bool true)], args := [d1, d2, d3] }
  | _ => none }
def factNeverRow : OpenClaim := { program := "ytkagkiepicepeaa", sum := "ec0af676cf141fa85a8420242936775afcd71b32adaf7251df0a925020e5a3ff", func := "bordereau/bordereaulaw27.FactNever", spec := "factNever", unfollowed := true, recurses := true, apart := false }
def FactNeverSaid : Prop := factNeverRow.holds Try.pinned (OpenSpec.ofChange factNeverSpec)

/-- ITS FALSE NEIGHBOUR: 'it returns false'. Refute it at one input. -/
def factNeverWrong : ChangeSpec := { name := "factNever", fn := fun _ => fun
  | [d1, d2, d3] => { results := [.lit (.bool false)], args := [d1, d2, d3] }
  | _ => none }
def FactNeverWrongFalsely : Prop := factNeverRow.holds Try.pinned (OpenSpec.ofChange factNeverWrong)

/-- 'bordereaulaw27.FactClosed': WHATEVER THE INPUT: true; the input reads as it did. -/
def factClosedSpec : ChangeSpec := { name := "factClosed", fn := fun _ => fun
  | [d] => { results := [.lit (.bool true)], args := [d] }
  | _ => none }
def factClosedRow : OpenClaim := { program := "ytkagkiepicepeaa", sum := "ec0af676cf141fa85a8420242936775afcd71b32adaf7251df0a925020e5a3ff", func := "bordereau/bordereaulaw27.FactClosed", spec := "factClosed", unfollowed := true, recurses := true, apart := false }
def FactClosedSaid : Prop := factClosedRow.holds Try.pinned (OpenSpec.ofChange factClosedSpec)

/-- ITS FALSE NEIGHBOUR: 'it returns false'. Refute it at one input. -/
def factClosedWrong : ChangeSpec := { name := "factClosed", fn := fun _ => fun
  | [d] => { results := [.lit (.bool false)], args := [d] }
  | _ => none }
def FactClosedWrongFalsely : Prop := factClosedRow.holds Try.pinned (OpenSpec.ofChange factClosedWrong)

/-- 'bordereaulaw11.ChangeRight': WHATEVER THE INPUT: true; the input reads as it did. -/
def changeRightSpec : ChangeSpec := { name := "changeRight", fn := fun _ => fun
  | [d1, d2] => { results := [.lit (.bool true)], args := [d1, d2] }
  | _ => none }
def changeRightRow : OpenClaim := { program := "ytkagkiepicepeaa", sum := "ec0af676cf141fa85a8420242936775afcd71b32adaf7251df0a925020e5a3ff", func := "bordereau/bordereaulaw11.ChangeRight", spec := "changeRight", unfollowed := true, recurses := true, apart := false }
def ChangeRightSaid : Prop := changeRightRow.holds Try.pinned (OpenSpec.ofChange changeRightSpec)

/-- ITS FALSE NEIGHBOUR: 'it returns false'. Refute it at one input. -/
def changeRightWrong : ChangeSpec := { name := "changeRight", fn := fun _ => fun
  | [d1, d2] => { results := [.lit (.bool false)], args := [d1, d2] }
  | _ => none }
def ChangeRightWrongFalsely : Prop := changeRightRow.holds Try.pinned (OpenSpec.ofChange changeRightWrong)

/-- 'bordereaulaw11.ChangeBinds': WHATEVER THE INPUT: true; the input reads as it did. -/
def changeBindsSpec : ChangeSpec := { name := "changeBinds", fn := fun _ => fun
  | [d1, d2, d3] => { results := [.lit (.bool true)], args := [d1, d2, d3] }
  | _ => none }
def changeBindsRow : OpenClaim := { program := "ytkagkiepicepeaa", sum := "ec0af676cf141fa85a8420242936775afcd71b32adaf7251df0a925020e5a3ff", func := "bordereau/bordereaulaw11.ChangeBinds", spec := "changeBinds", unfollowed := true, recurses := true, apart := false }
def ChangeBindsSaid : Prop := changeBindsRow.holds Try.pinned (OpenSpec.ofChange changeBindsSpec)

/-- ITS FALSE NEIGHBOUR: 'it returns false'. Refute it at one input. -/
def changeBindsWrong : ChangeSpec := { name := "changeBinds", fn := fun _ => fun
  | [d1, d2, d3] => { results := [.lit (.bool false)], args := [d1, d2, d3] }
  | _ => none }
def ChangeBindsWrongFalsely : Prop := changeBindsRow.holds Try.pinned (OpenSpec.ofChange changeBindsWrong)

/-- 'bordereaulaw11.ChangePuts': WHATEVER THE INPUT: true; the input reads as it did. -/
def changePutsSpec : ChangeSpec := { name := "changePuts", fn := fun _ => fun
  | [d1, d2, d3] => { results := [.lit (.bool true)], args := [d1, d2, d3] }
  | _ => none }
def changePutsRow : OpenClaim := { program := "ytkagkiepicepeaa", sum := "ec0af676cf141fa85a8420242936775afcd71b32adaf7251df0a925020e5a3ff", func := "bordereau/bordereaulaw11.ChangePuts", spec := "changePuts", unfollowed := true, recurses := true, apart := false }
def ChangePutsSaid : Prop := changePutsRow.holds Try.pinned (OpenSpec.ofChange changePutsSpec)

/-- ITS FALSE NEIGHBOUR: 'it returns false'. Refute it at one input. -/
def changePutsWrong : ChangeSpec := { name := "changePuts", fn := fun _ => fun
  | [d1, d2, d3] => { results := [.lit (.bool false)], args := [d1, d2, d3] }
  | _ => none }
def ChangePutsWrongFalsely : Prop := changePutsRow.holds Try.pinned (OpenSpec.ofChange changePutsWrong)

/-- 'bordereaulaw11.ChangeMade': WHATEVER THE INPUT: true; the input reads as it did. -/
def changeMadeSpec : ChangeSpec := { name := "changeMade", fn := fun _ => fun
  | [d] => { results := [.lit (.bool true)], args := [d] }
  | _ => none }
def changeMadeRow : OpenClaim := { program := "ytkagkiepicepeaa", sum := "ec0af676cf141fa85a8420242936775afcd71b32adaf7251df0a925020e5a3ff", func := "bordereau/bordereaulaw11.ChangeMade", spec := "changeMade", unfollowed := true, recurses := true, apart := false }
def ChangeMadeSaid : Prop := changeMadeRow.holds Try.pinned (OpenSpec.ofChange changeMadeSpec)

/-- ITS FALSE NEIGHBOUR: 'it returns false'. Refute it at one input. -/
def changeMadeWrong : ChangeSpec := { name := "changeMade", fn := fun _ => fun
  | [d] => { results := [.lit (.bool false)], args := [d] }
  | _ => none }
def ChangeMadeWrongFalsely : Prop := changeMadeRow.holds Try.pinned (OpenSpec.ofChange changeMadeWrong)

/-- 'bordereaulaw11.ChangeOrder': WHATEVER THE INPUT: true; the input reads as it did. -/
def changeOrderSpec : ChangeSpec := { name := "changeOrder", fn := fun _ => fun
  | [d] => { results := [.lit (.bool true)], args := [d] }
  | _ => none }
def changeOrderRow : OpenClaim := { program := "ytkagkiepicepeaa", sum := "ec0af676cf141fa85a8420242936775afcd71b32adaf7251df0a925020e5a3ff", func := "bordereau/bordereaulaw11.ChangeOrder", spec := "changeOrder", unfollowed := true, recurses := true, apart := false }
def ChangeOrderSaid : Prop := changeOrderRow.holds Try.pinned (OpenSpec.ofChange changeOrderSpec)

/-- ITS FALSE NEIGHBOUR: 'it returns false'. Refute it at one input. -/
def changeOrderWrong : ChangeSpec := { name := "changeOrder", fn := fun _ => fun
  | [d] => { results := [.lit (.bool false)], args := [d] }
  | _ => none }
def ChangeOrderWrongFalsely : Prop := changeOrderRow.holds Try.pinned (OpenSpec.ofChange changeOrderWrong)

/-- 'bordereaulaw11.ChangeTurned': WHATEVER THE INPUT: true; the input reads as it did. -/
def changeTurnedSpec : ChangeSpec := { name := "changeTurned", fn := fun _ => fun
  | [d1, d2] => { results := [.lit (.bool true)], args := [d1, d2] }
  | _ => none }
def changeTurnedRow : OpenClaim := { program := "ytkagkiepicepeaa", sum := "ec0af676cf141fa85a8420242936775afcd71b32adaf7251df0a925020e5a3ff", func := "bordereau/bordereaulaw11.ChangeTurned", spec := "changeTurned", unfollowed := true, recurses := true, apart := false }
def ChangeTurnedSaid : Prop := changeTurnedRow.holds Try.pinned (OpenSpec.ofChange changeTurnedSpec)

/-- ITS FALSE NEIGHBOUR: 'it returns false'. Refute it at one input. -/
def changeTurnedWrong : ChangeSpec := { name := "changeTurned", fn := fun _ => fun
  | [d1, d2] => { results := [.lit (.bool false)], args := [d1, d2] }
  | _ => none }
def ChangeTurnedWrongFalsely : Prop := changeTurnedRow.holds Try.pinned (OpenSpec.ofChange changeTurnedWrong)

/-- 'bordereaulaw11.ChangeIn': WHATEVER THE INPUT: true; the input reads as it did. -/
def changeInSpec : ChangeSpec := { name := "changeIn", fn := fun _ => fun
  | [d] => { results := [.lit (.bool true)], args := [d] }
  | _ => none }
def changeInRow : OpenClaim := { program := "ytkagkiepicepeaa", sum := "ec0af676cf141fa85a8420242936775afcd71b32adaf7251df0a925020e5a3ff", func := "bordereau/bordereaulaw11.ChangeIn", spec := "changeIn", unfollowed := true, recurses := true, apart := false }
def ChangeInSaid : Prop := changeInRow.holds Try.pinned (OpenSpec.ofChange changeInSpec)

/-- ITS FALSE NEIGHBOUR: 'it returns false'. Refute it at one input. -/
def changeInWrong : ChangeSpec := { name := "changeIn", fn := fun _ => fun
  | [d] => { results := [.lit (.bool false)], args := [d] }
  | _ => none }
def ChangeInWrongFalsely : Prop := changeInRow.holds Try.pinned (OpenSpec.ofChange changeInWrong)

/- THE SECOND FORM. 'bulk': how many values and letters a reading holds, each counted each time it is reached (what is shared counts as often as it is met; a slice's spare places count too). A statement '..UptoSaid' is the law's where the arguments, and the package variables that the reading takes, are together of bulk at most 1048576: NARROWER than '..Said'. Prove '..Said' where nothing that the law and all that it calls make is longer than what came in: it says more and counts as full. Else prove '..UptoSaid'. A law counts once. -/
mutual
def uptoBulk {H : Type} : DataW H → Nat
  | .lit (.string bytes) => bytes.length + 1
  | .lit _ => 1
  | .nil => 1
  | .ptr d => uptoBulk d + 1
  | .slice elems spare => uptoBulkAll elems + uptoBulkAll spare + 1
  | .agg parts => uptoBulkAll parts + 1
  | .iface _ d => uptoBulk d + 1
  | .map entries => uptoBulkEntries entries + 1
  | .held _ => 1
def uptoBulkAll {H : Type} : List (DataW H) → Nat
  | [] => 0
  | d :: r => uptoBulk d + uptoBulkAll r
def uptoBulkEntries {H : Type} : List (Lit × DataW H) → Nat
  | [] => 0
  | x :: r => uptoBulkEntry x + uptoBulkEntries r
def uptoBulkEntry {H : Type} : Lit × DataW H → Nat
  | (.string bytes, d) => bytes.length + uptoBulk d + 1
  | (_, d) => uptoBulk d + 1
 end
def uptoSmall : (H : Type) → List (DataW H) → Bool := fun _ ds => decide (uptoBulkAll ds ≤ 1048576)
def OpenSpec.upto (s : _root_.Go.ChangeSpec) : _root_.Go.OpenSpec := { _root_.Go.OpenSpec.ofChange s with cond := some uptoSmall }

/-- 'bordereaulaw27.FactPuts', WHERE WHAT IT READS IS OF BULK AT MOST 1048576: true; the input reads as it did. -/
def factPutsUptoRow : OpenClaim := { program := "ytkagkiepicepeaa", sum := "ec0af676cf141fa85a8420242936775afcd71b32adaf7251df0a925020e5a3ff", func := "bordereau/bordereaulaw27.FactPuts", spec := "factPuts", unfollowed := true, recurses := true, apart := false, narrowed := true }
def FactPutsUptoSaid : Prop := factPutsUptoRow.holds Try.pinned (OpenSpec.upto factPutsSpec)

/-- 'bordereaulaw27.FactUpto', WHERE WHAT IT READS IS OF BULK AT MOST 1048576: true; the input reads as it did. -/
def factUptoUptoRow : OpenClaim := { program := "ytkagkiepicepeaa", sum := "ec0af676cf141fa85a8420242936775afcd71b32adaf7251df0a925020e5a3ff", func := "bordereau/bordereaulaw27.FactUpto", spec := "factUpto", unfollowed := true, recurses := true, apart := false, narrowed := true }
def FactUptoUptoSaid : Prop := factUptoUptoRow.holds Try.pinned (OpenSpec.upto factUptoSpec)

/-- 'bordereaulaw27.FactBegins', WHERE WHAT IT READS IS OF BULK AT MOST 1048576: true; the input reads as it did. -/
def factBeginsUptoRow : OpenClaim := { program := "ytkagkiepicepeaa", sum := "ec0af676cf141fa85a8420242936775afcd71b32adaf7251df0a925020e5a3ff", func := "bordereau/bordereaulaw27.FactBegins", spec := "factBegins", unfollowed := true, recurses := true, apart := false, narrowed := true }
def FactBeginsUptoSaid : Prop := factBeginsUptoRow.holds Try.pinned (OpenSpec.upto factBeginsSpec)

/-- 'bordereaulaw27.FactNever', WHERE WHAT IT READS IS OF BULK AT MOST 1048576: true; the input reads as it did. -/
def factNeverUptoRow : OpenClaim := { program := "ytkagkiepicepeaa", sum := "ec0af676cf141fa85a8420242936775afcd71b32adaf7251df0a925020e5a3ff", func := "bordereau/bordereaulaw27.FactNever", spec := "factNever", unfollowed := true, recurses := true, apart := false, narrowed := true }
def FactNeverUptoSaid : Prop := factNeverUptoRow.holds Try.pinned (OpenSpec.upto factNeverSpec)

/-- 'bordereaulaw27.FactClosed', WHERE WHAT IT READS IS OF BULK AT MOST 1048576: true; the input reads as it did. -/
def factClosedUptoRow : OpenClaim := { program := "ytkagkiepicepeaa", sum := "ec0af676cf141fa85a8420242936775afcd71b32adaf7251df0a925020e5a3ff", func := "bordereau/bordereaulaw27.FactClosed", spec := "factClosed", unfollowed := true, recurses := true, apart := false, narrowed := true }
def FactClosedUptoSaid : Prop := factClosedUptoRow.holds Try.pinned (OpenSpec.upto factClosedSpec)

/-- 'bordereaulaw11.ChangeRight', WHERE WHAT IT READS IS OF BULK AT MOST 1048576: true; the input reads as it did. -/
def changeRightUptoRow : OpenClaim := { program := "ytkagkiepicepeaa", sum := "ec0af676cf141fa85a8420242936775afcd71b32adaf7251df0a925020e5a3ff", func := "bordereau/bordereaulaw11.ChangeRight", spec := "changeRight", unfollowed := true, recurses := true, apart := false, narrowed := true }
def ChangeRightUptoSaid : Prop := changeRightUptoRow.holds Try.pinned (OpenSpec.upto changeRightSpec)

/-- 'bordereaulaw11.ChangeBinds', WHERE WHAT IT READS IS OF BULK AT MOST 1048576: true; the input reads as it did. -/
def changeBindsUptoRow : OpenClaim := { program := "ytkagkiepicepeaa", sum := "ec0af676cf141fa85a8420242936775afcd71b32adaf7251df0a925020e5a3ff", func := "bordereau/bordereaulaw11.ChangeBinds", spec := "changeBinds", unfollowed := true, recurses := true, apart := false, narrowed := true }
def ChangeBindsUptoSaid : Prop := changeBindsUptoRow.holds Try.pinned (OpenSpec.upto changeBindsSpec)

/-- 'bordereaulaw11.ChangePuts', WHERE WHAT IT READS IS OF BULK AT MOST 1048576: true; the input reads as it did. -/
def changePutsUptoRow : OpenClaim := { program := "ytkagkiepicepeaa", sum := "ec0af676cf141fa85a8420242936775afcd71b32adaf7251df0a925020e5a3ff", func := "bordereau/bordereaulaw11.ChangePuts", spec := "changePuts", unfollowed := true, recurses := true, apart := false, narrowed := true }
def ChangePutsUptoSaid : Prop := changePutsUptoRow.holds Try.pinned (OpenSpec.upto changePutsSpec)

/-- 'bordereaulaw11.ChangeMade', WHERE WHAT IT READS IS OF BULK AT MOST 1048576: true; the input reads as it did. -/
def changeMadeUptoRow : OpenClaim := { program := "ytkagkiepicepeaa", sum := "ec0af676cf141fa85a8420242936775afcd71b32adaf7251df0a925020e5a3ff", func := "bordereau/bordereaulaw11.ChangeMade", spec := "changeMade", unfollowed := true, recurses := true, apart := false, narrowed := true }
def ChangeMadeUptoSaid : Prop := changeMadeUptoRow.holds Try.pinned (OpenSpec.upto changeMadeSpec)

/-- 'bordereaulaw11.ChangeOrder', WHERE WHAT IT READS IS OF BULK AT MOST 1048576: true; the input reads as it did. -/
def changeOrderUptoRow : OpenClaim := { program := "ytkagkiepicepeaa", sum := "ec0af676cf141fa85a8420242936775afcd71b32adaf7251df0a925020e5a3ff", func := "bordereau/bordereaulaw11.ChangeOrder", spec := "changeOrder", unfollowed := true, recurses := true, apart := false, narrowed := true }
def ChangeOrderUptoSaid : Prop := changeOrderUptoRow.holds Try.pinned (OpenSpec.upto changeOrderSpec)

/-- 'bordereaulaw11.ChangeTurned', WHERE WHAT IT READS IS OF BULK AT MOST 1048576: true; the input reads as it did. -/
def changeTurnedUptoRow : OpenClaim := { program := "ytkagkiepicepeaa", sum := "ec0af676cf141fa85a8420242936775afcd71b32adaf7251df0a925020e5a3ff", func := "bordereau/bordereaulaw11.ChangeTurned", spec := "changeTurned", unfollowed := true, recurses := true, apart := false, narrowed := true }
def ChangeTurnedUptoSaid : Prop := changeTurnedUptoRow.holds Try.pinned (OpenSpec.upto changeTurnedSpec)

/-- 'bordereaulaw11.ChangeIn', WHERE WHAT IT READS IS OF BULK AT MOST 1048576: true; the input reads as it did. -/
def changeInUptoRow : OpenClaim := { program := "ytkagkiepicepeaa", sum := "ec0af676cf141fa85a8420242936775afcd71b32adaf7251df0a925020e5a3ff", func := "bordereau/bordereaulaw11.ChangeIn", spec := "changeIn", unfollowed := true, recurses := true, apart := false, narrowed := true }
def ChangeInUptoSaid : Prop := changeInUptoRow.holds Try.pinned (OpenSpec.upto changeInSpec)

end Rows
end Go.Proofs.Ytkagkiepicepeaa
