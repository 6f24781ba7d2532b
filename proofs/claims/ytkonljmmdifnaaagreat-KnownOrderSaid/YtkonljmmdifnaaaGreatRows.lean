/-
  No cell of these rows narrows 'for every input' (looked for: loops, veiled, ifaces, maps, wideKeys, modest, calm, conditions, laid).
  DERIVED. THE GIVEN ROWS OF THIS SEAT. 7 by the template 'for every input the law returns true; each argument reads behind the call as it read before'; 0 by the template 'total and deterministic' (their statements: YtkonljmmdifnaaaGreatTotals.lean).
  GIVEN WITH THE SEED: the statements are not yours to turn. If you find one false, say at which input.
  Laid BY PROGRAM, IN A SANDBOX (cutbox-rows.mjs): the forced cells as the released guide's own fill.sh prints them over the translation cb0ddbc5234b6259… (all of the seat's roots in one cut). By AI agents, Wed Nov 11 2026. No macro, syntax, notation, axiom, sorry.
-/
import Derived.Test.YtkonljmmdifnaaaGreatChecked
import GoSem.Claim
import GoSem.ClaimJoined
import GoSem.ClaimMapViews
import Derived.JoinedTies
import Derived.KernelRfl
namespace Go.Proofs.YtkonljmmdifnaaaGreat
/- THE CELL 'sum', in the pinned program and in every row, IS THE sha256 OF THE DUMP (.gsa) THAT YtkonljmmdifnaaaGreatProg.lean LOADS. Nothing in Lean hashes anything: it is a label: what it is worth is what the hold of that sum in a sandbox is worth. -/
noncomputable def Tryz.pinned : Pinned := { name := "ytkonljmmdifnaaagreat", sum := "cb0ddbc5234b62598f6f4409473f95722e8cbeca437bbc34b778c27fd1b8182c", checked := Tryz.checked }
namespace Rows
def none {H : Type} : Left H := { results := [], args := [] }

/-- 'bordereaulaw13.KnownSlices': WHATEVER THE INPUT: true; the input reads as it did. -/
def knownSlicesSpec : ChangeSpec := { name := "knownSlices", fn := fun _ => fun
  | [d1, d2, d3] => { results := [.lit (.bool true)], args := [d1, d2, d3] }
  | _ => none }
def knownSlicesRow : OpenClaim := { program := "ytkonljmmdifnaaagreat", sum := "cb0ddbc5234b62598f6f4409473f95722e8cbeca437bbc34b778c27fd1b8182c", func := "bordereau/bordereaulaw13.KnownSlices", spec := "knownSlices", unfollowed := true, recurses := true, named := ["math/bits.divideError", "math/bits.overflowError"], apart := false }
def KnownSlicesSaid : Prop := knownSlicesRow.holds Tryz.pinned (OpenSpec.ofChange knownSlicesSpec)

/-- ITS FALSE NEIGHBOUR: 'it returns false'. Refute it at one input. -/
def knownSlicesWrong : ChangeSpec := { name := "knownSlices", fn := fun _ => fun
  | [d1, d2, d3] => { results := [.lit (.bool false)], args := [d1, d2, d3] }
  | _ => none }
def KnownSlicesWrongFalsely : Prop := knownSlicesRow.holds Tryz.pinned (OpenSpec.ofChange knownSlicesWrong)

/-- 'bordereaulaw13.KnownMoved': WHATEVER THE INPUT: true; the input reads as it did. -/
def knownMovedSpec : ChangeSpec := { name := "knownMoved", fn := fun _ => fun
  | [d1, d2, d3] => { results := [.lit (.bool true)], args := [d1, d2, d3] }
  | _ => none }
def knownMovedRow : OpenClaim := { program := "ytkonljmmdifnaaagreat", sum := "cb0ddbc5234b62598f6f4409473f95722e8cbeca437bbc34b778c27fd1b8182c", func := "bordereau/bordereaulaw13.KnownMoved", spec := "knownMoved", unfollowed := true, recurses := true, named := ["math/bits.divideError", "math/bits.overflowError"], apart := false }
def KnownMovedSaid : Prop := knownMovedRow.holds Tryz.pinned (OpenSpec.ofChange knownMovedSpec)

/-- ITS FALSE NEIGHBOUR: 'it returns false'. Refute it at one input. -/
def knownMovedWrong : ChangeSpec := { name := "knownMoved", fn := fun _ => fun
  | [d1, d2, d3] => { results := [.lit (.bool false)], args := [d1, d2, d3] }
  | _ => none }
def KnownMovedWrongFalsely : Prop := knownMovedRow.holds Tryz.pinned (OpenSpec.ofChange knownMovedWrong)

/-- 'bordereaulaw13.KnownDays': WHATEVER THE INPUT: true; the input reads as it did. -/
def knownDaysSpec : ChangeSpec := { name := "knownDays", fn := fun _ => fun
  | [d1, d2, d3] => { results := [.lit (.bool true)], args := [d1, d2, d3] }
  | _ => none }
def knownDaysRow : OpenClaim := { program := "ytkonljmmdifnaaagreat", sum := "cb0ddbc5234b62598f6f4409473f95722e8cbeca437bbc34b778c27fd1b8182c", func := "bordereau/bordereaulaw13.KnownDays", spec := "knownDays", unfollowed := true, recurses := true, named := ["math/bits.divideError", "math/bits.overflowError"], apart := false }
def KnownDaysSaid : Prop := knownDaysRow.holds Tryz.pinned (OpenSpec.ofChange knownDaysSpec)

/-- ITS FALSE NEIGHBOUR: 'it returns false'. Refute it at one input. -/
def knownDaysWrong : ChangeSpec := { name := "knownDays", fn := fun _ => fun
  | [d1, d2, d3] => { results := [.lit (.bool false)], args := [d1, d2, d3] }
  | _ => none }
def KnownDaysWrongFalsely : Prop := knownDaysRow.holds Tryz.pinned (OpenSpec.ofChange knownDaysWrong)

/-- 'bordereaulaw13.KnownFrom': WHATEVER THE INPUT: true; the input reads as it did. -/
def knownFromSpec : ChangeSpec := { name := "knownFrom", fn := fun _ => fun
  | [d1, d2, d3] => { results := [.lit (.bool true)], args := [d1, d2, d3] }
  | _ => none }
def knownFromRow : OpenClaim := { program := "ytkonljmmdifnaaagreat", sum := "cb0ddbc5234b62598f6f4409473f95722e8cbeca437bbc34b778c27fd1b8182c", func := "bordereau/bordereaulaw13.KnownFrom", spec := "knownFrom", unfollowed := true, recurses := true, named := ["math/bits.divideError", "math/bits.overflowError"], apart := false }
def KnownFromSaid : Prop := knownFromRow.holds Tryz.pinned (OpenSpec.ofChange knownFromSpec)

/-- ITS FALSE NEIGHBOUR: 'it returns false'. Refute it at one input. -/
def knownFromWrong : ChangeSpec := { name := "knownFrom", fn := fun _ => fun
  | [d1, d2, d3] => { results := [.lit (.bool false)], args := [d1, d2, d3] }
  | _ => none }
def KnownFromWrongFalsely : Prop := knownFromRow.holds Tryz.pinned (OpenSpec.ofChange knownFromWrong)

/-- 'bordereaulaw13.KnownBack': WHATEVER THE INPUT: true; the input reads as it did. -/
def knownBackSpec : ChangeSpec := { name := "knownBack", fn := fun _ => fun
  | [d1, d2, d3] => { results := [.lit (.bool true)], args := [d1, d2, d3] }
  | _ => none }
def knownBackRow : OpenClaim := { program := "ytkonljmmdifnaaagreat", sum := "cb0ddbc5234b62598f6f4409473f95722e8cbeca437bbc34b778c27fd1b8182c", func := "bordereau/bordereaulaw13.KnownBack", spec := "knownBack", unfollowed := true, recurses := true, named := ["math/bits.divideError", "math/bits.overflowError"], apart := false }
def KnownBackSaid : Prop := knownBackRow.holds Tryz.pinned (OpenSpec.ofChange knownBackSpec)

/-- ITS FALSE NEIGHBOUR: 'it returns false'. Refute it at one input. -/
def knownBackWrong : ChangeSpec := { name := "knownBack", fn := fun _ => fun
  | [d1, d2, d3] => { results := [.lit (.bool false)], args := [d1, d2, d3] }
  | _ => none }
def KnownBackWrongFalsely : Prop := knownBackRow.holds Tryz.pinned (OpenSpec.ofChange knownBackWrong)

/-- 'bordereaulaw13.KnownOrder': WHATEVER THE INPUT: true; the input reads as it did. -/
def knownOrderSpec : ChangeSpec := { name := "knownOrder", fn := fun _ => fun
  | [d1, d2, d3] => { results := [.lit (.bool true)], args := [d1, d2, d3] }
  | _ => none }
def knownOrderRow : OpenClaim := { program := "ytkonljmmdifnaaagreat", sum := "cb0ddbc5234b62598f6f4409473f95722e8cbeca437bbc34b778c27fd1b8182c", func := "bordereau/bordereaulaw13.KnownOrder", spec := "knownOrder", unfollowed := true, recurses := true, named := ["math/bits.divideError", "math/bits.overflowError"], apart := false }
def KnownOrderSaid : Prop := knownOrderRow.holds Tryz.pinned (OpenSpec.ofChange knownOrderSpec)

/-- ITS FALSE NEIGHBOUR: 'it returns false'. Refute it at one input. -/
def knownOrderWrong : ChangeSpec := { name := "knownOrder", fn := fun _ => fun
  | [d1, d2, d3] => { results := [.lit (.bool false)], args := [d1, d2, d3] }
  | _ => none }
def KnownOrderWrongFalsely : Prop := knownOrderRow.holds Tryz.pinned (OpenSpec.ofChange knownOrderWrong)

/-- 'bordereaulaw13.KnownNever': WHATEVER THE INPUT: true; the input reads as it did. -/
def knownNeverSpec : ChangeSpec := { name := "knownNever", fn := fun _ => fun
  | [d1, d2, d3] => { results := [.lit (.bool true)], args := [d1, d2, d3] }
  | _ => none }
def knownNeverRow : OpenClaim := { program := "ytkonljmmdifnaaagreat", sum := "cb0ddbc5234b62598f6f4409473f95722e8cbeca437bbc34b778c27fd1b8182c", func := "bordereau/bordereaulaw13.KnownNever", spec := "knownNever", unfollowed := true, recurses := true, named := ["math/bits.divideError", "math/bits.overflowError"], apart := false }
def KnownNeverSaid : Prop := knownNeverRow.holds Tryz.pinned (OpenSpec.ofChange knownNeverSpec)

/-- ITS FALSE NEIGHBOUR: 'it returns false'. Refute it at one input. -/
def knownNeverWrong : ChangeSpec := { name := "knownNever", fn := fun _ => fun
  | [d1, d2, d3] => { results := [.lit (.bool false)], args := [d1, d2, d3] }
  | _ => none }
def KnownNeverWrongFalsely : Prop := knownNeverRow.holds Tryz.pinned (OpenSpec.ofChange knownNeverWrong)

/- THE SECOND FORM. 'bulk': how many values and letters a reading holds, each counted each time it is reached (what is shared counts as often as it is met; a slice's spare places count too). A statement '..UptoSaid' is the law's where the arguments, and the package variables that the reading takes, are together of bulk at most 1048576: NARROWER than '..Said'. Prove '..Said' where nothing that the law and all that it calls make is longer than what came in: it says more and counts as full. Else prove '..UptoSaid'. A law counts once. -/
mutual
def uptoBulk {H : Type} : DataW H → Nat
  | .lit (.string bytes) => bytes.length + 1
  | .lit _ => 1
  | .nil => 1
  | .ptr d => uptoBulk d + 1
  | .slice elems spare => uptoBulkAll elems + uptoBulkAll spare + 1
  | .agg parts => uptoBulkAll parts + 1
  | .iface _ d => uptoBulk d + 1
  | .map entries => uptoBulkEntries entries + 1
  | .held _ => 1
def uptoBulkAll {H : Type} : List (DataW H) → Nat
  | [] => 0
  | d :: r => uptoBulk d + uptoBulkAll r
def uptoBulkEntries {H : Type} : List (Lit × DataW H) → Nat
  | [] => 0
  | x :: r => uptoBulkEntry x + uptoBulkEntries r
def uptoBulkEntry {H : Type} : Lit × DataW H → Nat
  | (.string bytes, d) => bytes.length + uptoBulk d + 1
  | (_, d) => uptoBulk d + 1
 end
def uptoSmall : (H : Type) → List (DataW H) → Bool := fun _ ds => decide (uptoBulkAll ds ≤ 1048576)
def OpenSpec.upto (s : _root_.Go.ChangeSpec) : _root_.Go.OpenSpec := { _root_.Go.OpenSpec.ofChange s with cond := some uptoSmall }

/-- 'bordereaulaw13.KnownSlices', WHERE WHAT IT READS IS OF BULK AT MOST 1048576: true; the input reads as it did. -/
def knownSlicesUptoRow : OpenClaim := { program := "ytkonljmmdifnaaagreat", sum := "cb0ddbc5234b62598f6f4409473f95722e8cbeca437bbc34b778c27fd1b8182c", func := "bordereau/bordereaulaw13.KnownSlices", spec := "knownSlices", unfollowed := true, recurses := true, named := ["math/bits.divideError", "math/bits.overflowError"], apart := false, narrowed := true }
def KnownSlicesUptoSaid : Prop := knownSlicesUptoRow.holds Tryz.pinned (OpenSpec.upto knownSlicesSpec)

/-- 'bordereaulaw13.KnownMoved', WHERE WHAT IT READS IS OF BULK AT MOST 1048576: true; the input reads as it did. -/
def knownMovedUptoRow : OpenClaim := { program := "ytkonljmmdifnaaagreat", sum := "cb0ddbc5234b62598f6f4409473f95722e8cbeca437bbc34b778c27fd1b8182c", func := "bordereau/bordereaulaw13.KnownMoved", spec := "knownMoved", unfollowed := true, recurses := true, named := ["math/bits.divideError", "math/bits.overflowError"], apart := false, narrowed := true }
def KnownMovedUptoSaid : Prop := knownMovedUptoRow.holds Tryz.pinned (OpenSpec.upto knownMovedSpec)

/-- 'bordereaulaw13.KnownDays', WHERE WHAT IT READS IS OF BULK AT MOST 1048576: true; the input reads as it did. -/
def knownDaysUptoRow : OpenClaim := { program := "ytkonljmmdifnaaagreat", sum := "cb0ddbc5234b62598f6f4409473f95722e8cbeca437bbc34b778c27fd1b8182c", func := "bordereau/bordereaulaw13.KnownDays", spec := "knownDays", unfollowed := true, recurses := true, named := ["math/bits.divideError", "math/bits.overflowError"], apart := false, narrowed := true }
def KnownDaysUptoSaid : Prop := knownDaysUptoRow.holds Tryz.pinned (OpenSpec.upto knownDaysSpec)

/-- 'bordereaulaw13.KnownFrom', WHERE WHAT IT READS IS OF BULK AT MOST 1048576: true; the input reads as it did. -/
def knownFromUptoRow : OpenClaim := { program := "ytkonljmmdifnaaagreat", sum := "cb0ddbc5234b62598f6f4409473f95722e8cbeca437bbc34b778c27fd1b8182c", func := "bordereau/bordereaulaw13.KnownFrom", spec := "knownFrom", unfollowed := true, recurses := true, named := ["math/bits.divideError", "math/bits.overflowError"], apart := false, narrowed := true }
def KnownFromUptoSaid : Prop := knownFromUptoRow.holds Tryz.pinned (OpenSpec.upto knownFromSpec)

/-- 'bordereaulaw13.KnownBack', WHERE WHAT IT READS IS OF BULK AT MOST 1048576: true; the input reads as it did. -/
def knownBackUptoRow : OpenClaim := { program := "ytkonljmmdifnaaagreat", sum := "cb0ddbc5234b62598f6f4409473f95722e8cbeca437bbc34b778c27fd1b8182c", func := "bordereau/bordereaulaw13.KnownBack", spec := "knownBack", unfollowed := true, recurses := true, named := ["math/bits.divideError", "math/bits.overflowError"], apart := false, narrowed := true }
def KnownBackUptoSaid : Prop := knownBackUptoRow.holds Tryz.pinned (OpenSpec.upto knownBackSpec)

/-- 'bordereaulaw13.KnownOrder', WHERE WHAT IT READS IS OF BULK AT MOST 1048576: true; the input reads as it did. -/
def knownOrderUptoRow : OpenClaim := { program := "ytkonljmmdifnaaagreat", sum := "cb0ddbc5234b62598f6f4409473f95722e8cbeca437bbc34b778c27fd1b8182c", func := "bordereau/bordereaulaw13.KnownOrder", spec := "knownOrder", unfollowed := true, recurses := true, named := ["math/bits.divideError", "math/bits.overflowError"], apart := false, narrowed := true }
def KnownOrderUptoSaid : Prop := knownOrderUptoRow.holds Tryz.pinned (OpenSpec.upto knownOrderSpec)

/-- 'bordereaulaw13.KnownNever', WHERE WHAT IT READS IS OF BULK AT MOST 1048576: true; the input reads as it did. -/
def knownNeverUptoRow : OpenClaim := { program := "ytkonljmmdifnaaagreat", sum := "cb0ddbc5234b62598f6f4409473f95722e8cbeca437bbc34b778c27fd1b8182c", func := "bordereau/bordereaulaw13.KnownNever", spec := "knownNever", unfollowed := true, recurses := true, named := ["math/bits.divideError", "math/bits.overflowError"], apart := false, narrowed := true }
def KnownNeverUptoSaid : Prop := knownNeverUptoRow.holds Tryz.pinned (OpenSpec.upto knownNeverSpec)

end Rows
end Go.Proofs.YtkonljmmdifnaaaGreat
