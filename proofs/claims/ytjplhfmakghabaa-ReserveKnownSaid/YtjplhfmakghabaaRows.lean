/-
  No cell of these rows narrows 'for every input' (looked for: loops, veiled, ifaces, maps, wideKeys, modest, calm, conditions, laid).
  DERIVED. THE GIVEN ROWS OF THIS SEAT. 12 by the template 'for every input the law returns true; each argument reads behind the call as it read before'; 0 by the template 'total and deterministic' (their statements: YtjplhfmakghabaaTotals.lean).
  GIVEN WITH THE SEED: the statements are not yours to turn. If you find one false, say at which input.
  Laid BY PROGRAM, IN A SANDBOX (cutbox-rows.mjs): the forced cells as the released guide's own fill.sh prints them over the translation 1ad68906d7141901… (all of the seat's roots in one cut). By AI agents, Wed Nov 11 2026. No macro, syntax, notation, axiom, sorry.
-/
import Derived.Test.YtjplhfmakghabaaChecked
import GoSem.Claim
import GoSem.ClaimJoined
import GoSem.ClaimMapViews
import Derived.JoinedTies
import Derived.KernelRfl
namespace Go.Proofs.Ytjplhfmakghabaa
/- THE CELL 'sum', in the pinned program and in every row, IS THE sha256 OF THE DUMP (.gsa) THAT YtjplhfmakghabaaProg.lean LOADS. Nothing in Lean hashes anything: it is a label: what it is worth is what the hold of that sum in a sandbox is worth. -/
noncomputable def Try.pinned : Pinned := { name := "ytjplhfmakghabaa", sum := "1ad68906d71419018c9e0dac9379b14670f338d3d400de08df4cf164910273d0", checked := Try.checked }
namespace Rows
def none {H : Type} : Left H := { results := [], args := [] }

/-- 'bordereaulaw19.AdjustPaid': WHATEVER THE INPUT: true; the input reads as it did. -/
def adjustPaidSpec : ChangeSpec := { name := "adjustPaid", fn := fun _ => fun
  | [d1, d2] => { results := [.lit (.bool true)], args := [d1, d2] }
  | _ => none }
def adjustPaidRow : OpenClaim := { program := "ytjplhfmakghabaa", sum := "1ad68906d71419018c9e0dac9379b14670f338d3d400de08df4cf164910273d0", func := "bordereau/bordereaulaw19.AdjustPaid", spec := "adjustPaid", unfollowed := true, recurses := true, named := ["math/bits.divideError", "math/bits.overflowError"], apart := false }
def AdjustPaidSaid : Prop := adjustPaidRow.holds Try.pinned (OpenSpec.ofChange adjustPaidSpec)

/-- ITS FALSE NEIGHBOUR: 'it returns false'. Refute it at one input. -/
def adjustPaidWrong : ChangeSpec := { name := "adjustPaid", fn := fun _ => fun
  | [d1, d2] => { results := [.lit (.bool false)], args := [d1, d2] }
  | _ => none }
def AdjustPaidWrongFalsely : Prop := adjustPaidRow.holds Try.pinned (OpenSpec.ofChange adjustPaidWrong)

/-- 'bordereaulaw19.AdjustOf': WHATEVER THE INPUT: true; the input reads as it did. -/
def adjustOfSpec : ChangeSpec := { name := "adjustOf", fn := fun _ => fun
  | [d1, d2] => { results := [.lit (.bool true)], args := [d1, d2] }
  | _ => none }
def adjustOfRow : OpenClaim := { program := "ytjplhfmakghabaa", sum := "1ad68906d71419018c9e0dac9379b14670f338d3d400de08df4cf164910273d0", func := "bordereau/bordereaulaw19.AdjustOf", spec := "adjustOf", unfollowed := true, recurses := true, named := ["math/bits.divideError", "math/bits.overflowError"], apart := false }
def AdjustOfSaid : Prop := adjustOfRow.holds Try.pinned (OpenSpec.ofChange adjustOfSpec)

/-- ITS FALSE NEIGHBOUR: 'it returns false'. Refute it at one input. -/
def adjustOfWrong : ChangeSpec := { name := "adjustOf", fn := fun _ => fun
  | [d1, d2] => { results := [.lit (.bool false)], args := [d1, d2] }
  | _ => none }
def AdjustOfWrongFalsely : Prop := adjustOfRow.holds Try.pinned (OpenSpec.ofChange adjustOfWrong)

/-- 'bordereaulaw19.AdjustMost': WHATEVER THE INPUT: true; the input reads as it did. -/
def adjustMostSpec : ChangeSpec := { name := "adjustMost", fn := fun _ => fun
  | [d1, d2] => { results := [.lit (.bool true)], args := [d1, d2] }
  | _ => none }
def adjustMostRow : OpenClaim := { program := "ytjplhfmakghabaa", sum := "1ad68906d71419018c9e0dac9379b14670f338d3d400de08df4cf164910273d0", func := "bordereau/bordereaulaw19.AdjustMost", spec := "adjustMost", unfollowed := true, recurses := true, named := ["math/bits.divideError", "math/bits.overflowError"], apart := false }
def AdjustMostSaid : Prop := adjustMostRow.holds Try.pinned (OpenSpec.ofChange adjustMostSpec)

/-- ITS FALSE NEIGHBOUR: 'it returns false'. Refute it at one input. -/
def adjustMostWrong : ChangeSpec := { name := "adjustMost", fn := fun _ => fun
  | [d1, d2] => { results := [.lit (.bool false)], args := [d1, d2] }
  | _ => none }
def AdjustMostWrongFalsely : Prop := adjustMostRow.holds Try.pinned (OpenSpec.ofChange adjustMostWrong)

/-- 'bordereaulaw19.AdjustOne': WHATEVER THE INPUT: true; the input reads as it did. -/
def adjustOneSpec : ChangeSpec := { name := "adjustOne", fn := fun _ => fun
  | [d1, d2] => { results := [.lit (.bool true)], args := [d1, d2] }
  | _ => none }
def adjustOneRow : OpenClaim := { program := "ytjplhfmakghabaa", sum := "1ad68906d71419018c9e0dac9379b14670f338d3d400de08df4cf164910273d0", func := "bordereau/bordereaulaw19.AdjustOne", spec := "adjustOne", unfollowed := true, recurses := true, named := ["math/bits.divideError", "math/bits.overflowError"], apart := false }
def AdjustOneSaid : Prop := adjustOneRow.holds Try.pinned (OpenSpec.ofChange adjustOneSpec)

/-- ITS FALSE NEIGHBOUR: 'it returns false'. Refute it at one input. -/
def adjustOneWrong : ChangeSpec := { name := "adjustOne", fn := fun _ => fun
  | [d1, d2] => { results := [.lit (.bool false)], args := [d1, d2] }
  | _ => none }
def AdjustOneWrongFalsely : Prop := adjustOneRow.holds Try.pinned (OpenSpec.ofChange adjustOneWrong)

/-- 'bordereaulaw19.AdjustSums': WHATEVER THE INPUT: true; the input reads as it did. -/
def adjustSumsSpec : ChangeSpec := { name := "adjustSums", fn := fun _ => fun
  | [d1, d2] => { results := [.lit (.bool true)], args := [d1, d2] }
  | _ => none }
def adjustSumsRow : OpenClaim := { program := "ytjplhfmakghabaa", sum := "1ad68906d71419018c9e0dac9379b14670f338d3d400de08df4cf164910273d0", func := "bordereau/bordereaulaw19.AdjustSums", spec := "adjustSums", unfollowed := true, recurses := true, named := ["math/bits.divideError", "math/bits.overflowError"], apart := false }
def AdjustSumsSaid : Prop := adjustSumsRow.holds Try.pinned (OpenSpec.ofChange adjustSumsSpec)

/-- ITS FALSE NEIGHBOUR: 'it returns false'. Refute it at one input. -/
def adjustSumsWrong : ChangeSpec := { name := "adjustSums", fn := fun _ => fun
  | [d1, d2] => { results := [.lit (.bool false)], args := [d1, d2] }
  | _ => none }
def AdjustSumsWrongFalsely : Prop := adjustSumsRow.holds Try.pinned (OpenSpec.ofChange adjustSumsWrong)

/-- 'bordereaulaw19.AdjustMore': WHATEVER THE INPUT: true; the input reads as it did. -/
def adjustMoreSpec : ChangeSpec := { name := "adjustMore", fn := fun _ => fun
  | [d1, d2, d3] => { results := [.lit (.bool true)], args := [d1, d2, d3] }
  | _ => none }
def adjustMoreRow : OpenClaim := { program := "ytjplhfmakghabaa", sum := "1ad68906d71419018c9e0dac9379b14670f338d3d400de08df4cf164910273d0", func := "bordereau/bordereaulaw19.AdjustMore", spec := "adjustMore", unfollowed := true, recurses := true, named := ["math/bits.divideError", "math/bits.overflowError"], apart := false }
def AdjustMoreSaid : Prop := adjustMoreRow.holds Try.pinned (OpenSpec.ofChange adjustMoreSpec)

/-- ITS FALSE NEIGHBOUR: 'it returns false'. Refute it at one input. -/
def adjustMoreWrong : ChangeSpec := { name := "adjustMore", fn := fun _ => fun
  | [d1, d2, d3] => { results := [.lit (.bool false)], args := [d1, d2, d3] }
  | _ => none }
def AdjustMoreWrongFalsely : Prop := adjustMoreRow.holds Try.pinned (OpenSpec.ofChange adjustMoreWrong)

/-- 'bordereaulaw19.AdjustKnown': WHATEVER THE INPUT: true; the input reads as it did. -/
def adjustKnownSpec : ChangeSpec := { name := "adjustKnown", fn := fun _ => fun
  | [d1, d2, d3] => { results := [.lit (.bool true)], args := [d1, d2, d3] }
  | _ => none }
def adjustKnownRow : OpenClaim := { program := "ytjplhfmakghabaa", sum := "1ad68906d71419018c9e0dac9379b14670f338d3d400de08df4cf164910273d0", func := "bordereau/bordereaulaw19.AdjustKnown", spec := "adjustKnown", unfollowed := true, recurses := true, named := ["math/bits.divideError", "math/bits.overflowError"], apart := false }
def AdjustKnownSaid : Prop := adjustKnownRow.holds Try.pinned (OpenSpec.ofChange adjustKnownSpec)

/-- ITS FALSE NEIGHBOUR: 'it returns false'. Refute it at one input. -/
def adjustKnownWrong : ChangeSpec := { name := "adjustKnown", fn := fun _ => fun
  | [d1, d2, d3] => { results := [.lit (.bool false)], args := [d1, d2, d3] }
  | _ => none }
def AdjustKnownWrongFalsely : Prop := adjustKnownRow.holds Try.pinned (OpenSpec.ofChange adjustKnownWrong)

/-- 'bordereaulaw20.ReserveTells': WHATEVER THE INPUT: true; the input reads as it did. -/
def reserveTellsSpec : ChangeSpec := { name := "reserveTells", fn := fun _ => fun
  | [d1, d2, d3] => { results := [.lit (.bool true)], args := [d1, d2, d3] }
  | _ => none }
def reserveTellsRow : OpenClaim := { program := "ytjplhfmakghabaa", sum := "1ad68906d71419018c9e0dac9379b14670f338d3d400de08df4cf164910273d0", func := "bordereau/bordereaulaw20.ReserveTells", spec := "reserveTells", unfollowed := true, recurses := true, named := ["math/bits.divideError", "math/bits.overflowError"], apart := false }
def ReserveTellsSaid : Prop := reserveTellsRow.holds Try.pinned (OpenSpec.ofChange reserveTellsSpec)

/-- ITS FALSE NEIGHBOUR: 'it returns false'. Refute it at one input. -/
def reserveTellsWrong : ChangeSpec := { name := "reserveTells", fn := fun _ => fun
  | [d1, d2, d3] => { results := [.lit (.bool false)], args := [d1, d2, d3] }
  | _ => none }
def ReserveTellsWrongFalsely : Prop := reserveTellsRow.holds Try.pinned (OpenSpec.ofChange reserveTellsWrong)

/-- 'bordereaulaw20.ReserveDays': WHATEVER THE INPUT: true; the input reads as it did. -/
def reserveDaysSpec : ChangeSpec := { name := "reserveDays", fn := fun _ => fun
  | [d1, d2, d3] => { results := [.lit (.bool true)], args := [d1, d2, d3] }
  | _ => none }
def reserveDaysRow : OpenClaim := { program := "ytjplhfmakghabaa", sum := "1ad68906d71419018c9e0dac9379b14670f338d3d400de08df4cf164910273d0", func := "bordereau/bordereaulaw20.ReserveDays", spec := "reserveDays", unfollowed := true, recurses := true, named := ["math/bits.divideError", "math/bits.overflowError"], apart := false }
def ReserveDaysSaid : Prop := reserveDaysRow.holds Try.pinned (OpenSpec.ofChange reserveDaysSpec)

/-- ITS FALSE NEIGHBOUR: 'it returns false'. Refute it at one input. -/
def reserveDaysWrong : ChangeSpec := { name := "reserveDays", fn := fun _ => fun
  | [d1, d2, d3] => { results := [.lit (.bool false)], args := [d1, d2, d3] }
  | _ => none }
def ReserveDaysWrongFalsely : Prop := reserveDaysRow.holds Try.pinned (OpenSpec.ofChange reserveDaysWrong)

/-- 'bordereaulaw20.ReserveBounds': WHATEVER THE INPUT: true; the input reads as it did. -/
def reserveBoundsSpec : ChangeSpec := { name := "reserveBounds", fn := fun _ => fun
  | [d1, d2, d3, d4] => { results := [.lit (.bool true)], args := [d1, d2, d3, d4] }
  | _ => none }
def reserveBoundsRow : OpenClaim := { program := "ytjplhfmakghabaa", sum := "1ad68906d71419018c9e0dac9379b14670f338d3d400de08df4cf164910273d0", func := "bordereau/bordereaulaw20.ReserveBounds", spec := "reserveBounds", unfollowed := true, recurses := true, named := ["math/bits.divideError", "math/bits.overflowError"], apart := false }
def ReserveBoundsSaid : Prop := reserveBoundsRow.holds Try.pinned (OpenSpec.ofChange reserveBoundsSpec)

/-- ITS FALSE NEIGHBOUR: 'it returns false'. Refute it at one input. -/
def reserveBoundsWrong : ChangeSpec := { name := "reserveBounds", fn := fun _ => fun
  | [d1, d2, d3, d4] => { results := [.lit (.bool false)], args := [d1, d2, d3, d4] }
  | _ => none }
def ReserveBoundsWrongFalsely : Prop := reserveBoundsRow.holds Try.pinned (OpenSpec.ofChange reserveBoundsWrong)

/-- 'bordereaulaw20.ReserveKnown': WHATEVER THE INPUT: true; the input reads as it did. -/
def reserveKnownSpec : ChangeSpec := { name := "reserveKnown", fn := fun _ => fun
  | [d1, d2, d3, d4, d5] => { results := [.lit (.bool true)], args := [d1, d2, d3, d4, d5] }
  | _ => none }
def reserveKnownRow : OpenClaim := { program := "ytjplhfmakghabaa", sum := "1ad68906d71419018c9e0dac9379b14670f338d3d400de08df4cf164910273d0", func := "bordereau/bordereaulaw20.ReserveKnown", spec := "reserveKnown", unfollowed := true, recurses := true, named := ["math/bits.divideError", "math/bits.overflowError"], apart := false }
def ReserveKnownSaid : Prop := reserveKnownRow.holds Try.pinned (OpenSpec.ofChange reserveKnownSpec)

/-- ITS FALSE NEIGHBOUR: 'it returns false'. Refute it at one input. -/
def reserveKnownWrong : ChangeSpec := { name := "reserveKnown", fn := fun _ => fun
  | [d1, d2, d3, d4, d5] => { results := [.lit (.bool false)], args := [d1, d2, d3, d4, d5] }
  | _ => none }
def ReserveKnownWrongFalsely : Prop := reserveKnownRow.holds Try.pinned (OpenSpec.ofChange reserveKnownWrong)

/-- 'bordereaulaw20.ReserveEnds': WHATEVER THE INPUT: true; the input reads as it did. -/
def reserveEndsSpec : ChangeSpec := { name := "reserveEnds", fn := fun _ => fun
  | [d1, d2] => { results := [.lit (.bool true)], args := [d1, d2] }
  | _ => none }
def reserveEndsRow : OpenClaim := { program := "ytjplhfmakghabaa", sum := "1ad68906d71419018c9e0dac9379b14670f338d3d400de08df4cf164910273d0", func := "bordereau/bordereaulaw20.ReserveEnds", spec := "reserveEnds", unfollowed := true, recurses := true, named := ["math/bits.divideError", "math/bits.overflowError"], apart := false }
def ReserveEndsSaid : Prop := reserveEndsRow.holds Try.pinned (OpenSpec.ofChange reserveEndsSpec)

/-- ITS FALSE NEIGHBOUR: 'it returns false'. Refute it at one input. -/
def reserveEndsWrong : ChangeSpec := { name := "reserveEnds", fn := fun _ => fun
  | [d1, d2] => { results := [.lit (.bool false)], args := [d1, d2] }
  | _ => none }
def ReserveEndsWrongFalsely : Prop := reserveEndsRow.holds Try.pinned (OpenSpec.ofChange reserveEndsWrong)

/- THE SECOND FORM. 'bulk': how many values and letters a reading holds, each counted each time it is reached (what is shared counts as often as it is met; a slice's spare places count too). A statement '..UptoSaid' is the law's where the arguments, and the package variables that the reading takes, are together of bulk at most 1048576: NARROWER than '..Said'. Prove '..Said' where nothing that the law and all that it calls make is longer than what came in: it says more and counts as full. Else prove '..UptoSaid'. A law counts once. -/
mutual
def uptoBulk {H : Type} : DataW H → Nat
  | .lit (.string bytes) => bytes.length + 1
  | .lit _ => 1
  | .nil => 1
  | .ptr d => uptoBulk d + 1
  | .slice elems spare => uptoBulkAll elems + uptoBulkAll spare + 1
  | .agg parts => uptoBulkAll parts + 1
  | .iface _ d => uptoBulk d + 1
  | .map entries => uptoBulkEntries entries + 1
  | .held _ => 1
def uptoBulkAll {H : Type} : List (DataW H) → Nat
  | [] => 0
  | d :: r => uptoBulk d + uptoBulkAll r
def uptoBulkEntries {H : Type} : List (Lit × DataW H) → Nat
  | [] => 0
  | x :: r => uptoBulkEntry x + uptoBulkEntries r
def uptoBulkEntry {H : Type} : Lit × DataW H → Nat
  | (.string bytes, d) => bytes.length + uptoBulk d + 1
  | (_, d) => uptoBulk d + 1
 end
def uptoSmall : (H : Type) → List (DataW H) → Bool := fun _ ds => decide (uptoBulkAll ds ≤ 1048576)
def OpenSpec.upto (s : _root_.Go.ChangeSpec) : _root_.Go.OpenSpec := { _root_.Go.OpenSpec.ofChange s with cond := some uptoSmall }

/-- 'bordereaulaw19.AdjustPaid', WHERE WHAT IT READS IS OF BULK AT MOST 1048576: true; the input reads as it did. -/
def adjustPaidUptoRow : OpenClaim := { program := "ytjplhfmakghabaa", sum := "1ad68906d71419018c9e0dac9379b14670f338d3d400de08df4cf164910273d0", func := "bordereau/bordereaulaw19.AdjustPaid", spec := "adjustPaid", unfollowed := true, recurses := true, named := ["math/bits.divideError", "math/bits.overflowError"], apart := false, narrowed := true }
def AdjustPaidUptoSaid : Prop := adjustPaidUptoRow.holds Try.pinned (OpenSpec.upto adjustPaidSpec)

/-- 'bordereaulaw19.AdjustOf', WHERE WHAT IT READS IS OF BULK AT MOST 1048576: true; the input reads as it did. -/
def adjustOfUptoRow : OpenClaim := { program := "ytjplhfmakghabaa", sum := "1ad68906d71419018c9e0dac9379b14670f338d3d400de08df4cf164910273d0", func := "bordereau/bordereaulaw19.AdjustOf", spec := "adjustOf", unfollowed := true, recurses := true, named := ["math/bits.divideError", "math/bits.overflowError"], apart := false, narrowed := true }
def AdjustOfUptoSaid : Prop := adjustOfUptoRow.holds Try.pinned (OpenSpec.upto adjustOfSpec)

/-- 'bordereaulaw19.AdjustMost', WHERE WHAT IT READS IS OF BULK AT MOST 1048576: true; the input reads as it did. -/
def adjustMostUptoRow : OpenClaim := { program := "ytjplhfmakghabaa", sum := "1ad68906d71419018c9e0dac9379b14670f338d3d400de08df4cf164910273d0", func := "bordereau/bordereaulaw19.AdjustMost", spec := "adjustMost", unfollowed := true, recurses := true, named := ["math/bits.divideError", "math/bits.overflowError"], apart := false, narrowed := true }
def AdjustMostUptoSaid : Prop := adjustMostUptoRow.holds Try.pinned (OpenSpec.upto adjustMostSpec)

/-- 'bordereaulaw19.AdjustOne', WHERE WHAT IT READS IS OF BULK AT MOST 1048576: true; the input reads as it did. -/
def adjustOneUptoRow : OpenClaim := { program := "ytjplhfmakghabaa", sum := "1ad68906d71419018c9e0dac9379b14670f338d3d400de08df4cf164910273d0", func := "bordereau/bordereaulaw19.AdjustOne", spec := "adjustOne", unfollowed := true, recurses := true, named := ["math/bits.divideError", "math/bits.overflowError"], apart := false, narrowed := true }
def AdjustOneUptoSaid : Prop := adjustOneUptoRow.holds Try.pinned (OpenSpec.upto adjustOneSpec)

/-- 'bordereaulaw19.AdjustSums', WHERE WHAT IT READS IS OF BULK AT MOST 1048576: true; the input reads as it did. -/
def adjustSumsUptoRow : OpenClaim := { program := "ytjplhfmakghabaa", sum := "1ad68906d71419018c9e0dac9379b14670f338d3d400de08df4cf164910273d0", func := "bordereau/bordereaulaw19.AdjustSums", spec := "adjustSums", unfollowed := true, recurses := true, named := ["math/bits.divideError", "math/bits.overflowError"], apart := false, narrowed := true }
def AdjustSumsUptoSaid : Prop := adjustSumsUptoRow.holds Try.pinned (OpenSpec.upto adjustSumsSpec)

/-- 'bordereaulaw19.AdjustMore', WHERE WHAT IT READS IS OF BULK AT MOST 1048576: true; the input reads as it did. -/
def adjustMoreUptoRow : OpenClaim := { program := "ytjplhfmakghabaa", sum := "1ad68906d71419018c9e0dac9379b14670f338d3d400de08df4cf164910273d0", func := "bordereau/bordereaulaw19.AdjustMore", spec := "adjustMore", unfollowed := true, recurses := true, named := ["math/bits.divideError", "math/bits.overflowError"], apart := false, narrowed := true }
def AdjustMoreUptoSaid : Prop := adjustMoreUptoRow.holds Try.pinned (OpenSpec.upto adjustMoreSpec)

/-- 'bordereaulaw19.AdjustKnown', WHERE WHAT IT READS IS OF BULK AT MOST 1048576: true; the input reads as it did. -/
def adjustKnownUptoRow : OpenClaim := { program := "ytjplhfmakghabaa", sum := "1ad68906d71419018c9e0dac9379b14670f338d3d400de08df4cf164910273d0", func := "bordereau/bordereaulaw19.AdjustKnown", spec := "adjustKnown", unfollowed := true, recurses := true, named := ["math/bits.divideError", "math/bits.overflowError"], apart := false, narrowed := true }
def AdjustKnownUptoSaid : Prop := adjustKnownUptoRow.holds Try.pinned (OpenSpec.upto adjustKnownSpec)

/-- 'bordereaulaw20.ReserveTells', WHERE WHAT IT READS IS OF BULK AT MOST 1048576: true; the input reads as it did. -/
def reserveTellsUptoRow : OpenClaim := { program := "ytjplhfmakghabaa", sum := "1ad68906d71419018c9e0dac9379b14670f338d3d400de08df4cf164910273d0", func := "bordereau/bordereaulaw20.ReserveTells", spec := "reserveTells", unfollowed := true, recurses := true, named := ["math/bits.divideError", "math/bits.overflowError"], apart := false, narrowed := true }
def ReserveTellsUptoSaid : Prop := reserveTellsUptoRow.holds Try.pinned (OpenSpec.upto reserveTellsSpec)

/-- 'bordereaulaw20.ReserveDays', WHERE WHAT IT READS IS OF BULK AT MOST 1048576: true; the input reads as it did. -/
def reserveDaysUptoRow : OpenClaim := { program := "ytjplhfmakghabaa", sum := "1ad68906d71419018c9e0dac9379b14670f338d3d400de08df4cf164910273d0", func := "bordereau/bordereaulaw20.ReserveDays", spec := "reserveDays", unfollowed := true, recurses := true, named := ["math/bits.divideError", "math/bits.overflowError"], apart := false, narrowed := true }
def ReserveDaysUptoSaid : Prop := reserveDaysUptoRow.holds Try.pinned (OpenSpec.upto reserveDaysSpec)

/-- 'bordereaulaw20.ReserveBounds', WHERE WHAT IT READS IS OF BULK AT MOST 1048576: true; the input reads as it did. -/
def reserveBoundsUptoRow : OpenClaim := { program := "ytjplhfmakghabaa", sum := "1ad68906d71419018c9e0dac9379b14670f338d3d400de08df4cf164910273d0", func := "bordereau/bordereaulaw20.ReserveBounds", spec := "reserveBounds", unfollowed := true, recurses := true, named := ["math/bits.divideError", "math/bits.overflowError"], apart := false, narrowed := true }
def ReserveBoundsUptoSaid : Prop := reserveBoundsUptoRow.holds Try.pinned (OpenSpec.upto reserveBoundsSpec)

/-- 'bordereaulaw20.ReserveKnown', WHERE WHAT IT READS IS OF BULK AT MOST 1048576: true; the input reads as it did. -/
def reserveKnownUptoRow : OpenClaim := { program := "ytjplhfmakghabaa", sum := "1ad68906d71419018c9e0dac9379b14670f338d3d400de08df4cf164910273d0", func := "bordereau/bordereaulaw20.ReserveKnown", spec := "reserveKnown", unfollowed := true, recurses := true, named := ["math/bits.divideError", "math/bits.overflowError"], apart := false, narrowed := true }
def ReserveKnownUptoSaid : Prop := reserveKnownUptoRow.holds Try.pinned (OpenSpec.upto reserveKnownSpec)

/-- 'bordereaulaw20.ReserveEnds', WHERE WHAT IT READS IS OF BULK AT MOST 1048576: true; the input reads as it did. -/
def reserveEndsUptoRow : OpenClaim := { program := "ytjplhfmakghabaa", sum := "1ad68906d71419018c9e0dac9379b14670f338d3d400de08df4cf164910273d0", func := "bordereau/bordereaulaw20.ReserveEnds", spec := "reserveEnds", unfollowed := true, recurses := true, named := ["math/bits.divideError", "math/bits.overflowError"], apart := false, narrowed := true }
def ReserveEndsUptoSaid : Prop := reserveEndsUptoRow.holds Try.pinned (OpenSpec.upto reserveEndsSpec)

end Rows
end Go.Proofs.Ytjplhfmakghabaa
