/-
  No cell of these rows narrows 'for every input' (looked for: loops, veiled, ifaces, maps, wideKeys, modest, calm, conditions, laid).
  DERIVED. THE GIVEN ROWS OF THIS SEAT. 7 by the template 'for every input the law returns true; each argument reads behind the call as it read before'; 0 by the template 'total and deterministic' (their statements: YtlikpcpllahalaaGreatTotals.lean).
  GIVEN WITH THE SEED: the statements are not yours to turn. If you find one false, say at which input.
  Laid BY PROGRAM, IN A SANDBOX (cutbox-rows.mjs): the forced cells as the released guide's own fill.sh prints them over the translation b63b0964c8fe823b… (all of the seat's roots in one cut). By AI agents, Wed Nov 11 2026. No macro, syntax, notation, axiom, sorry.
-/
import Derived.Test.YtlikpcpllahalaaGreatChecked
import GoSem.Claim
import GoSem.ClaimJoined
import GoSem.ClaimMapViews
import Derived.JoinedTies
import Derived.KernelRfl
namespace Go.Proofs.YtlikpcpllahalaaGreat
/- THE CELL 'sum', in the pinned program and in every row, IS THE sha256 OF THE DUMP (.gsa) THAT YtlikpcpllahalaaGreatProg.lean LOADS. Nothing in Lean hashes anything: it is a label: what it is worth is what the hold of that sum in a sandbox is worth. -/
noncomputable def Tryz.pinned : Pinned := { name := "ytlikpcpllahalaagreat", sum := "b63b0964c8fe823bf38911afd7413546cc79ab2d94eb33377d8d8706e5cafe35", checked := Tryz.checked }
namespace Rows
def none {H : Type} : Left H := { results := [], args := [] }

/-- 'bordereautop.TopClaimsBorne': WHATEVER THE INPUT: true; the input reads as it did. -/
def topClaimsBorneSpec : ChangeSpec := { name := "topClaimsBorne", fn := fun _ => fun
  | [d1, d2] => { results := [.lit (.bool true)], args := [d1, d2] }
  | _ => none }
def topClaimsBorneRow : OpenClaim := { program := "ytlikpcpllahalaagreat", sum := "b63b0964c8fe823bf38911afd7413546cc79ab2d94eb33377d8d8706e5cafe35", func := "bordereau/bordereautop.TopClaimsBorne", spec := "topClaimsBorne", unfollowed := true, recurses := true, named := ["math/bits.divideError", "math/bits.overflowError"], apart := false }
def TopClaimsBorneSaid : Prop := topClaimsBorneRow.holds Tryz.pinned (OpenSpec.ofChange topClaimsBorneSpec)

/-- ITS FALSE NEIGHBOUR: 'it returns false'. Refute it at one input. -/
def topClaimsBorneWrong : ChangeSpec := { name := "topClaimsBorne", fn := fun _ => fun
  | [d1, d2] => { results := [.lit (.bool false)], args := [d1, d2] }
  | _ => none }
def TopClaimsBorneWrongFalsely : Prop := topClaimsBorneRow.holds Tryz.pinned (OpenSpec.ofChange topClaimsBorneWrong)

/-- 'bordereautop.TopTreatiesEvent': WHATEVER THE INPUT: true; the input reads as it did. -/
def topTreatiesEventSpec : ChangeSpec := { name := "topTreatiesEvent", fn := fun _ => fun
  | [d1, d2, d3] => { results := [.lit (.bool true)], args := [d1, d2, d3] }
  | _ => none }
def topTreatiesEventRow : OpenClaim := { program := "ytlikpcpllahalaagreat", sum := "b63b0964c8fe823bf38911afd7413546cc79ab2d94eb33377d8d8706e5cafe35", func := "bordereau/bordereautop.TopTreatiesEvent", spec := "topTreatiesEvent", unfollowed := true, recurses := true, named := ["math/bits.divideError", "math/bits.overflowError"], apart := false }
def TopTreatiesEventSaid : Prop := topTreatiesEventRow.holds Tryz.pinned (OpenSpec.ofChange topTreatiesEventSpec)

/-- ITS FALSE NEIGHBOUR: 'it returns false'. Refute it at one input. -/
def topTreatiesEventWrong : ChangeSpec := { name := "topTreatiesEvent", fn := fun _ => fun
  | [d1, d2, d3] => { results := [.lit (.bool false)], args := [d1, d2, d3] }
  | _ => none }
def TopTreatiesEventWrongFalsely : Prop := topTreatiesEventRow.holds Tryz.pinned (OpenSpec.ofChange topTreatiesEventWrong)

/-- 'bordereautop.TopTreatiesTower': WHATEVER THE INPUT: true; the input reads as it did. -/
def topTreatiesTowerSpec : ChangeSpec := { name := "topTreatiesTower", fn := fun _ => fun
  | [d1, d2, d3] => { results := [.lit (.bool true)], args := [d1, d2, d3] }
  | _ => none }
def topTreatiesTowerRow : OpenClaim := { program := "ytlikpcpllahalaagreat", sum := "b63b0964c8fe823bf38911afd7413546cc79ab2d94eb33377d8d8706e5cafe35", func := "bordereau/bordereautop.TopTreatiesTower", spec := "topTreatiesTower", unfollowed := true, recurses := true, named := ["math/bits.divideError", "math/bits.overflowError"], apart := false }
def TopTreatiesTowerSaid : Prop := topTreatiesTowerRow.holds Tryz.pinned (OpenSpec.ofChange topTreatiesTowerSpec)

/-- ITS FALSE NEIGHBOUR: 'it returns false'. Refute it at one input. -/
def topTreatiesTowerWrong : ChangeSpec := { name := "topTreatiesTower", fn := fun _ => fun
  | [d1, d2, d3] => { results := [.lit (.bool false)], args := [d1, d2, d3] }
  | _ => none }
def TopTreatiesTowerWrongFalsely : Prop := topTreatiesTowerRow.holds Tryz.pinned (OpenSpec.ofChange topTreatiesTowerWrong)

/-- 'bordereautop.TopTreatiesAll': WHATEVER THE INPUT: true; the input reads as it did. -/
def topTreatiesAllSpec : ChangeSpec := { name := "topTreatiesAll", fn := fun _ => fun
  | [d1, d2, d3] => { results := [.lit (.bool true)], args := [d1, d2, d3] }
  | _ => none }
def topTreatiesAllRow : OpenClaim := { program := "ytlikpcpllahalaagreat", sum := "b63b0964c8fe823bf38911afd7413546cc79ab2d94eb33377d8d8706e5cafe35", func := "bordereau/bordereautop.TopTreatiesAll", spec := "topTreatiesAll", unfollowed := true, recurses := true, named := ["math/bits.divideError", "math/bits.overflowError"], apart := false }
def TopTreatiesAllSaid : Prop := topTreatiesAllRow.holds Tryz.pinned (OpenSpec.ofChange topTreatiesAllSpec)

/-- ITS FALSE NEIGHBOUR: 'it returns false'. Refute it at one input. -/
def topTreatiesAllWrong : ChangeSpec := { name := "topTreatiesAll", fn := fun _ => fun
  | [d1, d2, d3] => { results := [.lit (.bool false)], args := [d1, d2, d3] }
  | _ => none }
def TopTreatiesAllWrongFalsely : Prop := topTreatiesAllRow.holds Tryz.pinned (OpenSpec.ofChange topTreatiesAllWrong)

/-- 'bordereautop.TopClaimsDays': WHATEVER THE INPUT: true; the input reads as it did. -/
def topClaimsDaysSpec : ChangeSpec := { name := "topClaimsDays", fn := fun _ => fun
  | [d1, d2] => { results := [.lit (.bool true)], args := [d1, d2] }
  | _ => none }
def topClaimsDaysRow : OpenClaim := { program := "ytlikpcpllahalaagreat", sum := "b63b0964c8fe823bf38911afd7413546cc79ab2d94eb33377d8d8706e5cafe35", func := "bordereau/bordereautop.TopClaimsDays", spec := "topClaimsDays", unfollowed := true, recurses := true, named := ["math/bits.divideError", "math/bits.overflowError"], apart := false }
def TopClaimsDaysSaid : Prop := topClaimsDaysRow.holds Tryz.pinned (OpenSpec.ofChange topClaimsDaysSpec)

/-- ITS FALSE NEIGHBOUR: 'it returns false'. Refute it at one input. -/
def topClaimsDaysWrong : ChangeSpec := { name := "topClaimsDays", fn := fun _ => fun
  | [d1, d2] => { results := [.lit (.bool false)], args := [d1, d2] }
  | _ => none }
def TopClaimsDaysWrongFalsely : Prop := topClaimsDaysRow.holds Tryz.pinned (OpenSpec.ofChange topClaimsDaysWrong)

/-- 'bordereautop.TopTreatiesOrder': WHATEVER THE INPUT: true; the input reads as it did. -/
def topTreatiesOrderSpec : ChangeSpec := { name := "topTreatiesOrder", fn := fun _ => fun
  | [d1, d2, d3] => { results := [.lit (.bool true)], args := [d1, d2, d3] }
  | _ => none }
def topTreatiesOrderRow : OpenClaim := { program := "ytlikpcpllahalaagreat", sum := "b63b0964c8fe823bf38911afd7413546cc79ab2d94eb33377d8d8706e5cafe35", func := "bordereau/bordereautop.TopTreatiesOrder", spec := "topTreatiesOrder", unfollowed := true, recurses := true, named := ["math/bits.divideError", "math/bits.overflowError"], apart := false }
def TopTreatiesOrderSaid : Prop := topTreatiesOrderRow.holds Tryz.pinned (OpenSpec.ofChange topTreatiesOrderSpec)

/-- ITS FALSE NEIGHBOUR: 'it returns false'. Refute it at one input. -/
def topTreatiesOrderWrong : ChangeSpec := { name := "topTreatiesOrder", fn := fun _ => fun
  | [d1, d2, d3] => { results := [.lit (.bool false)], args := [d1, d2, d3] }
  | _ => none }
def TopTreatiesOrderWrongFalsely : Prop := topTreatiesOrderRow.holds Tryz.pinned (OpenSpec.ofChange topTreatiesOrderWrong)

/-- 'bordereautop.TopTreatiesWhole': WHATEVER THE INPUT: true; the input reads as it did. -/
def topTreatiesWholeSpec : ChangeSpec := { name := "topTreatiesWhole", fn := fun _ => fun
  | [d1, d2] => { results := [.lit (.bool true)], args := [d1, d2] }
  | _ => none }
def topTreatiesWholeRow : OpenClaim := { program := "ytlikpcpllahalaagreat", sum := "b63b0964c8fe823bf38911afd7413546cc79ab2d94eb33377d8d8706e5cafe35", func := "bordereau/bordereautop.TopTreatiesWhole", spec := "topTreatiesWhole", unfollowed := true, recurses := true, named := ["math/bits.divideError", "math/bits.overflowError"], apart := false }
def TopTreatiesWholeSaid : Prop := topTreatiesWholeRow.holds Tryz.pinned (OpenSpec.ofChange topTreatiesWholeSpec)

/-- ITS FALSE NEIGHBOUR: 'it returns false'. Refute it at one input. -/
def topTreatiesWholeWrong : ChangeSpec := { name := "topTreatiesWhole", fn := fun _ => fun
  | [d1, d2] => { results := [.lit (.bool false)], args := [d1, d2] }
  | _ => none }
def TopTreatiesWholeWrongFalsely : Prop := topTreatiesWholeRow.holds Tryz.pinned (OpenSpec.ofChange topTreatiesWholeWrong)

/- THE SECOND FORM. 'bulk': how many values and letters a reading holds, each counted each time it is reached (what is shared counts as often as it is met; a slice's spare places count too). A statement '..UptoSaid' is the law's where the arguments, and the package variables that the reading takes, are together of bulk at most 1048576: NARROWER than '..Said'. Prove '..Said' where nothing that the law and all that it calls make is longer than what came in: it says more and counts as full. Else prove '..UptoSaid'. A law counts once. -/
mutual
def uptoBulk {H : Type} : DataW H → Nat
  | .lit (.string bytes) => bytes.length + 1
  | .lit _ => 1
  | .nil => 1
  | .ptr d => uptoBulk d + 1
  | .slice elems spare => uptoBulkAll elems + uptoBulkAll spare + 1
  | .agg parts => uptoBulkAll parts + 1
  | .iface _ d => uptoBulk d + 1
  | .map entries => uptoBulkEntries entries + 1
  | .held _ => 1
def uptoBulkAll {H : Type} : List (DataW H) → Nat
  | [] => 0
  | d :: r => uptoBulk d + uptoBulkAll r
def uptoBulkEntries {H : Type} : List (Lit × DataW H) → Nat
  | [] => 0
  | x :: r => uptoBulkEntry x + uptoBulkEntries r
def uptoBulkEntry {H : Type} : Lit × DataW H → Nat
  | (.string bytes, d) => bytes.length + uptoBulk d + 1
  | (_, d) => uptoBulk d + 1
 end
def uptoSmall : (H : Type) → List (DataW H) → Bool := fun _ ds => decide (uptoBulkAll ds ≤ 1048576)
def OpenSpec.upto (s : _root_.Go.ChangeSpec) : _root_.Go.OpenSpec := { _root_.Go.OpenSpec.ofChange s with cond := some uptoSmall }

/-- 'bordereautop.TopClaimsBorne', WHERE WHAT IT READS IS OF BULK AT MOST 1048576: true; the input reads as it did. -/
def topClaimsBorneUptoRow : OpenClaim := { program := "ytlikpcpllahalaagreat", sum := "b63b0964c8fe823bf38911afd7413546cc79ab2d94eb33377d8d8706e5cafe35", func := "bordereau/bordereautop.TopClaimsBorne", spec := "topClaimsBorne", unfollowed := true, recurses := true, named := ["math/bits.divideError", "math/bits.overflowError"], apart := false, narrowed := true }
def TopClaimsBorneUptoSaid : Prop := topClaimsBorneUptoRow.holds Tryz.pinned (OpenSpec.upto topClaimsBorneSpec)

/-- 'bordereautop.TopTreatiesEvent', WHERE WHAT IT READS IS OF BULK AT MOST 1048576: true; the input reads as it did. -/
def topTreatiesEventUptoRow : OpenClaim := { program := "ytlikpcpllahalaagreat", sum := "b63b0964c8fe823bf38911afd7413546cc79ab2d94eb33377d8d8706e5cafe35", func := "bordereau/bordereautop.TopTreatiesEvent", spec := "topTreatiesEvent", unfollowed := true, recurses := true, named := ["math/bits.divideError", "math/bits.overflowError"], apart := false, narrowed := true }
def TopTreatiesEventUptoSaid : Prop := topTreatiesEventUptoRow.holds Tryz.pinned (OpenSpec.upto topTreatiesEventSpec)

/-- 'bordereautop.TopTreatiesTower', WHERE WHAT IT READS IS OF BULK AT MOST 1048576: true; the input reads as it did. -/
def topTreatiesTowerUptoRow : OpenClaim := { program := "ytlikpcpllahalaagreat", sum := "b63b0964c8fe823bf38911afd7413546cc79ab2d94eb33377d8d8706e5cafe35", func := "bordereau/bordereautop.TopTreatiesTower", spec := "topTreatiesTower", unfollowed := true, recurses := true, named := ["math/bits.divideError", "math/bits.overflowError"], apart := false, narrowed := true }
def TopTreatiesTowerUptoSaid : Prop := topTreatiesTowerUptoRow.holds Tryz.pinned (OpenSpec.upto topTreatiesTowerSpec)

/-- 'bordereautop.TopTreatiesAll', WHERE WHAT IT READS IS OF BULK AT MOST 1048576: true; the input reads as it did. -/
def topTreatiesAllUptoRow : OpenClaim := { program := "ytlikpcpllahalaagreat", sum := "b63b0964c8fe823bf38911afd7413546cc79ab2d94eb33377d8d8706e5cafe35", func := "bordereau/bordereautop.TopTreatiesAll", spec := "topTreatiesAll", unfollowed := true, recurses := true, named := ["math/bits.divideError", "math/bits.overflowError"], apart := false, narrowed := true }
def TopTreatiesAllUptoSaid : Prop := topTreatiesAllUptoRow.holds Tryz.pinned (OpenSpec.upto topTreatiesAllSpec)

/-- 'bordereautop.TopClaimsDays', WHERE WHAT IT READS IS OF BULK AT MOST 1048576: true; the input reads as it did. -/
def topClaimsDaysUptoRow : OpenClaim := { program := "ytlikpcpllahalaagreat", sum := "b63b0964c8fe823bf38911afd7413546cc79ab2d94eb33377d8d8706e5cafe35", func := "bordereau/bordereautop.TopClaimsDays", spec := "topClaimsDays", unfollowed := true, recurses := true, named := ["math/bits.divideError", "math/bits.overflowError"], apart := false, narrowed := true }
def TopClaimsDaysUptoSaid : Prop := topClaimsDaysUptoRow.holds Tryz.pinned (OpenSpec.upto topClaimsDaysSpec)

/-- 'bordereautop.TopTreatiesOrder', WHERE WHAT IT READS IS OF BULK AT MOST 1048576: true; the input reads as it did. -/
def topTreatiesOrderUptoRow : OpenClaim := { program := "ytlikpcpllahalaagreat", sum := "b63b0964c8fe823bf38911afd7413546cc79ab2d94eb33377d8d8706e5cafe35", func := "bordereau/bordereautop.TopTreatiesOrder", spec := "topTreatiesOrder", unfollowed := true, recurses := true, named := ["math/bits.divideError", "math/bits.overflowError"], apart := false, narrowed := true }
def TopTreatiesOrderUptoSaid : Prop := topTreatiesOrderUptoRow.holds Tryz.pinned (OpenSpec.upto topTreatiesOrderSpec)

/-- 'bordereautop.TopTreatiesWhole', WHERE WHAT IT READS IS OF BULK AT MOST 1048576: true; the input reads as it did. -/
def topTreatiesWholeUptoRow : OpenClaim := { program := "ytlikpcpllahalaagreat", sum := "b63b0964c8fe823bf38911afd7413546cc79ab2d94eb33377d8d8706e5cafe35", func := "bordereau/bordereautop.TopTreatiesWhole", spec := "topTreatiesWhole", unfollowed := true, recurses := true, named := ["math/bits.divideError", "math/bits.overflowError"], apart := false, narrowed := true }
def TopTreatiesWholeUptoSaid : Prop := topTreatiesWholeUptoRow.holds Tryz.pinned (OpenSpec.upto topTreatiesWholeSpec)

end Rows
end Go.Proofs.YtlikpcpllahalaaGreat
