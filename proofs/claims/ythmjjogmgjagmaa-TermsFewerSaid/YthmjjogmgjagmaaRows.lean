/-
  No cell of these rows narrows 'for every input' (looked for: loops, veiled, ifaces, maps, wideKeys, modest, calm, conditions, laid).
  DERIVED. THE GIVEN ROWS OF THIS SEAT. 5 by the template 'for every input the law returns true; each argument reads behind the call as it read before'; 0 by the template 'total and deterministic' (their statements: YthmjjogmgjagmaaTotals.lean).
  GIVEN WITH THE SEED: the statements are not yours to turn. If you find one false, say at which input.
  Laid BY PROGRAM, IN A SANDBOX (cutbox-rows.mjs): the forced cells as the released guide's own fill.sh prints them over the translation 37955a161c45c086… (all of the seat's roots in one cut). By AI agents, Wed Nov 11 2026. No macro, syntax, notation, axiom, sorry.
-/
import Derived.Test.YthmjjogmgjagmaaChecked
import GoSem.Claim
import GoSem.ClaimJoined
import GoSem.ClaimMapViews
import Derived.JoinedTies
import Derived.KernelRfl
namespace Go.Proofs.Ythmjjogmgjagmaa
/- THE CELL 'sum', in the pinned program and in every row, IS THE sha256 OF THE DUMP (.gsa) THAT YthmjjogmgjagmaaProg.lean LOADS. Nothing in Lean hashes anything: it is a label: what it is worth is what the hold of that sum in a sandbox is worth. -/
noncomputable def Try.pinned : Pinned := { name := "ythmjjogmgjagmaa", sum := "37955a161c45c0869b2b68c17f347fd6a754967d7a5edb650a4253a7e9eff41a", checked := Try.checked }
namespace Rows
def none {H : Type} : Left H := { results := [], args := [] }

/-- 'bordereaulaw10.TermsTells': WHATEVER THE INPUT: true; the input reads as it did. -/
def termsTellsSpec : ChangeSpec := { name := "termsTells", fn := fun _ => fun
  | [d1, d2, d3] => { results := [.lit (.bool true)], args := [d1, d2, d3] }
  | _ => none }
def termsTellsRow : OpenClaim := { program := "ythmjjogmgjagmaa", sum := "37955a161c45c0869b2b68c17f347fd6a754967d7a5edb650a4253a7e9eff41a", func := "bordereau/bordereaulaw10.TermsTells", spec := "termsTells", unfollowed := true, recurses := true, apart := false }
def TermsTellsSaid : Prop := termsTellsRow.holds Try.pinned (OpenSpec.ofChange termsTellsSpec)

/-- ITS FALSE NEIGHBOUR: 'it returns false'. Refute it at one input. -/
def termsTellsWrong : ChangeSpec := { name := "termsTells", fn := fun _ => fun
  | [d1, d2, d3] => { results := [.lit (.bool false)], args := [d1, d2, d3] }
  | _ => none }
def TermsTellsWrongFalsely : Prop := termsTellsRow.holds Try.pinned (OpenSpec.ofChange termsTellsWrong)

/-- 'bordereaulaw10.TermsEach': WHATEVER THE INPUT: true; the input reads as it did. -/
def termsEachSpec : ChangeSpec := { name := "termsEach", fn := fun _ => fun
  | [d] => { results := [.lit (.bool true)], args := [d] }
  | _ => none }
def termsEachRow : OpenClaim := { program := "ythmjjogmgjagmaa", sum := "37955a161c45c0869b2b68c17f347fd6a754967d7a5edb650a4253a7e9eff41a", func := "bordereau/bordereaulaw10.TermsEach", spec := "termsEach", unfollowed := true, recurses := true, apart := false }
def TermsEachSaid : Prop := termsEachRow.holds Try.pinned (OpenSpec.ofChange termsEachSpec)

/-- ITS FALSE NEIGHBOUR: 'it returns false'. Refute it at one input. -/
def termsEachWrong : ChangeSpec := { name := "termsEach", fn := fun _ => fun
  | [d] => { results := [.lit (.bool false)], args := [d] }
  | _ => none }
def TermsEachWrongFalsely : Prop := termsEachRow.holds Try.pinned (OpenSpec.ofChange termsEachWrong)

/-- 'bordereaulaw10.TermsFewer': WHATEVER THE INPUT: true; the input reads as it did. -/
def termsFewerSpec : ChangeSpec := { name := "termsFewer", fn := fun _ => fun
  | [d1, d2] => { results := [.lit (.bool true)], args := [d1, d2] }
  | _ => none }
def termsFewerRow : OpenClaim := { program := "ythmjjogmgjagmaa", sum := "37955a161c45c0869b2b68c17f347fd6a754967d7a5edb650a4253a7e9eff41a", func := "bordereau/bordereaulaw10.TermsFewer", spec := "termsFewer", unfollowed := true, recurses := true, apart := false }
def TermsFewerSaid : Prop := termsFewerRow.holds Try.pinned (OpenSpec.ofChange termsFewerSpec)

/-- ITS FALSE NEIGHBOUR: 'it returns false'. Refute it at one input. -/
def termsFewerWrong : ChangeSpec := { name := "termsFewer", fn := fun _ => fun
  | [d1, d2] => { results := [.lit (.bool false)], args := [d1, d2] }
  | _ => none }
def TermsFewerWrongFalsely : Prop := termsFewerRow.holds Try.pinned (OpenSpec.ofChange termsFewerWrong)

/-- 'bordereaulaw10.TermsDays': WHATEVER THE INPUT: true; the input reads as it did. -/
def termsDaysSpec : ChangeSpec := { name := "termsDays", fn := fun _ => fun
  | [d1, d2] => { results := [.lit (.bool true)], args := [d1, d2] }
  | _ => none }
def termsDaysRow : OpenClaim := { program := "ythmjjogmgjagmaa", sum := "37955a161c45c0869b2b68c17f347fd6a754967d7a5edb650a4253a7e9eff41a", func := "bordereau/bordereaulaw10.TermsDays", spec := "termsDays", unfollowed := true, recurses := true, apart := false }
def TermsDaysSaid : Prop := termsDaysRow.holds Try.pinned (OpenSpec.ofChange termsDaysSpec)

/-- ITS FALSE NEIGHBOUR: 'it returns false'. Refute it at one input. -/
def termsDaysWrong : ChangeSpec := { name := "termsDays", fn := fun _ => fun
  | [d1, d2] => { results := [.lit (.bool false)], args := [d1, d2] }
  | _ => none }
def TermsDaysWrongFalsely : Prop := termsDaysRow.holds Try.pinned (OpenSpec.ofChange termsDaysWrong)

/-- 'bordereaulaw10.TermsParts': WHATEVER THE INPUT: true; the input reads as it did. -/
def termsPartsSpec : ChangeSpec := { name := "termsParts", fn := fun _ => fun
  | [d1, d2, d3] => { results := [.lit (.bool true)], args := [d1, d2, d3] }
  | _ => none }
def termsPartsRow : OpenClaim := { program := "ythmjjogmgjagmaa", sum := "37955a161c45c0869b2b68c17f347fd6a754967d7a5edb650a4253a7e9eff41a", func := "bordereau/bordereaulaw10.TermsParts", spec := "termsParts", unfollowed := true, recurses := true, apart := false }
def TermsPartsSaid : Prop := termsPartsRow.holds Try.pinned (OpenSpec.ofChange termsPartsSpec)

/-- ITS FALSE NEIGHBOUR: 'it returns false'. Refute it at one input. -/
def termsPartsWrong : ChangeSpec := { name := "termsParts", fn := fun _ => fun
  | [d1, d2, d3] => { results := [.lit (.bool false)], args := [d1, d2, d3] }
  | _ => none }
def TermsPartsWrongFalsely : Prop := termsPartsRow.holds Try.pinned (OpenSpec.ofChange termsPartsWrong)

/- THE SECOND FORM. 'bulk': how many values and letters a reading holds, each counted each time it is reached (what is shared counts as often as it is met; a slice's spare places count too). A statement '..UptoSaid' is the law's where the arguments, and the package variables that the reading takes, are together of bulk at most 1048576: NARROWER than '..Said'. Prove '..Said' where nothing that the law and all that it calls make is longer than what came in: it says more and counts as full. Else prove '..UptoSaid'. A law counts once. -/
mutual
def uptoBulk {H : Type} : DataW H → Nat
  | .lit (.string bytes) => bytes.length + 1
  | .lit _ => 1
  | .nil => 1
  | .ptr d => uptoBulk d + 1
  | .slice elems spare => uptoBulkAll elems + uptoBulkAll spare + 1
  | .agg parts => uptoBulkAll parts + 1
  | .iface _ d => uptoBulk d + 1
  | .map entries => uptoBulkEntries entries + 1
  | .held _ => 1
def uptoBulkAll {H : Type} : List (DataW H) → Nat
  | [] => 0
  | d :: r => uptoBulk d + uptoBulkAll r
def uptoBulkEntries {H : Type} : List (Lit × DataW H) → Nat
  | [] => 0
  | x :: r => uptoBulkEntry x + uptoBulkEntries r
def uptoBulkEntry {H : Type} : Lit × DataW H → Nat
  | (.string bytes, d) => bytes.length + uptoBulk d + 1
  | (_, d) => uptoBulk d + 1
 end
def uptoSmall : (H : Type) → List (DataW H) → Bool := fun _ ds => decide (uptoBulkAll ds ≤ 1048576)
def OpenSpec.upto (s : _root_.Go.ChangeSpec) : _root_.Go.OpenSpec := { _root_.Go.OpenSpec.ofChange s with cond := some uptoSmall }

/-- 'bordereaulaw10.TermsTells', WHERE WHAT IT READS IS OF BULK AT MOST 1048576: true; the input reads as it did. -/
def termsTellsUptoRow : OpenClaim := { program := "ythmjjogmgjagmaa", sum := "37955a161c45c0869b2b68c17f347fd6a754967d7a5edb650a4253a7e9eff41a", func := "bordereau/bordereaulaw10.TermsTells", spec := "termsTells", unfollowed := true, recurses := true, apart := false, narrowed := true }
def TermsTellsUptoSaid : Prop := termsTellsUptoRow.holds Try.pinned (OpenSpec.upto termsTellsSpec)

/-- 'bordereaulaw10.TermsEach', WHERE WHAT IT READS IS OF BULK AT MOST 1048576: true; the input reads as it did. -/
def termsEachUptoRow : OpenClaim := { program := "ythmjjogmgjagmaa", sum := "37955a161c45c0869b2b68c17f347fd6a754967d7a5edb650a4253a7e9eff41a", func := "bordereau/bordereaulaw10.TermsEach", spec := "termsEach", unfollowed := true, recurses := true, apart := false, narrowed := true }
def TermsEachUptoSaid : Prop := termsEachUptoRow.holds Try.pinned (OpenSpec.upto termsEachSpec)

/-- 'bordereaulaw10.TermsFewer', WHERE WHAT IT READS IS OF BULK AT MOST 1048576: true; the input reads as it did. -/
def termsFewerUptoRow : OpenClaim := { program := "ythmjjogmgjagmaa", sum := "37955a161c45c0869b2b68c17f347fd6a754967d7a5edb650a4253a7e9eff41a", func := "bordereau/bordereaulaw10.TermsFewer", spec := "termsFewer", unfollowed := true, recurses := true, apart := false, narrowed := true }
def TermsFewerUptoSaid : Prop := termsFewerUptoRow.holds Try.pinned (OpenSpec.upto termsFewerSpec)

/-- 'bordereaulaw10.TermsDays', WHERE WHAT IT READS IS OF BULK AT MOST 1048576: true; the input reads as it did. -/
def termsDaysUptoRow : OpenClaim := { program := "ythmjjogmgjagmaa", sum := "37955a161c45c0869b2b68c17f347fd6a754967d7a5edb650a4253a7e9eff41a", func := "bordereau/bordereaulaw10.TermsDays", spec := "termsDays", unfollowed := true, recurses := true, apart := false, narrowed := true }
def TermsDaysUptoSaid : Prop := termsDaysUptoRow.holds Try.pinned (OpenSpec.upto termsDaysSpec)

/-- 'bordereaulaw10.TermsParts', WHERE WHAT IT READS IS OF BULK AT MOST 1048576: true; the input reads as it did. -/
def termsPartsUptoRow : OpenClaim := { program := "ythmjjogmgjagmaa", sum := "37955a161c45c0869b2b68c17f347fd6a754967d7a5edb650a4253a7e9eff41a", func := "bordereau/bordereaulaw10.TermsParts", spec := "termsParts", unfollowed := true, recurses := true, apart := false, narrowed := true }
def TermsPartsUptoSaid : Prop := termsPartsUptoRow.holds Try.pinned (OpenSpec.upto termsPartsSpec)

end Rows
end Go.Proofs.Ythmjjogmgjagmaa
