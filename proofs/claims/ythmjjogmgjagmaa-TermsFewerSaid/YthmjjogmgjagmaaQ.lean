/- A region that draws its order, whose operations only read and whose callees leave what was there alone: one walk for every order (the class of worlds of Derived/Deep/Quiet.lean's theorem: 'the old world, more laid behind it'). -/
import Derived.Test.YthmjjogmgjagmaaT
namespace Go.Proofs.Ythmjjogmgjagmaa
open Go.RowKit

open Classical in
/-- Any world in which all that lies in w lies as it did. -/
noncomputable def ext (w x : World) : World := if Below w.heap.size w x then x else w

theorem ext_below (w x : World) : Below w.heap.size w (ext w x) := by
  unfold ext
  split
  · assumption
  · exact Below.refl _ _
theorem ext_of {w x : World} (h : Below w.heap.size w x) : x = ext w x := by
  unfold ext
  rw [if_pos h]
theorem cell_ext (w x : World) (b o : Nat) (h : b < w.heap.size) : (ext w x).cell? ⟨b, o, none⟩ = w.cell? ⟨b, o, none⟩ := (ext_below w x).cell (p := ⟨b, o, none⟩) h
theorem frozen_ext (w x : World) (b o : Nat) (h : b < w.heap.size) : (ext w x).frozen? ⟨b, o, none⟩ = w.frozen? ⟨b, o, none⟩ := (ext_below w x).frozen (p := ⟨b, o, none⟩) h

theorem wp_region_ext {P : Program} {id : Nat} {Q : Exit → Act → World → Prop} {a : Act} {w : World} {l : List Oper} (hm : P.follows .mixedOrders = true) (hB : Region.lexB .any l.toArray = true)
    (h : wpQuiet P l.toArray (fun w' => ∃ x, w' = ext w x) (fun a' => ∀ w', (∃ x, w' = ext w x) → Q .normal a' w') l a) : (Code.region id l.toArray true).wp P Q a w :=
  wp_region_quiet (C := fun w' => ∃ x, w' = ext w x) hm hB ⟨w.drew, ext_of ((Below.refl _ _).drew)⟩ (by simpa using h)

/-- A callee that leaves what was there alone. -/
theorem ext_call {P : Program} {f : FuncId} {args : Array Value} {w x : World} {v : Value}
    (h : Calls P f args (ext w x) fun e w' => e = .returned v ∧ Below (ext w x).heap.size (ext w x) w') : Calls P f args (ext w x) fun e w'' => e = .returned v ∧ ∃ m, w'' = ext w m :=
  h.mono fun _ _ ⟨he, hb⟩ => ⟨he, _, ext_of ((ext_below w x).trans (hb.mono (ext_below w x).size))⟩
theorem ext_call_same {P : Program} {f : FuncId} {args : Array Value} {w x : World} {v : Value}
    (h : Calls P f args (ext w x) fun e w' => e = .returned v ∧ ext w x = w') : Calls P f args (ext w x) fun e w'' => e = .returned v ∧ ∃ m, w'' = ext w m :=
  h.mono fun _ _ ⟨he, hb⟩ => ⟨he, x, hb.symm⟩

end Go.Proofs.Ythmjjogmgjagmaa
