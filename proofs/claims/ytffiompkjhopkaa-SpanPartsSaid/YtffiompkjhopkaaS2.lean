/- '==' at structs of ints. -/
import Derived.Test.YtffiompkjhopkaaS1
set_option linter.unusedSimpArgs false
set_option linter.unusedVariables false
namespace Go.Proofs.Ytffiompkjhopkaa.V
open Go.RowKit

theorem run_eqGuard_agg {P : Program} {t : TypeId} {a b : Array Value} {x y : Operand} {w : World} (hg : P.eqGuardType P.depth t = false) : (eqGuard .eql t x y (.agg a) (.agg b)).run P w = .ok () w := by
  simp [eqGuard, hg]

set_option maxHeartbeats 1000000 in
set_option maxRecDepth 100000 in
@[go_sem] theorem eqIntsSpan : EqInts Try.prog 30 2 := by
  intro xs ys hx hy w
  obtain ⟨x0, xs, rfl⟩ := List.exists_cons_of_length_pos (l := xs) (by omega)
  simp only [List.length_cons] at hx
  obtain ⟨x1, xs, rfl⟩ := List.exists_cons_of_length_pos (l := xs) (by omega)
  simp only [List.length_cons] at hx
  obtain rfl : xs = [] := List.eq_nil_of_length_eq_zero (by omega)
  obtain ⟨y0, ys, rfl⟩ := List.exists_cons_of_length_pos (l := ys) (by omega)
  simp only [List.length_cons] at hy
  obtain ⟨y1, ys, rfl⟩ := List.exists_cons_of_length_pos (l := ys) (by omega)
  simp only [List.length_cons] at hy
  obtain rfl : ys = [] := List.eq_nil_of_length_eq_zero (by omega)
  clear hx hy
  have hS : Try.prog.underlying 30 = some (.struct (Try.prog.fieldsOf 30)) := by kernel_rfl
  have hp : Try.prog.stoodInHeld 30 = false := by kernel_rfl
  have hg : Try.prog.eqGuardType Try.prog.depth 30 = false := by kernel_rfl
  rw [Sem.run_bind, run_eqGuard_agg hg, Result.andThen_ok]
  refine (?_ : ∀ d, (Op.equalIn (d + 2 + 1) 30 _ _).run Try.prog w = _) 9997
  intro d
  rw [run_equalIn_agg w (d + 2) 30 _ _ hS hp]
  clear hS hp hg
  simp only [Program.fieldsOf, Try.underlying30, List.map_cons, List.map_nil]
  go_simp
  by_cases h0 : x0 = y0
  rotate_left
  · simp [h0]
  by_cases h1 : x1 = y1
  rotate_left
  · simp [h1]
  simp [h0, h1]

end Go.Proofs.Ytffiompkjhopkaa.V
