/- '==' at structs of ints. -/
import Derived.Test.YtkagkiepicepeaaS1
set_option linter.unusedSimpArgs false
set_option linter.unusedVariables false
namespace Go.Proofs.Ytkagkiepicepeaa.V
open Go.RowKit

theorem run_eqGuard_agg {P : Program} {t : TypeId} {a b : Array Value} {x y : Operand} {w : World} (hg : P.eqGuardType P.depth t = false) : (eqGuard .eql t x y (.agg a) (.agg b)).run P w = .ok () w := by
  simp [eqGuard, hg]

set_option maxHeartbeats 1000000 in
set_option maxRecDepth 100000 in
@[go_sem] theorem eqIntsSpan : EqInts Try.prog 29 2 := by
  intro xs ys hx hy w
  obtain ⟨x0, xs, rfl⟩ := List.exists_cons_of_length_pos (l := xs) (by omega)
  simp only [List.length_cons] at hx
  obtain ⟨x1, xs, rfl⟩ := List.exists_cons_of_length_pos (l := xs) (by omega)
  simp only [List.length_cons] at hx
  obtain rfl : xs = [] := List.eq_nil_of_length_eq_zero (by omega)
  obtain ⟨y0, ys, rfl⟩ := List.exists_cons_of_length_pos (l := ys) (by omega)
  simp only [List.length_cons] at hy
  obtain ⟨y1, ys, rfl⟩ := List.exists_cons_of_length_pos (l := ys) (by omega)
  simp only [List.length_cons] at hy
  obtain rfl : ys = [] := List.eq_nil_of_length_eq_zero (by omega)
  clear hx hy
  have hS : Try.prog.underlying 29 = some (.struct (Try.prog.fieldsOf 29)) := by kernel_rfl
  have hp : Try.prog.stoodInHeld 29 = false := by kernel_rfl
  have hg : Try.prog.eqGuardType Try.prog.depth 29 = false := by kernel_rfl
  rw [Sem.run_bind, run_eqGuard_agg hg, Result.andThen_ok]
  refine (?_ : ∀ d, (Op.equalIn (d + 2 + 1) 29 _ _).run Try.prog w = _) 9997
  intro d
  rw [run_equalIn_agg w (d + 2) 29 _ _ hS hp]
  clear hS hp hg
  simp only [Program.fieldsOf, Try.underlying29, List.map_cons, List.map_nil]
  go_simp
  by_cases h0 : x0 = y0
  rotate_left
  · simp [h0]
  by_cases h1 : x1 = y1
  rotate_left
  · simp [h1]
  simp [h0, h1]

set_option maxHeartbeats 1000000 in
set_option maxRecDepth 100000 in
@[go_sem] theorem eqIntsAct : EqInts Try.prog 40 3 := by
  intro xs ys hx hy w
  obtain ⟨x0, xs, rfl⟩ := List.exists_cons_of_length_pos (l := xs) (by omega)
  simp only [List.length_cons] at hx
  obtain ⟨x1, xs, rfl⟩ := List.exists_cons_of_length_pos (l := xs) (by omega)
  simp only [List.length_cons] at hx
  obtain ⟨x2, xs, rfl⟩ := List.exists_cons_of_length_pos (l := xs) (by omega)
  simp only [List.length_cons] at hx
  obtain rfl : xs = [] := List.eq_nil_of_length_eq_zero (by omega)
  obtain ⟨y0, ys, rfl⟩ := List.exists_cons_of_length_pos (l := ys) (by omega)
  simp only [List.length_cons] at hy
  obtain ⟨y1, ys, rfl⟩ := List.exists_cons_of_length_pos (l := ys) (by omega)
  simp only [List.length_cons] at hy
  obtain ⟨y2, ys, rfl⟩ := List.exists_cons_of_length_pos (l := ys) (by omega)
  simp only [List.length_cons] at hy
  obtain rfl : ys = [] := List.eq_nil_of_length_eq_zero (by omega)
  clear hx hy
  have hS : Try.prog.underlying 40 = some (.struct (Try.prog.fieldsOf 40)) := by kernel_rfl
  have hp : Try.prog.stoodInHeld 40 = false := by kernel_rfl
  have hg : Try.prog.eqGuardType Try.prog.depth 40 = false := by kernel_rfl
  rw [Sem.run_bind, run_eqGuard_agg hg, Result.andThen_ok]
  refine (?_ : ∀ d, (Op.equalIn (d + 2 + 1) 40 _ _).run Try.prog w = _) 9997
  intro d
  rw [run_equalIn_agg w (d + 2) 40 _ _ hS hp]
  clear hS hp hg
  simp only [Program.fieldsOf, Try.underlying40, List.map_cons, List.map_nil]
  go_simp
  by_cases h0 : x0 = y0
  rotate_left
  · simp [h0]
  by_cases h1 : x1 = y1
  rotate_left
  · simp [h1]
  by_cases h2 : x2 = y2
  rotate_left
  · simp [h2]
  simp [h0, h1, h2]

set_option maxHeartbeats 1000000 in
set_option maxRecDepth 100000 in
@[go_sem] theorem eqIntsRisk : EqInts Try.prog 31 4 := by
  intro xs ys hx hy w
  obtain ⟨x0, xs, rfl⟩ := List.exists_cons_of_length_pos (l := xs) (by omega)
  simp only [List.length_cons] at hx
  obtain ⟨x1, xs, rfl⟩ := List.exists_cons_of_length_pos (l := xs) (by omega)
  simp only [List.length_cons] at hx
  obtain ⟨x2, xs, rfl⟩ := List.exists_cons_of_length_pos (l := xs) (by omega)
  simp only [List.length_cons] at hx
  obtain ⟨x3, xs, rfl⟩ := List.exists_cons_of_length_pos (l := xs) (by omega)
  simp only [List.length_cons] at hx
  obtain rfl : xs = [] := List.eq_nil_of_length_eq_zero (by omega)
  obtain ⟨y0, ys, rfl⟩ := List.exists_cons_of_length_pos (l := ys) (by omega)
  simp only [List.length_cons] at hy
  obtain ⟨y1, ys, rfl⟩ := List.exists_cons_of_length_pos (l := ys) (by omega)
  simp only [List.length_cons] at hy
  obtain ⟨y2, ys, rfl⟩ := List.exists_cons_of_length_pos (l := ys) (by omega)
  simp only [List.length_cons] at hy
  obtain ⟨y3, ys, rfl⟩ := List.exists_cons_of_length_pos (l := ys) (by omega)
  simp only [List.length_cons] at hy
  obtain rfl : ys = [] := List.eq_nil_of_length_eq_zero (by omega)
  clear hx hy
  have hS : Try.prog.underlying 31 = some (.struct (Try.prog.fieldsOf 31)) := by kernel_rfl
  have hp : Try.prog.stoodInHeld 31 = false := by kernel_rfl
  have hg : Try.prog.eqGuardType Try.prog.depth 31 = false := by kernel_rfl
  rw [Sem.run_bind, run_eqGuard_agg hg, Result.andThen_ok]
  refine (?_ : ∀ d, (Op.equalIn (d + 2 + 1) 31 _ _).run Try.prog w = _) 9997
  intro d
  rw [run_equalIn_agg w (d + 2) 31 _ _ hS hp]
  clear hS hp hg
  simp only [Program.fieldsOf, Try.underlying31, List.map_cons, List.map_nil]
  go_simp
  by_cases h0 : x0 = y0
  rotate_left
  · simp [h0]
  by_cases h1 : x1 = y1
  rotate_left
  · simp [h1]
  by_cases h2 : x2 = y2
  rotate_left
  · simp [h2]
  by_cases h3 : x3 = y3
  rotate_left
  · simp [h3]
  simp [h0, h1, h2, h3]

set_option maxHeartbeats 1000000 in
set_option maxRecDepth 100000 in
@[go_sem] theorem eqIntsCover : EqInts Try.prog 111 5 := by
  intro xs ys hx hy w
  obtain ⟨x0, xs, rfl⟩ := List.exists_cons_of_length_pos (l := xs) (by omega)
  simp only [List.length_cons] at hx
  obtain ⟨x1, xs, rfl⟩ := List.exists_cons_of_length_pos (l := xs) (by omega)
  simp only [List.length_cons] at hx
  obtain ⟨x2, xs, rfl⟩ := List.exists_cons_of_length_pos (l := xs) (by omega)
  simp only [List.length_cons] at hx
  obtain ⟨x3, xs, rfl⟩ := List.exists_cons_of_length_pos (l := xs) (by omega)
  simp only [List.length_cons] at hx
  obtain ⟨x4, xs, rfl⟩ := List.exists_cons_of_length_pos (l := xs) (by omega)
  simp only [List.length_cons] at hx
  obtain rfl : xs = [] := List.eq_nil_of_length_eq_zero (by omega)
  obtain ⟨y0, ys, rfl⟩ := List.exists_cons_of_length_pos (l := ys) (by omega)
  simp only [List.length_cons] at hy
  obtain ⟨y1, ys, rfl⟩ := List.exists_cons_of_length_pos (l := ys) (by omega)
  simp only [List.length_cons] at hy
  obtain ⟨y2, ys, rfl⟩ := List.exists_cons_of_length_pos (l := ys) (by omega)
  simp only [List.length_cons] at hy
  obtain ⟨y3, ys, rfl⟩ := List.exists_cons_of_length_pos (l := ys) (by omega)
  simp only [List.length_cons] at hy
  obtain ⟨y4, ys, rfl⟩ := List.exists_cons_of_length_pos (l := ys) (by omega)
  simp only [List.length_cons] at hy
  obtain rfl : ys = [] := List.eq_nil_of_length_eq_zero (by omega)
  clear hx hy
  have hS : Try.prog.underlying 111 = some (.struct (Try.prog.fieldsOf 111)) := by kernel_rfl
  have hp : Try.prog.stoodInHeld 111 = false := by kernel_rfl
  have hg : Try.prog.eqGuardType Try.prog.depth 111 = false := by kernel_rfl
  rw [Sem.run_bind, run_eqGuard_agg hg, Result.andThen_ok]
  refine (?_ : ∀ d, (Op.equalIn (d + 2 + 1) 111 _ _).run Try.prog w = _) 9997
  intro d
  rw [run_equalIn_agg w (d + 2) 111 _ _ hS hp]
  clear hS hp hg
  simp only [Program.fieldsOf, Try.underlying111, List.map_cons, List.map_nil]
  go_simp
  by_cases h0 : x0 = y0
  rotate_left
  · simp [h0]
  by_cases h1 : x1 = y1
  rotate_left
  · simp [h1]
  by_cases h2 : x2 = y2
  rotate_left
  · simp [h2]
  by_cases h3 : x3 = y3
  rotate_left
  · simp [h3]
  by_cases h4 : x4 = y4
  rotate_left
  · simp [h4]
  simp [h0, h1, h2, h3, h4]

set_option maxHeartbeats 1000000 in
set_option maxRecDepth 100000 in
@[go_sem] theorem eqIntsClaim : EqInts Try.prog 38 6 := by
  intro xs ys hx hy w
  obtain ⟨x0, xs, rfl⟩ := List.exists_cons_of_length_pos (l := xs) (by omega)
  simp only [List.length_cons] at hx
  obtain ⟨x1, xs, rfl⟩ := List.exists_cons_of_length_pos (l := xs) (by omega)
  simp only [List.length_cons] at hx
  obtain ⟨x2, xs, rfl⟩ := List.exists_cons_of_length_pos (l := xs) (by omega)
  simp only [List.length_cons] at hx
  obtain ⟨x3, xs, rfl⟩ := List.exists_cons_of_length_pos (l := xs) (by omega)
  simp only [List.length_cons] at hx
  obtain ⟨x4, xs, rfl⟩ := List.exists_cons_of_length_pos (l := xs) (by omega)
  simp only [List.length_cons] at hx
  obtain ⟨x5, xs, rfl⟩ := List.exists_cons_of_length_pos (l := xs) (by omega)
  simp only [List.length_cons] at hx
  obtain rfl : xs = [] := List.eq_nil_of_length_eq_zero (by omega)
  obtain ⟨y0, ys, rfl⟩ := List.exists_cons_of_length_pos (l := ys) (by omega)
  simp only [List.length_cons] at hy
  obtain ⟨y1, ys, rfl⟩ := List.exists_cons_of_length_pos (l := ys) (by omega)
  simp only [List.length_cons] at hy
  obtain ⟨y2, ys, rfl⟩ := List.exists_cons_of_length_pos (l := ys) (by omega)
  simp only [List.length_cons] at hy
  obtain ⟨y3, ys, rfl⟩ := List.exists_cons_of_length_pos (l := ys) (by omega)
  simp only [List.length_cons] at hy
  obtain ⟨y4, ys, rfl⟩ := List.exists_cons_of_length_pos (l := ys) (by omega)
  simp only [List.length_cons] at hy
  obtain ⟨y5, ys, rfl⟩ := List.exists_cons_of_length_pos (l := ys) (by omega)
  simp only [List.length_cons] at hy
  obtain rfl : ys = [] := List.eq_nil_of_length_eq_zero (by omega)
  clear hx hy
  have hS : Try.prog.underlying 38 = some (.struct (Try.prog.fieldsOf 38)) := by kernel_rfl
  have hp : Try.prog.stoodInHeld 38 = false := by kernel_rfl
  have hg : Try.prog.eqGuardType Try.prog.depth 38 = false := by kernel_rfl
  rw [Sem.run_bind, run_eqGuard_agg hg, Result.andThen_ok]
  refine (?_ : ∀ d, (Op.equalIn (d + 2 + 1) 38 _ _).run Try.prog w = _) 9997
  intro d
  rw [run_equalIn_agg w (d + 2) 38 _ _ hS hp]
  clear hS hp hg
  simp only [Program.fieldsOf, Try.underlying38, List.map_cons, List.map_nil]
  go_simp
  by_cases h0 : x0 = y0
  rotate_left
  · simp [h0]
  by_cases h1 : x1 = y1
  rotate_left
  · simp [h1]
  by_cases h2 : x2 = y2
  rotate_left
  · simp [h2]
  by_cases h3 : x3 = y3
  rotate_left
  · simp [h3]
  by_cases h4 : x4 = y4
  rotate_left
  · simp [h4]
  by_cases h5 : x5 = y5
  rotate_left
  · simp [h5]
  simp [h0, h1, h2, h3, h4, h5]

set_option maxHeartbeats 1000000 in
set_option maxRecDepth 100000 in
@[go_sem] theorem eqIntsTreaty : EqInts Try.prog 42 9 := by
  intro xs ys hx hy w
  obtain ⟨x0, xs, rfl⟩ := List.exists_cons_of_length_pos (l := xs) (by omega)
  simp only [List.length_cons] at hx
  obtain ⟨x1, xs, rfl⟩ := List.exists_cons_of_length_pos (l := xs) (by omega)
  simp only [List.length_cons] at hx
  obtain ⟨x2, xs, rfl⟩ := List.exists_cons_of_length_pos (l := xs) (by omega)
  simp only [List.length_cons] at hx
  obtain ⟨x3, xs, rfl⟩ := List.exists_cons_of_length_pos (l := xs) (by omega)
  simp only [List.length_cons] at hx
  obtain ⟨x4, xs, rfl⟩ := List.exists_cons_of_length_pos (l := xs) (by omega)
  simp only [List.length_cons] at hx
  obtain ⟨x5, xs, rfl⟩ := List.exists_cons_of_length_pos (l := xs) (by omega)
  simp only [List.length_cons] at hx
  obtain ⟨x6, xs, rfl⟩ := List.exists_cons_of_length_pos (l := xs) (by omega)
  simp only [List.length_cons] at hx
  obtain ⟨x7, xs, rfl⟩ := List.exists_cons_of_length_pos (l := xs) (by omega)
  simp only [List.length_cons] at hx
  obtain ⟨x8, xs, rfl⟩ := List.exists_cons_of_length_pos (l := xs) (by omega)
  simp only [List.length_cons] at hx
  obtain rfl : xs = [] := List.eq_nil_of_length_eq_zero (by omega)
  obtain ⟨y0, ys, rfl⟩ := List.exists_cons_of_length_pos (l := ys) (by omega)
  simp only [List.length_cons] at hy
  obtain ⟨y1, ys, rfl⟩ := List.exists_cons_of_length_pos (l := ys) (by omega)
  simp only [List.length_cons] at hy
  obtain ⟨y2, ys, rfl⟩ := List.exists_cons_of_length_pos (l := ys) (by omega)
  simp only [List.length_cons] at hy
  obtain ⟨y3, ys, rfl⟩ := List.exists_cons_of_length_pos (l := ys) (by omega)
  simp only [List.length_cons] at hy
  obtain ⟨y4, ys, rfl⟩ := List.exists_cons_of_length_pos (l := ys) (by omega)
  simp only [List.length_cons] at hy
  obtain ⟨y5, ys, rfl⟩ := List.exists_cons_of_length_pos (l := ys) (by omega)
  simp only [List.length_cons] at hy
  obtain ⟨y6, ys, rfl⟩ := List.exists_cons_of_length_pos (l := ys) (by omega)
  simp only [List.length_cons] at hy
  obtain ⟨y7, ys, rfl⟩ := List.exists_cons_of_length_pos (l := ys) (by omega)
  simp only [List.length_cons] at hy
  obtain ⟨y8, ys, rfl⟩ := List.exists_cons_of_length_pos (l := ys) (by omega)
  simp only [List.length_cons] at hy
  obtain rfl : ys = [] := List.eq_nil_of_length_eq_zero (by omega)
  clear hx hy
  have hS : Try.prog.underlying 42 = some (.struct (Try.prog.fieldsOf 42)) := by kernel_rfl
  have hp : Try.prog.stoodInHeld 42 = false := by kernel_rfl
  have hg : Try.prog.eqGuardType Try.prog.depth 42 = false := by kernel_rfl
  have kS : ∀ (d : Nat) (a b c e : Int) (w : World), (Op.equalIn (d + 1 + 1) 29 (.agg #[.int .i64 a, .int .i64 b]) (.agg #[.int .i64 c, .int .i64 e])).run Try.prog w = .ok (decide (a = c ∧ b = e)) w := by
    intro d a b c e w
    have hS : Try.prog.underlying 29 = some (.struct (Try.prog.fieldsOf 29)) := by kernel_rfl
    have hp : Try.prog.stoodInHeld 29 = false := by kernel_rfl
    rw [run_equalIn_agg w (d + 1) 29 _ _ hS hp]
    clear hS hp
    simp only [Program.fieldsOf, Try.underlying29]
    go_simp
    by_cases h0 : a = c <;> by_cases h1 : b = e <;> simp [h0, h1]
  rw [Sem.run_bind, run_eqGuard_agg hg, Result.andThen_ok]
  refine (?_ : ∀ d, (Op.equalIn (d + 2 + 1) 42 _ _).run Try.prog w = _) 9997
  intro d
  rw [run_equalIn_agg w (d + 2) 42 _ _ hS hp]
  clear hS hp hg
  simp only [Program.fieldsOf, Try.underlying42, List.map_cons, List.map_nil]
  go_simp
  by_cases h0 : x0 = y0
  rotate_left
  · simp [h0]
  by_cases h1 : x1 = y1
  rotate_left
  · simp [h1]
  by_cases h2 : x2 = y2
  rotate_left
  · simp [h2]
  by_cases h3 : x3 = y3
  rotate_left
  · simp [h3]
  by_cases h4 : x4 = y4
  rotate_left
  · simp [h4]
  by_cases h5 : x5 = y5
  rotate_left
  · simp [h5]
  by_cases h6 : x6 = y6
  rotate_left
  · simp [h6]
  by_cases h7 : x7 = y7
  rotate_left
  · simp [h7]
  by_cases h8 : x8 = y8
  rotate_left
  · simp [h8]
  simp [h0, h1, h2, h3, h4, h5, h6, h7, h8]

end Go.Proofs.Ytkagkiepicepeaa.V
