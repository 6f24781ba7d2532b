/- '==' at structs of ints. -/
import Derived.Test.YtjplhfmakghabaaS1
set_option linter.unusedSimpArgs false
set_option linter.unusedVariables false
namespace Go.Proofs.Ytjplhfmakghabaa.V
open Go.RowKit

theorem run_eqGuard_agg {P : Program} {t : TypeId} {a b : Array Value} {x y : Operand} {w : World} (hg : P.eqGuardType P.depth t = false) : (eqGuard .eql t x y (.agg a) (.agg b)).run P w = .ok () w := by
  simp [eqGuard, hg]

set_option maxHeartbeats 1000000 in
set_option maxRecDepth 100000 in
@[go_sem] theorem eqIntsClaim : EqInts Try.prog 41 6 := by
  intro xs ys hx hy w
  obtain ⟨x0, xs, rfl⟩ := List.exists_cons_of_length_pos (l := xs) (by omega)
  simp only [List.length_cons] at hx
  obtain ⟨x1, xs, rfl⟩ := List.exists_cons_of_length_pos (l := xs) (by omega)
  simp only [List.length_cons] at hx
  obtain ⟨x2, xs, rfl⟩ := List.exists_cons_of_length_pos (l := xs) (by omega)
  simp only [List.length_cons] at hx
  obtain ⟨x3, xs, rfl⟩ := List.exists_cons_of_length_pos (l := xs) (by omega)
  simp only [List.length_cons] at hx
  obtain ⟨x4, xs, rfl⟩ := List.exists_cons_of_length_pos (l := xs) (by omega)
  simp only [List.length_cons] at hx
  obtain ⟨x5, xs, rfl⟩ := List.exists_cons_of_length_pos (l := xs) (by omega)
  simp only [List.length_cons] at hx
  obtain rfl : xs = [] := List.eq_nil_of_length_eq_zero (by omega)
  obtain ⟨y0, ys, rfl⟩ := List.exists_cons_of_length_pos (l := ys) (by omega)
  simp only [List.length_cons] at hy
  obtain ⟨y1, ys, rfl⟩ := List.exists_cons_of_length_pos (l := ys) (by omega)
  simp only [List.length_cons] at hy
  obtain ⟨y2, ys, rfl⟩ := List.exists_cons_of_length_pos (l := ys) (by omega)
  simp only [List.length_cons] at hy
  obtain ⟨y3, ys, rfl⟩ := List.exists_cons_of_length_pos (l := ys) (by omega)
  simp only [List.length_cons] at hy
  obtain ⟨y4, ys, rfl⟩ := List.exists_cons_of_length_pos (l := ys) (by omega)
  simp only [List.length_cons] at hy
  obtain ⟨y5, ys, rfl⟩ := List.exists_cons_of_length_pos (l := ys) (by omega)
  simp only [List.length_cons] at hy
  obtain rfl : ys = [] := List.eq_nil_of_length_eq_zero (by omega)
  clear hx hy
  have hS : Try.prog.underlying 41 = some (.struct (Try.prog.fieldsOf 41)) := by kernel_rfl
  have hp : Try.prog.stoodInHeld 41 = false := by kernel_rfl
  have hg : Try.prog.eqGuardType Try.prog.depth 41 = false := by kernel_rfl
  rw [Sem.run_bind, run_eqGuard_agg hg, Result.andThen_ok]
  refine (?_ : ∀ d, (Op.equalIn (d + 2 + 1) 41 _ _).run Try.prog w = _) 9997
  intro d
  rw [run_equalIn_agg w (d + 2) 41 _ _ hS hp]
  clear hS hp hg
  simp only [Program.fieldsOf, Try.underlying41, List.map_cons, List.map_nil]
  go_simp
  by_cases h0 : x0 = y0
  rotate_left
  · simp [h0]
  by_cases h1 : x1 = y1
  rotate_left
  · simp [h1]
  by_cases h2 : x2 = y2
  rotate_left
  · simp [h2]
  by_cases h3 : x3 = y3
  rotate_left
  · simp [h3]
  by_cases h4 : x4 = y4
  rotate_left
  · simp [h4]
  by_cases h5 : x5 = y5
  rotate_left
  · simp [h5]
  simp [h0, h1, h2, h3, h4, h5]

set_option maxHeartbeats 1000000 in
set_option maxRecDepth 100000 in
@[go_sem] theorem eqIntsAct : EqInts Try.prog 50 3 := by
  intro xs ys hx hy w
  obtain ⟨x0, xs, rfl⟩ := List.exists_cons_of_length_pos (l := xs) (by omega)
  simp only [List.length_cons] at hx
  obtain ⟨x1, xs, rfl⟩ := List.exists_cons_of_length_pos (l := xs) (by omega)
  simp only [List.length_cons] at hx
  obtain ⟨x2, xs, rfl⟩ := List.exists_cons_of_length_pos (l := xs) (by omega)
  simp only [List.length_cons] at hx
  obtain rfl : xs = [] := List.eq_nil_of_length_eq_zero (by omega)
  obtain ⟨y0, ys, rfl⟩ := List.exists_cons_of_length_pos (l := ys) (by omega)
  simp only [List.length_cons] at hy
  obtain ⟨y1, ys, rfl⟩ := List.exists_cons_of_length_pos (l := ys) (by omega)
  simp only [List.length_cons] at hy
  obtain ⟨y2, ys, rfl⟩ := List.exists_cons_of_length_pos (l := ys) (by omega)
  simp only [List.length_cons] at hy
  obtain rfl : ys = [] := List.eq_nil_of_length_eq_zero (by omega)
  clear hx hy
  have hS : Try.prog.underlying 50 = some (.struct (Try.prog.fieldsOf 50)) := by kernel_rfl
  have hp : Try.prog.stoodInHeld 50 = false := by kernel_rfl
  have hg : Try.prog.eqGuardType Try.prog.depth 50 = false := by kernel_rfl
  rw [Sem.run_bind, run_eqGuard_agg hg, Result.andThen_ok]
  refine (?_ : ∀ d, (Op.equalIn (d + 2 + 1) 50 _ _).run Try.prog w = _) 9997
  intro d
  rw [run_equalIn_agg w (d + 2) 50 _ _ hS hp]
  clear hS hp hg
  simp only [Program.fieldsOf, Try.underlying50, List.map_cons, List.map_nil]
  go_simp
  by_cases h0 : x0 = y0
  rotate_left
  · simp [h0]
  by_cases h1 : x1 = y1
  rotate_left
  · simp [h1]
  by_cases h2 : x2 = y2
  rotate_left
  · simp [h2]
  simp [h0, h1, h2]

set_option maxHeartbeats 1000000 in
set_option maxRecDepth 100000 in
@[go_sem] theorem eqIntsArr3 : EqInts Try.prog 48 3 := by
  intro xs ys hx hy w
  obtain ⟨x0, x1, x2, rfl⟩ : ∃ a b c, xs = [a, b, c] := by
    match xs, hx with
    | [a, b, c], _ => exact ⟨a, b, c, rfl⟩
  obtain ⟨y0, y1, y2, rfl⟩ : ∃ a b c, ys = [a, b, c] := by
    match ys, hy with
    | [a, b, c], _ => exact ⟨a, b, c, rfl⟩
  clear hx hy
  have hg : Try.prog.eqGuardType Try.prog.depth 48 = false := by kernel_rfl
  rw [Sem.run_bind, run_eqGuard_agg hg, Result.andThen_ok]
  have hI : ∀ (a b : Int) (w : World), (Op.equalIn 9999 3 (.int .i64 a) (.int .i64 b)).run Try.prog w = .ok (a == b) w := fun a b w => run_equalIn_int w 9998 3 .i64 .i64 a b Try.underlying3
  refine (?_ : ∀ D, (∀ (a b : Int) (w : World), (Op.equalIn D 3 (.int .i64 a) (.int .i64 b)).run Try.prog w = .ok (a == b) w) → (Op.equalIn (D + 1) 48 _ _).run Try.prog w = _) 9999 hI
  clear hI
  intro D hI
  simp only [Op.equalIn, Sem.run_bind, run_underlying Try.underlying48, Result.andThen_ok]
  simp only [part]
  go_simp
  simp only [List.range', List.forIn_cons, List.forIn_nil, Nat.reduceAdd]
  by_cases h0 : x0 = y0
  rotate_left
  · go_simp
  by_cases h1 : x1 = y1
  rotate_left
  · go_simp
  by_cases h2 : x2 = y2
  · go_simp
  · go_simp

set_option maxHeartbeats 1000000 in
set_option maxRecDepth 100000 in
@[go_sem] theorem eqScsPos (x0 x1 x2 x3 x4 y0 y1 y2 y3 y4 : Int) (x5 y5 : Bool) : EqScs Try.prog 38 [.i x0, .i x1, .i x2, .i x3, .i x4, .b x5] [.i y0, .i y1, .i y2, .i y3, .i y4, .b y5] := by
  intro w
  simp only [List.map_cons, List.map_nil, Sc.v]
  have hS : Try.prog.underlying 38 = some (.struct (Try.prog.fieldsOf 38)) := by kernel_rfl
  have hp : Try.prog.stoodInHeld 38 = false := by kernel_rfl
  have hg : Try.prog.eqGuardType Try.prog.depth 38 = false := by kernel_rfl
  rw [Sem.run_bind, run_eqGuard_agg hg, Result.andThen_ok]
  refine (?_ : ∀ d, (Op.equalIn (d + 2 + 1) 38 _ _).run Try.prog w = _) 9997
  intro d
  rw [run_equalIn_agg w (d + 2) 38 _ _ hS hp]
  clear hS hp hg
  simp only [Program.fieldsOf, Try.underlying38, List.map_cons, List.map_nil]
  go_simp
  by_cases h0 : x0 = y0
  rotate_left
  · simp [h0]
  by_cases h1 : x1 = y1
  rotate_left
  · simp [h1]
  by_cases h2 : x2 = y2
  rotate_left
  · simp [h2]
  by_cases h3 : x3 = y3
  rotate_left
  · simp [h3]
  by_cases h4 : x4 = y4
  rotate_left
  · simp [h4]
  by_cases h5 : x5 = y5
  rotate_left
  · simp [h5]
  simp [h0, h1, h2, h3, h4, h5]
end Go.Proofs.Ytjplhfmakghabaa.V
