/- '==' at bands and at arrays of ints. -/
import Derived.Test.YtkagkiepicepeaaS3
set_option linter.unusedSimpArgs false
set_option linter.unusedVariables false
namespace Go.Proofs.Ytkagkiepicepeaa.V
open Go.RowKit

set_option maxHeartbeats 1000000 in
set_option maxRecDepth 100000 in
@[go_sem] theorem eqIntsBand : EqInts Try.prog 138 2 := by
  intro xs ys hx hy w
  obtain ⟨x0, xs, rfl⟩ := List.exists_cons_of_length_pos (l := xs) (by omega)
  simp only [List.length_cons] at hx
  obtain ⟨x1, xs, rfl⟩ := List.exists_cons_of_length_pos (l := xs) (by omega)
  simp only [List.length_cons] at hx
  obtain rfl : xs = [] := List.eq_nil_of_length_eq_zero (by omega)
  obtain ⟨y0, ys, rfl⟩ := List.exists_cons_of_length_pos (l := ys) (by omega)
  simp only [List.length_cons] at hy
  obtain ⟨y1, ys, rfl⟩ := List.exists_cons_of_length_pos (l := ys) (by omega)
  simp only [List.length_cons] at hy
  obtain rfl : ys = [] := List.eq_nil_of_length_eq_zero (by omega)
  clear hx hy
  have hS : Try.prog.underlying 138 = some (.struct (Try.prog.fieldsOf 138)) := by kernel_rfl
  have hp : Try.prog.stoodInHeld 138 = false := by kernel_rfl
  have hg : Try.prog.eqGuardType Try.prog.depth 138 = false := by kernel_rfl
  rw [Sem.run_bind, run_eqGuard_agg hg, Result.andThen_ok]
  refine (?_ : ∀ d, (Op.equalIn (d + 2 + 1) 138 _ _).run Try.prog w = _) 9997
  intro d
  rw [run_equalIn_agg w (d + 2) 138 _ _ hS hp]
  clear hS hp hg
  simp only [Program.fieldsOf, Try.underlying138, List.map_cons, List.map_nil]
  go_simp
  by_cases h0 : x0 = y0
  rotate_left
  · simp [h0]
  by_cases h1 : x1 = y1
  rotate_left
  · simp [h1]
  simp [h0, h1]

set_option maxHeartbeats 1000000 in
set_option maxRecDepth 100000 in
@[go_sem] theorem eqIntsArr4 : EqInts Try.prog 78 4 := by
  intro xs ys hx hy w
  obtain ⟨x0, x1, x2, x3, rfl⟩ : ∃ a b c d, xs = [a, b, c, d] := by
    match xs, hx with
    | [a, b, c, d], _ => exact ⟨a, b, c, d, rfl⟩
  obtain ⟨y0, y1, y2, y3, rfl⟩ : ∃ a b c d, ys = [a, b, c, d] := by
    match ys, hy with
    | [a, b, c, d], _ => exact ⟨a, b, c, d, rfl⟩
  clear hx hy
  have hg : Try.prog.eqGuardType Try.prog.depth 78 = false := by kernel_rfl
  rw [Sem.run_bind, run_eqGuard_agg hg, Result.andThen_ok]
  have hI : ∀ (a b : Int) (w : World), (Op.equalIn 9999 3 (.int .i64 a) (.int .i64 b)).run Try.prog w = .ok (a == b) w := fun a b w => run_equalIn_int w 9998 3 .i64 .i64 a b Try.underlying3
  refine (?_ : ∀ D, (∀ (a b : Int) (w : World), (Op.equalIn D 3 (.int .i64 a) (.int .i64 b)).run Try.prog w = .ok (a == b) w) → (Op.equalIn (D + 1) 78 _ _).run Try.prog w = _) 9999 hI
  clear hI
  intro D hI
  simp only [Op.equalIn, Sem.run_bind, run_underlying Try.underlying78, Result.andThen_ok]
  simp only [part]
  go_simp
  simp only [List.range', List.forIn_cons, List.forIn_nil, Nat.reduceAdd]
  by_cases h0 : x0 = y0
  rotate_left
  · go_simp
  by_cases h1 : x1 = y1
  rotate_left
  · go_simp
  by_cases h2 : x2 = y2
  rotate_left
  · go_simp
  by_cases h3 : x3 = y3
  · go_simp
  · go_simp
end Go.Proofs.Ytkagkiepicepeaa.V
