/- Contracts: cover.Right, bordereauref08.Right, bordereauref06.Right, bordereauref04.Full. -/
import Derived.Test.YthmjjogmgjagmaaC2
import Derived.OpenShut
namespace Go.Proofs.Ythmjjogmgjagmaa
open Go.RowKit

def coverRight (p l a d s : Int) : Bool := decide (0 ≤ p ∧ p < 8 ∧ 1 ≤ s ∧ s ≤ 10000 ∧ 0 ≤ d ∧ d < l ∧ l ≤ a ∧ a ≤ 1000000000000000)

theorem rises_cover (l a d : Int) (hl : (Lit.int .i64 l).wf = true) (ha : (Lit.int .i64 a).wf = true) :
    (rises [0, d, wrap64 (l - 1), wrap64 (a - 1), 999999999999999] = true ∧ d < l) ↔ (0 ≤ d ∧ d < l ∧ l ≤ a ∧ a ≤ 1000000000000000) := by
  have h1 := bounds_i64 hl
  have h2 := bounds_i64 ha
  simp only [rises, wrap64, Bool.and_eq_true, decide_eq_true_eq, Bool.and_true]
  omega

set_option maxHeartbeats 400000 in
theorem coverRight_any (p l a d s : Int) (hl : (Lit.int .i64 l).wf = true) (ha : (Lit.int .i64 a).wf = true) (w : World) :
    Calls Try.prog 15 #[.agg #[.int .i64 p, .int .i64 l, .int .i64 a, .int .i64 d, .int .i64 s]] w fun e w' => e = .returned (.bool (coverRight p l a d s)) ∧ Below w.heap.size w w' := by
  have H := Lib.hid (rises_cover l a d hl ha)
  clear hl ha
  go_enter Try.func15, Try.ntmps15
  go_wp2_with fail
  · refine (isSorted_any (some ⟨w.heap.size + 1, 0, none⟩) 5 5 [0, d, wrap64 (l - 1), wrap64 (a - 1), 999999999999999] _ rfl (by decide) (isInt_made _ _ _ rfl (by simp) (by simp))).mono ?_
    rintro e w1 ⟨rfl, n, rfl⟩
    generalize hr : rises [0, d, wrap64 (l - 1), wrap64 (a - 1), 999999999999999] = r at *
    cases r
    all_goals
      go_wp2
      all_goals go_ret
      all_goals refine ⟨ret_bool ?_, below_drewN (((Below.refl _ _).alloc (Nat.le_refl _) _).alloc (by simp) _) _⟩
      all_goals
        have H' := H.out
        clear H
        rw [Bool.eq_iff_iff]
        simp [coverRight] at H' ⊢
        omega
  all_goals go_ret
  all_goals refine ⟨ret_bool ?_, ((Below.refl _ _).alloc (Nat.le_refl _) _)⟩
  all_goals
    rw [Bool.eq_iff_iff]
    simp [coverRight]
    omega

end Go.Proofs.Ythmjjogmgjagmaa
