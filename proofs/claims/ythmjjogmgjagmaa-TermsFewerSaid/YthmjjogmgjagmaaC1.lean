/- Contracts: cmp.Less, slices.IsSorted over []int, span.Right, span.kept, span.Many, risk.Right. -/
import Derived.Test.YthmjjogmgjagmaaT
namespace Go.Proofs.Ythmjjogmgjagmaa
open Go.RowKit

set_option maxHeartbeats 400000 in
theorem isNaN_any (a : Int) (w : World) : Calls Try.prog 31 #[.int .i64 a] w fun e w' => e = .returned (.bool false) ∧ w = w' := by
  have h : (a != a) = false := by simp
  go_enter Try.func31, Try.ntmps31
  go_wp2
  go_ret
  exact ⟨rfl, rfl⟩

set_option maxHeartbeats 400000 in
theorem less_any (a b : Int) (w : World) : Calls Try.prog 30 #[.int .i64 a, .int .i64 b] w fun e w' => e = .returned (.bool (decide (a < b))) ∧ w = w' := by
  go_enter Try.func30, Try.ntmps30
  go_wp2_with (go_at_call 31; refine (isNaN_any _ _).mono ?_; rintro e w' ⟨rfl, rfl⟩)
  all_goals go_ret
  all_goals exact ⟨rfl, rfl⟩

/-- rising numbers -/
def rises : List Int → Bool
  | a :: b :: r => decide (a ≤ b) && rises (b :: r)
  | _ => true
theorem rises_iff (l : List Int) : rises l = true ↔ ∀ j, j + 1 < l.length → l.getD j 0 ≤ l.getD (j + 1) 0 := by
  induction l with
  | nil => simp [rises]
  | cons a r ih =>
    cases r with
    | nil => simp [rises]
    | cons b r =>
      simp only [rises, Bool.and_eq_true, decide_eq_true_eq, ih]
      constructor
      · rintro ⟨h, hr⟩ j hj
        cases j with
        | zero => simpa using h
        | succ j => simpa using hr j (by simpa using hj)
      · intro h
        exact ⟨by simpa using h 0 (by simp), fun j hj => by simpa using h (j + 1) (by simpa using hj)⟩

def spanRight (a b : Int) : Bool := decide (1 ≤ a) && decide (a ≤ b) && decide (b ≤ 292195)

set_option maxHeartbeats 400000 in
theorem spanRight_any (a b : Int) (w : World) :
    Calls Try.prog 20 #[.agg #[.int .i64 a, .int .i64 b]] w fun e w' => e = .returned (.bool (spanRight a b)) ∧ Below w.heap.size w w' := by
  go_enter Try.func20, Try.ntmps20
  go_wp2
  all_goals go_ret
  all_goals exact ⟨ret_bool (by rw [Bool.eq_iff_iff]; simp [spanRight]; omega), (Below.refl _ _).alloc (Nat.le_refl _) _⟩

def riskRight (kind value age zone : Int) : Bool := decide (0 ≤ kind) && decide (kind < 4) && decide (1 ≤ value) && decide (value ≤ 1000000000000000) && decide (0 ≤ age) && decide (age ≤ 200) && decide (0 ≤ zone) && decide (zone < 100)

set_option maxHeartbeats 400000 in
theorem riskRight_any (a b c d : Int) (w : World) :
    Calls Try.prog 16 #[.agg #[.int .i64 a, .int .i64 b, .int .i64 c, .int .i64 d]] w fun e w' => e = .returned (.bool (riskRight a b c d)) ∧ Below w.heap.size w w' := by
  go_enter Try.func16, Try.ntmps16
  go_wp2
  all_goals go_ret
  all_goals exact ⟨ret_bool (by rw [Bool.eq_iff_iff]; simp [riskRight]; omega), (Below.refl _ _).alloc (Nat.le_refl _) _⟩

end Go.Proofs.Ythmjjogmgjagmaa
