/- Contracts: the references of chapters 4 (Full), 6, 8, 10. -/
import Derived.Test.YthmjjogmgjagmaaC7
namespace Go.Proofs.Ythmjjogmgjagmaa
open Go.RowKit

def full (a b : Int) : Bool := decide (1 ≤ a) && decide (a < b) && decide (b ≤ 292195)

set_option maxHeartbeats 400000 in
theorem full_any (a b : Int) (w : World) :
    Calls Try.prog 25 #[.agg #[.int .i64 a, .int .i64 b]] w fun e w' => e = .returned (.bool (full a b)) ∧ Below w.heap.size w w' := by
  go_enter Try.func25, Try.ntmps25
  go_wp2
  all_goals go_ret
  all_goals exact ⟨ret_bool (by rw [Bool.eq_iff_iff]; simp [full]; omega), (Below.refl _ _).alloc (Nat.le_refl _) _⟩

set_option maxHeartbeats 400000 in
theorem ref06Right_any (a b c d : Int) (w : World) :
    Calls Try.prog 26 #[.agg #[.int .i64 a, .int .i64 b, .int .i64 c, .int .i64 d]] w fun e w' => e = .returned (.bool (riskRight a b c d)) ∧ Below w.heap.size w w' := by
  go_enter Try.func26, Try.ntmps26
  go_wp2
  all_goals go_ret
  all_goals exact ⟨ret_bool (by rw [Bool.eq_iff_iff]; simp [riskRight]; omega), (Below.refl _ _).alloc (Nat.le_refl _) _⟩

set_option maxHeartbeats 400000 in
theorem ref08Right_any (p l a d s : Int) (w : World) :
    Calls Try.prog 17 #[.agg #[.int .i64 p, .int .i64 l, .int .i64 a, .int .i64 d, .int .i64 s]] w fun e w' => e = .returned (.bool (coverRight p l a d s)) ∧ Below w.heap.size w w' := by
  go_enter Try.func17, Try.ntmps17
  go_wp2
  all_goals go_ret
  all_goals exact ⟨ret_bool (by rw [Bool.eq_iff_iff]; simp [coverRight]; omega), (Below.refl _ _).alloc (Nat.le_refl _) _⟩

end Go.Proofs.Ythmjjogmgjagmaa
