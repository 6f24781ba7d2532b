/- Contracts: slices.IsSorted over []int, span.kept, span.Many. -/
import Derived.Test.YthmjjogmgjagmaaC1
namespace Go.Proofs.Ythmjjogmgjagmaa
open Go.RowKit

/-- the zero span for a span that may not be, or has no day -/
def keptFrom (a b : Int) : Int := if spanRight a b && !(a == b) then a else 0
def keptTo (a b : Int) : Int := if spanRight a b && !(a == b) then b else 0

set_option maxHeartbeats 400000 in
theorem kept_any (a b : Int) (w : World) :
    Calls Try.prog 29 #[.agg #[.int .i64 a, .int .i64 b]] w fun e w' => e = .returned (.agg #[.int .i64 (keptFrom a b), .int .i64 (keptTo a b)]) ∧ Below w.heap.size w w' := by
  go_enter Try.func29, Try.ntmps29
  go_wp2_with fail
  refine (spanRight_any _ _ _).mono ?_
  rintro e w1 ⟨rfl, hb⟩
  obtain ⟨hc, hf⟩ := bcell hb
  have hz : w.heap.size + 1 < w1.heap.size := by have := hb.size; simp at this; omega
  go_wp2
  all_goals
    refine bodyPost_ret (v := .agg #[.int .i64 (keptFrom a b), .int .i64 (keptTo a b)]) (by simp [results, Try.results29, go_sem, hc, hf, hz, keptFrom, keptTo, *]) rfl ⟨rfl, ?_⟩
    exact ((((Below.refl _ _).alloc (Nat.le_refl _) _).alloc (by simp) _).trans (hb.mono (by simp; omega))).setCell (by simp) _ |>.setCell (by simp) _

theorem kept_le (a b : Int) : 0 ≤ keptFrom a b ∧ keptFrom a b ≤ keptTo a b ∧ keptTo a b ≤ 292195 := by
  unfold keptFrom keptTo spanRight
  split
  · simp_all
    omega
  · omega

def spanMany (a b : Int) : Int := keptTo a b - keptFrom a b

set_option maxHeartbeats 400000 in
theorem many_any (a b : Int) (w : World) :
    Calls Try.prog 22 #[.agg #[.int .i64 a, .int .i64 b]] w fun e w' => e = .returned (.int .i64 (spanMany a b)) ∧ Below w.heap.size w w' := by
  obtain ⟨k1, k2, k3⟩ := kept_le a b
  go_enter Try.func22, Try.ntmps22
  go_wp2_with fail
  refine (kept_any _ _ _).mono ?_
  rintro e w1 ⟨rfl, hb⟩
  obtain ⟨hc, hf⟩ := bcell hb
  have hz : w.heap.size < w1.heap.size := by have := hb.size; simp at this; omega
  go_wp2
  go_ret
  refine ⟨rfl, ?_⟩
  exact ((((Below.refl _ _).alloc (Nat.le_refl _) _)).trans (hb.mono (by simp))).setCell (by simp) _ |>.setCell (by simp) _

set_option maxHeartbeats 400000 in
theorem isSorted_any (A : Option Addr) (n cap : Nat) (l : List Int) (w : World) (hn : n = l.length) (hl : n ≤ maxLen) (hA : RowsAt w w.heap.size 1 isInt A l) :
    Calls Try.prog 27 #[.slice A n cap] w fun e w' => e = .returned (.bool (rises l)) ∧ ∃ n, w' = w.drewN n := by
  unfold maxLen at hl
  have HA := Lib.hid hA
  clear hA
  have Hn := Lib.hid hn
  clear hn
  go_enter Try.func27, Try.ntmps27
  go_wp2
  go_loopw [3] (fun i wr => ∃ k : Nat, k < n + 1 ∧ i = .int .i64 ((k : Int) - 1) ∧ (∀ j, k ≤ j + 1 → j + 1 < n → l.getD j 0 ≤ l.getD (j + 1) 0) ∧ ∃ m, wr = w.drewN m) (fun i _ => (intOf i + 1).toNat)
  case atStart => exact ⟨n, by omega, rfl, by omega, 0, rfl⟩
  case round =>
    obtain ⟨k, hk, rfl, hs, hwr⟩ := hrel
    have Hwr := Lib.hid hwr
    rcases Nat.lt_or_ge 1 k with h2 | h2
    · obtain ⟨j, rfl⟩ : ∃ j, k = j + 2 := ⟨k - 2, by omega⟩
      rw [show ((j + 2 : Nat) : Int) - 1 = (j : Int) + 1 from by omega]
      have hln := Hn.out
      obtain ⟨b, off, rfl, hb, hc⟩ := ints_at (w := wr) (HA.out.below (by obtain ⟨m, rfl⟩ := hwr; exact below_drewN (Below.refl _ _) m)) (by omega)
      have c0 := hc j (by omega)
      have c1 := hc (j + 1) (by omega)
      clear hc hwr hln
      generalize hg0 : l.getD j 0 = x0 at c0
      generalize hg1 : l.getD (j+1) 0 = x1 at c1
      have G0 := Lib.hid hg0
      have G1 := Lib.hid hg1
      have Hs := Lib.hid hs
      clear hg0 hg1 hs
      go_wp2
      go_quiet ((go_at_call 30; exact quiet_left (less_any _ _ _)))
      go_wp2
      · go_ret
        refine ⟨ret_bool (Eq.symm (Bool.eq_false_iff.2 fun h => ?_)), ?_⟩
        · have h' := (rises_iff l).1 h j (by rw [← Hn.out]; omega)
          rw [G0.out, G1.out] at h'
          omega
        · obtain ⟨m, rfl⟩ := Hwr.out
          exact ⟨m + nq, by rw [World.drewN_drewN]⟩
      · go_roundw
        case rel =>
          refine ⟨j + 1, by omega, by go_num, fun i h1 h3 => ?_, ?_⟩
          · rcases Nat.lt_or_ge j i with h4 | h4
            · exact Hs.out i (by omega) h3
            · obtain rfl : i = j := by omega
              rw [G0.out, G1.out]; omega
          · obtain ⟨m, rfl⟩ := Hwr.out
            exact ⟨m + nq, by rw [World.drewN_drewN]⟩
        case measure => simp [intOf]; omega
    · have Hs := Lib.hid hs
      clear hs hwr
      go_wp2
      go_ret
      refine ⟨ret_bool (Eq.symm ((rises_iff l).2 fun j hj => Hs.out j (by omega) (by rw [Hn.out]; exact hj))), Hwr.out⟩

end Go.Proofs.Ythmjjogmgjagmaa
