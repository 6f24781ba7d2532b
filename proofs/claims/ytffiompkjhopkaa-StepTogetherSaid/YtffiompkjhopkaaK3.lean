/- Chapter 4's plain laws of right steps as lists of points: Set in general. -/
import Derived.Test.YtffiompkjhopkaaP28
set_option linter.unusedSimpArgs false
set_option linter.unusedVariables false
namespace Go.Proofs.Ytffiompkjhopkaa.V
open Go.RowKit

theorem rightS_pts {a v : List Int} (h : rightS a v = true) : ∃ f : Pts, a = f.map Prod.fst ∧ v = f.map Prod.snd ∧ rightG 0 0 f = true := by
  simp only [rightS, Bool.and_eq_true, decide_eq_true_eq] at h
  exact ⟨a.zip v, (zip_fst h.1).symm, (zip_snd h.1).symm, h.2⟩

theorem zip_maps : ∀ f : Pts, (f.map Prod.fst).zip (f.map Prod.snd) = f
  | [] => rfl
  | p :: f => by simp [zip_maps f]

theorem rightS_of (f : Pts) : rightS (f.map Prod.fst) (f.map Prod.snd) = rightG 0 0 f := by simp [rightS, zip_maps]

def SetP (f : Pts) (s t w : Int) : Pts := if (fullS s t && money w) = true then setL f s t w else f

theorem fullS_iff {s t : Int} : fullS s t = true ↔ 1 ≤ s ∧ s < t ∧ t ≤ 292195 := by simp [fullS, and_assoc]

theorem SetP_right {f : Pts} (hf : rightG 0 0 f = true) (s t w : Int) : rightG 0 0 (SetP f s t w) = true := by
  unfold SetP
  split
  · rename_i h
    rw [Bool.and_eq_true, fullS_iff] at h
    exact setL_right hf h.1.1 h.1.2.1 h.2
  · exact hf

theorem SetP_val {f : Pts} (hf : rightG 0 0 f = true) {s t w x : Int} (hx : x ≤ 292194) : valG 0 (SetP f s t w) x = if (fullS s t && money w) = true ∧ s ≤ x ∧ x < t then w else valG 0 f x := by
  unfold SetP
  by_cases h : (fullS s t && money w) = true
  · rw [if_pos h]
    have h' := h
    rw [Bool.and_eq_true, fullS_iff] at h'
    rw [setL_val hf h'.1.2.1 hx, setG]
    simp [h]
  · rw [if_neg h]
    simp [h]

theorem cmpr_len : ∀ (l : Pts) (a : Int), (cmpr a l).length ≤ l.length
  | [], _ => by simp [cmpr]
  | p :: l, a => by
    unfold cmpr
    split
    · have := cmpr_len l p.2; simp only [List.length_cons]; omega
    · have := cmpr_len l a; simp only [List.length_cons]; omega

theorem SetP_len (f : Pts) (s t w : Int) : (SetP f s t w).length ≤ f.length + 2 := by
  unfold SetP
  split
  · refine Nat.le_trans (cmpr_len _ _) ?_
    simp [ptsOf, List.length_mergeSort]
  · omega

theorem setA_pts {f : Pts} (hf : rightG 0 0 f = true) (s t w : Int) : setA (f.map Prod.fst) (f.map Prod.snd) s t w = (SetP f s t w).map Prod.fst ∧ setV (f.map Prod.fst) (f.map Prod.snd) s t w = (SetP f s t w).map Prod.snd := by
  have h : rightS (f.map Prod.fst) (f.map Prod.snd) = true := by rw [rightS_of]; exact hf
  unfold setA setV SetP
  rw [if_pos h, if_pos h, zip_maps]
  split <;> exact ⟨rfl, rfl⟩

theorem set_p {f : Pts} (hf : rightG 0 0 f = true) (hl : f.length ≤ 900) (s t w : Int) : Fun Try.prog 27 [.agg [ints (f.map Prod.fst), ints (f.map Prod.snd)], .agg [int s, int t], int w] (.agg [ints ((SetP f s t w).map Prod.fst), ints ((SetP f s t w).map Prod.snd)]) := by
  have h := set_f (f.map Prod.fst) (f.map Prod.snd) s t w (by simpa using hl)
  rw [(setA_pts hf s t w).1, (setA_pts hf s t w).2] at h
  exact h

theorem at_p {f : Pts} (hf : rightG 0 0 f = true) (hl : f.length ≤ 900) (x : Int) : Fun Try.prog 24 [.agg [ints (f.map Prod.fst), ints (f.map Prod.snd)], int x] (int (valG 0 f x)) := by
  have h := at_f (f.map Prod.fst) (f.map Prod.snd) x (by simp; omega)
  rw [if_pos (by rw [rightS_of]; exact hf), zip_maps] at h
  exact h

theorem right_p {f : Pts} (hf : rightG 0 0 f = true) : Fun Try.prog 22 [.agg [ints (f.map Prod.fst), ints (f.map Prod.snd)]] (bool true) := by
  have h := right_f (f.map Prod.fst) (f.map Prod.snd)
  rw [rightS_of, hf] at h
  exact h

theorem few_p {f : Pts} (hl : f.length ≤ 100) : Fun Try.prog 21 [.agg [ints (f.map Prod.fst), ints (f.map Prod.snd)]] (bool true) := by
  have h := few4_f (f.map Prod.fst) (f.map Prod.snd)
  simp only [List.length_map, hl, decide_true, Bool.and_true] at h
  exact h

theorem in_bounds {a b : Int} : 1 ≤ min (1 + a % 292195) (1 + b % 292195) ∧ min (1 + a % 292195) (1 + b % 292195) ≤ max (1 + a % 292195) (1 + b % 292195) ∧ max (1 + a % 292195) (1 + b % 292195) ≤ 292195 := by
  have h1 := Int.emod_nonneg a (show (292195 : Int) ≠ 0 by decide)
  have h2 := Int.emod_nonneg b (show (292195 : Int) ≠ 0 by decide)
  have h3 := Int.emod_lt_of_pos a (show (0 : Int) < 292195 by decide)
  have h4 := Int.emod_lt_of_pos b (show (0 : Int) < 292195 by decide)
  omega
theorem u32_of {n : Int} (h : (Lit.int .u32 n).wf = true) : 0 ≤ n ∧ n ≤ 4294967295 := by
  simp [Lit.wf] at h
  revert h
  simp [IntKind.has, IntKind.min, IntKind.max, IntKind.signed, IntKind.bits]
theorem i32_of {n : Int} (h : (Lit.int .i32 n).wf = true) : -2147483648 ≤ n ∧ n ≤ 2147483647 := by
  simp [Lit.wf] at h
  revert h
  simp [IntKind.has, IntKind.min, IntKind.max, IntKind.signed, IntKind.bits]

/-- Of few places, or not. -/
theorem fewN {a v : List Int} (h : ¬ (a.length ≤ 100 ∧ v.length ≤ 100)) : Fun Try.prog 21 [.agg [ints a, ints v]] (bool false) := by
  have k : (decide (a.length ≤ 100) && decide (v.length ≤ 100)) = false := by simp; omega
  have c := few4_f a v
  rwa [k] at c
theorem fewY {a v : List Int} (h : a.length ≤ 100 ∧ v.length ≤ 100) : Fun Try.prog 21 [.agg [ints a, ints v]] (bool true) := by
  have c := few4_f a v
  rwa [decide_eq_true h.1, decide_eq_true h.2] at c

theorem inAB (a b : Int) : 1 ≤ inA a b ∧ inA a b ≤ inB a b ∧ inB a b ≤ 292195 := in_bounds


theorem sum_p {f : Pts} (hf : rightG 0 0 f = true) (hl : f.length ≤ 1000) {s t : Int} (h1 : 1 ≤ s) (h2 : s < t) (h3 : t ≤ 292195) : Fun Try.prog 30 [.agg [ints (f.map Prod.fst), ints (f.map Prod.snd)], .agg [int s, int t]] (.tup (if absT f s t ≤ 4000000000000000000 then [int (sumT f s t), int 0] else [int 0, int 5])) := by
  have c := sum_f (f.map Prod.fst) (f.map Prod.snd) s t (by simpa using hl)
  rw [if_pos ⟨by rw [rightS_of]; exact hf, by rw [fullS_iff]; omega⟩, zip_maps, sumL_eq (right_lt hf) h2] at c
  by_cases h : absT f s t ≤ 4000000000000000000
  · rw [if_pos h] at c ⊢; exact c
  · rw [if_neg h] at c ⊢; exact c
end Go.Proofs.Ytffiompkjhopkaa.V
