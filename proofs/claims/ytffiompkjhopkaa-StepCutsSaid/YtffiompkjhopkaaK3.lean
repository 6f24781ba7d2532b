/- Chapter 4's plain laws of right steps as lists of points: Set in general. -/
import Derived.Test.YtffiompkjhopkaaP25
set_option linter.unusedSimpArgs false
set_option linter.unusedVariables false
namespace Go.Proofs.Ytffiompkjhopkaa.V
open Go.RowKit

theorem rightS_pts {a v : List Int} (h : rightS a v = true) : ∃ f : Pts, a = f.map Prod.fst ∧ v = f.map Prod.snd ∧ rightG 0 0 f = true := by
  simp only [rightS, Bool.and_eq_true, decide_eq_true_eq] at h
  exact ⟨a.zip v, (zip_fst h.1).symm, (zip_snd h.1).symm, h.2⟩

theorem zip_maps : ∀ f : Pts, (f.map Prod.fst).zip (f.map Prod.snd) = f
  | [] => rfl
  | p :: f => by simp [zip_maps f]

theorem rightS_of (f : Pts) : rightS (f.map Prod.fst) (f.map Prod.snd) = rightG 0 0 f := by simp [rightS, zip_maps]

def SetP (f : Pts) (s t w : Int) : Pts := if (fullS s t && money w) = true then setL f s t w else f

theorem fullS_iff {s t : Int} : fullS s t = true ↔ 1 ≤ s ∧ s < t ∧ t ≤ 292195 := by simp [fullS, and_assoc]

theorem SetP_right {f : Pts} (hf : rightG 0 0 f = true) (s t w : Int) : rightG 0 0 (SetP f s t w) = true := by
  unfold SetP
  split
  · rename_i h
    rw [Bool.and_eq_true, fullS_iff] at h
    exact setL_right hf h.1.1 h.1.2.1 h.2
  · exact hf

theorem SetP_val {f : Pts} (hf : rightG 0 0 f = true) {s t w x : Int} (hx : x ≤ 292194) : valG 0 (SetP f s t w) x = if (fullS s t && money w) = true ∧ s ≤ x ∧ x < t then w else valG 0 f x := by
  unfold SetP
  by_cases h : (fullS s t && money w) = true
  · rw [if_pos h]
    have h' := h
    rw [Bool.and_eq_true, fullS_iff] at h'
    rw [setL_val hf h'.1.2.1 hx, setG]
    simp [h]
  · rw [if_neg h]
    simp [h]

theorem cmpr_len : ∀ (l : Pts) (a : Int), (cmpr a l).length ≤ l.length
  | [], _ => by simp [cmpr]
  | p :: l, a => by
    unfold cmpr
    split
    · have := cmpr_len l p.2; simp only [List.length_cons]; omega
    · have := cmpr_len l a; simp only [List.length_cons]; omega

theorem SetP_len (f : Pts) (s t w : Int) : (SetP f s t w).length ≤ f.length + 2 := by
  unfold SetP
  split
  · refine Nat.le_trans (cmpr_len _ _) ?_
    simp [ptsOf, List.length_mergeSort]
  · omega

theorem setA_pts {f : Pts} (hf : rightG 0 0 f = true) (s t w : Int) : setA (f.map Prod.fst) (f.map Prod.snd) s t w = (SetP f s t w).map Prod.fst ∧ setV (f.map Prod.fst) (f.map Prod.snd) s t w = (SetP f s t w).map Prod.snd := by
  have h : rightS (f.map Prod.fst) (f.map Prod.snd) = true := by rw [rightS_of]; exact hf
  unfold setA setV SetP
  rw [if_pos h, if_pos h, zip_maps]
  split <;> exact ⟨rfl, rfl⟩

theorem set_p {f : Pts} (hf : rightG 0 0 f = true) (hl : f.length ≤ 900) (s t w : Int) : Fun Try.prog 27 [.agg [ints (f.map Prod.fst), ints (f.map Prod.snd)], .agg [int s, int t], int w] (.agg [ints ((SetP f s t w).map Prod.fst), ints ((SetP f s t w).map Prod.snd)]) := by
  have h := set_f (f.map Prod.fst) (f.map Prod.snd) s t w (by simpa using hl)
  rw [(setA_pts hf s t w).1, (setA_pts hf s t w).2] at h
  exact h

theorem at_p {f : Pts} (hf : rightG 0 0 f = true) (hl : f.length ≤ 900) (x : Int) : Fun Try.prog 24 [.agg [ints (f.map Prod.fst), ints (f.map Prod.snd)], int x] (int (valG 0 f x)) := by
  have h := at_f (f.map Prod.fst) (f.map Prod.snd) x (by simp; omega)
  rw [if_pos (by rw [rightS_of]; exact hf), zip_maps] at h
  exact h

theorem right_p {f : Pts} (hf : rightG 0 0 f = true) : Fun Try.prog 22 [.agg [ints (f.map Prod.fst), ints (f.map Prod.snd)]] (bool true) := by
  have h := right_f (f.map Prod.fst) (f.map Prod.snd)
  rw [rightS_of, hf] at h
  exact h

theorem few_p {f : Pts} (hl : f.length ≤ 100) : Fun Try.prog 21 [.agg [ints (f.map Prod.fst), ints (f.map Prod.snd)]] (bool true) := by
  have h := few4_f (f.map Prod.fst) (f.map Prod.snd)
  simp only [List.length_map, hl, decide_true, Bool.and_true] at h
  exact h

theorem in_bounds {a b : Int} : 1 ≤ min (1 + a % 292195) (1 + b % 292195) ∧ min (1 + a % 292195) (1 + b % 292195) ≤ max (1 + a % 292195) (1 + b % 292195) ∧ max (1 + a % 292195) (1 + b % 292195) ≤ 292195 := by
  have h1 := Int.emod_nonneg a (show (292195 : Int) ≠ 0 by decide)
  have h2 := Int.emod_nonneg b (show (292195 : Int) ≠ 0 by decide)
  have h3 := Int.emod_lt_of_pos a (show (0 : Int) < 292195 by decide)
  have h4 := Int.emod_lt_of_pos b (show (0 : Int) < 292195 by decide)
  omega
end Go.Proofs.Ytffiompkjhopkaa.V
