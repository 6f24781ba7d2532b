/- slices.SortStableFunc: exchanges. -/
import Derived.Test.YtkagkiepicepeaaF1
import Derived.Test.YtkagkiepicepeaaS3
set_option linter.unusedSimpArgs false
set_option linter.unusedVariables false
namespace Go.Proofs.Ytkagkiepicepeaa.V
open Go.RowKit
set_option maxRecDepth 100000

/-- Two elements change places. -/
def swp {α : Type} (l : List α) (i j : Nat) : List α := match l[i]?, l[j]? with | some x, some y => (l.set i y).set j x | _, _ => l
theorem swp_len {α : Type} (l : List α) (i j : Nat) : (swp l i j).length = l.length := by
  unfold swp
  split <;> simp
theorem swp_seg {α : Type} (A B C : List α) (x y : α) (i j : Nat) (hi : i = A.length) (hj : j = A.length + 1 + B.length) : swp (A ++ x :: (B ++ y :: C)) i j = A ++ y :: (B ++ x :: C) := by
  subst hi hj
  have h1 : (A ++ x :: (B ++ y :: C))[A.length]? = some x := by simp
  have h2 : (A ++ x :: (B ++ y :: C))[A.length + 1 + B.length]? = some y := by
    rw [List.getElem?_append_right (by omega), show A.length + 1 + B.length - A.length = B.length + 1 by omega, List.getElem?_cons_succ, List.getElem?_append_right (by omega)]
    simp
  unfold swp
  simp only [h1, h2]
  rw [List.set_append_right _ _ (by omega), Nat.sub_self, List.set_cons_zero, List.set_append_right _ _ (by omega), show A.length + 1 + B.length - A.length = B.length + 1 by omega, List.set_cons_succ, List.set_append_right _ _ (by omega), Nat.sub_self, List.set_cons_zero]
def swapR {α : Type} (l : List α) (a b : Nat) : Nat → List α
  | 0 => l
  | i + 1 => swp (swapR l a b i) (a + i) (b + i)
theorem swapR_len {α : Type} (l : List α) (a b : Nat) : ∀ i, (swapR l a b i).length = l.length
  | 0 => rfl
  | i + 1 => by rw [swapR, swp_len, swapR_len l a b i]

theorem swapR_seg {α : Type} (l : List α) (a b : Nat) : ∀ (n : Nat) (X U V W Y : List α), l = X ++ (U ++ (V ++ (W ++ Y))) → U.length = n → W.length = n → a = X.length → b = X.length + U.length + V.length → swapR l a b n = X ++ (W ++ (V ++ (U ++ Y)))
  | 0, X, U, V, W, Y, hl, hu, hw, ha, hb => by
    obtain rfl : U = [] := List.eq_nil_of_length_eq_zero hu
    obtain rfl : W = [] := List.eq_nil_of_length_eq_zero hw
    simpa [swapR] using hl
  | n + 1, X, U, V, W, Y, hl, hu, hw, ha, hb => by
    rcases List.eq_nil_or_concat U with rfl | ⟨U, u, rfl⟩
    · simp at hu
    rcases List.eq_nil_or_concat W with rfl | ⟨W, w, rfl⟩
    · simp at hw
    simp only [List.concat_eq_append, List.length_append, List.length_singleton] at hu hw hb hl ⊢
    have ih := swapR_seg l a b n X U (u :: V) W (w :: Y) (by rw [hl]; simp) (by omega) (by omega) ha (by simp; omega)
    rw [swapR, ih]
    have := swp_seg (X ++ W) (V ++ U) Y u w (a + n) (b + n) (by simp; omega) (by simp; omega)
    simp only [List.append_assoc, List.cons_append, List.nil_append] at this ⊢
    exact this

theorem set_pair {α : Type} (A C : List α) (p x : α) (i j : Nat) (hi : i = A.length + 1) (hj : j = A.length) : ((A ++ p :: x :: C).set i p).set j x = A ++ x :: p :: C := by
  subst hi hj
  rw [List.set_append_right _ _ (by omega), show A.length + 1 - A.length = 1 by omega, List.set_cons_succ, List.set_cons_zero, List.set_append_right _ _ (by omega), Nat.sub_self, List.set_cons_zero]
theorem set_pair2 {α : Type} (A C : List α) (p x : α) (i j : Nat) (hi : i = A.length) (hj : j = A.length + 1) : ((A ++ p :: x :: C).set i x).set j p = A ++ x :: p :: C := by
  subst hi hj
  rw [List.set_append_right _ _ (by omega), Nat.sub_self, List.set_cons_zero, List.set_append_right _ _ (by omega), show A.length + 1 - A.length = 1 by omega, List.set_cons_succ, List.set_cons_zero]
theorem at_mid {α : Type} (A C : List α) (x : α) (i : Nat) (hi : i = A.length) : (A ++ x :: C)[i]? = some x := by
  subst hi; simp

/-- The cells of a row. -/
def rowC {α : Type} (F : α → List AV) (l : List α) : List AV := (l.map F).flatten

theorem rowC_len {α : Type} {F : α → List AV} {k : Nat} (hk : ∀ x, (F x).length = k) (l : List α) : (rowC F l).length = l.length * k := rows_count hk l

@[go_sem] theorem rowI_ren (r : Nat → Nat) (l : List Int) : (rowC irow l).map (AV.ren r) = rowC irow l := rows_ren (fun x r => by simp [irow]) r l
@[go_sem] theorem rowI_nms (p : Nat → Bool) (l : List Int) : (rowC irow l).all (AV.names p) = true := rows_nms (fun x p => by simp [irow]) p l
theorem rowI_nms' (p : Nat → Bool) (l : List Int) : (∀ x, x ∈ rowC irow l → AV.names p x = true) ↔ True := by
  simp only [iff_true]
  exact List.all_eq_true.1 (rowI_nms p l)
theorem rowI_at (l : List Int) (i : Nat) : (rowC irow l)[i]? = (l[i]?).map fun n => int n := by
  unfold rowC
  induction l generalizing i with
  | nil => simp
  | cons x l ih =>
    rcases i with _ | i
    · simp [irow]
    · simpa [irow] using ih i
theorem rowI_some {l : List Int} {i : Nat} {x : Int} (h : l[i]? = some x) : (rowC irow l)[i]? = some (int x) := by rw [rowI_at, h]; rfl
theorem rowI_eq (l : List Int) : rowC irow l = l.map fun n => int n := by
  unfold rowC
  induction l with
  | nil => rfl
  | cons x l ih => simp [irow]; simpa [irow] using ih
theorem rowI_ne {l : List Int} (h : l ≠ []) : (rowC irow l = []) ↔ False := by simp [rowI_eq, h]
theorem rowI_len (l : List Int) : (rowC irow l).length = l.length := by simp [rowI_eq]
theorem rowI_put (l : List Int) (i : Nat) (x : Int) (h : i < l.length) : List.take i (rowC irow l) ++ [int x] ++ List.drop (i + 1) (rowC irow l) = rowC irow (l.set i x) := by
  rw [rowI_eq, rowI_eq, List.map_set, List.set_eq_take_append_cons_drop, if_pos (by simpa using h)]
  simp
theorem rowI_set (l : List Int) (i : Nat) (x : Int) (h : i < l.length) : splice (rowC irow l) i [int x] = rowC irow (l.set i x) := by
  rw [rowI_eq, rowI_eq, splice, List.map_set, List.set_eq_take_append_cons_drop, if_pos (by simpa using h)]
  simp
theorem rowI_nz {l : List Int} (h : 0 < l.length) : (rowC irow l = []) ↔ False := rowI_ne (by intro e; subst e; simp at h)
end Go.Proofs.Ytkagkiepicepeaa.V
