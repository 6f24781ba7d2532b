/- Rows of cells; lists. -/
import Derived.Test.YtjplhfmakghabaaS2
set_option linter.unusedSimpArgs false
set_option linter.unusedVariables false
namespace Go.Proofs.Ytjplhfmakghabaa.V
open Go.RowKit
set_option maxRecDepth 100000

theorem take_eq_snoc {α : Type} {a b : List α} {i : Nat} (hi : i < a.length) (hj : i < b.length) (h : a.take i = b.take i) (he : a[i] = b[i]) : a.take (i + 1) = b.take (i + 1) := by
  rw [List.take_succ_eq_append_getElem hi, List.take_succ_eq_append_getElem hj, h, he]

theorem take_eq_all {α : Type} {a b : List α} {i : Nat} (hn : a.length = b.length) (hi : ¬ i < a.length) (h : a.take i = b.take i) : a = b := by
  rwa [List.take_of_length_le (by omega), List.take_of_length_le (by omega)] at h

theorem ne_at {α : Type} {a b : List α} {i : Nat} (hi : i < a.length) (hj : i < b.length) (h : ¬ a[i] = b[i]) : ¬ a = b := by
  intro e; subst e; exact h rfl

theorem filt_yes {α : Type} {p : α → Bool} {l : List α} {i : Nat} (hi : i < l.length) (h : p l[i] = true) : (l.take (i + 1)).filter p = (l.take i).filter p ++ [l[i]] := by
  rw [List.take_succ_eq_append_getElem hi, List.filter_append]
  simp [h]
theorem filt_no {α : Type} {p : α → Bool} {l : List α} {i : Nat} (hi : i < l.length) (h : p l[i] = false) : (l.take (i + 1)).filter p = (l.take i).filter p := by
  rw [List.take_succ_eq_append_getElem hi, List.filter_append]
  simp [h]

/-- A slice that is appended to, from nil on: it lies in block b. -/
def outV (b k : Nat) {α : Type} (l : List α) : AV := if l.length = 0 then .v (.slice none 0 0) else .osl b k 0 l.length
theorem outV_nil {b k : Nat} {α : Type} {l : List α} (h : l = []) : outV b k l = .v (.slice none 0 0) := by simp [outV, h]
theorem outV_some {b k : Nat} {α : Type} {l : List α} (h : ¬ l = []) : outV b k l = .osl b k 0 l.length := by simp [outV, h]
theorem outV_snoc {b k : Nat} {α : Type} (l : List α) (x : α) : outV b k (l ++ [x]) = .osl b k 0 (l.length + 1) := by simp [outV]
/-- Its block. -/
def outB (t : TypeId) {α : Type} (F : α → List AV) (l : List α) : Option Bx := if l.length = 0 then none else some ⟨t, (l.map F).flatten⟩
theorem outB_nil {t : TypeId} {α : Type} {F : α → List AV} {l : List α} (h : l = []) : outB t F l = none := by simp [outB, h]
theorem outB_some {t : TypeId} {α : Type} {F : α → List AV} {l : List α} (h : ¬ l = []) : outB t F l = some ⟨t, (l.map F).flatten⟩ := by simp [outB, h]
theorem outB_snoc {t : TypeId} {α : Type} {F : α → List AV} (l : List α) (x : α) : outB t F (l ++ [x]) = some ⟨t, (l.map F).flatten ++ F x⟩ := by simp [outB]
/-- Name b is c. -/
@[go_sem] def nm1 (b c : Nat) (x : Nat) : Nat := if x = b then c else x

theorem rows_ren {α : Type} {F : α → List AV} (hF : ∀ x r, (F x).map (AV.ren r) = F x) (r : Nat → Nat) : ∀ l : List α, ((l.map F).flatten).map (AV.ren r) = (l.map F).flatten
  | [] => rfl
  | x :: l => by rw [List.map_cons, List.flatten_cons, List.map_append, hF, rows_ren hF r l]
theorem rows_nms {α : Type} {F : α → List AV} (hF : ∀ x p, (F x).all (AV.names p) = true) (p : Nat → Bool) : ∀ l : List α, ((l.map F).flatten).all (AV.names p) = true
  | [] => rfl
  | x :: l => by rw [List.map_cons, List.flatten_cons, List.all_append, hF, rows_nms hF p l]; rfl
theorem rows_count {α : Type} {F : α → List AV} {k : Nat} (hk : ∀ x, (F x).length = k) (l : List α) : ((l.map F).flatten).length = l.length * k := by
  have := length_flat (l.map F) (rows_len hk l)
  rwa [List.length_map] at this
/-- The cells of a row. -/
def rowC {α : Type} (F : α → List AV) (l : List α) : List AV := (l.map F).flatten

theorem rowC_len {α : Type} {F : α → List AV} {k : Nat} (hk : ∀ x, (F x).length = k) (l : List α) : (rowC F l).length = l.length * k := rows_count hk l

@[go_sem] theorem rowI_ren (r : Nat → Nat) (l : List Int) : (rowC irow l).map (AV.ren r) = rowC irow l := rows_ren (fun x r => by simp [irow]) r l
@[go_sem] theorem rowI_nms (p : Nat → Bool) (l : List Int) : (rowC irow l).all (AV.names p) = true := rows_nms (fun x p => by simp [irow]) p l
theorem rowI_nms' (p : Nat → Bool) (l : List Int) : (∀ x, x ∈ rowC irow l → AV.names p x = true) ↔ True := by
  simp only [iff_true]
  exact List.all_eq_true.1 (rowI_nms p l)
theorem rowI_at (l : List Int) (i : Nat) : (rowC irow l)[i]? = (l[i]?).map fun n => int n := by
  unfold rowC
  induction l generalizing i with
  | nil => simp
  | cons x l ih =>
    rcases i with _ | i
    · simp [irow]
    · simpa [irow] using ih i
theorem rowI_some {l : List Int} {i : Nat} {x : Int} (h : l[i]? = some x) : (rowC irow l)[i]? = some (int x) := by rw [rowI_at, h]; rfl
theorem rowI_eq (l : List Int) : rowC irow l = l.map fun n => int n := by
  unfold rowC
  induction l with
  | nil => rfl
  | cons x l ih => simp [irow]; simpa [irow] using ih
theorem rowI_ne {l : List Int} (h : l ≠ []) : (rowC irow l = []) ↔ False := by simp [rowI_eq, h]
theorem rowI_len (l : List Int) : (rowC irow l).length = l.length := by simp [rowI_eq]
theorem rowI_put (l : List Int) (i : Nat) (x : Int) (h : i < l.length) : List.take i (rowC irow l) ++ [int x] ++ List.drop (i + 1) (rowC irow l) = rowC irow (l.set i x) := by
  rw [rowI_eq, rowI_eq, List.map_set, List.set_eq_take_append_cons_drop, if_pos (by simpa using h)]
  simp
theorem rowI_set (l : List Int) (i : Nat) (x : Int) (h : i < l.length) : splice (rowC irow l) i [int x] = rowC irow (l.set i x) := by
  rw [rowI_eq, rowI_eq, splice, List.map_set, List.set_eq_take_append_cons_drop, if_pos (by simpa using h)]
  simp
theorem rowI_nz {l : List Int} (h : 0 < l.length) : (rowC irow l = []) ↔ False := rowI_ne (by intro e; subst e; simp at h)

/-- Pairs of numbers: spans. -/
@[go_sem] def prow (p : Int × Int) : List AV := [int p.1, int p.2]
abbrev prs (l : List (Int × Int)) : AV := .sl false 2 (l.map prow)
@[go_sem] theorem rowP_ren (r : Nat → Nat) (l : List (Int × Int)) : (rowC prow l).map (AV.ren r) = rowC prow l := rows_ren (fun x r => by simp [prow]) r l
@[go_sem] theorem rowP_nms (p : Nat → Bool) (l : List (Int × Int)) : (rowC prow l).all (AV.names p) = true := rows_nms (fun x p => by simp [prow]) p l
theorem rowP_nms' (p : Nat → Bool) (l : List (Int × Int)) : (∀ x, x ∈ rowC prow l → AV.names p x = true) ↔ True := by
  simp only [iff_true]
  exact List.all_eq_true.1 (rowP_nms p l)
theorem rowP_len (l : List (Int × Int)) : (rowC prow l).length = l.length * 2 := rowC_len (F := prow) (k := 2) (fun _ => rfl) l
theorem rowC_snoc {α : Type} (F : α → List AV) (l : List α) (x : α) : rowC F (l ++ [x]) = rowC F l ++ F x := by simp [rowC]
end Go.Proofs.Ytjplhfmakghabaa.V
