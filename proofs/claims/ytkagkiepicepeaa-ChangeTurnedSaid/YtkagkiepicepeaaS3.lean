/- Whether two things of the program are one can be told. -/
import Derived.Test.YtkagkiepicepeaaS2
set_option linter.unusedSimpArgs false
set_option linter.unusedVariables false
namespace Go.Proofs.Ytkagkiepicepeaa.V
open Go.RowKit
set_option maxRecDepth 100000

deriving instance DecidableEq for Cover
deriving instance DecidableEq for Terms
deriving instance DecidableEq for Change
deriving instance DecidableEq for History
deriving instance DecidableEq for Fact

theorem take_eq_snoc {α : Type} {a b : List α} {i : Nat} (hi : i < a.length) (hj : i < b.length) (h : a.take i = b.take i) (he : a[i] = b[i]) : a.take (i + 1) = b.take (i + 1) := by
  rw [List.take_succ_eq_append_getElem hi, List.take_succ_eq_append_getElem hj, h, he]

theorem take_eq_all {α : Type} {a b : List α} {i : Nat} (hn : a.length = b.length) (hi : ¬ i < a.length) (h : a.take i = b.take i) : a = b := by
  rwa [List.take_of_length_le (by omega), List.take_of_length_le (by omega)] at h

theorem ne_at {α : Type} {a b : List α} {i : Nat} (hi : i < a.length) (hj : i < b.length) (h : ¬ a[i] = b[i]) : ¬ a = b := by
  intro e; subst e; exact h rfl

theorem cover_flat_inj {a b : Cover} : ([a.peril, a.limit, a.agg, a.ded, a.share] = [b.peril, b.limit, b.agg, b.ded, b.share]) ↔ a = b := by
  cases a; cases b; simp

theorem filt_yes {α : Type} {p : α → Bool} {l : List α} {i : Nat} (hi : i < l.length) (h : p l[i] = true) : (l.take (i + 1)).filter p = (l.take i).filter p ++ [l[i]] := by
  rw [List.take_succ_eq_append_getElem hi, List.filter_append]
  simp [h]
theorem filt_no {α : Type} {p : α → Bool} {l : List α} {i : Nat} (hi : i < l.length) (h : p l[i] = false) : (l.take (i + 1)).filter p = (l.take i).filter p := by
  rw [List.take_succ_eq_append_getElem hi, List.filter_append]
  simp [h]

/-- A slice that is appended to, from nil on: it lies in block b. -/
def outV (b k : Nat) {α : Type} (l : List α) : AV := if l.length = 0 then .v (.slice none 0 0) else .osl b k 0 l.length
theorem outV_nil {b k : Nat} {α : Type} {l : List α} (h : l = []) : outV b k l = .v (.slice none 0 0) := by simp [outV, h]
theorem outV_some {b k : Nat} {α : Type} {l : List α} (h : ¬ l = []) : outV b k l = .osl b k 0 l.length := by simp [outV, h]
theorem outV_snoc {b k : Nat} {α : Type} (l : List α) (x : α) : outV b k (l ++ [x]) = .osl b k 0 (l.length + 1) := by simp [outV]
/-- Its block. -/
def outB (t : TypeId) {α : Type} (F : α → List AV) (l : List α) : Option Bx := if l.length = 0 then none else some ⟨t, (l.map F).flatten⟩
theorem outB_nil {t : TypeId} {α : Type} {F : α → List AV} {l : List α} (h : l = []) : outB t F l = none := by simp [outB, h]
theorem outB_some {t : TypeId} {α : Type} {F : α → List AV} {l : List α} (h : ¬ l = []) : outB t F l = some ⟨t, (l.map F).flatten⟩ := by simp [outB, h]
theorem outB_snoc {t : TypeId} {α : Type} {F : α → List AV} (l : List α) (x : α) : outB t F (l ++ [x]) = some ⟨t, (l.map F).flatten ++ F x⟩ := by simp [outB]
/-- Name b is c. -/
@[go_sem] def nm1 (b c : Nat) (x : Nat) : Nat := if x = b then c else x

theorem rows_ren {α : Type} {F : α → List AV} (hF : ∀ x r, (F x).map (AV.ren r) = F x) (r : Nat → Nat) : ∀ l : List α, ((l.map F).flatten).map (AV.ren r) = (l.map F).flatten
  | [] => rfl
  | x :: l => by rw [List.map_cons, List.flatten_cons, List.map_append, hF, rows_ren hF r l]
theorem rows_nms {α : Type} {F : α → List AV} (hF : ∀ x p, (F x).all (AV.names p) = true) (p : Nat → Bool) : ∀ l : List α, ((l.map F).flatten).all (AV.names p) = true
  | [] => rfl
  | x :: l => by rw [List.map_cons, List.flatten_cons, List.all_append, hF, rows_nms hF p l]; rfl
theorem rows_count {α : Type} {F : α → List AV} {k : Nat} (hk : ∀ x, (F x).length = k) (l : List α) : ((l.map F).flatten).length = l.length * k := by
  have := length_flat (l.map F) (rows_len hk l)
  rwa [List.length_map] at this
@[go_sem] theorem factRows_ren (r : Nat → Nat) (l : List Fact) : ((l.map Fact.flat).flatten).map (AV.ren r) = (l.map Fact.flat).flatten := rows_ren (fun x r => by simp [Fact.flat]) r l
@[go_sem] theorem factRows_nms (p : Nat → Bool) (l : List Fact) : ((l.map Fact.flat).flatten).all (AV.names p) = true := rows_nms (fun x p => by simp [Fact.flat]) p l
end Go.Proofs.Ytkagkiepicepeaa.V
