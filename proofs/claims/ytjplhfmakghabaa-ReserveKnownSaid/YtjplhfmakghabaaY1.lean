/- Rows of steps of chapter 19, and their order. -/
import Derived.Test.YtjplhfmakghabaaSG
import Derived.Test.YtjplhfmakghabaaN1
set_option linter.unusedSimpArgs false
set_option linter.unusedVariables false
namespace Go.Proofs.Ytjplhfmakghabaa.V
open Go.RowKit
set_option maxRecDepth 100000

/-- An act of a file. -/
structure Stp where
  file : Int
  act : Act
deriving DecidableEq
@[go_sem] def trow (s : Stp) : List AV := [int s.file, int s.act.booked, int s.act.kind, int s.act.amt]
@[simp] theorem trow_data (s : Stp) : (∀ y, y ∈ trow s → AV.isData y = true) ↔ True := by simp [trow]
@[go_sem] theorem rowT_ren (r : Nat → Nat) (l : List Stp) : (rowC trow l).map (AV.ren r) = rowC trow l := rows_ren (fun x r => by simp [trow]) r l
@[go_sem] theorem rowT_nms (p : Nat → Bool) (l : List Stp) : (rowC trow l).all (AV.names p) = true := rows_nms (fun x p => by simp [trow]) p l
theorem rowT_nms' (p : Nat → Bool) (l : List Stp) : (∀ x, x ∈ rowC trow l → AV.names p x = true) ↔ True := by
  simp only [iff_true]
  exact List.all_eq_true.1 (rowT_nms p l)
theorem rowT_len (l : List Stp) : (rowC trow l).length = l.length * 4 := rowC_len (F := trow) (k := 4) (fun _ => rfl) l
theorem rowT_cons (x : Stp) (l : List Stp) : rowC trow (x :: l) = trow x ++ rowC trow l := by simp [rowC]
theorem rowT_ne {l : List Stp} (h : l ≠ []) : (rowC trow l = []) ↔ False := by
  rw [iff_false, ← List.length_eq_zero_iff, rowT_len]
  have := List.length_pos_iff.2 h
  omega
theorem rowT_nz {l : List Stp} (h : 0 < l.length) : (rowC trow l = []) ↔ False := rowT_ne (List.length_pos_iff.1 h)
/-- The cells of an element. -/
theorem rowT_some {l : List Stp} {i : Nat} {x : Stp} (h : l[i]? = some x) : ((rowC trow l).drop (i * 4)).take 4 = trow x := by
  induction l generalizing i with
  | nil => simp at h
  | cons y l ih =>
    rw [rowT_cons]
    rcases i with _ | i
    · simp at h; subst h; simp [trow]
    · have h' : l[i]? = some x := by simpa using h
      have : (i + 1) * 4 = 4 + i * 4 := by omega
      rw [this, ← List.drop_drop]
      simp only [trow, List.cons_append, List.nil_append, List.drop_succ_cons, List.drop_zero]
      exact ih h'
theorem rowT_put (l : List Stp) (i : Nat) (x : Stp) (h : i < l.length) : List.take (i * 4) (rowC trow l) ++ [int x.file, int x.act.booked, int x.act.kind, int x.act.amt] ++ List.drop (i * 4 + 4) (rowC trow l) = rowC trow (l.set i x) := by
  induction l generalizing i with
  | nil => simp at h
  | cons y l ih =>
    rw [rowT_cons]
    rcases i with _ | i
    · simp [rowT_cons, trow]
    · have h' : i < l.length := by simpa using h
      have := ih i h'
      rw [List.set_cons_succ, rowT_cons, ← this, show (i + 1) * 4 = i * 4 + 4 by omega, show i * 4 + 4 + 4 = (i * 4 + 4) + 4 by omega]
      simp [trow]
@[go_sem] theorem le4 (j n : Nat) : (j * 4 + 4 ≤ n * 4) = (j < n) := propext ⟨fun h => by omega, fun h => by omega⟩

/-- By the day on which it was booked; of one day by the file. -/
def ltT (x y : Stp) : Bool := decide (x.act.booked < y.act.booked) || (decide (x.act.booked = y.act.booked) && decide (x.file < y.file))
theorem sw_ltT : SW ltT := by
  constructor <;> simp only [ltT, Bool.or_eq_true, Bool.and_eq_true, decide_eq_true_eq, Bool.or_eq_false_iff, Bool.and_eq_false_iff, decide_eq_false_iff_not] <;> intros <;> omega

def aheadT (x y : Stp) : Int := orL [compareJ x.act.booked y.act.booked, compareJ x.file y.file]
theorem ahead_lt (x y : Stp) : decide (aheadT x y < 0) = ltT x y := by
  unfold aheadT ltT compareJ
  generalize x.act.booked = a
  generalize y.act.booked = b
  generalize x.file = c
  generalize y.file = d
  rcases Int.lt_trichotomy a b with h | h | h
  · have h1 : ¬ b < a := by omega
    simp [orL, h]
  · subst h
    rcases Int.lt_trichotomy c d with h | h | h
    · simp [orL, h]
    · subst h; simp [orL]
    · have h1 : ¬ c < d := by omega
      simp [orL, h, h1]
  · have h1 : ¬ a < b := by omega
    have h2 : ¬ a = b := by omega
    simp [orL, h, h1, h2]
theorem aheadT_f (x y : Stp) : Fun Try.prog 44 [.agg (trow x), .agg (trow y)] (int (aheadT x y)) := by
  refine fun_W mixed Try.func44 rfl (Nat.le_of_ble_eq_true rfl) (by kernel_rfl) fun cx hN hR hF hL => ?_; apply args_k; (case hA => (simp only [go_sem, ↓reduceIte]; rfl))
  (repeat' (first | (with_reducible exact trivial) | (with_reducible apply byK; kernel_rfl) | (with_reducible apply byD; first | (simp; done) | (simp [go_sem]; done)) | ((with_reducible first | apply rk_v | apply rk_r | apply rk_vn | apply rg_v | apply rg_r | apply rk_s | apply rk_n | apply rk_a | apply rk_rn | apply gd_f); (case hi => rfl); (try case hb => kernel_rfl)) | (((with_reducible first | apply rg_n | apply rg_s); (case hi => rfl); (case hb => kernel_rfl)) <;> (intro hg; simp only [hg])) | ((with_reducible first | apply rk_all); (case hi => rfl); (case hb => kernel_rfl); (case h1 | h2 | h3 | h4 => (simp only [econs, List.map_cons, List.map_nil, List.cons_append, List.nil_append, OpS.nm, OpS.reads, OpS.turns]; try rfl))) | ((with_reducible first | apply rg_k); (case hi => rfl); (case hb => kernel_rfl); (case hs => rfl); (case h1 | h2 | h3 | h4 => (simp only [econs, List.map_cons, List.map_nil, List.cons_append, List.nil_append, OpS.nm, OpS.reads, OpS.turns]; try rfl))) | (((with_reducible first | apply rg_w); (case hi => rfl); (case hb => kernel_rfl); (case hs => rfl); (case h1 | h2 | h3 | h4 | h5 => (simp only [econs, List.map_cons, List.map_nil, List.cons_append, List.nil_append, OpS.nm, OpS.reads, OpS.turns]; try rfl))) <;> (intro hg; try (cases hg; done))) | ((with_reducible first | apply rs_nil); (case h => (unfold NapOK; kernel_rfl))) | ((with_reducible first | apply byKl | apply byKr); (case h => kernel_rfl)) | ((with_reducible first | apply rs_c | apply gd_c | apply rs_o | apply rs_gd | apply gd_u | apply w_c | apply ce); (try case hd => (repeat (first | (with_reducible exact dst_z rfl) | (with_reducible apply dst_s)))); (try case hn => rfl); (case hy => (simp only [go_sem, ↓reduceIte]; try with_reducible rfl))) | ((with_reducible first | apply cw_t | apply cw_f | apply rs_nil_f | apply lt_n | apply lb_n | apply lt_r | apply lb_r | apply lt_e | apply lb_e | apply w_seq | apply w_skip | apply w_block | apply w_ret | apply w_exit | apply w_loop | apply w_label)) | (((with_reducible first | apply lb_m)); (case hne => rfl)) | ((with_reducible first | apply w_region); (case hm => (simp only [Nat.reduceAdd]; try rfl)); (case hs => kernel_rfl); intro K hK) | (((with_reducible first | apply cw_c)) <;> (intro hq; try simp only [decide_eq_true_eq, decide_eq_false_iff_not, Bool.and_eq_true, Bool.or_eq_true, Bool.and_eq_false_iff, Bool.or_eq_false_iff, Bool.not_eq_true', Bool.not_eq_false', Int.not_lt, Int.not_le] at hq; try (exfalso; omega))) | (((with_reducible first | apply cw_b)) <;> (try intro hq)) | ((with_reducible first | apply ends_r | apply ends_n | apply endsB_r | apply endsB_n); (case hr => rfl); simp only [go_sem, ↓reduceIte]) | (with_reducible refine hK _ _ ?_; clear hK; clear K) | ((with_reducible apply callX cl75 (compareJ_f _ _)); (case hl => rfl)) | ((with_reducible apply callFX [1096] cl74 (orL_f [compareJ x.act.booked y.act.booked, compareJ x.file y.file])); (case hy | hl | hk => (simp only [go_sem, ↓reduceIte]; try rfl)); (case hz => (simp [go_sem, fzo]; done))) | omega))
  rfl
end Go.Proofs.Ytjplhfmakghabaa.V
