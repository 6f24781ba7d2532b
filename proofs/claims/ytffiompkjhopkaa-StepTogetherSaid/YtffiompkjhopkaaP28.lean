/- Contracts of chapter 4: In, the chapter's example. -/
import Derived.Test.YtffiompkjhopkaaP27
set_option linter.unusedSimpArgs false
set_option linter.unusedVariables false
namespace Go.Proofs.Ytffiompkjhopkaa.V
open Go.RowKit
set_option maxRecDepth 100000
attribute [local go_sem] Option.toList_some Option.toList_none

def inA (a b : Int) : Int := min (1 + a % 292195) (1 + b % 292195)
def inB (a b : Int) : Int := max (1 + a % 292195) (1 + b % 292195)

theorem in_f (a b : Int) (ha : 0 ≤ a ∧ a ≤ 4294967295) (hb : 0 ≤ b ∧ b ≤ 4294967295) : Fun Try.prog 29 [.v (.int .u32 a), .v (.int .u32 b)] (.agg [int (inA a b), int (inB a b)]) := by
  have e1 : a.tmod 292195 = a % 292195 := Int.tmod_eq_emod_of_nonneg ha.1
  have e2 : b.tmod 292195 = b % 292195 := Int.tmod_eq_emod_of_nonneg hb.1
  have h1 := Int.emod_nonneg a (show (292195 : Int) ≠ 0 by decide)
  have h2 := Int.emod_nonneg b (show (292195 : Int) ≠ 0 by decide)
  have h3 := Int.emod_lt_of_pos a (show (0 : Int) < 292195 by decide)
  have h4 := Int.emod_lt_of_pos b (show (0 : Int) < 292195 by decide)
  have w1 : IntKind.i64.wrap (a % 292195) = a % 292195 := by rw [wrap_id] <;> omega
  have w2 : IntKind.i64.wrap (b % 292195) = b % 292195 := by rw [wrap_id] <;> omega
  have w3 : IntKind.i64.wrap (1 + a % 292195) = 1 + a % 292195 := by rw [wrap_id] <;> omega
  have w4 : IntKind.i64.wrap (1 + b % 292195) = 1 + b % 292195 := by rw [wrap_id] <;> omega
  refine fun_W mixed Try.func29 rfl (Nat.le_of_ble_eq_true rfl) (by kernel_rfl) fun cx hN hR hF hL => ?_; apply args_k; (case hA => (simp only [go_sem, ↓reduceIte, reduceCtorEq, Nat.reduceAdd, Nat.reduceMul, Nat.reduceEqDiff, Nat.reduceLT, Nat.reduceLeDiff, Nat.reduceBEq, Nat.reduceSub]; rfl))
  (repeat' (first | (with_reducible exact trivial) | (with_reducible apply byK; kernel_rfl) | (with_reducible apply byD; first | (simp; done) | (simp [go_sem]; done)) | ((with_reducible first | apply rk_v | apply rk_r | apply rk_vn | apply rg_v | apply rg_r | apply rk_s | apply rk_n | apply rk_a | apply rk_rn | apply gd_f); (case hi => rfl); (try case hb => kernel_rfl)) | (((with_reducible first | apply rg_n | apply rg_s); (case hi => rfl); (case hb => kernel_rfl)) <;> (intro hg; simp only [hg])) | ((with_reducible first | apply rk_all); (case hi => rfl); (case hb => kernel_rfl); (case h1 | h2 | h3 | h4 => (simp only [econs, List.map_cons, List.map_nil, List.cons_append, List.nil_append, OpS.nm, OpS.reads, OpS.turns]; try rfl))) | ((with_reducible first | apply rg_k); (case hi => rfl); (case hb => kernel_rfl); (case hs => rfl); (case h1 | h2 | h3 | h4 => (simp only [econs, List.map_cons, List.map_nil, List.cons_append, List.nil_append, OpS.nm, OpS.reads, OpS.turns]; try rfl))) | (((with_reducible first | apply rg_w); (case hi => rfl); (case hb => kernel_rfl); (case hs => rfl); (case h1 | h2 | h3 | h4 | h5 => (simp only [econs, List.map_cons, List.map_nil, List.cons_append, List.nil_append, OpS.nm, OpS.reads, OpS.turns]; try rfl))) <;> (intro hg; try (cases hg; done))) | ((with_reducible first | apply rs_nil); (case h => (unfold NapOK; kernel_rfl))) | ((with_reducible first | apply byKl | apply byKr); (case h => kernel_rfl)) | ((with_reducible first | apply rs_c | apply gd_c | apply rs_o | apply rs_gd | apply gd_u | apply w_c | apply ce); (try case hd => (repeat (first | (with_reducible exact dst_z rfl) | (with_reducible apply dst_s)))); (try case hn => rfl); (case hy => (simp only [go_sem, ↓reduceIte, reduceCtorEq, Nat.reduceAdd, Nat.reduceMul, Nat.reduceEqDiff, Nat.reduceLT, Nat.reduceLeDiff, Nat.reduceBEq, Nat.reduceSub, e1, e2, w1, w2, w3, w4, ne_eq, Int.reduceEq, not_false_eq_true, inA, inB]; try with_reducible rfl))) | ((with_reducible first | apply cw_t | apply cw_f | apply rs_nil_f | apply lt_n | apply lb_n | apply lt_r | apply lb_r | apply lt_e | apply lb_e | apply w_seq | apply w_skip | apply w_block | apply w_ret | apply w_exit | apply w_loop | apply w_label)) | (((with_reducible first | apply lb_m)); (case hne => rfl)) | ((with_reducible first | apply w_region); (case hm => (simp only [Nat.reduceAdd]; try rfl)); (case hs => kernel_rfl); intro K hK) | (((with_reducible first | apply cw_c)) <;> (intro hq; try simp only [decide_eq_true_eq, decide_eq_false_iff_not, Bool.and_eq_true, Bool.or_eq_true, Bool.and_eq_false_iff, Bool.or_eq_false_iff, Bool.not_eq_true', Bool.not_eq_false', Int.not_lt, Int.not_le] at hq; try (exfalso; omega))) | (((with_reducible first | apply cw_b)) <;> (try intro hq)) | ((with_reducible first | apply ends_r | apply ends_n | apply endsB_r | apply endsB_n); (case hr => rfl); simp only [go_sem, ↓reduceIte, reduceCtorEq, Nat.reduceAdd, Nat.reduceMul, Nat.reduceEqDiff, Nat.reduceLT, Nat.reduceLeDiff, Nat.reduceBEq, Nat.reduceSub, e1, e2, w1, w2, w3, w4, ne_eq, Int.reduceEq, not_false_eq_true, inA, inB]) | (with_reducible refine hK _ _ ?_; clear hK; clear K) | omega))

theorem awake_f : Fun Try.prog 20 [] (bool true) := by
  have ms : ([3, 5] : List Int).mergeSort (fun x y => decide (x ≤ y)) = [3, 5] := List.mergeSort_of_pairwise (by decide)
  have k0 : setL [] 3 5 7 = [(3, 7), (5, 0)] := by
    unfold setL
    simp only [List.map_nil, List.nil_append, ms]
    decide +kernel
  have q1 : rightS [] [] = true := by decide +kernel
  have q2 : (fullS 3 5 && money 7) = true := by decide +kernel
  have q3 : ([] : List Int).zip ([] : List Int) = [] := rfl
  have k1 : setA [] [] 3 5 7 = [3, 5] := by unfold setA; rw [if_pos q1, if_pos q2, q3, k0]; rfl
  have k2 : setV [] [] 3 5 7 = [7, 0] := by unfold setV; rw [if_pos q1, if_pos q2, q3, k0]; rfl
  have k3 : rightS [3, 5] [7, 0] = true := by decide +kernel
  have k4 : fullS 1 10 = true := by decide +kernel
  have k5 : sumO (sumL ([3, 5].zip [7, 0]) 1 10) = [int 14, int 0] := by
    have : sumL ([3, 5].zip [7, 0]) 1 10 = some 14 := by decide +kernel
    rw [this]; rfl
  have c1 := set_f [] [] 3 5 7 (by simp)
  rw [k1, k2] at c1
  have c2 := sum_f [3, 5] [7, 0] 1 10 (by simp)
  rw [if_pos ⟨k3, k4⟩, k5] at c2
  have c3 := right_f [3, 5] [7, 0]
  rw [k3] at c3
  have c4 := at_f [3, 5] [7, 0] 4 (by simp)
  have k6 : valG 0 ([3, 5].zip [7, 0]) 4 = 7 := by decide +kernel
  rw [if_pos k3, k6] at c4
  have c5 := at_f [3, 5] [7, 0] 5 (by simp)
  have k7 : valG 0 ([3, 5].zip [7, 0]) 5 = 0 := by decide +kernel
  rw [if_pos k3, k7] at c5
  refine fun_W mixed Try.func20 rfl (Nat.le_of_ble_eq_true rfl) (by kernel_rfl) fun cx hN hR hF hL => ?_; apply args_k; (case hA => (simp only [go_sem, ↓reduceIte, reduceCtorEq, Nat.reduceAdd, Nat.reduceMul, Nat.reduceEqDiff, Nat.reduceLT, Nat.reduceLeDiff, Nat.reduceBEq, Nat.reduceSub]; rfl))
  (repeat' (first | (with_reducible exact trivial) | (with_reducible apply byK; kernel_rfl) | (with_reducible apply byD; first | (simp; done) | (simp [go_sem]; done)) | ((with_reducible first | apply rk_v | apply rk_r | apply rk_vn | apply rg_v | apply rg_r | apply rk_s | apply rk_n | apply rk_a | apply rk_rn | apply gd_f); (case hi => rfl); (try case hb => kernel_rfl)) | (((with_reducible first | apply rg_n | apply rg_s); (case hi => rfl); (case hb => kernel_rfl)) <;> (intro hg; simp only [hg])) | ((with_reducible first | apply rk_all); (case hi => rfl); (case hb => kernel_rfl); (case h1 | h2 | h3 | h4 => (simp only [econs, List.map_cons, List.map_nil, List.cons_append, List.nil_append, OpS.nm, OpS.reads, OpS.turns]; try rfl))) | ((with_reducible first | apply rg_k); (case hi => rfl); (case hb => kernel_rfl); (case hs => rfl); (case h1 | h2 | h3 | h4 => (simp only [econs, List.map_cons, List.map_nil, List.cons_append, List.nil_append, OpS.nm, OpS.reads, OpS.turns]; try rfl))) | (((with_reducible first | apply rg_w); (case hi => rfl); (case hb => kernel_rfl); (case hs => rfl); (case h1 | h2 | h3 | h4 | h5 => (simp only [econs, List.map_cons, List.map_nil, List.cons_append, List.nil_append, OpS.nm, OpS.reads, OpS.turns]; try rfl))) <;> (intro hg; try (cases hg; done))) | ((with_reducible first | apply rs_nil); (case h => (unfold NapOK; kernel_rfl))) | ((with_reducible first | apply byKl | apply byKr); (case h => kernel_rfl)) | ((with_reducible first | apply rs_c | apply gd_c | apply rs_o | apply rs_gd | apply gd_u | apply w_c | apply ce); (try case hd => (repeat (first | (with_reducible exact dst_z rfl) | (with_reducible apply dst_s)))); (try case hn => rfl); (case hy => (simp only [go_sem, ↓reduceIte, reduceCtorEq, Nat.reduceAdd, Nat.reduceMul, Nat.reduceEqDiff, Nat.reduceLT, Nat.reduceLeDiff, Nat.reduceBEq, Nat.reduceSub]; try with_reducible rfl))) | ((with_reducible first | apply cw_t | apply cw_f | apply rs_nil_f | apply lt_n | apply lb_n | apply lt_r | apply lb_r | apply lt_e | apply lb_e | apply w_seq | apply w_skip | apply w_block | apply w_ret | apply w_exit | apply w_loop | apply w_label)) | (((with_reducible first | apply lb_m)); (case hne => rfl)) | ((with_reducible first | apply w_region); (case hm => (simp only [Nat.reduceAdd]; try rfl)); (case hs => kernel_rfl); intro K hK) | (((with_reducible first | apply cw_c)) <;> (intro hq; try simp only [decide_eq_true_eq, decide_eq_false_iff_not, Bool.and_eq_true, Bool.or_eq_true, Bool.and_eq_false_iff, Bool.or_eq_false_iff, Bool.not_eq_true', Bool.not_eq_false', Int.not_lt, Int.not_le] at hq; try (exfalso; omega))) | (((with_reducible first | apply cw_b)) <;> (try intro hq)) | ((with_reducible first | apply ends_r | apply ends_n | apply endsB_r | apply endsB_n); (case hr => rfl); simp only [go_sem, ↓reduceIte, reduceCtorEq, Nat.reduceAdd, Nat.reduceMul, Nat.reduceEqDiff, Nat.reduceLT, Nat.reduceLeDiff, Nat.reduceBEq, Nat.reduceSub]) | (with_reducible refine hK _ _ ?_; clear hK; clear K) | ((with_reducible apply callFX [] cl27 (c1)); (case hy | hl | hk => (simp only [go_sem, ↓reduceIte, reduceCtorEq, Nat.reduceAdd, Nat.reduceMul, Nat.reduceEqDiff, Nat.reduceLT, Nat.reduceLeDiff, Nat.reduceBEq, Nat.reduceSub]; try rfl)); (case hz => (simp [go_sem, fzo]; done))) | ((with_reducible apply callX cl30 (c2)); (case hl => rfl)) | ((with_reducible apply callX cl22 (c3)); (case hl => rfl)) | ((with_reducible apply callX cl24 (c4)); (case hl => rfl)) | ((with_reducible apply callX cl24 (c5)); (case hl => rfl)) | ((with_reducible apply callFX [3176, 3184] cl26 (same4_f [3, 5] [7, 0])); (case hy | hl | hk => (simp only [go_sem, ↓reduceIte, reduceCtorEq, Nat.reduceAdd, Nat.reduceMul, Nat.reduceEqDiff, Nat.reduceLT, Nat.reduceLeDiff, Nat.reduceBEq, Nat.reduceSub]; try rfl)); (case hz => (simp [go_sem, fzo]; done))) | omega))
  all_goals (trace_state; sorry)
end Go.Proofs.Ytffiompkjhopkaa.V
