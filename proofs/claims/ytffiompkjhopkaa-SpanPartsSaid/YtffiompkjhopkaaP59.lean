/- Chapter 3's statements: SpanOne, SpanTwo, SpanDays, SpanSums. -/
import Derived.Test.YtffiompkjhopkaaP58
set_option linter.unusedSimpArgs false
set_option linter.unusedVariables false
namespace Go.Proofs.Ytffiompkjhopkaa.V
open Go.RowKit
set_option maxRecDepth 100000
attribute [local go_sem] Option.toList_some Option.toList_none

theorem inS_many {a b d : Int} (h : inS a b d = true) : many a b > 0 := by
  unfold inS at h
  simp only [Bool.and_eq_true] at h
  exact (many_yes h.1.1).2.2

set_option maxHeartbeats 4000000 in
theorem spanOneLaw (a b d : Int) : Fun Try.prog 12 [.agg [int a, int b], int d] (bool true) := by
  cases hI : inS a b d
  · refine fun_W mixed Try.func12 rfl (Nat.le_of_ble_eq_true rfl) (by kernel_rfl) fun cx hN hR hF hL => ?_; apply args_k; (case hA => (simp only [go_sem, ↓reduceIte, reduceCtorEq, Nat.reduceAdd, Nat.reduceMul, Nat.reduceEqDiff, Nat.reduceLT, Nat.reduceLeDiff, Nat.reduceBEq, Nat.reduceSub]; rfl))
    (repeat' (first | (with_reducible exact trivial) | (with_reducible apply byK; kernel_rfl) | (with_reducible apply byD; first | (simp; done) | (simp [go_sem]; done)) | ((with_reducible first | apply rk_v | apply rk_r | apply rk_vn | apply rg_v | apply rg_r | apply rk_s | apply rk_n | apply rk_a | apply rk_rn | apply gd_f); (case hi => rfl); (try case hb => kernel_rfl)) | (((with_reducible first | apply rg_n | apply rg_s); (case hi => rfl); (case hb => kernel_rfl)) <;> (intro hg; simp only [hg])) | ((with_reducible first | apply rk_all); (case hi => rfl); (case hb => kernel_rfl); (case h1 | h2 | h3 | h4 => (simp only [econs, List.map_cons, List.map_nil, List.cons_append, List.nil_append, OpS.nm, OpS.reads, OpS.turns]; try rfl))) | ((with_reducible first | apply rg_k); (case hi => rfl); (case hb => kernel_rfl); (case hs => rfl); (case h1 | h2 | h3 | h4 => (simp only [econs, List.map_cons, List.map_nil, List.cons_append, List.nil_append, OpS.nm, OpS.reads, OpS.turns]; try rfl))) | (((with_reducible first | apply rg_w); (case hi => rfl); (case hb => kernel_rfl); (case hs => rfl); (case h1 | h2 | h3 | h4 | h5 => (simp only [econs, List.map_cons, List.map_nil, List.cons_append, List.nil_append, OpS.nm, OpS.reads, OpS.turns]; try rfl))) <;> (intro hg; try (cases hg; done))) | ((with_reducible first | apply rs_nil); (case h => (unfold NapOK; kernel_rfl))) | ((with_reducible first | apply byKl | apply byKr); (case h => kernel_rfl)) | ((with_reducible first | apply rs_c | apply gd_c | apply rs_o | apply rs_gd | apply gd_u | apply w_c | apply ce); (try case hd => (repeat (first | (with_reducible exact dst_z rfl) | (with_reducible apply dst_s)))); (try case hn => rfl); (case hy => (simp only [go_sem, ↓reduceIte, reduceCtorEq, Nat.reduceAdd, Nat.reduceMul, Nat.reduceEqDiff, Nat.reduceLT, Nat.reduceLeDiff, Nat.reduceBEq, Nat.reduceSub, hI, beq_self_eq_true]; try with_reducible rfl))) | ((with_reducible first | apply cw_t | apply cw_f | apply rs_nil_f | apply lt_n | apply lb_n | apply lt_r | apply lb_r | apply lt_e | apply lb_e | apply w_seq | apply w_skip | apply w_block | apply w_ret | apply w_exit | apply w_loop | apply w_label)) | (((with_reducible first | apply lb_m)); (case hne => rfl)) | ((with_reducible first | apply w_region); (case hm => (simp only [Nat.reduceAdd]; try rfl)); (case hs => kernel_rfl); intro K hK) | (((with_reducible first | apply cw_c)) <;> (intro hq; try simp only [decide_eq_true_eq, decide_eq_false_iff_not, Bool.and_eq_true, Bool.or_eq_true, Bool.and_eq_false_iff, Bool.or_eq_false_iff, Bool.not_eq_true', Bool.not_eq_false', Int.not_lt, Int.not_le] at hq; try (exfalso; omega))) | (((with_reducible first | apply cw_b)) <;> (try intro hq)) | ((with_reducible first | apply ends_r | apply ends_n | apply endsB_r | apply endsB_n); (case hr => rfl); simp only [go_sem, ↓reduceIte, reduceCtorEq, Nat.reduceAdd, Nat.reduceMul, Nat.reduceEqDiff, Nat.reduceLT, Nat.reduceLeDiff, Nat.reduceBEq, Nat.reduceSub, hI, beq_self_eq_true]) | (with_reducible refine hK _ _ ?_; clear hK; clear K) | ((with_reducible apply callX cl36 (alive3_f)); (case hl => rfl)) | ((with_reducible apply callX cl37 (sRight_f _ _)); (case hl => rfl)) | ((with_reducible apply callX cl38 (rRight_f _ _)); (case hl => rfl)) | ((with_reducible apply callX cl39 (sMany_f _ _)); (case hl => rfl)) | ((with_reducible apply callX cl40 (rMany_f _ _)); (case hl => rfl)) | ((with_reducible apply callX cl41 (sIn_f _ _ _)); (case hl => rfl)) | ((with_reducible apply callX cl42 (rIn_f _ _ _)); (case hl => rfl)) | omega))
  · have hm := eq_true (inS_many hI)
    refine fun_W mixed Try.func12 rfl (Nat.le_of_ble_eq_true rfl) (by kernel_rfl) fun cx hN hR hF hL => ?_; apply args_k; (case hA => (simp only [go_sem, ↓reduceIte, reduceCtorEq, Nat.reduceAdd, Nat.reduceMul, Nat.reduceEqDiff, Nat.reduceLT, Nat.reduceLeDiff, Nat.reduceBEq, Nat.reduceSub]; rfl))
    (repeat' (first | (with_reducible exact trivial) | (with_reducible apply byK; kernel_rfl) | (with_reducible apply byD; first | (simp; done) | (simp [go_sem]; done)) | ((with_reducible first | apply rk_v | apply rk_r | apply rk_vn | apply rg_v | apply rg_r | apply rk_s | apply rk_n | apply rk_a | apply rk_rn | apply gd_f); (case hi => rfl); (try case hb => kernel_rfl)) | (((with_reducible first | apply rg_n | apply rg_s); (case hi => rfl); (case hb => kernel_rfl)) <;> (intro hg; simp only [hg])) | ((with_reducible first | apply rk_all); (case hi => rfl); (case hb => kernel_rfl); (case h1 | h2 | h3 | h4 => (simp only [econs, List.map_cons, List.map_nil, List.cons_append, List.nil_append, OpS.nm, OpS.reads, OpS.turns]; try rfl))) | ((with_reducible first | apply rg_k); (case hi => rfl); (case hb => kernel_rfl); (case hs => rfl); (case h1 | h2 | h3 | h4 => (simp only [econs, List.map_cons, List.map_nil, List.cons_append, List.nil_append, OpS.nm, OpS.reads, OpS.turns]; try rfl))) | (((with_reducible first | apply rg_w); (case hi => rfl); (case hb => kernel_rfl); (case hs => rfl); (case h1 | h2 | h3 | h4 | h5 => (simp only [econs, List.map_cons, List.map_nil, List.cons_append, List.nil_append, OpS.nm, OpS.reads, OpS.turns]; try rfl))) <;> (intro hg; try (cases hg; done))) | ((with_reducible first | apply rs_nil); (case h => (unfold NapOK; kernel_rfl))) | ((with_reducible first | apply byKl | apply byKr); (case h => kernel_rfl)) | ((with_reducible first | apply rs_c | apply gd_c | apply rs_o | apply rs_gd | apply gd_u | apply w_c | apply ce); (try case hd => (repeat (first | (with_reducible exact dst_z rfl) | (with_reducible apply dst_s)))); (try case hn => rfl); (case hy => (simp only [go_sem, ↓reduceIte, reduceCtorEq, Nat.reduceAdd, Nat.reduceMul, Nat.reduceEqDiff, Nat.reduceLT, Nat.reduceLeDiff, Nat.reduceBEq, Nat.reduceSub, hI, hm, decide_true, beq_self_eq_true]; try with_reducible rfl))) | ((with_reducible first | apply cw_t | apply cw_f | apply rs_nil_f | apply lt_n | apply lb_n | apply lt_r | apply lb_r | apply lt_e | apply lb_e | apply w_seq | apply w_skip | apply w_block | apply w_ret | apply w_exit | apply w_loop | apply w_label)) | (((with_reducible first | apply lb_m)); (case hne => rfl)) | ((with_reducible first | apply w_region); (case hm => (simp only [Nat.reduceAdd]; try rfl)); (case hs => kernel_rfl); intro K hK) | (((with_reducible first | apply cw_c)) <;> (intro hq; try simp only [decide_eq_true_eq, decide_eq_false_iff_not, Bool.and_eq_true, Bool.or_eq_true, Bool.and_eq_false_iff, Bool.or_eq_false_iff, Bool.not_eq_true', Bool.not_eq_false', Int.not_lt, Int.not_le] at hq; try (exfalso; omega))) | (((with_reducible first | apply cw_b)) <;> (try intro hq)) | ((with_reducible first | apply ends_r | apply ends_n | apply endsB_r | apply endsB_n); (case hr => rfl); simp only [go_sem, ↓reduceIte, reduceCtorEq, Nat.reduceAdd, Nat.reduceMul, Nat.reduceEqDiff, Nat.reduceLT, Nat.reduceLeDiff, Nat.reduceBEq, Nat.reduceSub, hI, hm, decide_true, beq_self_eq_true]) | (with_reducible refine hK _ _ ?_; clear hK; clear K) | ((with_reducible apply callX cl36 (alive3_f)); (case hl => rfl)) | ((with_reducible apply callX cl37 (sRight_f _ _)); (case hl => rfl)) | ((with_reducible apply callX cl38 (rRight_f _ _)); (case hl => rfl)) | ((with_reducible apply callX cl39 (sMany_f _ _)); (case hl => rfl)) | ((with_reducible apply callX cl40 (rMany_f _ _)); (case hl => rfl)) | ((with_reducible apply callX cl41 (sIn_f _ _ _)); (case hl => rfl)) | ((with_reducible apply callX cl42 (rIn_f _ _ _)); (case hl => rfl)) | omega))

theorem cut_comm (a b c d : Int) : cA c d a b = cA a b c d ∧ cB c d a b = cB a b c d := by
  unfold cA cB
  rw [Int.max_comm c a, Int.min_comm d b, Bool.and_comm (has c d) (has a b)]
  exact ⟨rfl, rfl⟩

set_option maxHeartbeats 4000000 in
theorem spanTwoLaw (a b c d : Int) : Fun Try.prog 13 [.agg [int a, int b], .agg [int c, int d]] (bool true) := by
  have k4 := sCut_f c d a b
  rw [(cut_comm a b c d).1, (cut_comm a b c d).2] at k4
  refine fun_W mixed Try.func13 rfl (Nat.le_of_ble_eq_true rfl) (by kernel_rfl) fun cx hN hR hF hL => ?_; apply args_k; (case hA => (simp only [go_sem, ↓reduceIte, reduceCtorEq, Nat.reduceAdd, Nat.reduceMul, Nat.reduceEqDiff, Nat.reduceLT, Nat.reduceLeDiff, Nat.reduceBEq, Nat.reduceSub]; rfl))
  (repeat' (first | (with_reducible exact trivial) | (with_reducible apply byK; kernel_rfl) | (with_reducible apply byD; first | (simp; done) | (simp [go_sem]; done)) | ((with_reducible first | apply rk_v | apply rk_r | apply rk_vn | apply rg_v | apply rg_r | apply rk_s | apply rk_n | apply rk_a | apply rk_rn | apply gd_f); (case hi => rfl); (try case hb => kernel_rfl)) | (((with_reducible first | apply rg_n | apply rg_s); (case hi => rfl); (case hb => kernel_rfl)) <;> (intro hg; simp only [hg])) | ((with_reducible first | apply rk_all); (case hi => rfl); (case hb => kernel_rfl); (case h1 | h2 | h3 | h4 => (simp only [econs, List.map_cons, List.map_nil, List.cons_append, List.nil_append, OpS.nm, OpS.reads, OpS.turns]; try rfl))) | ((with_reducible first | apply rg_k); (case hi => rfl); (case hb => kernel_rfl); (case hs => rfl); (case h1 | h2 | h3 | h4 => (simp only [econs, List.map_cons, List.map_nil, List.cons_append, List.nil_append, OpS.nm, OpS.reads, OpS.turns]; try rfl))) | (((with_reducible first | apply rg_w); (case hi => rfl); (case hb => kernel_rfl); (case hs => rfl); (case h1 | h2 | h3 | h4 | h5 => (simp only [econs, List.map_cons, List.map_nil, List.cons_append, List.nil_append, OpS.nm, OpS.reads, OpS.turns]; try rfl))) <;> (intro hg; try (cases hg; done))) | ((with_reducible first | apply rs_nil); (case h => (unfold NapOK; kernel_rfl))) | ((with_reducible first | apply byKl | apply byKr); (case h => kernel_rfl)) | ((with_reducible first | apply rs_c | apply gd_c | apply rs_o | apply rs_gd | apply gd_u | apply w_c | apply ce); (try case hd => (repeat (first | (with_reducible exact dst_z rfl) | (with_reducible apply dst_s)))); (try case hn => rfl); (case hy => (simp only [go_sem, ↓reduceIte, reduceCtorEq, Nat.reduceAdd, Nat.reduceMul, Nat.reduceEqDiff, Nat.reduceLT, Nat.reduceLeDiff, Nat.reduceBEq, Nat.reduceSub, decide_true]; try with_reducible rfl))) | ((with_reducible first | apply cw_t | apply cw_f | apply rs_nil_f | apply lt_n | apply lb_n | apply lt_r | apply lb_r | apply lt_e | apply lb_e | apply w_seq | apply w_skip | apply w_block | apply w_ret | apply w_exit | apply w_loop | apply w_label)) | (((with_reducible first | apply lb_m)); (case hne => rfl)) | ((with_reducible first | apply w_region); (case hm => (simp only [Nat.reduceAdd]; try rfl)); (case hs => kernel_rfl); intro K hK) | (((with_reducible first | apply cw_c)) <;> (intro hq; try simp only [decide_eq_true_eq, decide_eq_false_iff_not, Bool.and_eq_true, Bool.or_eq_true, Bool.and_eq_false_iff, Bool.or_eq_false_iff, Bool.not_eq_true', Bool.not_eq_false', Int.not_lt, Int.not_le] at hq; try (exfalso; omega))) | (((with_reducible first | apply cw_b)) <;> (try intro hq)) | ((with_reducible first | apply ends_r | apply ends_n | apply endsB_r | apply endsB_n); (case hr => rfl); simp only [go_sem, ↓reduceIte, reduceCtorEq, Nat.reduceAdd, Nat.reduceMul, Nat.reduceEqDiff, Nat.reduceLT, Nat.reduceLeDiff, Nat.reduceBEq, Nat.reduceSub, decide_true]) | (with_reducible refine hK _ _ ?_; clear hK; clear K) | ((with_reducible apply callX cl36 (alive3_f)); (case hl => rfl)) | ((with_reducible apply callX cl43 (sCut_f a b c d)); (case hl => rfl)) | ((with_reducible apply callX cl44 (rCut_f _ _ _ _)); (case hl => rfl)) | ((with_reducible apply callX cl46 (sLess_f _ _ _ _)); (case hl => rfl)) | ((with_reducible apply callX cl47 (rLess_f _ _ _ _)); (case hl => rfl)) | ((with_reducible apply callX cl45 (sSame_f _)); (case hl => rfl)) | ((with_reducible apply callX cl43 (k4)); (case hl => rfl)) | omega))

theorem inS_iff {a b d : Int} : inS a b d = true ↔ 1 ≤ a ∧ a ≤ d ∧ d < b ∧ b ≤ 292195 := by
  unfold inS
  simp only [Bool.and_eq_true, has_iff, decide_eq_true_eq]
  omega
theorem inS_cut (a b c e d : Int) : inS (cA a b c e) (cB a b c e) d = (inS a b d && inS c e d) := by
  rw [Bool.eq_iff_iff, Bool.and_eq_true]
  cases hv : (has a b && has c e && has (max a c) (min b e))
  · obtain ⟨h1, h2, -⟩ := cut_no hv
    rw [h1, h2]
    simp only [inS_iff]
    constructor
    · omega
    · rintro ⟨g1, g2⟩
      exfalso
      have : (has a b && has c e && has (max a c) (min b e)) = true := by
        simp only [Bool.and_eq_true, has_iff]
        omega
      rw [hv] at this
      cases this
  · obtain ⟨h1, h2, -⟩ := cut_yes hv
    rw [h1, h2]
    simp only [Bool.and_eq_true, has_iff] at hv
    simp only [inS_iff]
    omega
def anyIn (l : Sps) (d : Int) : Bool := l.any fun p => inS p.1 p.2 d
theorem anyIn_has (l : Sps) (d : Int) : anyIn (hasL l) d = anyIn l d := by
  unfold anyIn hasL
  rw [List.any_filter]
  congr 1
  funext p
  unfold inS
  cases has p.1 p.2 <;> simp
/-- The first one's parts: what they are together, and that no two share a day. -/
theorem less_any (a b c e d : Int) : anyIn (lessL a b c e) d = (inS a b d && !inS c e d) := by
  rw [less_eq]
  split
  · rename_i hv
    rw [anyIn_has]
    simp only [Bool.and_eq_true, has_iff] at hv
    rw [Bool.eq_iff_iff]
    simp only [anyIn, List.any_cons, List.any_nil, Bool.or_false, Bool.or_eq_true, Bool.and_eq_true, Bool.not_eq_true', Bool.eq_false_iff, ne_eq, inS_iff]
    omega
  · rename_i hv
    rw [anyIn_has]
    simp only [Bool.and_eq_true, has_iff] at hv
    rw [Bool.eq_iff_iff]
    simp only [anyIn, List.any_cons, List.any_nil, Bool.or_false, Bool.and_eq_true, Bool.not_eq_true', Bool.eq_false_iff, ne_eq, inS_iff]
    omega
theorem less_apart (a b c e d : Int) : (lessL a b c e).Pairwise fun p q => ¬ (inS p.1 p.2 d = true ∧ inS q.1 q.2 d = true) := by
  rw [less_eq]
  split
  · rename_i hv
    simp only [Bool.and_eq_true, has_iff] at hv
    refine List.Pairwise.sublist List.filter_sublist ?_
    simp only [List.pairwise_cons, List.mem_singleton, forall_eq, List.not_mem_nil, false_implies, implies_true, List.Pairwise.nil, and_true, inS_iff]
    omega
  · exact List.Pairwise.sublist List.filter_sublist (by simp)
theorem less_one {a b c e d : Int} {i : Nat} {q : Int × Int} (h : (lessL a b c e)[i]? = some q) (hq : inS q.1 q.2 d = true) : anyIn ((lessL a b c e).take i) d = false := by
  rw [Bool.eq_false_iff]
  intro ha
  simp only [anyIn, List.any_eq_true] at ha
  obtain ⟨p, hp, hpd⟩ := ha
  obtain ⟨j, hj, hje⟩ := List.getElem_of_mem hp
  rw [List.length_take] at hj
  rw [List.getElem_take] at hje
  obtain ⟨hi, hie⟩ := List.getElem?_eq_some_iff.1 h
  have := List.pairwise_iff_getElem.1 (less_apart a b c e d) j i (by omega) hi (by omega)
  rw [hje, hie] at this
  exact this ⟨hpd, hq⟩
theorem anyIn_snoc {l : Sps} {i : Nat} {q : Int × Int} (h : l[i]? = some q) (d : Int) : anyIn (l.take (i + 1)) d = (anyIn (l.take i) d || inS q.1 q.2 d) := by
  rw [List.take_add_one, h, anyIn, List.any_append]
  simp [anyIn]

set_option maxHeartbeats 4000000 in
theorem spanDaysLaw (a b c e d : Int) : Fun Try.prog 14 [.agg [int a, int b], .agg [int c, int e], int d] (bool true) := by
  have hLd := less_any a b c e d
  have h1 := fun i q => less_one (a := a) (b := b) (c := c) (e := e) (d := d) (i := i) (q := q)
  have hc := inS_cut a b c e d
  have hl : (lessL a b c e).length ≤ 2 := List.length_filter_le _ _
  have k1 := sLess_f a b c e
  generalize lessL a b c e = L at *
  refine fun_W mixed Try.func14 rfl (Nat.le_of_ble_eq_true rfl) (by kernel_rfl) fun cx hN hR hF hL => ?_; apply args_k; (case hA => (simp only [go_sem, ↓reduceIte, reduceCtorEq, Nat.reduceAdd, Nat.reduceMul, Nat.reduceEqDiff, Nat.reduceLT, Nat.reduceLeDiff, Nat.reduceBEq, Nat.reduceSub]; rfl))
  (repeat' (first | (with_reducible exact trivial) | (with_reducible apply byK; kernel_rfl) | (with_reducible apply byD; first | (simp; done) | (simp [go_sem]; done)) | ((with_reducible first | apply rk_v | apply rk_r | apply rk_vn | apply rg_v | apply rg_r | apply rk_s | apply rk_n | apply rk_a | apply rk_rn | apply gd_f); (case hi => rfl); (try case hb => kernel_rfl)) | (((with_reducible first | apply rg_n | apply rg_s); (case hi => rfl); (case hb => kernel_rfl)) <;> (intro hg; simp only [hg])) | ((with_reducible first | apply rk_all); (case hi => rfl); (case hb => kernel_rfl); (case h1 | h2 | h3 | h4 => (simp only [econs, List.map_cons, List.map_nil, List.cons_append, List.nil_append, OpS.nm, OpS.reads, OpS.turns]; try rfl))) | ((with_reducible first | apply rg_k); (case hi => rfl); (case hb => kernel_rfl); (case hs => rfl); (case h1 | h2 | h3 | h4 => (simp only [econs, List.map_cons, List.map_nil, List.cons_append, List.nil_append, OpS.nm, OpS.reads, OpS.turns]; try rfl))) | (((with_reducible first | apply rg_w); (case hi => rfl); (case hb => kernel_rfl); (case hs => rfl); (case h1 | h2 | h3 | h4 | h5 => (simp only [econs, List.map_cons, List.map_nil, List.cons_append, List.nil_append, OpS.nm, OpS.reads, OpS.turns]; try rfl))) <;> (intro hg; try (cases hg; done))) | ((with_reducible first | apply rs_nil); (case h => (unfold NapOK; kernel_rfl))) | ((with_reducible first | apply byKl | apply byKr); (case h => kernel_rfl)) | ((with_reducible first | apply rs_c | apply gd_c | apply rs_o | apply rs_gd | apply gd_u | apply w_c | apply ce); (try case hd => (repeat (first | (with_reducible exact dst_z rfl) | (with_reducible apply dst_s)))); (try case hn => rfl); (case hy => (simp only [go_sem, ↓reduceIte, reduceCtorEq, Nat.reduceAdd, Nat.reduceMul, Nat.reduceEqDiff, Nat.reduceLT, Nat.reduceLeDiff, Nat.reduceBEq, Nat.reduceSub]; try with_reducible rfl))) | ((with_reducible first | apply cw_t | apply cw_f | apply rs_nil_f | apply lt_n | apply lb_n | apply lt_r | apply lb_r | apply lt_e | apply lb_e | apply w_seq | apply w_skip | apply w_block | apply w_ret | apply w_exit | apply w_loop | apply w_label)) | (((with_reducible first | apply lb_m)); (case hne => rfl)) | ((with_reducible first | apply w_region); (case hm => (simp only [Nat.reduceAdd]; try rfl)); (case hs => kernel_rfl); intro K hK) | (((with_reducible first | apply cw_c)) <;> (intro hq; try simp only [decide_eq_true_eq, decide_eq_false_iff_not, Bool.and_eq_true, Bool.or_eq_true, Bool.and_eq_false_iff, Bool.or_eq_false_iff, Bool.not_eq_true', Bool.not_eq_false', Int.not_lt, Int.not_le] at hq; try (exfalso; omega))) | (((with_reducible first | apply cw_b)) <;> (try intro hq)) | ((with_reducible first | apply ends_r | apply ends_n | apply endsB_r | apply endsB_n); (case hr => rfl); simp only [go_sem, ↓reduceIte, reduceCtorEq, Nat.reduceAdd, Nat.reduceMul, Nat.reduceEqDiff, Nat.reduceLT, Nat.reduceLeDiff, Nat.reduceBEq, Nat.reduceSub]) | (with_reducible refine hK _ _ ?_; clear hK; clear K) | ((with_reducible apply callX cl46 (k1)); (case hl => rfl)) | omega))
  refine loopW mixed (σ := {i : Nat // i ≤ L.length}) (fun q => ⟨[(14, int q.1), (7, bool (anyIn (L.take q.1) d)), (12, prs L), (13, int L.length), (2, int d), (3, .ptr 0 0), (4, .ptr 8 0)], [(0, some ⟨30, [int a, int b]⟩), (8, some ⟨30, [int c, int e]⟩)], 4000⟩) (fun q => L.length - q.1) id ⟨0, Nat.zero_le _⟩ (by rw [hN]; kernel_rfl) ?_ ?_
  · simp only [go_sem, ↓reduceIte, reduceCtorEq, Nat.reduceAdd, Nat.reduceMul, Nat.reduceEqDiff, Nat.reduceLT, Nat.reduceLeDiff, Nat.reduceBEq, Nat.reduceSub, hF]
    exact ⟨rfl, rfl⟩
  · rintro ⟨i, g1⟩
    by_cases hi : i < L.length
    · have hq : L[i]? = some L[i] := List.getElem?_eq_getElem hi
      have e1 : (L.map prow)[i]? = some (prow L[i]) := by rw [List.getElem?_map, hq]; rfl
      have e5 : IntKind.i64.wrap ((i : Int) + 1) = ((i + 1 : Nat) : Int) := by rw [swrap] <;> omega
      have hk1 : i < (L.map prow).length := by simpa using hi
      have hs := anyIn_snoc hq d
      have ho := h1 i _ hq
      generalize L[i] = q at *
      cases hI : inS q.1 q.2 d
      · rw [hI, Bool.or_false] at hs
        (repeat' (first | (with_reducible exact trivial) | (with_reducible apply byK; kernel_rfl) | (with_reducible apply byD; first | (simp; done) | (simp [go_sem]; done)) | ((with_reducible first | apply rk_v | apply rk_r | apply rk_vn | apply rg_v | apply rg_r | apply rk_s | apply rk_n | apply rk_a | apply rk_rn | apply gd_f); (case hi => rfl); (try case hb => kernel_rfl)) | (((with_reducible first | apply rg_n | apply rg_s); (case hi => rfl); (case hb => kernel_rfl)) <;> (intro hg; simp only [hg])) | ((with_reducible first | apply rk_all); (case hi => rfl); (case hb => kernel_rfl); (case h1 | h2 | h3 | h4 => (simp only [econs, List.map_cons, List.map_nil, List.cons_append, List.nil_append, OpS.nm, OpS.reads, OpS.turns]; try rfl))) | ((with_reducible first | apply rg_k); (case hi => rfl); (case hb => kernel_rfl); (case hs => rfl); (case h1 | h2 | h3 | h4 => (simp only [econs, List.map_cons, List.map_nil, List.cons_append, List.nil_append, OpS.nm, OpS.reads, OpS.turns]; try rfl))) | (((with_reducible first | apply rg_w); (case hi => rfl); (case hb => kernel_rfl); (case hs => rfl); (case h1 | h2 | h3 | h4 | h5 => (simp only [econs, List.map_cons, List.map_nil, List.cons_append, List.nil_append, OpS.nm, OpS.reads, OpS.turns]; try rfl))) <;> (intro hg; try (cases hg; done))) | ((with_reducible first | apply rs_nil); (case h => (unfold NapOK; kernel_rfl))) | ((with_reducible first | apply byKl | apply byKr); (case h => kernel_rfl)) | ((with_reducible first | apply rs_c | apply gd_c | apply rs_o | apply rs_gd | apply gd_u | apply w_c | apply ce); (try case hd => (repeat (first | (with_reducible exact dst_z rfl) | (with_reducible apply dst_s)))); (try case hn => rfl); (case hy => (simp only [go_sem, ↓reduceIte, reduceCtorEq, Nat.reduceAdd, Nat.reduceMul, Nat.reduceEqDiff, Nat.reduceLT, Nat.reduceLeDiff, Nat.reduceBEq, Nat.reduceSub, e1, e5, hk1, hI]; try with_reducible rfl))) | ((with_reducible first | apply cw_t | apply cw_f | apply rs_nil_f | apply lt_n | apply lb_n | apply lt_r | apply lb_r | apply lt_e | apply lb_e | apply w_seq | apply w_skip | apply w_block | apply w_ret | apply w_exit | apply w_loop | apply w_label)) | (((with_reducible first | apply lb_m)); (case hne => rfl)) | ((with_reducible first | apply w_region); (case hm => (simp only [Nat.reduceAdd]; try rfl)); (case hs => kernel_rfl); intro K hK) | (((with_reducible first | apply cw_c)) <;> (intro hq; try simp only [decide_eq_true_eq, decide_eq_false_iff_not, Bool.and_eq_true, Bool.or_eq_true, Bool.and_eq_false_iff, Bool.or_eq_false_iff, Bool.not_eq_true', Bool.not_eq_false', Int.not_lt, Int.not_le] at hq; try (exfalso; omega))) | (((with_reducible first | apply cw_b)) <;> (try intro hq)) | ((with_reducible first | apply ends_r | apply ends_n | apply endsB_r | apply endsB_n); (case hr => rfl); simp only [go_sem, ↓reduceIte, reduceCtorEq, Nat.reduceAdd, Nat.reduceMul, Nat.reduceEqDiff, Nat.reduceLT, Nat.reduceLeDiff, Nat.reduceBEq, Nat.reduceSub, e1, e5, hk1, hI]) | (with_reducible refine hK _ _ ?_; clear hK; clear K) | ((with_reducible apply callX cl41 (sIn_f _ _ _)); (case hl => rfl)) | omega))
        refine ⟨⟨i + 1, hi⟩, id, ?_, by show L.length - (i + 1) < L.length - i; omega⟩
        simp only [hs]
        simp only [go_sem, ↓reduceIte, reduceCtorEq, Nat.reduceAdd, Nat.reduceMul, Nat.reduceEqDiff, Nat.reduceLT, Nat.reduceLeDiff, Nat.reduceBEq, Nat.reduceSub, hF]
      · have ho2 := ho hI
        rw [hI, Bool.or_true] at hs
        (repeat' (first | (with_reducible exact trivial) | (with_reducible apply byK; kernel_rfl) | (with_reducible apply byD; first | (simp; done) | (simp [go_sem]; done)) | ((with_reducible first | apply rk_v | apply rk_r | apply rk_vn | apply rg_v | apply rg_r | apply rk_s | apply rk_n | apply rk_a | apply rk_rn | apply gd_f); (case hi => rfl); (try case hb => kernel_rfl)) | (((with_reducible first | apply rg_n | apply rg_s); (case hi => rfl); (case hb => kernel_rfl)) <;> (intro hg; simp only [hg])) | ((with_reducible first | apply rk_all); (case hi => rfl); (case hb => kernel_rfl); (case h1 | h2 | h3 | h4 => (simp only [econs, List.map_cons, List.map_nil, List.cons_append, List.nil_append, OpS.nm, OpS.reads, OpS.turns]; try rfl))) | ((with_reducible first | apply rg_k); (case hi => rfl); (case hb => kernel_rfl); (case hs => rfl); (case h1 | h2 | h3 | h4 => (simp only [econs, List.map_cons, List.map_nil, List.cons_append, List.nil_append, OpS.nm, OpS.reads, OpS.turns]; try rfl))) | (((with_reducible first | apply rg_w); (case hi => rfl); (case hb => kernel_rfl); (case hs => rfl); (case h1 | h2 | h3 | h4 | h5 => (simp only [econs, List.map_cons, List.map_nil, List.cons_append, List.nil_append, OpS.nm, OpS.reads, OpS.turns]; try rfl))) <;> (intro hg; try (cases hg; done))) | ((with_reducible first | apply rs_nil); (case h => (unfold NapOK; kernel_rfl))) | ((with_reducible first | apply byKl | apply byKr); (case h => kernel_rfl)) | ((with_reducible first | apply rs_c | apply gd_c | apply rs_o | apply rs_gd | apply gd_u | apply w_c | apply ce); (try case hd => (repeat (first | (with_reducible exact dst_z rfl) | (with_reducible apply dst_s)))); (try case hn => rfl); (case hy => (simp only [go_sem, ↓reduceIte, reduceCtorEq, Nat.reduceAdd, Nat.reduceMul, Nat.reduceEqDiff, Nat.reduceLT, Nat.reduceLeDiff, Nat.reduceBEq, Nat.reduceSub, e1, e5, hk1, hI, ho2]; try with_reducible rfl))) | ((with_reducible first | apply cw_t | apply cw_f | apply rs_nil_f | apply lt_n | apply lb_n | apply lt_r | apply lb_r | apply lt_e | apply lb_e | apply w_seq | apply w_skip | apply w_block | apply w_ret | apply w_exit | apply w_loop | apply w_label)) | (((with_reducible first | apply lb_m)); (case hne => rfl)) | ((with_reducible first | apply w_region); (case hm => (simp only [Nat.reduceAdd]; try rfl)); (case hs => kernel_rfl); intro K hK) | (((with_reducible first | apply cw_c)) <;> (intro hq; try simp only [decide_eq_true_eq, decide_eq_false_iff_not, Bool.and_eq_true, Bool.or_eq_true, Bool.and_eq_false_iff, Bool.or_eq_false_iff, Bool.not_eq_true', Bool.not_eq_false', Int.not_lt, Int.not_le] at hq; try (exfalso; omega))) | (((with_reducible first | apply cw_b)) <;> (try intro hq)) | ((with_reducible first | apply ends_r | apply ends_n | apply endsB_r | apply endsB_n); (case hr => rfl); simp only [go_sem, ↓reduceIte, reduceCtorEq, Nat.reduceAdd, Nat.reduceMul, Nat.reduceEqDiff, Nat.reduceLT, Nat.reduceLeDiff, Nat.reduceBEq, Nat.reduceSub, e1, e5, hk1, hI, ho2]) | (with_reducible refine hK _ _ ?_; clear hK; clear K) | ((with_reducible apply callX cl41 (sIn_f _ _ _)); (case hl => rfl)) | omega))
        refine ⟨⟨i + 1, hi⟩, id, ?_, by show L.length - (i + 1) < L.length - i; omega⟩
        simp only [hs]
        simp only [go_sem, ↓reduceIte, reduceCtorEq, Nat.reduceAdd, Nat.reduceMul, Nat.reduceEqDiff, Nat.reduceLT, Nat.reduceLeDiff, Nat.reduceBEq, Nat.reduceSub, hF]
    · obtain rfl : i = L.length := by omega
      simp only [List.take_length]
      cases g2 : inS a b d <;> cases g3 : inS c e d
      all_goals rw [g2, g3] at hc
      all_goals (repeat' (first | (with_reducible exact trivial) | (with_reducible apply byK; kernel_rfl) | (with_reducible apply byD; first | (simp; done) | (simp [go_sem]; done)) | ((with_reducible first | apply rk_v | apply rk_r | apply rk_vn | apply rg_v | apply rg_r | apply rk_s | apply rk_n | apply rk_a | apply rk_rn | apply gd_f); (case hi => rfl); (try case hb => kernel_rfl)) | (((with_reducible first | apply rg_n | apply rg_s); (case hi => rfl); (case hb => kernel_rfl)) <;> (intro hg; simp only [hg])) | ((with_reducible first | apply rk_all); (case hi => rfl); (case hb => kernel_rfl); (case h1 | h2 | h3 | h4 => (simp only [econs, List.map_cons, List.map_nil, List.cons_append, List.nil_append, OpS.nm, OpS.reads, OpS.turns]; try rfl))) | ((with_reducible first | apply rg_k); (case hi => rfl); (case hb => kernel_rfl); (case hs => rfl); (case h1 | h2 | h3 | h4 => (simp only [econs, List.map_cons, List.map_nil, List.cons_append, List.nil_append, OpS.nm, OpS.reads, OpS.turns]; try rfl))) | (((with_reducible first | apply rg_w); (case hi => rfl); (case hb => kernel_rfl); (case hs => rfl); (case h1 | h2 | h3 | h4 | h5 => (simp only [econs, List.map_cons, List.map_nil, List.cons_append, List.nil_append, OpS.nm, OpS.reads, OpS.turns]; try rfl))) <;> (intro hg; try (cases hg; done))) | ((with_reducible first | apply rs_nil); (case h => (unfold NapOK; kernel_rfl))) | ((with_reducible first | apply byKl | apply byKr); (case h => kernel_rfl)) | ((with_reducible first | apply rs_c | apply gd_c | apply rs_o | apply rs_gd | apply gd_u | apply w_c | apply ce); (try case hd => (repeat (first | (with_reducible exact dst_z rfl) | (with_reducible apply dst_s)))); (try case hn => rfl); (case hy => (simp only [go_sem, ↓reduceIte, reduceCtorEq, Nat.reduceAdd, Nat.reduceMul, Nat.reduceEqDiff, Nat.reduceLT, Nat.reduceLeDiff, Nat.reduceBEq, Nat.reduceSub, g2, g3, hc, Bool.and_true, Bool.true_and, Bool.false_and, Bool.and_false, Bool.not_true, Bool.not_false]; try with_reducible rfl))) | ((with_reducible first | apply cw_t | apply cw_f | apply rs_nil_f | apply lt_n | apply lb_n | apply lt_r | apply lb_r | apply lt_e | apply lb_e | apply w_seq | apply w_skip | apply w_block | apply w_ret | apply w_exit | apply w_loop | apply w_label)) | (((with_reducible first | apply lb_m)); (case hne => rfl)) | ((with_reducible first | apply w_region); (case hm => (simp only [Nat.reduceAdd]; try rfl)); (case hs => kernel_rfl); intro K hK) | (((with_reducible first | apply cw_c)) <;> (intro hq; try simp only [decide_eq_true_eq, decide_eq_false_iff_not, Bool.and_eq_true, Bool.or_eq_true, Bool.and_eq_false_iff, Bool.or_eq_false_iff, Bool.not_eq_true', Bool.not_eq_false', Int.not_lt, Int.not_le] at hq; try (exfalso; omega))) | (((with_reducible first | apply cw_b)) <;> (try intro hq)) | ((with_reducible first | apply ends_r | apply ends_n | apply endsB_r | apply endsB_n); (case hr => rfl); simp only [go_sem, ↓reduceIte, reduceCtorEq, Nat.reduceAdd, Nat.reduceMul, Nat.reduceEqDiff, Nat.reduceLT, Nat.reduceLeDiff, Nat.reduceBEq, Nat.reduceSub, g2, g3, hc, Bool.and_true, Bool.true_and, Bool.false_and, Bool.and_false, Bool.not_true, Bool.not_false]) | (with_reducible refine hK _ _ ?_; clear hK; clear K) | ((with_reducible apply callX cl36 (alive3_f)); (case hl => rfl)) | ((with_reducible apply callX cl43 (sCut_f _ _ _ _)); (case hl => rfl)) | ((with_reducible apply callX cl41 (sIn_f _ _ _)); (case hl => rfl)) | omega))
      all_goals (rw [hLd, g2, g3]; rfl)

theorem sumM_snoc {l : Sps} {i : Nat} {q : Int × Int} (h : l[i]? = some q) : sumM (l.take (i + 1)) = sumM (l.take i) + many q.1 q.2 := by
  rw [List.take_add_one, h, sumM, List.map_append, List.sum_append]
  simp [sumM]
theorem many_bd (a b : Int) : 0 ≤ many a b ∧ many a b ≤ 292194 := by
  unfold many
  split
  · rename_i h; rw [has_iff] at h; omega
  · omega
theorem many_no {a b : Int} (h : has a b = false) : many a b = 0 := by simp [many, h]
theorem less_sum (a b c e : Int) : many (cA a b c e) (cB a b c e) + sumM (lessL a b c e) = many a b := by
  rw [less_eq]
  split
  · rename_i hv
    obtain ⟨h1, h2, -⟩ := cut_yes hv
    rw [h1, h2]
    simp only [Bool.and_eq_true] at hv
    have q1 := has_iff.1 hv.1.1
    have q3 := has_iff.1 hv.2
    have m1 := (many_yes hv.1.1).1
    have m3 := (many_yes hv.2).1
    rcases less_cases a (max a c) (min b e) b with ⟨g1, g2, hl⟩ | ⟨g1, g2, hl⟩ | ⟨g1, g2, hl⟩ | ⟨g1, g2, hl⟩
    all_goals
      rw [hl]
      simp only [sumM, List.map_cons, List.map_nil, List.sum_cons, List.sum_nil]
      have r1 := (Bool.eq_iff_iff.1 g1)
      have r2 := (Bool.eq_iff_iff.1 g2)
      simp only [has_iff, iff_true, reduceCtorEq, iff_false] at r1 r2
      try have n1 := (many_yes g1).1
      try have n2 := (many_yes g2).1
      omega
  · rename_i hv
    obtain ⟨h1, h2, -⟩ := cut_no (by simpa using hv)
    rw [h1, h2]
    have : many 0 0 = 0 := rfl
    rw [this]
    cases h : has a b
    · simp [hasL, h, sumM, many_no h]
    · simp [hasL, h, sumM]
theorem less_each {a b c e : Int} {q : Int × Int} (h : q ∈ lessL a b c e) : has q.1 q.2 = true ∧ many (cA q.1 q.2 c e) (cB q.1 q.2 c e) = 0 := by
  have hh : has q.1 q.2 = true := (hasL_mem.1 h).2
  refine ⟨hh, ?_⟩
  refine many_no ?_
  rw [Bool.eq_false_iff]
  intro hc
  have h3 := has_iff.1 hc
  have h4 : inS (cA q.1 q.2 c e) (cB q.1 q.2 c e) (cA q.1 q.2 c e) = true := by rw [inS_iff]; omega
  rw [inS_cut, Bool.and_eq_true] at h4
  have h5 : anyIn (lessL a b c e) (cA q.1 q.2 c e) = true := by
    simp only [anyIn, List.any_eq_true]
    exact ⟨q, h, h4.1⟩
  rw [less_any, h4.2] at h5
  simp at h5

set_option maxHeartbeats 4000000 in
theorem spanSumsLaw (a b c e : Int) : Fun Try.prog 15 [.agg [int a, int b], .agg [int c, int e]] (bool true) := by
  have hLd := less_sum a b c e
  have h1 := fun q => less_each (a := a) (b := b) (c := c) (e := e) (q := q)
  have hl : (lessL a b c e).length ≤ 2 := List.length_filter_le _ _
  have k1 := sLess_f a b c e
  have hb := many_bd a b
  have hbc := many_bd (cA a b c e) (cB a b c e)
  generalize lessL a b c e = L at *
  generalize hM : many (cA a b c e) (cB a b c e) = M at *
  refine fun_W mixed Try.func15 rfl (Nat.le_of_ble_eq_true rfl) (by kernel_rfl) fun cx hN hR hF hL => ?_; apply args_k; (case hA => (simp only [go_sem, ↓reduceIte, reduceCtorEq, Nat.reduceAdd, Nat.reduceMul, Nat.reduceEqDiff, Nat.reduceLT, Nat.reduceLeDiff, Nat.reduceBEq, Nat.reduceSub]; rfl))
  (repeat' (first | (with_reducible exact trivial) | (with_reducible apply byK; kernel_rfl) | (with_reducible apply byD; first | (simp; done) | (simp [go_sem]; done)) | ((with_reducible first | apply rk_v | apply rk_r | apply rk_vn | apply rg_v | apply rg_r | apply rk_s | apply rk_n | apply rk_a | apply rk_rn | apply gd_f); (case hi => rfl); (try case hb => kernel_rfl)) | (((with_reducible first | apply rg_n | apply rg_s); (case hi => rfl); (case hb => kernel_rfl)) <;> (intro hg; simp only [hg])) | ((with_reducible first | apply rk_all); (case hi => rfl); (case hb => kernel_rfl); (case h1 | h2 | h3 | h4 => (simp only [econs, List.map_cons, List.map_nil, List.cons_append, List.nil_append, OpS.nm, OpS.reads, OpS.turns]; try rfl))) | ((with_reducible first | apply rg_k); (case hi => rfl); (case hb => kernel_rfl); (case hs => rfl); (case h1 | h2 | h3 | h4 => (simp only [econs, List.map_cons, List.map_nil, List.cons_append, List.nil_append, OpS.nm, OpS.reads, OpS.turns]; try rfl))) | (((with_reducible first | apply rg_w); (case hi => rfl); (case hb => kernel_rfl); (case hs => rfl); (case h1 | h2 | h3 | h4 | h5 => (simp only [econs, List.map_cons, List.map_nil, List.cons_append, List.nil_append, OpS.nm, OpS.reads, OpS.turns]; try rfl))) <;> (intro hg; try (cases hg; done))) | ((with_reducible first | apply rs_nil); (case h => (unfold NapOK; kernel_rfl))) | ((with_reducible first | apply byKl | apply byKr); (case h => kernel_rfl)) | ((with_reducible first | apply rs_c | apply gd_c | apply rs_o | apply rs_gd | apply gd_u | apply w_c | apply ce); (try case hd => (repeat (first | (with_reducible exact dst_z rfl) | (with_reducible apply dst_s)))); (try case hn => rfl); (case hy => (simp only [go_sem, ↓reduceIte, reduceCtorEq, Nat.reduceAdd, Nat.reduceMul, Nat.reduceEqDiff, Nat.reduceLT, Nat.reduceLeDiff, Nat.reduceBEq, Nat.reduceSub, hM]; try with_reducible rfl))) | ((with_reducible first | apply cw_t | apply cw_f | apply rs_nil_f | apply lt_n | apply lb_n | apply lt_r | apply lb_r | apply lt_e | apply lb_e | apply w_seq | apply w_skip | apply w_block | apply w_ret | apply w_exit | apply w_loop | apply w_label)) | (((with_reducible first | apply lb_m)); (case hne => rfl)) | ((with_reducible first | apply w_region); (case hm => (simp only [Nat.reduceAdd]; try rfl)); (case hs => kernel_rfl); intro K hK) | (((with_reducible first | apply cw_c)) <;> (intro hq; try simp only [decide_eq_true_eq, decide_eq_false_iff_not, Bool.and_eq_true, Bool.or_eq_true, Bool.and_eq_false_iff, Bool.or_eq_false_iff, Bool.not_eq_true', Bool.not_eq_false', Int.not_lt, Int.not_le] at hq; try (exfalso; omega))) | (((with_reducible first | apply cw_b)) <;> (try intro hq)) | ((with_reducible first | apply ends_r | apply ends_n | apply endsB_r | apply endsB_n); (case hr => rfl); simp only [go_sem, ↓reduceIte, reduceCtorEq, Nat.reduceAdd, Nat.reduceMul, Nat.reduceEqDiff, Nat.reduceLT, Nat.reduceLeDiff, Nat.reduceBEq, Nat.reduceSub, hM]) | (with_reducible refine hK _ _ ?_; clear hK; clear K) | ((with_reducible apply callX cl46 (k1)); (case hl => rfl)) | ((with_reducible apply callX cl43 (sCut_f _ _ _ _)); (case hl => rfl)) | ((with_reducible apply callX cl39 (sMany_f _ _)); (case hl => rfl)) | omega))
  refine loopW mixed (σ := {i : Nat // i ≤ L.length ∧ 0 ≤ sumM (L.take i) ∧ sumM (L.take i) ≤ 292194 * (i : Int)}) (fun q => ⟨[(16, int q.1), (5, int (M + sumM (L.take q.1))), (14, prs L), (15, int L.length), (2, .ptr 0 0), (3, .ptr 8 0)], [(0, some ⟨30, [int a, int b]⟩), (8, some ⟨30, [int c, int e]⟩)], 4000⟩) (fun q => L.length - q.1) id ⟨0, by simp, by simp [sumM], by simp [sumM]⟩ (by rw [hN]; kernel_rfl) ?_ ?_
  · simp only [go_sem, ↓reduceIte, reduceCtorEq, Nat.reduceAdd, Nat.reduceMul, Nat.reduceEqDiff, Nat.reduceLT, Nat.reduceLeDiff, Nat.reduceBEq, Nat.reduceSub, hF]
    exact ⟨rfl, by simp [sumM]⟩
  · rintro ⟨i, g1, g2, g3⟩
    by_cases hi : i < L.length
    · have hq : L[i]? = some L[i] := List.getElem?_eq_getElem hi
      have e1 : (L.map prow)[i]? = some (prow L[i]) := by rw [List.getElem?_map, hq]; rfl
      have e5 : IntKind.i64.wrap ((i : Int) + 1) = ((i + 1 : Nat) : Int) := by rw [swrap] <;> omega
      have hk1 : i < (L.map prow).length := by simpa using hi
      have hs := sumM_snoc hq
      have hm := h1 _ (List.mem_of_getElem? hq)
      generalize L[i] = q at *
      have hmb := many_bd q.1 q.2
      have m1 : (many q.1 q.2 < 1) = False := eq_false (by have := (many_yes hm.1).2.2; omega)
      have m2 : ((0 : Int) > 0) = False := by simp
      have w1 : IntKind.i64.wrap (M + sumM (L.take i) + many q.1 q.2) = M + sumM (L.take (i + 1)) := by rw [swrap] <;> omega
      (repeat' (first | (with_reducible exact trivial) | (with_reducible apply byK; kernel_rfl) | (with_reducible apply byD; first | (simp; done) | (simp [go_sem]; done)) | ((with_reducible first | apply rk_v | apply rk_r | apply rk_vn | apply rg_v | apply rg_r | apply rk_s | apply rk_n | apply rk_a | apply rk_rn | apply gd_f); (case hi => rfl); (try case hb => kernel_rfl)) | (((with_reducible first | apply rg_n | apply rg_s); (case hi => rfl); (case hb => kernel_rfl)) <;> (intro hg; simp only [hg])) | ((with_reducible first | apply rk_all); (case hi => rfl); (case hb => kernel_rfl); (case h1 | h2 | h3 | h4 => (simp only [econs, List.map_cons, List.map_nil, List.cons_append, List.nil_append, OpS.nm, OpS.reads, OpS.turns]; try rfl))) | ((with_reducible first | apply rg_k); (case hi => rfl); (case hb => kernel_rfl); (case hs => rfl); (case h1 | h2 | h3 | h4 => (simp only [econs, List.map_cons, List.map_nil, List.cons_append, List.nil_append, OpS.nm, OpS.reads, OpS.turns]; try rfl))) | (((with_reducible first | apply rg_w); (case hi => rfl); (case hb => kernel_rfl); (case hs => rfl); (case h1 | h2 | h3 | h4 | h5 => (simp only [econs, List.map_cons, List.map_nil, List.cons_append, List.nil_append, OpS.nm, OpS.reads, OpS.turns]; try rfl))) <;> (intro hg; try (cases hg; done))) | ((with_reducible first | apply rs_nil); (case h => (unfold NapOK; kernel_rfl))) | ((with_reducible first | apply byKl | apply byKr); (case h => kernel_rfl)) | ((with_reducible first | apply rs_c | apply gd_c | apply rs_o | apply rs_gd | apply gd_u | apply w_c | apply ce); (try case hd => (repeat (first | (with_reducible exact dst_z rfl) | (with_reducible apply dst_s)))); (try case hn => rfl); (case hy => (simp only [go_sem, ↓reduceIte, reduceCtorEq, Nat.reduceAdd, Nat.reduceMul, Nat.reduceEqDiff, Nat.reduceLT, Nat.reduceLeDiff, Nat.reduceBEq, Nat.reduceSub, e1, e5, hk1, m1, hm.2, m2, w1, decide_false]; try with_reducible rfl))) | ((with_reducible first | apply cw_t | apply cw_f | apply rs_nil_f | apply lt_n | apply lb_n | apply lt_r | apply lb_r | apply lt_e | apply lb_e | apply w_seq | apply w_skip | apply w_block | apply w_ret | apply w_exit | apply w_loop | apply w_label)) | (((with_reducible first | apply lb_m)); (case hne => rfl)) | ((with_reducible first | apply w_region); (case hm => (simp only [Nat.reduceAdd]; try rfl)); (case hs => kernel_rfl); intro K hK) | (((with_reducible first | apply cw_c)) <;> (intro hq; try simp only [decide_eq_true_eq, decide_eq_false_iff_not, Bool.and_eq_true, Bool.or_eq_true, Bool.and_eq_false_iff, Bool.or_eq_false_iff, Bool.not_eq_true', Bool.not_eq_false', Int.not_lt, Int.not_le] at hq; try (exfalso; omega))) | (((with_reducible first | apply cw_b)) <;> (try intro hq)) | ((with_reducible first | apply ends_r | apply ends_n | apply endsB_r | apply endsB_n); (case hr => rfl); simp only [go_sem, ↓reduceIte, reduceCtorEq, Nat.reduceAdd, Nat.reduceMul, Nat.reduceEqDiff, Nat.reduceLT, Nat.reduceLeDiff, Nat.reduceBEq, Nat.reduceSub, e1, e5, hk1, m1, hm.2, m2, w1, decide_false]) | (with_reducible refine hK _ _ ?_; clear hK; clear K) | ((with_reducible apply callX cl43 (sCut_f _ _ _ _)); (case hl => rfl)) | ((with_reducible apply callX cl39 (sMany_f _ _)); (case hl => rfl)) | omega))
      refine ⟨⟨i + 1, hi, by omega, by omega⟩, id, ?_, by show L.length - (i + 1) < L.length - i; omega⟩
      simp only [go_sem, ↓reduceIte, reduceCtorEq, Nat.reduceAdd, Nat.reduceMul, Nat.reduceEqDiff, Nat.reduceLT, Nat.reduceLeDiff, Nat.reduceBEq, Nat.reduceSub, hF]
    · obtain rfl : i = L.length := by omega
      simp only [List.take_length]
      (repeat' (first | (with_reducible exact trivial) | (with_reducible apply byK; kernel_rfl) | (with_reducible apply byD; first | (simp; done) | (simp [go_sem]; done)) | ((with_reducible first | apply rk_v | apply rk_r | apply rk_vn | apply rg_v | apply rg_r | apply rk_s | apply rk_n | apply rk_a | apply rk_rn | apply gd_f); (case hi => rfl); (try case hb => kernel_rfl)) | (((with_reducible first | apply rg_n | apply rg_s); (case hi => rfl); (case hb => kernel_rfl)) <;> (intro hg; simp only [hg])) | ((with_reducible first | apply rk_all); (case hi => rfl); (case hb => kernel_rfl); (case h1 | h2 | h3 | h4 => (simp only [econs, List.map_cons, List.map_nil, List.cons_append, List.nil_append, OpS.nm, OpS.reads, OpS.turns]; try rfl))) | ((with_reducible first | apply rg_k); (case hi => rfl); (case hb => kernel_rfl); (case hs => rfl); (case h1 | h2 | h3 | h4 => (simp only [econs, List.map_cons, List.map_nil, List.cons_append, List.nil_append, OpS.nm, OpS.reads, OpS.turns]; try rfl))) | (((with_reducible first | apply rg_w); (case hi => rfl); (case hb => kernel_rfl); (case hs => rfl); (case h1 | h2 | h3 | h4 | h5 => (simp only [econs, List.map_cons, List.map_nil, List.cons_append, List.nil_append, OpS.nm, OpS.reads, OpS.turns]; try rfl))) <;> (intro hg; try (cases hg; done))) | ((with_reducible first | apply rs_nil); (case h => (unfold NapOK; kernel_rfl))) | ((with_reducible first | apply byKl | apply byKr); (case h => kernel_rfl)) | ((with_reducible first | apply rs_c | apply gd_c | apply rs_o | apply rs_gd | apply gd_u | apply w_c | apply ce); (try case hd => (repeat (first | (with_reducible exact dst_z rfl) | (with_reducible apply dst_s)))); (try case hn => rfl); (case hy => (simp only [go_sem, ↓reduceIte, reduceCtorEq, Nat.reduceAdd, Nat.reduceMul, Nat.reduceEqDiff, Nat.reduceLT, Nat.reduceLeDiff, Nat.reduceBEq, Nat.reduceSub, beq_self_eq_true]; try with_reducible rfl))) | ((with_reducible first | apply cw_t | apply cw_f | apply rs_nil_f | apply lt_n | apply lb_n | apply lt_r | apply lb_r | apply lt_e | apply lb_e | apply w_seq | apply w_skip | apply w_block | apply w_ret | apply w_exit | apply w_loop | apply w_label)) | (((with_reducible first | apply lb_m)); (case hne => rfl)) | ((with_reducible first | apply w_region); (case hm => (simp only [Nat.reduceAdd]; try rfl)); (case hs => kernel_rfl); intro K hK) | (((with_reducible first | apply cw_c)) <;> (intro hq; try simp only [decide_eq_true_eq, decide_eq_false_iff_not, Bool.and_eq_true, Bool.or_eq_true, Bool.and_eq_false_iff, Bool.or_eq_false_iff, Bool.not_eq_true', Bool.not_eq_false', Int.not_lt, Int.not_le] at hq; try (exfalso; omega))) | (((with_reducible first | apply cw_b)) <;> (try intro hq)) | ((with_reducible first | apply ends_r | apply ends_n | apply endsB_r | apply endsB_n); (case hr => rfl); simp only [go_sem, ↓reduceIte, reduceCtorEq, Nat.reduceAdd, Nat.reduceMul, Nat.reduceEqDiff, Nat.reduceLT, Nat.reduceLeDiff, Nat.reduceBEq, Nat.reduceSub, beq_self_eq_true]) | (with_reducible refine hK _ _ ?_; clear hK; clear K) | ((with_reducible apply callX cl36 (alive3_f)); (case hl => rfl)) | ((with_reducible apply callX cl39 (sMany_f _ _)); (case hl => rfl)) | omega))
      exact decide_eq_true hLd
end Go.Proofs.Ytffiompkjhopkaa.V
