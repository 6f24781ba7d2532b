/- Contracts: made; the laws of chapter 27. -/
import Derived.Test.YtkagkiepicepeaaG26
set_option linter.unusedSimpArgs false
set_option linter.unusedVariables false
namespace Go.Proofs.Ytkagkiepicepeaa.V
open Go.RowKit
set_option maxRecDepth 100000
attribute [local go_sem] Option.toList_some Option.toList_none

def madeL (acc : List Fact) : List Fact → List Fact
  | [] => acc
  | f :: l => madeL (if putFE acc f = 0 then acc ++ [f] else acc) l

theorem madeL_snoc (f : Fact) : ∀ (l acc : List Fact), madeL acc (l ++ [f]) = if putFE (madeL acc l) f = 0 then madeL acc l ++ [f] else madeL acc l
  | [], acc => rfl
  | g :: l, acc => by rw [List.cons_append, madeL, madeL, madeL_snoc f l]

/-- A journal's facts, nil where there are none yet. -/
def factsV (l : List Fact) : AV := if l.length = 0 then .v (.slice none 0 0) else facts l
theorem factsV_nil {l : List Fact} (h : l = []) : factsV l = .v (.slice none 0 0) := by simp [factsV, h]
theorem factsV_some {l : List Fact} (h : ¬ l = []) : factsV l = facts l := by simp [factsV, h]

set_option maxHeartbeats 2000000 in
theorem made_f (t : List Version) (l : List Fact) : Fun Try.prog 22 [.agg [vers t], facts l] (.agg (Journal.mk t (madeL [] l)).flat) := by
  refine fun_W mixed Try.func22 rfl (Nat.le_of_ble_eq_true rfl) (by kernel_rfl) fun cx hN hR hF hL => ?_; apply args_k; (case hA => (simp only [go_sem, ↓reduceIte, reduceCtorEq, Nat.reduceAdd, Nat.reduceMul, Nat.reduceEqDiff, Nat.reduceLT, Nat.reduceLeDiff, Nat.reduceBEq, Nat.reduceSub]; rfl))
  have hl : l.length ≤ 9223372036854775807 := by
    have := hL
    simp [maxLen] at this
    omega
  (repeat' (first | exact trivial | (with_reducible apply byK; kernel_rfl) | (with_reducible apply byD; first | (simp; done) | (simp [go_sem]; done)) | ((with_reducible first | apply rk_v | apply rk_r | apply rk_vn | apply rg_v | apply rg_r | apply rk_s | apply rk_n | apply rk_a | apply rk_rn | apply gd_f); (case hi => rfl); (try case hb => kernel_rfl)) | (((with_reducible first | apply rg_n | apply rg_s); (case hi => rfl); (case hb => kernel_rfl)) <;> (intro hg; simp only [hg])) | ((with_reducible first | apply rk_all); (case hi => rfl); (case hb => kernel_rfl); (case h1 | h2 | h3 | h4 => (simp only [econs, List.map_cons, List.map_nil, List.cons_append, List.nil_append, OpS.nm, OpS.reads, OpS.turns]; try rfl))) | ((with_reducible first | apply rg_k); (case hi => rfl); (case hb => kernel_rfl); (case hs => rfl); (case h1 | h2 | h3 | h4 => (simp only [econs, List.map_cons, List.map_nil, List.cons_append, List.nil_append, OpS.nm, OpS.reads, OpS.turns]; try rfl))) | (((with_reducible first | apply rg_w); (case hi => rfl); (case hb => kernel_rfl); (case hs => rfl); (case h1 | h2 | h3 | h4 | h5 => (simp only [econs, List.map_cons, List.map_nil, List.cons_append, List.nil_append, OpS.nm, OpS.reads, OpS.turns]; try rfl))) <;> (intro hg; try (cases hg; done))) | ((with_reducible first | apply rs_nil); (case h => (unfold NapOK; kernel_rfl))) | ((with_reducible first | apply byKl | apply byKr); (case h => kernel_rfl)) | ((with_reducible first | apply rs_c | apply gd_c | apply rs_o | apply rs_gd | apply gd_u | apply w_c | apply ce); (try case hd => (repeat (first | exact dst_z rfl | apply dst_s))); (try case hn => rfl); (case hy => (simp only [go_sem, ↓reduceIte, reduceCtorEq, Nat.reduceAdd, Nat.reduceMul, Nat.reduceEqDiff, Nat.reduceLT, Nat.reduceLeDiff, Nat.reduceBEq, Nat.reduceSub]; try with_reducible rfl))) | ((with_reducible first | apply cw_t | apply cw_f | apply rs_nil_f | apply lt_n | apply lb_n | apply lt_r | apply lb_r | apply lt_e | apply lb_e | apply w_seq | apply w_skip | apply w_block | apply w_ret | apply w_exit | apply w_loop | apply w_label)) | (((with_reducible first | apply lb_m)); (case hne => rfl)) | ((with_reducible first | apply w_region); (case hm => (simp only [Nat.reduceAdd]; try rfl)); (case hs => kernel_rfl); intro K hK) | (((with_reducible first | apply cw_c)) <;> (intro hq; try simp only [decide_eq_true_eq, decide_eq_false_iff_not, Bool.and_eq_true, Bool.or_eq_true, Bool.and_eq_false_iff, Bool.or_eq_false_iff, Bool.not_eq_true', Bool.not_eq_false', Int.not_lt, Int.not_le] at hq; try (exfalso; omega))) | (((with_reducible first | apply cw_b)) <;> (try intro hq)) | ((with_reducible first | apply ends_r | apply ends_n | apply endsB_r | apply endsB_n); (case hr => rfl); simp only [go_sem, ↓reduceIte, reduceCtorEq, Nat.reduceAdd, Nat.reduceMul, Nat.reduceEqDiff, Nat.reduceLT, Nat.reduceLeDiff, Nat.reduceBEq, Nat.reduceSub]) | (with_reducible refine hK _ _ ?_; clear hK; clear K) | omega))
  refine loopW mixed (σ := {i : Nat // i ≤ l.length}) (fun s => ⟨[(14, int s.1), (13, int l.length), (12, facts l), (5, .ptr 1016 0), (4, .ptr 8 0)],
    [(1016, some ⟨27, [vers t, factsV (madeL [] (l.take s.1))]⟩), (8, some ⟨27, [.v (.slice none 0 0), .v (.slice none 0 0)]⟩)], 4001⟩) (fun s => l.length - s.1) id ⟨0, by omega⟩ (by rw [hN]; kernel_rfl) ?_ ?_
  · have h0 : factsV (madeL [] (List.take 0 l)) = .v (.slice none 0 0) := factsV_nil rfl
    simp only [h0]
    simp only [go_sem, ↓reduceIte, reduceCtorEq, Nat.reduceAdd, Nat.reduceMul, Nat.reduceEqDiff, Nat.reduceLT, Nat.reduceLeDiff, Nat.reduceBEq, Nat.reduceSub, hF]
    rfl
  · rintro ⟨i, h1⟩
    by_cases hi : i < l.length
    · have e1 : l[i]? = some l[i] := List.getElem?_eq_getElem hi
      have e2 : IntKind.i64.wrap ((i : Int) + 1) = ((i + 1 : Nat) : Int) := by rw [wrap_id] <;> omega
      have hst : madeL [] (l.take (i + 1)) = if putFE (madeL [] (l.take i)) l[i] = 0 then madeL [] (l.take i) ++ [l[i]] else madeL [] (l.take i) := by
        rw [List.take_succ_eq_append_getElem hi, madeL_snoc]
      have hP := factPut_f ⟨t, madeL [] (l.take i)⟩ l[i]
      by_cases hp : putFE (madeL [] (l.take i)) l[i] = 0
      · rw [if_pos hp] at hst
        have hne : ¬ madeL [] (l.take (i + 1)) = [] := by rw [hst]; simp
        have hv := factsV_some hne
        have hpy := put_yes (t := t) hp
        rw [← hst] at hpy
        rw [hpy] at hP
        by_cases ho : madeL [] (l.take i) = []
        · have ho2 := factsV_nil ho
          rw [ho] at hP hp
          (repeat' (first | exact trivial | (with_reducible apply byK; kernel_rfl) | (with_reducible apply byD; first | (simp; done) | (simp [go_sem]; done)) | ((with_reducible first | apply rk_v | apply rk_r | apply rk_vn | apply rg_v | apply rg_r | apply rk_s | apply rk_n | apply rk_a | apply rk_rn | apply gd_f); (case hi => rfl); (try case hb => kernel_rfl)) | (((with_reducible first | apply rg_n | apply rg_s); (case hi => rfl); (case hb => kernel_rfl)) <;> (intro hg; simp only [hg])) | ((with_reducible first | apply rk_all); (case hi => rfl); (case hb => kernel_rfl); (case h1 | h2 | h3 | h4 => (simp only [econs, List.map_cons, List.map_nil, List.cons_append, List.nil_append, OpS.nm, OpS.reads, OpS.turns]; try rfl))) | ((with_reducible first | apply rg_k); (case hi => rfl); (case hb => kernel_rfl); (case hs => rfl); (case h1 | h2 | h3 | h4 => (simp only [econs, List.map_cons, List.map_nil, List.cons_append, List.nil_append, OpS.nm, OpS.reads, OpS.turns]; try rfl))) | (((with_reducible first | apply rg_w); (case hi => rfl); (case hb => kernel_rfl); (case hs => rfl); (case h1 | h2 | h3 | h4 | h5 => (simp only [econs, List.map_cons, List.map_nil, List.cons_append, List.nil_append, OpS.nm, OpS.reads, OpS.turns]; try rfl))) <;> (intro hg; try (cases hg; done))) | ((with_reducible first | apply rs_nil); (case h => (unfold NapOK; kernel_rfl))) | ((with_reducible first | apply byKl | apply byKr); (case h => kernel_rfl)) | ((with_reducible first | apply rs_c | apply gd_c | apply rs_o | apply rs_gd | apply gd_u | apply w_c | apply ce); (try case hd => (repeat (first | exact dst_z rfl | apply dst_s))); (try case hn => rfl); (case hy => (simp only [go_sem, ↓reduceIte, reduceCtorEq, Nat.reduceAdd, Nat.reduceMul, Nat.reduceEqDiff, Nat.reduceLT, Nat.reduceLeDiff, Nat.reduceBEq, Nat.reduceSub, e1, e2, ho2, eq_true hp]; try with_reducible rfl))) | ((with_reducible first | apply cw_t | apply cw_f | apply rs_nil_f | apply lt_n | apply lb_n | apply lt_r | apply lb_r | apply lt_e | apply lb_e | apply w_seq | apply w_skip | apply w_block | apply w_ret | apply w_exit | apply w_loop | apply w_label)) | (((with_reducible first | apply lb_m)); (case hne => rfl)) | ((with_reducible first | apply w_region); (case hm => (simp only [Nat.reduceAdd]; try rfl)); (case hs => kernel_rfl); intro K hK) | (((with_reducible first | apply cw_c)) <;> (intro hq; try simp only [decide_eq_true_eq, decide_eq_false_iff_not, Bool.and_eq_true, Bool.or_eq_true, Bool.and_eq_false_iff, Bool.or_eq_false_iff, Bool.not_eq_true', Bool.not_eq_false', Int.not_lt, Int.not_le] at hq; try (exfalso; omega))) | (((with_reducible first | apply cw_b)) <;> (try intro hq)) | ((with_reducible first | apply ends_r | apply ends_n | apply endsB_r | apply endsB_n); (case hr => rfl); simp only [go_sem, ↓reduceIte, reduceCtorEq, Nat.reduceAdd, Nat.reduceMul, Nat.reduceEqDiff, Nat.reduceLT, Nat.reduceLeDiff, Nat.reduceBEq, Nat.reduceSub, e1, e2, ho2, eq_true hp]) | (with_reducible refine hK _ _ ?_; clear hK; clear K) | ((with_reducible apply callFX [] cl17 (hP)); (case hy | hl | hk => (simp only [go_sem, ↓reduceIte, reduceCtorEq, Nat.reduceAdd, Nat.reduceMul, Nat.reduceEqDiff, Nat.reduceLT, Nat.reduceLeDiff, Nat.reduceBEq, Nat.reduceSub]; try rfl)); (case hz => (simp [go_sem, fzo, e1, e2, ho2, eq_true hp]; done))) | omega))
          refine ⟨⟨i + 1, by omega⟩, id, ?_, by show l.length - (i + 1) < l.length - i; omega⟩
          simp only [go_sem, ↓reduceIte, reduceCtorEq, Nat.reduceAdd, Nat.reduceMul, Nat.reduceEqDiff, Nat.reduceLT, Nat.reduceLeDiff, Nat.reduceBEq, Nat.reduceSub, hF, hv]
        · have ho2 := factsV_some ho
          (repeat' (first | exact trivial | (with_reducible apply byK; kernel_rfl) | (with_reducible apply byD; first | (simp; done) | (simp [go_sem]; done)) | ((with_reducible first | apply rk_v | apply rk_r | apply rk_vn | apply rg_v | apply rg_r | apply rk_s | apply rk_n | apply rk_a | apply rk_rn | apply gd_f); (case hi => rfl); (try case hb => kernel_rfl)) | (((with_reducible first | apply rg_n | apply rg_s); (case hi => rfl); (case hb => kernel_rfl)) <;> (intro hg; simp only [hg])) | ((with_reducible first | apply rk_all); (case hi => rfl); (case hb => kernel_rfl); (case h1 | h2 | h3 | h4 => (simp only [econs, List.map_cons, List.map_nil, List.cons_append, List.nil_append, OpS.nm, OpS.reads, OpS.turns]; try rfl))) | ((with_reducible first | apply rg_k); (case hi => rfl); (case hb => kernel_rfl); (case hs => rfl); (case h1 | h2 | h3 | h4 => (simp only [econs, List.map_cons, List.map_nil, List.cons_append, List.nil_append, OpS.nm, OpS.reads, OpS.turns]; try rfl))) | (((with_reducible first | apply rg_w); (case hi => rfl); (case hb => kernel_rfl); (case hs => rfl); (case h1 | h2 | h3 | h4 | h5 => (simp only [econs, List.map_cons, List.map_nil, List.cons_append, List.nil_append, OpS.nm, OpS.reads, OpS.turns]; try rfl))) <;> (intro hg; try (cases hg; done))) | ((with_reducible first | apply rs_nil); (case h => (unfold NapOK; kernel_rfl))) | ((with_reducible first | apply byKl | apply byKr); (case h => kernel_rfl)) | ((with_reducible first | apply rs_c | apply gd_c | apply rs_o | apply rs_gd | apply gd_u | apply w_c | apply ce); (try case hd => (repeat (first | exact dst_z rfl | apply dst_s))); (try case hn => rfl); (case hy => (simp only [go_sem, ↓reduceIte, reduceCtorEq, Nat.reduceAdd, Nat.reduceMul, Nat.reduceEqDiff, Nat.reduceLT, Nat.reduceLeDiff, Nat.reduceBEq, Nat.reduceSub, e1, e2, ho2, eq_true hp]; try with_reducible rfl))) | ((with_reducible first | apply cw_t | apply cw_f | apply rs_nil_f | apply lt_n | apply lb_n | apply lt_r | apply lb_r | apply lt_e | apply lb_e | apply w_seq | apply w_skip | apply w_block | apply w_ret | apply w_exit | apply w_loop | apply w_label)) | (((with_reducible first | apply lb_m)); (case hne => rfl)) | ((with_reducible first | apply w_region); (case hm => (simp only [Nat.reduceAdd]; try rfl)); (case hs => kernel_rfl); intro K hK) | (((with_reducible first | apply cw_c)) <;> (intro hq; try simp only [decide_eq_true_eq, decide_eq_false_iff_not, Bool.and_eq_true, Bool.or_eq_true, Bool.and_eq_false_iff, Bool.or_eq_false_iff, Bool.not_eq_true', Bool.not_eq_false', Int.not_lt, Int.not_le] at hq; try (exfalso; omega))) | (((with_reducible first | apply cw_b)) <;> (try intro hq)) | ((with_reducible first | apply ends_r | apply ends_n | apply endsB_r | apply endsB_n); (case hr => rfl); simp only [go_sem, ↓reduceIte, reduceCtorEq, Nat.reduceAdd, Nat.reduceMul, Nat.reduceEqDiff, Nat.reduceLT, Nat.reduceLeDiff, Nat.reduceBEq, Nat.reduceSub, e1, e2, ho2, eq_true hp]) | (with_reducible refine hK _ _ ?_; clear hK; clear K) | ((with_reducible apply callX cl17 (hP)); (case hl => rfl)) | omega))
          refine ⟨⟨i + 1, by omega⟩, id, ?_, by show l.length - (i + 1) < l.length - i; omega⟩
          simp only [go_sem, ↓reduceIte, reduceCtorEq, Nat.reduceAdd, Nat.reduceMul, Nat.reduceEqDiff, Nat.reduceLT, Nat.reduceLeDiff, Nat.reduceBEq, Nat.reduceSub, hF, hv]
      · rw [if_neg hp] at hst
        by_cases ho : madeL [] (l.take i) = []
        · have ho2 := factsV_nil ho
          rw [ho] at hP hp
          (repeat' (first | exact trivial | (with_reducible apply byK; kernel_rfl) | (with_reducible apply byD; first | (simp; done) | (simp [go_sem]; done)) | ((with_reducible first | apply rk_v | apply rk_r | apply rk_vn | apply rg_v | apply rg_r | apply rk_s | apply rk_n | apply rk_a | apply rk_rn | apply gd_f); (case hi => rfl); (try case hb => kernel_rfl)) | (((with_reducible first | apply rg_n | apply rg_s); (case hi => rfl); (case hb => kernel_rfl)) <;> (intro hg; simp only [hg])) | ((with_reducible first | apply rk_all); (case hi => rfl); (case hb => kernel_rfl); (case h1 | h2 | h3 | h4 => (simp only [econs, List.map_cons, List.map_nil, List.cons_append, List.nil_append, OpS.nm, OpS.reads, OpS.turns]; try rfl))) | ((with_reducible first | apply rg_k); (case hi => rfl); (case hb => kernel_rfl); (case hs => rfl); (case h1 | h2 | h3 | h4 => (simp only [econs, List.map_cons, List.map_nil, List.cons_append, List.nil_append, OpS.nm, OpS.reads, OpS.turns]; try rfl))) | (((with_reducible first | apply rg_w); (case hi => rfl); (case hb => kernel_rfl); (case hs => rfl); (case h1 | h2 | h3 | h4 | h5 => (simp only [econs, List.map_cons, List.map_nil, List.cons_append, List.nil_append, OpS.nm, OpS.reads, OpS.turns]; try rfl))) <;> (intro hg; try (cases hg; done))) | ((with_reducible first | apply rs_nil); (case h => (unfold NapOK; kernel_rfl))) | ((with_reducible first | apply byKl | apply byKr); (case h => kernel_rfl)) | ((with_reducible first | apply rs_c | apply gd_c | apply rs_o | apply rs_gd | apply gd_u | apply w_c | apply ce); (try case hd => (repeat (first | exact dst_z rfl | apply dst_s))); (try case hn => rfl); (case hy => (simp only [go_sem, ↓reduceIte, reduceCtorEq, Nat.reduceAdd, Nat.reduceMul, Nat.reduceEqDiff, Nat.reduceLT, Nat.reduceLeDiff, Nat.reduceBEq, Nat.reduceSub, e1, e2, ho2, eq_false hp]; try with_reducible rfl))) | ((with_reducible first | apply cw_t | apply cw_f | apply rs_nil_f | apply lt_n | apply lb_n | apply lt_r | apply lb_r | apply lt_e | apply lb_e | apply w_seq | apply w_skip | apply w_block | apply w_ret | apply w_exit | apply w_loop | apply w_label)) | (((with_reducible first | apply lb_m)); (case hne => rfl)) | ((with_reducible first | apply w_region); (case hm => (simp only [Nat.reduceAdd]; try rfl)); (case hs => kernel_rfl); intro K hK) | (((with_reducible first | apply cw_c)) <;> (intro hq; try simp only [decide_eq_true_eq, decide_eq_false_iff_not, Bool.and_eq_true, Bool.or_eq_true, Bool.and_eq_false_iff, Bool.or_eq_false_iff, Bool.not_eq_true', Bool.not_eq_false', Int.not_lt, Int.not_le] at hq; try (exfalso; omega))) | (((with_reducible first | apply cw_b)) <;> (try intro hq)) | ((with_reducible first | apply ends_r | apply ends_n | apply endsB_r | apply endsB_n); (case hr => rfl); simp only [go_sem, ↓reduceIte, reduceCtorEq, Nat.reduceAdd, Nat.reduceMul, Nat.reduceEqDiff, Nat.reduceLT, Nat.reduceLeDiff, Nat.reduceBEq, Nat.reduceSub, e1, e2, ho2, eq_false hp]) | (with_reducible refine hK _ _ ?_; clear hK; clear K) | ((with_reducible apply callFX [] cl17 (hP)); (case hy | hl | hk => (simp only [go_sem, ↓reduceIte, reduceCtorEq, Nat.reduceAdd, Nat.reduceMul, Nat.reduceEqDiff, Nat.reduceLT, Nat.reduceLeDiff, Nat.reduceBEq, Nat.reduceSub]; try rfl)); (case hz => (simp [go_sem, fzo, e1, e2, ho2, eq_false hp]; done))) | omega))
          refine ⟨⟨i + 1, by omega⟩, id, ?_, by show l.length - (i + 1) < l.length - i; omega⟩
          simp only [go_sem, ↓reduceIte, reduceCtorEq, Nat.reduceAdd, Nat.reduceMul, Nat.reduceEqDiff, Nat.reduceLT, Nat.reduceLeDiff, Nat.reduceBEq, Nat.reduceSub, hF, hst, ho2]
        · have ho2 := factsV_some ho
          (repeat' (first | exact trivial | (with_reducible apply byK; kernel_rfl) | (with_reducible apply byD; first | (simp; done) | (simp [go_sem]; done)) | ((with_reducible first | apply rk_v | apply rk_r | apply rk_vn | apply rg_v | apply rg_r | apply rk_s | apply rk_n | apply rk_a | apply rk_rn | apply gd_f); (case hi => rfl); (try case hb => kernel_rfl)) | (((with_reducible first | apply rg_n | apply rg_s); (case hi => rfl); (case hb => kernel_rfl)) <;> (intro hg; simp only [hg])) | ((with_reducible first | apply rk_all); (case hi => rfl); (case hb => kernel_rfl); (case h1 | h2 | h3 | h4 => (simp only [econs, List.map_cons, List.map_nil, List.cons_append, List.nil_append, OpS.nm, OpS.reads, OpS.turns]; try rfl))) | ((with_reducible first | apply rg_k); (case hi => rfl); (case hb => kernel_rfl); (case hs => rfl); (case h1 | h2 | h3 | h4 => (simp only [econs, List.map_cons, List.map_nil, List.cons_append, List.nil_append, OpS.nm, OpS.reads, OpS.turns]; try rfl))) | (((with_reducible first | apply rg_w); (case hi => rfl); (case hb => kernel_rfl); (case hs => rfl); (case h1 | h2 | h3 | h4 | h5 => (simp only [econs, List.map_cons, List.map_nil, List.cons_append, List.nil_append, OpS.nm, OpS.reads, OpS.turns]; try rfl))) <;> (intro hg; try (cases hg; done))) | ((with_reducible first | apply rs_nil); (case h => (unfold NapOK; kernel_rfl))) | ((with_reducible first | apply byKl | apply byKr); (case h => kernel_rfl)) | ((with_reducible first | apply rs_c | apply gd_c | apply rs_o | apply rs_gd | apply gd_u | apply w_c | apply ce); (try case hd => (repeat (first | exact dst_z rfl | apply dst_s))); (try case hn => rfl); (case hy => (simp only [go_sem, ↓reduceIte, reduceCtorEq, Nat.reduceAdd, Nat.reduceMul, Nat.reduceEqDiff, Nat.reduceLT, Nat.reduceLeDiff, Nat.reduceBEq, Nat.reduceSub, e1, e2, ho2, eq_false hp]; try with_reducible rfl))) | ((with_reducible first | apply cw_t | apply cw_f | apply rs_nil_f | apply lt_n | apply lb_n | apply lt_r | apply lb_r | apply lt_e | apply lb_e | apply w_seq | apply w_skip | apply w_block | apply w_ret | apply w_exit | apply w_loop | apply w_label)) | (((with_reducible first | apply lb_m)); (case hne => rfl)) | ((with_reducible first | apply w_region); (case hm => (simp only [Nat.reduceAdd]; try rfl)); (case hs => kernel_rfl); intro K hK) | (((with_reducible first | apply cw_c)) <;> (intro hq; try simp only [decide_eq_true_eq, decide_eq_false_iff_not, Bool.and_eq_true, Bool.or_eq_true, Bool.and_eq_false_iff, Bool.or_eq_false_iff, Bool.not_eq_true', Bool.not_eq_false', Int.not_lt, Int.not_le] at hq; try (exfalso; omega))) | (((with_reducible first | apply cw_b)) <;> (try intro hq)) | ((with_reducible first | apply ends_r | apply ends_n | apply endsB_r | apply endsB_n); (case hr => rfl); simp only [go_sem, ↓reduceIte, reduceCtorEq, Nat.reduceAdd, Nat.reduceMul, Nat.reduceEqDiff, Nat.reduceLT, Nat.reduceLeDiff, Nat.reduceBEq, Nat.reduceSub, e1, e2, ho2, eq_false hp]) | (with_reducible refine hK _ _ ?_; clear hK; clear K) | ((with_reducible apply callX cl17 (hP)); (case hl => rfl)) | omega))
          refine ⟨⟨i + 1, by omega⟩, id, ?_, by show l.length - (i + 1) < l.length - i; omega⟩
          simp only [go_sem, ↓reduceIte, reduceCtorEq, Nat.reduceAdd, Nat.reduceMul, Nat.reduceEqDiff, Nat.reduceLT, Nat.reduceLeDiff, Nat.reduceBEq, Nat.reduceSub, hF, hst, ho2]
    · have ht : l.take i = l := List.take_of_length_le (by omega)
      by_cases ho : madeL [] l = []
      · have ho2 := factsV_nil ho
        (repeat' (first | exact trivial | (with_reducible apply byK; kernel_rfl) | (with_reducible apply byD; first | (simp; done) | (simp [go_sem]; done)) | ((with_reducible first | apply rk_v | apply rk_r | apply rk_vn | apply rg_v | apply rg_r | apply rk_s | apply rk_n | apply rk_a | apply rk_rn | apply gd_f); (case hi => rfl); (try case hb => kernel_rfl)) | (((with_reducible first | apply rg_n | apply rg_s); (case hi => rfl); (case hb => kernel_rfl)) <;> (intro hg; simp only [hg])) | ((with_reducible first | apply rk_all); (case hi => rfl); (case hb => kernel_rfl); (case h1 | h2 | h3 | h4 => (simp only [econs, List.map_cons, List.map_nil, List.cons_append, List.nil_append, OpS.nm, OpS.reads, OpS.turns]; try rfl))) | ((with_reducible first | apply rg_k); (case hi => rfl); (case hb => kernel_rfl); (case hs => rfl); (case h1 | h2 | h3 | h4 => (simp only [econs, List.map_cons, List.map_nil, List.cons_append, List.nil_append, OpS.nm, OpS.reads, OpS.turns]; try rfl))) | (((with_reducible first | apply rg_w); (case hi => rfl); (case hb => kernel_rfl); (case hs => rfl); (case h1 | h2 | h3 | h4 | h5 => (simp only [econs, List.map_cons, List.map_nil, List.cons_append, List.nil_append, OpS.nm, OpS.reads, OpS.turns]; try rfl))) <;> (intro hg; try (cases hg; done))) | ((with_reducible first | apply rs_nil); (case h => (unfold NapOK; kernel_rfl))) | ((with_reducible first | apply byKl | apply byKr); (case h => kernel_rfl)) | ((with_reducible first | apply rs_c | apply gd_c | apply rs_o | apply rs_gd | apply gd_u | apply w_c | apply ce); (try case hd => (repeat (first | exact dst_z rfl | apply dst_s))); (try case hn => rfl); (case hy => (simp only [go_sem, ↓reduceIte, reduceCtorEq, Nat.reduceAdd, Nat.reduceMul, Nat.reduceEqDiff, Nat.reduceLT, Nat.reduceLeDiff, Nat.reduceBEq, Nat.reduceSub, ht, ho2]; try with_reducible rfl))) | ((with_reducible first | apply cw_t | apply cw_f | apply rs_nil_f | apply lt_n | apply lb_n | apply lt_r | apply lb_r | apply lt_e | apply lb_e | apply w_seq | apply w_skip | apply w_block | apply w_ret | apply w_exit | apply w_loop | apply w_label)) | (((with_reducible first | apply lb_m)); (case hne => rfl)) | ((with_reducible first | apply w_region); (case hm => (simp only [Nat.reduceAdd]; try rfl)); (case hs => kernel_rfl); intro K hK) | (((with_reducible first | apply cw_c)) <;> (intro hq; try simp only [decide_eq_true_eq, decide_eq_false_iff_not, Bool.and_eq_true, Bool.or_eq_true, Bool.and_eq_false_iff, Bool.or_eq_false_iff, Bool.not_eq_true', Bool.not_eq_false', Int.not_lt, Int.not_le] at hq; try (exfalso; omega))) | (((with_reducible first | apply cw_b)) <;> (try intro hq)) | ((with_reducible first | apply ends_r | apply ends_n | apply endsB_r | apply endsB_n); (case hr => rfl); simp only [go_sem, ↓reduceIte, reduceCtorEq, Nat.reduceAdd, Nat.reduceMul, Nat.reduceEqDiff, Nat.reduceLT, Nat.reduceLeDiff, Nat.reduceBEq, Nat.reduceSub, ht, ho2]) | (with_reducible refine hK _ _ ?_; clear hK; clear K) | omega))
        rw [ho]; rfl
      · have ho2 := factsV_some ho
        (repeat' (first | exact trivial | (with_reducible apply byK; kernel_rfl) | (with_reducible apply byD; first | (simp; done) | (simp [go_sem]; done)) | ((with_reducible first | apply rk_v | apply rk_r | apply rk_vn | apply rg_v | apply rg_r | apply rk_s | apply rk_n | apply rk_a | apply rk_rn | apply gd_f); (case hi => rfl); (try case hb => kernel_rfl)) | (((with_reducible first | apply rg_n | apply rg_s); (case hi => rfl); (case hb => kernel_rfl)) <;> (intro hg; simp only [hg])) | ((with_reducible first | apply rk_all); (case hi => rfl); (case hb => kernel_rfl); (case h1 | h2 | h3 | h4 => (simp only [econs, List.map_cons, List.map_nil, List.cons_append, List.nil_append, OpS.nm, OpS.reads, OpS.turns]; try rfl))) | ((with_reducible first | apply rg_k); (case hi => rfl); (case hb => kernel_rfl); (case hs => rfl); (case h1 | h2 | h3 | h4 => (simp only [econs, List.map_cons, List.map_nil, List.cons_append, List.nil_append, OpS.nm, OpS.reads, OpS.turns]; try rfl))) | (((with_reducible first | apply rg_w); (case hi => rfl); (case hb => kernel_rfl); (case hs => rfl); (case h1 | h2 | h3 | h4 | h5 => (simp only [econs, List.map_cons, List.map_nil, List.cons_append, List.nil_append, OpS.nm, OpS.reads, OpS.turns]; try rfl))) <;> (intro hg; try (cases hg; done))) | ((with_reducible first | apply rs_nil); (case h => (unfold NapOK; kernel_rfl))) | ((with_reducible first | apply byKl | apply byKr); (case h => kernel_rfl)) | ((with_reducible first | apply rs_c | apply gd_c | apply rs_o | apply rs_gd | apply gd_u | apply w_c | apply ce); (try case hd => (repeat (first | exact dst_z rfl | apply dst_s))); (try case hn => rfl); (case hy => (simp only [go_sem, ↓reduceIte, reduceCtorEq, Nat.reduceAdd, Nat.reduceMul, Nat.reduceEqDiff, Nat.reduceLT, Nat.reduceLeDiff, Nat.reduceBEq, Nat.reduceSub, ht, ho2]; try with_reducible rfl))) | ((with_reducible first | apply cw_t | apply cw_f | apply rs_nil_f | apply lt_n | apply lb_n | apply lt_r | apply lb_r | apply lt_e | apply lb_e | apply w_seq | apply w_skip | apply w_block | apply w_ret | apply w_exit | apply w_loop | apply w_label)) | (((with_reducible first | apply lb_m)); (case hne => rfl)) | ((with_reducible first | apply w_region); (case hm => (simp only [Nat.reduceAdd]; try rfl)); (case hs => kernel_rfl); intro K hK) | (((with_reducible first | apply cw_c)) <;> (intro hq; try simp only [decide_eq_true_eq, decide_eq_false_iff_not, Bool.and_eq_true, Bool.or_eq_true, Bool.and_eq_false_iff, Bool.or_eq_false_iff, Bool.not_eq_true', Bool.not_eq_false', Int.not_lt, Int.not_le] at hq; try (exfalso; omega))) | (((with_reducible first | apply cw_b)) <;> (try intro hq)) | ((with_reducible first | apply ends_r | apply ends_n | apply endsB_r | apply endsB_n); (case hr => rfl); simp only [go_sem, ↓reduceIte, reduceCtorEq, Nat.reduceAdd, Nat.reduceMul, Nat.reduceEqDiff, Nat.reduceLT, Nat.reduceLeDiff, Nat.reduceBEq, Nat.reduceSub, ht, ho2]) | (with_reducible refine hK _ _ ?_; clear hK; clear K) | omega))

/-! ### What is made -/

theorem putFE_zero {l : List Fact} {f : Fact} (h : putFE l f = 0) : f.right = true ∧ l.length < 2000 ∧ early l f.booked = false ∧ closedF 0 l < f.booked ∧ (f.kind = 7 → closedF 0 l < f.day) := by
  unfold putFE at h
  split at h
  · cases h
  · split at h
    · cases h
    · split at h
      · cases h
      · split at h
        · cases h
        · rename_i h1 h2 h3 h4
          simp at h1 h2 h3 h4
          refine ⟨h1, by omega, h3, by omega, fun hk => ?_⟩
          have := h4.2 hk
          omega

/-- Facts of which each could be put behind those ahead of it. -/
def Made (l : List Fact) : Prop := ∀ (k : Nat) (h : k < l.length), putFE (l.take k) l[k] = 0

theorem Made.snoc {l : List Fact} {f : Fact} (h : Made l) (hf : putFE l f = 0) : Made (l ++ [f]) := by
  intro k hk
  by_cases hl : k < l.length
  · rw [List.take_append_of_le_length (by omega), List.getElem_append_left hl]
    exact h k hl
  · have : k = l.length := by simp at hk; omega
    subst this
    simpa using hf

theorem made_made : ∀ (l acc : List Fact), Made acc → Made (madeL acc l)
  | [], acc, h => h
  | f :: l, acc, h => by
    rw [madeL]
    apply made_made l
    split
    · exact h.snoc (by assumption)
    · exact h

theorem made_nil : Made [] := fun k h => absurd h (by simp)

theorem Made.rise {l : List Fact} (h : Made l) : ∀ (j i : Nat) (hij : i ≤ j) (hj : j < l.length), (l[i]'(by omega)).booked ≤ l[j].booked
  | 0, i, hij, hj => by
    have : i = 0 := by omega
    subst this; exact Int.le_refl _
  | j + 1, i, hij, hj => by
    rcases Nat.lt_or_ge i (j + 1) with hlt | hge
    · have h1 := h.rise j i (by omega) (by omega)
      have h2 := (putFE_zero (h (j + 1) hj)).2.2.1
      rw [List.take_succ_eq_append_getElem (by omega), early_snoc] at h2
      simp at h2
      omega
    · have : i = j + 1 := by omega
      subst this; exact Int.le_refl _

theorem Made.pair {l : List Fact} (h : Made l) : l.Pairwise fun f g => f.booked ≤ g.booked :=
  List.pairwise_iff_getElem.2 fun i j hi hj hij => h.rise j i (by omega) hj

theorem upto_take {b : Int} : ∀ {l : List Fact}, (l.Pairwise fun f g => f.booked ≤ g.booked) → uptoL l b = l.take (uptoL l b).length
  | [], _ => rfl
  | f :: l, h => by
    rw [List.pairwise_cons] at h
    by_cases hf : f.booked ≤ b
    · have : uptoL (f :: l) b = f :: uptoL l b := by simp [uptoL, hf]
      rw [this, List.length_cons, List.take_succ_cons, ← upto_take h.2]
    · have : uptoL (f :: l) b = [] := by
        simp only [uptoL, List.filter_eq_nil_iff]
        intro g hg
        rcases List.mem_cons.1 hg with rfl | hg
        · simpa using hf
        · have := h.1 g hg
          simp; omega
      rw [this]; rfl

theorem Made.small {l : List Fact} (h : Made l) : ∀ f, f ∈ l → f.small := fun f hf => by
  obtain ⟨k, hk, rfl⟩ := List.mem_iff_getElem.1 hf
  exact right_small (putFE_zero (h k hk)).1

theorem madeL_len : ∀ (l acc : List Fact), (madeL acc l).length ≤ acc.length + l.length
  | [], acc => by simp [madeL]
  | f :: l, acc => by
    rw [madeL]
    have := madeL_len l (if putFE acc f = 0 then acc ++ [f] else acc)
    split at this <;> simp_all <;> omega

theorem upto_upto {l : List Fact} {a b : Int} (h : a ≤ b) : uptoL (uptoL l b) a = uptoL l a := by
  simp only [uptoL, List.filter_filter]
  congr 1
  funext f
  rw [Bool.eq_iff_iff]
  simp
  omega

end Go.Proofs.Ytkagkiepicepeaa.V
