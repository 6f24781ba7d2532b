/- Contracts: change.History, by the closure over its changes. Contracts: ref 11 History; Same. Contracts: Order of two changes; what the laws of chapter 11 ask first. Contracts: what the laws of chapter 11 ask first. Contracts: few; Bind, History of any terms; ChangeRight, ChangeBinds, ChangeIn. Contract: ChangeOrder. slices.cut, in the order of the changes (chapter 12). Plain: rows in their order: a part of them; turned round. Contracts: bands, tariffs (chapters 6, 7), the references'. -/
import Derived.Test.YtkonljmmdifnaaaGreatG11
import Derived.Test.YtkonljmmdifnaaaGreatG6
import Derived.Test.YtkonljmmdifnaaaGreatG7
import Derived.Test.YtkonljmmdifnaaaGreatG8
set_option linter.unusedSimpArgs false
set_option linter.unusedVariables false
namespace Go.Proofs.YtkonljmmdifnaaaGreat.V
open Go.RowKit
set_option maxRecDepth 100000
attribute [local go_sem] Option.toList_some Option.toList_none

/-- What the closure says of a change, the last thing having been booked then. -/
def badC (x : History) (last : Int) (c : Change) : Bool := decide (c.booked < last) || !c.right || !spanIn x.terms.from_ x.terms.to_ c.day

theorem hist1_f (x : History) (last : Int) (c : Change) : FunB Tryz.prog 46 [(0, ⟨3, [int last]⟩), (1, ⟨31, x.flat⟩)] [.agg c.flat, .ptr 0 0, .ptr 1 0] (bool (badC x last c)) [(0, some ⟨3, [int c.booked]⟩)] := by
  refine fun_WB 2 mixed Tryz.func46 rfl (Nat.le_of_ble_eq_true rfl) (by kernel_rfl) (by simp [go_sem]) fun cx hN hR hF hL => ?_; apply args_kb; (case hA => (simp only [go_sem, ↓reduceIte]; rfl)); (case hB => (simp only [go_sem, ↓reduceIte]; rfl))
  (repeat' (first | (with_reducible exact trivial) | (with_reducible apply byK; kernel_rfl) | (with_reducible apply byD; first | (simp; done) | (simp [go_sem]; done)) | ((with_reducible first | apply rk_v | apply rk_r | apply rk_vn | apply rg_v | apply rg_r | apply rk_s | apply rk_n | apply rk_a | apply rk_rn | apply gd_f); (case hi => rfl); (try case hb => kernel_rfl)) | (((with_reducible first | apply rg_n | apply rg_s); (case hi => rfl); (case hb => kernel_rfl)) <;> (intro hg; simp only [hg])) | ((with_reducible first | apply rk_all); (case hi => rfl); (case hb => kernel_rfl); (case h1 | h2 | h3 | h4 => (simp only [econs, List.map_cons, List.map_nil, List.cons_append, List.nil_append, OpS.nm, OpS.reads, OpS.turns]; try rfl))) | ((with_reducible first | apply rg_k); (case hi => rfl); (case hb => kernel_rfl); (case hs => rfl); (case h1 | h2 | h3 | h4 => (simp only [econs, List.map_cons, List.map_nil, List.cons_append, List.nil_append, OpS.nm, OpS.reads, OpS.turns]; try rfl))) | (((with_reducible first | apply rg_w); (case hi => rfl); (case hb => kernel_rfl); (case hs => rfl); (case h1 | h2 | h3 | h4 | h5 => (simp only [econs, List.map_cons, List.map_nil, List.cons_append, List.nil_append, OpS.nm, OpS.reads, OpS.turns]; try rfl))) <;> (intro hg; try (cases hg; done))) | ((with_reducible first | apply rs_nil); (case h => (unfold NapOK; kernel_rfl))) | ((with_reducible first | apply byKl | apply byKr); (case h => kernel_rfl)) | ((with_reducible first | apply rs_c | apply gd_c | apply rs_o | apply rs_gd | apply gd_u | apply w_c | apply ce); (try case hd => (repeat (first | (with_reducible exact dst_z rfl) | (with_reducible apply dst_s)))); (try case hn => rfl); (case hy => (simp only [go_sem, ↓reduceIte]; try with_reducible rfl))) | ((with_reducible first | apply cw_t | apply cw_f | apply rs_nil_f | apply lt_n | apply lb_n | apply lt_r | apply lb_r | apply lt_e | apply lb_e | apply w_seq | apply w_skip | apply w_block | apply w_ret | apply w_exit | apply w_loop | apply w_label)) | (((with_reducible first | apply lb_m)); (case hne => rfl)) | ((with_reducible first | apply w_region); (case hm => (simp only [Nat.reduceAdd]; try rfl)); (case hs => kernel_rfl); intro K hK) | (((with_reducible first | apply cw_c)) <;> (intro hq; try simp only [decide_eq_true_eq, decide_eq_false_iff_not, Bool.and_eq_true, Bool.or_eq_true, Bool.and_eq_false_iff, Bool.or_eq_false_iff, Bool.not_eq_true', Bool.not_eq_false', Int.not_lt, Int.not_le] at hq; try (exfalso; omega))) | (((with_reducible first | apply cw_b)) <;> (try intro hq)) | ((with_reducible first | apply ends_r | apply ends_n | apply endsB_r | apply endsB_n); (case hr => rfl); simp only [go_sem, ↓reduceIte]) | (with_reducible refine hK _ _ ?_; clear hK; clear K) | ((with_reducible apply callX cl47 (changeRight_f _)); (case hl => rfl)) | ((with_reducible apply callX cl18 (in_f _ _ _)); (case hl => rfl)) | omega))
  exact .inl rfl

/-- Where the first bad one lies (or -1), and when the last one that was looked at was booked. -/
def scanC (x : History) (last i : Int) : List Change → Int × Int
  | [] => (-1, last)
  | c :: l => if badC x last c then (i, c.booked) else scanC x c.booked (i + 1) l

theorem lastB_snoc (b : Int) (l : List Change) (c : Change) : lastB b (l ++ [c]) = c.booked := by simp [lastB]
theorem lastB_take {b : Int} {l : List Change} {i : Nat} (h : i < l.length) : lastB b (l.take (i + 1)) = l[i].booked := by
  rw [List.take_succ_eq_append_getElem h, lastB_snoc]

theorem index_f (x : History) (last : Int) (l : List Change) : FunB Tryz.prog 79 [(0, ⟨3, [int last]⟩), (1, ⟨31, x.flat⟩)] [chgs l, .fn (.func 46) [] [.ptr 0 0, .ptr 1 0]] (int (scanC x last 0 l).1) [(0, some ⟨3, [int (scanC x last 0 l).2]⟩)] := by
  refine fun_WB 2 mixed Tryz.func79 rfl (Nat.le_of_ble_eq_true rfl) (by kernel_rfl) (by simp [go_sem]) fun cx hN hR hF hL => ?_; apply args_kb; (case hA => (simp only [go_sem, ↓reduceIte]; rfl)); (case hB => (simp only [go_sem, ↓reduceIte]; rfl))
  have hl : l.length ≤ 9223372036854775807 := by
    have := hL.1
    simp [maxLen] at this
    omega
  have hb : ∀ b g, cx.F b = some g → b < 3000 := fun b g h => by
    have := hF b g h
    simp [inl] at this
    omega
  (repeat' (first | (with_reducible exact trivial) | (with_reducible apply byK; kernel_rfl) | (with_reducible apply byD; first | (simp; done) | (simp [go_sem]; done)) | ((with_reducible first | apply rk_v | apply rk_r | apply rk_vn | apply rg_v | apply rg_r | apply rk_s | apply rk_n | apply rk_a | apply rk_rn | apply gd_f); (case hi => rfl); (try case hb => kernel_rfl)) | (((with_reducible first | apply rg_n | apply rg_s); (case hi => rfl); (case hb => kernel_rfl)) <;> (intro hg; simp only [hg])) | ((with_reducible first | apply rk_all); (case hi => rfl); (case hb => kernel_rfl); (case h1 | h2 | h3 | h4 => (simp only [econs, List.map_cons, List.map_nil, List.cons_append, List.nil_append, OpS.nm, OpS.reads, OpS.turns]; try rfl))) | ((with_reducible first | apply rg_k); (case hi => rfl); (case hb => kernel_rfl); (case hs => rfl); (case h1 | h2 | h3 | h4 => (simp only [econs, List.map_cons, List.map_nil, List.cons_append, List.nil_append, OpS.nm, OpS.reads, OpS.turns]; try rfl))) | (((with_reducible first | apply rg_w); (case hi => rfl); (case hb => kernel_rfl); (case hs => rfl); (case h1 | h2 | h3 | h4 | h5 => (simp only [econs, List.map_cons, List.map_nil, List.cons_append, List.nil_append, OpS.nm, OpS.reads, OpS.turns]; try rfl))) <;> (intro hg; try (cases hg; done))) | ((with_reducible first | apply rs_nil); (case h => (unfold NapOK; kernel_rfl))) | ((with_reducible first | apply byKl | apply byKr); (case h => kernel_rfl)) | ((with_reducible first | apply rs_c | apply gd_c | apply rs_o | apply rs_gd | apply gd_u | apply w_c | apply ce); (try case hd => (repeat (first | (with_reducible exact dst_z rfl) | (with_reducible apply dst_s)))); (try case hn => rfl); (case hy => (simp only [go_sem, ↓reduceIte]; try with_reducible rfl))) | ((with_reducible first | apply cw_t | apply cw_f | apply rs_nil_f | apply lt_n | apply lb_n | apply lt_r | apply lb_r | apply lt_e | apply lb_e | apply w_seq | apply w_skip | apply w_block | apply w_ret | apply w_exit | apply w_loop | apply w_label)) | (((with_reducible first | apply lb_m)); (case hne => rfl)) | ((with_reducible first | apply w_region); (case hm => (simp only [Nat.reduceAdd]; try rfl)); (case hs => kernel_rfl); intro K hK) | (((with_reducible first | apply cw_c)) <;> (intro hq; try simp only [decide_eq_true_eq, decide_eq_false_iff_not, Bool.and_eq_true, Bool.or_eq_true, Bool.and_eq_false_iff, Bool.or_eq_false_iff, Bool.not_eq_true', Bool.not_eq_false', Int.not_lt, Int.not_le] at hq; try (exfalso; omega))) | (((with_reducible first | apply cw_b)) <;> (try intro hq)) | ((with_reducible first | apply ends_r | apply ends_n | apply endsB_r | apply endsB_n); (case hr => rfl); simp only [go_sem, ↓reduceIte]) | (with_reducible refine hK _ _ ?_; clear hK; clear K) | omega))
  refine loopW mixed (σ := {i : Nat // i ≤ l.length ∧ scanC x last 0 l = scanC x (lastB last (l.take i)) i (l.drop i)}) (fun s => ⟨[(8, int s.1), (7, int l.length), (4, int 0), (1, .fn (.func 46) [] [.ptr 0 0, .ptr 1 0]), (0, chgs l)], [(0, some ⟨3, [int (lastB last (l.take s.1))]⟩), (1, some ⟨31, x.flat⟩)], 3000⟩) (fun s => l.length - s.1) id ⟨0, by omega, rfl⟩ (by rw [hN]; kernel_rfl) ?_ ?_
  · simp only [go_sem, ↓reduceIte, hF]
    exact ⟨rfl, rfl, hb⟩
  · rintro ⟨i, h1, h2⟩
    by_cases hi : i < l.length
    · have e1 : l[i]? = some l[i] := List.getElem?_eq_getElem hi
      have e2 : IntKind.i64.wrap ((i : Int) + 1) = ((i + 1 : Nat) : Int) := by rw [wrap_id] <;> omega
      (repeat' (first | (with_reducible exact trivial) | (with_reducible apply byK; kernel_rfl) | (with_reducible apply byD; first | (simp; done) | (simp [go_sem]; done)) | ((with_reducible first | apply rk_v | apply rk_r | apply rk_vn | apply rg_v | apply rg_r | apply rk_s | apply rk_n | apply rk_a | apply rk_rn | apply gd_f); (case hi => rfl); (try case hb => kernel_rfl)) | (((with_reducible first | apply rg_n | apply rg_s); (case hi => rfl); (case hb => kernel_rfl)) <;> (intro hg; simp only [hg])) | ((with_reducible first | apply rk_all); (case hi => rfl); (case hb => kernel_rfl); (case h1 | h2 | h3 | h4 => (simp only [econs, List.map_cons, List.map_nil, List.cons_append, List.nil_append, OpS.nm, OpS.reads, OpS.turns]; try rfl))) | ((with_reducible first | apply rg_k); (case hi => rfl); (case hb => kernel_rfl); (case hs => rfl); (case h1 | h2 | h3 | h4 => (simp only [econs, List.map_cons, List.map_nil, List.cons_append, List.nil_append, OpS.nm, OpS.reads, OpS.turns]; try rfl))) | (((with_reducible first | apply rg_w); (case hi => rfl); (case hb => kernel_rfl); (case hs => rfl); (case h1 | h2 | h3 | h4 | h5 => (simp only [econs, List.map_cons, List.map_nil, List.cons_append, List.nil_append, OpS.nm, OpS.reads, OpS.turns]; try rfl))) <;> (intro hg; try (cases hg; done))) | ((with_reducible first | apply rs_nil); (case h => (unfold NapOK; kernel_rfl))) | ((with_reducible first | apply byKl | apply byKr); (case h => kernel_rfl)) | ((with_reducible first | apply rs_c | apply gd_c | apply rs_o | apply rs_gd | apply gd_u | apply w_c | apply ce); (try case hd => (repeat (first | (with_reducible exact dst_z rfl) | (with_reducible apply dst_s)))); (try case hn => rfl); (case hy => (simp only [go_sem, ↓reduceIte, e1, e2]; try with_reducible rfl))) | ((with_reducible first | apply cw_t | apply cw_f | apply rs_nil_f | apply lt_n | apply lb_n | apply lt_r | apply lb_r | apply lt_e | apply lb_e | apply w_seq | apply w_skip | apply w_block | apply w_ret | apply w_exit | apply w_loop | apply w_label)) | (((with_reducible first | apply lb_m)); (case hne => rfl)) | ((with_reducible first | apply w_region); (case hm => (simp only [Nat.reduceAdd]; try rfl)); (case hs => kernel_rfl); intro K hK) | (((with_reducible first | apply cw_c)) <;> (intro hq; try simp only [decide_eq_true_eq, decide_eq_false_iff_not, Bool.and_eq_true, Bool.or_eq_true, Bool.and_eq_false_iff, Bool.or_eq_false_iff, Bool.not_eq_true', Bool.not_eq_false', Int.not_lt, Int.not_le] at hq; try (exfalso; omega))) | (((with_reducible first | apply cw_b)) <;> (try intro hq)) | ((with_reducible first | apply ends_r | apply ends_n | apply endsB_r | apply endsB_n); (case hr => rfl); simp only [go_sem, ↓reduceIte, e1, e2]) | (with_reducible refine hK _ _ ?_; clear hK; clear K) | omega))
      have hnx : scanC x (lastB last (l.take i)) i (l.drop i) = if badC x (lastB last (l.take i)) l[i] then (((i : Nat) : Int), (l[i]).booked) else scanC x (lastB last (l.take (i + 1))) ((i + 1 : Nat) : Int) (l.drop (i + 1)) := by
        rw [List.drop_eq_getElem_cons hi, scanC, lastB_take hi]
        rfl
      rw [hnx] at h2
      (apply callB' [0, 1] cl46 (hist1_f x (lastB last (l.take i)) l[i]); (case h1 | h2 | h3 => (simp only [go_sem, ↓reduceIte]; try rfl)); (case hl | hs | hfp | hfr => (simp [go_sem]; done)))
      (repeat' (first | (with_reducible exact trivial) | (with_reducible apply byK; kernel_rfl) | (with_reducible apply byD; first | (simp; done) | (simp [go_sem]; done)) | ((with_reducible first | apply rk_v | apply rk_r | apply rk_vn | apply rg_v | apply rg_r | apply rk_s | apply rk_n | apply rk_a | apply rk_rn | apply gd_f); (case hi => rfl); (try case hb => kernel_rfl)) | (((with_reducible first | apply rg_n | apply rg_s); (case hi => rfl); (case hb => kernel_rfl)) <;> (intro hg; simp only [hg])) | ((with_reducible first | apply rk_all); (case hi => rfl); (case hb => kernel_rfl); (case h1 | h2 | h3 | h4 => (simp only [econs, List.map_cons, List.map_nil, List.cons_append, List.nil_append, OpS.nm, OpS.reads, OpS.turns]; try rfl))) | ((with_reducible first | apply rg_k); (case hi => rfl); (case hb => kernel_rfl); (case hs => rfl); (case h1 | h2 | h3 | h4 => (simp only [econs, List.map_cons, List.map_nil, List.cons_append, List.nil_append, OpS.nm, OpS.reads, OpS.turns]; try rfl))) | (((with_reducible first | apply rg_w); (case hi => rfl); (case hb => kernel_rfl); (case hs => rfl); (case h1 | h2 | h3 | h4 | h5 => (simp only [econs, List.map_cons, List.map_nil, List.cons_append, List.nil_append, OpS.nm, OpS.reads, OpS.turns]; try rfl))) <;> (intro hg; try (cases hg; done))) | ((with_reducible first | apply rs_nil); (case h => (unfold NapOK; kernel_rfl))) | ((with_reducible first | apply byKl | apply byKr); (case h => kernel_rfl)) | ((with_reducible first | apply rs_c | apply gd_c | apply rs_o | apply rs_gd | apply gd_u | apply w_c | apply ce); (try case hd => (repeat (first | (with_reducible exact dst_z rfl) | (with_reducible apply dst_s)))); (try case hn => rfl); (case hy => (simp only [go_sem, ↓reduceIte, e1, e2]; try with_reducible rfl))) | ((with_reducible first | apply cw_t | apply cw_f | apply rs_nil_f | apply lt_n | apply lb_n | apply lt_r | apply lb_r | apply lt_e | apply lb_e | apply w_seq | apply w_skip | apply w_block | apply w_ret | apply w_exit | apply w_loop | apply w_label)) | (((with_reducible first | apply lb_m)); (case hne => rfl)) | ((with_reducible first | apply w_region); (case hm => (simp only [Nat.reduceAdd]; try rfl)); (case hs => kernel_rfl); intro K hK) | (((with_reducible first | apply cw_c)) <;> (intro hq; try simp only [decide_eq_true_eq, decide_eq_false_iff_not, Bool.and_eq_true, Bool.or_eq_true, Bool.and_eq_false_iff, Bool.or_eq_false_iff, Bool.not_eq_true', Bool.not_eq_false', Int.not_lt, Int.not_le] at hq; try (exfalso; omega))) | (((with_reducible first | apply cw_b)) <;> (try intro hq)) | ((with_reducible first | apply ends_r | apply ends_n | apply endsB_r | apply endsB_n); (case hr => rfl); simp only [go_sem, ↓reduceIte, e1, e2]) | (with_reducible refine hK _ _ ?_; clear hK; clear K) | omega))
      · rw [if_pos hq] at h2
        rw [h2]
        exact ⟨rfl, .inl rfl⟩
      · rw [if_neg (by rw [hq]; decide)] at h2
        refine ⟨⟨i + 1, by omega, h2⟩, id, ?_, by show l.length - (i + 1) < l.length - i; omega⟩
        simp only [go_sem, ↓reduceIte, hF, lastB_take hi]
        exact hb
    · (repeat' (first | (with_reducible exact trivial) | (with_reducible apply byK; kernel_rfl) | (with_reducible apply byD; first | (simp; done) | (simp [go_sem]; done)) | ((with_reducible first | apply rk_v | apply rk_r | apply rk_vn | apply rg_v | apply rg_r | apply rk_s | apply rk_n | apply rk_a | apply rk_rn | apply gd_f); (case hi => rfl); (try case hb => kernel_rfl)) | (((with_reducible first | apply rg_n | apply rg_s); (case hi => rfl); (case hb => kernel_rfl)) <;> (intro hg; simp only [hg])) | ((with_reducible first | apply rk_all); (case hi => rfl); (case hb => kernel_rfl); (case h1 | h2 | h3 | h4 => (simp only [econs, List.map_cons, List.map_nil, List.cons_append, List.nil_append, OpS.nm, OpS.reads, OpS.turns]; try rfl))) | ((with_reducible first | apply rg_k); (case hi => rfl); (case hb => kernel_rfl); (case hs => rfl); (case h1 | h2 | h3 | h4 => (simp only [econs, List.map_cons, List.map_nil, List.cons_append, List.nil_append, OpS.nm, OpS.reads, OpS.turns]; try rfl))) | (((with_reducible first | apply rg_w); (case hi => rfl); (case hb => kernel_rfl); (case hs => rfl); (case h1 | h2 | h3 | h4 | h5 => (simp only [econs, List.map_cons, List.map_nil, List.cons_append, List.nil_append, OpS.nm, OpS.reads, OpS.turns]; try rfl))) <;> (intro hg; try (cases hg; done))) | ((with_reducible first | apply rs_nil); (case h => (unfold NapOK; kernel_rfl))) | ((with_reducible first | apply byKl | apply byKr); (case h => kernel_rfl)) | ((with_reducible first | apply rs_c | apply gd_c | apply rs_o | apply rs_gd | apply gd_u | apply w_c | apply ce); (try case hd => (repeat (first | (with_reducible exact dst_z rfl) | (with_reducible apply dst_s)))); (try case hn => rfl); (case hy => (simp only [go_sem, ↓reduceIte]; try with_reducible rfl))) | ((with_reducible first | apply cw_t | apply cw_f | apply rs_nil_f | apply lt_n | apply lb_n | apply lt_r | apply lb_r | apply lt_e | apply lb_e | apply w_seq | apply w_skip | apply w_block | apply w_ret | apply w_exit | apply w_loop | apply w_label)) | (((with_reducible first | apply lb_m)); (case hne => rfl)) | ((with_reducible first | apply w_region); (case hm => (simp only [Nat.reduceAdd]; try rfl)); (case hs => kernel_rfl); intro K hK) | (((with_reducible first | apply cw_c)) <;> (intro hq; try simp only [decide_eq_true_eq, decide_eq_false_iff_not, Bool.and_eq_true, Bool.or_eq_true, Bool.and_eq_false_iff, Bool.or_eq_false_iff, Bool.not_eq_true', Bool.not_eq_false', Int.not_lt, Int.not_le] at hq; try (exfalso; omega))) | (((with_reducible first | apply cw_b)) <;> (try intro hq)) | ((with_reducible first | apply ends_r | apply ends_n | apply endsB_r | apply endsB_n); (case hr => rfl); simp only [go_sem, ↓reduceIte]) | (with_reducible refine hK _ _ ?_; clear hK; clear K) | omega))
      rw [List.drop_eq_nil_of_le (by omega), scanC] at h2
      rw [h2]
      exact ⟨rfl, .inl rfl⟩

theorem contains_f (x : History) (last : Int) (l : List Change) : FunB Tryz.prog 48 [(0, ⟨3, [int last]⟩), (1, ⟨31, x.flat⟩)] [chgs l, .fn (.func 46) [] [.ptr 0 0, .ptr 1 0]] (bool (decide (0 ≤ (scanC x last 0 l).1))) [(0, some ⟨3, [int (scanC x last 0 l).2]⟩)] := by
  refine fun_WB 2 mixed Tryz.func48 rfl (Nat.le_of_ble_eq_true rfl) (by kernel_rfl) (by simp [go_sem]) fun cx hN hR hF hL => ?_; apply args_kb; (case hA => (simp only [go_sem, ↓reduceIte]; rfl)); (case hB => (simp only [go_sem, ↓reduceIte]; rfl))
  (repeat' (first | (with_reducible exact trivial) | (with_reducible apply byK; kernel_rfl) | (with_reducible apply byD; first | (simp; done) | (simp [go_sem]; done)) | ((with_reducible first | apply rk_v | apply rk_r | apply rk_vn | apply rg_v | apply rg_r | apply rk_s | apply rk_n | apply rk_a | apply rk_rn | apply gd_f); (case hi => rfl); (try case hb => kernel_rfl)) | (((with_reducible first | apply rg_n | apply rg_s); (case hi => rfl); (case hb => kernel_rfl)) <;> (intro hg; simp only [hg])) | ((with_reducible first | apply rk_all); (case hi => rfl); (case hb => kernel_rfl); (case h1 | h2 | h3 | h4 => (simp only [econs, List.map_cons, List.map_nil, List.cons_append, List.nil_append, OpS.nm, OpS.reads, OpS.turns]; try rfl))) | ((with_reducible first | apply rg_k); (case hi => rfl); (case hb => kernel_rfl); (case hs => rfl); (case h1 | h2 | h3 | h4 => (simp only [econs, List.map_cons, List.map_nil, List.cons_append, List.nil_append, OpS.nm, OpS.reads, OpS.turns]; try rfl))) | (((with_reducible first | apply rg_w); (case hi => rfl); (case hb => kernel_rfl); (case hs => rfl); (case h1 | h2 | h3 | h4 | h5 => (simp only [econs, List.map_cons, List.map_nil, List.cons_append, List.nil_append, OpS.nm, OpS.reads, OpS.turns]; try rfl))) <;> (intro hg; try (cases hg; done))) | ((with_reducible first | apply rs_nil); (case h => (unfold NapOK; kernel_rfl))) | ((with_reducible first | apply byKl | apply byKr); (case h => kernel_rfl)) | ((with_reducible first | apply rs_c | apply gd_c | apply rs_o | apply rs_gd | apply gd_u | apply w_c | apply ce); (try case hd => (repeat (first | (with_reducible exact dst_z rfl) | (with_reducible apply dst_s)))); (try case hn => rfl); (case hy => (simp only [go_sem, ↓reduceIte]; try with_reducible rfl))) | ((with_reducible first | apply cw_t | apply cw_f | apply rs_nil_f | apply lt_n | apply lb_n | apply lt_r | apply lb_r | apply lt_e | apply lb_e | apply w_seq | apply w_skip | apply w_block | apply w_ret | apply w_exit | apply w_loop | apply w_label)) | (((with_reducible first | apply lb_m)); (case hne => rfl)) | ((with_reducible first | apply w_region); (case hm => (simp only [Nat.reduceAdd]; try rfl)); (case hs => kernel_rfl); intro K hK) | (((with_reducible first | apply cw_c)) <;> (intro hq; try simp only [decide_eq_true_eq, decide_eq_false_iff_not, Bool.and_eq_true, Bool.or_eq_true, Bool.and_eq_false_iff, Bool.or_eq_false_iff, Bool.not_eq_true', Bool.not_eq_false', Int.not_lt, Int.not_le] at hq; try (exfalso; omega))) | (((with_reducible first | apply cw_b)) <;> (try intro hq)) | ((with_reducible first | apply ends_r | apply ends_n | apply endsB_r | apply endsB_n); (case hr => rfl); simp only [go_sem, ↓reduceIte]) | (with_reducible refine hK _ _ ?_; clear hK; clear K) | omega))
  (apply callB' [0, 1] cl79 (index_f x last l); (case h1 | h2 | h3 => (simp only [go_sem, ↓reduceIte]; try rfl)); (case hl | hs | hfp | hfr => (simp [go_sem]; done)))
  (repeat' (first | (with_reducible exact trivial) | (with_reducible apply byK; kernel_rfl) | (with_reducible apply byD; first | (simp; done) | (simp [go_sem]; done)) | ((with_reducible first | apply rk_v | apply rk_r | apply rk_vn | apply rg_v | apply rg_r | apply rk_s | apply rk_n | apply rk_a | apply rk_rn | apply gd_f); (case hi => rfl); (try case hb => kernel_rfl)) | (((with_reducible first | apply rg_n | apply rg_s); (case hi => rfl); (case hb => kernel_rfl)) <;> (intro hg; simp only [hg])) | ((with_reducible first | apply rk_all); (case hi => rfl); (case hb => kernel_rfl); (case h1 | h2 | h3 | h4 => (simp only [econs, List.map_cons, List.map_nil, List.cons_append, List.nil_append, OpS.nm, OpS.reads, OpS.turns]; try rfl))) | ((with_reducible first | apply rg_k); (case hi => rfl); (case hb => kernel_rfl); (case hs => rfl); (case h1 | h2 | h3 | h4 => (simp only [econs, List.map_cons, List.map_nil, List.cons_append, List.nil_append, OpS.nm, OpS.reads, OpS.turns]; try rfl))) | (((with_reducible first | apply rg_w); (case hi => rfl); (case hb => kernel_rfl); (case hs => rfl); (case h1 | h2 | h3 | h4 | h5 => (simp only [econs, List.map_cons, List.map_nil, List.cons_append, List.nil_append, OpS.nm, OpS.reads, OpS.turns]; try rfl))) <;> (intro hg; try (cases hg; done))) | ((with_reducible first | apply rs_nil); (case h => (unfold NapOK; kernel_rfl))) | ((with_reducible first | apply byKl | apply byKr); (case h => kernel_rfl)) | ((with_reducible first | apply rs_c | apply gd_c | apply rs_o | apply rs_gd | apply gd_u | apply w_c | apply ce); (try case hd => (repeat (first | (with_reducible exact dst_z rfl) | (with_reducible apply dst_s)))); (try case hn => rfl); (case hy => (simp only [go_sem, ↓reduceIte]; try with_reducible rfl))) | ((with_reducible first | apply cw_t | apply cw_f | apply rs_nil_f | apply lt_n | apply lb_n | apply lt_r | apply lb_r | apply lt_e | apply lb_e | apply w_seq | apply w_skip | apply w_block | apply w_ret | apply w_exit | apply w_loop | apply w_label)) | (((with_reducible first | apply lb_m)); (case hne => rfl)) | ((with_reducible first | apply w_region); (case hm => (simp only [Nat.reduceAdd]; try rfl)); (case hs => kernel_rfl); intro K hK) | (((with_reducible first | apply cw_c)) <;> (intro hq; try simp only [decide_eq_true_eq, decide_eq_false_iff_not, Bool.and_eq_true, Bool.or_eq_true, Bool.and_eq_false_iff, Bool.or_eq_false_iff, Bool.not_eq_true', Bool.not_eq_false', Int.not_lt, Int.not_le] at hq; try (exfalso; omega))) | (((with_reducible first | apply cw_b)) <;> (try intro hq)) | ((with_reducible first | apply ends_r | apply ends_n | apply endsB_r | apply endsB_n); (case hr => rfl); simp only [go_sem, ↓reduceIte]) | (with_reducible refine hK _ _ ?_; clear hK; clear K) | omega))

/-- Whether a history may be. -/
def goodC (t : Terms) (last : Int) : List Change → Bool
  | [] => true
  | c :: l => !(decide (c.booked < last) || !c.right || !spanIn t.from_ t.to_ c.day) && goodC t c.booked l
def histOk (h : History) : Bool := bindOk h.id h.booked h.terms && decide (h.changes.length ≤ 2000) && goodC h.terms h.booked h.changes

theorem scan_good (x : History) : ∀ (l : List Change) (last i : Int), 0 ≤ i → (decide (0 ≤ (scanC x last i l).1)) = !goodC x.terms last l
  | [], last, i, _ => rfl
  | c :: l, last, i, hi => by
    rw [scanC, goodC]
    by_cases h : badC x last c = true
    · rw [if_pos h]
      unfold badC at h
      rw [h]
      simp [hi]
    · rw [if_neg h, scan_good x l c.booked (i + 1) (by omega)]
      unfold badC at h
      simp only [Bool.not_eq_true] at h
      rw [h]
      rfl

theorem history_f (h : History) (hl : h.terms.covers.length ≤ 100000) : Fun Tryz.prog 23 [.agg h.flat] (bool (histOk h)) := by
  by_cases hb : bindOk h.id h.booked h.terms = true
  · have hH : bindH h.id h.booked h.terms = ⟨h.id, h.booked, h.terms, []⟩ := by simp [bindH, hb]
    have hE : bindE h.id h.booked h.terms = 0 := by simp [bindE, hb]
    by_cases hn : (h.changes.length : Int) ≤ 2000
    · refine fun_W mixed Tryz.func23 rfl (Nat.le_of_ble_eq_true rfl) (by kernel_rfl) fun cx hN hR hF hL => ?_; apply args_k; (case hA => (simp only [go_sem, ↓reduceIte]; rfl))
      (repeat' (first | (with_reducible exact trivial) | (with_reducible apply byK; kernel_rfl) | (with_reducible apply byD; first | (simp; done) | (simp [go_sem]; done)) | ((with_reducible first | apply rk_v | apply rk_r | apply rk_vn | apply rg_v | apply rg_r | apply rk_s | apply rk_n | apply rk_a | apply rk_rn | apply gd_f); (case hi => rfl); (try case hb => kernel_rfl)) | (((with_reducible first | apply rg_n | apply rg_s); (case hi => rfl); (case hb => kernel_rfl)) <;> (intro hg; simp only [hg])) | ((with_reducible first | apply rk_all); (case hi => rfl); (case hb => kernel_rfl); (case h1 | h2 | h3 | h4 => (simp only [econs, List.map_cons, List.map_nil, List.cons_append, List.nil_append, OpS.nm, OpS.reads, OpS.turns]; try rfl))) | ((with_reducible first | apply rg_k); (case hi => rfl); (case hb => kernel_rfl); (case hs => rfl); (case h1 | h2 | h3 | h4 => (simp only [econs, List.map_cons, List.map_nil, List.cons_append, List.nil_append, OpS.nm, OpS.reads, OpS.turns]; try rfl))) | (((with_reducible first | apply rg_w); (case hi => rfl); (case hb => kernel_rfl); (case hs => rfl); (case h1 | h2 | h3 | h4 | h5 => (simp only [econs, List.map_cons, List.map_nil, List.cons_append, List.nil_append, OpS.nm, OpS.reads, OpS.turns]; try rfl))) <;> (intro hg; try (cases hg; done))) | ((with_reducible first | apply rs_nil); (case h => (unfold NapOK; kernel_rfl))) | ((with_reducible first | apply byKl | apply byKr); (case h => kernel_rfl)) | ((with_reducible first | apply rs_c | apply gd_c | apply rs_o | apply rs_gd | apply gd_u | apply w_c | apply ce); (try case hd => (repeat (first | (with_reducible exact dst_z rfl) | (with_reducible apply dst_s)))); (try case hn => rfl); (case hy => (simp only [go_sem, ↓reduceIte, hH, hE, eq_true hn]; try with_reducible rfl))) | ((with_reducible first | apply cw_t | apply cw_f | apply rs_nil_f | apply lt_n | apply lb_n | apply lt_r | apply lb_r | apply lt_e | apply lb_e | apply w_seq | apply w_skip | apply w_block | apply w_ret | apply w_exit | apply w_loop | apply w_label)) | (((with_reducible first | apply lb_m)); (case hne => rfl)) | ((with_reducible first | apply w_region); (case hm => (simp only [Nat.reduceAdd]; try rfl)); (case hs => kernel_rfl); intro K hK) | (((with_reducible first | apply cw_c)) <;> (intro hq; try simp only [decide_eq_true_eq, decide_eq_false_iff_not, Bool.and_eq_true, Bool.or_eq_true, Bool.and_eq_false_iff, Bool.or_eq_false_iff, Bool.not_eq_true', Bool.not_eq_false', Int.not_lt, Int.not_le] at hq; try (exfalso; omega))) | (((with_reducible first | apply cw_b)) <;> (try intro hq)) | ((with_reducible first | apply ends_r | apply ends_n | apply endsB_r | apply endsB_n); (case hr => rfl); simp only [go_sem, ↓reduceIte, hH, hE, eq_true hn]) | (with_reducible refine hK _ _ ?_; clear hK; clear K) | ((with_reducible apply callX cl45 (bind_f _ _ _ hl)); (case hl => rfl)) | omega))
      (apply callB' [2016, 1080] cl48 (contains_f ⟨h.id, h.booked, h.terms, []⟩ h.booked h.changes); (case h1 | h2 | h3 => (simp only [go_sem, ↓reduceIte]; try rfl)); (case hl | hs | hfp | hfr => (simp [go_sem]; done)))
      (repeat' (first | (with_reducible exact trivial) | (with_reducible apply byK; kernel_rfl) | (with_reducible apply byD; first | (simp; done) | (simp [go_sem]; done)) | ((with_reducible first | apply rk_v | apply rk_r | apply rk_vn | apply rg_v | apply rg_r | apply rk_s | apply rk_n | apply rk_a | apply rk_rn | apply gd_f); (case hi => rfl); (try case hb => kernel_rfl)) | (((with_reducible first | apply rg_n | apply rg_s); (case hi => rfl); (case hb => kernel_rfl)) <;> (intro hg; simp only [hg])) | ((with_reducible first | apply rk_all); (case hi => rfl); (case hb => kernel_rfl); (case h1 | h2 | h3 | h4 => (simp only [econs, List.map_cons, List.map_nil, List.cons_append, List.nil_append, OpS.nm, OpS.reads, OpS.turns]; try rfl))) | ((with_reducible first | apply rg_k); (case hi => rfl); (case hb => kernel_rfl); (case hs => rfl); (case h1 | h2 | h3 | h4 => (simp only [econs, List.map_cons, List.map_nil, List.cons_append, List.nil_append, OpS.nm, OpS.reads, OpS.turns]; try rfl))) | (((with_reducible first | apply rg_w); (case hi => rfl); (case hb => kernel_rfl); (case hs => rfl); (case h1 | h2 | h3 | h4 | h5 => (simp only [econs, List.map_cons, List.map_nil, List.cons_append, List.nil_append, OpS.nm, OpS.reads, OpS.turns]; try rfl))) <;> (intro hg; try (cases hg; done))) | ((with_reducible first | apply rs_nil); (case h => (unfold NapOK; kernel_rfl))) | ((with_reducible first | apply byKl | apply byKr); (case h => kernel_rfl)) | ((with_reducible first | apply rs_c | apply gd_c | apply rs_o | apply rs_gd | apply gd_u | apply w_c | apply ce); (try case hd => (repeat (first | (with_reducible exact dst_z rfl) | (with_reducible apply dst_s)))); (try case hn => rfl); (case hy => (simp only [go_sem, ↓reduceIte]; try with_reducible rfl))) | ((with_reducible first | apply cw_t | apply cw_f | apply rs_nil_f | apply lt_n | apply lb_n | apply lt_r | apply lb_r | apply lt_e | apply lb_e | apply w_seq | apply w_skip | apply w_block | apply w_ret | apply w_exit | apply w_loop | apply w_label)) | (((with_reducible first | apply lb_m)); (case hne => rfl)) | ((with_reducible first | apply w_region); (case hm => (simp only [Nat.reduceAdd]; try rfl)); (case hs => kernel_rfl); intro K hK) | (((with_reducible first | apply cw_c)) <;> (intro hq; try simp only [decide_eq_true_eq, decide_eq_false_iff_not, Bool.and_eq_true, Bool.or_eq_true, Bool.and_eq_false_iff, Bool.or_eq_false_iff, Bool.not_eq_true', Bool.not_eq_false', Int.not_lt, Int.not_le] at hq; try (exfalso; omega))) | (((with_reducible first | apply cw_b)) <;> (try intro hq)) | ((with_reducible first | apply ends_r | apply ends_n | apply endsB_r | apply endsB_n); (case hr => rfl); simp only [go_sem, ↓reduceIte]) | (with_reducible refine hK _ _ ?_; clear hK; clear K) | omega))
      rw [scan_good _ _ _ _ (by omega)]
      simp [histOk, hb]
      omega
    · refine fun_W mixed Tryz.func23 rfl (Nat.le_of_ble_eq_true rfl) (by kernel_rfl) fun cx hN hR hF hL => ?_; apply args_k; (case hA => (simp only [go_sem, ↓reduceIte]; rfl))
      (repeat' (first | (with_reducible exact trivial) | (with_reducible apply byK; kernel_rfl) | (with_reducible apply byD; first | (simp; done) | (simp [go_sem]; done)) | ((with_reducible first | apply rk_v | apply rk_r | apply rk_vn | apply rg_v | apply rg_r | apply rk_s | apply rk_n | apply rk_a | apply rk_rn | apply gd_f); (case hi => rfl); (try case hb => kernel_rfl)) | (((with_reducible first | apply rg_n | apply rg_s); (case hi => rfl); (case hb => kernel_rfl)) <;> (intro hg; simp only [hg])) | ((with_reducible first | apply rk_all); (case hi => rfl); (case hb => kernel_rfl); (case h1 | h2 | h3 | h4 => (simp only [econs, List.map_cons, List.map_nil, List.cons_append, List.nil_append, OpS.nm, OpS.reads, OpS.turns]; try rfl))) | ((with_reducible first | apply rg_k); (case hi => rfl); (case hb => kernel_rfl); (case hs => rfl); (case h1 | h2 | h3 | h4 => (simp only [econs, List.map_cons, List.map_nil, List.cons_append, List.nil_append, OpS.nm, OpS.reads, OpS.turns]; try rfl))) | (((with_reducible first | apply rg_w); (case hi => rfl); (case hb => kernel_rfl); (case hs => rfl); (case h1 | h2 | h3 | h4 | h5 => (simp only [econs, List.map_cons, List.map_nil, List.cons_append, List.nil_append, OpS.nm, OpS.reads, OpS.turns]; try rfl))) <;> (intro hg; try (cases hg; done))) | ((with_reducible first | apply rs_nil); (case h => (unfold NapOK; kernel_rfl))) | ((with_reducible first | apply byKl | apply byKr); (case h => kernel_rfl)) | ((with_reducible first | apply rs_c | apply gd_c | apply rs_o | apply rs_gd | apply gd_u | apply w_c | apply ce); (try case hd => (repeat (first | (with_reducible exact dst_z rfl) | (with_reducible apply dst_s)))); (try case hn => rfl); (case hy => (simp only [go_sem, ↓reduceIte, hH, hE, eq_false hn]; try with_reducible rfl))) | ((with_reducible first | apply cw_t | apply cw_f | apply rs_nil_f | apply lt_n | apply lb_n | apply lt_r | apply lb_r | apply lt_e | apply lb_e | apply w_seq | apply w_skip | apply w_block | apply w_ret | apply w_exit | apply w_loop | apply w_label)) | (((with_reducible first | apply lb_m)); (case hne => rfl)) | ((with_reducible first | apply w_region); (case hm => (simp only [Nat.reduceAdd]; try rfl)); (case hs => kernel_rfl); intro K hK) | (((with_reducible first | apply cw_c)) <;> (intro hq; try simp only [decide_eq_true_eq, decide_eq_false_iff_not, Bool.and_eq_true, Bool.or_eq_true, Bool.and_eq_false_iff, Bool.or_eq_false_iff, Bool.not_eq_true', Bool.not_eq_false', Int.not_lt, Int.not_le] at hq; try (exfalso; omega))) | (((with_reducible first | apply cw_b)) <;> (try intro hq)) | ((with_reducible first | apply ends_r | apply ends_n | apply endsB_r | apply endsB_n); (case hr => rfl); simp only [go_sem, ↓reduceIte, hH, hE, eq_false hn]) | (with_reducible refine hK _ _ ?_; clear hK; clear K) | ((with_reducible apply callX cl45 (bind_f _ _ _ hl)); (case hl => rfl)) | omega))
      have : ¬ h.changes.length ≤ 2000 := by omega
      simp [histOk, this]
  · have hH : bindH h.id h.booked h.terms = zeroHist := by simp [bindH, hb]
    have hE : bindE h.id h.booked h.terms = 1 := by simp [bindE, hb]
    refine fun_W mixed Tryz.func23 rfl (Nat.le_of_ble_eq_true rfl) (by kernel_rfl) fun cx hN hR hF hL => ?_; apply args_k; (case hA => (simp only [go_sem, ↓reduceIte]; rfl))
    have h10 : ((1 : Int) = 0) = False := by simp
    (repeat' (first | (with_reducible exact trivial) | (with_reducible apply byK; kernel_rfl) | (with_reducible apply byD; first | (simp; done) | (simp [go_sem]; done)) | ((with_reducible first | apply rk_v | apply rk_r | apply rk_vn | apply rg_v | apply rg_r | apply rk_s | apply rk_n | apply rk_a | apply rk_rn | apply gd_f); (case hi => rfl); (try case hb => kernel_rfl)) | (((with_reducible first | apply rg_n | apply rg_s); (case hi => rfl); (case hb => kernel_rfl)) <;> (intro hg; simp only [hg])) | ((with_reducible first | apply rk_all); (case hi => rfl); (case hb => kernel_rfl); (case h1 | h2 | h3 | h4 => (simp only [econs, List.map_cons, List.map_nil, List.cons_append, List.nil_append, OpS.nm, OpS.reads, OpS.turns]; try rfl))) | ((with_reducible first | apply rg_k); (case hi => rfl); (case hb => kernel_rfl); (case hs => rfl); (case h1 | h2 | h3 | h4 => (simp only [econs, List.map_cons, List.map_nil, List.cons_append, List.nil_append, OpS.nm, OpS.reads, OpS.turns]; try rfl))) | (((with_reducible first | apply rg_w); (case hi => rfl); (case hb => kernel_rfl); (case hs => rfl); (case h1 | h2 | h3 | h4 | h5 => (simp only [econs, List.map_cons, List.map_nil, List.cons_append, List.nil_append, OpS.nm, OpS.reads, OpS.turns]; try rfl))) <;> (intro hg; try (cases hg; done))) | ((with_reducible first | apply rs_nil); (case h => (unfold NapOK; kernel_rfl))) | ((with_reducible first | apply byKl | apply byKr); (case h => kernel_rfl)) | ((with_reducible first | apply rs_c | apply gd_c | apply rs_o | apply rs_gd | apply gd_u | apply w_c | apply ce); (try case hd => (repeat (first | (with_reducible exact dst_z rfl) | (with_reducible apply dst_s)))); (try case hn => rfl); (case hy => (simp only [go_sem, ↓reduceIte, hH, hE, h10]; try with_reducible rfl))) | ((with_reducible first | apply cw_t | apply cw_f | apply rs_nil_f | apply lt_n | apply lb_n | apply lt_r | apply lb_r | apply lt_e | apply lb_e | apply w_seq | apply w_skip | apply w_block | apply w_ret | apply w_exit | apply w_loop | apply w_label)) | (((with_reducible first | apply lb_m)); (case hne => rfl)) | ((with_reducible first | apply w_region); (case hm => (simp only [Nat.reduceAdd]; try rfl)); (case hs => kernel_rfl); intro K hK) | (((with_reducible first | apply cw_c)) <;> (intro hq; try simp only [decide_eq_true_eq, decide_eq_false_iff_not, Bool.and_eq_true, Bool.or_eq_true, Bool.and_eq_false_iff, Bool.or_eq_false_iff, Bool.not_eq_true', Bool.not_eq_false', Int.not_lt, Int.not_le] at hq; try (exfalso; omega))) | (((with_reducible first | apply cw_b)) <;> (try intro hq)) | ((with_reducible first | apply ends_r | apply ends_n | apply endsB_r | apply endsB_n); (case hr => rfl); simp only [go_sem, ↓reduceIte, hH, hE, h10]) | (with_reducible refine hK _ _ ?_; clear hK; clear K) | ((with_reducible apply callX cl45 (bind_f _ _ _ hl)); (case hl => rfl)) | omega))
    simp [histOk, hb]
end Go.Proofs.YtkonljmmdifnaaaGreat.V
set_option linter.unusedSimpArgs false
set_option linter.unusedVariables false
namespace Go.Proofs.YtkonljmmdifnaaaGreat.V
open Go.RowKit
set_option maxRecDepth 100000
attribute [local go_sem] Option.toList_some Option.toList_none

end Go.Proofs.YtkonljmmdifnaaaGreat.V
set_option linter.unusedSimpArgs false
set_option linter.unusedVariables false
namespace Go.Proofs.YtkonljmmdifnaaaGreat.V
open Go.RowKit
set_option maxRecDepth 100000
attribute [local go_sem] Option.toList_some Option.toList_none

def compareI (a b : Int) : Int := if a < b then -1 else if b < a then 1 else 0

theorem compare_f (a b : Int) : Fun Tryz.prog 44 [int a, int b] (int (compareI a b)) := by
  refine fun_W mixed Tryz.func44 rfl (Nat.le_of_ble_eq_true rfl) (by kernel_rfl) fun cx hN hR hF hL => ?_; apply args_k; (case hA => (simp only [go_sem, ↓reduceIte]; rfl))
  (repeat' first|((try (revert K;refine bK ?_));refine' run trivial ?_;(repeat' first|exact True.intro|refine Lv.mk ?_ ?_|(refine oK ?_;intro K hK)|intro hq);all_goals refine Lf.mk ?_)|refine callZ cl75 (isNaN_f _) ?_|refine rounds_s ?_)
  · simp [compareI, hq]
  · rename_i h
    simp [compareI, hq, show ¬ a < b by omega]
  · rename_i h
    simp [compareI, show ¬ a < b by omega, show ¬ b < a by omega]

/-- The closure of Order. -/
theorem order1_f (h : History) (i j : Nat) (c d : Change) (hi : h.changes[i]? = some c) (hj : h.changes[j]? = some d) : Fun Tryz.prog 121 [int i, int j, .pp h.flat] (int (compareI c.day d.day)) := by
  have hi2 := (List.getElem?_eq_some_iff.1 hi).1
  have hj2 := (List.getElem?_eq_some_iff.1 hj).1
  refine fun_W mixed Tryz.func121 rfl (Nat.le_of_ble_eq_true rfl) (by kernel_rfl) fun cx hN hR hF hL => ?_; apply args_k; (case hA => (simp only [go_sem, ↓reduceIte]; rfl))
  (repeat' first|((try (revert K;refine bK ?_));refine' run (I hi hj) ?_;(repeat' first|exact True.intro|refine Lv.mk ?_ ?_|(refine oK ?_;intro K hK)|intro hq);all_goals refine Lf.mk ?_)|refine callZ cl44 (compare_f _ _) ?_|refine rounds_s ?_)

attribute [local go_sem] Int.reduceEq Int.reduceLE Int.reduceLT Int.reduceNeg Int.reduceToNat in
theorem ins2_f (h : History) (c0 c1 : Change) (hc : h.changes = [c0, c1]) (hd : c1.day < c0.day) : FunB Tryz.prog 162 [(0, ⟨3, [int 0, int 1]⟩), (1, ⟨31, h.flat⟩)] [.osl 0 1 0 2, int 0, int 2, .fn (.func 121) [] [.ptr 1 0]] (.tup []) [(0, some ⟨3, [int 1, int 0]⟩)] := by
  have k1 : IntKind.i64.wrap (0 + 1) = 1 := rfl
  have k2 : IntKind.i64.wrap (1 + 1) = 2 := rfl
  have k3 : IntKind.i64.wrap (1 - 1) = 0 := rfl
  have hcmp : compareI c1.day c0.day = -1 := by simp [compareI, hd]
  refine fun_WB 2 mixed Tryz.func162 rfl (Nat.le_of_ble_eq_true rfl) (by kernel_rfl) (by simp [go_sem]) fun cx hN hR hF hL => ?_; apply args_kb; (case hA => (simp only [go_sem, ↓reduceIte]; rfl)); (case hB => (simp only [go_sem, ↓reduceIte]; rfl))
  (repeat' first|((try (revert K;refine bK ?_));refine' run (I k1 (I k2 k3)) ?_;(repeat' first|exact True.intro|refine Lv.mk ?_ ?_|(refine oK ?_;intro K hK)|intro hq);all_goals refine Lf.mk ?_)|refine rounds_s ?_)
  refine loop_rounds mixed 2 (by rw [hN]; kernel_rfl) ?_
  (repeat' first|((try (revert K;refine bK ?_));refine' run (I k1 (I k2 k3)) ?_;(repeat' first|exact True.intro|refine Lv.mk ?_ ?_|(refine oK ?_;intro K hK)|intro hq);all_goals refine Lf.mk ?_)|refine rounds_s ?_)
  refine loop_rounds mixed 2 (by rw [hN]; kernel_rfl) ?_
  (repeat' first|((try (revert K;refine bK ?_));refine' run (I k1 (I k2 k3)) ?_;(repeat' first|exact True.intro|refine Lv.mk ?_ ?_|(refine oK ?_;intro K hK)|intro hq);all_goals refine Lf.mk ?_)|refine rounds_s ?_)
  (apply callL' [1] cl121 (order1_f h 1 0 c1 c0 (by rw [hc]; rfl) (by rw [hc]; rfl)); (case hp | hl => (simp only [go_sem, ↓reduceIte]; try rfl)); (case hx => (simp [AV.flat0])); (try (case hfz => (first | (simp only [go_sem]; done) | (simp [go_sem, fzo]; done)))))
  rw [hcmp]
  (repeat' first|((try (revert K;refine bK ?_));refine' run (I k1 (I k2 k3)) ?_;(repeat' first|exact True.intro|refine Lv.mk ?_ ?_|(refine oK ?_;intro K hK)|intro hq);all_goals refine Lf.mk ?_)|refine rounds_s ?_)

attribute [local go_sem] Int.reduceEq Int.reduceLE Int.reduceLT in
theorem stable2_f (h : History) (c0 c1 : Change) (hc : h.changes = [c0, c1]) (hd : c1.day < c0.day) : FunB Tryz.prog 150 [(0, ⟨3, [int 0, int 1]⟩), (1, ⟨31, h.flat⟩)] [.osl 0 1 0 2, int 2, .fn (.func 121) [] [.ptr 1 0]] (.tup []) [(0, some ⟨3, [int 1, int 0]⟩)] := by
  refine fun_WB 2 mixed Tryz.func150 rfl (Nat.le_of_ble_eq_true rfl) (by kernel_rfl) (by simp [go_sem]) fun cx hN hR hF hL => ?_; apply args_kb; (case hA => (simp only [go_sem, ↓reduceIte]; rfl)); (case hB => (simp only [go_sem, ↓reduceIte]; rfl))
  (repeat' first|((try (revert K;refine bK ?_));refine' run trivial ?_;(repeat' first|exact True.intro|refine Lv.mk ?_ ?_|(refine oK ?_;intro K hK)|intro hq);all_goals refine Lf.mk ?_)|refine rounds_s ?_)
  refine loop_rounds mixed 1 (by rw [hN]; kernel_rfl) ?_
  (repeat' first|((try (revert K;refine bK ?_));refine' run trivial ?_;(repeat' first|exact True.intro|refine Lv.mk ?_ ?_|(refine oK ?_;intro K hK)|intro hq);all_goals refine Lf.mk ?_)|refine rounds_s ?_)
  (apply callB' [0, 1] cl162 (ins2_f h c0 c1 hc hd); (case h1 | h2 | h3 => (simp only [go_sem, ↓reduceIte]; try rfl)); (case hl | hs | hfp | hfr => (simp [go_sem]; done)))
  (repeat' first|((try (revert K;refine bK ?_));refine' run trivial ?_;(repeat' first|exact True.intro|refine Lv.mk ?_ ?_|(refine oK ?_;intro K hK)|intro hq);all_goals refine Lf.mk ?_)|refine rounds_s ?_)
  refine loop_rounds mixed 1 (by rw [hN]; kernel_rfl) ?_
  (repeat' first|((try (revert K;refine bK ?_));refine' run trivial ?_;(repeat' first|exact True.intro|refine Lv.mk ?_ ?_|(refine oK ?_;intro K hK)|intro hq);all_goals refine Lf.mk ?_)|refine rounds_s ?_)

theorem sortStable2_f (h : History) (c0 c1 : Change) (hc : h.changes = [c0, c1]) (hd : c1.day < c0.day) : FunB Tryz.prog 120 [(0, ⟨3, [int 0, int 1]⟩), (1, ⟨31, h.flat⟩)] [.osl 0 1 0 2, .fn (.func 121) [] [.ptr 1 0]] (.tup []) [(0, some ⟨3, [int 1, int 0]⟩)] := by
  refine fun_WB 2 mixed Tryz.func120 rfl (Nat.le_of_ble_eq_true rfl) (by kernel_rfl) (by simp [go_sem]) fun cx hN hR hF hL => ?_; apply args_kb; (case hA => (simp only [go_sem, ↓reduceIte]; rfl)); (case hB => (simp only [go_sem, ↓reduceIte]; rfl))
  (repeat' first|((try (revert K;refine bK ?_));refine' run trivial ?_;(repeat' first|exact True.intro|refine Lv.mk ?_ ?_|(refine oK ?_;intro K hK)|intro hq);all_goals refine Lf.mk ?_)|refine rounds_s ?_)
  (apply callB' [0, 1] cl150 (stable2_f h c0 c1 hc hd); (case h1 | h2 | h3 => (simp only [go_sem, ↓reduceIte]; try rfl)); (case hl | hs | hfp | hfr => (simp [go_sem]; done)))
  (repeat' first|((try (revert K;refine bK ?_));refine' run trivial ?_;(repeat' first|exact True.intro|refine Lv.mk ?_ ?_|(refine oK ?_;intro K hK)|intro hq);all_goals refine Lf.mk ?_)|refine rounds_s ?_)

attribute [local go_sem] Int.reduceEq Int.reduceLE Int.reduceLT in
theorem order2_f (h : History) (c0 c1 : Change) (hc : h.changes = [c0, c1]) (hd : c1.day < c0.day) : Fun Tryz.prog 83 [.agg h.flat] (ints [1, 0]) := by
  have k1 : IntKind.i64.wrap (0 + 1) = 1 := rfl
  have k2 : IntKind.i64.wrap (1 + 1) = 2 := rfl
  have hlen : h.changes.length = 2 := by rw [hc]; rfl
  have hz : ((2 : Nat) : Int) = 2 := rfl
  have mx : 2 ≤ maxLen := by simp [maxLen]
  refine fun_W mixed Tryz.func83 rfl (Nat.le_of_ble_eq_true rfl) (by kernel_rfl) fun cx hN hR hF hL => ?_; apply args_k; (case hA => (simp only [go_sem, ↓reduceIte]; rfl))
  (repeat' first|((try (revert K;refine bK ?_));refine' run (I hlen (I hz (I k1 k2))) ?_;(repeat' first|exact True.intro|refine Lv.mk ?_ ?_|(refine oK ?_;intro K hK)|intro hq);all_goals refine Lf.mk ?_)|refine rounds_s ?_)
  refine loop_rounds mixed 3 (by rw [hN]; kernel_rfl) ?_
  (repeat' first|((try (revert K;refine bK ?_));refine' run (I hlen (I hz (I k1 k2))) ?_;(repeat' first|exact True.intro|refine Lv.mk ?_ ?_|(refine oK ?_;intro K hK)|intro hq);all_goals refine Lf.mk ?_)|refine rounds_s ?_)
  (apply callB' [9024, 0] cl120 (sortStable2_f h c0 c1 hc hd); (case h1 | h2 | h3 => (simp only [go_sem, ↓reduceIte]; try rfl)); (case hl | hs | hfp | hfr => (simp [go_sem]; done)))
  (repeat' first|((try (revert K;refine bK ?_));refine' run trivial ?_;(repeat' first|exact True.intro|refine Lv.mk ?_ ?_|(refine oK ?_;intro K hK)|intro hq);all_goals refine Lf.mk ?_)|refine rounds_s ?_)
  simp [fzo, irow]
end Go.Proofs.YtkonljmmdifnaaaGreat.V
set_option linter.unusedSimpArgs false
set_option linter.unusedVariables false
namespace Go.Proofs.YtkonljmmdifnaaaGreat.V
open Go.RowKit
set_option maxRecDepth 100000
attribute [local go_sem] Option.toList_some Option.toList_none

def plainT : Terms := ⟨10, 30, 0, 5, 0, 0, [⟨1, 10, 10, 0, 10000⟩]⟩

def al1 : History := ⟨7, 5, plainT, []⟩
def ak1 : Change := ⟨6, 20, 3, 0, 0, 0, 0, [], 0⟩
def ak2 : Change := ⟨8, 12, 4, 0, 0, 0, 0, [], 0⟩
def ak3 : Change := ⟨7, 12, 4, 0, 0, 0, 0, [], 0⟩
def ak4 : Change := ⟨9, 30, 4, 0, 0, 0, 0, [], 0⟩
def ak5 : Change := ⟨1, 1, 1, 0, 0, 0, 0, [], 0⟩
def al2 : History := ⟨7, 5, plainT, [ak1]⟩
def al3 : History := ⟨7, 5, plainT, [ak1, ak2]⟩

end Go.Proofs.YtkonljmmdifnaaaGreat.V
set_option linter.unusedSimpArgs false
set_option linter.unusedVariables false
namespace Go.Proofs.YtkonljmmdifnaaaGreat.V
open Go.RowKit
set_option maxRecDepth 100000
attribute [local go_sem] Option.toList_some Option.toList_none

theorem right_len {t : Terms} (h : t.right = true) : t.covers.length ≤ 100000 := by
  simp [Terms.right, coversRight] at h
  omega

theorem bind_any (id booked : Int) (t : Terms) : Fun Tryz.prog 45 [int id, int booked, .agg t.flat] (.tup [.agg (bindH id booked t).flat, int (bindE id booked t)]) := by
  by_cases hr : t.right = true
  · exact bind_f id booked t (right_len hr)
  · have hr2 : t.right = false := by simpa using hr
    have hb : bindOk id booked t = false := by simp [bindOk, hr2]
    refine fun_W mixed Tryz.func45 rfl (Nat.le_of_ble_eq_true rfl) (by kernel_rfl) fun cx hN hR hF hL => ?_; apply args_k; (case hA => (simp only [go_sem, ↓reduceIte]; rfl))
    (repeat' first|((try (revert K;refine bK ?_));refine' run hr2 ?_;(repeat' first|exact True.intro|refine Lv.mk ?_ ?_|(refine oK ?_;intro K hK)|intro hq);all_goals refine Lf.mk ?_)|refine callZ cl76 (day_f _) ?_|refine callZ cl77 (termsRight_f _) ?_)
    simp [bindH, bindE, hb, zeroHist, zeroTerms]

theorem history_any (h : History) : Fun Tryz.prog 23 [.agg h.flat] (bool (histOk h)) := by
  by_cases hr : h.terms.right = true
  · exact history_f h (right_len hr)
  · have hb : bindOk h.id h.booked h.terms = false := by simp [bindOk, hr]
    have hH : bindH h.id h.booked h.terms = zeroHist := by simp [bindH, hb]
    have hE : bindE h.id h.booked h.terms = 1 := by simp [bindE, hb]
    refine fun_W mixed Tryz.func23 rfl (Nat.le_of_ble_eq_true rfl) (by kernel_rfl) fun cx hN hR hF hL => ?_; apply args_k; (case hA => (simp only [go_sem, ↓reduceIte]; rfl))
    have h10 : ((1 : Int) = 0) = False := by simp
    (repeat' first|((try (revert K;refine bK ?_));refine' run (I hH (I hE h10)) ?_;(repeat' first|exact True.intro|refine Lv.mk ?_ ?_|(refine oK ?_;intro K hK)|intro hq);all_goals refine Lf.mk ?_)|refine callZ cl45 (bind_any _ _ _) ?_)
    simp [histOk, hb]

def sumW (a : Int) : List Change → Int
  | [] => a
  | c :: l => sumW (IntKind.i64.wrap (a + c.covers.length)) l
def fewB (h : History) : Bool := decide ((h.changes.length : Int) ≤ 100) && decide (sumW h.terms.covers.length h.changes ≤ 1000)

end Go.Proofs.YtkonljmmdifnaaaGreat.V
set_option linter.unusedSimpArgs false
set_option linter.unusedVariables false
namespace Go.Proofs.YtkonljmmdifnaaaGreat.V
open Go.RowKit
set_option maxRecDepth 100000
attribute [local go_sem] Option.toList_some Option.toList_none

theorem isort_pairs {α : Type} {lt : α → α → Bool} (h : SW lt) {lo : α → α → Prop} : ∀ (S : List α), S.Pairwise lo → (isort lt S).Pairwise fun x y => lt x y = true ∨ (lt y x = false ∧ lo x y) := by
  intro S
  rcases List.eq_nil_or_concat S with rfl | ⟨S, x, rfl⟩
  · intro _; simp [isort, isortR]
  · intro hp
    rw [List.concat_eq_append] at hp ⊢
    obtain ⟨p1, -, p3⟩ := List.pairwise_append.1 hp
    have ih := isort_pairs h S p1
    obtain ⟨P, Q, e1, e2, e3, e4⟩ := isort_cut h S x (isort_srt h S)
    rw [e1] at ih
    rw [e2]
    obtain ⟨i1, i2, i3⟩ := List.pairwise_append.1 ih
    refine List.pairwise_append.2 ⟨i1, List.pairwise_cons.2 ⟨fun q hq => .inl (e4 q hq), i2⟩, fun p hpm y hy => ?_⟩
    rcases List.mem_cons.1 hy with rfl | hy
    · exact .inr ⟨e3 p hpm, p3 p (isort_mem.1 (by rw [e1]; simp [hpm])) y (by simp)⟩
    · exact i3 p hpm y hy
termination_by S => S.length
decreasing_by simp_all

theorem few_changes {h : History} (hf : fewB h = true) : h.changes.length ≤ 100 := by
  simp only [fewB, Bool.and_eq_true, decide_eq_true_eq] at hf
  omega

theorem orderL_place {h : History} {x : Int} (hx : x ∈ orderL h) : placeOf h x := by
  have := seg_mem (isort_mem.1 hx)
  exact ⟨by omega, by omega⟩

theorem orderL_pairs (h : History) : (orderL h).Pairwise fun x y => dayAt h x < dayAt h y ∨ (dayAt h x ≤ dayAt h y ∧ x < y) := by
  refine (isort_pairs (sw_ltO h) (lo := fun x y => x < y) _ (seg_inc _ _)).imp ?_
  intro x y hxy
  simpa [ltO] using hxy

end Go.Proofs.YtkonljmmdifnaaaGreat.V
set_option linter.unusedSimpArgs false
set_option linter.unusedVariables false
namespace Go.Proofs.YtkonljmmdifnaaaGreat.V
open Go.RowKit
set_option maxRecDepth 100000

/-- A history's slices, without what they cost. -/
def cutH (h : History) : List Sl := cutG [] h.terms.from_ (initSt h.terms) (chO h (orderL h)) h.terms.to_
theorem cut_f (h : History) (hl : h.changes.length ≤ 50000) (hc : h.terms.covers.length ≤ 100000) (hcc : ∀ c, c ∈ h.changes → c.covers.length ≤ 100000) (hn : cutH h ≠ []) : FunB Tryz.prog 53 [] [.agg h.flat] (.osl 0 9 0 (cutH h).length) [(0, some ⟨73, rowC Sl.flat (cutH h)⟩)] :=
  cutI_f h _ (order_f h hl) (fun x hx => by have := orderL_place hx; unfold placeOf at this; omega) (by rw [orderL_len]; exact hl) hc hcc _ rfl hn
end Go.Proofs.YtkonljmmdifnaaaGreat.V
set_option linter.unusedSimpArgs false
set_option linter.unusedVariables false
namespace Go.Proofs.YtkonljmmdifnaaaGreat.V
set_option maxRecDepth 100000

section
variable {α : Type} {lt : α → α → Bool}

theorem insR_front {x : α} : ∀ (P : List α), (∀ h, h ∈ P → lt x h = false) → insR lt x P = x :: P
  | [], _ => rfl
  | p :: P, h => by rw [insR, h p (by simp), if_neg (by simp)]
theorem isortR_srt (h : SW lt) (S : List α) : (isortR lt S).Pairwise fun a b => lt a b = false := by
  have := isort_srt h S
  unfold isort Srt at this
  rwa [List.pairwise_reverse] at this
theorem insR_filter (h : SW lt) (p : α → Bool) (x : α) : ∀ (R : List α), R.Pairwise (fun a b => lt a b = false) → (insR lt x R).filter p = if p x = true then insR lt x (R.filter p) else R.filter p
  | [], _ => by
    cases hp : p x <;> simp [insR, hp]
  | q :: R, hR => by
    rw [List.pairwise_cons] at hR
    have ih := insR_filter h p x R hR.2
    rw [insR]
    cases hl : lt x q
    · rw [if_neg (by simp)]
      cases hp : p x
      · simp [hp]
      · rw [if_pos rfl, List.filter_cons_of_pos hp]
        refine (insR_front _ fun y hy => ?_).symm
        have hy := List.mem_filter.1 hy
        rcases List.mem_cons.1 hy.1 with rfl | hy1
        · exact hl
        · exact h.ntr y q x (hR.1 y hy1) hl
    · rw [if_pos rfl]
      cases hq : p q
      · rw [List.filter_cons_of_neg (by simp [hq]), List.filter_cons_of_neg (by simp [hq])]
        exact ih
      · rw [List.filter_cons_of_pos hq, List.filter_cons_of_pos hq, ih]
        cases hp : p x
        · simp
        · simp only [if_true]
          rw [insR, hl, if_pos rfl]
theorem isort_filter (h : SW lt) (p : α → Bool) (S : List α) : (isort lt S).filter p = isort lt (S.filter p) := by
  have key : ∀ n (S : List α), S.length = n → (isortR lt S).filter p = isortR lt (S.filter p) := by
    intro n
    induction n with
    | zero => intro S hS; obtain rfl := List.eq_nil_of_length_eq_zero hS; rfl
    | succ n ih =>
      intro S hS
      rcases List.eq_nil_or_concat S with rfl | ⟨S, x, rfl⟩
      · rfl
      · rw [List.concat_eq_append] at *
        have hS' : S.length = n := by simp at hS; exact hS
        rw [isortR_snoc, insR_filter h p x _ (isortR_srt h S), ih S hS', List.filter_append]
        cases hp : p x
        · simp [hp]
        · simp only [if_true, List.filter_cons_of_pos hp, List.filter_nil]
          rw [isortR_snoc]
  unfold isort
  rw [List.filter_reverse, key _ S rfl]
theorem insR_map {β : Type} {lt' : β → β → Bool} {f : α → β} {x : α} : ∀ (R : List α), (∀ y, y ∈ R → lt x y = lt' (f x) (f y)) → (insR lt x R).map f = insR lt' (f x) (R.map f)
  | [], _ => rfl
  | r :: R, h => by
    rw [insR, List.map_cons, insR, ← h r (by simp)]
    split
    · rw [List.map_cons, insR_map R fun y hy => h y (by simp [hy])]
    · simp
theorem isortR_map {β : Type} {lt' : β → β → Bool} {f : α → β} (S : List α) (h : ∀ x y, x ∈ S → y ∈ S → lt x y = lt' (f x) (f y)) : (isortR lt S).map f = isortR lt' (S.map f) := by
  rcases List.eq_nil_or_concat S with rfl | ⟨S, x, rfl⟩
  · rfl
  · rw [List.concat_eq_append] at h ⊢
    rw [isortR_snoc, List.map_append, List.map_cons, List.map_nil, isortR_snoc, ← isortR_map S fun x y hx hy => h x y (by simp [hx]) (by simp [hy])]
    refine insR_map _ fun y hy => h x y (by simp) ?_
    have : y ∈ S := by
      have := (isort_mem (lt := lt) (S := S) (y := y)).1 (by unfold isort; simpa using hy)
      exact this
    simp [this]
termination_by S.length
decreasing_by simp_all
theorem isort_map {β : Type} {lt' : β → β → Bool} {f : α → β} (S : List α) (h : ∀ x y, x ∈ S → y ∈ S → lt x y = lt' (f x) (f y)) : (isort lt S).map f = isort lt' (S.map f) := by
  unfold isort
  rw [List.map_reverse, isortR_map S h]
theorem isort_turn (h : SW lt) (A B : List α) (c d : α) (hcd : lt c d = true ∨ lt d c = true) : isort lt (A ++ c :: d :: B) = isort lt (A ++ d :: c :: B) := by
  have e : ∀ x y : α, isort lt (A ++ x :: y :: B) = mrg lt (isort lt A) (mrg lt (isort lt [x, y]) (isort lt B)) := fun x y => by
    rw [mrg_isort h, mrg_isort h]; simp
  rw [e, e]
  congr 2
  rcases hcd with h1 | h1
  · have h2 := h.asym _ _ h1
    simp [isort, isortR, insR, h1, h2]
  · have h2 := h.asym _ _ h1
    simp [isort, isortR, insR, h1, h2]
theorem isort_move (h : SW lt) (x : α) : ∀ (B P : List α), (∀ b, b ∈ B → lt x b = true ∨ lt b x = true) → isort lt (P ++ x :: B) = isort lt (P ++ (B ++ [x]))
  | [], P, _ => rfl
  | b :: B, P, hx => by
    rw [isort_turn h P B x b (hx b (by simp)), show P ++ b :: x :: B = (P ++ [b]) ++ x :: B by simp, isort_move h x B (P ++ [b]) fun c hc => hx c (by simp [hc])]
    simp
/-- Rows that are all unlike are in the same order, from wherever they begin. -/
theorem isort_rot (h : SW lt) : ∀ (A B : List α), (A ++ B).Pairwise (fun x y => lt x y = true ∨ lt y x = true) → isort lt (A ++ B) = isort lt (B ++ A)
  | [], B, _ => by simp
  | a :: A, B, hp => by
    rw [List.cons_append, List.pairwise_cons] at hp
    have h1 := isort_move h a (A ++ B) [] hp.1
    simp only [List.nil_append] at h1
    rw [List.cons_append, h1, List.append_assoc, isort_rot h A (B ++ [a]) ?_]
    · simp
    · rw [← List.append_assoc, List.pairwise_append]
      exact ⟨hp.2, by simp, fun x hx y hy => by simp at hy; subst hy; exact (hp.1 x hx).symm⟩
end

def ltD (c d : Change) : Bool := decide (c.day < d.day)
theorem sw_ltD : SW ltD := by constructor <;> simp only [ltD, decide_eq_true_eq, decide_eq_false_iff_not] <;> intros <;> omega
theorem orderL_map (h : History) : (orderL h).map (fun x => h.changes[x.toNat]?) = (isort ltD h.changes).map some := by
  have e1 : (isort ltD h.changes).map some = isort (fun a b : Option Change => match a, b with | some c, some d => ltD c d | _, _ => false) (h.changes.map some) := isort_map _ fun x y _ _ => rfl
  rw [e1, orderL]
  have e2 : h.changes.map some = (seg 0 h.changes.length).map (fun x => h.changes[x.toNat]?) := by
    apply List.ext_getElem?
    intro i
    by_cases hi : i < h.changes.length
    · simp [seg, hi]
    · simp [seg, hi]
  rw [e2]
  refine isort_map _ fun x y hx hy => ?_
  have hx := seg_mem hx
  have hy := seg_mem hy
  obtain ⟨kx, cx, ex, ex1, ex2⟩ := day_nat (h := h) (x := x) ⟨by omega, by omega⟩
  obtain ⟨ky, cy, ey, ey1, ey2⟩ := day_nat (h := h) (x := y) ⟨by omega, by omega⟩
  subst ex; subst ey
  simp only [ltO, ltD, ex2, ey2, Int.toNat_natCast, ex1, ey1]
end Go.Proofs.YtkonljmmdifnaaaGreat.V
set_option linter.unusedSimpArgs false
set_option linter.unusedVariables false
namespace Go.Proofs.YtkonljmmdifnaaaGreat.V
open Go.RowKit
set_option maxRecDepth 100000
attribute [local go_sem] Option.toList_some Option.toList_none

abbrev bandsA (l : List Band) : AV := .sl false 2 (l.map Band.flat)
def bandOk (last : Int) (b : Band) : Bool := !(decide (b.upto ≤ last)) && !(decide (200 < b.upto)) && !(decide (b.bp < 0)) && !(decide (100000 < b.bp))
def bandsFrom (last : Int) : List Band → Bool
  | [] => true
  | b :: l => bandOk last b && bandsFrom b.upto l
def lastUp (last : Int) : List Band → Int
  | [] => last
  | b :: l => lastUp b.upto l
theorem lastUp_app (a : Int) (l : List Band) (c : Band) : lastUp a (l ++ [c]) = c.upto := by
  induction l generalizing a with
  | nil => rfl
  | cons d l ih => exact ih d.upto
theorem lastUp_take {a : Int} {l : List Band} {i : Nat} (h : i < l.length) : lastUp a (l.take (i + 1)) = l[i].upto := by
  rw [List.take_succ_eq_append_getElem h, lastUp_app]
def bandsB (l : List Band) : Bool := bandsFrom (-1) l && decide ((l.length : Int) ≤ 100)
theorem bands_next {l : List Band} {i : Nat} (hi : i < l.length) : bandsFrom (lastUp (-1) (l.take i)) (l.drop i) = (bandOk (lastUp (-1) (l.take i)) l[i] && bandsFrom (lastUp (-1) (l.take (i + 1))) (l.drop (i + 1))) := by
  rw [List.drop_eq_getElem_cons hi, bandsFrom, lastUp_take hi]
theorem bands_f (l : List Band) : Fun Tryz.prog 152 [bandsA l] (bool (bandsB l)) := by
  refine fun_W mixed Tryz.func152 rfl (Nat.le_of_ble_eq_true rfl) (by kernel_rfl) fun cx hN hR hF hL => ?_; apply args_k; (case hA => (simp only [go_sem, ↓reduceIte]; rfl))
  simp at hL
  have hl := hL.1
  simp [maxLen] at hl
  (repeat' first|((try (revert K;refine bK ?_));refine' run trivial ?_;(repeat' first|exact True.intro|refine Lv.mk ?_ ?_|(refine oK ?_;intro K hK)|intro hq);all_goals refine Lf.mk ?_)|refine rounds_s ?_|refine Da ?_|refine Db ?_|refine Dc ?_|refine De ?_|refine Df ?_|refine Dg ?_)
  refine loopW mixed (σ := {i : Nat // i ≤ l.length ∧ bandsFrom (-1) l = bandsFrom (lastUp (-1) (l.take i)) (l.drop i)}) (fun s => ⟨[(8, int s.1), (7, int l.length), (6, bandsA l), (3, int (lastUp (-1) (l.take s.1))), (2, bool false), (0, bandsA l)], [], 3000⟩) (fun s => l.length - s.1) id ⟨0, by omega, rfl⟩ (by rw [hN]; kernel_rfl) ?_ ?_
  · simp only [go_sem, ↓reduceIte, hF]
    simp [lastUp]
  · rintro ⟨i, h1, h2⟩
    by_cases hi : i < l.length
    · have e1 : l[i]? = some l[i] := List.getElem?_eq_getElem hi
      have e2 : IntKind.i64.wrap ((i : Int) + 1) = ((i + 1 : Nat) : Int) := by rw [wrap_id] <;> omega
      have hn := bands_next hi
      (repeat' first|((try (revert K;refine bK ?_));refine' run (I e1 e2) ?_;(repeat' first|exact True.intro|refine Lv.mk ?_ ?_|(refine oK ?_;intro K hK)|intro hq);all_goals refine Lf.mk ?_)|refine rounds_s ?_|refine Da ?_|refine Db ?_|refine Dc ?_|refine De ?_|refine Df ?_|refine Dg ?_)
      · rw [bandsB, h2, hn]
        simp only [bandOk]
        revert hq
        simp
        grind
      · refine ⟨⟨i + 1, by omega, ?_⟩, id, ?_, by show l.length - (i + 1) < l.length - i; omega⟩
        · rw [h2, hn]
          simp only [bandOk]
          revert hq
          simp
          grind
        · simp only [go_sem, ↓reduceIte, hF, lastUp_take hi]
    · (repeat' first|((try (revert K;refine bK ?_));refine' run trivial ?_;(repeat' first|exact True.intro|refine Lv.mk ?_ ?_|(refine oK ?_;intro K hK)|intro hq);all_goals refine Lf.mk ?_)|refine rounds_s ?_|refine Da ?_|refine Db ?_|refine Dc ?_|refine De ?_|refine Df ?_|refine Dg ?_)
      rw [List.drop_eq_nil_of_le (by omega)] at h2
      simp [bandsB, h2, bandsFrom]
theorem rBands_f (l : List Band) : Fun Tryz.prog 155 [bandsA l] (bool (bandsB l)) := by
  refine fun_W mixed Tryz.func155 rfl (Nat.le_of_ble_eq_true rfl) (by kernel_rfl) fun cx hN hR hF hL => ?_; apply args_k; (case hA => (simp only [go_sem, ↓reduceIte]; rfl))
  simp at hL
  have hl := hL.1
  simp [maxLen] at hl
  (repeat' first|((try (revert K;refine bK ?_));refine' run trivial ?_;(repeat' first|exact True.intro|refine Lv.mk ?_ ?_|(refine oK ?_;intro K hK)|intro hq);all_goals refine Lf.mk ?_)|refine rounds_s ?_|refine Da ?_|refine Db ?_|refine Dc ?_|refine De ?_|refine Df ?_|refine Dg ?_)
  · simp [bandsB]; omega
  refine loopW mixed (σ := {i : Nat // i ≤ l.length ∧ (bandsFrom (-1) l = bandsFrom (lastUp (-1) (l.take i)) (l.drop i) ∧ -1 ≤ lastUp (-1) (l.take i))}) (fun s => ⟨[(3, int s.1), (2, bool false), (0, bandsA l)], [], 4000⟩) (fun s => l.length - s.1) id ⟨0, by omega, rfl, Int.le_refl _⟩ (by rw [hN]; kernel_rfl) ?_ ?_
  · simp only [go_sem, ↓reduceIte, hF]
    rfl
  · rintro ⟨i, h1, h2, h3⟩
    by_cases hi : i < l.length
    · have e1 : l[i]? = some l[i] := List.getElem?_eq_getElem hi
      have e2 : IntKind.i64.wrap ((i : Int) + 1) = ((i + 1 : Nat) : Int) := by rw [wrap_id] <;> omega
      have hn := bands_next hi
      rcases i with _ | j
      · have hf : ∀ x : Int, lastUp x (l.take 0) = x := fun _ => rfl
        rw [hf] at hn h2
        (repeat' first|((try (revert K;refine bK ?_));refine' run (I e1 e2) ?_;(repeat' first|exact True.intro|refine Lv.mk ?_ ?_|(refine oK ?_;intro K hK)|intro hq);all_goals refine Lf.mk ?_)|refine rounds_s ?_|refine Da ?_|refine Db ?_|refine Dc ?_|refine De ?_|refine Df ?_|refine Dg ?_)
        · rw [bandsB, h2, hn]
          simp only [bandOk]
          revert hq
          simp
          grind
        · refine ⟨⟨0 + 1, by omega, ?_, by rw [lastUp_take hi]; omega⟩, id, ?_, by show l.length - (0 + 1) < l.length - 0; omega⟩
          · rw [h2, hn]
            rename_i hr _
            simp only [bandOk]
            revert hr
            simp
            grind
          · simp only [go_sem, ↓reduceIte, hF]
      · have e3 : l[j]? = some l[j] := List.getElem?_eq_getElem (by omega)
        have e4 : IntKind.i64.wrap (((j + 1 : Nat) : Int) - 1) = (j : Int) := by rw [wrap_id] <;> omega
        have hn2 : lastUp (-1) (l.take (j + 1)) = l[j].upto := lastUp_take (by omega)
        (repeat' first|((try (revert K;refine bK ?_));refine' run (I e1 (I e2 (I e3 e4))) ?_;(repeat' first|exact True.intro|refine Lv.mk ?_ ?_|(refine oK ?_;intro K hK)|intro hq);all_goals refine Lf.mk ?_)|refine rounds_s ?_|refine Da ?_|refine Db ?_|refine Dc ?_|refine De ?_|refine Df ?_|refine Dg ?_)
        · rw [bandsB, h2, hn]
          simp only [bandOk]
          rw [hn2] at h3 ⊢
          revert hq
          simp
          grind
        · rw [bandsB, h2, hn, hn2]
          simp only [bandOk]
          simp [hq]
        · refine ⟨⟨j + 1 + 1, by omega, ?_, by rw [lastUp_take hi]; omega⟩, id, ?_, by show l.length - (j + 1 + 1) < l.length - (j + 1); omega⟩
          · rw [h2, hn, hn2]
            rename_i hr _
            simp only [bandOk]
            revert hr hq
            simp
            grind
          · simp only [go_sem, ↓reduceIte, hF]
    · (repeat' first|((try (revert K;refine bK ?_));refine' run trivial ?_;(repeat' first|exact True.intro|refine Lv.mk ?_ ?_|(refine oK ?_;intro K hK)|intro hq);all_goals refine Lf.mk ?_)|refine rounds_s ?_|refine Da ?_|refine Db ?_|refine Dc ?_|refine De ?_|refine Df ?_|refine Dg ?_)
      rw [List.drop_eq_nil_of_le (by omega)] at h2
      simp [bandsB, h2, bandsFrom]
      omega
def bandR (age : Int) : List Band → Int
  | [] => 10000
  | b :: l => if b.upto < age then bandR age l else b.bp
attribute [local go_sem] Int.toNat_one Int.toNat_zero List.drop_succ_cons List.drop_zero List.getElem?_cons_zero Option.getD_some in
theorem band_f (l : List Band) (age : Int) : Fun Tryz.prog 125 [bandsA l, int age] (int (bandR age l)) := by
  refine fun_C Tryz.func125 rfl (Nat.le_of_ble_eq_true rfl) fun cx hN hR hF hL => ?_; apply code_args; (case hA => (simp only [go_sem, ↓reduceIte]; rfl))
  (refine code_seq mixed (by rw [hN]; kernel_rfl) ?_)
  (repeat' first|((try (revert K;refine bK ?_));refine' run trivial ?_;(repeat' first|exact True.intro|refine Lv.mk ?_ ?_|(refine oK ?_;intro K hK)|intro hq);all_goals refine Lf.mk ?_)|refine rounds_s ?_|refine Da ?_|refine Db ?_|refine Dc ?_|refine De ?_|refine Df ?_|refine Dg ?_)
  refine code_scope 0 (fun s : {i : Nat // i ≤ l.length ∧ bandR age l = bandR age (l.drop i)} => ⟨[(4, int 0), (0, bandsA (l.drop s.1)), (1, int age)], [], 1000⟩) (fun s => l.length - s.1) rfl ?_ ?_
  · refine code_w mixed (by rw [hN]; kernel_rfl) ?_
    rcases l with _ | ⟨b, l⟩
    · (repeat' first|((try (revert K;refine bK ?_));refine' run trivial ?_;(repeat' first|exact True.intro|refine Lv.mk ?_ ?_|(refine oK ?_;intro K hK)|intro hq);all_goals refine Lf.mk ?_)|refine rounds_s ?_|refine Da ?_|refine Db ?_|refine Dc ?_|refine De ?_|refine Df ?_|refine Dg ?_)
      (repeat (first | refine Da ?_ | refine Db ?_ | refine Dc ?_ | refine Dd ?_ | refine Df ?_ | refine De ?_))
      (repeat' first|((try (revert K;refine bK ?_));refine' run trivial ?_;(repeat' first|exact True.intro|refine Lv.mk ?_ ?_|(refine oK ?_;intro K hK)|intro hq);all_goals refine Lf.mk ?_)|refine rounds_s ?_|refine Da ?_|refine Db ?_|refine Dc ?_|refine De ?_|refine Df ?_|refine Dg ?_)
      rfl
    · (repeat' first|((try (revert K;refine bK ?_));refine' run trivial ?_;(repeat' first|exact True.intro|refine Lv.mk ?_ ?_|(refine oK ?_;intro K hK)|intro hq);all_goals refine Lf.mk ?_)|refine rounds_s ?_|refine Da ?_|refine Db ?_|refine Dc ?_|refine De ?_|refine Df ?_|refine Dg ?_)
      · (repeat (first | refine Da ?_ | refine Db ?_ | refine Dc ?_ | refine Dd ?_ | refine Df ?_ | refine De ?_))
        refine ⟨⟨1, by simp, ?_⟩, id, ?_⟩
        · simp [bandR, hq]
        · simp only [go_sem, ↓reduceIte, hF]
      · (repeat (first | refine Da ?_ | refine Db ?_ | refine Dc ?_ | refine Dd ?_ | refine Df ?_ | refine De ?_))
        (repeat' first|((try (revert K;refine bK ?_));refine' run trivial ?_;(repeat' first|exact True.intro|refine Lv.mk ?_ ?_|(refine oK ?_;intro K hK)|intro hq);all_goals refine Lf.mk ?_)|refine rounds_s ?_|refine Da ?_|refine Db ?_|refine Dc ?_|refine De ?_|refine Df ?_|refine Dg ?_)
        rw [bandR, if_neg (by omega)]
  · rintro ⟨i, h1, h2⟩
    refine code_w mixed (by rw [hN]; kernel_rfl) ?_
    simp only at h2 ⊢
    rw [h2]
    by_cases hi : i < l.length
    · rw [List.drop_eq_getElem_cons hi] at h2 ⊢
      (repeat' first|((try (revert K;refine bK ?_));refine' run trivial ?_;(repeat' first|exact True.intro|refine Lv.mk ?_ ?_|(refine oK ?_;intro K hK)|intro hq);all_goals refine Lf.mk ?_)|refine rounds_s ?_|refine Da ?_|refine Db ?_|refine Dc ?_|refine De ?_|refine Df ?_|refine Dg ?_)
      · (repeat (first | refine Da ?_ | refine Db ?_ | refine Dc ?_ | refine Dd ?_ | refine Df ?_ | refine De ?_))
        refine ⟨⟨i + 1, by omega, ?_⟩, id, ?_, by show l.length - (i + 1) < l.length - i; omega⟩
        · rw [bandR, if_pos hq]
        · simp only [go_sem, ↓reduceIte, hF]
      · (repeat (first | refine Da ?_ | refine Db ?_ | refine Dc ?_ | refine Dd ?_ | refine Df ?_ | refine De ?_))
        (repeat' first|((try (revert K;refine bK ?_));refine' run trivial ?_;(repeat' first|exact True.intro|refine Lv.mk ?_ ?_|(refine oK ?_;intro K hK)|intro hq);all_goals refine Lf.mk ?_)|refine rounds_s ?_|refine Da ?_|refine Db ?_|refine Dc ?_|refine De ?_|refine Df ?_|refine Dg ?_)
        rw [bandR, if_neg (by omega)]
    · rw [List.drop_eq_nil_of_le (by omega)] at h2 ⊢
      (repeat' first|((try (revert K;refine bK ?_));refine' run trivial ?_;(repeat' first|exact True.intro|refine Lv.mk ?_ ?_|(refine oK ?_;intro K hK)|intro hq);all_goals refine Lf.mk ?_)|refine rounds_s ?_|refine Da ?_|refine Db ?_|refine Dc ?_|refine De ?_|refine Df ?_|refine Dg ?_)
      (repeat (first | refine Da ?_ | refine Db ?_ | refine Dc ?_ | refine Dd ?_ | refine Df ?_ | refine De ?_))
      (repeat' first|((try (revert K;refine bK ?_));refine' run trivial ?_;(repeat' first|exact True.intro|refine Lv.mk ?_ ?_|(refine oK ?_;intro K hK)|intro hq);all_goals refine Lf.mk ?_)|refine rounds_s ?_|refine Da ?_|refine Db ?_|refine Dc ?_|refine De ?_|refine Df ?_|refine Dg ?_)
      rfl
theorem rBand_f (l : List Band) (age : Int) : Fun Tryz.prog 133 [bandsA l, int age] (int (bandR age l)) := by
  refine fun_W mixed Tryz.func133 rfl (Nat.le_of_ble_eq_true rfl) (by kernel_rfl) fun cx hN hR hF hL => ?_; apply args_k; (case hA => (simp only [go_sem, ↓reduceIte]; rfl))
  simp at hL
  have hl := hL.1
  simp [maxLen] at hl
  (repeat' first|((try (revert K;refine bK ?_));refine' run trivial ?_;(repeat' first|exact True.intro|refine Lv.mk ?_ ?_|(refine oK ?_;intro K hK)|intro hq);all_goals refine Lf.mk ?_)|refine rounds_s ?_|refine Da ?_|refine Db ?_|refine Dc ?_|refine De ?_|refine Df ?_|refine Dg ?_)
  refine loopW mixed (σ := {i : Nat // i ≤ l.length}) (fun s => ⟨[(6, int ((s.1 : Int) - 1)), (5, int (bandR age (l.drop s.1))), (4, int 0), (0, bandsA l), (1, int age)], [], 3000⟩) (fun s => s.1) id ⟨l.length, Nat.le_refl _⟩ (by rw [hN]; kernel_rfl) ?_ ?_
  · have e : IntKind.i64.wrap ((l.length : Int) - 1) = (l.length : Int) - 1 := by rw [wrap_id] <;> omega
    simp only [go_sem, ↓reduceIte, hF, e, List.drop_length]
    rfl
  · rintro ⟨i, h1⟩
    rcases i with _ | i
    · (repeat' first|((try (revert K;refine bK ?_));refine' run trivial ?_;(repeat' first|exact True.intro|refine Lv.mk ?_ ?_|(refine oK ?_;intro K hK)|intro hq);all_goals refine Lf.mk ?_)|refine rounds_s ?_|refine Da ?_|refine Db ?_|refine Dc ?_|refine De ?_|refine Df ?_|refine Dg ?_)
    · have e1 : l[i]? = some l[i] := List.getElem?_eq_getElem (by omega)
      have e2 : ((i + 1 : Nat) : Int) - 1 = (i : Int) := by omega
      have e3 : IntKind.i64.wrap ((i : Int) - 1) = (i : Int) - 1 := by rw [wrap_id] <;> omega
      have e4 : bandR age (l.drop i) = if (l[i]).upto < age then bandR age (l.drop (i + 1)) else (l[i]).bp := by rw [List.drop_eq_getElem_cons (by omega), bandR]
      simp only [e2]
      (repeat' first|((try (revert K;refine bK ?_));refine' run (I e1 (I e2 e3)) ?_;(repeat' first|exact True.intro|refine Lv.mk ?_ ?_|(refine oK ?_;intro K hK)|intro hq);all_goals refine Lf.mk ?_)|refine rounds_s ?_|refine Da ?_|refine Db ?_|refine Dc ?_|refine De ?_|refine Df ?_|refine Dg ?_)
      all_goals (refine ⟨⟨i, by omega⟩, id, ?_, by show i < i + 1; omega⟩; simp only [go_sem, ↓reduceIte, hF, e4]; split <;> first | rfl | omega)

def factorB (x : Int) : Bool := !(decide (x < 0)) && !(decide (100000 < x))
def idxF (l : List Int) : Int := if l.all factorB = true then -1 else ((l.takeWhile factorB).length : Int)
theorem idxF_bad {l : List Int} {i : Nat} (hi : i < l.length) (h : (l.take i).all factorB = true) (hb : factorB l[i] = false) : idxF l = i := by
  have e : l = l.take i ++ l[i] :: l.drop (i + 1) := by simp
  have h2 : ¬ l.all factorB = true := by rw [e, List.all_append, List.all_cons, hb]; simp
  have h3 : (l.takeWhile factorB).length = i := by
    rw [e, List.takeWhile_append_of_pos (fun x hx => List.all_eq_true.1 h x hx), List.takeWhile_cons_of_neg (by rw [hb]; simp), List.append_nil, List.length_take]
    omega
  rw [idxF, if_neg h2, h3]
theorem fac1_f (x : Int) : Fun Tryz.prog 165 [int x] (bool (!factorB x)) := by
  refine fun_W mixed Tryz.func165 rfl (Nat.le_of_ble_eq_true rfl) (by kernel_rfl) fun cx hN hR hF hL => ?_; apply args_k; (case hA => (simp only [go_sem, ↓reduceIte]; rfl))
  (repeat' first|((try (revert K;refine bK ?_));refine' run trivial ?_;(repeat' first|exact True.intro|refine Lv.mk ?_ ?_|(refine oK ?_;intro K hK)|intro hq);all_goals refine Lf.mk ?_)|refine rounds_s ?_|refine Da ?_|refine Db ?_|refine Dc ?_|refine De ?_|refine Df ?_|refine Dg ?_)
  all_goals simp [factorB]
theorem idxF_f (l : List Int) : Fun Tryz.prog 172 [ints l, .v (.func (.func 165) #[] #[])] (int (idxF l)) := by
  refine fun_W mixed Tryz.func172 rfl (Nat.le_of_ble_eq_true rfl) (by kernel_rfl) fun cx hN hR hF hL => ?_; apply args_k; (case hA => (simp only [go_sem, ↓reduceIte]; rfl))
  simp at hL
  have hl := hL.1
  simp [maxLen] at hl
  (repeat' first|((try (revert K;refine bK ?_));refine' run trivial ?_;(repeat' first|exact True.intro|refine Lv.mk ?_ ?_|(refine oK ?_;intro K hK)|intro hq);all_goals refine Lf.mk ?_)|refine rounds_s ?_|refine Da ?_|refine Db ?_|refine Dc ?_|refine De ?_|refine Df ?_|refine Dg ?_)
  refine loopW mixed (σ := {i : Nat // i ≤ l.length ∧ (l.take i).all factorB = true}) (fun s => ⟨[(8, int s.1), (7, int l.length), (4, int 0), (0, ints l), (1, .v (.func (.func 165) #[] #[]))], [], 2000⟩) (fun s => l.length - s.1) id ⟨0, by omega, rfl⟩ (by rw [hN]; kernel_rfl) ?_ ?_
  · simp only [go_sem, ↓reduceIte, hF]
    rfl
  · rintro ⟨i, h1, h2⟩
    by_cases hi : i < l.length
    · have e1 : l[i]? = some l[i] := List.getElem?_eq_getElem hi
      have e2 : IntKind.i64.wrap ((i : Int) + 1) = ((i + 1 : Nat) : Int) := by rw [wrap_id] <;> omega
      (repeat' first|((try (revert K;refine bK ?_));refine' run (I e1 e2) ?_;(repeat' first|exact True.intro|refine Lv.mk ?_ ?_|(refine oK ?_;intro K hK)|intro hq);all_goals refine Lf.mk ?_)|refine callZ cl165 (fac1_f _) ?_|refine rounds_s ?_|refine Da ?_|refine Db ?_|refine Dc ?_|refine De ?_|refine Df ?_|refine Dg ?_)
      · rw [idxF_bad hi h2 (by simpa using hq)]
      · refine ⟨⟨i + 1, by omega, ?_⟩, id, ?_, by show l.length - (i + 1) < l.length - i; omega⟩
        · rw [List.take_succ_eq_append_getElem hi, List.all_append, h2]
          simpa using hq
        · simp only [go_sem, ↓reduceIte, hF]
    · (repeat' first|((try (revert K;refine bK ?_));refine' run trivial ?_;(repeat' first|exact True.intro|refine Lv.mk ?_ ?_|(refine oK ?_;intro K hK)|intro hq);all_goals refine Lf.mk ?_)|refine rounds_s ?_|refine Da ?_|refine Db ?_|refine Dc ?_|refine De ?_|refine Df ?_|refine Dg ?_)
      rw [List.take_of_length_le (by omega)] at h2
      rw [idxF, if_pos h2]
theorem contF_f (l : List Int) : Fun Tryz.prog 164 [ints l, .v (.func (.func 165) #[] #[])] (bool (!l.all factorB)) := by
  refine fun_W mixed Tryz.func164 rfl (Nat.le_of_ble_eq_true rfl) (by kernel_rfl) fun cx hN hR hF hL => ?_; apply args_k; (case hA => (simp only [go_sem, ↓reduceIte]; rfl))
  (repeat' first|((try (revert K;refine bK ?_));refine' run trivial ?_;(repeat' first|exact True.intro|refine Lv.mk ?_ ?_|(refine oK ?_;intro K hK)|intro hq);all_goals refine Lf.mk ?_)|refine callZ cl172 (idxF_f _) ?_|refine rounds_s ?_|refine Da ?_|refine Db ?_|refine Dc ?_|refine De ?_|refine Df ?_|refine Dg ?_)
  unfold idxF
  split <;> simp_all
theorem factors_f (l : List Int) : Fun Tryz.prog 151 [ints l] (bool (l.all factorB)) := by
  refine fun_W mixed Tryz.func151 rfl (Nat.le_of_ble_eq_true rfl) (by kernel_rfl) fun cx hN hR hF hL => ?_; apply args_k; (case hA => (simp only [go_sem, ↓reduceIte]; rfl))
  (repeat' first|((try (revert K;refine bK ?_));refine' run trivial ?_;(repeat' first|exact True.intro|refine Lv.mk ?_ ?_|(refine oK ?_;intro K hK)|intro hq);all_goals refine Lf.mk ?_)|refine callZ cl164 (contF_f _) ?_|refine rounds_s ?_|refine Da ?_|refine Db ?_|refine Dc ?_|refine De ?_|refine Df ?_|refine Dg ?_)
  all_goals simp
def Version.okB (v : Version) : Bool := (!(decide (v.from_ < 1) || decide (292194 < v.from_) || decide (v.min < 0) || decide (1000000000000000 < v.min))) && (!(decide (100 < (v.age.length : Int)) || decide ((v.zone.length : Int) < 1) || decide (100 < (v.zone.length : Int)) || !decide ((v.peril.length : Int) = 8))) && ([v.b0, v.b1, v.b2, v.b3].all factorB && v.zone.all factorB && v.peril.all factorB && bandsB v.age)
theorem facB_iff {x : Int} : factorB x = true ↔ 0 ≤ x ∧ x ≤ 100000 := by unfold factorB; simp
theorem okB_iff {v : Version} : v.okB = true ↔ (1 ≤ v.from_ ∧ v.from_ ≤ 292194 ∧ 0 ≤ v.min ∧ v.min ≤ 1000000000000000) ∧ (v.age.length ≤ 100 ∧ 1 ≤ v.zone.length ∧ v.zone.length ≤ 100 ∧ v.peril.length = 8) ∧
    ((0 ≤ v.b0 ∧ v.b0 ≤ 100000) ∧ (0 ≤ v.b1 ∧ v.b1 ≤ 100000) ∧ (0 ≤ v.b2 ∧ v.b2 ≤ 100000) ∧ 0 ≤ v.b3 ∧ v.b3 ≤ 100000) ∧ v.zone.all factorB = true ∧ v.peril.all factorB = true ∧ bandsB v.age = true := by
  unfold Version.okB
  simp only [Bool.and_eq_true, List.all_cons, List.all_nil, facB_iff, Bool.not_eq_true', Bool.or_eq_false_iff, decide_eq_false_iff_not, Bool.not_eq_false', decide_eq_true_eq]
  grind
attribute [local go_sem] List.drop_succ_cons List.drop_zero List.take_succ_cons List.take_zero in
theorem version_f (v : Version) : Fun Tryz.prog 123 [.agg v.flat] (bool v.okB) := by
  refine fun_C Tryz.func123 rfl (Nat.le_of_ble_eq_true rfl) fun cx hN hR hF hL => ?_; apply code_args; (case hA => (simp only [go_sem, ↓reduceIte]; rfl))
  (refine code_seq mixed (by rw [hN]; kernel_rfl) ?_)
  (repeat' first|((try (revert K;refine bK ?_));refine' run trivial ?_;(repeat' first|exact True.intro|refine Lv.mk ?_ ?_|(refine oK ?_;intro K hK)|intro hq);all_goals refine Lf.mk ?_)|refine rounds_s ?_|refine Da ?_|refine Db ?_|refine Dc ?_|refine De ?_|refine Df ?_|refine Dg ?_)
  refine code_freeze [0] [(1, .pp v.flat), (2, bool false)] [] rfl ?_ ?_ ?_
  · simp only [go_sem, ↓reduceIte, hF]
  · simp [go_sem, fzo]
  · refine code_w mixed (by rw [hN]; kernel_rfl) ?_
    (repeat' first|((try (revert K;refine bK ?_));refine' run trivial ?_;(repeat' first|exact True.intro|refine Lv.mk ?_ ?_|(refine oK ?_;intro K hK)|intro hq);all_goals refine Lf.mk ?_)|refine callZ cl151 (factors_f [v.b0, v.b1, v.b2, v.b3]) ?_|refine callZ cl151 (factors_f v.zone) ?_|refine callZ cl151 (factors_f v.peril) ?_|refine callZ cl152 (bands_f v.age) ?_|refine rounds_s ?_|refine Da ?_|refine Db ?_|refine Dc ?_|refine De ?_|refine Df ?_|refine Dg ?_)
    · unfold Version.okB
      grind
    · unfold Version.okB
      grind
    · unfold Version.okB
      rename_i hr
      revert hq hr
      simp
      grind
theorem rFactors_f (l : List Int) : Fun Tryz.prog 156 [ints l] (bool (l.all factorB)) := by
  refine fun_W mixed Tryz.func156 rfl (Nat.le_of_ble_eq_true rfl) (by kernel_rfl) fun cx hN hR hF hL => ?_; apply args_k; (case hA => (simp only [go_sem, ↓reduceIte]; rfl))
  simp at hL
  have hl := hL.1
  simp [maxLen] at hl
  (repeat' first|((try (revert K;refine bK ?_));refine' run trivial ?_;(repeat' first|exact True.intro|refine Lv.mk ?_ ?_|(refine oK ?_;intro K hK)|intro hq);all_goals refine Lf.mk ?_)|refine rounds_s ?_|refine Da ?_|refine Db ?_|refine Dc ?_|refine De ?_|refine Df ?_|refine Dg ?_)
  refine loopW mixed (σ := {i : Nat // i ≤ l.length ∧ (l.take i).all factorB = true}) (fun s => ⟨[(3, int s.1), (2, bool false), (0, ints l)], [], 2000⟩) (fun s => l.length - s.1) id ⟨0, by omega, rfl⟩ (by rw [hN]; kernel_rfl) ?_ ?_
  · simp only [go_sem, ↓reduceIte, hF]
    rfl
  · rintro ⟨i, h1, h2⟩
    by_cases hi : i < l.length
    · have e1 : l[i]? = some l[i] := List.getElem?_eq_getElem hi
      have e2 : IntKind.i64.wrap ((i : Int) + 1) = ((i + 1 : Nat) : Int) := by rw [wrap_id] <;> omega
      (repeat' first|((try (revert K;refine bK ?_));refine' run (I e1 e2) ?_;(repeat' first|exact True.intro|refine Lv.mk ?_ ?_|(refine oK ?_;intro K hK)|intro hq);all_goals refine Lf.mk ?_)|refine rounds_s ?_|refine Da ?_|refine Db ?_|refine Dc ?_|refine De ?_|refine Df ?_|refine Dg ?_)
      · symm
        rw [List.all_eq_false]
        exact ⟨l[i], List.getElem_mem hi, by rw [facB_iff]; omega⟩
      · refine ⟨⟨i + 1, by omega, ?_⟩, id, ?_, by show l.length - (i + 1) < l.length - i; omega⟩
        · rw [List.take_succ_eq_append_getElem hi, List.all_append, h2]
          simp only [List.all_cons, List.all_nil, Bool.true_and, Bool.and_true, facB_iff]
          omega
        · simp only [go_sem, ↓reduceIte, hF]
    · (repeat' first|((try (revert K;refine bK ?_));refine' run trivial ?_;(repeat' first|exact True.intro|refine Lv.mk ?_ ?_|(refine oK ?_;intro K hK)|intro hq);all_goals refine Lf.mk ?_)|refine rounds_s ?_|refine Da ?_|refine Db ?_|refine Dc ?_|refine De ?_|refine Df ?_|refine Dg ?_)
      rw [List.take_of_length_le (by omega)] at h2
      exact h2.symm
attribute [local go_sem] Int.reduceAdd Int.reduceLT Int.reduceToNat List.drop_succ_cons List.drop_zero List.take_succ_cons List.take_zero in
set_option maxHeartbeats 4000000 in
theorem rVersion_f (v : Version) : Fun Tryz.prog 131 [.agg v.flat] (bool v.okB) := by
  refine fun_W mixed Tryz.func131 rfl (Nat.le_of_ble_eq_true rfl) (by kernel_rfl) fun cx hN hR hF hL => ?_; apply args_k; (case hA => (simp only [go_sem, ↓reduceIte]; rfl))
  have c1 : IntKind.i64.wrap 1 = 1 := by decide
  have c2 : IntKind.i64.wrap 2 = 2 := by decide
  have c3 : IntKind.i64.wrap 3 = 3 := by decide
  have c4 : IntKind.i64.wrap 4 = 4 := by decide
  (repeat' first|((try (revert K;refine bK ?_));refine' run trivial ?_;(repeat' first|exact True.intro|refine Lv.mk ?_ ?_|(refine oK ?_;intro K hK)|intro hq);all_goals refine Lf.mk ?_)|refine rounds_s ?_|refine Da ?_|refine Db ?_|refine Dc ?_|refine De ?_|refine Df ?_|refine Dg ?_)
  refine loop_rounds mixed 5 (by rw [hN]; kernel_rfl) ?_
  (repeat' first|((try (revert K;refine bK ?_));refine' run (I c1 (I c2 (I c3 c4))) ?_;(repeat' first|exact True.intro|refine Lv.mk ?_ ?_|(refine oK ?_;intro K hK)|intro hq);all_goals refine Lf.mk ?_)|refine callZ cl156 (rFactors_f v.zone) ?_|refine callZ cl156 (rFactors_f v.peril) ?_|refine callZ cl155 (rBands_f v.age) ?_|refine rounds_s ?_|refine Da ?_|refine Db ?_|refine Dc ?_|refine De ?_|refine Df ?_|refine Dg ?_)
  all_goals first
    | (symm; rw [Bool.eq_false_iff]; intro h; rw [okB_iff] at h; omega)
    | (rw [Bool.eq_iff_iff, okB_iff]; simp; omega)
    | (rw [Bool.eq_iff_iff, okB_iff]; simp; grind)
    | trace_state
end Go.Proofs.YtkonljmmdifnaaaGreat.V
