/- slices.SortStableFunc at ints by days: symMerge. -/
import Derived.Test.YtkagkiepicepeaaO4
set_option linter.unusedSimpArgs false
set_option linter.unusedVariables false
namespace Go.Proofs.Ytkagkiepicepeaa.V
open Go.RowKit
set_option maxRecDepth 100000

theorem sw_ltO (h : History) : SW (ltO h) := by
  constructor <;> simp only [ltO, decide_eq_true_eq, decide_eq_false_iff_not] <;> intros <;> omega

theorem mrg_one {α : Type} {lt : α → α → Bool} {u : α} {V1 V2 : List α} (h1 : ∀ v, v ∈ V1 → lt v u = true) (h2 : ∀ v, v ∈ V2 → lt v u = false) : mrg lt [u] (V1 ++ V2) = V1 ++ u :: V2 := by
  have := mrg_split (lt := lt) [] V1 [u] V2 (by simp) (fun v hv x hx => by simp at hx; subst hx; exact h1 v hv)
  simp only [List.nil_append, mrg_nil] at this
  rw [this]
  rcases V2 with _ | ⟨v, V2⟩
  · simp
  · rw [mrg_cons, h2 v (by simp)]
    simp
theorem mrg_last {α : Type} {lt : α → α → Bool} {v : α} {U1 U2 : List α} (h1 : ∀ u, u ∈ U1 → lt v u = false) (h2 : ∀ u, u ∈ U2 → lt v u = true) : mrg lt (U1 ++ U2) [v] = U1 ++ v :: U2 := by
  have := mrg_split (lt := lt) U1 [] U2 [v] (fun u hu x hx => by simp at hx; subst hx; exact h1 u hu) (by simp)
  simp only [List.nil_append, mrg_nil'] at this
  rw [this]
  rcases U2 with _ | ⟨u, U2⟩
  · simp
  · rw [mrg_cons, h2 u (by simp)]
    simp

theorem wrap_u {n : Int} (h1 : 0 ≤ n) (h2 : n ≤ 18446744073709551615) : IntKind.u64.wrap n = n := by
  unfold IntKind.wrap
  simp [IntKind.bits, IntKind.signed]
  omega
theorem half_n (n : Nat) : Int.fdiv (n : Int) 2 = ((n / 2 : Nat) : Int) := by
  rw [Int.fdiv_eq_ediv_of_nonneg _ (by decide)]
  rfl

theorem at_in {α : Type} {X V Y : List α} {k i : Nat} {v : α} (h : V[k]? = some v) (hi : i = X.length + k) : (X ++ (V ++ Y))[i]? = some v := by
  subst hi
  have := (List.getElem?_eq_some_iff.1 h).1
  rw [List.getElem?_append_right (by omega), show X.length + k - X.length = k by omega, List.getElem?_append_left this, h]

theorem srt_at {α : Type} {lt : α → α → Bool} (hS : SW lt) {V : List α} (h : Srt lt V) {i j : Nat} {x y : α} (hi : V[i]? = some x) (hj : V[j]? = some y) (hij : i ≤ j) : lt y x = false := by
  rcases Nat.lt_or_eq_of_le hij with hij | rfl
  · obtain ⟨a, rfl⟩ := List.getElem?_eq_some_iff.1 hi
    obtain ⟨b, rfl⟩ := List.getElem?_eq_some_iff.1 hj
    exact List.pairwise_iff_getElem.1 h i j _ _ hij
  · rw [hi] at hj
    injection hj with hj
    subst hj
    cases hc : lt x x with
    | false => rfl
    | true => have := hS.asym _ _ hc; rw [hc] at this; cases this
theorem srt_le {α : Type} {lt : α → α → Bool} (hS : SW lt) {V : List α} (h : Srt lt V) {i j : Nat} {x y u : α} (hi : V[i]? = some x) (hj : V[j]? = some y) (hij : i ≤ j) (hx : lt x u = false) : lt y u = false := hS.ntr _ _ _ hx (srt_at hS h hi hj hij)
theorem srt_lt {α : Type} {lt : α → α → Bool} (hS : SW lt) {V : List α} (h : Srt lt V) {i j : Nat} {x y u : α} (hi : V[i]? = some x) (hj : V[j]? = some y) (hij : i ≤ j) (hy : lt y u = true) : lt x u = true := hS.of_lt (srt_at hS h hi hj hij) hy

theorem symMerge1_f (h : History) (X V Y : List Int) (u : Int) (hl : (X ++ (u :: (V ++ Y))).length ≤ 100000) (hu : placeOf h u) (hV : ∀ x, x ∈ V → placeOf h x) (sV : Srt (ltO h) V) :
    FunB Try.prog 105 [(0, ⟨3, rowC irow (X ++ (u :: (V ++ Y)))⟩), (1, ⟨63, h.flat⟩)] [.osl 0 1 0 (X ++ (u :: (V ++ Y))).length, int X.length, int (X.length + 1 : Nat), int (X.length + 1 + V.length : Nat), .fn (.func 66) [] [.ptr 1 0]] (.tup []) [(0, some ⟨3, rowC irow (X ++ (mrg (ltO h) [u] V ++ Y))⟩)] := by
  have hne2 := rowI_nz (l := X ++ (u :: (V ++ Y))) (by simp; omega)
  have hlen : (X ++ (u :: (V ++ Y))).length = X.length + 1 + V.length + Y.length := by simp; omega
  have hLu : (X ++ (u :: (V ++ Y)))[X.length]? = some u := at_mid _ _ _ _ rfl
  have hLv : ∀ k v, V[k]? = some v → (X ++ (u :: (V ++ Y)))[X.length + 1 + k]? = some v := fun k v hk => by
    have := at_in (X := X ++ [u]) (Y := Y) (i := X.length + 1 + k) hk (by simp)
    simpa using this
  have hfin : ∀ i, X.length + 1 ≤ i → i ≤ X.length + 1 + V.length → X ++ (u :: (V ++ Y)) = X ++ ([] ++ (u :: (V.take (i - (X.length + 1)) ++ (V.drop (i - (X.length + 1)) ++ Y)))) := fun i _ _ => by
    rw [← List.append_assoc (V.take _), List.take_append_drop]; rfl
  rw [hlen] at hl ⊢
  generalize hn : X.length + 1 + V.length + Y.length = n at *
  generalize hLL : X ++ (u :: (V ++ Y)) = L at *
  generalize ha : X.length = a at *
  refine fun_WB 2 mixed Try.func105 rfl (Nat.le_of_ble_eq_true rfl) (by kernel_rfl) (by simp [go_sem, hne2, rowI_nms']) fun cx hN hR hF hL => ?_; apply args_kb; (case hA => (simp only [go_sem, ↓reduceIte, reduceCtorEq, Nat.reduceAdd, Nat.reduceMul, Nat.reduceEqDiff, Nat.reduceLT, Nat.reduceLeDiff, Nat.reduceBEq, Nat.reduceSub]; rfl)); (case hB => (simp only [go_sem, ↓reduceIte, reduceCtorEq, Nat.reduceAdd, Nat.reduceMul, Nat.reduceEqDiff, Nat.reduceLT, Nat.reduceLeDiff, Nat.reduceBEq, Nat.reduceSub]; rfl))
  have hF2 : ∀ b g, cx.F b = some g → b < 3000 := fun b g h => by
    have := hF b g h
    simp [inl] at this
    omega
  have w1 : IntKind.i64.wrap (((a + 1 : Nat) : Int) - a) = 1 := by rw [wrap_id] <;> omega
  (repeat' (first | (with_reducible exact trivial) | (with_reducible apply byK; kernel_rfl) | (with_reducible apply byD; first | (simp; done) | (simp [go_sem]; done)) | ((with_reducible first | apply rk_v | apply rk_r | apply rk_vn | apply rg_v | apply rg_r | apply rk_s | apply rk_n | apply rk_a | apply rk_rn | apply gd_f); (case hi => rfl); (try case hb => kernel_rfl)) | (((with_reducible first | apply rg_n | apply rg_s); (case hi => rfl); (case hb => kernel_rfl)) <;> (intro hg; simp only [hg])) | ((with_reducible first | apply rk_all); (case hi => rfl); (case hb => kernel_rfl); (case h1 | h2 | h3 | h4 => (simp only [econs, List.map_cons, List.map_nil, List.cons_append, List.nil_append, OpS.nm, OpS.reads, OpS.turns]; try rfl))) | ((with_reducible first | apply rg_k); (case hi => rfl); (case hb => kernel_rfl); (case hs => rfl); (case h1 | h2 | h3 | h4 => (simp only [econs, List.map_cons, List.map_nil, List.cons_append, List.nil_append, OpS.nm, OpS.reads, OpS.turns]; try rfl))) | (((with_reducible first | apply rg_w); (case hi => rfl); (case hb => kernel_rfl); (case hs => rfl); (case h1 | h2 | h3 | h4 | h5 => (simp only [econs, List.map_cons, List.map_nil, List.cons_append, List.nil_append, OpS.nm, OpS.reads, OpS.turns]; try rfl))) <;> (intro hg; try (cases hg; done))) | ((with_reducible first | apply rs_nil); (case h => (unfold NapOK; kernel_rfl))) | ((with_reducible first | apply byKl | apply byKr); (case h => kernel_rfl)) | ((with_reducible first | apply rs_c | apply gd_c | apply rs_o | apply rs_gd | apply gd_u | apply w_c | apply ce); (try case hd => (repeat (first | (with_reducible exact dst_z rfl) | (with_reducible apply dst_s)))); (try case hn => rfl); (case hy => (simp only [go_sem, ↓reduceIte, reduceCtorEq, Nat.reduceAdd, Nat.reduceMul, Nat.reduceEqDiff, Nat.reduceLT, Nat.reduceLeDiff, Nat.reduceBEq, Nat.reduceSub, w1, Int.reduceEq]; try with_reducible rfl))) | ((with_reducible first | apply cw_t | apply cw_f | apply rs_nil_f | apply lt_n | apply lb_n | apply lt_r | apply lb_r | apply lt_e | apply lb_e | apply w_seq | apply w_skip | apply w_block | apply w_ret | apply w_exit | apply w_loop | apply w_label)) | (((with_reducible first | apply lb_m)); (case hne => rfl)) | ((with_reducible first | apply w_region); (case hm => (simp only [Nat.reduceAdd]; try rfl)); (case hs => kernel_rfl); intro K hK) | (((with_reducible first | apply cw_c)) <;> (intro hq; try simp only [decide_eq_true_eq, decide_eq_false_iff_not, Bool.and_eq_true, Bool.or_eq_true, Bool.and_eq_false_iff, Bool.or_eq_false_iff, Bool.not_eq_true', Bool.not_eq_false', Int.not_lt, Int.not_le] at hq; try (exfalso; omega))) | (((with_reducible first | apply cw_b)) <;> (try intro hq)) | ((with_reducible first | apply ends_r | apply ends_n | apply endsB_r | apply endsB_n); (case hr => rfl); simp only [go_sem, ↓reduceIte, reduceCtorEq, Nat.reduceAdd, Nat.reduceMul, Nat.reduceEqDiff, Nat.reduceLT, Nat.reduceLeDiff, Nat.reduceBEq, Nat.reduceSub, w1, Int.reduceEq]) | (with_reducible refine hK _ _ ?_; clear hK; clear K) | omega))
  refine loopW mixed (σ := {p : Nat × Nat // a + 1 ≤ p.1 ∧ p.1 ≤ p.2 ∧ p.2 ≤ a + 1 + V.length ∧ (∀ (k : Nat) v, V[k]? = some v → a + 1 + k < p.1 → ltO h v u = true) ∧ (∀ (k : Nat) v, V[k]? = some v → p.2 ≤ a + 1 + k → ltO h v u = false)})
    (fun s => ⟨[(10, int s.1.1), (11, int s.1.2), (0, .osl 0 1 0 n), (1, int a), (4, .fn (.func 66) [] [.ptr 1 0])], [(0, some ⟨3, rowC irow L⟩), (1, some ⟨63, h.flat⟩)], 4000⟩) (fun s => s.1.2 - s.1.1) id
    ⟨(a + 1, a + 1 + V.length), Nat.le_refl _, by omega, Nat.le_refl _, fun k v _ h => by omega, fun k v hk h => by have := (List.getElem?_eq_some_iff.1 hk).1; omega⟩ (by rw [hN]; kernel_rfl) ?_ ?_
  · simp only [go_sem, ↓reduceIte, reduceCtorEq, Nat.reduceAdd, Nat.reduceMul, Nat.reduceEqDiff, Nat.reduceLT, Nat.reduceLeDiff, Nat.reduceBEq, Nat.reduceSub, hF]
    exact fun b g h => by have := hF2 b g h; omega
  · rintro ⟨⟨i, j⟩, g1, g2, g3, g4, g5⟩
    simp only at g1 g2 g3 g4 g5
    by_cases hi : i < j
    · have hij : (i + j) / 2 < j ∧ i ≤ (i + j) / 2 := by omega
      have e1 : IntKind.i64.wrap ((i : Int) + j) = ((i + j : Nat) : Int) := by rw [wrap_id] <;> omega
      have e2 : IntKind.u64.wrap ((i + j : Nat) : Int) = ((i + j : Nat) : Int) := by rw [wrap_u] <;> omega
      have e3 := half_n (i + j)
      generalize hm : (i + j) / 2 = q at *
      have e4 : IntKind.i64.wrap (q : Int) = (q : Int) := by rw [wrap_id] <;> omega
      have e5 : IntKind.i64.wrap ((q : Int) + 1) = ((q + 1 : Nat) : Int) := by rw [wrap_id] <;> omega
      obtain ⟨k, hk⟩ : ∃ k, q = a + 1 + k := ⟨q - (a + 1), by omega⟩
      have hk2 : k < V.length := by omega
      have hv : V[k]? = some V[k] := List.getElem?_eq_getElem hk2
      have hpv : placeOf h V[k] := hV _ (List.getElem_mem hk2)
      have hLq := hLv k _ hv
      rw [← hk] at hLq
      generalize V[k] = v at *
      have r1 := rowI_some hLu
      have r2 := rowI_some hLq
      have hqn : q < n := by omega
      have han : a < n := by omega
      have hlr : (rowC irow L).length = n := by rw [rowI_len]; exact hlen
      (repeat' (first | (with_reducible exact trivial) | (with_reducible apply byK; kernel_rfl) | (with_reducible apply byD; first | (simp; done) | (simp [go_sem]; done)) | ((with_reducible first | apply rk_v | apply rk_r | apply rk_vn | apply rg_v | apply rg_r | apply rk_s | apply rk_n | apply rk_a | apply rk_rn | apply gd_f); (case hi => rfl); (try case hb => kernel_rfl)) | (((with_reducible first | apply rg_n | apply rg_s); (case hi => rfl); (case hb => kernel_rfl)) <;> (intro hg; simp only [hg])) | ((with_reducible first | apply rk_all); (case hi => rfl); (case hb => kernel_rfl); (case h1 | h2 | h3 | h4 => (simp only [econs, List.map_cons, List.map_nil, List.cons_append, List.nil_append, OpS.nm, OpS.reads, OpS.turns]; try rfl))) | ((with_reducible first | apply rg_k); (case hi => rfl); (case hb => kernel_rfl); (case hs => rfl); (case h1 | h2 | h3 | h4 => (simp only [econs, List.map_cons, List.map_nil, List.cons_append, List.nil_append, OpS.nm, OpS.reads, OpS.turns]; try rfl))) | (((with_reducible first | apply rg_w); (case hi => rfl); (case hb => kernel_rfl); (case hs => rfl); (case h1 | h2 | h3 | h4 | h5 => (simp only [econs, List.map_cons, List.map_nil, List.cons_append, List.nil_append, OpS.nm, OpS.reads, OpS.turns]; try rfl))) <;> (intro hg; try (cases hg; done))) | ((with_reducible first | apply rs_nil); (case h => (unfold NapOK; kernel_rfl))) | ((with_reducible first | apply byKl | apply byKr); (case h => kernel_rfl)) | ((with_reducible first | apply rs_c | apply gd_c | apply rs_o | apply rs_gd | apply gd_u | apply w_c | apply ce); (try case hd => (repeat (first | (with_reducible exact dst_z rfl) | (with_reducible apply dst_s)))); (try case hn => rfl); (case hy => (simp only [go_sem, ↓reduceIte, reduceCtorEq, Nat.reduceAdd, Nat.reduceMul, Nat.reduceEqDiff, Nat.reduceLT, Nat.reduceLeDiff, Nat.reduceBEq, Nat.reduceSub, e1, e2, e3, e4, e5, r1, r2, hlr, eq_true hi, hne2]; try with_reducible rfl))) | ((with_reducible first | apply cw_t | apply cw_f | apply rs_nil_f | apply lt_n | apply lb_n | apply lt_r | apply lb_r | apply lt_e | apply lb_e | apply w_seq | apply w_skip | apply w_block | apply w_ret | apply w_exit | apply w_loop | apply w_label)) | (((with_reducible first | apply lb_m)); (case hne => rfl)) | ((with_reducible first | apply w_region); (case hm => (simp only [Nat.reduceAdd]; try rfl)); (case hs => kernel_rfl); intro K hK) | (((with_reducible first | apply cw_c)) <;> (intro hq; try simp only [decide_eq_true_eq, decide_eq_false_iff_not, Bool.and_eq_true, Bool.or_eq_true, Bool.and_eq_false_iff, Bool.or_eq_false_iff, Bool.not_eq_true', Bool.not_eq_false', Int.not_lt, Int.not_le] at hq; try (exfalso; omega))) | (((with_reducible first | apply cw_b)) <;> (try intro hq)) | ((with_reducible first | apply ends_r | apply ends_n | apply endsB_r | apply endsB_n); (case hr => rfl); simp only [go_sem, ↓reduceIte, reduceCtorEq, Nat.reduceAdd, Nat.reduceMul, Nat.reduceEqDiff, Nat.reduceLT, Nat.reduceLeDiff, Nat.reduceBEq, Nat.reduceSub, e1, e2, e3, e4, e5, r1, r2, hlr, eq_true hi, hne2]) | (with_reducible refine hK _ _ ?_; clear hK; clear K) | omega))
      (apply callL' [1] cl66 (orderJ_f h v u hpv hu); (case hp | hl => (simp only [go_sem, ↓reduceIte, reduceCtorEq, Nat.reduceAdd, Nat.reduceMul, Nat.reduceEqDiff, Nat.reduceLT, Nat.reduceLeDiff, Nat.reduceBEq, Nat.reduceSub]; try rfl)); (case hx => (simp [AV.flat0])); (try (case hfz => (first | (simp only [go_sem]; done) | (simp [go_sem, fzo]; done)))))
      cases hlt : ltO h v u
      · have d1 : decide (compareJ (dayAt h v) (dayAt h u) < 0) = false := by rw [cmp_lt]; exact hlt
        (repeat' (first | (with_reducible exact trivial) | (with_reducible apply byK; kernel_rfl) | (with_reducible apply byD; first | (simp; done) | (simp [go_sem]; done)) | ((with_reducible first | apply rk_v | apply rk_r | apply rk_vn | apply rg_v | apply rg_r | apply rk_s | apply rk_n | apply rk_a | apply rk_rn | apply gd_f); (case hi => rfl); (try case hb => kernel_rfl)) | (((with_reducible first | apply rg_n | apply rg_s); (case hi => rfl); (case hb => kernel_rfl)) <;> (intro hg; simp only [hg])) | ((with_reducible first | apply rk_all); (case hi => rfl); (case hb => kernel_rfl); (case h1 | h2 | h3 | h4 => (simp only [econs, List.map_cons, List.map_nil, List.cons_append, List.nil_append, OpS.nm, OpS.reads, OpS.turns]; try rfl))) | ((with_reducible first | apply rg_k); (case hi => rfl); (case hb => kernel_rfl); (case hs => rfl); (case h1 | h2 | h3 | h4 => (simp only [econs, List.map_cons, List.map_nil, List.cons_append, List.nil_append, OpS.nm, OpS.reads, OpS.turns]; try rfl))) | (((with_reducible first | apply rg_w); (case hi => rfl); (case hb => kernel_rfl); (case hs => rfl); (case h1 | h2 | h3 | h4 | h5 => (simp only [econs, List.map_cons, List.map_nil, List.cons_append, List.nil_append, OpS.nm, OpS.reads, OpS.turns]; try rfl))) <;> (intro hg; try (cases hg; done))) | ((with_reducible first | apply rs_nil); (case h => (unfold NapOK; kernel_rfl))) | ((with_reducible first | apply byKl | apply byKr); (case h => kernel_rfl)) | ((with_reducible first | apply rs_c | apply gd_c | apply rs_o | apply rs_gd | apply gd_u | apply w_c | apply ce); (try case hd => (repeat (first | (with_reducible exact dst_z rfl) | (with_reducible apply dst_s)))); (try case hn => rfl); (case hy => (simp only [go_sem, ↓reduceIte, reduceCtorEq, Nat.reduceAdd, Nat.reduceMul, Nat.reduceEqDiff, Nat.reduceLT, Nat.reduceLeDiff, Nat.reduceBEq, Nat.reduceSub, e1, e2, e3, e4, e5, r1, r2, hlr, hne2, d1]; try with_reducible rfl))) | ((with_reducible first | apply cw_t | apply cw_f | apply rs_nil_f | apply lt_n | apply lb_n | apply lt_r | apply lb_r | apply lt_e | apply lb_e | apply w_seq | apply w_skip | apply w_block | apply w_ret | apply w_exit | apply w_loop | apply w_label)) | (((with_reducible first | apply lb_m)); (case hne => rfl)) | ((with_reducible first | apply w_region); (case hm => (simp only [Nat.reduceAdd]; try rfl)); (case hs => kernel_rfl); intro K hK) | (((with_reducible first | apply cw_c)) <;> (intro hq; try simp only [decide_eq_true_eq, decide_eq_false_iff_not, Bool.and_eq_true, Bool.or_eq_true, Bool.and_eq_false_iff, Bool.or_eq_false_iff, Bool.not_eq_true', Bool.not_eq_false', Int.not_lt, Int.not_le] at hq; try (exfalso; omega))) | (((with_reducible first | apply cw_b)) <;> (try intro hq)) | ((with_reducible first | apply ends_r | apply ends_n | apply endsB_r | apply endsB_n); (case hr => rfl); simp only [go_sem, ↓reduceIte, reduceCtorEq, Nat.reduceAdd, Nat.reduceMul, Nat.reduceEqDiff, Nat.reduceLT, Nat.reduceLeDiff, Nat.reduceBEq, Nat.reduceSub, e1, e2, e3, e4, e5, r1, r2, hlr, hne2, d1]) | (with_reducible refine hK _ _ ?_; clear hK; clear K) | omega))
        refine ⟨⟨(i, q), g1, hij.2, by show q ≤ _; omega, g4, fun k' v' hk' h' => ?_⟩, id, ?_, by show q - i < j - i; omega⟩
        · have h' : q ≤ a + 1 + k' := h'
          refine srt_le (sw_ltO h) sV hv hk' (by omega) hlt
        · simp only [go_sem, ↓reduceIte, reduceCtorEq, Nat.reduceAdd, Nat.reduceMul, Nat.reduceEqDiff, Nat.reduceLT, Nat.reduceLeDiff, Nat.reduceBEq, Nat.reduceSub, hF]
          exact fun b g h => by have := hF2 b g h; omega
      · have d1 : decide (compareJ (dayAt h v) (dayAt h u) < 0) = true := by rw [cmp_lt]; exact hlt
        (repeat' (first | (with_reducible exact trivial) | (with_reducible apply byK; kernel_rfl) | (with_reducible apply byD; first | (simp; done) | (simp [go_sem]; done)) | ((with_reducible first | apply rk_v | apply rk_r | apply rk_vn | apply rg_v | apply rg_r | apply rk_s | apply rk_n | apply rk_a | apply rk_rn | apply gd_f); (case hi => rfl); (try case hb => kernel_rfl)) | (((with_reducible first | apply rg_n | apply rg_s); (case hi => rfl); (case hb => kernel_rfl)) <;> (intro hg; simp only [hg])) | ((with_reducible first | apply rk_all); (case hi => rfl); (case hb => kernel_rfl); (case h1 | h2 | h3 | h4 => (simp only [econs, List.map_cons, List.map_nil, List.cons_append, List.nil_append, OpS.nm, OpS.reads, OpS.turns]; try rfl))) | ((with_reducible first | apply rg_k); (case hi => rfl); (case hb => kernel_rfl); (case hs => rfl); (case h1 | h2 | h3 | h4 => (simp only [econs, List.map_cons, List.map_nil, List.cons_append, List.nil_append, OpS.nm, OpS.reads, OpS.turns]; try rfl))) | (((with_reducible first | apply rg_w); (case hi => rfl); (case hb => kernel_rfl); (case hs => rfl); (case h1 | h2 | h3 | h4 | h5 => (simp only [econs, List.map_cons, List.map_nil, List.cons_append, List.nil_append, OpS.nm, OpS.reads, OpS.turns]; try rfl))) <;> (intro hg; try (cases hg; done))) | ((with_reducible first | apply rs_nil); (case h => (unfold NapOK; kernel_rfl))) | ((with_reducible first | apply byKl | apply byKr); (case h => kernel_rfl)) | ((with_reducible first | apply rs_c | apply gd_c | apply rs_o | apply rs_gd | apply gd_u | apply w_c | apply ce); (try case hd => (repeat (first | (with_reducible exact dst_z rfl) | (with_reducible apply dst_s)))); (try case hn => rfl); (case hy => (simp only [go_sem, ↓reduceIte, reduceCtorEq, Nat.reduceAdd, Nat.reduceMul, Nat.reduceEqDiff, Nat.reduceLT, Nat.reduceLeDiff, Nat.reduceBEq, Nat.reduceSub, e1, e2, e3, e4, e5, r1, r2, hlr, hne2, d1]; try with_reducible rfl))) | ((with_reducible first | apply cw_t | apply cw_f | apply rs_nil_f | apply lt_n | apply lb_n | apply lt_r | apply lb_r | apply lt_e | apply lb_e | apply w_seq | apply w_skip | apply w_block | apply w_ret | apply w_exit | apply w_loop | apply w_label)) | (((with_reducible first | apply lb_m)); (case hne => rfl)) | ((with_reducible first | apply w_region); (case hm => (simp only [Nat.reduceAdd]; try rfl)); (case hs => kernel_rfl); intro K hK) | (((with_reducible first | apply cw_c)) <;> (intro hq; try simp only [decide_eq_true_eq, decide_eq_false_iff_not, Bool.and_eq_true, Bool.or_eq_true, Bool.and_eq_false_iff, Bool.or_eq_false_iff, Bool.not_eq_true', Bool.not_eq_false', Int.not_lt, Int.not_le] at hq; try (exfalso; omega))) | (((with_reducible first | apply cw_b)) <;> (try intro hq)) | ((with_reducible first | apply ends_r | apply ends_n | apply endsB_r | apply endsB_n); (case hr => rfl); simp only [go_sem, ↓reduceIte, reduceCtorEq, Nat.reduceAdd, Nat.reduceMul, Nat.reduceEqDiff, Nat.reduceLT, Nat.reduceLeDiff, Nat.reduceBEq, Nat.reduceSub, e1, e2, e3, e4, e5, r1, r2, hlr, hne2, d1]) | (with_reducible refine hK _ _ ?_; clear hK; clear K) | omega))
        refine ⟨⟨(q + 1, j), by show a + 1 ≤ q + 1; omega, by show q + 1 ≤ j; omega, g3, fun k' v' hk' h' => ?_, g5⟩, id, ?_, by show j - (q + 1) < j - i; omega⟩
        · have h' : a + 1 + k' < q + 1 := h'
          exact srt_lt (sw_ltO h) sV hk' hv (by omega) hlt
        · simp only [go_sem, ↓reduceIte, reduceCtorEq, Nat.reduceAdd, Nat.reduceMul, Nat.reduceEqDiff, Nat.reduceLT, Nat.reduceLeDiff, Nat.reduceBEq, Nat.reduceSub, hF]
          exact fun b g h => by have := hF2 b g h; omega
    · obtain rfl : i = j := by omega
      have f1 := hfin i g1 g3
      obtain ⟨V1, hV1⟩ : ∃ V1, V1 = V.take (i - (a + 1)) := ⟨_, rfl⟩
      obtain ⟨V2, hV2⟩ : ∃ V2, V2 = V.drop (i - (a + 1)) := ⟨_, rfl⟩
      rw [← hV1, ← hV2] at f1
      have hVe : V = V1 ++ V2 := by rw [hV1, hV2, List.take_append_drop]
      have hV1l : V1.length = i - (a + 1) := by rw [hV1, List.length_take]; omega
      have k1 : ∀ v, v ∈ V1 → ltO h v u = true := fun v hv => by
        obtain ⟨k, hk, rfl⟩ := List.mem_iff_getElem.1 hv
        exact g4 k _ (by rw [hVe, List.getElem?_append_left hk, List.getElem?_eq_getElem hk]) (by omega)
      have k2 : ∀ v, v ∈ V2 → ltO h v u = false := fun v hv => by
        obtain ⟨k, hk, rfl⟩ := List.mem_iff_getElem.1 hv
        exact g5 (V1.length + k) _ (by rw [hVe, List.getElem?_append_right (by omega), Nat.add_sub_cancel_left, List.getElem?_eq_getElem hk]) (by omega)
      have hres := mrg_one k1 k2
      rw [← hVe] at hres
      have w2 : IntKind.i64.wrap ((i : Int) - 1) = ((a + V1.length : Nat) : Int) := by rw [wrap_id] <;> omega
      (repeat' (first | (with_reducible exact trivial) | (with_reducible apply byK; kernel_rfl) | (with_reducible apply byD; first | (simp; done) | (simp [go_sem]; done)) | ((with_reducible first | apply rk_v | apply rk_r | apply rk_vn | apply rg_v | apply rg_r | apply rk_s | apply rk_n | apply rk_a | apply rk_rn | apply gd_f); (case hi => rfl); (try case hb => kernel_rfl)) | (((with_reducible first | apply rg_n | apply rg_s); (case hi => rfl); (case hb => kernel_rfl)) <;> (intro hg; simp only [hg])) | ((with_reducible first | apply rk_all); (case hi => rfl); (case hb => kernel_rfl); (case h1 | h2 | h3 | h4 => (simp only [econs, List.map_cons, List.map_nil, List.cons_append, List.nil_append, OpS.nm, OpS.reads, OpS.turns]; try rfl))) | ((with_reducible first | apply rg_k); (case hi => rfl); (case hb => kernel_rfl); (case hs => rfl); (case h1 | h2 | h3 | h4 => (simp only [econs, List.map_cons, List.map_nil, List.cons_append, List.nil_append, OpS.nm, OpS.reads, OpS.turns]; try rfl))) | (((with_reducible first | apply rg_w); (case hi => rfl); (case hb => kernel_rfl); (case hs => rfl); (case h1 | h2 | h3 | h4 | h5 => (simp only [econs, List.map_cons, List.map_nil, List.cons_append, List.nil_append, OpS.nm, OpS.reads, OpS.turns]; try rfl))) <;> (intro hg; try (cases hg; done))) | ((with_reducible first | apply rs_nil); (case h => (unfold NapOK; kernel_rfl))) | ((with_reducible first | apply byKl | apply byKr); (case h => kernel_rfl)) | ((with_reducible first | apply rs_c | apply gd_c | apply rs_o | apply rs_gd | apply gd_u | apply w_c | apply ce); (try case hd => (repeat (first | (with_reducible exact dst_z rfl) | (with_reducible apply dst_s)))); (try case hn => rfl); (case hy => (simp only [go_sem, ↓reduceIte, reduceCtorEq, Nat.reduceAdd, Nat.reduceMul, Nat.reduceEqDiff, Nat.reduceLT, Nat.reduceLeDiff, Nat.reduceBEq, Nat.reduceSub, w2]; try with_reducible rfl))) | ((with_reducible first | apply cw_t | apply cw_f | apply rs_nil_f | apply lt_n | apply lb_n | apply lt_r | apply lb_r | apply lt_e | apply lb_e | apply w_seq | apply w_skip | apply w_block | apply w_ret | apply w_exit | apply w_loop | apply w_label)) | (((with_reducible first | apply lb_m)); (case hne => rfl)) | ((with_reducible first | apply w_region); (case hm => (simp only [Nat.reduceAdd]; try rfl)); (case hs => kernel_rfl); intro K hK) | (((with_reducible first | apply cw_c)) <;> (intro hq; try simp only [decide_eq_true_eq, decide_eq_false_iff_not, Bool.and_eq_true, Bool.or_eq_true, Bool.and_eq_false_iff, Bool.or_eq_false_iff, Bool.not_eq_true', Bool.not_eq_false', Int.not_lt, Int.not_le] at hq; try (exfalso; omega))) | (((with_reducible first | apply cw_b)) <;> (try intro hq)) | ((with_reducible first | apply ends_r | apply ends_n | apply endsB_r | apply endsB_n); (case hr => rfl); simp only [go_sem, ↓reduceIte, reduceCtorEq, Nat.reduceAdd, Nat.reduceMul, Nat.reduceEqDiff, Nat.reduceLT, Nat.reduceLeDiff, Nat.reduceBEq, Nat.reduceSub, w2]) | (with_reducible refine hK _ _ ?_; clear hK; clear K) | omega))
      refine loopW mixed (σ := {p : List Int × List Int // p.1 ++ p.2 = V1}) (fun s => ⟨[(13, int (a + s.1.1.length : Nat)), (0, .osl 0 1 0 n), (10, int i)], [(0, some ⟨3, rowC irow (X ++ (s.1.1 ++ (u :: (s.1.2 ++ (V2 ++ Y)))))⟩), (1, some ⟨63, h.flat⟩)], 9000⟩) (fun s => s.1.2.length) id ⟨([], V1), rfl⟩ (by rw [hN]; kernel_rfl) ?_ ?_
      · simp only [go_sem, ↓reduceIte, reduceCtorEq, Nat.reduceAdd, Nat.reduceMul, Nat.reduceEqDiff, Nat.reduceLT, Nat.reduceLeDiff, Nat.reduceBEq, Nat.reduceSub, hF]
        rw [f1]
        exact ⟨rfl, fun b g h => by have := hF2 b g h; omega⟩
      · rintro ⟨⟨P, Q⟩, q1⟩
        simp only at q1
        have q1l : P.length + Q.length = V1.length := by rw [← q1, List.length_append]
        rcases Q with _ | ⟨x, Q⟩
        · have c2 : decide (((a + P.length : Nat) : Int) < ((a + V1.length : Nat) : Int)) = false := by
            simp at q1l; simp; omega
          rw [List.append_nil] at q1
          subst q1
          (repeat' (first | (with_reducible exact trivial) | (with_reducible apply byK; kernel_rfl) | (with_reducible apply byD; first | (simp; done) | (simp [go_sem]; done)) | ((with_reducible first | apply rk_v | apply rk_r | apply rk_vn | apply rg_v | apply rg_r | apply rk_s | apply rk_n | apply rk_a | apply rk_rn | apply gd_f); (case hi => rfl); (try case hb => kernel_rfl)) | (((with_reducible first | apply rg_n | apply rg_s); (case hi => rfl); (case hb => kernel_rfl)) <;> (intro hg; simp only [hg])) | ((with_reducible first | apply rk_all); (case hi => rfl); (case hb => kernel_rfl); (case h1 | h2 | h3 | h4 => (simp only [econs, List.map_cons, List.map_nil, List.cons_append, List.nil_append, OpS.nm, OpS.reads, OpS.turns]; try rfl))) | ((with_reducible first | apply rg_k); (case hi => rfl); (case hb => kernel_rfl); (case hs => rfl); (case h1 | h2 | h3 | h4 => (simp only [econs, List.map_cons, List.map_nil, List.cons_append, List.nil_append, OpS.nm, OpS.reads, OpS.turns]; try rfl))) | (((with_reducible first | apply rg_w); (case hi => rfl); (case hb => kernel_rfl); (case hs => rfl); (case h1 | h2 | h3 | h4 | h5 => (simp only [econs, List.map_cons, List.map_nil, List.cons_append, List.nil_append, OpS.nm, OpS.reads, OpS.turns]; try rfl))) <;> (intro hg; try (cases hg; done))) | ((with_reducible first | apply rs_nil); (case h => (unfold NapOK; kernel_rfl))) | ((with_reducible first | apply byKl | apply byKr); (case h => kernel_rfl)) | ((with_reducible first | apply rs_c | apply gd_c | apply rs_o | apply rs_gd | apply gd_u | apply w_c | apply ce); (try case hd => (repeat (first | (with_reducible exact dst_z rfl) | (with_reducible apply dst_s)))); (try case hn => rfl); (case hy => (simp only [go_sem, ↓reduceIte, reduceCtorEq, Nat.reduceAdd, Nat.reduceMul, Nat.reduceEqDiff, Nat.reduceLT, Nat.reduceLeDiff, Nat.reduceBEq, Nat.reduceSub, w2, c2]; try with_reducible rfl))) | ((with_reducible first | apply cw_t | apply cw_f | apply rs_nil_f | apply lt_n | apply lb_n | apply lt_r | apply lb_r | apply lt_e | apply lb_e | apply w_seq | apply w_skip | apply w_block | apply w_ret | apply w_exit | apply w_loop | apply w_label)) | (((with_reducible first | apply lb_m)); (case hne => rfl)) | ((with_reducible first | apply w_region); (case hm => (simp only [Nat.reduceAdd]; try rfl)); (case hs => kernel_rfl); intro K hK) | (((with_reducible first | apply cw_c)) <;> (intro hq; try simp only [decide_eq_true_eq, decide_eq_false_iff_not, Bool.and_eq_true, Bool.or_eq_true, Bool.and_eq_false_iff, Bool.or_eq_false_iff, Bool.not_eq_true', Bool.not_eq_false', Int.not_lt, Int.not_le] at hq; try (exfalso; omega))) | (((with_reducible first | apply cw_b)) <;> (try intro hq)) | ((with_reducible first | apply ends_r | apply ends_n | apply endsB_r | apply endsB_n); (case hr => rfl); simp only [go_sem, ↓reduceIte, reduceCtorEq, Nat.reduceAdd, Nat.reduceMul, Nat.reduceEqDiff, Nat.reduceLT, Nat.reduceLeDiff, Nat.reduceBEq, Nat.reduceSub, w2, c2]) | (with_reducible refine hK _ _ ?_; clear hK; clear K) | omega))
          rw [hres]
          simp
        · have q2l : P.length + Q.length + 1 = V1.length := by simp at q1l; omega
          have c2 : decide (((a + P.length : Nat) : Int) < ((a + V1.length : Nat) : Int)) = true := by simp; omega
          have e6 : IntKind.i64.wrap (((a + P.length : Nat) : Int) + 1) = ((a + (P.length + 1) : Nat) : Int) := by rw [wrap_id] <;> omega
          have hVl := congrArg List.length hVe
          rw [List.length_append] at hVl
          have hLe : X ++ (P ++ (u :: (x :: Q ++ (V2 ++ Y)))) = (X ++ P) ++ u :: x :: (Q ++ (V2 ++ Y)) := by simp
          have hLx : (X ++ (P ++ (u :: (x :: Q ++ (V2 ++ Y)))))[a + P.length]? = some u := by
            rw [hLe]; exact at_mid _ _ _ _ (by rw [List.length_append, ha])
          have hLp : (X ++ (P ++ (u :: (x :: Q ++ (V2 ++ Y)))))[a + (P.length + 1)]? = some x := by
            rw [hLe, show (X ++ P) ++ u :: x :: (Q ++ (V2 ++ Y)) = (X ++ P ++ [u]) ++ x :: (Q ++ (V2 ++ Y)) by simp]; exact at_mid _ _ _ _ (by simp; omega)
          have hLn : (X ++ (P ++ (u :: (x :: Q ++ (V2 ++ Y))))).length = n := by
            simp only [List.length_append, List.length_cons]; omega
          have hst := set_pair2 (X ++ P) (Q ++ (V2 ++ Y)) u x (a + P.length) (a + (P.length + 1)) (by rw [List.length_append]; omega) (by rw [List.length_append]; omega)
          rw [← hLe] at hst
          have hz := rowI_nz (l := X ++ (P ++ (u :: (x :: Q ++ (V2 ++ Y))))) (by omega)
          generalize X ++ (P ++ (u :: (x :: Q ++ (V2 ++ Y)))) = M at *
          have r1 := rowI_some hLx
          have r2 := rowI_some hLp
          have hn1 : (rowC irow M).length = n := by rw [rowI_len, hLn]
          have hn2 : (rowC irow (M.set (a + P.length) x)).length = n := by rw [rowI_len, List.length_set, hLn]
          have s1 := rowI_put M (a + P.length) x (by omega)
          have s2 := rowI_put (M.set (a + P.length) x) (a + (P.length + 1)) u (by rw [List.length_set]; omega)
          rw [hst] at s2
          (repeat' (first | (with_reducible exact trivial) | (with_reducible apply byK; kernel_rfl) | (with_reducible apply byD; first | (simp; done) | (simp [go_sem]; done)) | ((with_reducible first | apply rk_v | apply rk_r | apply rk_vn | apply rg_v | apply rg_r | apply rk_s | apply rk_n | apply rk_a | apply rk_rn | apply gd_f); (case hi => rfl); (try case hb => kernel_rfl)) | (((with_reducible first | apply rg_n | apply rg_s); (case hi => rfl); (case hb => kernel_rfl)) <;> (intro hg; simp only [hg])) | ((with_reducible first | apply rk_all); (case hi => rfl); (case hb => kernel_rfl); (case h1 | h2 | h3 | h4 => (simp only [econs, List.map_cons, List.map_nil, List.cons_append, List.nil_append, OpS.nm, OpS.reads, OpS.turns]; try rfl))) | ((with_reducible first | apply rg_k); (case hi => rfl); (case hb => kernel_rfl); (case hs => rfl); (case h1 | h2 | h3 | h4 => (simp only [econs, List.map_cons, List.map_nil, List.cons_append, List.nil_append, OpS.nm, OpS.reads, OpS.turns]; try rfl))) | (((with_reducible first | apply rg_w); (case hi => rfl); (case hb => kernel_rfl); (case hs => rfl); (case h1 | h2 | h3 | h4 | h5 => (simp only [econs, List.map_cons, List.map_nil, List.cons_append, List.nil_append, OpS.nm, OpS.reads, OpS.turns]; try rfl))) <;> (intro hg; try (cases hg; done))) | ((with_reducible first | apply rs_nil); (case h => (unfold NapOK; kernel_rfl))) | ((with_reducible first | apply byKl | apply byKr); (case h => kernel_rfl)) | ((with_reducible first | apply rs_c | apply gd_c | apply rs_o | apply rs_gd | apply gd_u | apply w_c | apply ce); (try case hd => (repeat (first | (with_reducible exact dst_z rfl) | (with_reducible apply dst_s)))); (try case hn => rfl); (case hy => (simp only [go_sem, ↓reduceIte, reduceCtorEq, Nat.reduceAdd, Nat.reduceMul, Nat.reduceEqDiff, Nat.reduceLT, Nat.reduceLeDiff, Nat.reduceBEq, Nat.reduceSub, w2, c2, e6, r1, r2, hn1, hn2, hz, s1, s2]; try with_reducible rfl))) | ((with_reducible first | apply cw_t | apply cw_f | apply rs_nil_f | apply lt_n | apply lb_n | apply lt_r | apply lb_r | apply lt_e | apply lb_e | apply w_seq | apply w_skip | apply w_block | apply w_ret | apply w_exit | apply w_loop | apply w_label)) | (((with_reducible first | apply lb_m)); (case hne => rfl)) | ((with_reducible first | apply w_region); (case hm => (simp only [Nat.reduceAdd]; try rfl)); (case hs => kernel_rfl); intro K hK) | (((with_reducible first | apply cw_c)) <;> (intro hq; try simp only [decide_eq_true_eq, decide_eq_false_iff_not, Bool.and_eq_true, Bool.or_eq_true, Bool.and_eq_false_iff, Bool.or_eq_false_iff, Bool.not_eq_true', Bool.not_eq_false', Int.not_lt, Int.not_le] at hq; try (exfalso; omega))) | (((with_reducible first | apply cw_b)) <;> (try intro hq)) | ((with_reducible first | apply ends_r | apply ends_n | apply endsB_r | apply endsB_n); (case hr => rfl); simp only [go_sem, ↓reduceIte, reduceCtorEq, Nat.reduceAdd, Nat.reduceMul, Nat.reduceEqDiff, Nat.reduceLT, Nat.reduceLeDiff, Nat.reduceBEq, Nat.reduceSub, w2, c2, e6, r1, r2, hn1, hn2, hz, s1, s2]) | (with_reducible refine hK _ _ ?_; clear hK; clear K) | omega))
          refine ⟨⟨(P ++ [x], Q), by rw [← q1]; simp⟩, id, ?_, by show Q.length < (x :: Q).length; simp⟩
          have hlp : (P ++ [x]).length = P.length + 1 := by simp
          simp only [go_sem, ↓reduceIte, reduceCtorEq, Nat.reduceAdd, Nat.reduceMul, Nat.reduceEqDiff, Nat.reduceLT, Nat.reduceLeDiff, Nat.reduceBEq, Nat.reduceSub, hF, hlp]
          refine ⟨?_, fun b g h => by have := hF2 b g h; omega⟩
          simp
end Go.Proofs.Ytkagkiepicepeaa.V
