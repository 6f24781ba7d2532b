/- slices.SortStableFunc at steps: symMerge. slices.SortStableFunc at steps: symMerge of one element behind. -/
import Derived.Test.YtjplhfmakghabaaGreatG8
set_option linter.unusedSimpArgs false
set_option linter.unusedVariables false
namespace Go.Proofs.YtjplhfmakghabaaGreat.V
open Go.RowKit
set_option maxRecDepth 100000

attribute [local go_sem] Int.reduceEq in
theorem symMerge1_fT (X V Y : List Stp) (u : Stp) (hl : (X ++ (u :: (V ++ Y))).length ≤ 100000) (hu : True) (hV : ∀ x, x ∈ V → True) (sV : Srt (ltT) V) :
    FunB Tryz.prog 89 [(0, ⟨81, rowC trow (X ++ (u :: (V ++ Y)))⟩)] [.osl 0 4 0 (X ++ (u :: (V ++ Y))).length, int X.length, int (X.length + 1 : Nat), int (X.length + 1 + V.length : Nat), .v (.func (.func 44) #[] #[])] (.tup []) [(0, some ⟨81, rowC trow (X ++ (mrg (ltT) [u] V ++ Y))⟩)] := by
  have hne2 := rowT_nz (l := X ++ (u :: (V ++ Y))) (by simp; omega)
  have hlen : (X ++ (u :: (V ++ Y))).length = X.length + 1 + V.length + Y.length := by simp; omega
  have hLu : (X ++ (u :: (V ++ Y)))[X.length]? = some u := at_mid _ _ _ _ rfl
  have hLv : ∀ k v, V[k]? = some v → (X ++ (u :: (V ++ Y)))[X.length + 1 + k]? = some v := fun k v hk => by
    have := at_in (X := X ++ [u]) (Y := Y) (i := X.length + 1 + k) hk (by simp)
    simpa using this
  have hfin : ∀ i, X.length + 1 ≤ i → i ≤ X.length + 1 + V.length → X ++ (u :: (V ++ Y)) = X ++ ([] ++ (u :: (V.take (i - (X.length + 1)) ++ (V.drop (i - (X.length + 1)) ++ Y)))) := fun i _ _ => by
    rw [← List.append_assoc (V.take _), List.take_append_drop]; rfl
  rw [hlen] at hl ⊢
  generalize hn : X.length + 1 + V.length + Y.length = n at *
  generalize hLL : X ++ (u :: (V ++ Y)) = L at *
  generalize ha : X.length = a at *
  refine fun_WB 1 mixed Tryz.func89 rfl (Nat.le_of_ble_eq_true rfl) (by kernel_rfl) (by simp [go_sem, hne2, rowT_nms']) fun cx hN hR hF hL => ?_; apply args_kb; (case hA => (simp only [go_sem, ↓reduceIte]; rfl)); (case hB => (simp only [go_sem, ↓reduceIte]; rfl))
  have hF2 : ∀ b g, cx.F b = some g → b < 3000 := fun b g h => by
    have := hF b g h
    simp [inl] at this
    omega
  have w1 : IntKind.i64.wrap (((a + 1 : Nat) : Int) - a) = 1 := by rw [wrap_id] <;> omega
  (try ((try (revert K;refine bK ?_));refine' run w1 ?_;(repeat' first|exact True.intro|refine Lv.mk ?_ ?_|(refine oK ?_;intro K hK)|intro hq);all_goals refine Lf.mk ?_))
  refine loopW mixed (σ := {p : Nat × Nat // a + 1 ≤ p.1 ∧ p.1 ≤ p.2 ∧ p.2 ≤ a + 1 + V.length ∧ (∀ (k : Nat) v, V[k]? = some v → a + 1 + k < p.1 → ltT v u = true) ∧ (∀ (k : Nat) v, V[k]? = some v → p.2 ≤ a + 1 + k → ltT v u = false)})
    (fun s => ⟨[(10, int s.1.1), (11, int s.1.2), (0, .osl 0 4 0 n), (1, int a), (4, .v (.func (.func 44) #[] #[]))], [(0, some ⟨81, rowC trow L⟩)], 4000⟩) (fun s => s.1.2 - s.1.1) id
    ⟨(a + 1, a + 1 + V.length), Nat.le_refl _, by omega, Nat.le_refl _, fun k v _ h => by omega, fun k v hk h => by have := (List.getElem?_eq_some_iff.1 hk).1; omega⟩ (by rw [hN]; kernel_rfl) ?_ ?_
  · simp only [go_sem, ↓reduceIte, hF]
    exact fun b g h => by have := hF2 b g h; omega
  · rintro ⟨⟨i, j⟩, g1, g2, g3, g4, g5⟩
    simp only at g1 g2 g3 g4 g5
    by_cases hi : i < j
    · have hij : (i + j) / 2 < j ∧ i ≤ (i + j) / 2 := by omega
      have e1 : IntKind.i64.wrap ((i : Int) + j) = ((i + j : Nat) : Int) := by rw [wrap_id] <;> omega
      have e2 : IntKind.u64.wrap ((i + j : Nat) : Int) = ((i + j : Nat) : Int) := by rw [wrap_u] <;> omega
      have e3 := half_n (i + j)
      generalize hm : (i + j) / 2 = q at *
      have e4 : IntKind.i64.wrap (q : Int) = (q : Int) := by rw [wrap_id] <;> omega
      have e5 : IntKind.i64.wrap ((q : Int) + 1) = ((q + 1 : Nat) : Int) := by rw [wrap_id] <;> omega
      obtain ⟨k, hk⟩ : ∃ k, q = a + 1 + k := ⟨q - (a + 1), by omega⟩
      have hk2 : k < V.length := by omega
      have hv : V[k]? = some V[k] := List.getElem?_eq_getElem hk2
      have hpv : True := hV _ (List.getElem_mem hk2)
      have hLq := hLv k _ hv
      rw [← hk] at hLq
      generalize V[k] = v at *
      have r1 := rowT_some hLu
      have r2 := rowT_some hLq
      have hqn : q < n := by omega
      have han : a < n := by omega
      have hlr : (rowC trow L).length = n * 4 := by rw [rowT_len, hlen]
      (try ((try (revert K;refine bK ?_));refine' run (I e1 (I e2 (I e3 (I e4 (I e5 (I r1 (I r2 (I hlr (I (eq_true hi) (I hne2 (I hqn han))))))))))) ?_;(repeat' first|exact True.intro|refine Lv.mk ?_ ?_|(refine oK ?_;intro K hK)|intro hq);all_goals refine Lf.mk ?_))
      (refine callW cl44 (aheadT_f v u) (by simp) ?_)
      cases hlt : ltT v u
      · have d1 : decide (aheadT v u < 0) = false := by rw [ahead_lt]; exact hlt
        (try ((try (revert K;refine bK ?_));refine' run (I e1 (I e2 (I e3 (I e4 (I e5 (I r1 (I r2 (I hlr (I hne2 (I d1 (I hqn han))))))))))) ?_;(repeat' first|exact True.intro|refine Lv.mk ?_ ?_|(refine oK ?_;intro K hK)|intro hq);all_goals refine Lf.mk ?_))
        refine ⟨⟨(i, q), g1, hij.2, by show q ≤ _; omega, g4, fun k' v' hk' h' => ?_⟩, id, ?_, by show q - i < j - i; omega⟩
        · have h' : q ≤ a + 1 + k' := h'
          refine srt_le (sw_ltT) sV hv hk' (by omega) hlt
        · simp only [go_sem, ↓reduceIte, hF]
          exact fun b g h => by have := hF2 b g h; omega
      · have d1 : decide (aheadT v u < 0) = true := by rw [ahead_lt]; exact hlt
        (try ((try (revert K;refine bK ?_));refine' run (I e1 (I e2 (I e3 (I e4 (I e5 (I r1 (I r2 (I hlr (I hne2 (I d1 (I hqn han))))))))))) ?_;(repeat' first|exact True.intro|refine Lv.mk ?_ ?_|(refine oK ?_;intro K hK)|intro hq);all_goals refine Lf.mk ?_))
        refine ⟨⟨(q + 1, j), by show a + 1 ≤ q + 1; omega, by show q + 1 ≤ j; omega, g3, fun k' v' hk' h' => ?_, g5⟩, id, ?_, by show j - (q + 1) < j - i; omega⟩
        · have h' : a + 1 + k' < q + 1 := h'
          exact srt_lt (sw_ltT) sV hk' hv (by omega) hlt
        · simp only [go_sem, ↓reduceIte, hF]
          exact fun b g h => by have := hF2 b g h; omega
    · obtain rfl : i = j := by omega
      have f1 := hfin i g1 g3
      obtain ⟨V1, hV1⟩ : ∃ V1, V1 = V.take (i - (a + 1)) := ⟨_, rfl⟩
      obtain ⟨V2, hV2⟩ : ∃ V2, V2 = V.drop (i - (a + 1)) := ⟨_, rfl⟩
      rw [← hV1, ← hV2] at f1
      have hVe : V = V1 ++ V2 := by rw [hV1, hV2, List.take_append_drop]
      have hV1l : V1.length = i - (a + 1) := by rw [hV1, List.length_take]; omega
      have k1 : ∀ v, v ∈ V1 → ltT v u = true := fun v hv => by
        obtain ⟨k, hk, rfl⟩ := List.mem_iff_getElem.1 hv
        exact g4 k _ (by rw [hVe, List.getElem?_append_left hk, List.getElem?_eq_getElem hk]) (by omega)
      have k2 : ∀ v, v ∈ V2 → ltT v u = false := fun v hv => by
        obtain ⟨k, hk, rfl⟩ := List.mem_iff_getElem.1 hv
        exact g5 (V1.length + k) _ (by rw [hVe, List.getElem?_append_right (by omega), Nat.add_sub_cancel_left, List.getElem?_eq_getElem hk]) (by omega)
      have hres := mrg_one k1 k2
      rw [← hVe] at hres
      have w2 : IntKind.i64.wrap ((i : Int) - 1) = ((a + V1.length : Nat) : Int) := by rw [wrap_id] <;> omega
      (try ((try (revert K;refine bK ?_));refine' run w2 ?_;(repeat' first|exact True.intro|refine Lv.mk ?_ ?_|(refine oK ?_;intro K hK)|intro hq);all_goals refine Lf.mk ?_))
      refine loopW mixed (σ := {p : List Stp × List Stp // p.1 ++ p.2 = V1}) (fun s => ⟨[(13, int (a + s.1.1.length : Nat)), (0, .osl 0 4 0 n), (10, int i)], [(0, some ⟨81, rowC trow (X ++ (s.1.1 ++ (u :: (s.1.2 ++ (V2 ++ Y)))))⟩)], 9000⟩) (fun s => s.1.2.length) id ⟨([], V1), rfl⟩ (by rw [hN]; kernel_rfl) ?_ ?_
      · simp only [go_sem, ↓reduceIte, hF]
        rw [f1]
        exact ⟨rfl, fun b g h => by have := hF2 b g h; omega⟩
      · rintro ⟨⟨P, Q⟩, q1⟩
        simp only at q1
        have q1l : P.length + Q.length = V1.length := by rw [← q1, List.length_append]
        rcases Q with _ | ⟨x, Q⟩
        · have c2 : decide (((a + P.length : Nat) : Int) < ((a + V1.length : Nat) : Int)) = false := by
            simp at q1l; simp; omega
          rw [List.append_nil] at q1
          subst q1
          (try ((try (revert K;refine bK ?_));refine' run (I w2 c2) ?_;(repeat' first|exact True.intro|refine Lv.mk ?_ ?_|(refine oK ?_;intro K hK)|intro hq);all_goals refine Lf.mk ?_))
          rw [hres]
          simp
        · have q2l : P.length + Q.length + 1 = V1.length := by simp at q1l; omega
          have c2 : decide (((a + P.length : Nat) : Int) < ((a + V1.length : Nat) : Int)) = true := by simp; omega
          have e6 : IntKind.i64.wrap (((a + P.length : Nat) : Int) + 1) = ((a + (P.length + 1) : Nat) : Int) := by rw [wrap_id] <;> omega
          have hVl := congrArg List.length hVe
          rw [List.length_append] at hVl
          have hLe : X ++ (P ++ (u :: (x :: Q ++ (V2 ++ Y)))) = (X ++ P) ++ u :: x :: (Q ++ (V2 ++ Y)) := by simp
          have hLx : (X ++ (P ++ (u :: (x :: Q ++ (V2 ++ Y)))))[a + P.length]? = some u := by
            rw [hLe]; exact at_mid _ _ _ _ (by rw [List.length_append, ha])
          have hLp : (X ++ (P ++ (u :: (x :: Q ++ (V2 ++ Y)))))[a + (P.length + 1)]? = some x := by
            rw [hLe, show (X ++ P) ++ u :: x :: (Q ++ (V2 ++ Y)) = (X ++ P ++ [u]) ++ x :: (Q ++ (V2 ++ Y)) by simp]; exact at_mid _ _ _ _ (by simp; omega)
          have hLn : (X ++ (P ++ (u :: (x :: Q ++ (V2 ++ Y))))).length = n := by
            simp only [List.length_append, List.length_cons]; omega
          have hst := set_pair2 (X ++ P) (Q ++ (V2 ++ Y)) u x (a + P.length) (a + (P.length + 1)) (by rw [List.length_append]; omega) (by rw [List.length_append]; omega)
          rw [← hLe] at hst
          have hz := rowT_nz (l := X ++ (P ++ (u :: (x :: Q ++ (V2 ++ Y))))) (by omega)
          generalize X ++ (P ++ (u :: (x :: Q ++ (V2 ++ Y)))) = M at *
          have r1 := rowT_some hLx
          have r2 := rowT_some hLp
          have hn1 : (rowC trow M).length = n * 4 := by rw [rowT_len, hLn]
          have hn2 : (rowC trow (M.set (a + P.length) x)).length = n * 4 := by rw [rowT_len, List.length_set, hLn]
          have b1 : a + P.length < n := by omega
          have b2 : a + (P.length + 1) < n := by omega
          have s1 := rowT_put M (a + P.length) x (by omega)
          have s2 := rowT_put (M.set (a + P.length) x) (a + (P.length + 1)) u (by rw [List.length_set]; omega)
          rw [hst] at s2
          (try ((try (revert K;refine bK ?_));refine' run (I w2 (I c2 (I e6 (I r1 (I r2 (I hn1 (I hn2 (I hz (I s1 (I s2 (I b1 b2))))))))))) ?_;(repeat' first|exact True.intro|refine Lv.mk ?_ ?_|(refine oK ?_;intro K hK)|intro hq);all_goals refine Lf.mk ?_))
          refine ⟨⟨(P ++ [x], Q), by rw [← q1]; simp⟩, id, ?_, by show Q.length < (x :: Q).length; simp⟩
          have hlp : (P ++ [x]).length = P.length + 1 := by simp
          simp only [go_sem, ↓reduceIte, hF, hlp]
          refine ⟨?_, fun b g h => by have := hF2 b g h; omega⟩
          simp
end Go.Proofs.YtjplhfmakghabaaGreat.V
set_option linter.unusedSimpArgs false
set_option linter.unusedVariables false
namespace Go.Proofs.YtjplhfmakghabaaGreat.V
open Go.RowKit
set_option maxRecDepth 100000

attribute [local go_sem] Int.reduceEq in
theorem symMerge2_fT (X U Y : List Stp) (v : Stp) (hl : (X ++ (U ++ (v :: Y))).length ≤ 100000) (hv : True) (hU : ∀ x, x ∈ U → True) (sU : Srt (ltT) U) (hU1 : U.length ≠ 1) :
    FunB Tryz.prog 89 [(0, ⟨81, rowC trow (X ++ (U ++ (v :: Y)))⟩)] [.osl 0 4 0 (X ++ (U ++ (v :: Y))).length, int X.length, int (X.length + U.length : Nat), int (X.length + U.length + 1 : Nat), .v (.func (.func 44) #[] #[])] (.tup []) [(0, some ⟨81, rowC trow (X ++ (mrg (ltT) U [v] ++ Y))⟩)] := by
  have hne2 := rowT_nz (l := X ++ (U ++ (v :: Y))) (by simp; omega)
  have hlen : (X ++ (U ++ (v :: Y))).length = X.length + U.length + 1 + Y.length := by simp; omega
  have hLv : (X ++ (U ++ (v :: Y)))[X.length + U.length]? = some v := by rw [← List.append_assoc]; exact at_mid _ _ _ _ (by simp)
  have hLu : ∀ k x, U[k]? = some x → (X ++ (U ++ (v :: Y)))[X.length + k]? = some x := fun k x hk => at_in hk rfl
  have hfin : ∀ i, X.length ≤ i → i ≤ X.length + U.length → X ++ (U ++ (v :: Y)) = X ++ (U.take (i - X.length) ++ (U.drop (i - X.length) ++ (v :: ([] ++ Y)))) := fun i _ _ => by
    rw [← List.append_assoc (U.take _), List.take_append_drop]; rfl
  rw [hlen] at hl ⊢
  generalize hn : X.length + U.length + 1 + Y.length = n at *
  generalize hLL : X ++ (U ++ (v :: Y)) = L at *
  generalize ha : X.length = a at *
  generalize hm : a + U.length = m at *
  refine fun_WB 1 mixed Tryz.func89 rfl (Nat.le_of_ble_eq_true rfl) (by kernel_rfl) (by simp [go_sem, hne2, rowT_nms']) fun cx hN hR hF hL => ?_; apply args_kb; (case hA => (simp only [go_sem, ↓reduceIte]; rfl)); (case hB => (simp only [go_sem, ↓reduceIte]; rfl))
  have hF2 : ∀ b g, cx.F b = some g → b < 3000 := fun b g h => by
    have := hF b g h
    simp [inl] at this
    omega
  have w1 : IntKind.i64.wrap ((m : Int) - a) = ((U.length : Nat) : Int) := by rw [wrap_id] <;> omega
  have w1' : (((U.length : Nat) : Int) = 1) = False := by simp; omega
  have w2 : IntKind.i64.wrap (((m + 1 : Nat) : Int) - m) = 1 := by rw [wrap_id] <;> omega
  (try ((try (revert K;refine bK ?_));refine' run (I w1 (I w1' w2)) ?_;(repeat' first|exact True.intro|refine Lv.mk ?_ ?_|(refine oK ?_;intro K hK)|intro hq);all_goals refine Lf.mk ?_))
  refine loopW mixed (σ := {p : Nat × Nat // a ≤ p.1 ∧ p.1 ≤ p.2 ∧ p.2 ≤ m ∧ (∀ (k : Nat) x, U[k]? = some x → a + k < p.1 → ltT v x = false) ∧ (∀ (k : Nat) x, U[k]? = some x → p.2 ≤ a + k → ltT v x = true)})
    (fun s => ⟨[(14, int s.1.1), (15, int s.1.2), (0, .osl 0 4 0 n), (2, int m), (4, .v (.func (.func 44) #[] #[]))], [(0, some ⟨81, rowC trow L⟩)], 5000⟩) (fun s => s.1.2 - s.1.1) id
    ⟨(a, m), Nat.le_refl _, by omega, Nat.le_refl _, fun k v _ h => by omega, fun k v hk h => by have := (List.getElem?_eq_some_iff.1 hk).1; omega⟩ (by rw [hN]; kernel_rfl) ?_ ?_
  · simp only [go_sem, ↓reduceIte, hF]
    exact fun b g h => by have := hF2 b g h; omega
  · rintro ⟨⟨i, j⟩, g1, g2, g3, g4, g5⟩
    simp only at g1 g2 g3 g4 g5
    by_cases hi : i < j
    · have hij : (i + j) / 2 < j ∧ i ≤ (i + j) / 2 := by omega
      have e1 : IntKind.i64.wrap ((i : Int) + j) = ((i + j : Nat) : Int) := by rw [wrap_id] <;> omega
      have e2 : IntKind.u64.wrap ((i + j : Nat) : Int) = ((i + j : Nat) : Int) := by rw [wrap_u] <;> omega
      have e3 := half_n (i + j)
      generalize hqq : (i + j) / 2 = q at *
      have e4 : IntKind.i64.wrap (q : Int) = (q : Int) := by rw [wrap_id] <;> omega
      have e5 : IntKind.i64.wrap ((q : Int) + 1) = ((q + 1 : Nat) : Int) := by rw [wrap_id] <;> omega
      obtain ⟨k, hk⟩ : ∃ k, q = a + k := ⟨q - a, by omega⟩
      have hk2 : k < U.length := by omega
      have hx : U[k]? = some U[k] := List.getElem?_eq_getElem hk2
      have hpx : True := hU _ (List.getElem_mem hk2)
      have hLq := hLu k _ hx
      rw [← hk] at hLq
      generalize U[k] = x at *
      have r1 := rowT_some hLv
      have r2 := rowT_some hLq
      have hqn : q < n := by omega
      have hmn : m < n := by omega
      have hlr : (rowC trow L).length = n * 4 := by rw [rowT_len, hlen]
      (try ((try (revert K;refine bK ?_));refine' run (I e1 (I e2 (I e3 (I e4 (I e5 (I r1 (I r2 (I hlr (I (eq_true hi) (I hne2 (I hqn hmn))))))))))) ?_;(repeat' first|exact True.intro|refine Lv.mk ?_ ?_|(refine oK ?_;intro K hK)|intro hq);all_goals refine Lf.mk ?_))
      (refine callW cl44 (aheadT_f v x) (by simp) ?_)
      cases hlt : ltT v x
      · have d1 : decide (aheadT v x < 0) = false := by rw [ahead_lt]; exact hlt
        (try ((try (revert K;refine bK ?_));refine' run (I e1 (I e2 (I e3 (I e4 (I e5 (I r1 (I r2 (I hlr (I hne2 (I d1 (I hqn hmn))))))))))) ?_;(repeat' first|exact True.intro|refine Lv.mk ?_ ?_|(refine oK ?_;intro K hK)|intro hq);all_goals refine Lf.mk ?_))
        refine ⟨⟨(q + 1, j), by show a ≤ q + 1; omega, by show q + 1 ≤ j; omega, g3, fun k' v' hk' h' => ?_, g5⟩, id, ?_, by show j - (q + 1) < j - i; omega⟩
        · have h' : a + k' < q + 1 := h'
          exact (sw_ltT).ntr _ _ _ (srt_at (sw_ltT) sU hk' hx (by omega)) hlt
        · simp only [go_sem, ↓reduceIte, hF]
          exact fun b g h => by have := hF2 b g h; omega
      · have d1 : decide (aheadT v x < 0) = true := by rw [ahead_lt]; exact hlt
        (try ((try (revert K;refine bK ?_));refine' run (I e1 (I e2 (I e3 (I e4 (I e5 (I r1 (I r2 (I hlr (I hne2 (I d1 (I hqn hmn))))))))))) ?_;(repeat' first|exact True.intro|refine Lv.mk ?_ ?_|(refine oK ?_;intro K hK)|intro hq);all_goals refine Lf.mk ?_))
        refine ⟨⟨(i, q), g1, hij.2, by show q ≤ _; omega, g4, fun k' v' hk' h' => ?_⟩, id, ?_, by show q - i < j - i; omega⟩
        · have h' : q ≤ a + k' := h'
          exact (sw_ltT).lt_of hlt (srt_at (sw_ltT) sU hx hk' (by omega))
        · simp only [go_sem, ↓reduceIte, hF]
          exact fun b g h => by have := hF2 b g h; omega
    · obtain rfl : i = j := by omega
      have f1 := hfin i g1 g3
      obtain ⟨V1, hV1⟩ : ∃ V1, V1 = U.take (i - a) := ⟨_, rfl⟩
      obtain ⟨V2, hV2⟩ : ∃ V2, V2 = U.drop (i - a) := ⟨_, rfl⟩
      rw [← hV1, ← hV2] at f1
      have hVe : U = V1 ++ V2 := by rw [hV1, hV2, List.take_append_drop]
      have hV1l : V1.length = i - a := by rw [hV1, List.length_take]; omega
      have k1 : ∀ x, x ∈ V1 → ltT v x = false := fun v hv => by
        obtain ⟨k, hk, rfl⟩ := List.mem_iff_getElem.1 hv
        exact g4 k _ (by rw [hVe, List.getElem?_append_left hk, List.getElem?_eq_getElem hk]) (by omega)
      have k2 : ∀ x, x ∈ V2 → ltT v x = true := fun v hv => by
        obtain ⟨k, hk, rfl⟩ := List.mem_iff_getElem.1 hv
        exact g5 (V1.length + k) _ (by rw [hVe, List.getElem?_append_right (by omega), Nat.add_sub_cancel_left, List.getElem?_eq_getElem hk]) (by omega)
      have hres := mrg_last k1 k2
      rw [← hVe] at hres
      have hVl := congrArg List.length hVe
      rw [List.length_append] at hVl
      (try ((try (revert K;refine bK ?_));refine' run trivial ?_;(repeat' first|exact True.intro|refine Lv.mk ?_ ?_|(refine oK ?_;intro K hK)|intro hq);all_goals refine Lf.mk ?_))
      refine loopW mixed (σ := {p : List Stp × List Stp // p.1 ++ p.2 = V2}) (fun s => ⟨[(17, int (i + s.1.1.length : Nat)), (0, .osl 0 4 0 n), (14, int i)], [(0, some ⟨81, rowC trow (X ++ (V1 ++ (s.1.1 ++ (v :: (s.1.2 ++ Y)))))⟩)], 9000⟩) (fun s => s.1.1.length) id ⟨(V2, []), by simp⟩ (by rw [hN]; kernel_rfl) ?_ ?_
      · have hmi : i + V2.length = m := by omega
        simp only [go_sem, ↓reduceIte, hF, hmi]
        rw [f1]
        exact ⟨rfl, fun b g h => by have := hF2 b g h; omega⟩
      · rintro ⟨⟨P, Q⟩, q1⟩
        simp only at q1
        have q1l : P.length + Q.length = V2.length := by rw [← q1, List.length_append]
        rcases List.eq_nil_or_concat P with hP | ⟨P', x, hP⟩
        · have c2 : decide ((i : Int) < ((i + P.length : Nat) : Int)) = false := by
            rw [hP]; simp
          rw [hP, List.nil_append] at q1
          (try ((try (revert K;refine bK ?_));refine' run c2 ?_;(repeat' first|exact True.intro|refine Lv.mk ?_ ?_|(refine oK ?_;intro K hK)|intro hq);all_goals refine Lf.mk ?_))
          rw [hres, hP, q1]
          simp
        · rw [List.concat_eq_append] at hP
          have hPl : P.length = P'.length + 1 := by rw [hP]; simp
          have c2 : decide ((i : Int) < ((i + P.length : Nat) : Int)) = true := by simp; omega
          have e6 : IntKind.i64.wrap (((i + P.length : Nat) : Int) - 1) = ((i + P'.length : Nat) : Int) := by rw [wrap_id] <;> omega
          have hLe : X ++ (V1 ++ (P ++ (v :: (Q ++ Y)))) = (X ++ V1 ++ P') ++ x :: v :: (Q ++ Y) := by rw [hP]; simp
          have hLx : (X ++ (V1 ++ (P ++ (v :: (Q ++ Y)))))[i + P.length]? = some v := by
            rw [hLe, show (X ++ V1 ++ P') ++ x :: v :: (Q ++ Y) = (X ++ V1 ++ P' ++ [x]) ++ v :: (Q ++ Y) by simp]; exact at_mid _ _ _ _ (by simp; omega)
          have hLp : (X ++ (V1 ++ (P ++ (v :: (Q ++ Y)))))[i + P'.length]? = some x := by
            rw [hLe]; exact at_mid _ _ _ _ (by simp; omega)
          have hLn : (X ++ (V1 ++ (P ++ (v :: (Q ++ Y))))).length = n := by
            simp only [List.length_append, List.length_cons]; omega
          have hst := set_pair (X ++ V1 ++ P') (Q ++ Y) x v (i + P.length) (i + P'.length) (by simp; omega) (by simp; omega)
          rw [← hLe] at hst
          have hz := rowT_nz (l := X ++ (V1 ++ (P ++ (v :: (Q ++ Y))))) (by omega)
          generalize X ++ (V1 ++ (P ++ (v :: (Q ++ Y)))) = M at *
          have r1 := rowT_some hLx
          have r2 := rowT_some hLp
          have hn1 : (rowC trow M).length = n * 4 := by rw [rowT_len, hLn]
          have hn2 : (rowC trow (M.set (i + P.length) x)).length = n * 4 := by rw [rowT_len, List.length_set, hLn]
          have b1 : i + P.length < n := by omega
          have b2 : i + P'.length < n := by omega
          have s1 := rowT_put M (i + P.length) x (by omega)
          have s2 := rowT_put (M.set (i + P.length) x) (i + P'.length) v (by rw [List.length_set]; omega)
          rw [hst] at s2
          (try ((try (revert K;refine bK ?_));refine' run (I c2 (I e6 (I r1 (I r2 (I hn1 (I hn2 (I hz (I s1 (I s2 (I b1 b2)))))))))) ?_;(repeat' first|exact True.intro|refine Lv.mk ?_ ?_|(refine oK ?_;intro K hK)|intro hq);all_goals refine Lf.mk ?_))
          refine ⟨⟨(P', x :: Q), by rw [← q1, hP]; simp⟩, id, ?_, by show P'.length < P.length; omega⟩
          simp only [go_sem, ↓reduceIte, hF]
          refine ⟨?_, fun b g h => by have := hF2 b g h; omega⟩
          simp
end Go.Proofs.YtjplhfmakghabaaGreat.V
