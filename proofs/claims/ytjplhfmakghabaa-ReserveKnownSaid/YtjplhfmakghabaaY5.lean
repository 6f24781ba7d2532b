/- slices.SortStableFunc at steps: symMerge. -/
-- STEPS: new
import Derived.Test.YtjplhfmakghabaaY3
set_option linter.unusedSimpArgs false
set_option linter.unusedVariables false
namespace Go.Proofs.Ytjplhfmakghabaa.V
open Go.RowKit
set_option maxRecDepth 100000

theorem symMerge1_fT (X V Y : List Stp) (u : Stp) (hl : (X ++ (u :: (V ++ Y))).length ≤ 100000) (hu : True) (hV : ∀ x, x ∈ V → True) (sV : Srt (ltT) V) :
    FunB Try.prog 94 [(0, ⟨74, rowC trow (X ++ (u :: (V ++ Y)))⟩)] [.osl 0 4 0 (X ++ (u :: (V ++ Y))).length, int X.length, int (X.length + 1 : Nat), int (X.length + 1 + V.length : Nat), .v (.func (.func 44) #[] #[])] (.tup []) [(0, some ⟨74, rowC trow (X ++ (mrg (ltT) [u] V ++ Y))⟩)] := by
  have hne2 := rowT_nz (l := X ++ (u :: (V ++ Y))) (by simp; omega)
  have hlen : (X ++ (u :: (V ++ Y))).length = X.length + 1 + V.length + Y.length := by simp; omega
  have hLu : (X ++ (u :: (V ++ Y)))[X.length]? = some u := at_mid _ _ _ _ rfl
  have hLv : ∀ k v, V[k]? = some v → (X ++ (u :: (V ++ Y)))[X.length + 1 + k]? = some v := fun k v hk => by
    have := at_in (X := X ++ [u]) (Y := Y) (i := X.length + 1 + k) hk (by simp)
    simpa using this
  have hfin : ∀ i, X.length + 1 ≤ i → i ≤ X.length + 1 + V.length → X ++ (u :: (V ++ Y)) = X ++ ([] ++ (u :: (V.take (i - (X.length + 1)) ++ (V.drop (i - (X.length + 1)) ++ Y)))) := fun i _ _ => by
    rw [← List.append_assoc (V.take _), List.take_append_drop]; rfl
  rw [hlen] at hl ⊢
  generalize hn : X.length + 1 + V.length + Y.length = n at *
  generalize hLL : X ++ (u :: (V ++ Y)) = L at *
  generalize ha : X.length = a at *
  refine fun_WB 1 mixed Try.func94 rfl (Nat.le_of_ble_eq_true rfl) (by kernel_rfl) (by simp [go_sem, hne2, rowT_nms']) fun cx hN hR hF hL => ?_; apply args_kb; (case hA => (simp only [go_sem, ↓reduceIte]; rfl)); (case hB => (simp only [go_sem, ↓reduceIte]; rfl))
  have hF2 : ∀ b g, cx.F b = some g → b < 3000 := fun b g h => by
    have := hF b g h
    simp [inl] at this
    omega
  have w1 : IntKind.i64.wrap (((a + 1 : Nat) : Int) - a) = 1 := by rw [wrap_id] <;> omega
  (with_reducible repeat' (first|exact trivial|(apply byE;simp only [go_sem, ↓reduceIte, w1, Int.reduceEq];try rfl)|apply Aa|apply As|apply Au|apply Av|apply Aj|apply At|apply Aw|apply Ab|apply Ac|apply Ad|apply Ae|apply Af|apply Ag|apply Ah|apply Ai|apply Ak|apply Al|((first|apply An|apply Ao);(case hs=>with_unfolding_all rfl))|apply Am|apply Ap|apply Aq|apply Ar|apply Ax|apply Ay|apply Az|apply Ba|apply Bb|apply Bc|apply Bd|apply Be|apply Ca|apply Cb|apply Cc|apply Cd|apply Ce|apply Cf|apply Cg|apply Ch|apply Ci|apply Bf|apply Cj|apply Ck|apply Cl|apply Cm|apply Cn|apply Co|apply Cp|(apply byR;with_unfolding_all rfl)|((first|apply byKt|apply byKs);kernel_rfl)|(apply byL;simp only [econs,List.map_cons,List.map_nil,List.cons_append,List.nil_append,OpS.nm,OpS.reads,OpS.turns,Nat.reduceAdd];try with_unfolding_all rfl)|(apply byG;intro hg;try simp only [hg])|(apply byQ;intro hq;try simp only [hqs] at hq;try (exfalso;omega))|(apply byI;intro K hK)|(apply byH;repeat (first|exact dst_z rfl|apply dst_s))|(apply byN;unfold NapOK;kernel_rfl)|(apply byD;first|(simp;done)|(simp [go_sem];done))|(refine hK _ _ ?_;clear hK;clear K)|omega|contradiction))
  refine loopW mixed (σ := {p : Nat × Nat // a + 1 ≤ p.1 ∧ p.1 ≤ p.2 ∧ p.2 ≤ a + 1 + V.length ∧ (∀ (k : Nat) v, V[k]? = some v → a + 1 + k < p.1 → ltT v u = true) ∧ (∀ (k : Nat) v, V[k]? = some v → p.2 ≤ a + 1 + k → ltT v u = false)})
    (fun s => ⟨[(10, int s.1.1), (11, int s.1.2), (0, .osl 0 4 0 n), (1, int a), (4, .v (.func (.func 44) #[] #[]))], [(0, some ⟨74, rowC trow L⟩)], 4000⟩) (fun s => s.1.2 - s.1.1) id
    ⟨(a + 1, a + 1 + V.length), Nat.le_refl _, by omega, Nat.le_refl _, fun k v _ h => by omega, fun k v hk h => by have := (List.getElem?_eq_some_iff.1 hk).1; omega⟩ (by rw [hN]; kernel_rfl) ?_ ?_
  · simp only [go_sem, ↓reduceIte, hF]
    exact fun b g h => by have := hF2 b g h; omega
  · rintro ⟨⟨i, j⟩, g1, g2, g3, g4, g5⟩
    simp only at g1 g2 g3 g4 g5
    by_cases hi : i < j
    · have hij : (i + j) / 2 < j ∧ i ≤ (i + j) / 2 := by omega
      have e1 : IntKind.i64.wrap ((i : Int) + j) = ((i + j : Nat) : Int) := by rw [wrap_id] <;> omega
      have e2 : IntKind.u64.wrap ((i + j : Nat) : Int) = ((i + j : Nat) : Int) := by rw [wrap_u] <;> omega
      have e3 := half_n (i + j)
      generalize hm : (i + j) / 2 = q at *
      have e4 : IntKind.i64.wrap (q : Int) = (q : Int) := by rw [wrap_id] <;> omega
      have e5 : IntKind.i64.wrap ((q : Int) + 1) = ((q + 1 : Nat) : Int) := by rw [wrap_id] <;> omega
      obtain ⟨k, hk⟩ : ∃ k, q = a + 1 + k := ⟨q - (a + 1), by omega⟩
      have hk2 : k < V.length := by omega
      have hv : V[k]? = some V[k] := List.getElem?_eq_getElem hk2
      have hpv : True := hV _ (List.getElem_mem hk2)
      have hLq := hLv k _ hv
      rw [← hk] at hLq
      generalize V[k] = v at *
      have r1 := rowT_some hLu
      have r2 := rowT_some hLq
      have hqn : q < n := by omega
      have han : a < n := by omega
      have hlr : (rowC trow L).length = n * 4 := by rw [rowT_len, hlen]
      (with_reducible repeat' (first|exact trivial|(apply byE;simp only [go_sem, ↓reduceIte, e1, e2, e3, e4, e5, r1, r2, hlr, eq_true hi, hne2, hqn, han];try rfl)|apply Aa|apply As|apply Au|apply Av|apply Aj|apply At|apply Aw|apply Ab|apply Ac|apply Ad|apply Ae|apply Af|apply Ag|apply Ah|apply Ai|apply Ak|apply Al|((first|apply An|apply Ao);(case hs=>with_unfolding_all rfl))|apply Am|apply Ap|apply Aq|apply Ar|apply Ax|apply Ay|apply Az|apply Ba|apply Bb|apply Bc|apply Bd|apply Be|apply Ca|apply Cb|apply Cc|apply Cd|apply Ce|apply Cf|apply Cg|apply Ch|apply Ci|apply Bf|apply Cj|apply Ck|apply Cl|apply Cm|apply Cn|apply Co|apply Cp|(apply byR;with_unfolding_all rfl)|((first|apply byKt|apply byKs);kernel_rfl)|(apply byL;simp only [econs,List.map_cons,List.map_nil,List.cons_append,List.nil_append,OpS.nm,OpS.reads,OpS.turns,Nat.reduceAdd];try with_unfolding_all rfl)|(apply byG;intro hg;try simp only [hg])|(apply byQ;intro hq;try simp only [hqs] at hq;try (exfalso;omega))|(apply byI;intro K hK)|(apply byH;repeat (first|exact dst_z rfl|apply dst_s))|(apply byN;unfold NapOK;kernel_rfl)|(apply byD;first|(simp;done)|(simp [go_sem];done))|(refine hK _ _ ?_;clear hK;clear K)|omega|contradiction))
      (refine callW cl44 (aheadT_f v u) (by simp) ?_)
      cases hlt : ltT v u
      · have d1 : decide (aheadT v u < 0) = false := by rw [ahead_lt]; exact hlt
        (with_reducible repeat' (first|exact trivial|(apply byE;simp only [go_sem, ↓reduceIte, e1, e2, e3, e4, e5, r1, r2, hlr, hne2, d1, hqn, han];try rfl)|apply Aa|apply As|apply Au|apply Av|apply Aj|apply At|apply Aw|apply Ab|apply Ac|apply Ad|apply Ae|apply Af|apply Ag|apply Ah|apply Ai|apply Ak|apply Al|((first|apply An|apply Ao);(case hs=>with_unfolding_all rfl))|apply Am|apply Ap|apply Aq|apply Ar|apply Ax|apply Ay|apply Az|apply Ba|apply Bb|apply Bc|apply Bd|apply Be|apply Ca|apply Cb|apply Cc|apply Cd|apply Ce|apply Cf|apply Cg|apply Ch|apply Ci|apply Bf|apply Cj|apply Ck|apply Cl|apply Cm|apply Cn|apply Co|apply Cp|(apply byR;with_unfolding_all rfl)|((first|apply byKt|apply byKs);kernel_rfl)|(apply byL;simp only [econs,List.map_cons,List.map_nil,List.cons_append,List.nil_append,OpS.nm,OpS.reads,OpS.turns,Nat.reduceAdd];try with_unfolding_all rfl)|(apply byG;intro hg;try simp only [hg])|(apply byQ;intro hq;try simp only [hqs] at hq;try (exfalso;omega))|(apply byI;intro K hK)|(apply byH;repeat (first|exact dst_z rfl|apply dst_s))|(apply byN;unfold NapOK;kernel_rfl)|(apply byD;first|(simp;done)|(simp [go_sem];done))|(refine hK _ _ ?_;clear hK;clear K)|omega|contradiction))
        refine ⟨⟨(i, q), g1, hij.2, by show q ≤ _; omega, g4, fun k' v' hk' h' => ?_⟩, id, ?_, by show q - i < j - i; omega⟩
        · have h' : q ≤ a + 1 + k' := h'
          refine srt_le (sw_ltT) sV hv hk' (by omega) hlt
        · simp only [go_sem, ↓reduceIte, hF]
          exact fun b g h => by have := hF2 b g h; omega
      · have d1 : decide (aheadT v u < 0) = true := by rw [ahead_lt]; exact hlt
        (with_reducible repeat' (first|exact trivial|(apply byE;simp only [go_sem, ↓reduceIte, e1, e2, e3, e4, e5, r1, r2, hlr, hne2, d1, hqn, han];try rfl)|apply Aa|apply As|apply Au|apply Av|apply Aj|apply At|apply Aw|apply Ab|apply Ac|apply Ad|apply Ae|apply Af|apply Ag|apply Ah|apply Ai|apply Ak|apply Al|((first|apply An|apply Ao);(case hs=>with_unfolding_all rfl))|apply Am|apply Ap|apply Aq|apply Ar|apply Ax|apply Ay|apply Az|apply Ba|apply Bb|apply Bc|apply Bd|apply Be|apply Ca|apply Cb|apply Cc|apply Cd|apply Ce|apply Cf|apply Cg|apply Ch|apply Ci|apply Bf|apply Cj|apply Ck|apply Cl|apply Cm|apply Cn|apply Co|apply Cp|(apply byR;with_unfolding_all rfl)|((first|apply byKt|apply byKs);kernel_rfl)|(apply byL;simp only [econs,List.map_cons,List.map_nil,List.cons_append,List.nil_append,OpS.nm,OpS.reads,OpS.turns,Nat.reduceAdd];try with_unfolding_all rfl)|(apply byG;intro hg;try simp only [hg])|(apply byQ;intro hq;try simp only [hqs] at hq;try (exfalso;omega))|(apply byI;intro K hK)|(apply byH;repeat (first|exact dst_z rfl|apply dst_s))|(apply byN;unfold NapOK;kernel_rfl)|(apply byD;first|(simp;done)|(simp [go_sem];done))|(refine hK _ _ ?_;clear hK;clear K)|omega|contradiction))
        refine ⟨⟨(q + 1, j), by show a + 1 ≤ q + 1; omega, by show q + 1 ≤ j; omega, g3, fun k' v' hk' h' => ?_, g5⟩, id, ?_, by show j - (q + 1) < j - i; omega⟩
        · have h' : a + 1 + k' < q + 1 := h'
          exact srt_lt (sw_ltT) sV hk' hv (by omega) hlt
        · simp only [go_sem, ↓reduceIte, hF]
          exact fun b g h => by have := hF2 b g h; omega
    · obtain rfl : i = j := by omega
      have f1 := hfin i g1 g3
      obtain ⟨V1, hV1⟩ : ∃ V1, V1 = V.take (i - (a + 1)) := ⟨_, rfl⟩
      obtain ⟨V2, hV2⟩ : ∃ V2, V2 = V.drop (i - (a + 1)) := ⟨_, rfl⟩
      rw [← hV1, ← hV2] at f1
      have hVe : V = V1 ++ V2 := by rw [hV1, hV2, List.take_append_drop]
      have hV1l : V1.length = i - (a + 1) := by rw [hV1, List.length_take]; omega
      have k1 : ∀ v, v ∈ V1 → ltT v u = true := fun v hv => by
        obtain ⟨k, hk, rfl⟩ := List.mem_iff_getElem.1 hv
        exact g4 k _ (by rw [hVe, List.getElem?_append_left hk, List.getElem?_eq_getElem hk]) (by omega)
      have k2 : ∀ v, v ∈ V2 → ltT v u = false := fun v hv => by
        obtain ⟨k, hk, rfl⟩ := List.mem_iff_getElem.1 hv
        exact g5 (V1.length + k) _ (by rw [hVe, List.getElem?_append_right (by omega), Nat.add_sub_cancel_left, List.getElem?_eq_getElem hk]) (by omega)
      have hres := mrg_one k1 k2
      rw [← hVe] at hres
      have w2 : IntKind.i64.wrap ((i : Int) - 1) = ((a + V1.length : Nat) : Int) := by rw [wrap_id] <;> omega
      (with_reducible repeat' (first|exact trivial|(apply byE;simp only [go_sem, ↓reduceIte, w2];try rfl)|apply Aa|apply As|apply Au|apply Av|apply Aj|apply At|apply Aw|apply Ab|apply Ac|apply Ad|apply Ae|apply Af|apply Ag|apply Ah|apply Ai|apply Ak|apply Al|((first|apply An|apply Ao);(case hs=>with_unfolding_all rfl))|apply Am|apply Ap|apply Aq|apply Ar|apply Ax|apply Ay|apply Az|apply Ba|apply Bb|apply Bc|apply Bd|apply Be|apply Ca|apply Cb|apply Cc|apply Cd|apply Ce|apply Cf|apply Cg|apply Ch|apply Ci|apply Bf|apply Cj|apply Ck|apply Cl|apply Cm|apply Cn|apply Co|apply Cp|(apply byR;with_unfolding_all rfl)|((first|apply byKt|apply byKs);kernel_rfl)|(apply byL;simp only [econs,List.map_cons,List.map_nil,List.cons_append,List.nil_append,OpS.nm,OpS.reads,OpS.turns,Nat.reduceAdd];try with_unfolding_all rfl)|(apply byG;intro hg;try simp only [hg])|(apply byQ;intro hq;try simp only [hqs] at hq;try (exfalso;omega))|(apply byI;intro K hK)|(apply byH;repeat (first|exact dst_z rfl|apply dst_s))|(apply byN;unfold NapOK;kernel_rfl)|(apply byD;first|(simp;done)|(simp [go_sem];done))|(refine hK _ _ ?_;clear hK;clear K)|omega|contradiction))
      refine loopW mixed (σ := {p : List Stp × List Stp // p.1 ++ p.2 = V1}) (fun s => ⟨[(13, int (a + s.1.1.length : Nat)), (0, .osl 0 4 0 n), (10, int i)], [(0, some ⟨74, rowC trow (X ++ (s.1.1 ++ (u :: (s.1.2 ++ (V2 ++ Y)))))⟩)], 9000⟩) (fun s => s.1.2.length) id ⟨([], V1), rfl⟩ (by rw [hN]; kernel_rfl) ?_ ?_
      · simp only [go_sem, ↓reduceIte, hF]
        rw [f1]
        exact ⟨rfl, fun b g h => by have := hF2 b g h; omega⟩
      · rintro ⟨⟨P, Q⟩, q1⟩
        simp only at q1
        have q1l : P.length + Q.length = V1.length := by rw [← q1, List.length_append]
        rcases Q with _ | ⟨x, Q⟩
        · have c2 : decide (((a + P.length : Nat) : Int) < ((a + V1.length : Nat) : Int)) = false := by
            simp at q1l; simp; omega
          rw [List.append_nil] at q1
          subst q1
          (with_reducible repeat' (first|exact trivial|(apply byE;simp only [go_sem, ↓reduceIte, w2, c2];try rfl)|apply Aa|apply As|apply Au|apply Av|apply Aj|apply At|apply Aw|apply Ab|apply Ac|apply Ad|apply Ae|apply Af|apply Ag|apply Ah|apply Ai|apply Ak|apply Al|((first|apply An|apply Ao);(case hs=>with_unfolding_all rfl))|apply Am|apply Ap|apply Aq|apply Ar|apply Ax|apply Ay|apply Az|apply Ba|apply Bb|apply Bc|apply Bd|apply Be|apply Ca|apply Cb|apply Cc|apply Cd|apply Ce|apply Cf|apply Cg|apply Ch|apply Ci|apply Bf|apply Cj|apply Ck|apply Cl|apply Cm|apply Cn|apply Co|apply Cp|(apply byR;with_unfolding_all rfl)|((first|apply byKt|apply byKs);kernel_rfl)|(apply byL;simp only [econs,List.map_cons,List.map_nil,List.cons_append,List.nil_append,OpS.nm,OpS.reads,OpS.turns,Nat.reduceAdd];try with_unfolding_all rfl)|(apply byG;intro hg;try simp only [hg])|(apply byQ;intro hq;try simp only [hqs] at hq;try (exfalso;omega))|(apply byI;intro K hK)|(apply byH;repeat (first|exact dst_z rfl|apply dst_s))|(apply byN;unfold NapOK;kernel_rfl)|(apply byD;first|(simp;done)|(simp [go_sem];done))|(refine hK _ _ ?_;clear hK;clear K)|omega|contradiction))
          rw [hres]
          simp
        · have q2l : P.length + Q.length + 1 = V1.length := by simp at q1l; omega
          have c2 : decide (((a + P.length : Nat) : Int) < ((a + V1.length : Nat) : Int)) = true := by simp; omega
          have e6 : IntKind.i64.wrap (((a + P.length : Nat) : Int) + 1) = ((a + (P.length + 1) : Nat) : Int) := by rw [wrap_id] <;> omega
          have hVl := congrArg List.length hVe
          rw [List.length_append] at hVl
          have hLe : X ++ (P ++ (u :: (x :: Q ++ (V2 ++ Y)))) = (X ++ P) ++ u :: x :: (Q ++ (V2 ++ Y)) := by simp
          have hLx : (X ++ (P ++ (u :: (x :: Q ++ (V2 ++ Y)))))[a + P.length]? = some u := by
            rw [hLe]; exact at_mid _ _ _ _ (by rw [List.length_append, ha])
          have hLp : (X ++ (P ++ (u :: (x :: Q ++ (V2 ++ Y)))))[a + (P.length + 1)]? = some x := by
            rw [hLe, show (X ++ P) ++ u :: x :: (Q ++ (V2 ++ Y)) = (X ++ P ++ [u]) ++ x :: (Q ++ (V2 ++ Y)) by simp]; exact at_mid _ _ _ _ (by simp; omega)
          have hLn : (X ++ (P ++ (u :: (x :: Q ++ (V2 ++ Y))))).length = n := by
            simp only [List.length_append, List.length_cons]; omega
          have hst := set_pair2 (X ++ P) (Q ++ (V2 ++ Y)) u x (a + P.length) (a + (P.length + 1)) (by rw [List.length_append]; omega) (by rw [List.length_append]; omega)
          rw [← hLe] at hst
          have hz := rowT_nz (l := X ++ (P ++ (u :: (x :: Q ++ (V2 ++ Y))))) (by omega)
          generalize X ++ (P ++ (u :: (x :: Q ++ (V2 ++ Y)))) = M at *
          have r1 := rowT_some hLx
          have r2 := rowT_some hLp
          have hn1 : (rowC trow M).length = n * 4 := by rw [rowT_len, hLn]
          have hn2 : (rowC trow (M.set (a + P.length) x)).length = n * 4 := by rw [rowT_len, List.length_set, hLn]
          have b1 : a + P.length < n := by omega
          have b2 : a + (P.length + 1) < n := by omega
          have s1 := rowT_put M (a + P.length) x (by omega)
          have s2 := rowT_put (M.set (a + P.length) x) (a + (P.length + 1)) u (by rw [List.length_set]; omega)
          rw [hst] at s2
          (with_reducible repeat' (first|exact trivial|(apply byE;simp only [go_sem, ↓reduceIte, w2, c2, e6, r1, r2, hn1, hn2, hz, s1, s2, b1, b2];try rfl)|apply Aa|apply As|apply Au|apply Av|apply Aj|apply At|apply Aw|apply Ab|apply Ac|apply Ad|apply Ae|apply Af|apply Ag|apply Ah|apply Ai|apply Ak|apply Al|((first|apply An|apply Ao);(case hs=>with_unfolding_all rfl))|apply Am|apply Ap|apply Aq|apply Ar|apply Ax|apply Ay|apply Az|apply Ba|apply Bb|apply Bc|apply Bd|apply Be|apply Ca|apply Cb|apply Cc|apply Cd|apply Ce|apply Cf|apply Cg|apply Ch|apply Ci|apply Bf|apply Cj|apply Ck|apply Cl|apply Cm|apply Cn|apply Co|apply Cp|(apply byR;with_unfolding_all rfl)|((first|apply byKt|apply byKs);kernel_rfl)|(apply byL;simp only [econs,List.map_cons,List.map_nil,List.cons_append,List.nil_append,OpS.nm,OpS.reads,OpS.turns,Nat.reduceAdd];try with_unfolding_all rfl)|(apply byG;intro hg;try simp only [hg])|(apply byQ;intro hq;try simp only [hqs] at hq;try (exfalso;omega))|(apply byI;intro K hK)|(apply byH;repeat (first|exact dst_z rfl|apply dst_s))|(apply byN;unfold NapOK;kernel_rfl)|(apply byD;first|(simp;done)|(simp [go_sem];done))|(refine hK _ _ ?_;clear hK;clear K)|omega|contradiction))
          refine ⟨⟨(P ++ [x], Q), by rw [← q1]; simp⟩, id, ?_, by show Q.length < (x :: Q).length; simp⟩
          have hlp : (P ++ [x]).length = P.length + 1 := by simp
          simp only [go_sem, ↓reduceIte, hF, hlp]
          refine ⟨?_, fun b g h => by have := hF2 b g h; omega⟩
          simp
end Go.Proofs.Ytjplhfmakghabaa.V
