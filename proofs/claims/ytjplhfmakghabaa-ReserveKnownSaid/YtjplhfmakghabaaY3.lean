/- slices.SortStableFunc at steps: the comparison; insertionSort. -/
-- STEPS: new
import Derived.Test.YtjplhfmakghabaaY2
set_option linter.unusedSimpArgs false
set_option linter.unusedVariables false
namespace Go.Proofs.Ytjplhfmakghabaa.V
open Go.RowKit
set_option maxRecDepth 100000

theorem insertion_fT (X S Y : List Stp) (hl : (X ++ (S ++ Y)).length ≤ 100000) (h0 : 0 < (X ++ (S ++ Y)).length) (hS : ∀ x, x ∈ S → True) :
    FunB Try.prog 93 [(0, ⟨74, rowC trow (X ++ (S ++ Y))⟩)] [.osl 0 4 0 (X ++ (S ++ Y)).length, int X.length, int (X.length + S.length : Nat), .v (.func (.func 44) #[] #[])] (.tup []) [(0, some ⟨74, rowC trow (X ++ (isort (ltT) S ++ Y))⟩)] := by
  have hne2 := rowT_nz h0
  have hlen : (X ++ (S ++ Y)).length = X.length + S.length + Y.length := by simp; omega
  rw [hlen] at hl
  generalize hn : (X ++ (S ++ Y)).length = n at *
  generalize ha : X.length = a at *
  have hsl : (isort (ltT) S).length = S.length := isort_len _ _
  refine fun_WB 1 mixed Try.func93 rfl (Nat.le_of_ble_eq_true rfl) (by kernel_rfl) (by simp [go_sem, hne2, rowT_nms']) fun cx hN hR hF hL => ?_; apply args_kb; (case hA => (simp only [go_sem, ↓reduceIte]; rfl)); (case hB => (simp only [go_sem, ↓reduceIte]; rfl))
  have hF2 : ∀ b g, cx.F b = some g → b < 3000 := fun b g h => by
    have := hF b g h
    simp [inl] at this
    omega
  have w1 : IntKind.i64.wrap ((a : Int) + 1) = ((a + 1 : Nat) : Int) := by rw [wrap_id] <;> omega
  (with_reducible repeat' (first|exact trivial|(apply byE;simp only [go_sem, ↓reduceIte, w1];try rfl)|apply Aa|apply As|apply Au|apply Av|apply Aj|apply At|apply Aw|apply Ab|apply Ac|apply Ad|apply Ae|apply Af|apply Ag|apply Ah|apply Ai|apply Ak|apply Al|((first|apply An|apply Ao);(case hs=>with_unfolding_all rfl))|apply Am|apply Ap|apply Aq|apply Ar|apply Ax|apply Ay|apply Az|apply Ba|apply Bb|apply Bc|apply Bd|apply Be|apply Ca|apply Cb|apply Cc|apply Cd|apply Ce|apply Cf|apply Cg|apply Ch|apply Ci|apply Bf|apply Cj|apply Ck|apply Cl|apply Cm|apply Cn|apply Co|apply Cp|(apply byR;with_unfolding_all rfl)|((first|apply byKt|apply byKs);kernel_rfl)|(apply byL;simp only [econs,List.map_cons,List.map_nil,List.cons_append,List.nil_append,OpS.nm,OpS.reads,OpS.turns,Nat.reduceAdd];try with_unfolding_all rfl)|(apply byG;intro hg;try simp only [hg])|(apply byQ;intro hq;try simp only [hqs] at hq;try (exfalso;omega))|(apply byI;intro K hK)|(apply byH;repeat (first|exact dst_z rfl|apply dst_s))|(apply byN;unfold NapOK;kernel_rfl)|(apply byD;first|(simp;done)|(simp [go_sem];done))|(refine hK _ _ ?_;clear hK;clear K)|omega|contradiction))
  refine loopW mixed (σ := {i : Nat // i ≤ S.length ∨ i = 1}) (fun s => ⟨[(8, int (a + s.1 : Nat)), (0, .osl 0 4 0 n), (1, int a), (2, int (a + S.length : Nat)), (3, .v (.func (.func 44) #[] #[]))], [(0, some ⟨74, rowC trow (X ++ (isort (ltT) (S.take s.1) ++ (S.drop s.1 ++ Y)))⟩)], 3000⟩) (fun s => S.length - s.1) id ⟨1, .inr rfl⟩ (by rw [hN]; kernel_rfl) ?_ ?_
  · simp only [go_sem, ↓reduceIte, hF]
    refine ⟨?_, hF2⟩
    rcases S with _ | ⟨s, S⟩
    · rfl
    · simp [isort, isortR, insR]
  · rintro ⟨i, g1⟩
    by_cases hi : i < S.length
    · have c1 : decide (((a + i : Nat) : Int) < ((a + S.length : Nat) : Int)) = true := by simp; omega
      (with_reducible repeat' (first|exact trivial|(apply byE;simp only [go_sem, ↓reduceIte, c1];try rfl)|apply Aa|apply As|apply Au|apply Av|apply Aj|apply At|apply Aw|apply Ab|apply Ac|apply Ad|apply Ae|apply Af|apply Ag|apply Ah|apply Ai|apply Ak|apply Al|((first|apply An|apply Ao);(case hs=>with_unfolding_all rfl))|apply Am|apply Ap|apply Aq|apply Ar|apply Ax|apply Ay|apply Az|apply Ba|apply Bb|apply Bc|apply Bd|apply Be|apply Ca|apply Cb|apply Cc|apply Cd|apply Ce|apply Cf|apply Cg|apply Ch|apply Ci|apply Bf|apply Cj|apply Ck|apply Cl|apply Cm|apply Cn|apply Co|apply Cp|(apply byR;with_unfolding_all rfl)|((first|apply byKt|apply byKs);kernel_rfl)|(apply byL;simp only [econs,List.map_cons,List.map_nil,List.cons_append,List.nil_append,OpS.nm,OpS.reads,OpS.turns,Nat.reduceAdd];try with_unfolding_all rfl)|(apply byG;intro hg;try simp only [hg])|(apply byQ;intro hq;try simp only [hqs] at hq;try (exfalso;omega))|(apply byI;intro K hK)|(apply byH;repeat (first|exact dst_z rfl|apply dst_s))|(apply byN;unfold NapOK;kernel_rfl)|(apply byD;first|(simp;done)|(simp [go_sem];done))|(refine hK _ _ ?_;clear hK;clear K)|omega|contradiction))
      have hd : S.drop i = S[i] :: S.drop (i + 1) := List.drop_eq_getElem_cons hi
      have hx : True := hS _ (List.getElem_mem hi)
      have htk : S.take (i + 1) = S.take i ++ [S[i]] := List.take_succ_eq_append_getElem hi
      have hacc : (isort (ltT) (S.take i)).length = i := by rw [isort_len, List.length_take]; omega
      have hmem : ∀ y, y ∈ isort (ltT) (S.take i) → True := fun y hy => hS y (List.mem_of_mem_take (isort_mem.1 hy))
      generalize S[i] = x at *
      generalize hR : S.drop (i + 1) ++ Y = R at *
      refine loopW mixed (σ := {p : List Stp × List Stp // p.1 ++ p.2 = isort (ltT) (S.take i) ∧ ∀ q, q ∈ p.2 → ltT x q = true}) (fun s => ⟨[(9, int (a + s.1.1.length : Nat)), (8, int (a + i : Nat)), (0, .osl 0 4 0 n), (1, int a), (2, int (a + S.length : Nat)), (3, .v (.func (.func 44) #[] #[]))], [(0, some ⟨74, rowC trow (X ++ (s.1.1 ++ (x :: (s.1.2 ++ R))))⟩)], 6000⟩) (fun s => s.1.1.length) id ⟨(isort (ltT) (S.take i), []), by simp, by simp⟩ (by rw [hN]; kernel_rfl) ?_ ?_
      · simp only [go_sem, ↓reduceIte, hF]
        rw [hacc, hd, ← hR]
        exact ⟨rfl, rfl, fun b g h => by have := hF2 b g h; omega⟩
      · rintro ⟨⟨P, Q⟩, g2, g3⟩
        simp only at g2 g3
        have g4 : P.length + Q.length = i := by rw [← hacc, ← g2, List.length_append]
        have hRl : R.length + i + 1 = S.length + Y.length := by rw [← hR, List.length_append, List.length_drop]; omega
        have e2 : IntKind.i64.wrap (((a + i : Nat) : Int) + 1) = ((a + (i + 1) : Nat) : Int) := by rw [wrap_id] <;> omega
        rcases List.eq_nil_or_concat P with hP | ⟨P', p, hP⟩
        · have c2 : decide ((a : Int) < ((a + P.length : Nat) : Int)) = false := by rw [hP]; simp
          (with_reducible repeat' (first|exact trivial|(apply byE;simp only [go_sem, ↓reduceIte, c2, e2];try rfl)|apply Aa|apply As|apply Au|apply Av|apply Aj|apply At|apply Aw|apply Ab|apply Ac|apply Ad|apply Ae|apply Af|apply Ag|apply Ah|apply Ai|apply Ak|apply Al|((first|apply An|apply Ao);(case hs=>with_unfolding_all rfl))|apply Am|apply Ap|apply Aq|apply Ar|apply Ax|apply Ay|apply Az|apply Ba|apply Bb|apply Bc|apply Bd|apply Be|apply Ca|apply Cb|apply Cc|apply Cd|apply Ce|apply Cf|apply Cg|apply Ch|apply Ci|apply Bf|apply Cj|apply Ck|apply Cl|apply Cm|apply Cn|apply Co|apply Cp|(apply byR;with_unfolding_all rfl)|((first|apply byKt|apply byKs);kernel_rfl)|(apply byL;simp only [econs,List.map_cons,List.map_nil,List.cons_append,List.nil_append,OpS.nm,OpS.reads,OpS.turns,Nat.reduceAdd];try with_unfolding_all rfl)|(apply byG;intro hg;try simp only [hg])|(apply byQ;intro hq;try simp only [hqs] at hq;try (exfalso;omega))|(apply byI;intro K hK)|(apply byH;repeat (first|exact dst_z rfl|apply dst_s))|(apply byN;unfold NapOK;kernel_rfl)|(apply byD;first|(simp;done)|(simp [go_sem];done))|(refine hK _ _ ?_;clear hK;clear K)|omega|contradiction))
          refine ⟨⟨i + 1, .inl hi⟩, id, ?_, by show S.length - (i + 1) < S.length - i; omega⟩
          have hs := isort_snoc g2 g3 (by rw [hP]; simp)
          rw [← htk] at hs
          simp only [go_sem, ↓reduceIte, hF, hs, hR]
          refine ⟨?_, hF2⟩
          simp
        · rw [List.concat_eq_append] at hP
          have hPl : P.length = P'.length + 1 := by rw [hP]; simp
          have hpm : True := hmem p (by rw [← g2, hP]; simp)
          have c2 : decide ((a : Int) < ((a + P.length : Nat) : Int)) = true := by simp; omega
          have w2 : IntKind.i64.wrap (((a + P.length : Nat) : Int) - 1) = ((a + P'.length : Nat) : Int) := by rw [wrap_id] <;> omega
          have hLe : X ++ (P ++ x :: (Q ++ R)) = (X ++ P') ++ p :: x :: (Q ++ R) := by rw [hP]; simp
          have hLx : (X ++ (P ++ x :: (Q ++ R)))[a + P.length]? = some x := by
            rw [← List.append_assoc]; exact at_mid _ _ _ _ (by rw [List.length_append, ha])
          have hLp : (X ++ (P ++ x :: (Q ++ R)))[a + P'.length]? = some p := by
            rw [hLe]; exact at_mid _ _ _ _ (by rw [List.length_append, ha])
          have hLn : (X ++ (P ++ x :: (Q ++ R))).length = n := by
            simp only [List.length_append, List.length_cons]; omega
          have hst := set_pair (X ++ P') (Q ++ R) p x (a + P.length) (a + P'.length) (by rw [List.length_append]; omega) (by rw [List.length_append]; omega)
          rw [← hLe] at hst
          have hz := rowT_nz (l := X ++ (P ++ x :: (Q ++ R))) (by omega)
          have b1 : a + P.length < n := by omega
          have b2 : a + P'.length < n := by omega
          generalize X ++ (P ++ x :: (Q ++ R)) = L at *
          have r1 := rowT_some hLx
          have r2 := rowT_some hLp
          have hn1 : (rowC trow L).length = n * 4 := by rw [rowT_len, hLn]
          have hn2 : (rowC trow (L.set (a + P.length) p)).length = n * 4 := by rw [rowT_len, List.length_set, hLn]
          have s1 := rowT_put L (a + P.length) p (by omega)
          have s2 := rowT_put (L.set (a + P.length) p) (a + P'.length) x (by rw [List.length_set]; omega)
          rw [hst] at s2
          cases hlt : ltT x p
          · have d1 : decide (aheadT x p < 0) = false := by rw [ahead_lt]; exact hlt
            (with_reducible repeat' (first|exact trivial|(apply byE;simp only [go_sem, ↓reduceIte, c2, e2, w2, r1, r2, hn1, hz, b1, b2];try rfl)|apply Aa|apply As|apply Au|apply Av|apply Aj|apply At|apply Aw|apply Ab|apply Ac|apply Ad|apply Ae|apply Af|apply Ag|apply Ah|apply Ai|apply Ak|apply Al|((first|apply An|apply Ao);(case hs=>with_unfolding_all rfl))|apply Am|apply Ap|apply Aq|apply Ar|apply Ax|apply Ay|apply Az|apply Ba|apply Bb|apply Bc|apply Bd|apply Be|apply Ca|apply Cb|apply Cc|apply Cd|apply Ce|apply Cf|apply Cg|apply Ch|apply Ci|apply Bf|apply Cj|apply Ck|apply Cl|apply Cm|apply Cn|apply Co|apply Cp|(apply byR;with_unfolding_all rfl)|((first|apply byKt|apply byKs);kernel_rfl)|(apply byL;simp only [econs,List.map_cons,List.map_nil,List.cons_append,List.nil_append,OpS.nm,OpS.reads,OpS.turns,Nat.reduceAdd];try with_unfolding_all rfl)|(apply byG;intro hg;try simp only [hg])|(apply byQ;intro hq;try simp only [hqs] at hq;try (exfalso;omega))|(apply byI;intro K hK)|(apply byH;repeat (first|exact dst_z rfl|apply dst_s))|(apply byN;unfold NapOK;kernel_rfl)|(apply byD;first|(simp;done)|(simp [go_sem];done))|(refine hK _ _ ?_;clear hK;clear K)|omega|contradiction))
            · (refine callW cl44 (aheadT_f x p) (by simp) ?_)
              (with_reducible repeat' (first|exact trivial|(apply byE;simp only [go_sem, ↓reduceIte, c2, e2, w2, r1, r2, hn1, hz, d1, b1, b2];try rfl)|apply Aa|apply As|apply Au|apply Av|apply Aj|apply At|apply Aw|apply Ab|apply Ac|apply Ad|apply Ae|apply Af|apply Ag|apply Ah|apply Ai|apply Ak|apply Al|((first|apply An|apply Ao);(case hs=>with_unfolding_all rfl))|apply Am|apply Ap|apply Aq|apply Ar|apply Ax|apply Ay|apply Az|apply Ba|apply Bb|apply Bc|apply Bd|apply Be|apply Ca|apply Cb|apply Cc|apply Cd|apply Ce|apply Cf|apply Cg|apply Ch|apply Ci|apply Bf|apply Cj|apply Ck|apply Cl|apply Cm|apply Cn|apply Co|apply Cp|(apply byR;with_unfolding_all rfl)|((first|apply byKt|apply byKs);kernel_rfl)|(apply byL;simp only [econs,List.map_cons,List.map_nil,List.cons_append,List.nil_append,OpS.nm,OpS.reads,OpS.turns,Nat.reduceAdd];try with_unfolding_all rfl)|(apply byG;intro hg;try simp only [hg])|(apply byQ;intro hq;try simp only [hqs] at hq;try (exfalso;omega))|(apply byI;intro K hK)|(apply byH;repeat (first|exact dst_z rfl|apply dst_s))|(apply byN;unfold NapOK;kernel_rfl)|(apply byD;first|(simp;done)|(simp [go_sem];done))|(refine hK _ _ ?_;clear hK;clear K)|omega|contradiction))
              refine ⟨⟨i + 1, .inl hi⟩, id, ?_, by show S.length - (i + 1) < S.length - i; omega⟩
              have hs := isort_snoc g2 g3 (by
                rw [hP]
                intro z hz
                simp at hz
                subst hz
                exact hlt)
              rw [← htk] at hs
              simp only [go_sem, ↓reduceIte, hF, hs, hR]
              refine ⟨?_, hF2⟩
              rw [hLe, hP]
              simp
          · have d1 : decide (aheadT x p < 0) = true := by rw [ahead_lt]; exact hlt
            (with_reducible repeat' (first|exact trivial|(apply byE;simp only [go_sem, ↓reduceIte, c2, e2, w2, r1, r2, hn1, hz, b1, b2];try rfl)|apply Aa|apply As|apply Au|apply Av|apply Aj|apply At|apply Aw|apply Ab|apply Ac|apply Ad|apply Ae|apply Af|apply Ag|apply Ah|apply Ai|apply Ak|apply Al|((first|apply An|apply Ao);(case hs=>with_unfolding_all rfl))|apply Am|apply Ap|apply Aq|apply Ar|apply Ax|apply Ay|apply Az|apply Ba|apply Bb|apply Bc|apply Bd|apply Be|apply Ca|apply Cb|apply Cc|apply Cd|apply Ce|apply Cf|apply Cg|apply Ch|apply Ci|apply Bf|apply Cj|apply Ck|apply Cl|apply Cm|apply Cn|apply Co|apply Cp|(apply byR;with_unfolding_all rfl)|((first|apply byKt|apply byKs);kernel_rfl)|(apply byL;simp only [econs,List.map_cons,List.map_nil,List.cons_append,List.nil_append,OpS.nm,OpS.reads,OpS.turns,Nat.reduceAdd];try with_unfolding_all rfl)|(apply byG;intro hg;try simp only [hg])|(apply byQ;intro hq;try simp only [hqs] at hq;try (exfalso;omega))|(apply byI;intro K hK)|(apply byH;repeat (first|exact dst_z rfl|apply dst_s))|(apply byN;unfold NapOK;kernel_rfl)|(apply byD;first|(simp;done)|(simp [go_sem];done))|(refine hK _ _ ?_;clear hK;clear K)|omega|contradiction))
            · (refine callW cl44 (aheadT_f x p) (by simp) ?_)
              (with_reducible repeat' (first|exact trivial|(apply byE;simp only [go_sem, ↓reduceIte, c2, e2, w2, r1, r2, hn1, hn2, hz, d1, s1, s2, b1, b2];try rfl)|apply Aa|apply As|apply Au|apply Av|apply Aj|apply At|apply Aw|apply Ab|apply Ac|apply Ad|apply Ae|apply Af|apply Ag|apply Ah|apply Ai|apply Ak|apply Al|((first|apply An|apply Ao);(case hs=>with_unfolding_all rfl))|apply Am|apply Ap|apply Aq|apply Ar|apply Ax|apply Ay|apply Az|apply Ba|apply Bb|apply Bc|apply Bd|apply Be|apply Ca|apply Cb|apply Cc|apply Cd|apply Ce|apply Cf|apply Cg|apply Ch|apply Ci|apply Bf|apply Cj|apply Ck|apply Cl|apply Cm|apply Cn|apply Co|apply Cp|(apply byR;with_unfolding_all rfl)|((first|apply byKt|apply byKs);kernel_rfl)|(apply byL;simp only [econs,List.map_cons,List.map_nil,List.cons_append,List.nil_append,OpS.nm,OpS.reads,OpS.turns,Nat.reduceAdd];try with_unfolding_all rfl)|(apply byG;intro hg;try simp only [hg])|(apply byQ;intro hq;try simp only [hqs] at hq;try (exfalso;omega))|(apply byI;intro K hK)|(apply byH;repeat (first|exact dst_z rfl|apply dst_s))|(apply byN;unfold NapOK;kernel_rfl)|(apply byD;first|(simp;done)|(simp [go_sem];done))|(refine hK _ _ ?_;clear hK;clear K)|omega|contradiction))
              · refine ⟨⟨(P', p :: Q), by rw [← g2, hP]; simp, by
                  intro q hq
                  rcases List.mem_cons.1 hq with rfl | hq
                  · exact hlt
                  · exact g3 q hq⟩, id, ?_, by show P'.length < P.length; omega⟩
                simp only [go_sem, ↓reduceIte, hF]
                refine ⟨?_, fun b g h => by have := hF2 b g h; omega⟩
                simp
    · have c1 : decide (((a + i : Nat) : Int) < ((a + S.length : Nat) : Int)) = false := by simp; omega
      (with_reducible repeat' (first|exact trivial|(apply byE;simp only [go_sem, ↓reduceIte, c1];try rfl)|apply Aa|apply As|apply Au|apply Av|apply Aj|apply At|apply Aw|apply Ab|apply Ac|apply Ad|apply Ae|apply Af|apply Ag|apply Ah|apply Ai|apply Ak|apply Al|((first|apply An|apply Ao);(case hs=>with_unfolding_all rfl))|apply Am|apply Ap|apply Aq|apply Ar|apply Ax|apply Ay|apply Az|apply Ba|apply Bb|apply Bc|apply Bd|apply Be|apply Ca|apply Cb|apply Cc|apply Cd|apply Ce|apply Cf|apply Cg|apply Ch|apply Ci|apply Bf|apply Cj|apply Ck|apply Cl|apply Cm|apply Cn|apply Co|apply Cp|(apply byR;with_unfolding_all rfl)|((first|apply byKt|apply byKs);kernel_rfl)|(apply byL;simp only [econs,List.map_cons,List.map_nil,List.cons_append,List.nil_append,OpS.nm,OpS.reads,OpS.turns,Nat.reduceAdd];try with_unfolding_all rfl)|(apply byG;intro hg;try simp only [hg])|(apply byQ;intro hq;try simp only [hqs] at hq;try (exfalso;omega))|(apply byI;intro K hK)|(apply byH;repeat (first|exact dst_z rfl|apply dst_s))|(apply byN;unfold NapOK;kernel_rfl)|(apply byD;first|(simp;done)|(simp [go_sem];done))|(refine hK _ _ ?_;clear hK;clear K)|omega|contradiction))
      rcases Nat.lt_or_ge S.length i with h1 | h1
      · rw [List.take_of_length_le (by omega), List.drop_eq_nil_of_le (by omega)]; rfl
      · rw [List.take_of_length_le (by omega), List.drop_eq_nil_of_le (by omega)]; rfl
end Go.Proofs.Ytjplhfmakghabaa.V
