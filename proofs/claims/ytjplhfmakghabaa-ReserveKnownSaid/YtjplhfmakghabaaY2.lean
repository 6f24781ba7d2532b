/- slices.SortStableFunc at steps: swapRange. -/
import Derived.Test.YtjplhfmakghabaaY1
-- STEPS: new
set_option linter.unusedSimpArgs false
set_option linter.unusedVariables false
namespace Go.Proofs.Ytjplhfmakghabaa.V
open Go.RowKit
set_option maxRecDepth 100000

theorem swapRange_fT (l : List Stp) (a b n : Nat) (ha : a + n ≤ l.length) (hb : b + n ≤ l.length) (hl : l.length ≤ 100000) (hne : l ≠ []) : FunB Try.prog 115 [(0, ⟨74, rowC trow l⟩)] [.osl 0 4 0 l.length, int a, int b, int n, .v (.func (.func 44) #[] #[])] (.tup []) [(0, some ⟨74, rowC trow (swapR l a b n)⟩)] := by
  have hne2 := rowT_ne hne
  refine fun_WB 1 mixed Try.func115 rfl (Nat.le_of_ble_eq_true rfl) (by kernel_rfl) (by simp [go_sem, hne2, rowT_nms']) fun cx hN hR hF hL => ?_; apply args_kb; (case hA => (simp only [go_sem, ↓reduceIte]; rfl)); (case hB => (simp only [go_sem, ↓reduceIte]; rfl))
  have hF2 : ∀ b g, cx.F b = some g → b < 3000 := fun b g h => by
    have := hF b g h
    simp [inl] at this
    omega
  (with_reducible repeat' (first|exact trivial|(apply byE;simp only [go_sem, ↓reduceIte];try rfl)|apply Aa|apply As|apply Au|apply Av|apply Aj|apply At|apply Aw|apply Ab|apply Ac|apply Ad|apply Ae|apply Af|apply Ag|apply Ah|apply Ai|apply Ak|apply Al|((first|apply An|apply Ao);(case hs=>with_unfolding_all rfl))|apply Am|apply Ap|apply Aq|apply Ar|apply Ax|apply Ay|apply Az|apply Ba|apply Bb|apply Bc|apply Bd|apply Be|apply Ca|apply Cb|apply Cc|apply Cd|apply Ce|apply Cf|apply Cg|apply Ch|apply Ci|apply Bf|apply Cj|apply Ck|apply Cl|apply Cm|apply Cn|apply Co|apply Cp|(apply byR;with_unfolding_all rfl)|((first|apply byKt|apply byKs);kernel_rfl)|(apply byL;simp only [econs,List.map_cons,List.map_nil,List.cons_append,List.nil_append,OpS.nm,OpS.reads,OpS.turns,Nat.reduceAdd];try with_unfolding_all rfl)|(apply byG;intro hg;try simp only [hg])|(apply byQ;intro hq;try simp only [hqs] at hq;try (exfalso;omega))|(apply byI;intro K hK)|(apply byH;repeat (first|exact dst_z rfl|apply dst_s))|(apply byN;unfold NapOK;kernel_rfl)|(apply byD;first|(simp;done)|(simp [go_sem];done))|(refine hK _ _ ?_;clear hK;clear K)|omega|contradiction))
  refine loopW mixed (σ := {i : Nat // i ≤ n}) (fun s => ⟨[(10, int s.1), (0, .osl 0 4 0 l.length), (1, int a), (2, int b), (3, int n)], [(0, some ⟨74, rowC trow (swapR l a b s.1)⟩)], 3000⟩) (fun s => n - s.1) id ⟨0, by omega⟩ (by rw [hN]; kernel_rfl) ?_ ?_
  · simp only [go_sem, ↓reduceIte, hF]
    exact ⟨rfl, rfl, hF2⟩
  · rintro ⟨i, h1⟩
    by_cases hi : i < n
    · have e2 : IntKind.i64.wrap ((i : Int) + 1) = ((i + 1 : Nat) : Int) := by rw [wrap_id] <;> omega
      have w1 : IntKind.i64.wrap ((a : Int) + i) = ((a + i : Nat) : Int) := by rw [wrap_id] <;> omega
      have w2 : IntKind.i64.wrap ((b : Int) + i) = ((b + i : Nat) : Int) := by rw [wrap_id] <;> omega
      have hL1 : a + i < (swapR l a b i).length := by rw [swapR_len]; omega
      have hL2 : b + i < (swapR l a b i).length := by rw [swapR_len]; omega
      have hx : (swapR l a b i)[a + i]? = some (swapR l a b i)[a + i] := List.getElem?_eq_getElem hL1
      have hy : (swapR l a b i)[b + i]? = some (swapR l a b i)[b + i] := List.getElem?_eq_getElem hL2
      generalize (swapR l a b i)[a + i] = x at hx
      generalize (swapR l a b i)[b + i] = y at hy
      have hsw : swapR l a b (i + 1) = ((swapR l a b i).set (a + i) y).set (b + i) x := by
        rw [swapR, swp]
        simp only [hx, hy]
      have r1 := rowT_some hx
      have r2 := rowT_some hy
      have s1 := rowT_put (swapR l a b i) (a + i) y hL1
      have s2 := rowT_put ((swapR l a b i).set (a + i) y) (b + i) x (by rw [List.length_set]; exact hL2)
      rw [← hsw] at s2
      have hn1 : (rowC trow (swapR l a b i)).length = l.length * 4 := by rw [rowT_len, swapR_len]
      have hn2 : (rowC trow ((swapR l a b i).set (a + i) y)).length = l.length * 4 := by rw [rowT_len, List.length_set, swapR_len]
      have hz : ¬ rowC trow (swapR l a b i) = [] := by
        intro e
        have := congrArg List.length e
        rw [hn1] at this
        simp at this
        omega
      have b1 : a + i < l.length := by omega
      have b2 : b + i < l.length := by omega
      have hl0 : 0 < l.length := by omega
      (with_reducible repeat' (first|exact trivial|(apply byE;simp only [go_sem, ↓reduceIte, e2, w1, w2, r1, r2, s1, s2, hn1, hn2, b1, b2];try rfl)|apply Aa|apply As|apply Au|apply Av|apply Aj|apply At|apply Aw|apply Ab|apply Ac|apply Ad|apply Ae|apply Af|apply Ag|apply Ah|apply Ai|apply Ak|apply Al|((first|apply An|apply Ao);(case hs=>with_unfolding_all rfl))|apply Am|apply Ap|apply Aq|apply Ar|apply Ax|apply Ay|apply Az|apply Ba|apply Bb|apply Bc|apply Bd|apply Be|apply Ca|apply Cb|apply Cc|apply Cd|apply Ce|apply Cf|apply Cg|apply Ch|apply Ci|apply Bf|apply Cj|apply Ck|apply Cl|apply Cm|apply Cn|apply Co|apply Cp|(apply byR;with_unfolding_all rfl)|((first|apply byKt|apply byKs);kernel_rfl)|(apply byL;simp only [econs,List.map_cons,List.map_nil,List.cons_append,List.nil_append,OpS.nm,OpS.reads,OpS.turns,Nat.reduceAdd];try with_unfolding_all rfl)|(apply byG;intro hg;try simp only [hg])|(apply byQ;intro hq;try simp only [hqs] at hq;try (exfalso;omega))|(apply byI;intro K hK)|(apply byH;repeat (first|exact dst_z rfl|apply dst_s))|(apply byN;unfold NapOK;kernel_rfl)|(apply byD;first|(simp;done)|(simp [go_sem];done))|(refine hK _ _ ?_;clear hK;clear K)|omega|contradiction))
      · refine ⟨⟨i + 1, by omega⟩, id, ?_, by show n - (i + 1) < n - i; omega⟩
        simp only [go_sem, ↓reduceIte, hF]
        exact hF2
      all_goals (first | omega | exact hz)
    · have : i = n := by omega
      subst this
      (with_reducible repeat' (first|exact trivial|(apply byE;simp only [go_sem, ↓reduceIte];try rfl)|apply Aa|apply As|apply Au|apply Av|apply Aj|apply At|apply Aw|apply Ab|apply Ac|apply Ad|apply Ae|apply Af|apply Ag|apply Ah|apply Ai|apply Ak|apply Al|((first|apply An|apply Ao);(case hs=>with_unfolding_all rfl))|apply Am|apply Ap|apply Aq|apply Ar|apply Ax|apply Ay|apply Az|apply Ba|apply Bb|apply Bc|apply Bd|apply Be|apply Ca|apply Cb|apply Cc|apply Cd|apply Ce|apply Cf|apply Cg|apply Ch|apply Ci|apply Bf|apply Cj|apply Ck|apply Cl|apply Cm|apply Cn|apply Co|apply Cp|(apply byR;with_unfolding_all rfl)|((first|apply byKt|apply byKs);kernel_rfl)|(apply byL;simp only [econs,List.map_cons,List.map_nil,List.cons_append,List.nil_append,OpS.nm,OpS.reads,OpS.turns,Nat.reduceAdd];try with_unfolding_all rfl)|(apply byG;intro hg;try simp only [hg])|(apply byQ;intro hq;try simp only [hqs] at hq;try (exfalso;omega))|(apply byI;intro K hK)|(apply byH;repeat (first|exact dst_z rfl|apply dst_s))|(apply byN;unfold NapOK;kernel_rfl)|(apply byD;first|(simp;done)|(simp [go_sem];done))|(refine hK _ _ ?_;clear hK;clear K)|omega|contradiction))

theorem rotate_fT (X U V Y : List Stp) (m : Nat) (hm : m = X.length + U.length) (hU : 0 < U.length) (hV : 0 < V.length) (hl : (X ++ (U ++ (V ++ Y))).length ≤ 100000) :
    FunB Try.prog 102 [(0, ⟨74, rowC trow (X ++ (U ++ (V ++ Y)))⟩)] [.osl 0 4 0 (X ++ (U ++ (V ++ Y))).length, int X.length, int m, int (m + V.length : Nat), .v (.func (.func 44) #[] #[])] (.tup []) [(0, some ⟨74, rowC trow (X ++ (V ++ (U ++ Y)))⟩)] := by
  have hne2 := rowT_nz (l := X ++ (U ++ (V ++ Y))) (by simp; omega)
  generalize hLL : X ++ (U ++ (V ++ Y)) = l at *
  have hlen : X.length + U.length + V.length + Y.length = l.length := by rw [← hLL]; simp; omega
  have w1 : IntKind.i64.wrap ((m : Int) - X.length) = (U.length : Nat) := by rw [wrap_id] <;> omega
  have w2 : IntKind.i64.wrap (((m + V.length : Nat) : Int) - m) = (V.length : Nat) := by rw [wrap_id] <;> omega
  refine fun_WB 1 mixed Try.func102 rfl (Nat.le_of_ble_eq_true rfl) (by kernel_rfl) (by simp [go_sem, hne2, rowT_nms']) fun cx hN hR hF hL => ?_; apply args_kb; (case hA => (simp only [go_sem, ↓reduceIte]; rfl)); (case hB => (simp only [go_sem, ↓reduceIte]; rfl))
  have hF2 : ∀ b g, cx.F b = some g → b < 3000 := fun b g h => by
    have := hF b g h
    simp [inl] at this
    omega
  (with_reducible repeat' (first|exact trivial|(apply byE;simp only [go_sem, ↓reduceIte, w1, w2];try rfl)|apply Aa|apply As|apply Au|apply Av|apply Aj|apply At|apply Aw|apply Ab|apply Ac|apply Ad|apply Ae|apply Af|apply Ag|apply Ah|apply Ai|apply Ak|apply Al|((first|apply An|apply Ao);(case hs=>with_unfolding_all rfl))|apply Am|apply Ap|apply Aq|apply Ar|apply Ax|apply Ay|apply Az|apply Ba|apply Bb|apply Bc|apply Bd|apply Be|apply Ca|apply Cb|apply Cc|apply Cd|apply Ce|apply Cf|apply Cg|apply Ch|apply Ci|apply Bf|apply Cj|apply Ck|apply Cl|apply Cm|apply Cn|apply Co|apply Cp|(apply byR;with_unfolding_all rfl)|((first|apply byKt|apply byKs);kernel_rfl)|(apply byL;simp only [econs,List.map_cons,List.map_nil,List.cons_append,List.nil_append,OpS.nm,OpS.reads,OpS.turns,Nat.reduceAdd];try with_unfolding_all rfl)|(apply byG;intro hg;try simp only [hg])|(apply byQ;intro hq;try simp only [hqs] at hq;try (exfalso;omega))|(apply byI;intro K hK)|(apply byH;repeat (first|exact dst_z rfl|apply dst_s))|(apply byN;unfold NapOK;kernel_rfl)|(apply byD;first|(simp;done)|(simp [go_sem];done))|(refine hK _ _ ?_;clear hK;clear K)|omega|contradiction))
  refine loopW mixed (σ := {p : List Stp × List Stp × List Stp × List Stp // p.1.length + p.2.1.length = m ∧ (p.1 ++ (p.2.1 ++ (p.2.2.1 ++ p.2.2.2))).length = l.length ∧ 0 < p.2.1.length ∧ 0 < p.2.2.1.length ∧ p.1 ++ (p.2.2.1 ++ (p.2.1 ++ p.2.2.2)) = X ++ (V ++ (U ++ Y))})
    (fun s => ⟨[(10, int s.1.2.1.length), (11, int s.1.2.2.1.length), (0, .osl 0 4 0 l.length), (2, int m), (4, .v (.func (.func 44) #[] #[]))], [(0, some ⟨74, rowC trow (s.1.1 ++ (s.1.2.1 ++ (s.1.2.2.1 ++ s.1.2.2.2)))⟩)], 3000⟩) (fun s => s.1.2.1.length + s.1.2.2.1.length) id ⟨(X, U, V, Y), hm.symm, by rw [hLL], hU, hV, rfl⟩ (by rw [hN]; kernel_rfl) ?_ ?_
  · simp only [go_sem, ↓reduceIte, hF]
    rw [hLL]
    exact ⟨rfl, hF2⟩
  · rintro ⟨⟨X', U', V', Y'⟩, g1, g2, g3, g4, g5⟩
    simp only at g1 g2 g3 g4 g5
    simp only [List.length_append] at g2
    by_cases hi : U'.length = V'.length
    · have w3 : IntKind.i64.wrap ((m : Int) - U'.length) = (X'.length : Nat) := by rw [wrap_id] <;> omega
      have c1 := swapRange_fT (X' ++ (U' ++ (V' ++ Y'))) X'.length m U'.length (by simp only [List.length_append]; omega) (by simp only [List.length_append]; omega) (by simp only [List.length_append]; omega) (by intro e; have := congrArg List.length e; simp only [List.length_append, List.length_nil] at this; omega)
      rw [swapR_seg _ _ _ _ X' U' [] V' Y' (by simp) rfl hi.symm rfl (by simp only [List.length_nil]; omega), List.nil_append, g5] at c1
      have ll : (X' ++ (U' ++ (V' ++ Y'))).length = l.length := by simp; omega
      rw [ll] at c1
      (with_reducible repeat' (first|exact trivial|(apply byE;simp only [go_sem, ↓reduceIte, w3, eq_true hi];try rfl)|apply Aa|apply As|apply Au|apply Av|apply Aj|apply At|apply Aw|apply Ab|apply Ac|apply Ad|apply Ae|apply Af|apply Ag|apply Ah|apply Ai|apply Ak|apply Al|((first|apply An|apply Ao);(case hs=>with_unfolding_all rfl))|apply Am|apply Ap|apply Aq|apply Ar|apply Ax|apply Ay|apply Az|apply Ba|apply Bb|apply Bc|apply Bd|apply Be|apply Ca|apply Cb|apply Cc|apply Cd|apply Ce|apply Cf|apply Cg|apply Ch|apply Ci|apply Bf|apply Cj|apply Ck|apply Cl|apply Cm|apply Cn|apply Co|apply Cp|(apply byR;with_unfolding_all rfl)|((first|apply byKt|apply byKs);kernel_rfl)|(apply byL;simp only [econs,List.map_cons,List.map_nil,List.cons_append,List.nil_append,OpS.nm,OpS.reads,OpS.turns,Nat.reduceAdd];try with_unfolding_all rfl)|(apply byG;intro hg;try simp only [hg])|(apply byQ;intro hq;try simp only [hqs] at hq;try (exfalso;omega))|(apply byI;intro K hK)|(apply byH;repeat (first|exact dst_z rfl|apply dst_s))|(apply byN;unfold NapOK;kernel_rfl)|(apply byD;first|(simp;done)|(simp [go_sem];done))|(refine hK _ _ ?_;clear hK;clear K)|omega|contradiction))
      (apply callB' [0] cl115 (c1); (case h1 | h2 | h3 => (simp only [go_sem, ↓reduceIte]; try rfl)); (case hl | hs | hfp | hfr => (simp [go_sem]; done)))
      (with_reducible repeat' (first|exact trivial|(apply byE;simp only [go_sem, ↓reduceIte];try rfl)|apply Aa|apply As|apply Au|apply Av|apply Aj|apply At|apply Aw|apply Ab|apply Ac|apply Ad|apply Ae|apply Af|apply Ag|apply Ah|apply Ai|apply Ak|apply Al|((first|apply An|apply Ao);(case hs=>with_unfolding_all rfl))|apply Am|apply Ap|apply Aq|apply Ar|apply Ax|apply Ay|apply Az|apply Ba|apply Bb|apply Bc|apply Bd|apply Be|apply Ca|apply Cb|apply Cc|apply Cd|apply Ce|apply Cf|apply Cg|apply Ch|apply Ci|apply Bf|apply Cj|apply Ck|apply Cl|apply Cm|apply Cn|apply Co|apply Cp|(apply byR;with_unfolding_all rfl)|((first|apply byKt|apply byKs);kernel_rfl)|(apply byL;simp only [econs,List.map_cons,List.map_nil,List.cons_append,List.nil_append,OpS.nm,OpS.reads,OpS.turns,Nat.reduceAdd];try with_unfolding_all rfl)|(apply byG;intro hg;try simp only [hg])|(apply byQ;intro hq;try simp only [hqs] at hq;try (exfalso;omega))|(apply byI;intro K hK)|(apply byH;repeat (first|exact dst_z rfl|apply dst_s))|(apply byN;unfold NapOK;kernel_rfl)|(apply byD;first|(simp;done)|(simp [go_sem];done))|(refine hK _ _ ?_;clear hK;clear K)|omega|contradiction))
    · by_cases hj : V'.length < U'.length
      · obtain ⟨U1, U2, he, hu1⟩ : ∃ U1 U2, U' = U1 ++ U2 ∧ U1.length = V'.length := ⟨U'.take V'.length, U'.drop V'.length, by simp, by simp; omega⟩
        have hel : U'.length = U1.length + U2.length := by rw [he, List.length_append]
        have w3 : IntKind.i64.wrap ((m : Int) - U'.length) = (X'.length : Nat) := by rw [wrap_id] <;> omega
        have w4 : IntKind.i64.wrap ((U'.length : Int) - V'.length) = (U2.length : Nat) := by rw [wrap_id] <;> omega
        have c1 := swapRange_fT (X' ++ (U' ++ (V' ++ Y'))) X'.length m V'.length (by simp only [List.length_append]; omega) (by simp only [List.length_append]; omega) (by simp only [List.length_append]; omega) (by intro e; have := congrArg List.length e; simp only [List.length_append, List.length_nil] at this; omega)
        rw [swapR_seg _ _ _ _ X' U1 U2 V' Y' (by rw [he]; simp) hu1 rfl rfl (by omega)] at c1
        have ll : (X' ++ (U' ++ (V' ++ Y'))).length = l.length := by simp only [List.length_append]; omega
        rw [ll] at c1
        (with_reducible repeat' (first|exact trivial|(apply byE;simp only [go_sem, ↓reduceIte, w3, w4, eq_false hi, eq_true hj];try rfl)|apply Aa|apply As|apply Au|apply Av|apply Aj|apply At|apply Aw|apply Ab|apply Ac|apply Ad|apply Ae|apply Af|apply Ag|apply Ah|apply Ai|apply Ak|apply Al|((first|apply An|apply Ao);(case hs=>with_unfolding_all rfl))|apply Am|apply Ap|apply Aq|apply Ar|apply Ax|apply Ay|apply Az|apply Ba|apply Bb|apply Bc|apply Bd|apply Be|apply Ca|apply Cb|apply Cc|apply Cd|apply Ce|apply Cf|apply Cg|apply Ch|apply Ci|apply Bf|apply Cj|apply Ck|apply Cl|apply Cm|apply Cn|apply Co|apply Cp|(apply byR;with_unfolding_all rfl)|((first|apply byKt|apply byKs);kernel_rfl)|(apply byL;simp only [econs,List.map_cons,List.map_nil,List.cons_append,List.nil_append,OpS.nm,OpS.reads,OpS.turns,Nat.reduceAdd];try with_unfolding_all rfl)|(apply byG;intro hg;try simp only [hg])|(apply byQ;intro hq;try simp only [hqs] at hq;try (exfalso;omega))|(apply byI;intro K hK)|(apply byH;repeat (first|exact dst_z rfl|apply dst_s))|(apply byN;unfold NapOK;kernel_rfl)|(apply byD;first|(simp;done)|(simp [go_sem];done))|(refine hK _ _ ?_;clear hK;clear K)|omega|contradiction))
        (apply callB' [0] cl115 (c1); (case h1 | h2 | h3 => (simp only [go_sem, ↓reduceIte]; try rfl)); (case hl | hs | hfp | hfr => (simp [go_sem]; done)))
        (with_reducible repeat' (first|exact trivial|(apply byE;simp only [go_sem, ↓reduceIte, w4];try rfl)|apply Aa|apply As|apply Au|apply Av|apply Aj|apply At|apply Aw|apply Ab|apply Ac|apply Ad|apply Ae|apply Af|apply Ag|apply Ah|apply Ai|apply Ak|apply Al|((first|apply An|apply Ao);(case hs=>with_unfolding_all rfl))|apply Am|apply Ap|apply Aq|apply Ar|apply Ax|apply Ay|apply Az|apply Ba|apply Bb|apply Bc|apply Bd|apply Be|apply Ca|apply Cb|apply Cc|apply Cd|apply Ce|apply Cf|apply Cg|apply Ch|apply Ci|apply Bf|apply Cj|apply Ck|apply Cl|apply Cm|apply Cn|apply Co|apply Cp|(apply byR;with_unfolding_all rfl)|((first|apply byKt|apply byKs);kernel_rfl)|(apply byL;simp only [econs,List.map_cons,List.map_nil,List.cons_append,List.nil_append,OpS.nm,OpS.reads,OpS.turns,Nat.reduceAdd];try with_unfolding_all rfl)|(apply byG;intro hg;try simp only [hg])|(apply byQ;intro hq;try simp only [hqs] at hq;try (exfalso;omega))|(apply byI;intro K hK)|(apply byH;repeat (first|exact dst_z rfl|apply dst_s))|(apply byN;unfold NapOK;kernel_rfl)|(apply byD;first|(simp;done)|(simp [go_sem];done))|(refine hK _ _ ?_;clear hK;clear K)|omega|contradiction))
        refine ⟨⟨(X' ++ V', U2, U1, Y'), by simp only [List.length_append]; omega, by simp only [List.length_append]; omega, by simp only; omega, by simp only; omega, by rw [← g5, he]; simp⟩, id, ?_, by simp only; omega⟩
        simp only [go_sem, ↓reduceIte, hF, hu1, List.append_assoc]
        exact hF2
      · obtain ⟨V1, V2, he, hv2⟩ : ∃ V1 V2, V' = V1 ++ V2 ∧ V2.length = U'.length := ⟨V'.take (V'.length - U'.length), V'.drop (V'.length - U'.length), by simp, by simp; omega⟩
        have hel : V'.length = V1.length + V2.length := by rw [he, List.length_append]
        have w3 : IntKind.i64.wrap ((m : Int) - U'.length) = (X'.length : Nat) := by rw [wrap_id] <;> omega
        have w4 : IntKind.i64.wrap ((V'.length : Int) - U'.length) = (V1.length : Nat) := by rw [wrap_id] <;> omega
        have w5 : IntKind.i64.wrap ((m : Int) + V'.length) = ((m + V'.length : Nat) : Int) := by rw [wrap_id] <;> omega
        have w6 : IntKind.i64.wrap (((m + V'.length : Nat) : Int) - U'.length) = ((m + V1.length : Nat) : Int) := by rw [wrap_id] <;> omega
        have c1 := swapRange_fT (X' ++ (U' ++ (V' ++ Y'))) X'.length (m + V1.length) U'.length (by simp only [List.length_append]; omega) (by simp only [List.length_append]; omega) (by simp only [List.length_append]; omega) (by intro e; have := congrArg List.length e; simp only [List.length_append, List.length_nil] at this; omega)
        rw [swapR_seg _ _ _ _ X' U' V1 V2 Y' (by rw [he]; simp) rfl hv2 rfl (by omega)] at c1
        have ll : (X' ++ (U' ++ (V' ++ Y'))).length = l.length := by simp only [List.length_append]; omega
        rw [ll] at c1
        (with_reducible repeat' (first|exact trivial|(apply byE;simp only [go_sem, ↓reduceIte, w3, w4, w5, w6, eq_false hi, eq_false hj];try rfl)|apply Aa|apply As|apply Au|apply Av|apply Aj|apply At|apply Aw|apply Ab|apply Ac|apply Ad|apply Ae|apply Af|apply Ag|apply Ah|apply Ai|apply Ak|apply Al|((first|apply An|apply Ao);(case hs=>with_unfolding_all rfl))|apply Am|apply Ap|apply Aq|apply Ar|apply Ax|apply Ay|apply Az|apply Ba|apply Bb|apply Bc|apply Bd|apply Be|apply Ca|apply Cb|apply Cc|apply Cd|apply Ce|apply Cf|apply Cg|apply Ch|apply Ci|apply Bf|apply Cj|apply Ck|apply Cl|apply Cm|apply Cn|apply Co|apply Cp|(apply byR;with_unfolding_all rfl)|((first|apply byKt|apply byKs);kernel_rfl)|(apply byL;simp only [econs,List.map_cons,List.map_nil,List.cons_append,List.nil_append,OpS.nm,OpS.reads,OpS.turns,Nat.reduceAdd];try with_unfolding_all rfl)|(apply byG;intro hg;try simp only [hg])|(apply byQ;intro hq;try simp only [hqs] at hq;try (exfalso;omega))|(apply byI;intro K hK)|(apply byH;repeat (first|exact dst_z rfl|apply dst_s))|(apply byN;unfold NapOK;kernel_rfl)|(apply byD;first|(simp;done)|(simp [go_sem];done))|(refine hK _ _ ?_;clear hK;clear K)|omega|contradiction))
        (apply callB' [0] cl115 (c1); (case h1 | h2 | h3 => (simp only [go_sem, ↓reduceIte]; try rfl)); (case hl | hs | hfp | hfr => (simp [go_sem]; done)))
        (with_reducible repeat' (first|exact trivial|(apply byE;simp only [go_sem, ↓reduceIte, w4];try rfl)|apply Aa|apply As|apply Au|apply Av|apply Aj|apply At|apply Aw|apply Ab|apply Ac|apply Ad|apply Ae|apply Af|apply Ag|apply Ah|apply Ai|apply Ak|apply Al|((first|apply An|apply Ao);(case hs=>with_unfolding_all rfl))|apply Am|apply Ap|apply Aq|apply Ar|apply Ax|apply Ay|apply Az|apply Ba|apply Bb|apply Bc|apply Bd|apply Be|apply Ca|apply Cb|apply Cc|apply Cd|apply Ce|apply Cf|apply Cg|apply Ch|apply Ci|apply Bf|apply Cj|apply Ck|apply Cl|apply Cm|apply Cn|apply Co|apply Cp|(apply byR;with_unfolding_all rfl)|((first|apply byKt|apply byKs);kernel_rfl)|(apply byL;simp only [econs,List.map_cons,List.map_nil,List.cons_append,List.nil_append,OpS.nm,OpS.reads,OpS.turns,Nat.reduceAdd];try with_unfolding_all rfl)|(apply byG;intro hg;try simp only [hg])|(apply byQ;intro hq;try simp only [hqs] at hq;try (exfalso;omega))|(apply byI;intro K hK)|(apply byH;repeat (first|exact dst_z rfl|apply dst_s))|(apply byN;unfold NapOK;kernel_rfl)|(apply byD;first|(simp;done)|(simp [go_sem];done))|(refine hK _ _ ?_;clear hK;clear K)|omega|contradiction))
        refine ⟨⟨(X', V2, V1, U' ++ Y'), by simp only; omega, by simp only [List.length_append]; omega, by simp only; omega, by simp only; omega, by rw [← g5, he]; simp⟩, id, ?_, by simp only; omega⟩
        simp only [go_sem, ↓reduceIte, hF, hv2, List.append_assoc]
        exact hF2
end Go.Proofs.Ytjplhfmakghabaa.V
