/- Contracts of the reference of chapter 19: Paid. -/
-- STEPS: new
import Derived.Test.YtjplhfmakghabaaN10
import Derived.Test.YtjplhfmakghabaaN11
set_option linter.unusedSimpArgs false
set_option linter.unusedVariables false
namespace Go.Proofs.Ytjplhfmakghabaa.V
open Go.RowKit
set_option maxRecDepth 100000
attribute [local go_sem] Option.toList_some Option.toList_none

theorem fz_ints {box : Boxes} {b n : Nat} {t : TypeId} {L : List Int} (d : Nat) (h : bget box b = some ⟨t, rowC irow L⟩) (hn : n = L.length) : fz box (d + 1) (.osl b 1 0 n) (ints L) := by
  rw [fz_osl, h]
  exact ⟨⟨rfl, rfl, by omega, by simp [hn], rows_len (F := irow) (fun _ => rfl) L⟩, fzo_rows (F := irow) (k := 1) (fun _ => rfl) (fun _ => by simp [irow]) L hn⟩
theorem fz_self {box : Boxes} (d : Nat) (f : Bool) (k : Nat) (l : List (List AV)) : fz box (d + 1) (.sl f k l) (.sl f k l) := by
  rw [fz]
  exact ⟨rfl, rfl, id⟩
set_option maxHeartbeats 8000000 in
theorem rPaid_f (c : Cover) (l : List File) (hc : c.ok) (hl : l.length ≤ 100000) : Fun Try.prog 18 [.agg c.flat, filesA l] (.tup [rowsA (paidR c l), int (checkE c l)]) := by
  by_cases har : adjRight c l = true
  · have hN0 := actsN_le l 2000 (right_len har)
    have hN1 : l.length * 2000 ≤ 100000 * 2000 := Nat.mul_le_mul_right _ hl
    have hW : IntKind.i64.wrap (actsN l : Int) = (actsN l : Int) := by rw [wrap_id] <;> omega
    have hac := acts_f l
    rw [hW] at hac
    by_cases hn : l.length ≤ 2000 ∧ actsN l ≤ 2000
    · have he : checkE c l = 0 := by rw [checkE, if_neg (by rw [har]; decide), if_neg (by omega)]
      have har0 : c.rightB = true := by
        rw [adjRight, Bool.and_eq_true] at har
        exact har.1
      have n1 : ((l.length : Int) > 2000) = False := eq_false (by omega)
      have n2 : ((actsN l : Int) > 2000) = False := eq_false (by omega)
      rcases Nat.eq_zero_or_pos l.length with h0 | h0
      · obtain rfl := List.length_eq_zero_iff.1 h0
        have hnx0 := next_f [] (cntE [])
        have hpr : paidR c [] = [] := by rw [paidR, if_pos he]; rfl
        rw [hpr, he]
        refine fun_W mixed Try.func18 rfl (Nat.le_of_ble_eq_true rfl) (by kernel_rfl) fun cx hN hR hF hL => ?_; apply args_k; (case hA => (simp only [go_sem, ↓reduceIte]; rfl))
        (with_reducible repeat' (first|exact trivial|(apply byE;simp only [go_sem, ↓reduceIte, har, n1, n2, decide_eq_false (of_eq_false n1), decide_eq_false (of_eq_false n2)];try rfl)|apply Aa|apply As|apply Au|apply Av|apply Aj|apply At|apply Aw|apply Ab|apply Ac|apply Ad|apply Ae|apply Af|apply Ag|apply Ah|apply Ai|apply Ak|apply Al|apply rounds_s|((first|apply An|apply Ao);(case hs=>with_unfolding_all rfl))|apply Am|apply Ap|apply Aq|apply Ar|apply Ax|apply Ay|apply Az|apply Ba|apply Bb|apply Bc|apply Bd|apply Be|apply Ca|apply Cb|apply Cc|apply Cd|apply Ce|apply Cf|apply Cg|apply Ch|apply Ci|apply Bf|apply Cj|apply Ck|apply Cl|apply Cm|apply Cn|apply Co|apply Cp|(apply byR;with_unfolding_all rfl)|((first|apply byKt|apply byKs);kernel_rfl)|(apply byL;simp only [econs,List.map_cons,List.map_nil,List.cons_append,List.nil_append,OpS.nm,OpS.reads,OpS.turns,Nat.reduceAdd];try with_unfolding_all rfl)|(apply byG;intro hg;try simp only [hg])|(apply byQ;intro hq;try simp only [hqs] at hq;try (exfalso;omega))|(apply byI;intro K hK)|(apply byH;repeat (first|exact dst_z rfl|apply dst_s))|(apply byN;unfold NapOK;kernel_rfl)|(apply byD;first|(simp;done)|(simp [go_sem];done))|(refine hK _ _ ?_;clear hK;clear K)|omega|(apply callX cl21 (rRight_f c []);(case hl=>with_unfolding_all rfl))|(apply callX cl40 (hac);(case hl=>with_unfolding_all rfl))|contradiction))
        (apply callL' [3016] cl45 (hnx0); (case hp | hl => (simp only [go_sem, ↓reduceIte]; try rfl)); (case hx => (simp [AV.flat0])); (try (case hfz => (first | (simp only [go_sem]; done) | (simp [go_sem, fzo]; done)))))
        · exact ⟨fz_self 5 _ _ _, fz_ints 5 rfl rfl, trivial⟩
        (with_reducible repeat' (first|exact trivial|(apply byE;simp only [go_sem, ↓reduceIte];try rfl)|apply Aa|apply As|apply Au|apply Av|apply Aj|apply At|apply Aw|apply Ab|apply Ac|apply Ad|apply Ae|apply Af|apply Ag|apply Ah|apply Ai|apply Ak|apply Al|apply rounds_s|((first|apply An|apply Ao);(case hs=>with_unfolding_all rfl))|apply Am|apply Ap|apply Aq|apply Ar|apply Ax|apply Ay|apply Az|apply Ba|apply Bb|apply Bc|apply Bd|apply Be|apply Ca|apply Cb|apply Cc|apply Cd|apply Ce|apply Cf|apply Cg|apply Ch|apply Ci|apply Bf|apply Cj|apply Ck|apply Cl|apply Cm|apply Cn|apply Co|apply Cp|(apply byR;with_unfolding_all rfl)|((first|apply byKt|apply byKs);kernel_rfl)|(apply byL;simp only [econs,List.map_cons,List.map_nil,List.cons_append,List.nil_append,OpS.nm,OpS.reads,OpS.turns,Nat.reduceAdd];try with_unfolding_all rfl)|(apply byG;intro hg;try simp only [hg])|(apply byQ;intro hq;try simp only [hqs] at hq;try (exfalso;omega))|(apply byI;intro K hK)|(apply byH;repeat (first|exact dst_z rfl|apply dst_s))|(apply byN;unfold NapOK;kernel_rfl)|(apply byD;first|(simp;done)|(simp [go_sem];done))|(refine hK _ _ ?_;clear hK;clear K)|omega|contradiction))
        refine loop_rounds mixed 1 (by rw [hN]; kernel_rfl) ?_
        have hm1 : nextI [] (cntE []) 0 = -1 := rfl
        (with_reducible repeat' (first|exact trivial|(apply byE;simp only [go_sem, ↓reduceIte, hm1, Int.reduceNeg];try rfl)|apply Aa|apply As|apply Au|apply Av|apply Aj|apply At|apply Aw|apply Ab|apply Ac|apply Ad|apply Ae|apply Af|apply Ag|apply Ah|apply Ai|apply Ak|apply Al|apply rounds_s|((first|apply An|apply Ao);(case hs=>with_unfolding_all rfl))|apply Am|apply Ap|apply Aq|apply Ar|apply Ax|apply Ay|apply Az|apply Ba|apply Bb|apply Bc|apply Bd|apply Be|apply Ca|apply Cb|apply Cc|apply Cd|apply Ce|apply Cf|apply Cg|apply Ch|apply Ci|apply Bf|apply Cj|apply Ck|apply Cl|apply Cm|apply Cn|apply Co|apply Cp|(apply byR;with_unfolding_all rfl)|((first|apply byKt|apply byKs);kernel_rfl)|(apply byL;simp only [econs,List.map_cons,List.map_nil,List.cons_append,List.nil_append,OpS.nm,OpS.reads,OpS.turns,Nat.reduceAdd];try with_unfolding_all rfl)|(apply byG;intro hg;try simp only [hg])|(apply byQ;intro hq;try simp only [hqs] at hq;try (exfalso;omega))|(apply byI;intro K hK)|(apply byH;repeat (first|exact dst_z rfl|apply dst_s))|(apply byN;unfold NapOK;kernel_rfl)|(apply byD;first|(simp;done)|(simp [go_sem];done))|(refine hK _ _ ?_;clear hK;clear K)|omega|contradiction))
      · have hz0 := rowI_nz (l := List.replicate l.length (0 : Int)) (by simpa using h0)
        have hnx0 := next_f l (cntE [])
        rw [cnt_nil] at hnx0
        refine fun_W mixed Try.func18 rfl (Nat.le_of_ble_eq_true rfl) (by kernel_rfl) fun cx hN hR hF hL => ?_; apply args_k; (case hA => (simp only [go_sem, ↓reduceIte]; rfl))
        (with_reducible repeat' (first|exact trivial|(apply byE;simp only [go_sem, ↓reduceIte, har, n1, n2, decide_eq_false (of_eq_false n1), decide_eq_false (of_eq_false n2)];try rfl)|apply Aa|apply As|apply Au|apply Av|apply Aj|apply At|apply Aw|apply Ab|apply Ac|apply Ad|apply Ae|apply Af|apply Ag|apply Ah|apply Ai|apply Ak|apply Al|apply rounds_s|((first|apply An|apply Ao);(case hs=>with_unfolding_all rfl))|apply Am|apply Ap|apply Aq|apply Ar|apply Ax|apply Ay|apply Az|apply Ba|apply Bb|apply Bc|apply Bd|apply Be|apply Ca|apply Cb|apply Cc|apply Cd|apply Ce|apply Cf|apply Cg|apply Ch|apply Ci|apply Bf|apply Cj|apply Ck|apply Cl|apply Cm|apply Cn|apply Co|apply Cp|(apply byR;with_unfolding_all rfl)|((first|apply byKt|apply byKs);kernel_rfl)|(apply byL;simp only [econs,List.map_cons,List.map_nil,List.cons_append,List.nil_append,OpS.nm,OpS.reads,OpS.turns,Nat.reduceAdd];try with_unfolding_all rfl)|(apply byG;intro hg;try simp only [hg])|(apply byQ;intro hq;try simp only [hqs] at hq;try (exfalso;omega))|(apply byI;intro K hK)|(apply byH;repeat (first|exact dst_z rfl|apply dst_s))|(apply byN;unfold NapOK;kernel_rfl)|(apply byD;first|(simp;done)|(simp [go_sem];done))|(refine hK _ _ ?_;clear hK;clear K)|omega|(apply callX cl21 (rRight_f c l);(case hl=>with_unfolding_all rfl))|(apply callX cl40 (hac);(case hl=>with_unfolding_all rfl))|contradiction))
        rotate_left
        · simp [maxLen]; omega
        · simp [maxLen]; omega
        · simp [maxLen]; omega
        simp only [zerosR_int]
        (apply callL' [3016] cl45 (hnx0); (case hp | hl => (simp only [go_sem, ↓reduceIte]; try rfl)); (case hx => (simp [AV.flat0])); (try (case hfz => (first | (simp only [go_sem]; done) | (simp [go_sem, fzo]; done)))))
        · exact ⟨fz_self 5 _ _ _, fz_ints 5 rfl (by simp), trivial⟩
        (with_reducible repeat' (first|exact trivial|(apply byE;simp only [go_sem, ↓reduceIte];try rfl)|apply Aa|apply As|apply Au|apply Av|apply Aj|apply At|apply Aw|apply Ab|apply Ac|apply Ad|apply Ae|apply Af|apply Ag|apply Ah|apply Ai|apply Ak|apply Al|apply rounds_s|((first|apply An|apply Ao);(case hs=>with_unfolding_all rfl))|apply Am|apply Ap|apply Aq|apply Ar|apply Ax|apply Ay|apply Az|apply Ba|apply Bb|apply Bc|apply Bd|apply Be|apply Ca|apply Cb|apply Cc|apply Cd|apply Ce|apply Cf|apply Cg|apply Ch|apply Ci|apply Bf|apply Cj|apply Ck|apply Cl|apply Cm|apply Cn|apply Co|apply Cp|(apply byR;with_unfolding_all rfl)|((first|apply byKt|apply byKs);kernel_rfl)|(apply byL;simp only [econs,List.map_cons,List.map_nil,List.cons_append,List.nil_append,OpS.nm,OpS.reads,OpS.turns,Nat.reduceAdd];try with_unfolding_all rfl)|(apply byG;intro hg;try simp only [hg])|(apply byQ;intro hq;try simp only [hqs] at hq;try (exfalso;omega))|(apply byI;intro K hK)|(apply byH;repeat (first|exact dst_z rfl|apply dst_s))|(apply byN;unfold NapOK;kernel_rfl)|(apply byD;first|(simp;done)|(simp [go_sem];done))|(refine hK _ _ ?_;clear hK;clear K)|omega|contradiction))
        refine loop_nil 9 8000 3 48 rfl (Nat.le_of_ble_eq_true rfl) ?_
        have hLn := ordL_len l
        have hmem := fun x (hx : x ∈ ordL l) => step_right har hx
        have hPB := payL_PB har0 l.length (L := ordL l) (fun x hx => by obtain ⟨k, _, _, _, h⟩ := hmem x hx; exact h)
        have hsum := payL_sum har
        have hsr := srt_of har
        have hnat := fun m x (hx : (ordL l)[m]? = some x) => next_at hsr hx
        have hend := next_end l hsr
        have hrp := rPays_f c
        generalize hLe : ordL l = L at *
        refine loopW mixed (σ := {m : Nat // m ≤ L.length}) (fun s => ⟨[(10, int (nextI l (cntE (L.take s.1)) l.length)), (9, .osl 8000 3 0 (payL c l.length (L.take s.1)).out.length), (8, .osl 5016 1 0 l.length), (7, .osl 4016 1 0 l.length), (6, .osl 3016 1 0 l.length), (2, .ptr 0 0), (1, filesA l)], [(8000, some ⟨48, rowC r3row (payL c l.length (L.take s.1)).out⟩), (5016, some ⟨3, rowC irow (payL c l.length (L.take s.1)).paid⟩), (4016, some ⟨3, rowC irow (payL c l.length (L.take s.1)).shown⟩), (3016, some ⟨3, rowC irow (cnL (cntE (L.take s.1)) l.length)⟩), (0, some ⟨23, c.flat⟩)], 8001⟩) (fun s => L.length - s.1) id ⟨0, by omega⟩ (by rw [hN]; kernel_rfl) ?_ ?_
        · simp only [go_sem, ↓reduceIte, hF]
          exact ⟨rfl, rfl, rfl, rfl, by rw [cnt_nil]⟩
        · rintro ⟨m, g1⟩
          by_cases gi : m < L.length
          · have e0 : L[m]? = some L[m] := List.getElem?_eq_getElem gi
            have hnx := payL_take (c := c) (n := l.length) e0
            have hP := hPB m g1
            have hS := hsum m g1
            have htk : L.take (m + 1) = L.take m ++ [L[m]] := List.take_succ_eq_append_getElem gi
            obtain ⟨k, f, t1, t2, t3, t4⟩ := hnat m _ e0
            obtain ⟨_, _, _, _, q4⟩ := hmem _ (List.getElem_mem gi)
            have hcn := cnt_snoc (L.take m) L[m] t1 l.length
            rw [← htk] at hcn
            have hnf := next_f l (cntE (L.take (m + 1)))
            generalize L[m] = x at *
            obtain ⟨xf, bk, kd, am⟩ := x
            simp only at t1 t4 q4
            subst t1
            have q1 : k < l.length := (List.getElem?_eq_some_iff.1 t2).1
            have gk := hP.get1 k
            have gp := hP.get2 k
            have gb := hP.al
            have gl1 := hP.l1
            have gl2 := hP.l2
            unfold payOne at hnx
            simp only [Int.toNat_natCast] at hnx
            have b1 : (l.map File.flat)[k]? = some f.flat := by rw [List.getElem?_map, t2]; rfl
            have b2 : k < (l.map File.flat).length := by simpa using q1
            have gl3 := cnL_len (cntE (L.take m)) l.length
            have b3 := rowI_some (cnL_get (cn := cntE (L.take m)) q1)
            have b4 : (f.acts.map Act.flat)[cntE (L.take m) k]? = some (Act.flat ⟨bk, kd, am⟩) := by rw [List.getElem?_map, t4]; rfl
            have b5 : cntE (L.take m) k < (f.acts.map Act.flat).length := by simpa using (List.getElem?_eq_some_iff.1 t4).1
            have hcb : cntE (L.take m) k ≤ m := Nat.le_trans (List.length_filter_le _ _) (by rw [List.length_take]; omega)
            have b6 : IntKind.i64.wrap ((cntE (L.take m) k : Int) + 1) = (cntE (L.take m) k : Int) + 1 := by rw [wrap_id] <;> omega
            have b7 := rowI_put (cnL (cntE (L.take m)) l.length) k ((cntE (L.take m) k : Int) + 1) (by omega)
            have z0 := rowI_nz (l := cnL (cntE (L.take m)) l.length) (by omega)
            have b8 : k < (cnL (cntE (L.take m)) l.length).length := by omega
            rw [← hcn] at b7
            have hcnt : 0 ≤ (cntE (L.take m) k : Int) ∧ (cntE (L.take m) k : Int) < (f.acts.length : Int) := by simp at b5; omega
            by_cases hk : kd = 2
            · subst hk
              rw [if_pos rfl] at hnx
              have htf := total_f (payL c l.length (L.take m)).paid
              rw [tot_all har0 hP hS] at htf
              generalize payL c l.length (L.take m) = s at *
              obtain ⟨sS, sP, sA, sO⟩ := s
              simp only at gl1 gl2 gk gp gb hnx htf
              have ou := hP.ou
              simp only at ou
              have r1 : sS[k]? = some (sS.getD k 0) := by rw [List.getD_eq_getElem?_getD, List.getElem?_eq_getElem (by omega)]; rfl
              have r2 : sP[k]? = some (sP.getD k 0) := by rw [List.getD_eq_getElem?_getD, List.getElem?_eq_getElem (by omega)]; rfl
              generalize sS.getD k 0 = sh at *
              generalize sP.getD k 0 = pk at *
              have m1 := rowI_some r1
              have m2 := rowI_some r2
              have hcv := cvRight_iff.1 har0
              have z1 := rowI_nz (l := sS) (by omega)
              have z2 := rowI_nz (l := sP) (by omega)
              have z3 := rowI_nz (l := sS.set k (sh + am)) (by rw [List.length_set]; omega)
              have w1 : IntKind.i64.wrap (sh + am) = sh + am := by rw [wrap_id] <;> omega
              have w2 : IntKind.i64.wrap (sA - pk) = sA - pk := by rw [wrap_id] <;> omega
              have hb1 := pays_bd (c := c) har0 (sh + am) (used := sA - pk) (by omega)
              have hb2 := worth0_bd (c := c) har0 (sh + am)
              have hpy := hrp (sh + am) (sA - pk) hc (by unfold Int64; omega) (by unfold Int64; omega)
              generalize pays c (sh + am) (sA - pk) = pw at *
              have w3 : IntKind.i64.wrap (pw - pk) = pw - pk := by rw [wrap_id] <;> omega
              have m3 : (sS.set k (sh + am))[k]? = some (sh + am) := by rw [List.getElem?_set_self (by omega)]
              have m4 := rowI_some m3
              have p1 := rowI_put sS k (sh + am) (by omega)
              have p2 := rowI_put sP k pw (by omega)
              have q5 : k < sS.length := by omega
              have q6 : k < sP.length := by omega
              by_cases hw : pw - pk ≤ 0
              · rw [if_pos hw] at hnx
                have hw2 : (pk < pw) = False := eq_false (by omega)
                (with_reducible repeat' (first|exact trivial|(apply byE;simp only [go_sem, ↓reduceIte, t3, b1, b2, gl3, b3, b4, b5, b6, b7, b8, z0, Int.reduceEq, m1, m2, w1, w2, m4, p1, q5, q6, z1, z2, z3, rowI_len, List.length_set];try rfl)|apply Aa|apply As|apply Au|apply Av|apply Aj|apply At|apply Aw|apply Ab|apply Ac|apply Ad|apply Ae|apply Af|apply Ag|apply Ah|apply Ai|apply Ak|apply Al|apply rounds_s|((first|apply An|apply Ao);(case hs=>with_unfolding_all rfl))|apply Am|apply Ap|apply Aq|apply Ar|apply Ax|apply Ay|apply Az|apply Ba|apply Bb|apply Bc|apply Bd|apply Be|apply Ca|apply Cb|apply Cc|apply Cd|apply Ce|apply Cf|apply Cg|apply Ch|apply Ci|apply Bf|apply Cj|apply Ck|apply Cl|apply Cm|apply Cn|apply Co|apply Cp|(apply byR;with_unfolding_all rfl)|((first|apply byKt|apply byKs);kernel_rfl)|(apply byL;simp only [econs,List.map_cons,List.map_nil,List.cons_append,List.nil_append,OpS.nm,OpS.reads,OpS.turns,Nat.reduceAdd];try with_unfolding_all rfl)|(apply byG;intro hg;try simp only [hg])|(apply byQ;intro hq;try simp only [hqs] at hq;try (exfalso;omega))|(apply byI;intro K hK)|(apply byH;repeat (first|exact dst_z rfl|apply dst_s))|(apply byN;unfold NapOK;kernel_rfl)|(apply byD;first|(simp;done)|(simp [go_sem];done))|(refine hK _ _ ?_;clear hK;clear K)|omega|contradiction))
                · (apply callL' [5016] cl47 (htf); (case hp | hl => (simp only [go_sem, ↓reduceIte]; try rfl)); (case hx => (simp [AV.flat0])); (try (case hfz => (first | (simp only [go_sem]; done) | (simp [go_sem, fzo]; done)))))
                  · exact ⟨fz_ints 5 rfl (by omega), trivial⟩
                  (with_reducible repeat' (first|exact trivial|(apply byE;simp only [go_sem, ↓reduceIte, t3, m1, m2, w1, w2, m4, p1, q5, q6, z1, z2, z3, rowI_len, List.length_set, hw2, decide_eq_false (of_eq_false hw2)];try rfl)|apply Aa|apply As|apply Au|apply Av|apply Aj|apply At|apply Aw|apply Ab|apply Ac|apply Ad|apply Ae|apply Af|apply Ag|apply Ah|apply Ai|apply Ak|apply Al|apply rounds_s|((first|apply An|apply Ao);(case hs=>with_unfolding_all rfl))|apply Am|apply Ap|apply Aq|apply Ar|apply Ax|apply Ay|apply Az|apply Ba|apply Bb|apply Bc|apply Bd|apply Be|apply Ca|apply Cb|apply Cc|apply Cd|apply Ce|apply Cf|apply Cg|apply Ch|apply Ci|apply Bf|apply Cj|apply Ck|apply Cl|apply Cm|apply Cn|apply Co|apply Cp|(apply byR;with_unfolding_all rfl)|((first|apply byKt|apply byKs);kernel_rfl)|(apply byL;simp only [econs,List.map_cons,List.map_nil,List.cons_append,List.nil_append,OpS.nm,OpS.reads,OpS.turns,Nat.reduceAdd];try with_unfolding_all rfl)|(apply byG;intro hg;try simp only [hg])|(apply byQ;intro hq;try simp only [hqs] at hq;try (exfalso;omega))|(apply byI;intro K hK)|(apply byH;repeat (first|exact dst_z rfl|apply dst_s))|(apply byN;unfold NapOK;kernel_rfl)|(apply byD;first|(simp;done)|(simp [go_sem];done))|(refine hK _ _ ?_;clear hK;clear K)|omega|(apply callX cl46 (hpy);(case hl=>with_unfolding_all rfl))|contradiction))
                  (apply callL' [3016] cl45 (hnf); (case hp | hl => (simp only [go_sem, ↓reduceIte]; try rfl)); (case hx => (simp [AV.flat0])); (try (case hfz => (first | (simp only [go_sem]; done) | (simp [go_sem, fzo]; done)))))
                  · exact ⟨fz_self 5 _ _ _, fz_ints 5 rfl (cnL_len _ _).symm, trivial⟩
                  (with_reducible repeat' (first|exact trivial|(apply byE;simp only [go_sem, ↓reduceIte];try rfl)|apply Aa|apply As|apply Au|apply Av|apply Aj|apply At|apply Aw|apply Ab|apply Ac|apply Ad|apply Ae|apply Af|apply Ag|apply Ah|apply Ai|apply Ak|apply Al|apply rounds_s|((first|apply An|apply Ao);(case hs=>with_unfolding_all rfl))|apply Am|apply Ap|apply Aq|apply Ar|apply Ax|apply Ay|apply Az|apply Ba|apply Bb|apply Bc|apply Bd|apply Be|apply Ca|apply Cb|apply Cc|apply Cd|apply Ce|apply Cf|apply Cg|apply Ch|apply Ci|apply Bf|apply Cj|apply Ck|apply Cl|apply Cm|apply Cn|apply Co|apply Cp|(apply byR;with_unfolding_all rfl)|((first|apply byKt|apply byKs);kernel_rfl)|(apply byL;simp only [econs,List.map_cons,List.map_nil,List.cons_append,List.nil_append,OpS.nm,OpS.reads,OpS.turns,Nat.reduceAdd];try with_unfolding_all rfl)|(apply byG;intro hg;try simp only [hg])|(apply byQ;intro hq;try simp only [hqs] at hq;try (exfalso;omega))|(apply byI;intro K hK)|(apply byH;repeat (first|exact dst_z rfl|apply dst_s))|(apply byN;unfold NapOK;kernel_rfl)|(apply byD;first|(simp;done)|(simp [go_sem];done))|(refine hK _ _ ?_;clear hK;clear K)|omega|contradiction))
                  refine ⟨⟨m + 1, gi⟩, id, ?_, by show L.length - (m + 1) < L.length - m; omega⟩
                  simp only [hnx]
                  simp only [go_sem, ↓reduceIte, hF]
              · rw [if_neg hw] at hnx
                have hw2 : (pk < pw) = True := eq_true (by omega)
                (with_reducible repeat' (first|exact trivial|(apply byE;simp only [go_sem, ↓reduceIte, t3, b1, b2, gl3, b3, b4, b5, b6, b7, b8, z0, Int.reduceEq, m1, m2, w1, w2, m4, p1, q5, q6, z1, z2, z3, rowI_len, List.length_set];try rfl)|apply Aa|apply As|apply Au|apply Av|apply Aj|apply At|apply Aw|apply Ab|apply Ac|apply Ad|apply Ae|apply Af|apply Ag|apply Ah|apply Ai|apply Ak|apply Al|apply rounds_s|((first|apply An|apply Ao);(case hs=>with_unfolding_all rfl))|apply Am|apply Ap|apply Aq|apply Ar|apply Ax|apply Ay|apply Az|apply Ba|apply Bb|apply Bc|apply Bd|apply Be|apply Ca|apply Cb|apply Cc|apply Cd|apply Ce|apply Cf|apply Cg|apply Ch|apply Ci|apply Bf|apply Cj|apply Ck|apply Cl|apply Cm|apply Cn|apply Co|apply Cp|(apply byR;with_unfolding_all rfl)|((first|apply byKt|apply byKs);kernel_rfl)|(apply byL;simp only [econs,List.map_cons,List.map_nil,List.cons_append,List.nil_append,OpS.nm,OpS.reads,OpS.turns,Nat.reduceAdd];try with_unfolding_all rfl)|(apply byG;intro hg;try simp only [hg])|(apply byQ;intro hq;try simp only [hqs] at hq;try (exfalso;omega))|(apply byI;intro K hK)|(apply byH;repeat (first|exact dst_z rfl|apply dst_s))|(apply byN;unfold NapOK;kernel_rfl)|(apply byD;first|(simp;done)|(simp [go_sem];done))|(refine hK _ _ ?_;clear hK;clear K)|omega|contradiction))
                · (apply callL' [5016] cl47 (htf); (case hp | hl => (simp only [go_sem, ↓reduceIte]; try rfl)); (case hx => (simp [AV.flat0])); (try (case hfz => (first | (simp only [go_sem]; done) | (simp [go_sem, fzo]; done)))))
                  · exact ⟨fz_ints 5 rfl (by omega), trivial⟩
                  (with_reducible repeat' (first|exact trivial|(apply byE;simp only [go_sem, ↓reduceIte, t3, m1, m2, w1, w2, w3, m4, p1, p2, q5, q6, z1, z2, z3, rowI_len, List.length_set, hw2, decide_eq_true (of_eq_true hw2)];try rfl)|apply Aa|apply As|apply Au|apply Av|apply Aj|apply At|apply Aw|apply Ab|apply Ac|apply Ad|apply Ae|apply Af|apply Ag|apply Ah|apply Ai|apply Ak|apply Al|apply rounds_s|((first|apply An|apply Ao);(case hs=>with_unfolding_all rfl))|apply Am|apply Ap|apply Aq|apply Ar|apply Ax|apply Ay|apply Az|apply Ba|apply Bb|apply Bc|apply Bd|apply Be|apply Ca|apply Cb|apply Cc|apply Cd|apply Ce|apply Cf|apply Cg|apply Ch|apply Ci|apply Bf|apply Cj|apply Ck|apply Cl|apply Cm|apply Cn|apply Co|apply Cp|(apply byR;with_unfolding_all rfl)|((first|apply byKt|apply byKs);kernel_rfl)|(apply byL;simp only [econs,List.map_cons,List.map_nil,List.cons_append,List.nil_append,OpS.nm,OpS.reads,OpS.turns,Nat.reduceAdd];try with_unfolding_all rfl)|(apply byG;intro hg;try simp only [hg])|(apply byQ;intro hq;try simp only [hqs] at hq;try (exfalso;omega))|(apply byI;intro K hK)|(apply byH;repeat (first|exact dst_z rfl|apply dst_s))|(apply byN;unfold NapOK;kernel_rfl)|(apply byD;first|(simp;done)|(simp [go_sem];done))|(refine hK _ _ ?_;clear hK;clear K)|omega|(apply callX cl46 (hpy);(case hl=>with_unfolding_all rfl))|contradiction))
                  rotate_left
                  · have hro : (rowC r3row sO).length = sO.length * 3 := rowC_len (F := r3row) (k := 3) (fun _ => rfl) sO
                    exact ⟨hro, by simp [maxLen]; omega⟩
                  (apply callL' [3016] cl45 (hnf); (case hp | hl => (simp only [go_sem, ↓reduceIte]; try rfl)); (case hx => (simp [AV.flat0])); (try (case hfz => (first | (simp only [go_sem]; done) | (simp [go_sem, fzo]; done)))))
                  · exact ⟨fz_self 5 _ _ _, fz_ints 5 rfl (cnL_len _ _).symm, trivial⟩
                  (with_reducible repeat' (first|exact trivial|(apply byE;simp only [go_sem, ↓reduceIte];try rfl)|apply Aa|apply As|apply Au|apply Av|apply Aj|apply At|apply Aw|apply Ab|apply Ac|apply Ad|apply Ae|apply Af|apply Ag|apply Ah|apply Ai|apply Ak|apply Al|apply rounds_s|((first|apply An|apply Ao);(case hs=>with_unfolding_all rfl))|apply Am|apply Ap|apply Aq|apply Ar|apply Ax|apply Ay|apply Az|apply Ba|apply Bb|apply Bc|apply Bd|apply Be|apply Ca|apply Cb|apply Cc|apply Cd|apply Ce|apply Cf|apply Cg|apply Ch|apply Ci|apply Bf|apply Cj|apply Ck|apply Cl|apply Cm|apply Cn|apply Co|apply Cp|(apply byR;with_unfolding_all rfl)|((first|apply byKt|apply byKs);kernel_rfl)|(apply byL;simp only [econs,List.map_cons,List.map_nil,List.cons_append,List.nil_append,OpS.nm,OpS.reads,OpS.turns,Nat.reduceAdd];try with_unfolding_all rfl)|(apply byG;intro hg;try simp only [hg])|(apply byQ;intro hq;try simp only [hqs] at hq;try (exfalso;omega))|(apply byI;intro K hK)|(apply byH;repeat (first|exact dst_z rfl|apply dst_s))|(apply byN;unfold NapOK;kernel_rfl)|(apply byD;first|(simp;done)|(simp [go_sem];done))|(refine hK _ _ ?_;clear hK;clear K)|omega|contradiction))
                  refine ⟨⟨m + 1, gi⟩, nm1 8000 15097, ?_, by show L.length - (m + 1) < L.length - m; omega⟩
                  simp only [hnx, List.length_append, List.length_singleton, rowR_snoc]
                  simp only [go_sem, ↓reduceIte, hF, List.map_append, List.all_append]
            · rw [if_neg hk] at hnx
              (with_reducible repeat' (first|exact trivial|(apply byE;simp only [go_sem, ↓reduceIte, t3, b1, b2, gl3, b3, b4, b5, b6, b7, b8, z0, hk, rowI_len, List.length_set];try rfl)|apply Aa|apply As|apply Au|apply Av|apply Aj|apply At|apply Aw|apply Ab|apply Ac|apply Ad|apply Ae|apply Af|apply Ag|apply Ah|apply Ai|apply Ak|apply Al|apply rounds_s|((first|apply An|apply Ao);(case hs=>with_unfolding_all rfl))|apply Am|apply Ap|apply Aq|apply Ar|apply Ax|apply Ay|apply Az|apply Ba|apply Bb|apply Bc|apply Bd|apply Be|apply Ca|apply Cb|apply Cc|apply Cd|apply Ce|apply Cf|apply Cg|apply Ch|apply Ci|apply Bf|apply Cj|apply Ck|apply Cl|apply Cm|apply Cn|apply Co|apply Cp|(apply byR;with_unfolding_all rfl)|((first|apply byKt|apply byKs);kernel_rfl)|(apply byL;simp only [econs,List.map_cons,List.map_nil,List.cons_append,List.nil_append,OpS.nm,OpS.reads,OpS.turns,Nat.reduceAdd];try with_unfolding_all rfl)|(apply byG;intro hg;try simp only [hg])|(apply byQ;intro hq;try simp only [hqs] at hq;try (exfalso;omega))|(apply byI;intro K hK)|(apply byH;repeat (first|exact dst_z rfl|apply dst_s))|(apply byN;unfold NapOK;kernel_rfl)|(apply byD;first|(simp;done)|(simp [go_sem];done))|(refine hK _ _ ?_;clear hK;clear K)|omega|contradiction))
              (apply callL' [3016] cl45 (hnf); (case hp | hl => (simp only [go_sem, ↓reduceIte]; try rfl)); (case hx => (simp [AV.flat0])); (try (case hfz => (first | (simp only [go_sem]; done) | (simp [go_sem, fzo]; done)))))
              · exact ⟨fz_self 5 _ _ _, fz_ints 5 rfl (cnL_len _ _).symm, trivial⟩
              (with_reducible repeat' (first|exact trivial|(apply byE;simp only [go_sem, ↓reduceIte];try rfl)|apply Aa|apply As|apply Au|apply Av|apply Aj|apply At|apply Aw|apply Ab|apply Ac|apply Ad|apply Ae|apply Af|apply Ag|apply Ah|apply Ai|apply Ak|apply Al|apply rounds_s|((first|apply An|apply Ao);(case hs=>with_unfolding_all rfl))|apply Am|apply Ap|apply Aq|apply Ar|apply Ax|apply Ay|apply Az|apply Ba|apply Bb|apply Bc|apply Bd|apply Be|apply Ca|apply Cb|apply Cc|apply Cd|apply Ce|apply Cf|apply Cg|apply Ch|apply Ci|apply Bf|apply Cj|apply Ck|apply Cl|apply Cm|apply Cn|apply Co|apply Cp|(apply byR;with_unfolding_all rfl)|((first|apply byKt|apply byKs);kernel_rfl)|(apply byL;simp only [econs,List.map_cons,List.map_nil,List.cons_append,List.nil_append,OpS.nm,OpS.reads,OpS.turns,Nat.reduceAdd];try with_unfolding_all rfl)|(apply byG;intro hg;try simp only [hg])|(apply byQ;intro hq;try simp only [hqs] at hq;try (exfalso;omega))|(apply byI;intro K hK)|(apply byH;repeat (first|exact dst_z rfl|apply dst_s))|(apply byN;unfold NapOK;kernel_rfl)|(apply byD;first|(simp;done)|(simp [go_sem];done))|(refine hK _ _ ?_;clear hK;clear K)|omega|contradiction))
              refine ⟨⟨m + 1, gi⟩, id, ?_, by show L.length - (m + 1) < L.length - m; omega⟩
              simp only [hnx]
              simp only [go_sem, ↓reduceIte, hF]
          · obtain rfl : m = L.length := by omega
            simp only [List.take_length, hend]
            (with_reducible repeat' (first|exact trivial|(apply byE;simp only [go_sem, ↓reduceIte, Int.reduceNeg];try rfl)|apply Aa|apply As|apply Au|apply Av|apply Aj|apply At|apply Aw|apply Ab|apply Ac|apply Ad|apply Ae|apply Af|apply Ag|apply Ah|apply Ai|apply Ak|apply Al|apply rounds_s|((first|apply An|apply Ao);(case hs=>with_unfolding_all rfl))|apply Am|apply Ap|apply Aq|apply Ar|apply Ax|apply Ay|apply Az|apply Ba|apply Bb|apply Bc|apply Bd|apply Be|apply Ca|apply Cb|apply Cc|apply Cd|apply Ce|apply Cf|apply Cg|apply Ch|apply Ci|apply Bf|apply Cj|apply Ck|apply Cl|apply Cm|apply Cn|apply Co|apply Cp|(apply byR;with_unfolding_all rfl)|((first|apply byKt|apply byKs);kernel_rfl)|(apply byL;simp only [econs,List.map_cons,List.map_nil,List.cons_append,List.nil_append,OpS.nm,OpS.reads,OpS.turns,Nat.reduceAdd];try with_unfolding_all rfl)|(apply byG;intro hg;try simp only [hg])|(apply byQ;intro hq;try simp only [hqs] at hq;try (exfalso;omega))|(apply byI;intro K hK)|(apply byH;repeat (first|exact dst_z rfl|apply dst_s))|(apply byN;unfold NapOK;kernel_rfl)|(apply byD;first|(simp;done)|(simp [go_sem];done))|(refine hK _ _ ?_;clear hK;clear K)|omega|contradiction))
            have hpr : paidR c l = (payL c l.length L).out := by rw [paidR, if_pos he, hLe]
            rw [hpr, he]
            exact ⟨⟨⟨rfl, rows_len (F := r3row) (fun _ => rfl) _⟩, fzo_rows (F := r3row) (k := 3) (fun _ => rfl) (fun _ => by simp [r3row]) _ rfl⟩, rfl⟩
    · have he : checkE c l = 2 := by rw [checkE, if_neg (by rw [har]; decide), if_pos (by omega)]
      have hp : paidR c l = [] := by rw [paidR, if_neg (by rw [he]; decide)]
      rw [he, hp]
      by_cases h5 : (l.length : Int) > 2000
      · refine fun_W mixed Try.func18 rfl (Nat.le_of_ble_eq_true rfl) (by kernel_rfl) fun cx hN hR hF hL => ?_; apply args_k; (case hA => (simp only [go_sem, ↓reduceIte]; rfl))
        (with_reducible repeat' (first|exact trivial|(apply byE;simp only [go_sem, ↓reduceIte, har, eq_true h5, decide_eq_true h5];try rfl)|apply Aa|apply As|apply Au|apply Av|apply Aj|apply At|apply Aw|apply Ab|apply Ac|apply Ad|apply Ae|apply Af|apply Ag|apply Ah|apply Ai|apply Ak|apply Al|apply rounds_s|((first|apply An|apply Ao);(case hs=>with_unfolding_all rfl))|apply Am|apply Ap|apply Aq|apply Ar|apply Ax|apply Ay|apply Az|apply Ba|apply Bb|apply Bc|apply Bd|apply Be|apply Ca|apply Cb|apply Cc|apply Cd|apply Ce|apply Cf|apply Cg|apply Ch|apply Ci|apply Bf|apply Cj|apply Ck|apply Cl|apply Cm|apply Cn|apply Co|apply Cp|(apply byR;with_unfolding_all rfl)|((first|apply byKt|apply byKs);kernel_rfl)|(apply byL;simp only [econs,List.map_cons,List.map_nil,List.cons_append,List.nil_append,OpS.nm,OpS.reads,OpS.turns,Nat.reduceAdd];try with_unfolding_all rfl)|(apply byG;intro hg;try simp only [hg])|(apply byQ;intro hq;try simp only [hqs] at hq;try (exfalso;omega))|(apply byI;intro K hK)|(apply byH;repeat (first|exact dst_z rfl|apply dst_s))|(apply byN;unfold NapOK;kernel_rfl)|(apply byD;first|(simp;done)|(simp [go_sem];done))|(refine hK _ _ ?_;clear hK;clear K)|omega|(apply callX cl21 (rRight_f c l);(case hl=>with_unfolding_all rfl))|contradiction))
      · have h6 : (actsN l : Int) > 2000 := by omega
        refine fun_W mixed Try.func18 rfl (Nat.le_of_ble_eq_true rfl) (by kernel_rfl) fun cx hN hR hF hL => ?_; apply args_k; (case hA => (simp only [go_sem, ↓reduceIte]; rfl))
        (with_reducible repeat' (first|exact trivial|(apply byE;simp only [go_sem, ↓reduceIte, har, eq_false h5, decide_eq_false h5, eq_true h6, decide_eq_true h6];try rfl)|apply Aa|apply As|apply Au|apply Av|apply Aj|apply At|apply Aw|apply Ab|apply Ac|apply Ad|apply Ae|apply Af|apply Ag|apply Ah|apply Ai|apply Ak|apply Al|apply rounds_s|((first|apply An|apply Ao);(case hs=>with_unfolding_all rfl))|apply Am|apply Ap|apply Aq|apply Ar|apply Ax|apply Ay|apply Az|apply Ba|apply Bb|apply Bc|apply Bd|apply Be|apply Ca|apply Cb|apply Cc|apply Cd|apply Ce|apply Cf|apply Cg|apply Ch|apply Ci|apply Bf|apply Cj|apply Ck|apply Cl|apply Cm|apply Cn|apply Co|apply Cp|(apply byR;with_unfolding_all rfl)|((first|apply byKt|apply byKs);kernel_rfl)|(apply byL;simp only [econs,List.map_cons,List.map_nil,List.cons_append,List.nil_append,OpS.nm,OpS.reads,OpS.turns,Nat.reduceAdd];try with_unfolding_all rfl)|(apply byG;intro hg;try simp only [hg])|(apply byQ;intro hq;try simp only [hqs] at hq;try (exfalso;omega))|(apply byI;intro K hK)|(apply byH;repeat (first|exact dst_z rfl|apply dst_s))|(apply byN;unfold NapOK;kernel_rfl)|(apply byD;first|(simp;done)|(simp [go_sem];done))|(refine hK _ _ ?_;clear hK;clear K)|omega|(apply callX cl21 (rRight_f c l);(case hl=>with_unfolding_all rfl))|(apply callX cl40 (hac);(case hl=>with_unfolding_all rfl))|contradiction))
  · simp only [Bool.not_eq_true] at har
    have he : checkE c l = 1 := by rw [checkE, if_pos har]
    have hp : paidR c l = [] := by rw [paidR, if_neg (by rw [he]; decide)]
    rw [he, hp]
    refine fun_W mixed Try.func18 rfl (Nat.le_of_ble_eq_true rfl) (by kernel_rfl) fun cx hN hR hF hL => ?_; apply args_k; (case hA => (simp only [go_sem, ↓reduceIte]; rfl))
    (with_reducible repeat' (first|exact trivial|(apply byE;simp only [go_sem, ↓reduceIte, har];try rfl)|apply Aa|apply As|apply Au|apply Av|apply Aj|apply At|apply Aw|apply Ab|apply Ac|apply Ad|apply Ae|apply Af|apply Ag|apply Ah|apply Ai|apply Ak|apply Al|apply rounds_s|((first|apply An|apply Ao);(case hs=>with_unfolding_all rfl))|apply Am|apply Ap|apply Aq|apply Ar|apply Ax|apply Ay|apply Az|apply Ba|apply Bb|apply Bc|apply Bd|apply Be|apply Ca|apply Cb|apply Cc|apply Cd|apply Ce|apply Cf|apply Cg|apply Ch|apply Ci|apply Bf|apply Cj|apply Ck|apply Cl|apply Cm|apply Cn|apply Co|apply Cp|(apply byR;with_unfolding_all rfl)|((first|apply byKt|apply byKs);kernel_rfl)|(apply byL;simp only [econs,List.map_cons,List.map_nil,List.cons_append,List.nil_append,OpS.nm,OpS.reads,OpS.turns,Nat.reduceAdd];try with_unfolding_all rfl)|(apply byG;intro hg;try simp only [hg])|(apply byQ;intro hq;try simp only [hqs] at hq;try (exfalso;omega))|(apply byI;intro K hK)|(apply byH;repeat (first|exact dst_z rfl|apply dst_s))|(apply byN;unfold NapOK;kernel_rfl)|(apply byD;first|(simp;done)|(simp [go_sem];done))|(refine hK _ _ ?_;clear hK;clear K)|omega|(apply callX cl21 (rRight_f c l);(case hl=>with_unfolding_all rfl))|contradiction))
end Go.Proofs.Ytjplhfmakghabaa.V
