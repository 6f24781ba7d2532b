/- Contracts of the reference of chapter 19: Of. -/
-- STEPS: new
import Derived.Test.YtjplhfmakghabaaM2
import Derived.Test.YtjplhfmakghabaaN15
import Derived.Test.YtjplhfmakghabaaN17
set_option linter.unusedSimpArgs false
set_option linter.unusedVariables false
namespace Go.Proofs.Ytjplhfmakghabaa.V
open Go.RowKit
set_option maxRecDepth 100000
attribute [local go_sem] Option.toList_some Option.toList_none

set_option maxHeartbeats 8000000 in
theorem rOf_f (c : Cover) (l : List File) (hc : c.ok) (hl : l.length ≤ 100000) : Fun Try.prog 23 [.agg c.flat, filesA l] (.tup [possA (ofL c l), int (checkE c l)]) := by
  have hpd := rPaid_f c l hc hl
  by_cases he : checkE c l = 0
  · have hof := ofL_eq he
    obtain ⟨har, hn, -⟩ := chk_right he
    have har0 : c.rightB = true := by rw [adjRight, Bool.and_eq_true] at har; exact har.1
    obtain ⟨hR1, hR2⟩ := rows_ok he
    have hAB := AB.all he (paidR c l).length (Nat.le_refl _)
    have hAm := amtS_bd (R := paidR c l) (fun r hr => by obtain ⟨_, _, _, h⟩ := hR2 r hr; exact h) (paidR c l).length (Nat.le_refl _)
    rw [List.take_length] at hAB hAm
    rw [posR_fold l fun r hr => by
      obtain ⟨k, h1, h2, _⟩ := hR2 r hr
      exact ⟨k, h1, h2⟩] at hAB
    have hbd := paid_bds (R := paidR c l) fun r hr => by obtain ⟨_, _, _, h, _⟩ := hR2 r hr; omega
    have hB0 := paidB_zero (R := paidR c l) fun r hr => by obtain ⟨_, _, h, _⟩ := hR2 r hr; omega
    have hB1 := paidB_all (R := paidR c l) (n := l.length) fun r hr => by obtain ⟨_, _, h, _⟩ := hR2 r hr; omega
    have hrs := fun p (hp : p ∈ posR (paidR c l) l) => posR_res hp
    rw [he] at hpd
    rcases Nat.eq_zero_or_pos l.length with h0 | h0
    · obtain rfl := List.length_eq_zero_iff.1 h0
      have hpr : paidR c [] = [] := by rw [paidR, if_pos he]; rfl
      have hof2 : ofL c [] = [] := by rw [hof, hpr]; rfl
      rw [hpr] at hpd
      rw [hof2, he]
      refine fun_W mixed Try.func23 rfl (Nat.le_of_ble_eq_true rfl) (by kernel_rfl) fun cx hN hR hF hL => ?_; apply args_k; (case hA => (simp only [go_sem, ↓reduceIte]; rfl))
      (with_reducible repeat' (first|exact trivial|(apply byE;simp only [go_sem, ↓reduceIte];try rfl)|apply Aa|apply As|apply Au|apply Av|apply Aj|apply At|apply Aw|apply Ab|apply Ac|apply Ad|apply Ae|apply Af|apply Ag|apply Ah|apply Ai|apply Ak|apply Al|apply rounds_s|((first|apply An|apply Ao);(case hs=>with_unfolding_all rfl))|apply Am|apply Ap|apply Aq|apply Ar|apply Ax|apply Ay|apply Az|apply Ba|apply Bb|apply Bc|apply Bd|apply Be|apply Ca|apply Cb|apply Cc|apply Cd|apply Ce|apply Cf|apply Cg|apply Ch|apply Ci|apply Bf|apply Cj|apply Ck|apply Cl|apply Cm|apply Cn|apply Co|apply Cp|(apply byR;with_unfolding_all rfl)|((first|apply byKt|apply byKs);kernel_rfl)|(apply byL;simp only [econs,List.map_cons,List.map_nil,List.cons_append,List.nil_append,OpS.nm,OpS.reads,OpS.turns,Nat.reduceAdd];try with_unfolding_all rfl)|(apply byG;intro hg;try simp only [hg])|(apply byQ;intro hq;try simp only [hqs] at hq;try (exfalso;omega))|(apply byI;intro K hK)|(apply byH;repeat (first|exact dst_z rfl|apply dst_s))|(apply byN;unfold NapOK;kernel_rfl)|(apply byD;first|(simp;done)|(simp [go_sem];done))|(refine hK _ _ ?_;clear hK;clear K)|omega|(apply callX cl18 (hpd);(case hl=>with_unfolding_all rfl))|contradiction))
      refine loop_rounds mixed 1 (by rw [hN]; kernel_rfl) ?_
      (with_reducible repeat' (first|exact trivial|(apply byE;simp only [go_sem, ↓reduceIte];try rfl)|apply Aa|apply As|apply Au|apply Av|apply Aj|apply At|apply Aw|apply Ab|apply Ac|apply Ad|apply Ae|apply Af|apply Ag|apply Ah|apply Ai|apply Ak|apply Al|apply rounds_s|((first|apply An|apply Ao);(case hs=>with_unfolding_all rfl))|apply Am|apply Ap|apply Aq|apply Ar|apply Ax|apply Ay|apply Az|apply Ba|apply Bb|apply Bc|apply Bd|apply Be|apply Ca|apply Cb|apply Cc|apply Cd|apply Ce|apply Cf|apply Cg|apply Ch|apply Ci|apply Bf|apply Cj|apply Ck|apply Cl|apply Cm|apply Cn|apply Co|apply Cp|(apply byR;with_unfolding_all rfl)|((first|apply byKt|apply byKs);kernel_rfl)|(apply byL;simp only [econs,List.map_cons,List.map_nil,List.cons_append,List.nil_append,OpS.nm,OpS.reads,OpS.turns,Nat.reduceAdd];try with_unfolding_all rfl)|(apply byG;intro hg;try simp only [hg])|(apply byQ;intro hq;try simp only [hqs] at hq;try (exfalso;omega))|(apply byI;intro K hK)|(apply byH;repeat (first|exact dst_z rfl|apply dst_s))|(apply byN;unfold NapOK;kernel_rfl)|(apply byD;first|(simp;done)|(simp [go_sem];done))|(refine hK _ _ ?_;clear hK;clear K)|omega|contradiction))
      refine loop_rounds mixed 1 (by rw [hN]; kernel_rfl) ?_
      (with_reducible repeat' (first|exact trivial|(apply byE;simp only [go_sem, ↓reduceIte];try rfl)|apply Aa|apply As|apply Au|apply Av|apply Aj|apply At|apply Aw|apply Ab|apply Ac|apply Ad|apply Ae|apply Af|apply Ag|apply Ah|apply Ai|apply Ak|apply Al|apply rounds_s|((first|apply An|apply Ao);(case hs=>with_unfolding_all rfl))|apply Am|apply Ap|apply Aq|apply Ar|apply Ax|apply Ay|apply Az|apply Ba|apply Bb|apply Bc|apply Bd|apply Be|apply Ca|apply Cb|apply Cc|apply Cd|apply Ce|apply Cf|apply Cg|apply Ch|apply Ci|apply Bf|apply Cj|apply Ck|apply Cl|apply Cm|apply Cn|apply Co|apply Cp|(apply byR;with_unfolding_all rfl)|((first|apply byKt|apply byKs);kernel_rfl)|(apply byL;simp only [econs,List.map_cons,List.map_nil,List.cons_append,List.nil_append,OpS.nm,OpS.reads,OpS.turns,Nat.reduceAdd];try with_unfolding_all rfl)|(apply byG;intro hg;try simp only [hg])|(apply byQ;intro hq;try simp only [hqs] at hq;try (exfalso;omega))|(apply byI;intro K hK)|(apply byH;repeat (first|exact dst_z rfl|apply dst_s))|(apply byN;unfold NapOK;kernel_rfl)|(apply byD;first|(simp;done)|(simp [go_sem];done))|(refine hK _ _ ?_;clear hK;clear K)|omega|contradiction))
    · have hgd := fun f (hf : f ∈ l) => right_good har hf
      generalize paidR c l = R at *
      refine fun_W mixed Try.func23 rfl (Nat.le_of_ble_eq_true rfl) (by kernel_rfl) fun cx hN hR hF hL => ?_; apply args_k; (case hA => (simp only [go_sem, ↓reduceIte]; rfl))
      (with_reducible repeat' (first|exact trivial|(apply byE;simp only [go_sem, ↓reduceIte];try rfl)|apply Aa|apply As|apply Au|apply Av|apply Aj|apply At|apply Aw|apply Ab|apply Ac|apply Ad|apply Ae|apply Af|apply Ag|apply Ah|apply Ai|apply Ak|apply Al|apply rounds_s|((first|apply An|apply Ao);(case hs=>with_unfolding_all rfl))|apply Am|apply Ap|apply Aq|apply Ar|apply Ax|apply Ay|apply Az|apply Ba|apply Bb|apply Bc|apply Bd|apply Be|apply Ca|apply Cb|apply Cc|apply Cd|apply Ce|apply Cf|apply Cg|apply Ch|apply Ci|apply Bf|apply Cj|apply Ck|apply Cl|apply Cm|apply Cn|apply Co|apply Cp|(apply byR;with_unfolding_all rfl)|((first|apply byKt|apply byKs);kernel_rfl)|(apply byL;simp only [econs,List.map_cons,List.map_nil,List.cons_append,List.nil_append,OpS.nm,OpS.reads,OpS.turns,Nat.reduceAdd];try with_unfolding_all rfl)|(apply byG;intro hg;try simp only [hg])|(apply byQ;intro hq;try simp only [hqs] at hq;try (exfalso;omega))|(apply byI;intro K hK)|(apply byH;repeat (first|exact dst_z rfl|apply dst_s))|(apply byN;unfold NapOK;kernel_rfl)|(apply byD;first|(simp;done)|(simp [go_sem];done))|(refine hK _ _ ?_;clear hK;clear K)|omega|(apply callX cl18 (hpd);(case hl=>with_unfolding_all rfl))|contradiction))
      refine loop_nil 8 7000 6 38 rfl (Nat.le_of_ble_eq_true rfl) ?_
      refine loopW mixed (σ := {i : Nat // i ≤ l.length}) (fun s => ⟨[(10, int s.1), (9, int (paidB R s.1)), (8, .osl 7000 6 0 s.1), (6, rowsA R), (1, filesA l), (2, .ptr 0 0)], [(7000, some ⟨38, rowC Pos.flat (posR R (l.take s.1))⟩), (0, some ⟨23, c.flat⟩)], 7001⟩) (fun s => l.length - s.1) id ⟨0, by omega⟩ (by rw [hN]; kernel_rfl) ?_ ?_
      · simp only [go_sem, ↓reduceIte, hF]
        exact ⟨⟨rfl, hB0.symm⟩, rfl⟩
      · rintro ⟨i, h1⟩
        by_cases hi : i < l.length
        · have e0 : l[i]? = some l[i] := List.getElem?_eq_getElem hi
          have e1 : (l.map File.flat)[i]? = some l[i].flat := by rw [List.getElem?_map, e0]; rfl
          have e2 : IntKind.i64.wrap ((i : Int) + 1) = ((i + 1 : Nat) : Int) := by rw [wrap_id] <;> omega
          have hk1 : i < (l.map File.flat).length := by simpa using hi
          have hsn := posR_snoc R e0
          have hg := hgd _ (List.getElem_mem hi)
          have hst := rStand_f l[i] (Nat.le_trans hg.len (by omega))
          have hln := rowO_len (posR R (l.take i))
          rw [posR_len, List.length_take, Nat.min_eq_left h1] at hln
          have hbi := hbd i
          generalize l[i] = f at *
          (with_reducible repeat' (first|exact trivial|(apply byE;simp only [go_sem, ↓reduceIte, e1, e2, hk1];try rfl)|apply Aa|apply As|apply Au|apply Av|apply Aj|apply At|apply Aw|apply Ab|apply Ac|apply Ad|apply Ae|apply Af|apply Ag|apply Ah|apply Ai|apply Ak|apply Al|apply rounds_s|((first|apply An|apply Ao);(case hs=>with_unfolding_all rfl))|apply Am|apply Ap|apply Aq|apply Ar|apply Ax|apply Ay|apply Az|apply Ba|apply Bb|apply Bc|apply Bd|apply Be|apply Ca|apply Cb|apply Cc|apply Cd|apply Ce|apply Cf|apply Cg|apply Ch|apply Ci|apply Bf|apply Cj|apply Ck|apply Cl|apply Cm|apply Cn|apply Co|apply Cp|(apply byR;with_unfolding_all rfl)|((first|apply byKt|apply byKs);kernel_rfl)|(apply byL;simp only [econs,List.map_cons,List.map_nil,List.cons_append,List.nil_append,OpS.nm,OpS.reads,OpS.turns,Nat.reduceAdd];try with_unfolding_all rfl)|(apply byG;intro hg;try simp only [hg])|(apply byQ;intro hq;try simp only [hqs] at hq;try (exfalso;omega))|(apply byI;intro K hK)|(apply byH;repeat (first|exact dst_z rfl|apply dst_s))|(apply byN;unfold NapOK;kernel_rfl)|(apply byD;first|(simp;done)|(simp [go_sem];done))|(refine hK _ _ ?_;clear hK;clear K)|omega|(apply callX cl56 (hst);(case hl=>with_unfolding_all rfl))|contradiction))
          refine loopW mixed (σ := {j : Nat // j ≤ R.length}) (fun t => ⟨[(12, int t.1), (9, int (paidB R i + paidK (R.take t.1) i)), (11, .ptr 8041 0), (10, int i), (8, .osl 7000 6 0 i), (6, rowsA R), (1, filesA l), (2, .ptr 0 0)], [(8041, some ⟨38, ({ standP f.acts with paid := paidK (R.take t.1) i } : Pos).flat⟩), (7000, some ⟨38, rowC Pos.flat (posR R (l.take i))⟩), (0, some ⟨23, c.flat⟩)], 10001⟩) (fun t => R.length - t.1) id ⟨0, by omega⟩ (by rw [hN]; kernel_rfl) ?_ ?_
          · simp only [go_sem, ↓reduceIte, hF]
            simp [paidK, standP]
          · rintro ⟨j, g1⟩
            by_cases gj : j < R.length
            · have f0 : R[j]? = some R[j] := List.getElem?_eq_getElem gj
              have f1 : (R.map r3row)[j]? = some (r3row R[j]) := by rw [List.getElem?_map, f0]; rfl
              have f2 : IntKind.i64.wrap ((j : Int) + 1) = ((j + 1 : Nat) : Int) := by rw [wrap_id] <;> omega
              have hk2 : j < (R.map r3row).length := by simpa using gj
              have hsj := paidK_snoc (R.take j) R[j] i
              rw [← List.take_succ_eq_append_getElem gj] at hsj
              have b1 := hbi j
              have b2 := hbi (j + 1)
              generalize R[j] = r at *
              obtain ⟨rk, rb, ra⟩ := r
              simp only at hsj
              by_cases hk : rk = (i : Int)
              · rw [if_pos hk] at hsj
                have w1 : IntKind.i64.wrap (paidK (R.take j) i + ra) = paidK (R.take j) i + ra := by rw [wrap_id] <;> omega
                have w2 : IntKind.i64.wrap (paidB R i + paidK (R.take j) i + ra) = paidB R i + (paidK (R.take j) i + ra) := by rw [wrap_id] <;> omega
                (with_reducible repeat' (first|exact trivial|(apply byE;simp only [go_sem, ↓reduceIte, f1, f2, hk2, eq_true hk, decide_eq_true hk, w1, w2, Int.toNat_zero, Int.reduceToNat];try rfl)|apply Aa|apply As|apply Au|apply Av|apply Aj|apply At|apply Aw|apply Ab|apply Ac|apply Ad|apply Ae|apply Af|apply Ag|apply Ah|apply Ai|apply Ak|apply Al|apply rounds_s|((first|apply An|apply Ao);(case hs=>with_unfolding_all rfl))|apply Am|apply Ap|apply Aq|apply Ar|apply Ax|apply Ay|apply Az|apply Ba|apply Bb|apply Bc|apply Bd|apply Be|apply Ca|apply Cb|apply Cc|apply Cd|apply Ce|apply Cf|apply Cg|apply Ch|apply Ci|apply Bf|apply Cj|apply Ck|apply Cl|apply Cm|apply Cn|apply Co|apply Cp|(apply byR;with_unfolding_all rfl)|((first|apply byKt|apply byKs);kernel_rfl)|(apply byL;simp only [econs,List.map_cons,List.map_nil,List.cons_append,List.nil_append,OpS.nm,OpS.reads,OpS.turns,Nat.reduceAdd];try with_unfolding_all rfl)|(apply byG;intro hg;try simp only [hg])|(apply byQ;intro hq;try simp only [hqs] at hq;try (exfalso;omega))|(apply byI;intro K hK)|(apply byH;repeat (first|exact dst_z rfl|apply dst_s))|(apply byN;unfold NapOK;kernel_rfl)|(apply byD;first|(simp;done)|(simp [go_sem];done))|(refine hK _ _ ?_;clear hK;clear K)|omega|contradiction))
                refine ⟨⟨j + 1, gj⟩, id, ?_, by show R.length - (j + 1) < R.length - j; omega⟩
                simp only [hsj]
                simp only [go_sem, ↓reduceIte, hF]
              · rw [if_neg hk, Int.add_zero] at hsj
                (with_reducible repeat' (first|exact trivial|(apply byE;simp only [go_sem, ↓reduceIte, f1, f2, hk2, eq_false hk, decide_eq_false hk, Int.toNat_zero, Int.reduceToNat];try rfl)|apply Aa|apply As|apply Au|apply Av|apply Aj|apply At|apply Aw|apply Ab|apply Ac|apply Ad|apply Ae|apply Af|apply Ag|apply Ah|apply Ai|apply Ak|apply Al|apply rounds_s|((first|apply An|apply Ao);(case hs=>with_unfolding_all rfl))|apply Am|apply Ap|apply Aq|apply Ar|apply Ax|apply Ay|apply Az|apply Ba|apply Bb|apply Bc|apply Bd|apply Be|apply Ca|apply Cb|apply Cc|apply Cd|apply Ce|apply Cf|apply Cg|apply Ch|apply Ci|apply Bf|apply Cj|apply Ck|apply Cl|apply Cm|apply Cn|apply Co|apply Cp|(apply byR;with_unfolding_all rfl)|((first|apply byKt|apply byKs);kernel_rfl)|(apply byL;simp only [econs,List.map_cons,List.map_nil,List.cons_append,List.nil_append,OpS.nm,OpS.reads,OpS.turns,Nat.reduceAdd];try with_unfolding_all rfl)|(apply byG;intro hg;try simp only [hg])|(apply byQ;intro hq;try simp only [hqs] at hq;try (exfalso;omega))|(apply byI;intro K hK)|(apply byH;repeat (first|exact dst_z rfl|apply dst_s))|(apply byN;unfold NapOK;kernel_rfl)|(apply byD;first|(simp;done)|(simp [go_sem];done))|(refine hK _ _ ?_;clear hK;clear K)|omega|contradiction))
                refine ⟨⟨j + 1, gj⟩, id, ?_, by show R.length - (j + 1) < R.length - j; omega⟩
                simp only [hsj]
                simp only [go_sem, ↓reduceIte, hF]
            · obtain rfl : j = R.length := by omega
              have hpb : paidB R i + paidK R i = paidB R (i + 1) := (paidB_succ R i).symm
              simp only [List.take_length, hpb]
              (with_reducible repeat' (first|exact trivial|(apply byE;simp only [go_sem, ↓reduceIte, e2];try rfl)|apply Aa|apply As|apply Au|apply Av|apply Aj|apply At|apply Aw|apply Ab|apply Ac|apply Ad|apply Ae|apply Af|apply Ag|apply Ah|apply Ai|apply Ak|apply Al|apply rounds_s|((first|apply An|apply Ao);(case hs=>with_unfolding_all rfl))|apply Am|apply Ap|apply Aq|apply Ar|apply Ax|apply Ay|apply Az|apply Ba|apply Bb|apply Bc|apply Bd|apply Be|apply Ca|apply Cb|apply Cc|apply Cd|apply Ce|apply Cf|apply Cg|apply Ch|apply Ci|apply Bf|apply Cj|apply Ck|apply Cl|apply Cm|apply Cn|apply Co|apply Cp|(apply byR;with_unfolding_all rfl)|((first|apply byKt|apply byKs);kernel_rfl)|(apply byL;simp only [econs,List.map_cons,List.map_nil,List.cons_append,List.nil_append,OpS.nm,OpS.reads,OpS.turns,Nat.reduceAdd];try with_unfolding_all rfl)|(apply byG;intro hg;try simp only [hg])|(apply byQ;intro hq;try simp only [hqs] at hq;try (exfalso;omega))|(apply byI;intro K hK)|(apply byH;repeat (first|exact dst_z rfl|apply dst_s))|(apply byN;unfold NapOK;kernel_rfl)|(apply byD;first|(simp;done)|(simp [go_sem];done))|(refine hK _ _ ?_;clear hK;clear K)|omega|contradiction))
              · refine ⟨⟨i + 1, hi⟩, nm1 7000 11025, ?_, by show l.length - (i + 1) < l.length - i; omega⟩
                simp only [hsn, rowO_snoc]
                simp only [go_sem, ↓reduceIte, hF, List.map_append, List.all_append]
              · exact ⟨hln, by simp [maxLen]; omega⟩
        · obtain rfl : i = l.length := by omega
          simp only [List.take_length, hB1]
          have hPl := hAB.len
          have hpd0 := fun p (hp : p ∈ posR R l) => hAB.pd p hp
          have hpg := fun p (hp : p ∈ posR R l) => hAB.gr p hp
          have hub := uAt_bd (c := c) har0 (fun p hp => (hpd0 p hp).1) hAm.1
          generalize posR R l = P at *
          (with_reducible repeat' (first|exact trivial|(apply byE;simp only [go_sem, ↓reduceIte];try rfl)|apply Aa|apply As|apply Au|apply Av|apply Aj|apply At|apply Aw|apply Ab|apply Ac|apply Ad|apply Ae|apply Af|apply Ag|apply Ah|apply Ai|apply Ak|apply Al|apply rounds_s|((first|apply An|apply Ao);(case hs=>with_unfolding_all rfl))|apply Am|apply Ap|apply Aq|apply Ar|apply Ax|apply Ay|apply Az|apply Ba|apply Bb|apply Bc|apply Bd|apply Be|apply Ca|apply Cb|apply Cc|apply Cd|apply Ce|apply Cf|apply Cg|apply Ch|apply Ci|apply Bf|apply Cj|apply Ck|apply Cl|apply Cm|apply Cn|apply Co|apply Cp|(apply byR;with_unfolding_all rfl)|((first|apply byKt|apply byKs);kernel_rfl)|(apply byL;simp only [econs,List.map_cons,List.map_nil,List.cons_append,List.nil_append,OpS.nm,OpS.reads,OpS.turns,Nat.reduceAdd];try with_unfolding_all rfl)|(apply byG;intro hg;try simp only [hg])|(apply byQ;intro hq;try simp only [hqs] at hq;try (exfalso;omega))|(apply byI;intro K hK)|(apply byH;repeat (first|exact dst_z rfl|apply dst_s))|(apply byN;unfold NapOK;kernel_rfl)|(apply byD;first|(simp;done)|(simp [go_sem];done))|(refine hK _ _ ?_;clear hK;clear K)|omega|contradiction))
          refine loopW mixed (σ := {i : Nat // i ≤ l.length}) (fun s => ⟨[(13, int s.1), (9, int (uAt c (amtS R) P s.1)), (8, .osl 7000 6 0 l.length), (2, .ptr 0 0)], [(7000, some ⟨38, rowC Pos.flat (heldI c (amtS R) P s.1)⟩), (0, some ⟨23, c.flat⟩)], 9001⟩) (fun s => l.length - s.1) id ⟨0, by omega⟩ (by rw [hN]; kernel_rfl) ?_ ?_
          · simp only [go_sem, ↓reduceIte, hF]
            exact ⟨⟨rfl, (uAt_zero _ _ _).symm⟩, by rw [heldI_zero]⟩
          · rintro ⟨i, i1⟩
            by_cases hi : i < l.length
            · have e0 : P[i]? = some P[i] := List.getElem?_eq_getElem (by omega)
              have hpm : P[i] ∈ P := List.getElem_mem _
              have b1 := heldI_at (c := c) (u := amtS R) e0
              have b2 := heldI_succ (c := c) (u := amtS R) e0
              have b3 := uAt_succ c P (amtS R) i _ e0
              have b4 := hub i (by omega)
              have b5 := heldI_len c (amtS R) P i
              have e2 : IntKind.i64.wrap ((i : Int) + 1) = ((i + 1 : Nat) : Int) := by rw [wrap_id] <;> omega
              generalize P[i] = p at *
              have q1 := hpd0 p hpm
              have q2 := hpg p hpm
              have q3 := hrs p hpm
              have b6 := heldOne_bd har0 (uAt c (amtS R) P i) p q1.1
              have hln := rowO_len (heldI c (amtS R) P i)
              have z1 := rowO_nz (l := heldI c (amtS R) P i) (by omega)
              rw [b5, hPl] at hln
              generalize uAt c (amtS R) P i = u at *
              obtain ⟨pg, ps, pd, pk, pr, po⟩ := p
              simp only at q1 q2 q3 e0
              subst q3
              have hcv := cvRight_iff.1 har0
              have w1 : IntKind.i64.wrap (u - pd) = u - pd := by rw [wrap_id] <;> omega
              have hpy := rPays_f c pg (u - pd) hc (by unfold Int64; omega) (by unfold Int64; omega)
              have hw := worth0_bd (c := c) har0 pg
              have hpb : 0 ≤ pays c pg (u - pd) ∧ pays c pg (u - pd) ≤ 1000000000000000 := by
                unfold pays
                split <;> omega
              have b7 : heldOne c u ⟨pg, ps, pd, pk, 0, po⟩ = if po then max 0 (pays c pg (u - pd) - pd) else 0 := rfl
              have b8 : heldP c u ⟨pg, ps, pd, pk, 0, po⟩ = ⟨pg, ps, pd, pk, if po then heldOne c u ⟨pg, ps, pd, pk, 0, po⟩ else 0, po⟩ := rfl
              have c0 : (rowC Pos.flat (heldI c (amtS R) P i))[i * 6 + 0]? = some (int pg) := rowO_cell b1 (by omega)
              have c1 : (rowC Pos.flat (heldI c (amtS R) P i))[i * 6 + 2]? = some (int pd) := rowO_cell b1 (by omega)
              have c5 : (rowC Pos.flat (heldI c (amtS R) P i))[i * 6 + 5]? = some (bool po) := rowO_cell b1 (by omega)
              rw [Nat.add_zero] at c0
              generalize pays c pg (u - pd) = pw at *
              have stay : heldOne c u ⟨pg, ps, pd, pk, 0, po⟩ = 0 → heldI c (amtS R) P (i + 1) = heldI c (amtS R) P i := by
                intro h
                rw [b2, b8, h, ite_self]
                apply List.ext_getElem?
                intro j
                rw [List.getElem?_set]
                split
                · rename_i h; subst h; rw [b1]; simp; omega
                · rfl
              cases po with
              | false =>
                simp only [Bool.false_eq_true, if_false] at b7
                have b9 := stay b7
                rw [b7, Int.add_zero] at b3
                (with_reducible repeat' (first|exact trivial|(apply byE;simp only [go_sem, ↓reduceIte, e2, c0, c1, c5, hln, z1, hi, le6, w1];try rfl)|apply Aa|apply As|apply Au|apply Av|apply Aj|apply At|apply Aw|apply Ab|apply Ac|apply Ad|apply Ae|apply Af|apply Ag|apply Ah|apply Ai|apply Ak|apply Al|apply rounds_s|((first|apply An|apply Ao);(case hs=>with_unfolding_all rfl))|apply Am|apply Ap|apply Aq|apply Ar|apply Ax|apply Ay|apply Az|apply Ba|apply Bb|apply Bc|apply Bd|apply Be|apply Ca|apply Cb|apply Cc|apply Cd|apply Ce|apply Cf|apply Cg|apply Ch|apply Ci|apply Bf|apply Cj|apply Ck|apply Cl|apply Cm|apply Cn|apply Co|apply Cp|(apply byR;with_unfolding_all rfl)|((first|apply byKt|apply byKs);kernel_rfl)|(apply byL;simp only [econs,List.map_cons,List.map_nil,List.cons_append,List.nil_append,OpS.nm,OpS.reads,OpS.turns,Nat.reduceAdd];try with_unfolding_all rfl)|(apply byG;intro hg;try simp only [hg])|(apply byQ;intro hq;try simp only [hqs] at hq;try (exfalso;omega))|(apply byI;intro K hK)|(apply byH;repeat (first|exact dst_z rfl|apply dst_s))|(apply byN;unfold NapOK;kernel_rfl)|(apply byD;first|(simp;done)|(simp [go_sem];done))|(refine hK _ _ ?_;clear hK;clear K)|omega|(apply callX cl46 (hpy);(case hl=>with_unfolding_all rfl))|contradiction))
                refine ⟨⟨i + 1, hi⟩, id, ?_, by show l.length - (i + 1) < l.length - i; omega⟩
                simp only [b9, b3]
                simp only [go_sem, ↓reduceIte, hF]
              | true =>
                simp only [if_true] at b7 b8
                have w2 : IntKind.i64.wrap (pw - pd) = pw - pd := by rw [wrap_id] <;> omega
                by_cases hw2 : pw > pd
                · have b10 : heldOne c u ⟨pg, ps, pd, pk, 0, true⟩ = pw - pd := by rw [b7]; omega
                  rw [b10] at b3 b8
                  rw [b8] at b2
                  have w3 : IntKind.i64.wrap (u + (pw - pd)) = u + (pw - pd) := by rw [wrap_id] <;> omega
                  have c2 : List.take (i * 6 + 4) (rowC Pos.flat (heldI c (amtS R) P i)) ++ [int (pw - pd)] ++ List.drop (i * 6 + 4 + 1) (rowC Pos.flat (heldI c (amtS R) P i)) = rowC Pos.flat ((heldI c (amtS R) P i).set i ⟨pg, ps, pd, pk, pw - pd, true⟩) := rowO_put b1 (by omega) _ rfl
                  have c4 : (rowC Pos.flat ((heldI c (amtS R) P i).set i ⟨pg, ps, pd, pk, pw - pd, true⟩))[i * 6 + 4]? = some (int (pw - pd)) := rowO_cell (x := ⟨pg, ps, pd, pk, pw - pd, true⟩) (by rw [List.getElem?_set_self (by rw [b5, hPl]; exact hi)]) (by omega)
                  have hln2 := rowO_len ((heldI c (amtS R) P i).set i ⟨pg, ps, pd, pk, pw - pd, true⟩)
                  rw [List.length_set, b5, hPl] at hln2
                  have z2 := rowO_nz (l := (heldI c (amtS R) P i).set i ⟨pg, ps, pd, pk, pw - pd, true⟩) (by rw [List.length_set, b5, hPl]; omega)
                  (with_reducible repeat' (first|exact trivial|(apply byE;simp only [go_sem, ↓reduceIte, e2, c0, c1, c5, c2, c4, hln, hln2, z1, z2, hi, le6, w1, w2, w3, eq_true hw2, decide_eq_true hw2];try rfl)|apply Aa|apply As|apply Au|apply Av|apply Aj|apply At|apply Aw|apply Ab|apply Ac|apply Ad|apply Ae|apply Af|apply Ag|apply Ah|apply Ai|apply Ak|apply Al|apply rounds_s|((first|apply An|apply Ao);(case hs=>with_unfolding_all rfl))|apply Am|apply Ap|apply Aq|apply Ar|apply Ax|apply Ay|apply Az|apply Ba|apply Bb|apply Bc|apply Bd|apply Be|apply Ca|apply Cb|apply Cc|apply Cd|apply Ce|apply Cf|apply Cg|apply Ch|apply Ci|apply Bf|apply Cj|apply Ck|apply Cl|apply Cm|apply Cn|apply Co|apply Cp|(apply byR;with_unfolding_all rfl)|((first|apply byKt|apply byKs);kernel_rfl)|(apply byL;simp only [econs,List.map_cons,List.map_nil,List.cons_append,List.nil_append,OpS.nm,OpS.reads,OpS.turns,Nat.reduceAdd];try with_unfolding_all rfl)|(apply byG;intro hg;try simp only [hg])|(apply byQ;intro hq;try simp only [hqs] at hq;try (exfalso;omega))|(apply byI;intro K hK)|(apply byH;repeat (first|exact dst_z rfl|apply dst_s))|(apply byN;unfold NapOK;kernel_rfl)|(apply byD;first|(simp;done)|(simp [go_sem];done))|(refine hK _ _ ?_;clear hK;clear K)|omega|(apply callX cl46 (hpy);(case hl=>with_unfolding_all rfl))|contradiction))
                  refine ⟨⟨i + 1, hi⟩, id, ?_, by show l.length - (i + 1) < l.length - i; omega⟩
                  simp only [b2, b3]
                  simp only [go_sem, ↓reduceIte, hF]
                · have b10 : heldOne c u ⟨pg, ps, pd, pk, 0, true⟩ = 0 := by rw [b7]; omega
                  have b9 := stay b10
                  rw [b10, Int.add_zero] at b3
                  (with_reducible repeat' (first|exact trivial|(apply byE;simp only [go_sem, ↓reduceIte, e2, c0, c1, c5, hln, z1, hi, le6, w1, eq_false hw2, decide_eq_false hw2];try rfl)|apply Aa|apply As|apply Au|apply Av|apply Aj|apply At|apply Aw|apply Ab|apply Ac|apply Ad|apply Ae|apply Af|apply Ag|apply Ah|apply Ai|apply Ak|apply Al|apply rounds_s|((first|apply An|apply Ao);(case hs=>with_unfolding_all rfl))|apply Am|apply Ap|apply Aq|apply Ar|apply Ax|apply Ay|apply Az|apply Ba|apply Bb|apply Bc|apply Bd|apply Be|apply Ca|apply Cb|apply Cc|apply Cd|apply Ce|apply Cf|apply Cg|apply Ch|apply Ci|apply Bf|apply Cj|apply Ck|apply Cl|apply Cm|apply Cn|apply Co|apply Cp|(apply byR;with_unfolding_all rfl)|((first|apply byKt|apply byKs);kernel_rfl)|(apply byL;simp only [econs,List.map_cons,List.map_nil,List.cons_append,List.nil_append,OpS.nm,OpS.reads,OpS.turns,Nat.reduceAdd];try with_unfolding_all rfl)|(apply byG;intro hg;try simp only [hg])|(apply byQ;intro hq;try simp only [hqs] at hq;try (exfalso;omega))|(apply byI;intro K hK)|(apply byH;repeat (first|exact dst_z rfl|apply dst_s))|(apply byN;unfold NapOK;kernel_rfl)|(apply byD;first|(simp;done)|(simp [go_sem];done))|(refine hK _ _ ?_;clear hK;clear K)|omega|(apply callX cl46 (hpy);(case hl=>with_unfolding_all rfl))|contradiction))
                  refine ⟨⟨i + 1, hi⟩, id, ?_, by show l.length - (i + 1) < l.length - i; omega⟩
                  simp only [b9, b3]
                  simp only [go_sem, ↓reduceIte, hF]
            · obtain rfl : i = l.length := by omega
              (with_reducible repeat' (first|exact trivial|(apply byE;simp only [go_sem, ↓reduceIte];try rfl)|apply Aa|apply As|apply Au|apply Av|apply Aj|apply At|apply Aw|apply Ab|apply Ac|apply Ad|apply Ae|apply Af|apply Ag|apply Ah|apply Ai|apply Ak|apply Al|apply rounds_s|((first|apply An|apply Ao);(case hs=>with_unfolding_all rfl))|apply Am|apply Ap|apply Aq|apply Ar|apply Ax|apply Ay|apply Az|apply Ba|apply Bb|apply Bc|apply Bd|apply Be|apply Ca|apply Cb|apply Cc|apply Cd|apply Ce|apply Cf|apply Cg|apply Ch|apply Ci|apply Bf|apply Cj|apply Ck|apply Cl|apply Cm|apply Cn|apply Co|apply Cp|(apply byR;with_unfolding_all rfl)|((first|apply byKt|apply byKs);kernel_rfl)|(apply byL;simp only [econs,List.map_cons,List.map_nil,List.cons_append,List.nil_append,OpS.nm,OpS.reads,OpS.turns,Nat.reduceAdd];try with_unfolding_all rfl)|(apply byG;intro hg;try simp only [hg])|(apply byQ;intro hq;try simp only [hqs] at hq;try (exfalso;omega))|(apply byI;intro K hK)|(apply byH;repeat (first|exact dst_z rfl|apply dst_s))|(apply byN;unfold NapOK;kernel_rfl)|(apply byD;first|(simp;done)|(simp [go_sem];done))|(refine hK _ _ ?_;clear hK;clear K)|omega|contradiction))
              rw [hof, he]
              have hha := heldI_all c (amtS R) P
              rw [hPl] at hha
              rw [hha]
              have hhl : l.length = (heldL c (amtS R) P).length := by rw [heldL_len, hPl]
              exact ⟨⟨⟨hhl, rows_len pos_len _⟩, fzo_rows pos_len pos_data _ hhl⟩, rfl⟩
  · have hof : ofL c l = [] := by rw [ofL, if_neg he]
    have hp : paidR c l = [] := by rw [paidR, if_neg he]
    rw [hp] at hpd
    rw [hof]
    refine fun_W mixed Try.func23 rfl (Nat.le_of_ble_eq_true rfl) (by kernel_rfl) fun cx hN hR hF hL => ?_; apply args_k; (case hA => (simp only [go_sem, ↓reduceIte]; rfl))
    (with_reducible repeat' (first|exact trivial|(apply byE;simp only [go_sem, ↓reduceIte, eq_false he, decide_eq_false he];try rfl)|apply Aa|apply As|apply Au|apply Av|apply Aj|apply At|apply Aw|apply Ab|apply Ac|apply Ad|apply Ae|apply Af|apply Ag|apply Ah|apply Ai|apply Ak|apply Al|apply rounds_s|((first|apply An|apply Ao);(case hs=>with_unfolding_all rfl))|apply Am|apply Ap|apply Aq|apply Ar|apply Ax|apply Ay|apply Az|apply Ba|apply Bb|apply Bc|apply Bd|apply Be|apply Ca|apply Cb|apply Cc|apply Cd|apply Ce|apply Cf|apply Cg|apply Ch|apply Ci|apply Bf|apply Cj|apply Ck|apply Cl|apply Cm|apply Cn|apply Co|apply Cp|(apply byR;with_unfolding_all rfl)|((first|apply byKt|apply byKs);kernel_rfl)|(apply byL;simp only [econs,List.map_cons,List.map_nil,List.cons_append,List.nil_append,OpS.nm,OpS.reads,OpS.turns,Nat.reduceAdd];try with_unfolding_all rfl)|(apply byG;intro hg;try simp only [hg])|(apply byQ;intro hq;try simp only [hqs] at hq;try (exfalso;omega))|(apply byI;intro K hK)|(apply byH;repeat (first|exact dst_z rfl|apply dst_s))|(apply byN;unfold NapOK;kernel_rfl)|(apply byD;first|(simp;done)|(simp [go_sem];done))|(refine hK _ _ ?_;clear hK;clear K)|omega|(apply callX cl18 (hpd);(case hl=>with_unfolding_all rfl))|contradiction))
end Go.Proofs.Ytjplhfmakghabaa.V
