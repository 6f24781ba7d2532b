/- Laws of chapter 20: Days, Ends. -/
-- STEPS: new
import Derived.Test.YtjplhfmakghabaaU8
import Derived.Test.YtjplhfmakghabaaU10
set_option linter.unusedSimpArgs false
set_option linter.unusedVariables false
namespace Go.Proofs.Ytjplhfmakghabaa.V
open Go.RowKit
set_option maxRecDepth 100000
attribute [local go_sem] Option.toList_some Option.toList_none

set_option maxHeartbeats 4000000 in
theorem daysLaw (c : Cover) (l : List File) (d : Int) (hc : c.ok) : Fun Try.prog 11 [.agg c.flat, filesA l, int d] (bool true) := by
  by_cases hf : few20 l = true
  · obtain ⟨h1, h2⟩ := few20_is hf
    have ha : ∀ f, f ∈ l → f.acts.length ≤ 100000 := fun f hf => Nat.le_trans (h2 f hf) (by omega)
    have k1 := curves_f c l hc (by omega)
    have k2 := resAt_f c l d hc (by omega) ha
    by_cases he : cvE c l = 0
    · obtain ⟨p1, p2, p3⟩ := paid_curve he
      obtain ⟨q1, q2, q3⟩ := held_curve he
      have hck := check_known (cv_ok he) d
      have hE : atE c l d = 0 := by rw [atE, if_pos (cv_ok he), hck]
      have hP : atP c l d = sumP (ofL c (knownR l d)) := by rw [atP, if_pos ⟨cv_ok he, hck⟩]
      rw [hE, hP] at k2
      rw [he] at k1
      have s1 := stepRight_f p1
      have s2 := stepRight_f q1
      have s3 := stepAt_f p1 p2 d
      have s4 := stepAt_f q1 q2 d
      by_cases hd : 1 ≤ d ∧ d ≤ 292194
      · rw [p3 d hd.2] at s3
        rw [q3 d hd.2] at s4
        unfold valD at s3 s4
        generalize sumP (ofL c (knownR l d)) = q at *
        generalize cvO Pos.paid c l = A at *
        generalize cvO Pos.reserve c l = B at *
        obtain ⟨x1, x2, x3, x4, x5, x6⟩ := q
        have c1 : (d < 1) = False := eq_false (by omega)
        have c2 : (d > 292194) = False := eq_false (by omega)
        refine fun_W mixed Try.func11 rfl (Nat.le_of_ble_eq_true rfl) (by kernel_rfl) fun cx hN hR hF hL => ?_; apply args_k; (case hA => (simp only [go_sem, ↓reduceIte]; rfl))
        (with_reducible repeat' (first|exact trivial|(apply byE;simp only [go_sem, ↓reduceIte, hf, c1, c2, decide_eq_false (of_eq_false c1), decide_eq_false (of_eq_false c2)];try rfl)|apply Aa|apply As|apply Au|apply Av|apply Aj|apply At|apply Aw|apply Ab|apply Ac|apply Ad|apply Ae|apply Af|apply Ag|apply Ah|apply Ai|apply Ak|apply Al|((first|apply An|apply Ao);(case hs=>with_unfolding_all rfl))|apply Am|apply Ap|apply Aq|apply Ar|apply Ax|apply Ay|apply Az|apply Ba|apply Bb|apply Bc|apply Bd|apply Be|apply Ca|apply Cb|apply Cc|apply Cd|apply Ce|apply Cf|apply Cg|apply Ch|apply Ci|apply Bf|apply Cj|apply Ck|apply Cl|apply Cm|apply Cn|apply Co|apply Cp|(apply byR;with_unfolding_all rfl)|((first|apply byKt|apply byKs);kernel_rfl)|(apply byL;simp only [econs,List.map_cons,List.map_nil,List.cons_append,List.nil_append,OpS.nm,OpS.reads,OpS.turns,Nat.reduceAdd];try with_unfolding_all rfl)|(apply byG;intro hg;try simp only [hg])|(apply byQ;intro hq;try simp only [hqs] at hq;try (exfalso;omega))|(apply byI;intro K hK)|(apply byH;repeat (first|exact dst_z rfl|apply dst_s))|(apply byN;unfold NapOK;kernel_rfl)|(apply byD;first|(simp;done)|(simp [go_sem];done))|(refine hK _ _ ?_;clear hK;clear K)|omega|(apply callX cl29 (awake_f);(case hl=>with_unfolding_all rfl))|(apply callX cl30 (few20_f l);(case hl=>with_unfolding_all rfl))|(apply callX cl36 (k1);(case hl=>with_unfolding_all rfl))|(apply callX cl31 (k2);(case hl=>with_unfolding_all rfl))|(apply callX cl37 (s1);(case hl=>with_unfolding_all rfl))|(apply callX cl37 (s2);(case hl=>with_unfolding_all rfl))|(apply callX cl38 (s3);(case hl=>with_unfolding_all rfl))|(apply callX cl38 (s4);(case hl=>with_unfolding_all rfl))|contradiction))
      · generalize sumP (ofL c (knownR l d)) = q at *
        generalize cvO Pos.paid c l = A at *
        generalize cvO Pos.reserve c l = B at *
        obtain ⟨x1, x2, x3, x4, x5, x6⟩ := q
        by_cases h1 : d < 1
        · refine fun_W mixed Try.func11 rfl (Nat.le_of_ble_eq_true rfl) (by kernel_rfl) fun cx hN hR hF hL => ?_; apply args_k; (case hA => (simp only [go_sem, ↓reduceIte]; rfl))
          (with_reducible repeat' (first|exact trivial|(apply byE;simp only [go_sem, ↓reduceIte, hf, eq_true h1, decide_eq_true h1];try rfl)|apply Aa|apply As|apply Au|apply Av|apply Aj|apply At|apply Aw|apply Ab|apply Ac|apply Ad|apply Ae|apply Af|apply Ag|apply Ah|apply Ai|apply Ak|apply Al|((first|apply An|apply Ao);(case hs=>with_unfolding_all rfl))|apply Am|apply Ap|apply Aq|apply Ar|apply Ax|apply Ay|apply Az|apply Ba|apply Bb|apply Bc|apply Bd|apply Be|apply Ca|apply Cb|apply Cc|apply Cd|apply Ce|apply Cf|apply Cg|apply Ch|apply Ci|apply Bf|apply Cj|apply Ck|apply Cl|apply Cm|apply Cn|apply Co|apply Cp|(apply byR;with_unfolding_all rfl)|((first|apply byKt|apply byKs);kernel_rfl)|(apply byL;simp only [econs,List.map_cons,List.map_nil,List.cons_append,List.nil_append,OpS.nm,OpS.reads,OpS.turns,Nat.reduceAdd];try with_unfolding_all rfl)|(apply byG;intro hg;try simp only [hg])|(apply byQ;intro hq;try simp only [hqs] at hq;try (exfalso;omega))|(apply byI;intro K hK)|(apply byH;repeat (first|exact dst_z rfl|apply dst_s))|(apply byN;unfold NapOK;kernel_rfl)|(apply byD;first|(simp;done)|(simp [go_sem];done))|(refine hK _ _ ?_;clear hK;clear K)|omega|(apply callX cl29 (awake_f);(case hl=>with_unfolding_all rfl))|(apply callX cl30 (few20_f l);(case hl=>with_unfolding_all rfl))|(apply callX cl36 (k1);(case hl=>with_unfolding_all rfl))|(apply callX cl31 (k2);(case hl=>with_unfolding_all rfl))|(apply callX cl37 (s1);(case hl=>with_unfolding_all rfl))|(apply callX cl37 (s2);(case hl=>with_unfolding_all rfl))|contradiction))
        · have h2 : d > 292194 := by omega
          refine fun_W mixed Try.func11 rfl (Nat.le_of_ble_eq_true rfl) (by kernel_rfl) fun cx hN hR hF hL => ?_; apply args_k; (case hA => (simp only [go_sem, ↓reduceIte]; rfl))
          (with_reducible repeat' (first|exact trivial|(apply byE;simp only [go_sem, ↓reduceIte, hf, eq_false h1, decide_eq_false h1, eq_true h2, decide_eq_true h2];try rfl)|apply Aa|apply As|apply Au|apply Av|apply Aj|apply At|apply Aw|apply Ab|apply Ac|apply Ad|apply Ae|apply Af|apply Ag|apply Ah|apply Ai|apply Ak|apply Al|((first|apply An|apply Ao);(case hs=>with_unfolding_all rfl))|apply Am|apply Ap|apply Aq|apply Ar|apply Ax|apply Ay|apply Az|apply Ba|apply Bb|apply Bc|apply Bd|apply Be|apply Ca|apply Cb|apply Cc|apply Cd|apply Ce|apply Cf|apply Cg|apply Ch|apply Ci|apply Bf|apply Cj|apply Ck|apply Cl|apply Cm|apply Cn|apply Co|apply Cp|(apply byR;with_unfolding_all rfl)|((first|apply byKt|apply byKs);kernel_rfl)|(apply byL;simp only [econs,List.map_cons,List.map_nil,List.cons_append,List.nil_append,OpS.nm,OpS.reads,OpS.turns,Nat.reduceAdd];try with_unfolding_all rfl)|(apply byG;intro hg;try simp only [hg])|(apply byQ;intro hq;try simp only [hqs] at hq;try (exfalso;omega))|(apply byI;intro K hK)|(apply byH;repeat (first|exact dst_z rfl|apply dst_s))|(apply byN;unfold NapOK;kernel_rfl)|(apply byD;first|(simp;done)|(simp [go_sem];done))|(refine hK _ _ ?_;clear hK;clear K)|omega|(apply callX cl29 (awake_f);(case hl=>with_unfolding_all rfl))|(apply callX cl30 (few20_f l);(case hl=>with_unfolding_all rfl))|(apply callX cl36 (k1);(case hl=>with_unfolding_all rfl))|(apply callX cl31 (k2);(case hl=>with_unfolding_all rfl))|(apply callX cl37 (s1);(case hl=>with_unfolding_all rfl))|(apply callX cl37 (s2);(case hl=>with_unfolding_all rfl))|contradiction))
    · have hz : ∀ f, cvO f c l = [] := fun f => by rw [cvO, if_neg he]
      rw [hz, hz] at k1
      refine fun_W mixed Try.func11 rfl (Nat.le_of_ble_eq_true rfl) (by kernel_rfl) fun cx hN hR hF hL => ?_; apply args_k; (case hA => (simp only [go_sem, ↓reduceIte]; rfl))
      (with_reducible repeat' (first|exact trivial|(apply byE;simp only [go_sem, ↓reduceIte, hf, eq_false he, decide_eq_false he];try rfl)|apply Aa|apply As|apply Au|apply Av|apply Aj|apply At|apply Aw|apply Ab|apply Ac|apply Ad|apply Ae|apply Af|apply Ag|apply Ah|apply Ai|apply Ak|apply Al|((first|apply An|apply Ao);(case hs=>with_unfolding_all rfl))|apply Am|apply Ap|apply Aq|apply Ar|apply Ax|apply Ay|apply Az|apply Ba|apply Bb|apply Bc|apply Bd|apply Be|apply Ca|apply Cb|apply Cc|apply Cd|apply Ce|apply Cf|apply Cg|apply Ch|apply Ci|apply Bf|apply Cj|apply Ck|apply Cl|apply Cm|apply Cn|apply Co|apply Cp|(apply byR;with_unfolding_all rfl)|((first|apply byKt|apply byKs);kernel_rfl)|(apply byL;simp only [econs,List.map_cons,List.map_nil,List.cons_append,List.nil_append,OpS.nm,OpS.reads,OpS.turns,Nat.reduceAdd];try with_unfolding_all rfl)|(apply byG;intro hg;try simp only [hg])|(apply byQ;intro hq;try simp only [hqs] at hq;try (exfalso;omega))|(apply byI;intro K hK)|(apply byH;repeat (first|exact dst_z rfl|apply dst_s))|(apply byN;unfold NapOK;kernel_rfl)|(apply byD;first|(simp;done)|(simp [go_sem];done))|(refine hK _ _ ?_;clear hK;clear K)|omega|(apply callX cl29 (awake_f);(case hl=>with_unfolding_all rfl))|(apply callX cl30 (few20_f l);(case hl=>with_unfolding_all rfl))|(apply callX cl36 (k1);(case hl=>with_unfolding_all rfl))|contradiction))
      rfl
  · simp only [Bool.not_eq_true] at hf
    refine fun_W mixed Try.func11 rfl (Nat.le_of_ble_eq_true rfl) (by kernel_rfl) fun cx hN hR hF hL => ?_; apply args_k; (case hA => (simp only [go_sem, ↓reduceIte]; rfl))
    (with_reducible repeat' (first|exact trivial|(apply byE;simp only [go_sem, ↓reduceIte, hf];try rfl)|apply Aa|apply As|apply Au|apply Av|apply Aj|apply At|apply Aw|apply Ab|apply Ac|apply Ad|apply Ae|apply Af|apply Ag|apply Ah|apply Ai|apply Ak|apply Al|((first|apply An|apply Ao);(case hs=>with_unfolding_all rfl))|apply Am|apply Ap|apply Aq|apply Ar|apply Ax|apply Ay|apply Az|apply Ba|apply Bb|apply Bc|apply Bd|apply Be|apply Ca|apply Cb|apply Cc|apply Cd|apply Ce|apply Cf|apply Cg|apply Ch|apply Ci|apply Bf|apply Cj|apply Ck|apply Cl|apply Cm|apply Cn|apply Co|apply Cp|(apply byR;with_unfolding_all rfl)|((first|apply byKt|apply byKs);kernel_rfl)|(apply byL;simp only [econs,List.map_cons,List.map_nil,List.cons_append,List.nil_append,OpS.nm,OpS.reads,OpS.turns,Nat.reduceAdd];try with_unfolding_all rfl)|(apply byG;intro hg;try simp only [hg])|(apply byQ;intro hq;try simp only [hqs] at hq;try (exfalso;omega))|(apply byI;intro K hK)|(apply byH;repeat (first|exact dst_z rfl|apply dst_s))|(apply byN;unfold NapOK;kernel_rfl)|(apply byD;first|(simp;done)|(simp [go_sem];done))|(refine hK _ _ ?_;clear hK;clear K)|omega|(apply callX cl29 (awake_f);(case hl=>with_unfolding_all rfl))|(apply callX cl30 (few20_f l);(case hl=>with_unfolding_all rfl))|contradiction))
end Go.Proofs.Ytjplhfmakghabaa.V
