/- Contracts of chapter 19: Paid. -/
-- STEPS: new
import Derived.Test.YtjplhfmakghabaaN9
import Derived.Test.YtjplhfmakghabaaN3
import Derived.Test.YtjplhfmakghabaaY8
set_option linter.unusedSimpArgs false
set_option linter.unusedVariables false
namespace Go.Proofs.Ytjplhfmakghabaa.V
open Go.RowKit
set_option maxRecDepth 100000
attribute [local go_sem] Option.toList_some Option.toList_none

theorem ins0_f : Fun Try.prog 93 [.v (.slice none 0 0), int 0, int 0, .v (.func (.func 44) #[] #[])] (.tup []) := by
  refine fun_W mixed Try.func93 rfl (Nat.le_of_ble_eq_true rfl) (by kernel_rfl) fun cx hN hR hF hL => ?_; apply args_k; (case hA => (simp only [go_sem, ↓reduceIte]; rfl))
  have w1 : IntKind.i64.wrap (0 + 1) = 1 := by rw [wrap_id] <;> omega
  (with_reducible repeat' (first|exact trivial|(apply byE;simp only [go_sem, ↓reduceIte, w1];try rfl)|apply Aa|apply As|apply Au|apply Av|apply Aj|apply At|apply Aw|apply Ab|apply Ac|apply Ad|apply Ae|apply Af|apply Ag|apply Ah|apply Ai|apply Ak|apply Al|apply rounds_s|((first|apply An|apply Ao);(case hs=>with_unfolding_all rfl))|apply Am|apply Ap|apply Aq|apply Ar|apply Ax|apply Ay|apply Az|apply Ba|apply Bb|apply Bc|apply Bd|apply Be|apply Ca|apply Cb|apply Cc|apply Cd|apply Ce|apply Cf|apply Cg|apply Ch|apply Ci|apply Bf|apply Cj|apply Ck|apply Cl|apply Cm|apply Cn|apply Co|apply Cp|(apply byR;with_unfolding_all rfl)|((first|apply byKt|apply byKs);kernel_rfl)|(apply byL;simp only [econs,List.map_cons,List.map_nil,List.cons_append,List.nil_append,OpS.nm,OpS.reads,OpS.turns,Nat.reduceAdd];try with_unfolding_all rfl)|(apply byG;intro hg;try simp only [hg])|(apply byQ;intro hq;try simp only [hqs] at hq;try (exfalso;omega))|(apply byI;intro K hK)|(apply byH;repeat (first|exact dst_z rfl|apply dst_s))|(apply byN;unfold NapOK;kernel_rfl)|(apply byD;first|(simp;done)|(simp [go_sem];done))|(refine hK _ _ ?_;clear hK;clear K)|omega|contradiction))
  refine loop_rounds mixed 1 (by rw [hN]; kernel_rfl) ?_
  (with_reducible repeat' (first|exact trivial|(apply byE;simp only [go_sem, ↓reduceIte, w1];try rfl)|apply Aa|apply As|apply Au|apply Av|apply Aj|apply At|apply Aw|apply Ab|apply Ac|apply Ad|apply Ae|apply Af|apply Ag|apply Ah|apply Ai|apply Ak|apply Al|apply rounds_s|((first|apply An|apply Ao);(case hs=>with_unfolding_all rfl))|apply Am|apply Ap|apply Aq|apply Ar|apply Ax|apply Ay|apply Az|apply Ba|apply Bb|apply Bc|apply Bd|apply Be|apply Ca|apply Cb|apply Cc|apply Cd|apply Ce|apply Cf|apply Cg|apply Ch|apply Ci|apply Bf|apply Cj|apply Ck|apply Cl|apply Cm|apply Cn|apply Co|apply Cp|(apply byR;with_unfolding_all rfl)|((first|apply byKt|apply byKs);kernel_rfl)|(apply byL;simp only [econs,List.map_cons,List.map_nil,List.cons_append,List.nil_append,OpS.nm,OpS.reads,OpS.turns,Nat.reduceAdd];try with_unfolding_all rfl)|(apply byG;intro hg;try simp only [hg])|(apply byQ;intro hq;try simp only [hqs] at hq;try (exfalso;omega))|(apply byI;intro K hK)|(apply byH;repeat (first|exact dst_z rfl|apply dst_s))|(apply byN;unfold NapOK;kernel_rfl)|(apply byD;first|(simp;done)|(simp [go_sem];done))|(refine hK _ _ ?_;clear hK;clear K)|omega|contradiction))
theorem stable0_f : Fun Try.prog 73 [.v (.slice none 0 0), int 0, .v (.func (.func 44) #[] #[])] (.tup []) := by
  refine fun_W mixed Try.func73 rfl (Nat.le_of_ble_eq_true rfl) (by kernel_rfl) fun cx hN hR hF hL => ?_; apply args_k; (case hA => (simp only [go_sem, ↓reduceIte]; rfl))
  (with_reducible repeat' (first|exact trivial|(apply byE;simp only [go_sem, ↓reduceIte];try rfl)|apply Aa|apply As|apply Au|apply Av|apply Aj|apply At|apply Aw|apply Ab|apply Ac|apply Ad|apply Ae|apply Af|apply Ag|apply Ah|apply Ai|apply Ak|apply Al|apply rounds_s|((first|apply An|apply Ao);(case hs=>with_unfolding_all rfl))|apply Am|apply Ap|apply Aq|apply Ar|apply Ax|apply Ay|apply Az|apply Ba|apply Bb|apply Bc|apply Bd|apply Be|apply Ca|apply Cb|apply Cc|apply Cd|apply Ce|apply Cf|apply Cg|apply Ch|apply Ci|apply Bf|apply Cj|apply Ck|apply Cl|apply Cm|apply Cn|apply Co|apply Cp|(apply byR;with_unfolding_all rfl)|((first|apply byKt|apply byKs);kernel_rfl)|(apply byL;simp only [econs,List.map_cons,List.map_nil,List.cons_append,List.nil_append,OpS.nm,OpS.reads,OpS.turns,Nat.reduceAdd];try with_unfolding_all rfl)|(apply byG;intro hg;try simp only [hg])|(apply byQ;intro hq;try simp only [hqs] at hq;try (exfalso;omega))|(apply byI;intro K hK)|(apply byH;repeat (first|exact dst_z rfl|apply dst_s))|(apply byN;unfold NapOK;kernel_rfl)|(apply byD;first|(simp;done)|(simp [go_sem];done))|(refine hK _ _ ?_;clear hK;clear K)|omega|contradiction))
  refine loop_rounds mixed 1 (by rw [hN]; kernel_rfl) ?_
  (with_reducible repeat' (first|exact trivial|(apply byE;simp only [go_sem, ↓reduceIte];try rfl)|apply Aa|apply As|apply Au|apply Av|apply Aj|apply At|apply Aw|apply Ab|apply Ac|apply Ad|apply Ae|apply Af|apply Ag|apply Ah|apply Ai|apply Ak|apply Al|apply rounds_s|((first|apply An|apply Ao);(case hs=>with_unfolding_all rfl))|apply Am|apply Ap|apply Aq|apply Ar|apply Ax|apply Ay|apply Az|apply Ba|apply Bb|apply Bc|apply Bd|apply Be|apply Ca|apply Cb|apply Cc|apply Cd|apply Ce|apply Cf|apply Cg|apply Ch|apply Ci|apply Bf|apply Cj|apply Ck|apply Cl|apply Cm|apply Cn|apply Co|apply Cp|(apply byR;with_unfolding_all rfl)|((first|apply byKt|apply byKs);kernel_rfl)|(apply byL;simp only [econs,List.map_cons,List.map_nil,List.cons_append,List.nil_append,OpS.nm,OpS.reads,OpS.turns,Nat.reduceAdd];try with_unfolding_all rfl)|(apply byG;intro hg;try simp only [hg])|(apply byQ;intro hq;try simp only [hqs] at hq;try (exfalso;omega))|(apply byI;intro K hK)|(apply byH;repeat (first|exact dst_z rfl|apply dst_s))|(apply byN;unfold NapOK;kernel_rfl)|(apply byD;first|(simp;done)|(simp [go_sem];done))|(refine hK _ _ ?_;clear hK;clear K)|omega|(apply callX cl93 (ins0_f);(case hl=>with_unfolding_all rfl))|contradiction))
  refine loop_rounds mixed 1 (by rw [hN]; kernel_rfl) ?_
  (with_reducible repeat' (first|exact trivial|(apply byE;simp only [go_sem, ↓reduceIte];try rfl)|apply Aa|apply As|apply Au|apply Av|apply Aj|apply At|apply Aw|apply Ab|apply Ac|apply Ad|apply Ae|apply Af|apply Ag|apply Ah|apply Ai|apply Ak|apply Al|apply rounds_s|((first|apply An|apply Ao);(case hs=>with_unfolding_all rfl))|apply Am|apply Ap|apply Aq|apply Ar|apply Ax|apply Ay|apply Az|apply Ba|apply Bb|apply Bc|apply Bd|apply Be|apply Ca|apply Cb|apply Cc|apply Cd|apply Ce|apply Cf|apply Cg|apply Ch|apply Ci|apply Bf|apply Cj|apply Ck|apply Cl|apply Cm|apply Cn|apply Co|apply Cp|(apply byR;with_unfolding_all rfl)|((first|apply byKt|apply byKs);kernel_rfl)|(apply byL;simp only [econs,List.map_cons,List.map_nil,List.cons_append,List.nil_append,OpS.nm,OpS.reads,OpS.turns,Nat.reduceAdd];try with_unfolding_all rfl)|(apply byG;intro hg;try simp only [hg])|(apply byQ;intro hq;try simp only [hqs] at hq;try (exfalso;omega))|(apply byI;intro K hK)|(apply byH;repeat (first|exact dst_z rfl|apply dst_s))|(apply byN;unfold NapOK;kernel_rfl)|(apply byD;first|(simp;done)|(simp [go_sem];done))|(refine hK _ _ ?_;clear hK;clear K)|omega|contradiction))
theorem sort0_f : Fun Try.prog 43 [.v (.slice none 0 0), .v (.func (.func 44) #[] #[])] (.tup []) := by
  refine fun_W mixed Try.func43 rfl (Nat.le_of_ble_eq_true rfl) (by kernel_rfl) fun cx hN hR hF hL => ?_; apply args_k; (case hA => (simp only [go_sem, ↓reduceIte]; rfl))
  (with_reducible repeat' (first|exact trivial|(apply byE;simp only [go_sem, ↓reduceIte];try rfl)|apply Aa|apply As|apply Au|apply Av|apply Aj|apply At|apply Aw|apply Ab|apply Ac|apply Ad|apply Ae|apply Af|apply Ag|apply Ah|apply Ai|apply Ak|apply Al|apply rounds_s|((first|apply An|apply Ao);(case hs=>with_unfolding_all rfl))|apply Am|apply Ap|apply Aq|apply Ar|apply Ax|apply Ay|apply Az|apply Ba|apply Bb|apply Bc|apply Bd|apply Be|apply Ca|apply Cb|apply Cc|apply Cd|apply Ce|apply Cf|apply Cg|apply Ch|apply Ci|apply Bf|apply Cj|apply Ck|apply Cl|apply Cm|apply Cn|apply Co|apply Cp|(apply byR;with_unfolding_all rfl)|((first|apply byKt|apply byKs);kernel_rfl)|(apply byL;simp only [econs,List.map_cons,List.map_nil,List.cons_append,List.nil_append,OpS.nm,OpS.reads,OpS.turns,Nat.reduceAdd];try with_unfolding_all rfl)|(apply byG;intro hg;try simp only [hg])|(apply byQ;intro hq;try simp only [hqs] at hq;try (exfalso;omega))|(apply byI;intro K hK)|(apply byH;repeat (first|exact dst_z rfl|apply dst_s))|(apply byN;unfold NapOK;kernel_rfl)|(apply byD;first|(simp;done)|(simp [go_sem];done))|(refine hK _ _ ?_;clear hK;clear K)|omega|(apply callX cl73 (stable0_f);(case hl=>with_unfolding_all rfl))|contradiction))
theorem rowT_snoc (l : List Stp) (x : Stp) : rowC trow (l ++ [x]) = rowC trow l ++ [int x.file, int x.act.booked, int x.act.kind, int x.act.amt] := by simp [rowC, trow]
@[go_sem] def r3row (r : Int × Int × Int) : List AV := [int r.1, int r.2.1, int r.2.2]
@[go_sem] theorem rowR_ren (r : Nat → Nat) (l : List (Int × Int × Int)) : (rowC r3row l).map (AV.ren r) = rowC r3row l := rows_ren (fun x r => by simp [r3row]) r l
@[go_sem] theorem rowR_nms (p : Nat → Bool) (l : List (Int × Int × Int)) : (rowC r3row l).all (AV.names p) = true := rows_nms (fun x p => by simp [r3row]) p l
theorem rowR_snoc (l : List (Int × Int × Int)) (a b c : Int) : rowC r3row (l ++ [(a, b, c)]) = rowC r3row l ++ [int a, int b, int c] := by simp [rowC, r3row]
abbrev rowsA (l : List (Int × Int × Int)) : AV := .sl false 3 (l.map r3row)
theorem zerosR_int : ∀ n, zerosR [AV.v (Value.int IntKind.i64 0)] n = rowC irow (List.replicate n 0)
  | 0 => rfl
  | n + 1 => by rw [zerosR, zerosR_int n]; rfl
def paidR (c : Cover) (l : List File) : List (Int × Int × Int) := if checkE c l = 0 then (payL c l.length (ordL l)).out else []
set_option maxHeartbeats 8000000 in
theorem paid_f (c : Cover) (l : List File) (hc : c.ok) (hl : l.length ≤ 100000) : Fun Try.prog 17 [.agg c.flat, filesA l] (.tup [rowsA (paidR c l), int (checkE c l)]) := by
  by_cases he : checkE c l = 0
  · have har : adjRight c l = true := by
      cases h : adjRight c l with
      | true => rfl
      | false => simp [checkE, h] at he
    have har0 : c.rightB = true := by
      rw [adjRight, Bool.and_eq_true] at har
      exact har.1
    have hn : l.length ≤ 2000 ∧ actsN l ≤ 2000 := by
      unfold checkE at he
      split at he; · cases he
      split at he; · cases he
      omega
    by_cases h0 : actsN l = 0
    · have hz : ∀ f, f ∈ l → f.acts = [] := by
        have key : ∀ m : List File, actsN m = 0 → ∀ f, f ∈ m → f.acts = [] := by
          intro m
          induction m with
          | nil => intro _ f hf; simp at hf
          | cons g m ih =>
            intro h f hf
            have h2 : actsN (g :: m) = g.acts.length + actsN m := by simp [actsN]
            rcases List.mem_cons.1 hf with rfl | hf
            · exact List.length_eq_zero_iff.1 (by omega)
            · exact ih (by omega) f hf
        exact key l h0
      refine fun_W mixed Try.func17 rfl (Nat.le_of_ble_eq_true rfl) (by kernel_rfl) fun cx hN hR hF hL => ?_; apply args_k; (case hA => (simp only [go_sem, ↓reduceIte]; rfl))
      (with_reducible repeat' (first|exact trivial|(apply byE;simp only [go_sem, ↓reduceIte, he];try rfl)|apply Aa|apply As|apply Au|apply Av|apply Aj|apply At|apply Aw|apply Ab|apply Ac|apply Ad|apply Ae|apply Af|apply Ag|apply Ah|apply Ai|apply Ak|apply Al|apply rounds_s|((first|apply An|apply Ao);(case hs=>with_unfolding_all rfl))|apply Am|apply Ap|apply Aq|apply Ar|apply Ax|apply Ay|apply Az|apply Ba|apply Bb|apply Bc|apply Bd|apply Be|apply Ca|apply Cb|apply Cc|apply Cd|apply Ce|apply Cf|apply Cg|apply Ch|apply Ci|apply Bf|apply Cj|apply Ck|apply Cl|apply Cm|apply Cn|apply Co|apply Cp|(apply byR;with_unfolding_all rfl)|((first|apply byKt|apply byKs);kernel_rfl)|(apply byL;simp only [econs,List.map_cons,List.map_nil,List.cons_append,List.nil_append,OpS.nm,OpS.reads,OpS.turns,Nat.reduceAdd];try with_unfolding_all rfl)|(apply byG;intro hg;try simp only [hg])|(apply byQ;intro hq;try simp only [hqs] at hq;try (exfalso;omega))|(apply byI;intro K hK)|(apply byH;repeat (first|exact dst_z rfl|apply dst_s))|(apply byN;unfold NapOK;kernel_rfl)|(apply byD;first|(simp;done)|(simp [go_sem];done))|(refine hK _ _ ?_;clear hK;clear K)|omega|(apply callX cl42 (check_f c l hc hl);(case hl=>with_unfolding_all rfl))|contradiction))
      refine loopW mixed (σ := {i : Nat // i ≤ l.length}) (fun s => ⟨[(27, int s.1), (7, .v (.slice none 0 0)), (25, filesA l), (26, int l.length), (1, filesA l), (2, .ptr 0 0)], [(0, some ⟨23, c.flat⟩)], 6000⟩) (fun s => l.length - s.1) id ⟨0, by omega⟩ (by rw [hN]; kernel_rfl) ?_ ?_
      · simp only [go_sem, ↓reduceIte, hF]
        rfl
      · rintro ⟨i, h1⟩
        by_cases hi : i < l.length
        · have e0 : l[i]? = some l[i] := List.getElem?_eq_getElem hi
          have e1 : (l.map File.flat)[i]? = some l[i].flat := by rw [List.getElem?_map, e0]; rfl
          have e2 : IntKind.i64.wrap ((i : Int) + 1) = ((i + 1 : Nat) : Int) := by rw [wrap_id] <;> omega
          have hk1 : i < (l.map File.flat).length := by simpa using hi
          have hy : l[i].acts = [] := hz _ (List.getElem_mem hi)
          generalize l[i] = f at *
          obtain ⟨fc, fa⟩ := f
          simp only at hy
          subst hy
          (with_reducible repeat' (first|exact trivial|(apply byE;simp only [go_sem, ↓reduceIte, e1, e2, hk1];try rfl)|apply Aa|apply As|apply Au|apply Av|apply Aj|apply At|apply Aw|apply Ab|apply Ac|apply Ad|apply Ae|apply Af|apply Ag|apply Ah|apply Ai|apply Ak|apply Al|apply rounds_s|((first|apply An|apply Ao);(case hs=>with_unfolding_all rfl))|apply Am|apply Ap|apply Aq|apply Ar|apply Ax|apply Ay|apply Az|apply Ba|apply Bb|apply Bc|apply Bd|apply Be|apply Ca|apply Cb|apply Cc|apply Cd|apply Ce|apply Cf|apply Cg|apply Ch|apply Ci|apply Bf|apply Cj|apply Ck|apply Cl|apply Cm|apply Cn|apply Co|apply Cp|(apply byR;with_unfolding_all rfl)|((first|apply byKt|apply byKs);kernel_rfl)|(apply byL;simp only [econs,List.map_cons,List.map_nil,List.cons_append,List.nil_append,OpS.nm,OpS.reads,OpS.turns,Nat.reduceAdd];try with_unfolding_all rfl)|(apply byG;intro hg;try simp only [hg])|(apply byQ;intro hq;try simp only [hqs] at hq;try (exfalso;omega))|(apply byI;intro K hK)|(apply byH;repeat (first|exact dst_z rfl|apply dst_s))|(apply byN;unfold NapOK;kernel_rfl)|(apply byD;first|(simp;done)|(simp [go_sem];done))|(refine hK _ _ ?_;clear hK;clear K)|omega|contradiction))
          refine loop_rounds mixed 1 (by rw [hN]; kernel_rfl) ?_
          (with_reducible repeat' (first|exact trivial|(apply byE;simp only [go_sem, ↓reduceIte, e2];try rfl)|apply Aa|apply As|apply Au|apply Av|apply Aj|apply At|apply Aw|apply Ab|apply Ac|apply Ad|apply Ae|apply Af|apply Ag|apply Ah|apply Ai|apply Ak|apply Al|apply rounds_s|((first|apply An|apply Ao);(case hs=>with_unfolding_all rfl))|apply Am|apply Ap|apply Aq|apply Ar|apply Ax|apply Ay|apply Az|apply Ba|apply Bb|apply Bc|apply Bd|apply Be|apply Ca|apply Cb|apply Cc|apply Cd|apply Ce|apply Cf|apply Cg|apply Ch|apply Ci|apply Bf|apply Cj|apply Ck|apply Cl|apply Cm|apply Cn|apply Co|apply Cp|(apply byR;with_unfolding_all rfl)|((first|apply byKt|apply byKs);kernel_rfl)|(apply byL;simp only [econs,List.map_cons,List.map_nil,List.cons_append,List.nil_append,OpS.nm,OpS.reads,OpS.turns,Nat.reduceAdd];try with_unfolding_all rfl)|(apply byG;intro hg;try simp only [hg])|(apply byQ;intro hq;try simp only [hqs] at hq;try (exfalso;omega))|(apply byI;intro K hK)|(apply byH;repeat (first|exact dst_z rfl|apply dst_s))|(apply byN;unfold NapOK;kernel_rfl)|(apply byD;first|(simp;done)|(simp [go_sem];done))|(refine hK _ _ ?_;clear hK;clear K)|omega|contradiction))
          refine ⟨⟨i + 1, hi⟩, id, ?_, by show l.length - (i + 1) < l.length - i; omega⟩
          simp only [go_sem, ↓reduceIte, hF]
        · obtain rfl : i = l.length := by omega
          (with_reducible repeat' (first|exact trivial|(apply byE;simp only [go_sem, ↓reduceIte];try rfl)|apply Aa|apply As|apply Au|apply Av|apply Aj|apply At|apply Aw|apply Ab|apply Ac|apply Ad|apply Ae|apply Af|apply Ag|apply Ah|apply Ai|apply Ak|apply Al|apply rounds_s|((first|apply An|apply Ao);(case hs=>with_unfolding_all rfl))|apply Am|apply Ap|apply Aq|apply Ar|apply Ax|apply Ay|apply Az|apply Ba|apply Bb|apply Bc|apply Bd|apply Be|apply Ca|apply Cb|apply Cc|apply Cd|apply Ce|apply Cf|apply Cg|apply Ch|apply Ci|apply Bf|apply Cj|apply Ck|apply Cl|apply Cm|apply Cn|apply Co|apply Cp|(apply byR;with_unfolding_all rfl)|((first|apply byKt|apply byKs);kernel_rfl)|(apply byL;simp only [econs,List.map_cons,List.map_nil,List.cons_append,List.nil_append,OpS.nm,OpS.reads,OpS.turns,Nat.reduceAdd];try with_unfolding_all rfl)|(apply byG;intro hg;try simp only [hg])|(apply byQ;intro hq;try simp only [hqs] at hq;try (exfalso;omega))|(apply byI;intro K hK)|(apply byH;repeat (first|exact dst_z rfl|apply dst_s))|(apply byN;unfold NapOK;kernel_rfl)|(apply byD;first|(simp;done)|(simp [go_sem];done))|(refine hK _ _ ?_;clear hK;clear K)|omega|(apply callX cl43 (sort0_f);(case hl=>with_unfolding_all rfl))|contradiction))
          · refine loop_rounds mixed 1 (by rw [hN]; kernel_rfl) ?_
            (with_reducible repeat' (first|exact trivial|(apply byE;simp only [go_sem, ↓reduceIte];try rfl)|apply Aa|apply As|apply Au|apply Av|apply Aj|apply At|apply Aw|apply Ab|apply Ac|apply Ad|apply Ae|apply Af|apply Ag|apply Ah|apply Ai|apply Ak|apply Al|apply rounds_s|((first|apply An|apply Ao);(case hs=>with_unfolding_all rfl))|apply Am|apply Ap|apply Aq|apply Ar|apply Ax|apply Ay|apply Az|apply Ba|apply Bb|apply Bc|apply Bd|apply Be|apply Ca|apply Cb|apply Cc|apply Cd|apply Ce|apply Cf|apply Cg|apply Ch|apply Ci|apply Bf|apply Cj|apply Ck|apply Cl|apply Cm|apply Cn|apply Co|apply Cp|(apply byR;with_unfolding_all rfl)|((first|apply byKt|apply byKs);kernel_rfl)|(apply byL;simp only [econs,List.map_cons,List.map_nil,List.cons_append,List.nil_append,OpS.nm,OpS.reads,OpS.turns,Nat.reduceAdd];try with_unfolding_all rfl)|(apply byG;intro hg;try simp only [hg])|(apply byQ;intro hq;try simp only [hqs] at hq;try (exfalso;omega))|(apply byI;intro K hK)|(apply byH;repeat (first|exact dst_z rfl|apply dst_s))|(apply byN;unfold NapOK;kernel_rfl)|(apply byD;first|(simp;done)|(simp [go_sem];done))|(refine hK _ _ ?_;clear hK;clear K)|omega|contradiction))
            have hpr : paidR c l = [] := by
              have : ordL l = [] := List.length_eq_zero_iff.1 (by rw [ordL_len]; exact h0)
              rw [paidR, if_pos he, this]
              rfl
            rw [hpr, he]
            exact ⟨rfl, rfl⟩
          · simp [maxLen]; omega
          · simp [maxLen]; omega
    · refine fun_W mixed Try.func17 rfl (Nat.le_of_ble_eq_true rfl) (by kernel_rfl) fun cx hN hR hF hL => ?_; apply args_k; (case hA => (simp only [go_sem, ↓reduceIte]; rfl))
      (with_reducible repeat' (first|exact trivial|(apply byE;simp only [go_sem, ↓reduceIte, he];try rfl)|apply Aa|apply As|apply Au|apply Av|apply Aj|apply At|apply Aw|apply Ab|apply Ac|apply Ad|apply Ae|apply Af|apply Ag|apply Ah|apply Ai|apply Ak|apply Al|apply rounds_s|((first|apply An|apply Ao);(case hs=>with_unfolding_all rfl))|apply Am|apply Ap|apply Aq|apply Ar|apply Ax|apply Ay|apply Az|apply Ba|apply Bb|apply Bc|apply Bd|apply Be|apply Ca|apply Cb|apply Cc|apply Cd|apply Ce|apply Cf|apply Cg|apply Ch|apply Ci|apply Bf|apply Cj|apply Ck|apply Cl|apply Cm|apply Cn|apply Co|apply Cp|(apply byR;with_unfolding_all rfl)|((first|apply byKt|apply byKs);kernel_rfl)|(apply byL;simp only [econs,List.map_cons,List.map_nil,List.cons_append,List.nil_append,OpS.nm,OpS.reads,OpS.turns,Nat.reduceAdd];try with_unfolding_all rfl)|(apply byG;intro hg;try simp only [hg])|(apply byQ;intro hq;try simp only [hqs] at hq;try (exfalso;omega))|(apply byI;intro K hK)|(apply byH;repeat (first|exact dst_z rfl|apply dst_s))|(apply byN;unfold NapOK;kernel_rfl)|(apply byD;first|(simp;done)|(simp [go_sem];done))|(refine hK _ _ ?_;clear hK;clear K)|omega|(apply callX cl42 (check_f c l hc hl);(case hl=>with_unfolding_all rfl))|contradiction))
      refine loop_nil 7 6000 4 74 rfl (Nat.le_of_ble_eq_true rfl) ?_
      refine loopW mixed (σ := {i : Nat // i ≤ l.length}) (fun s => ⟨[(27, int s.1), (7, .osl 6000 4 0 (actsN (l.take s.1))), (25, filesA l), (26, int l.length), (1, filesA l), (2, .ptr 0 0)], [(6000, some ⟨74, rowC trow (stepsL 0 (l.take s.1))⟩), (0, some ⟨23, c.flat⟩)], 6001⟩) (fun s => l.length - s.1) id ⟨0, by omega⟩ (by rw [hN]; kernel_rfl) ?_ ?_
      · simp only [go_sem, ↓reduceIte, hF]
        exact ⟨⟨rfl, rfl⟩, rfl⟩
      · rintro ⟨i, h1⟩
        by_cases hi : i < l.length
        · have e0 : l[i]? = some l[i] := List.getElem?_eq_getElem hi
          have e1 : (l.map File.flat)[i]? = some l[i].flat := by rw [List.getElem?_map, e0]; rfl
          have e2 : IntKind.i64.wrap ((i : Int) + 1) = ((i + 1 : Nat) : Int) := by rw [wrap_id] <;> omega
          have hk1 : i < (l.map File.flat).length := by simpa using hi
          have hs := actsN_snoc e0
          have ht := actsN_take l (i + 1)
          have hst : stepsL 0 (l.take (i + 1)) = stepsL 0 (l.take i) ++ l[i].acts.map (Stp.mk i) := by
            rw [List.take_succ_eq_append_getElem hi, stepsL_app]
            simp [stepsL, Nat.min_eq_left (Nat.le_of_lt hi)]
          generalize l[i] = f at *
          obtain ⟨fc, fa⟩ := f
          simp only at hs hst
          (with_reducible repeat' (first|exact trivial|(apply byE;simp only [go_sem, ↓reduceIte, e1, e2, hk1];try rfl)|apply Aa|apply As|apply Au|apply Av|apply Aj|apply At|apply Aw|apply Ab|apply Ac|apply Ad|apply Ae|apply Af|apply Ag|apply Ah|apply Ai|apply Ak|apply Al|apply rounds_s|((first|apply An|apply Ao);(case hs=>with_unfolding_all rfl))|apply Am|apply Ap|apply Aq|apply Ar|apply Ax|apply Ay|apply Az|apply Ba|apply Bb|apply Bc|apply Bd|apply Be|apply Ca|apply Cb|apply Cc|apply Cd|apply Ce|apply Cf|apply Cg|apply Ch|apply Ci|apply Bf|apply Cj|apply Ck|apply Cl|apply Cm|apply Cn|apply Co|apply Cp|(apply byR;with_unfolding_all rfl)|((first|apply byKt|apply byKs);kernel_rfl)|(apply byL;simp only [econs,List.map_cons,List.map_nil,List.cons_append,List.nil_append,OpS.nm,OpS.reads,OpS.turns,Nat.reduceAdd];try with_unfolding_all rfl)|(apply byG;intro hg;try simp only [hg])|(apply byQ;intro hq;try simp only [hqs] at hq;try (exfalso;omega))|(apply byI;intro K hK)|(apply byH;repeat (first|exact dst_z rfl|apply dst_s))|(apply byN;unfold NapOK;kernel_rfl)|(apply byD;first|(simp;done)|(simp [go_sem];done))|(refine hK _ _ ?_;clear hK;clear K)|omega|contradiction))
          refine loopW mixed (σ := {j : Nat // j ≤ fa.length}) (fun t => ⟨[(35, int t.1), (34, int fa.length), (33, actsA fa), (8, int i), (7, .osl 6000 4 0 (actsN (l.take i) + t.1)), (27, int i), (25, filesA l), (26, int l.length), (1, filesA l), (2, .ptr 0 0)], [(6000, some ⟨74, rowC trow (stepsL 0 (l.take i) ++ (fa.take t.1).map (Stp.mk i))⟩), (0, some ⟨23, c.flat⟩)], 9001⟩) (fun t => fa.length - t.1) id ⟨0, by omega⟩ (by rw [hN]; kernel_rfl) ?_ ?_
          · simp only [go_sem, ↓reduceIte, hF]
            rfl
          · rintro ⟨j, g1⟩
            by_cases hj : j < fa.length
            · have k0 : fa[j]? = some fa[j] := List.getElem?_eq_getElem hj
              have k1 : (fa.map Act.flat)[j]? = some fa[j].flat := by rw [List.getElem?_map, k0]; rfl
              have k2 : IntKind.i64.wrap ((j : Int) + 1) = ((j + 1 : Nat) : Int) := by rw [wrap_id] <;> omega
              have k3 : j < (fa.map Act.flat).length := by simpa using hj
              have k4 : (fa.take (j + 1)).map (Stp.mk i) = (fa.take j).map (Stp.mk i) ++ [⟨i, fa[j]⟩] := by rw [List.take_succ_eq_append_getElem hj, List.map_append]; rfl
              have k5 := rowT_len (stepsL 0 (l.take i) ++ (fa.take j).map (Stp.mk i))
              generalize fa[j] = a at *
              (with_reducible repeat' (first|exact trivial|(apply byE;simp only [go_sem, ↓reduceIte, k1, k2, k3];try rfl)|apply Aa|apply As|apply Au|apply Av|apply Aj|apply At|apply Aw|apply Ab|apply Ac|apply Ad|apply Ae|apply Af|apply Ag|apply Ah|apply Ai|apply Ak|apply Al|apply rounds_s|((first|apply An|apply Ao);(case hs=>with_unfolding_all rfl))|apply Am|apply Ap|apply Aq|apply Ar|apply Ax|apply Ay|apply Az|apply Ba|apply Bb|apply Bc|apply Bd|apply Be|apply Ca|apply Cb|apply Cc|apply Cd|apply Ce|apply Cf|apply Cg|apply Ch|apply Ci|apply Bf|apply Cj|apply Ck|apply Cl|apply Cm|apply Cn|apply Co|apply Cp|(apply byR;with_unfolding_all rfl)|((first|apply byKt|apply byKs);kernel_rfl)|(apply byL;simp only [econs,List.map_cons,List.map_nil,List.cons_append,List.nil_append,OpS.nm,OpS.reads,OpS.turns,Nat.reduceAdd];try with_unfolding_all rfl)|(apply byG;intro hg;try simp only [hg])|(apply byQ;intro hq;try simp only [hqs] at hq;try (exfalso;omega))|(apply byI;intro K hK)|(apply byH;repeat (first|exact dst_z rfl|apply dst_s))|(apply byN;unfold NapOK;kernel_rfl)|(apply byD;first|(simp;done)|(simp [go_sem];done))|(refine hK _ _ ?_;clear hK;clear K)|omega|contradiction))
              · refine ⟨⟨j + 1, hj⟩, nm1 6000 11041, ?_, by show fa.length - (j + 1) < fa.length - j; omega⟩
                simp only [k4, ← List.append_assoc, rowT_snoc]
                simp only [go_sem, ↓reduceIte, hF, List.map_append, List.all_append]
                rfl
              · rw [k5, List.length_append, stepsL_len, List.length_map, List.length_take, Nat.min_eq_left g1]
                exact ⟨rfl, by simp [maxLen]; omega⟩
            · obtain rfl : j = fa.length := by omega
              rw [← hs, List.take_length, ← hst]
              (with_reducible repeat' (first|exact trivial|(apply byE;simp only [go_sem, ↓reduceIte, e2];try rfl)|apply Aa|apply As|apply Au|apply Av|apply Aj|apply At|apply Aw|apply Ab|apply Ac|apply Ad|apply Ae|apply Af|apply Ag|apply Ah|apply Ai|apply Ak|apply Al|apply rounds_s|((first|apply An|apply Ao);(case hs=>with_unfolding_all rfl))|apply Am|apply Ap|apply Aq|apply Ar|apply Ax|apply Ay|apply Az|apply Ba|apply Bb|apply Bc|apply Bd|apply Be|apply Ca|apply Cb|apply Cc|apply Cd|apply Ce|apply Cf|apply Cg|apply Ch|apply Ci|apply Bf|apply Cj|apply Ck|apply Cl|apply Cm|apply Cn|apply Co|apply Cp|(apply byR;with_unfolding_all rfl)|((first|apply byKt|apply byKs);kernel_rfl)|(apply byL;simp only [econs,List.map_cons,List.map_nil,List.cons_append,List.nil_append,OpS.nm,OpS.reads,OpS.turns,Nat.reduceAdd];try with_unfolding_all rfl)|(apply byG;intro hg;try simp only [hg])|(apply byQ;intro hq;try simp only [hqs] at hq;try (exfalso;omega))|(apply byI;intro K hK)|(apply byH;repeat (first|exact dst_z rfl|apply dst_s))|(apply byN;unfold NapOK;kernel_rfl)|(apply byD;first|(simp;done)|(simp [go_sem];done))|(refine hK _ _ ?_;clear hK;clear K)|omega|contradiction))
              refine ⟨⟨i + 1, hi⟩, id, ?_, by show l.length - (i + 1) < l.length - i; omega⟩
              simp only [go_sem, ↓reduceIte, hF]
        · obtain rfl : i = l.length := by omega
          simp only [List.take_length]
          have hc1 := sortStable_fT (stepsL 0 l) (by rw [stepsL_len]; omega) (by rw [stepsL_len]; omega) (fun _ _ => trivial)
          rw [stepsL_len] at hc1
          (with_reducible repeat' (first|exact trivial|(apply byE;simp only [go_sem, ↓reduceIte];try rfl)|apply Aa|apply As|apply Au|apply Av|apply Aj|apply At|apply Aw|apply Ab|apply Ac|apply Ad|apply Ae|apply Af|apply Ag|apply Ah|apply Ai|apply Ak|apply Al|apply rounds_s|((first|apply An|apply Ao);(case hs=>with_unfolding_all rfl))|apply Am|apply Ap|apply Aq|apply Ar|apply Ax|apply Ay|apply Az|apply Ba|apply Bb|apply Bc|apply Bd|apply Be|apply Ca|apply Cb|apply Cc|apply Cd|apply Ce|apply Cf|apply Cg|apply Ch|apply Ci|apply Bf|apply Cj|apply Ck|apply Cl|apply Cm|apply Cn|apply Co|apply Cp|(apply byR;with_unfolding_all rfl)|((first|apply byKt|apply byKs);kernel_rfl)|(apply byL;simp only [econs,List.map_cons,List.map_nil,List.cons_append,List.nil_append,OpS.nm,OpS.reads,OpS.turns,Nat.reduceAdd];try with_unfolding_all rfl)|(apply byG;intro hg;try simp only [hg])|(apply byQ;intro hq;try simp only [hqs] at hq;try (exfalso;omega))|(apply byI;intro K hK)|(apply byH;repeat (first|exact dst_z rfl|apply dst_s))|(apply byN;unfold NapOK;kernel_rfl)|(apply byD;first|(simp;done)|(simp [go_sem];done))|(refine hK _ _ ?_;clear hK;clear K)|omega|contradiction))
          (apply callB' [6000] cl43 (hc1); (case h1 | h2 | h3 => (simp only [go_sem, ↓reduceIte]; try rfl)); (case hl | hs | hfp | hfr => (simp [go_sem]; done)))
          (with_reducible repeat' (first|exact trivial|(apply byE;simp only [go_sem, ↓reduceIte];try rfl)|apply Aa|apply As|apply Au|apply Av|apply Aj|apply At|apply Aw|apply Ab|apply Ac|apply Ad|apply Ae|apply Af|apply Ag|apply Ah|apply Ai|apply Ak|apply Al|apply rounds_s|((first|apply An|apply Ao);(case hs=>with_unfolding_all rfl))|apply Am|apply Ap|apply Aq|apply Ar|apply Ax|apply Ay|apply Az|apply Ba|apply Bb|apply Bc|apply Bd|apply Be|apply Ca|apply Cb|apply Cc|apply Cd|apply Ce|apply Cf|apply Cg|apply Ch|apply Ci|apply Bf|apply Cj|apply Ck|apply Cl|apply Cm|apply Cn|apply Co|apply Cp|(apply byR;with_unfolding_all rfl)|((first|apply byKt|apply byKs);kernel_rfl)|(apply byL;simp only [econs,List.map_cons,List.map_nil,List.cons_append,List.nil_append,OpS.nm,OpS.reads,OpS.turns,Nat.reduceAdd];try with_unfolding_all rfl)|(apply byG;intro hg;try simp only [hg])|(apply byQ;intro hq;try simp only [hqs] at hq;try (exfalso;omega))|(apply byI;intro K hK)|(apply byH;repeat (first|exact dst_z rfl|apply dst_s))|(apply byN;unfold NapOK;kernel_rfl)|(apply byD;first|(simp;done)|(simp [go_sem];done))|(refine hK _ _ ?_;clear hK;clear K)|omega|contradiction))
          rotate_left
          · simp [maxLen]; omega
          · simp [maxLen]; omega
          simp only [zerosR_int]
          refine loop_nil 15 11001 3 48 rfl (Nat.le_of_ble_eq_true rfl) ?_
          have hL := ordL_len l
          have hst2 : isort ltT (stepsL 0 l) = ordL l := rfl
          rw [hst2]
          have hmem := fun x (hx : x ∈ ordL l) => step_right har hx
          have hPB := payL_PB har0 l.length (L := ordL l) (fun x hx => by obtain ⟨k, _, _, _, h⟩ := hmem x hx; exact h)
          have hTl := rowT_len (ordL l)
          generalize hLe : ordL l = L at *
          simp only [← hL]
          refine loopW mixed (σ := {i : Nat // i ≤ L.length}) (fun s => ⟨[(57, int s.1), (56, int L.length), (55, .osl 6000 4 0 L.length), (15, .osl 11001 3 0 (payL c l.length (L.take s.1)).out.length), (14, int (payL c l.length (L.take s.1)).all), (13, .osl 8041 1 0 l.length), (12, .osl 8017 1 0 l.length), (2, .ptr 0 0)], [(11001, some ⟨48, rowC r3row (payL c l.length (L.take s.1)).out⟩), (8041, some ⟨3, rowC irow (payL c l.length (L.take s.1)).paid⟩), (8017, some ⟨3, rowC irow (payL c l.length (L.take s.1)).shown⟩), (6000, some ⟨74, rowC trow L⟩), (0, some ⟨23, c.flat⟩)], 11002⟩) (fun s => L.length - s.1) id ⟨0, by omega⟩ (by rw [hN]; kernel_rfl) ?_ ?_
          · simp only [go_sem, ↓reduceIte, hF]
            exact ⟨⟨rfl, rfl, rfl⟩, rfl, rfl, rfl⟩
          · rintro ⟨i, g1⟩
            by_cases gi : i < L.length
            · have e0 : L[i]? = some L[i] := List.getElem?_eq_getElem gi
              have e1 := rowT_some e0
              have e2 : IntKind.i64.wrap ((i : Int) + 1) = ((i + 1 : Nat) : Int) := by rw [wrap_id] <;> omega
              have hnx := payL_take (c := c) (n := l.length) e0
              have hP := hPB i g1
              have z4 := rowT_nz (l := L) (by omega)
              obtain ⟨k, q1, q2, q3, q4⟩ := hmem _ (List.getElem_mem gi)
              generalize L[i] = x at *
              obtain ⟨xf, bk, kd, am⟩ := x
              simp only at q2 q4
              subst q2
              have gk := hP.get1 k
              have gp := hP.get2 k
              have gb := hP.al
              have gl1 := hP.l1
              have gl2 := hP.l2
              unfold payOne at hnx
              simp only [Int.toNat_natCast] at hnx
              by_cases hk : kd = 2
              · subst hk
                rw [if_pos rfl] at hnx
                generalize payL c l.length (L.take i) = s at *
                obtain ⟨sS, sP, sA, sO⟩ := s
                simp only at gl1 gl2 gk gp gb hnx
                have ou := hP.ou
                simp only at ou
                have r1 : sS[k]? = some (sS.getD k 0) := by rw [List.getD_eq_getElem?_getD, List.getElem?_eq_getElem (by omega)]; rfl
                have r2 : sP[k]? = some (sP.getD k 0) := by rw [List.getD_eq_getElem?_getD, List.getElem?_eq_getElem (by omega)]; rfl
                generalize sS.getD k 0 = sh at *
                generalize sP.getD k 0 = pk at *
                have m1 := rowI_some r1
                have m2 := rowI_some r2
                have hcv := cvRight_iff.1 har0
                have z1 := rowI_nz (l := sS) (by omega)
                have z2 := rowI_nz (l := sP) (by omega)
                have z3 := rowI_nz (l := sS.set k (sh + am)) (by rw [List.length_set]; omega)
                have w1 : IntKind.i64.wrap (sh + am) = sh + am := by rw [wrap_id] <;> omega
                have w2 : IntKind.i64.wrap (sA - pk) = sA - pk := by rw [wrap_id] <;> omega
                have hb1 := pays_bd (c := c) har0 (sh + am) (used := sA - pk) (by omega)
                have hb2 := worth0_bd (c := c) har0 (sh + am)
                have hpy := pays_f c (sh + am) (sA - pk) hc (by unfold Int64; omega) (by unfold Int64; omega)
                generalize pays c (sh + am) (sA - pk) = pw at *
                have w3 : IntKind.i64.wrap (pw - pk) = pw - pk := by rw [wrap_id] <;> omega
                have w4 : IntKind.i64.wrap (pk + (pw - pk)) = pw := by rw [wrap_id] <;> omega
                have w5 : IntKind.i64.wrap (sA + (pw - pk)) = sA + (pw - pk) := by rw [wrap_id] <;> omega
                have m3 : (sS.set k (sh + am))[k]? = some (sh + am) := by rw [List.getElem?_set_self (by omega)]
                have m4 := rowI_some m3
                have n1 := rowI_put sS k (sh + am) (by omega)
                have n2 := rowI_put sP k pw (by omega)
                have q5 : k < sS.length := by omega
                have q6 : k < sP.length := by omega
                by_cases hw : pw - pk ≤ 0
                · rw [if_pos hw] at hnx
                  (with_reducible repeat' (first|exact trivial|(apply byE;simp only [go_sem, ↓reduceIte, e1, e2, hTl, gi, le4, Int.reduceEq, m1, m2, w1, w2, w3, m4, n1, q5, q6, rowI_len, List.length_set, z1, z2, z3, z4, eq_true hw, decide_eq_true hw];try rfl)|apply Aa|apply As|apply Au|apply Av|apply Aj|apply At|apply Aw|apply Ab|apply Ac|apply Ad|apply Ae|apply Af|apply Ag|apply Ah|apply Ai|apply Ak|apply Al|apply rounds_s|((first|apply An|apply Ao);(case hs=>with_unfolding_all rfl))|apply Am|apply Ap|apply Aq|apply Ar|apply Ax|apply Ay|apply Az|apply Ba|apply Bb|apply Bc|apply Bd|apply Be|apply Ca|apply Cb|apply Cc|apply Cd|apply Ce|apply Cf|apply Cg|apply Ch|apply Ci|apply Bf|apply Cj|apply Ck|apply Cl|apply Cm|apply Cn|apply Co|apply Cp|(apply byR;with_unfolding_all rfl)|((first|apply byKt|apply byKs);kernel_rfl)|(apply byL;simp only [econs,List.map_cons,List.map_nil,List.cons_append,List.nil_append,OpS.nm,OpS.reads,OpS.turns,Nat.reduceAdd];try with_unfolding_all rfl)|(apply byG;intro hg;try simp only [hg])|(apply byQ;intro hq;try simp only [hqs] at hq;try (exfalso;omega))|(apply byI;intro K hK)|(apply byH;repeat (first|exact dst_z rfl|apply dst_s))|(apply byN;unfold NapOK;kernel_rfl)|(apply byD;first|(simp;done)|(simp [go_sem];done))|(refine hK _ _ ?_;clear hK;clear K)|omega|(apply callX cl25 (hpy);(case hl=>with_unfolding_all rfl))|contradiction))
                  refine ⟨⟨i + 1, gi⟩, id, ?_, by show L.length - (i + 1) < L.length - i; omega⟩
                  simp only [hnx]
                  simp only [go_sem, ↓reduceIte, hF]
                · rw [if_neg hw] at hnx
                  (with_reducible repeat' (first|exact trivial|(apply byE;simp only [go_sem, ↓reduceIte, e1, e2, hTl, gi, le4, Int.reduceEq, m1, m2, w1, w2, w3, w4, w5, m4, n1, n2, q5, q6, rowI_len, List.length_set, z1, z2, z3, z4, eq_false hw, decide_eq_false hw];try rfl)|apply Aa|apply As|apply Au|apply Av|apply Aj|apply At|apply Aw|apply Ab|apply Ac|apply Ad|apply Ae|apply Af|apply Ag|apply Ah|apply Ai|apply Ak|apply Al|apply rounds_s|((first|apply An|apply Ao);(case hs=>with_unfolding_all rfl))|apply Am|apply Ap|apply Aq|apply Ar|apply Ax|apply Ay|apply Az|apply Ba|apply Bb|apply Bc|apply Bd|apply Be|apply Ca|apply Cb|apply Cc|apply Cd|apply Ce|apply Cf|apply Cg|apply Ch|apply Ci|apply Bf|apply Cj|apply Ck|apply Cl|apply Cm|apply Cn|apply Co|apply Cp|(apply byR;with_unfolding_all rfl)|((first|apply byKt|apply byKs);kernel_rfl)|(apply byL;simp only [econs,List.map_cons,List.map_nil,List.cons_append,List.nil_append,OpS.nm,OpS.reads,OpS.turns,Nat.reduceAdd];try with_unfolding_all rfl)|(apply byG;intro hg;try simp only [hg])|(apply byQ;intro hq;try simp only [hqs] at hq;try (exfalso;omega))|(apply byI;intro K hK)|(apply byH;repeat (first|exact dst_z rfl|apply dst_s))|(apply byN;unfold NapOK;kernel_rfl)|(apply byD;first|(simp;done)|(simp [go_sem];done))|(refine hK _ _ ?_;clear hK;clear K)|omega|(apply callX cl25 (hpy);(case hl=>with_unfolding_all rfl))|contradiction))
                  · refine ⟨⟨i + 1, gi⟩, nm1 11001 18074, ?_, by show L.length - (i + 1) < L.length - i; omega⟩
                    simp only [hnx, List.length_append, List.length_singleton, rowR_snoc]
                    simp only [go_sem, ↓reduceIte, hF, List.map_append, List.all_append]
                  · have hro : (rowC r3row sO).length = sO.length * 3 := rowC_len (F := r3row) (k := 3) (fun _ => rfl) sO
                    exact ⟨hro, by simp [maxLen]; omega⟩
              · rw [if_neg hk] at hnx
                (with_reducible repeat' (first|exact trivial|(apply byE;simp only [go_sem, ↓reduceIte, e1, e2, hk, hTl, gi, le4, z4];try rfl)|apply Aa|apply As|apply Au|apply Av|apply Aj|apply At|apply Aw|apply Ab|apply Ac|apply Ad|apply Ae|apply Af|apply Ag|apply Ah|apply Ai|apply Ak|apply Al|apply rounds_s|((first|apply An|apply Ao);(case hs=>with_unfolding_all rfl))|apply Am|apply Ap|apply Aq|apply Ar|apply Ax|apply Ay|apply Az|apply Ba|apply Bb|apply Bc|apply Bd|apply Be|apply Ca|apply Cb|apply Cc|apply Cd|apply Ce|apply Cf|apply Cg|apply Ch|apply Ci|apply Bf|apply Cj|apply Ck|apply Cl|apply Cm|apply Cn|apply Co|apply Cp|(apply byR;with_unfolding_all rfl)|((first|apply byKt|apply byKs);kernel_rfl)|(apply byL;simp only [econs,List.map_cons,List.map_nil,List.cons_append,List.nil_append,OpS.nm,OpS.reads,OpS.turns,Nat.reduceAdd];try with_unfolding_all rfl)|(apply byG;intro hg;try simp only [hg])|(apply byQ;intro hq;try simp only [hqs] at hq;try (exfalso;omega))|(apply byI;intro K hK)|(apply byH;repeat (first|exact dst_z rfl|apply dst_s))|(apply byN;unfold NapOK;kernel_rfl)|(apply byD;first|(simp;done)|(simp [go_sem];done))|(refine hK _ _ ?_;clear hK;clear K)|omega|contradiction))
                refine ⟨⟨i + 1, gi⟩, id, ?_, by show L.length - (i + 1) < L.length - i; omega⟩
                simp only [hnx]
                simp only [go_sem, ↓reduceIte, hF]
            · obtain rfl : i = L.length := by omega
              simp only [List.take_length]
              (with_reducible repeat' (first|exact trivial|(apply byE;simp only [go_sem, ↓reduceIte];try rfl)|apply Aa|apply As|apply Au|apply Av|apply Aj|apply At|apply Aw|apply Ab|apply Ac|apply Ad|apply Ae|apply Af|apply Ag|apply Ah|apply Ai|apply Ak|apply Al|apply rounds_s|((first|apply An|apply Ao);(case hs=>with_unfolding_all rfl))|apply Am|apply Ap|apply Aq|apply Ar|apply Ax|apply Ay|apply Az|apply Ba|apply Bb|apply Bc|apply Bd|apply Be|apply Ca|apply Cb|apply Cc|apply Cd|apply Ce|apply Cf|apply Cg|apply Ch|apply Ci|apply Bf|apply Cj|apply Ck|apply Cl|apply Cm|apply Cn|apply Co|apply Cp|(apply byR;with_unfolding_all rfl)|((first|apply byKt|apply byKs);kernel_rfl)|(apply byL;simp only [econs,List.map_cons,List.map_nil,List.cons_append,List.nil_append,OpS.nm,OpS.reads,OpS.turns,Nat.reduceAdd];try with_unfolding_all rfl)|(apply byG;intro hg;try simp only [hg])|(apply byQ;intro hq;try simp only [hqs] at hq;try (exfalso;omega))|(apply byI;intro K hK)|(apply byH;repeat (first|exact dst_z rfl|apply dst_s))|(apply byN;unfold NapOK;kernel_rfl)|(apply byD;first|(simp;done)|(simp [go_sem];done))|(refine hK _ _ ?_;clear hK;clear K)|omega|contradiction))
              have hpr : paidR c l = (payL c l.length L).out := by rw [paidR, if_pos he, hLe]
              rw [hpr, he]
              exact ⟨⟨⟨rfl, rows_len (F := r3row) (fun _ => rfl) _⟩, fzo_rows (F := r3row) (k := 3) (fun _ => rfl) (fun _ => by simp [r3row]) _ rfl⟩, rfl⟩
  · refine fun_W mixed Try.func17 rfl (Nat.le_of_ble_eq_true rfl) (by kernel_rfl) fun cx hN hR hF hL => ?_; apply args_k; (case hA => (simp only [go_sem, ↓reduceIte]; rfl))
    (with_reducible repeat' (first|exact trivial|(apply byE;simp only [go_sem, ↓reduceIte, he];try rfl)|apply Aa|apply As|apply Au|apply Av|apply Aj|apply At|apply Aw|apply Ab|apply Ac|apply Ad|apply Ae|apply Af|apply Ag|apply Ah|apply Ai|apply Ak|apply Al|apply rounds_s|((first|apply An|apply Ao);(case hs=>with_unfolding_all rfl))|apply Am|apply Ap|apply Aq|apply Ar|apply Ax|apply Ay|apply Az|apply Ba|apply Bb|apply Bc|apply Bd|apply Be|apply Ca|apply Cb|apply Cc|apply Cd|apply Ce|apply Cf|apply Cg|apply Ch|apply Ci|apply Bf|apply Cj|apply Ck|apply Cl|apply Cm|apply Cn|apply Co|apply Cp|(apply byR;with_unfolding_all rfl)|((first|apply byKt|apply byKs);kernel_rfl)|(apply byL;simp only [econs,List.map_cons,List.map_nil,List.cons_append,List.nil_append,OpS.nm,OpS.reads,OpS.turns,Nat.reduceAdd];try with_unfolding_all rfl)|(apply byG;intro hg;try simp only [hg])|(apply byQ;intro hq;try simp only [hqs] at hq;try (exfalso;omega))|(apply byI;intro K hK)|(apply byH;repeat (first|exact dst_z rfl|apply dst_s))|(apply byN;unfold NapOK;kernel_rfl)|(apply byD;first|(simp;done)|(simp [go_sem];done))|(refine hK _ _ ?_;clear hK;clear K)|omega|(apply callX cl42 (check_f c l hc hl);(case hl=>with_unfolding_all rfl))|contradiction))
    simp [paidR, he]
theorem srt_of {c : Cover} {l : List File} (h : adjRight c l = true) : ∀ f, f ∈ l → f.acts.Pairwise fun a b => a.booked ≤ b.booked := by
  intro f hf
  rw [adjRight, Bool.and_eq_true, List.all_eq_true] at h
  have := h.2 f hf
  rw [okFile, Bool.and_eq_true] at this
  exact (made_good this.2).srt
/-! ### The sum of what is paid -/
theorem sum_set : ∀ (l : List Int) (k : Nat) (w : Int), k < l.length → (l.set k w).sum = l.sum + (w - l.getD k 0)
  | [], k, w, h => absurd h (Nat.not_lt_zero k)
  | x :: l, 0, w, _ => by simp; omega
  | x :: l, k + 1, w, h => by
    have := sum_set l k w (by simpa using h)
    simp at this ⊢
    omega
theorem pay_sum {c : Cover} {n m : Nat} {s : PS} (h : PB c n m s) (hs : s.paid.sum = s.all) (x : Stp) {k : Nat} (hx : x.file = (k : Int)) (hk : k < n) : (payOne c s x).paid.sum = (payOne c s x).all := by
  unfold payOne
  split
  · simp only
    split
    · exact hs
    · simp only
      rw [hx, Int.toNat_natCast, sum_set _ _ _ (by rw [h.l2]; exact hk), hs]
  · exact hs
theorem payL_sum {c : Cover} {l : List File} (h : adjRight c l = true) : ∀ i, i ≤ (ordL l).length → (payL c l.length ((ordL l).take i)).paid.sum = (payL c l.length ((ordL l).take i)).all := by
  have hr : c.rightB = true := by rw [adjRight, Bool.and_eq_true] at h; exact h.1
  have hPB := payL_PB hr l.length (L := ordL l) fun x hx => by obtain ⟨_, _, _, _, h⟩ := step_right h hx; exact h
  intro i
  induction i with
  | zero =>
    intro _
    show (List.replicate l.length (0 : Int)).sum = 0
    simp
  | succ i ih =>
    intro hi
    have e0 : (ordL l)[i]? = some (ordL l)[i] := List.getElem?_eq_getElem hi
    rw [payL_take e0]
    obtain ⟨k, h1, h2, _⟩ := step_right h (List.getElem_mem hi)
    exact pay_sum (hPB i (by omega)) (ih (by omega)) _ h2 h1
end Go.Proofs.Ytjplhfmakghabaa.V
