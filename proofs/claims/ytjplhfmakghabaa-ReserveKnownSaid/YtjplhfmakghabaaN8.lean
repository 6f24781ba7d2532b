/- Contracts: claims and files: Stand, Clone, Put, made, Right. Contracts of chapter 19: made, Right, check. -/
-- STEPS: new
import Derived.Test.YtjplhfmakghabaaN6
set_option linter.unusedSimpArgs false
set_option linter.unusedVariables false
namespace Go.Proofs.Ytjplhfmakghabaa.V
open Go.RowKit
set_option maxRecDepth 100000
attribute [local go_sem] Option.toList_some Option.toList_none

theorem standF_f (f : File) (hl : f.acts.length ≤ 100000) : Fun Try.prog 26 [.agg f.flat] (.agg (standP f.acts).flat) := by
  refine fun_W mixed Try.func26 rfl (Nat.le_of_ble_eq_true rfl) (by kernel_rfl) fun cx hN hR hF hL => ?_; apply args_k; (case hA => (simp only [go_sem, ↓reduceIte]; rfl))
  (with_reducible repeat' (first|exact trivial|(apply byE;simp only [go_sem, ↓reduceIte];try rfl)|apply Aa|apply As|apply Au|apply Av|apply Aj|apply At|apply Aw|apply Ab|apply Ac|apply Ad|apply Ae|apply Af|apply Ag|apply Ah|apply Ai|apply Ak|apply Al|((first|apply An|apply Ao);(case hs=>with_unfolding_all rfl))|apply Am|apply Ap|apply Aq|apply Ar|apply Ax|apply Ay|apply Az|apply Ba|apply Bb|apply Bc|apply Bd|apply Be|apply Ca|apply Cb|apply Cc|apply Cd|apply Ce|apply Cf|apply Cg|apply Ch|apply Ci|apply Bf|apply Cj|apply Ck|apply Cl|apply Cm|apply Cn|apply Co|apply Cp|(apply byR;with_unfolding_all rfl)|((first|apply byKt|apply byKs);kernel_rfl)|(apply byL;simp only [econs,List.map_cons,List.map_nil,List.cons_append,List.nil_append,OpS.nm,OpS.reads,OpS.turns,Nat.reduceAdd];try with_unfolding_all rfl)|(apply byG;intro hg;try simp only [hg])|(apply byQ;intro hq;try simp only [hqs] at hq;try (exfalso;omega))|(apply byI;intro K hK)|(apply byH;repeat (first|exact dst_z rfl|apply dst_s))|(apply byN;unfold NapOK;kernel_rfl)|(apply byD;first|(simp;done)|(simp [go_sem];done))|(refine hK _ _ ?_;clear hK;clear K)|omega|(apply callX cl60 (stand_f f hl);(case hl=>with_unfolding_all rfl))|contradiction))
  exact ⟨rfl, rfl, rfl, rfl, rfl, rfl⟩
theorem act_len (a : Act) : a.flat.length = 3 := rfl
theorem act_data (a : Act) : a.flat.all AV.isData = true := by simp [Act.flat]
theorem clone_f (l : List Act) (hl : l.length ≤ 100000) : Fun Try.prog 63 [actsA l] (actsA l) := by
  refine fun_W mixed Try.func63 rfl (Nat.le_of_ble_eq_true rfl) (by kernel_rfl) fun cx hN hR hF hL => ?_; apply args_k; (case hA => (simp only [go_sem, ↓reduceIte]; rfl))
  (with_reducible repeat' (first|exact trivial|(apply byE;simp only [go_sem, ↓reduceIte];try rfl)|apply Aa|apply As|apply Au|apply Av|apply Aj|apply At|apply Aw|apply Ab|apply Ac|apply Ad|apply Ae|apply Af|apply Ag|apply Ah|apply Ai|apply Ak|apply Al|((first|apply An|apply Ao);(case hs=>with_unfolding_all rfl))|apply Am|apply Ap|apply Aq|apply Ar|apply Ax|apply Ay|apply Az|apply Ba|apply Bb|apply Bc|apply Bd|apply Be|apply Ca|apply Cb|apply Cc|apply Cd|apply Ce|apply Cf|apply Cg|apply Ch|apply Ci|apply Bf|apply Cj|apply Ck|apply Cl|apply Cm|apply Cn|apply Co|apply Cp|(apply byR;with_unfolding_all rfl)|((first|apply byKt|apply byKs);kernel_rfl)|(apply byL;simp only [econs,List.map_cons,List.map_nil,List.cons_append,List.nil_append,OpS.nm,OpS.reads,OpS.turns,Nat.reduceAdd];try with_unfolding_all rfl)|(apply byG;intro hg;try simp only [hg])|(apply byQ;intro hq;try simp only [hqs] at hq;try (exfalso;omega))|(apply byI;intro K hK)|(apply byH;repeat (first|exact dst_z rfl|apply dst_s))|(apply byN;unfold NapOK;kernel_rfl)|(apply byD;first|(simp;done)|(simp [go_sem];done))|(refine hK _ _ ?_;clear hK;clear K)|omega|contradiction))
  · exact ⟨rows_len act_len l, fzo_rows act_len act_data l rfl⟩
  · simp [maxLen]; omega
@[go_sem] theorem rowA_ren (r : Nat → Nat) (l : List Act) : ((l.map Act.flat).flatten).map (AV.ren r) = (l.map Act.flat).flatten := rows_ren (fun x r => by simp [Act.flat]) r l
@[go_sem] theorem rowA_nms (p : Nat → Bool) (l : List Act) : ((l.map Act.flat).flatten).all (AV.names p) = true := rows_nms (fun x p => by simp [Act.flat]) p l
theorem cloneB_f (l : List Act) (hl : l.length ≤ 100000) : FunB Try.prog 63 [] [actsA l] (.osl 0 3 0 l.length) [(0, some ⟨50, (l.map Act.flat).flatten⟩)] := by
  refine funB_C 0 Try.func63 rfl (Nat.le_of_ble_eq_true rfl) (by simp [go_sem]) fun cx hN hR hF hL => ?_; apply code_argsB; (case hA => (simp only [go_sem, ↓reduceIte]; rfl)); (case hB => (simp only [go_sem, ↓reduceIte]; rfl))
  (refine code_seq mixed (by rw [hN]; kernel_rfl) ?_)
  (with_reducible repeat' (first|exact trivial|(apply byE;simp only [go_sem, ↓reduceIte];try rfl)|apply Aa|apply As|apply Au|apply Av|apply Aj|apply At|apply Aw|apply Ab|apply Ac|apply Ad|apply Ae|apply Af|apply Ag|apply Ah|apply Ai|apply Ak|apply Al|((first|apply An|apply Ao);(case hs=>with_unfolding_all rfl))|apply Am|apply Ap|apply Aq|apply Ar|apply Ax|apply Ay|apply Az|apply Ba|apply Bb|apply Bc|apply Bd|apply Be|apply Ca|apply Cb|apply Cc|apply Cd|apply Ce|apply Cf|apply Cg|apply Ch|apply Ci|apply Bf|apply Cj|apply Ck|apply Cl|apply Cm|apply Cn|apply Co|apply Cp|(apply byR;with_unfolding_all rfl)|((first|apply byKt|apply byKs);kernel_rfl)|(apply byL;simp only [econs,List.map_cons,List.map_nil,List.cons_append,List.nil_append,OpS.nm,OpS.reads,OpS.turns,Nat.reduceAdd];try with_unfolding_all rfl)|(apply byG;intro hg;try simp only [hg])|(apply byQ;intro hq;try simp only [hqs] at hq;try (exfalso;omega))|(apply byI;intro K hK)|(apply byH;repeat (first|exact dst_z rfl|apply dst_s))|(apply byN;unfold NapOK;kernel_rfl)|(apply byD;first|(simp;done)|(simp [go_sem];done))|(refine hK _ _ ?_;clear hK;clear K)|omega|contradiction))
  refine code_seq2 ?_
  (refine code_seq mixed (by rw [hN]; kernel_rfl) ?_)
  (with_reducible repeat' (first|exact trivial|(apply byE;simp only [go_sem, ↓reduceIte];try rfl)|apply Aa|apply As|apply Au|apply Av|apply Aj|apply At|apply Aw|apply Ab|apply Ac|apply Ad|apply Ae|apply Af|apply Ag|apply Ah|apply Ai|apply Ak|apply Al|((first|apply An|apply Ao);(case hs=>with_unfolding_all rfl))|apply Am|apply Ap|apply Aq|apply Ar|apply Ax|apply Ay|apply Az|apply Ba|apply Bb|apply Bc|apply Bd|apply Be|apply Ca|apply Cb|apply Cc|apply Cd|apply Ce|apply Cf|apply Cg|apply Ch|apply Ci|apply Bf|apply Cj|apply Ck|apply Cl|apply Cm|apply Cn|apply Co|apply Cp|(apply byR;with_unfolding_all rfl)|((first|apply byKt|apply byKs);kernel_rfl)|(apply byL;simp only [econs,List.map_cons,List.map_nil,List.cons_append,List.nil_append,OpS.nm,OpS.reads,OpS.turns,Nat.reduceAdd];try with_unfolding_all rfl)|(apply byG;intro hg;try simp only [hg])|(apply byQ;intro hq;try simp only [hqs] at hq;try (exfalso;omega))|(apply byI;intro K hK)|(apply byH;repeat (first|exact dst_z rfl|apply dst_s))|(apply byN;unfold NapOK;kernel_rfl)|(apply byD;first|(simp;done)|(simp [go_sem];done))|(refine hK _ _ ?_;clear hK;clear K)|omega|contradiction))
  refine code_bit rfl (fun hq => ?_) ?_
  · obtain rfl : l = [] := by simpa using hq
    (refine code_seq mixed (by rw [hN]; kernel_rfl) ?_)
    (with_reducible repeat' (first|exact trivial|(apply byE;simp only [go_sem, ↓reduceIte];try rfl)|apply Aa|apply As|apply Au|apply Av|apply Aj|apply At|apply Aw|apply Ab|apply Ac|apply Ad|apply Ae|apply Af|apply Ag|apply Ah|apply Ai|apply Ak|apply Al|((first|apply An|apply Ao);(case hs=>with_unfolding_all rfl))|apply Am|apply Ap|apply Aq|apply Ar|apply Ax|apply Ay|apply Az|apply Ba|apply Bb|apply Bc|apply Bd|apply Be|apply Ca|apply Cb|apply Cc|apply Cd|apply Ce|apply Cf|apply Cg|apply Ch|apply Ci|apply Bf|apply Cj|apply Ck|apply Cl|apply Cm|apply Cn|apply Co|apply Cp|(apply byR;with_unfolding_all rfl)|((first|apply byKt|apply byKs);kernel_rfl)|(apply byL;simp only [econs,List.map_cons,List.map_nil,List.cons_append,List.nil_append,OpS.nm,OpS.reads,OpS.turns,Nat.reduceAdd];try with_unfolding_all rfl)|(apply byG;intro hg;try simp only [hg])|(apply byQ;intro hq;try simp only [hqs] at hq;try (exfalso;omega))|(apply byI;intro K hK)|(apply byH;repeat (first|exact dst_z rfl|apply dst_s))|(apply byN;unfold NapOK;kernel_rfl)|(apply byD;first|(simp;done)|(simp [go_sem];done))|(refine hK _ _ ?_;clear hK;clear K)|omega|contradiction))
    refine code_nil 2 3000 3 50 rfl (Nat.le_of_ble_eq_true rfl) ?_
    refine code_cut (nm1 0 3000) ⟨[(2, .osl 0 3 0 0)], [(0, some ⟨50, []⟩)], 1⟩ ?_ (code_w mixed (by rw [hN]; kernel_rfl) ?_)
    · simp only [go_sem, ↓reduceIte, hF]
      exact fun b g h => absurd (hF b g h) (by simp [inl])
    · (with_reducible repeat' (first|exact trivial|(apply byE;simp only [go_sem, ↓reduceIte];try rfl)|apply Aa|apply As|apply Au|apply Av|apply Aj|apply At|apply Aw|apply Ab|apply Ac|apply Ad|apply Ae|apply Af|apply Ag|apply Ah|apply Ai|apply Ak|apply Al|((first|apply An|apply Ao);(case hs=>with_unfolding_all rfl))|apply Am|apply Ap|apply Aq|apply Ar|apply Ax|apply Ay|apply Az|apply Ba|apply Bb|apply Bc|apply Bd|apply Be|apply Ca|apply Cb|apply Cc|apply Cd|apply Ce|apply Cf|apply Cg|apply Ch|apply Ci|apply Bf|apply Cj|apply Ck|apply Cl|apply Cm|apply Cn|apply Co|apply Cp|(apply byR;with_unfolding_all rfl)|((first|apply byKt|apply byKs);kernel_rfl)|(apply byL;simp only [econs,List.map_cons,List.map_nil,List.cons_append,List.nil_append,OpS.nm,OpS.reads,OpS.turns,Nat.reduceAdd];try with_unfolding_all rfl)|(apply byG;intro hg;try simp only [hg])|(apply byQ;intro hq;try simp only [hqs] at hq;try (exfalso;omega))|(apply byI;intro K hK)|(apply byH;repeat (first|exact dst_z rfl|apply dst_s))|(apply byN;unfold NapOK;kernel_rfl)|(apply byD;first|(simp;done)|(simp [go_sem];done))|(refine hK _ _ ?_;clear hK;clear K)|omega|contradiction))
      all_goals (try rfl)
  · refine code_w mixed (by rw [hN]; kernel_rfl) ?_
    (with_reducible repeat' (first|exact trivial|(apply byE;simp only [go_sem, ↓reduceIte];try rfl)|apply Aa|apply As|apply Au|apply Av|apply Aj|apply At|apply Aw|apply Ab|apply Ac|apply Ad|apply Ae|apply Af|apply Ag|apply Ah|apply Ai|apply Ak|apply Al|((first|apply An|apply Ao);(case hs=>with_unfolding_all rfl))|apply Am|apply Ap|apply Aq|apply Ar|apply Ax|apply Ay|apply Az|apply Ba|apply Bb|apply Bc|apply Bd|apply Be|apply Ca|apply Cb|apply Cc|apply Cd|apply Ce|apply Cf|apply Cg|apply Ch|apply Ci|apply Bf|apply Cj|apply Ck|apply Cl|apply Cm|apply Cn|apply Co|apply Cp|(apply byR;with_unfolding_all rfl)|((first|apply byKt|apply byKs);kernel_rfl)|(apply byL;simp only [econs,List.map_cons,List.map_nil,List.cons_append,List.nil_append,OpS.nm,OpS.reads,OpS.turns,Nat.reduceAdd];try with_unfolding_all rfl)|(apply byG;intro hg;try simp only [hg])|(apply byQ;intro hq;try simp only [hqs] at hq;try (exfalso;omega))|(apply byI;intro K hK)|(apply byH;repeat (first|exact dst_z rfl|apply dst_s))|(apply byN;unfold NapOK;kernel_rfl)|(apply byD;first|(simp;done)|(simp [go_sem];done))|(refine hK _ _ ?_;clear hK;clear K)|omega|contradiction))
    (refine code_seq mixed (by rw [hN]; kernel_rfl) ?_)
    (with_reducible repeat' (first|exact trivial|(apply byE;simp only [go_sem, ↓reduceIte];try rfl)|apply Aa|apply As|apply Au|apply Av|apply Aj|apply At|apply Aw|apply Ab|apply Ac|apply Ad|apply Ae|apply Af|apply Ag|apply Ah|apply Ai|apply Ak|apply Al|((first|apply An|apply Ao);(case hs=>with_unfolding_all rfl))|apply Am|apply Ap|apply Aq|apply Ar|apply Ax|apply Ay|apply Az|apply Ba|apply Bb|apply Bc|apply Bd|apply Be|apply Ca|apply Cb|apply Cc|apply Cd|apply Ce|apply Cf|apply Cg|apply Ch|apply Ci|apply Bf|apply Cj|apply Ck|apply Cl|apply Cm|apply Cn|apply Co|apply Cp|(apply byR;with_unfolding_all rfl)|((first|apply byKt|apply byKs);kernel_rfl)|(apply byL;simp only [econs,List.map_cons,List.map_nil,List.cons_append,List.nil_append,OpS.nm,OpS.reads,OpS.turns,Nat.reduceAdd];try with_unfolding_all rfl)|(apply byG;intro hg;try simp only [hg])|(apply byQ;intro hq;try simp only [hqs] at hq;try (exfalso;omega))|(apply byI;intro K hK)|(apply byH;repeat (first|exact dst_z rfl|apply dst_s))|(apply byN;unfold NapOK;kernel_rfl)|(apply byD;first|(simp;done)|(simp [go_sem];done))|(refine hK _ _ ?_;clear hK;clear K)|omega|contradiction))
    · refine code_cut (nm1 0 2016) ⟨[(2, .osl 0 3 0 l.length)], [(0, some ⟨50, (l.map Act.flat).flatten⟩)], 1⟩ ?_ (code_w mixed (by rw [hN]; kernel_rfl) ?_)
      · simp only [go_sem, ↓reduceIte, hF]
        exact fun b g h => absurd (hF b g h) (by simp [inl])
      · (with_reducible repeat' (first|exact trivial|(apply byE;simp only [go_sem, ↓reduceIte];try rfl)|apply Aa|apply As|apply Au|apply Av|apply Aj|apply At|apply Aw|apply Ab|apply Ac|apply Ad|apply Ae|apply Af|apply Ag|apply Ah|apply Ai|apply Ak|apply Al|((first|apply An|apply Ao);(case hs=>with_unfolding_all rfl))|apply Am|apply Ap|apply Aq|apply Ar|apply Ax|apply Ay|apply Az|apply Ba|apply Bb|apply Bc|apply Bd|apply Be|apply Ca|apply Cb|apply Cc|apply Cd|apply Ce|apply Cf|apply Cg|apply Ch|apply Ci|apply Bf|apply Cj|apply Ck|apply Cl|apply Cm|apply Cn|apply Co|apply Cp|(apply byR;with_unfolding_all rfl)|((first|apply byKt|apply byKs);kernel_rfl)|(apply byL;simp only [econs,List.map_cons,List.map_nil,List.cons_append,List.nil_append,OpS.nm,OpS.reads,OpS.turns,Nat.reduceAdd];try with_unfolding_all rfl)|(apply byG;intro hg;try simp only [hg])|(apply byQ;intro hq;try simp only [hqs] at hq;try (exfalso;omega))|(apply byI;intro K hK)|(apply byH;repeat (first|exact dst_z rfl|apply dst_s))|(apply byN;unfold NapOK;kernel_rfl)|(apply byD;first|(simp;done)|(simp [go_sem];done))|(refine hK _ _ ?_;clear hK;clear K)|omega|contradiction))
    · simp [maxLen]; omega
theorem fzo_snoc {t : TypeId} {R : AV → AV → Prop} (l : List Act) (c : Act) {n : Nat} (hn : n = l.length + 1) : fzo (some ⟨t, (l.map Act.flat).flatten ++ c.flat⟩) R 3 0 n ((l ++ [c]).map Act.flat) := by
  have h := fzo_rows (t := t) (R := R) act_len act_data (l ++ [c]) (n := n) (by simp [hn])
  simpa using h
def zeroF : File := ⟨⟨0, 0, 0, 0, 0, 0⟩, []⟩
def putF (f : File) (a : Act) : File := if putE f a = 0 then ⟨f.claim, f.acts ++ [a]⟩ else zeroF
theorem put_1 {f : File} {a : Act} {e : Int} (h : putE f a = e) (he : e ≠ 0) : putF f a = zeroF := by unfold putF; rw [if_neg (by rw [h]; exact he)]
theorem put_0 {f : File} {a : Act} (h : putE f a = 0) : putF f a = ⟨f.claim, f.acts ++ [a]⟩ := by unfold putF; rw [if_pos h]
set_option maxHeartbeats 4000000 in
theorem put_f (f : File) (a : Act) (hl : f.acts.length ≤ 50000) : Fun Try.prog 27 [.agg f.flat, .agg a.flat] (.tup [.agg (putF f a).flat, int (putE f a)]) := by
  have hl2 : f.acts.length ≤ 100000 := by omega
  have hlc : (f.acts.map Act.flat).flatten.length = f.acts.length * 3 := rows_count act_len _
  refine fun_W mixed Try.func27 rfl (Nat.le_of_ble_eq_true rfl) (by kernel_rfl) fun cx hN hR hF hL => ?_; apply args_k; (case hA => (simp only [go_sem, ↓reduceIte]; rfl))
  (with_reducible repeat' (first|exact trivial|(apply byE;simp only [go_sem, ↓reduceIte];try rfl)|apply Aa|apply As|apply Au|apply Av|apply Aj|apply At|apply Aw|apply Ab|apply Ac|apply Ad|apply Ae|apply Af|apply Ag|apply Ah|apply Ai|apply Ak|apply Al|((first|apply An|apply Ao);(case hs=>with_unfolding_all rfl))|apply Am|apply Ap|apply Aq|apply Ar|apply Ax|apply Ay|apply Az|apply Ba|apply Bb|apply Bc|apply Bd|apply Be|apply Ca|apply Cb|apply Cc|apply Cd|apply Ce|apply Cf|apply Cg|apply Ch|apply Ci|apply Bf|apply Cj|apply Ck|apply Cl|apply Cm|apply Cn|apply Co|apply Cp|(apply byR;with_unfolding_all rfl)|((first|apply byKt|apply byKs);kernel_rfl)|(apply byL;simp only [econs,List.map_cons,List.map_nil,List.cons_append,List.nil_append,OpS.nm,OpS.reads,OpS.turns,Nat.reduceAdd];try with_unfolding_all rfl)|(apply byG;intro hg;try simp only [hg])|(apply byQ;intro hq;try simp only [hqs] at hq;try (exfalso;omega))|(apply byI;intro K hK)|(apply byH;repeat (first|exact dst_z rfl|apply dst_s))|(apply byN;unfold NapOK;kernel_rfl)|(apply byD;first|(simp;done)|(simp [go_sem];done))|(refine hK _ _ ?_;clear hK;clear K)|omega|(apply callX cl60 (stand_f f hl2);(case hl=>with_unfolding_all rfl))|(apply callX cl61 (actRight_f a);(case hl=>with_unfolding_all rfl))|(apply callX cl62 (last_f f hl2);(case hl=>with_unfolding_all rfl))|contradiction))
  · have e : putE f a = 1 := by
      unfold putE
      (repeat' split) <;> first | rfl | omega | (simp_all [overA]; done) | (simp_all [overA]; omega)
    rw [put_1 e (by omega), e]
    simp [zeroF]
  · have e : putE f a = 2 := by
      unfold putE
      (repeat' split) <;> first | rfl | omega | (simp_all [overA]; done) | (simp_all [overA]; omega)
    rw [put_1 e (by omega), e]
    simp [zeroF]
  · have e : putE f a = 4 := by
      unfold putE
      (repeat' split) <;> first | rfl | omega | (simp_all [overA]; done) | (simp_all [overA]; omega)
    rw [put_1 e (by omega), e]
    simp [zeroF]
  · have e : putE f a = 10 := by
      unfold putE
      (repeat' split) <;> first | rfl | omega | (simp_all [overA]; done) | (simp_all [overA]; omega)
    rw [put_1 e (by omega), e]
    simp [zeroF]
  · have e : putE f a = 5 := by
      unfold putE
      (repeat' split) <;> first | rfl | omega | (simp_all [overA]; done) | (simp_all [overA]; omega)
    rw [put_1 e (by omega), e]
    simp [zeroF]
  · have e : putE f a = 5 := by
      unfold putE
      (repeat' split) <;> first | rfl | omega | (simp_all [overA]; done) | (simp_all [overA]; omega)
    rw [put_1 e (by omega), e]
    simp [zeroF]
  (apply callB' [8016] cl63 (cloneB_f f.acts hl2); (case h1 | h2 | h3 => (simp only [go_sem, ↓reduceIte]; try rfl)); (case hl | hs | hfp | hfr => (simp [go_sem]; done)))
  have e : putE f a = 0 := by
    unfold putE
    (repeat' split) <;> first | rfl | omega | (simp_all [overA]; done) | (simp_all [overA]; omega)
  (with_reducible repeat' (first|exact trivial|(apply byE;simp only [go_sem, ↓reduceIte, hlc];try rfl)|apply Aa|apply As|apply Au|apply Av|apply Aj|apply At|apply Aw|apply Ab|apply Ac|apply Ad|apply Ae|apply Af|apply Ag|apply Ah|apply Ai|apply Ak|apply Al|((first|apply An|apply Ao);(case hs=>with_unfolding_all rfl))|apply Am|apply Ap|apply Aq|apply Ar|apply Ax|apply Ay|apply Az|apply Ba|apply Bb|apply Bc|apply Bd|apply Be|apply Ca|apply Cb|apply Cc|apply Cd|apply Ce|apply Cf|apply Cg|apply Ch|apply Ci|apply Bf|apply Cj|apply Ck|apply Cl|apply Cm|apply Cn|apply Co|apply Cp|(apply byR;with_unfolding_all rfl)|((first|apply byKt|apply byKs);kernel_rfl)|(apply byL;simp only [econs,List.map_cons,List.map_nil,List.cons_append,List.nil_append,OpS.nm,OpS.reads,OpS.turns,Nat.reduceAdd];try with_unfolding_all rfl)|(apply byG;intro hg;try simp only [hg])|(apply byQ;intro hq;try simp only [hqs] at hq;try (exfalso;omega))|(apply byI;intro K hK)|(apply byH;repeat (first|exact dst_z rfl|apply dst_s))|(apply byN;unfold NapOK;kernel_rfl)|(apply byD;first|(simp;done)|(simp [go_sem];done))|(refine hK _ _ ?_;clear hK;clear K)|omega|contradiction))
  · rw [put_0 e, e]
    exact ⟨⟨rfl, rfl, rfl, rfl, rfl, rfl, ⟨by simp, rows_len act_len _⟩, fzo_snoc f.acts a rfl⟩, rfl⟩
  · simp [maxLen]; omega
end Go.Proofs.Ytjplhfmakghabaa.V
namespace Go.Proofs.Ytjplhfmakghabaa.V
open Go.RowKit
set_option maxRecDepth 100000
attribute [local go_sem] Option.toList_some Option.toList_none

theorem made_next {c : Claim} {l : List Act} {i : Nat} {a : Act} (h : l[i]? = some a) (hm : madeL c [] (l.take i) = true) : madeL c [] (l.take (i + 1)) = decide (putE ⟨c, l.take i⟩ a = 0) := by
  rw [List.take_add_one, h, madeL_app, hm]
  simp [madeL]
theorem made_not {c : Claim} {l : List Act} {i : Nat} (h : madeL c [] (l.take i) = false) : madeL c [] l = false := by
  conv => lhs; rw [← List.take_append_drop i l]
  rw [madeL_app, h]
  rfl
set_option maxHeartbeats 4000000 in
theorem made_f (f : File) : Fun Try.prog 50 [.agg f.flat] (bool f.made) := by
  obtain ⟨c, l⟩ := f
  refine fun_W mixed Try.func50 rfl (Nat.le_of_ble_eq_true rfl) (by kernel_rfl) fun cx hN hR hF hL => ?_; apply args_k; (case hA => (simp only [go_sem, ↓reduceIte]; rfl))
  have hl : l.length ≤ 9223372036854775807 := by
    simp [maxLen, File.flat] at hL
    omega
  (with_reducible repeat' (first|exact trivial|(apply byE;simp only [go_sem, ↓reduceIte];try rfl)|apply Aa|apply As|apply Au|apply Av|apply Aj|apply At|apply Aw|apply Ab|apply Ac|apply Ad|apply Ae|apply Af|apply Ag|apply Ah|apply Ai|apply Ak|apply Al|((first|apply An|apply Ao);(case hs=>with_unfolding_all rfl))|apply Am|apply Ap|apply Aq|apply Ar|apply Ax|apply Ay|apply Az|apply Ba|apply Bb|apply Bc|apply Bd|apply Be|apply Ca|apply Cb|apply Cc|apply Cd|apply Ce|apply Cf|apply Cg|apply Ch|apply Ci|apply Bf|apply Cj|apply Ck|apply Cl|apply Cm|apply Cn|apply Co|apply Cp|(apply byR;with_unfolding_all rfl)|((first|apply byKt|apply byKs);kernel_rfl)|(apply byL;simp only [econs,List.map_cons,List.map_nil,List.cons_append,List.nil_append,OpS.nm,OpS.reads,OpS.turns,Nat.reduceAdd];try with_unfolding_all rfl)|(apply byG;intro hg;try simp only [hg])|(apply byQ;intro hq;try simp only [hqs] at hq;try (exfalso;omega))|(apply byI;intro K hK)|(apply byH;repeat (first|exact dst_z rfl|apply dst_s))|(apply byN;unfold NapOK;kernel_rfl)|(apply byD;first|(simp;done)|(simp [go_sem];done))|(refine hK _ _ ?_;clear hK;clear K)|omega|(apply callX cl78 (open_f c);(case hl=>with_unfolding_all rfl))|contradiction))
  refine loopW mixed (σ := {s : Nat × Int × File // s.1 ≤ l.length ∧ ((s.2.1 = 0 ∧ s.2.2 = ⟨c, l.take s.1⟩ ∧ madeL c [] (l.take s.1) = true) ∨ (s.2.1 ≠ 0 ∧ madeL c [] l = false))}) (fun s => ⟨[(5, int s.1.1), (4, int s.1.2.1), (3, .ptr 1024 0), (1, .ptr 0 0)], [(1024, some ⟨44, s.1.2.2.flat⟩), (0, some ⟨44, (⟨c, l⟩ : File).flat⟩)], 4000⟩) (fun s => l.length - s.1.1) id ⟨(0, 0, ⟨c, []⟩), Nat.zero_le _, .inl ⟨rfl, rfl, rfl⟩⟩ (by rw [hN]; kernel_rfl) ?_ ?_
  · simp only [go_sem, ↓reduceIte, hF]
    exact ⟨rfl, rfl⟩
  · rintro ⟨⟨i, e, g⟩, h1, h2⟩
    simp only at h1 h2
    by_cases hi : i < l.length
    · rcases h2 with ⟨rfl, rfl, hm⟩ | ⟨he, hm⟩
      · have hq2 : l[i]? = some l[i] := List.getElem?_eq_getElem hi
        have e1 : (l.map Act.flat)[i]? = some l[i].flat := by rw [List.getElem?_map, hq2]; rfl
        have e5 : IntKind.i64.wrap ((i : Int) + 1) = ((i + 1 : Nat) : Int) := by rw [wrap_id] <;> omega
        have hk1 : i < (l.map Act.flat).length := by simpa using hi
        have hn := made_next hq2 hm
        generalize l[i] = a at *
        have hgl := (made_good (f := ⟨c, l.take i⟩) hm).len
        have hp := put_f ⟨c, l.take i⟩ a (by simp only at hgl ⊢; omega)
        (with_reducible repeat' (first|exact trivial|(apply byE;simp only [go_sem, ↓reduceIte, e1, e5, hk1];try rfl)|apply Aa|apply As|apply Au|apply Av|apply Aj|apply At|apply Aw|apply Ab|apply Ac|apply Ad|apply Ae|apply Af|apply Ag|apply Ah|apply Ai|apply Ak|apply Al|((first|apply An|apply Ao);(case hs=>with_unfolding_all rfl))|apply Am|apply Ap|apply Aq|apply Ar|apply Ax|apply Ay|apply Az|apply Ba|apply Bb|apply Bc|apply Bd|apply Be|apply Ca|apply Cb|apply Cc|apply Cd|apply Ce|apply Cf|apply Cg|apply Ch|apply Ci|apply Bf|apply Cj|apply Ck|apply Cl|apply Cm|apply Cn|apply Co|apply Cp|(apply byR;with_unfolding_all rfl)|((first|apply byKt|apply byKs);kernel_rfl)|(apply byL;simp only [econs,List.map_cons,List.map_nil,List.cons_append,List.nil_append,OpS.nm,OpS.reads,OpS.turns,Nat.reduceAdd];try with_unfolding_all rfl)|(apply byG;intro hg;try simp only [hg])|(apply byQ;intro hq;try simp only [hqs] at hq;try (exfalso;omega))|(apply byI;intro K hK)|(apply byH;repeat (first|exact dst_z rfl|apply dst_s))|(apply byN;unfold NapOK;kernel_rfl)|(apply byD;first|(simp;done)|(simp [go_sem];done))|(refine hK _ _ ?_;clear hK;clear K)|omega|(apply callX cl27 (hp);(case hl=>with_unfolding_all rfl))|contradiction))
        by_cases h0 : putE ⟨c, l.take i⟩ a = 0
        · have hn2 : madeL c [] (l.take (i + 1)) = true := by rw [hn, h0]; rfl
          have hg : l.take (i + 1) = l.take i ++ [a] := by rw [List.take_add_one, hq2]; rfl
          refine ⟨⟨(i + 1, 0, ⟨c, l.take (i + 1)⟩), by omega, .inl ⟨rfl, rfl, hn2⟩⟩, id, ?_, by show l.length - (i + 1) < l.length - i; omega⟩
          rw [put_0 h0, h0]
          simp only [hg]
          simp only [go_sem, ↓reduceIte, hF]
        · have hn2 : madeL c [] (l.take (i + 1)) = false := by rw [hn]; exact decide_eq_false h0
          refine ⟨⟨(i + 1, putE ⟨c, l.take i⟩ a, putF ⟨c, l.take i⟩ a), by omega, .inr ⟨h0, made_not hn2⟩⟩, id, ?_, by show l.length - (i + 1) < l.length - i; omega⟩
          simp only [go_sem, ↓reduceIte, hF]
      · (with_reducible repeat' (first|exact trivial|(apply byE;simp only [go_sem, ↓reduceIte, he];try rfl)|apply Aa|apply As|apply Au|apply Av|apply Aj|apply At|apply Aw|apply Ab|apply Ac|apply Ad|apply Ae|apply Af|apply Ag|apply Ah|apply Ai|apply Ak|apply Al|((first|apply An|apply Ao);(case hs=>with_unfolding_all rfl))|apply Am|apply Ap|apply Aq|apply Ar|apply Ax|apply Ay|apply Az|apply Ba|apply Bb|apply Bc|apply Bd|apply Be|apply Ca|apply Cb|apply Cc|apply Cd|apply Ce|apply Cf|apply Cg|apply Ch|apply Ci|apply Bf|apply Cj|apply Ck|apply Cl|apply Cm|apply Cn|apply Co|apply Cp|(apply byR;with_unfolding_all rfl)|((first|apply byKt|apply byKs);kernel_rfl)|(apply byL;simp only [econs,List.map_cons,List.map_nil,List.cons_append,List.nil_append,OpS.nm,OpS.reads,OpS.turns,Nat.reduceAdd];try with_unfolding_all rfl)|(apply byG;intro hg;try simp only [hg])|(apply byQ;intro hq;try simp only [hqs] at hq;try (exfalso;omega))|(apply byI;intro K hK)|(apply byH;repeat (first|exact dst_z rfl|apply dst_s))|(apply byN;unfold NapOK;kernel_rfl)|(apply byD;first|(simp;done)|(simp [go_sem];done))|(refine hK _ _ ?_;clear hK;clear K)|omega|contradiction))
        exact hm.symm
    · obtain rfl : i = l.length := by omega
      (with_reducible repeat' (first|exact trivial|(apply byE;simp only [go_sem, ↓reduceIte];try rfl)|apply Aa|apply As|apply Au|apply Av|apply Aj|apply At|apply Aw|apply Ab|apply Ac|apply Ad|apply Ae|apply Af|apply Ag|apply Ah|apply Ai|apply Ak|apply Al|((first|apply An|apply Ao);(case hs=>with_unfolding_all rfl))|apply Am|apply Ap|apply Aq|apply Ar|apply Ax|apply Ay|apply Az|apply Ba|apply Bb|apply Bc|apply Bd|apply Be|apply Ca|apply Cb|apply Cc|apply Cd|apply Ce|apply Cf|apply Cg|apply Ch|apply Ci|apply Bf|apply Cj|apply Ck|apply Cl|apply Cm|apply Cn|apply Co|apply Cp|(apply byR;with_unfolding_all rfl)|((first|apply byKt|apply byKs);kernel_rfl)|(apply byL;simp only [econs,List.map_cons,List.map_nil,List.cons_append,List.nil_append,OpS.nm,OpS.reads,OpS.turns,Nat.reduceAdd];try with_unfolding_all rfl)|(apply byG;intro hg;try simp only [hg])|(apply byQ;intro hq;try simp only [hqs] at hq;try (exfalso;omega))|(apply byI;intro K hK)|(apply byH;repeat (first|exact dst_z rfl|apply dst_s))|(apply byN;unfold NapOK;kernel_rfl)|(apply byD;first|(simp;done)|(simp [go_sem];done))|(refine hK _ _ ?_;clear hK;clear K)|omega|contradiction))
      rcases h2 with ⟨rfl, rfl, hm⟩ | ⟨he, hm⟩
      · rw [List.take_length] at hm
        exact hm.symm
      · rw [decide_eq_false he]
        exact hm.symm
end Go.Proofs.Ytjplhfmakghabaa.V
