/- Contracts of the reference of chapter 19: next, total. Contracts of the references of chapters 18 and 19: sum, Stand, Put, made, Right. -/
-- STEPS: new
import Derived.Test.YtjplhfmakghabaaN9
import Derived.Test.YtjplhfmakghabaaN3
set_option linter.unusedSimpArgs false
set_option linter.unusedVariables false
namespace Go.Proofs.Ytjplhfmakghabaa.V
open Go.RowKit
set_option maxRecDepth 100000
attribute [local go_sem] Option.toList_some Option.toList_none

def lenAt (l : List File) (k : Nat) : Nat := match l[k]? with | some f => f.acts.length | none => 0
def bkAt (l : List File) (cn : Nat → Nat) (k : Nat) : Int := match l[k]? with | some f => (match f.acts[cn k]? with | some a => a.booked | none => 0) | none => 0
/-- The file whose act is the next one, of the first i. -/
def nextI (l : List File) (cn : Nat → Nat) : Nat → Int
  | 0 => -1
  | i + 1 => if cn i < lenAt l i ∧ (nextI l cn i < 0 ∨ bkAt l cn i < bkAt l cn (nextI l cn i).toNat) then (i : Int) else nextI l cn i
theorem nextI_is (l : List File) (cn : Nat → Nat) : ∀ i, (nextI l cn i = -1 ∧ ∀ k, k < i → ¬ cn k < lenAt l k) ∨ ∃ b : Nat, b < i ∧ nextI l cn i = (b : Int) ∧ cn b < lenAt l b ∧ ∀ k, k < i → cn k < lenAt l k → bkAt l cn b < bkAt l cn k ∨ (bkAt l cn b = bkAt l cn k ∧ b ≤ k)
  | 0 => .inl ⟨rfl, fun k hk => absurd hk (Nat.not_lt_zero k)⟩
  | i + 1 => by
    rw [nextI]
    rcases nextI_is l cn i with ⟨h1, h2⟩ | ⟨b, h1, h2, h3, h4⟩
    · rw [h1]
      by_cases hr : cn i < lenAt l i
      · rw [if_pos ⟨hr, .inl (by omega)⟩]
        refine .inr ⟨i, by omega, rfl, hr, fun k hk hrk => ?_⟩
        rcases (by omega : k < i ∨ k = i) with hk | rfl
        · exact absurd hrk (h2 k hk)
        · exact .inr ⟨rfl, Nat.le_refl _⟩
      · rw [if_neg (fun h => hr h.1)]
        refine .inl ⟨rfl, fun k hk => ?_⟩
        rcases (by omega : k < i ∨ k = i) with hk | rfl
        · exact h2 k hk
        · exact hr
    · rw [h2]
      simp only [Int.toNat_natCast]
      by_cases hr : cn i < lenAt l i ∧ ((b : Int) < 0 ∨ bkAt l cn i < bkAt l cn b)
      · rw [if_pos hr]
        refine .inr ⟨i, by omega, rfl, hr.1, fun k hk hrk => ?_⟩
        rcases (by omega : k < i ∨ k = i) with hk | rfl
        · have := h4 k hk hrk
          left; omega
        · exact .inr ⟨rfl, Nat.le_refl _⟩
      · rw [if_neg hr]
        refine .inr ⟨b, by omega, rfl, h3, fun k hk hrk => ?_⟩
        rcases (by omega : k < i ∨ k = i) with hk | rfl
        · exact h4 k hk hrk
        · have : ¬ bkAt l cn k < bkAt l cn b := fun h => hr ⟨hrk, .inr h⟩
          rcases (by omega : bkAt l cn b < bkAt l cn k ∨ bkAt l cn b = bkAt l cn k) with h | h
          · exact .inl h
          · exact .inr ⟨h, by omega⟩
def cnL (cn : Nat → Nat) (n : Nat) : List Int := (List.range n).map fun k => (cn k : Int)
theorem cnL_get {cn : Nat → Nat} {n k : Nat} (h : k < n) : (cnL cn n)[k]? = some (cn k : Int) := by simp [cnL, h]
theorem cnL_len (cn : Nat → Nat) (n : Nat) : (cnL cn n).length = n := by simp [cnL]
set_option maxHeartbeats 4000000 in
theorem next_f (l : List File) (cn : Nat → Nat) : Fun Try.prog 45 [filesA l, ints (cnL cn l.length)] (int (nextI l cn l.length)) := by
  refine fun_W mixed Try.func45 rfl (Nat.le_of_ble_eq_true rfl) (by kernel_rfl) fun cx hN hR hF hL => ?_; apply args_k; (case hA => (simp only [go_sem, ↓reduceIte]; rfl))
  have hl : l.length ≤ 9223372036854775807 := by
    simp [maxLen] at hL
    omega
  have hcl := cnL_len cn l.length
  (with_reducible repeat' (first|exact trivial|(apply byE;simp only [go_sem, ↓reduceIte];try rfl)|apply Aa|apply As|apply Au|apply Av|apply Aj|apply At|apply Aw|apply Ab|apply Ac|apply Ad|apply Ae|apply Af|apply Ag|apply Ah|apply Ai|apply Ak|apply Al|((first|apply An|apply Ao);(case hs=>with_unfolding_all rfl))|apply Am|apply Ap|apply Aq|apply Ar|apply Ax|apply Ay|apply Az|apply Ba|apply Bb|apply Bc|apply Bd|apply Be|apply Ca|apply Cb|apply Cc|apply Cd|apply Ce|apply Cf|apply Cg|apply Ch|apply Ci|apply Bf|apply Cj|apply Ck|apply Cl|apply Cm|apply Cn|apply Co|apply Cp|(apply byR;with_unfolding_all rfl)|((first|apply byKt|apply byKs);kernel_rfl)|(apply byL;simp only [econs,List.map_cons,List.map_nil,List.cons_append,List.nil_append,OpS.nm,OpS.reads,OpS.turns,Nat.reduceAdd];try with_unfolding_all rfl)|(apply byG;intro hg;try simp only [hg])|(apply byQ;intro hq;try simp only [hqs] at hq;try (exfalso;omega))|(apply byI;intro K hK)|(apply byH;repeat (first|exact dst_z rfl|apply dst_s))|(apply byN;unfold NapOK;kernel_rfl)|(apply byD;first|(simp;done)|(simp [go_sem];done))|(refine hK _ _ ?_;clear hK;clear K)|omega|contradiction))
  refine loopW mixed (σ := {i : Nat // i ≤ l.length}) (fun s => ⟨[(6, int s.1), (5, int (nextI l cn s.1)), (0, filesA l), (1, ints (cnL cn l.length))], [], 4000⟩) (fun s => l.length - s.1) id ⟨0, by omega⟩ (by rw [hN]; kernel_rfl) ?_ ?_
  · simp only [go_sem, ↓reduceIte, hF]
    exact ⟨rfl, rfl⟩
  · rintro ⟨i, h1⟩
    by_cases hi : i < l.length
    · have e0 : l[i]? = some l[i] := List.getElem?_eq_getElem hi
      have e1 : (l.map File.flat)[i]? = some l[i].flat := by rw [List.getElem?_map, e0]; rfl
      have e2 : IntKind.i64.wrap ((i : Int) + 1) = ((i + 1 : Nat) : Int) := by rw [wrap_id] <;> omega
      have hk1 : i < (l.map File.flat).length := by simpa using hi
      have e3 : ((cnL cn l.length).map irow)[i]? = some (irow (cn i : Int)) := by rw [List.getElem?_map, cnL_get hi]; rfl
      have hk2 : i < ((cnL cn l.length).map irow).length := by simpa [hcl] using hi
      have hla : lenAt l i = l[i].acts.length := by rw [lenAt, e0]
      have hb := nextI_is l cn i
      have hnx : nextI l cn (i + 1) = if cn i < lenAt l i ∧ (nextI l cn i < 0 ∨ bkAt l cn i < bkAt l cn (nextI l cn i).toNat) then (i : Int) else nextI l cn i := rfl
      by_cases hr : cn i < lenAt l i
      · have hr2 : cn i < l[i].acts.length := by omega
        have a0 : l[i].acts[cn i]? = some l[i].acts[cn i] := List.getElem?_eq_getElem hr2
        have a1 : (l[i].acts.map Act.flat)[cn i]? = some l[i].acts[cn i].flat := by rw [List.getElem?_map, a0]; rfl
        have a2 : cn i < (l[i].acts.map Act.flat).length := by simpa using hr2
        have a3 : bkAt l cn i = l[i].acts[cn i].booked := by rw [bkAt, e0]; simp only [a0]
        have hr3 : ((cn i : Int) < (l[i].acts.length : Int)) = True := eq_true (by omega)
        rcases hb with ⟨hb, _⟩ | ⟨b, b1, b2, b3, _⟩
        · rw [if_pos ⟨hr, .inl (by omega)⟩] at hnx
          rw [hb] at *
          generalize l[i].acts[cn i] = a at *
          generalize l[i] = f at *
          (with_reducible repeat' (first|exact trivial|(apply byE;simp only [go_sem, ↓reduceIte, e1, e2, hk1, e3, hk2, hr3, decide_eq_true (of_eq_true hr3), a1, a2, Int.reduceNeg, Int.reduceLT];try rfl)|apply Aa|apply As|apply Au|apply Av|apply Aj|apply At|apply Aw|apply Ab|apply Ac|apply Ad|apply Ae|apply Af|apply Ag|apply Ah|apply Ai|apply Ak|apply Al|((first|apply An|apply Ao);(case hs=>with_unfolding_all rfl))|apply Am|apply Ap|apply Aq|apply Ar|apply Ax|apply Ay|apply Az|apply Ba|apply Bb|apply Bc|apply Bd|apply Be|apply Ca|apply Cb|apply Cc|apply Cd|apply Ce|apply Cf|apply Cg|apply Ch|apply Ci|apply Bf|apply Cj|apply Ck|apply Cl|apply Cm|apply Cn|apply Co|apply Cp|(apply byR;with_unfolding_all rfl)|((first|apply byKt|apply byKs);kernel_rfl)|(apply byL;simp only [econs,List.map_cons,List.map_nil,List.cons_append,List.nil_append,OpS.nm,OpS.reads,OpS.turns,Nat.reduceAdd];try with_unfolding_all rfl)|(apply byG;intro hg;try simp only [hg])|(apply byQ;intro hq;try simp only [hqs] at hq;try (exfalso;omega))|(apply byI;intro K hK)|(apply byH;repeat (first|exact dst_z rfl|apply dst_s))|(apply byN;unfold NapOK;kernel_rfl)|(apply byD;first|(simp;done)|(simp [go_sem];done))|(refine hK _ _ ?_;clear hK;clear K)|omega|contradiction))
          refine ⟨⟨i + 1, hi⟩, id, ?_, by show l.length - (i + 1) < l.length - i; omega⟩
          simp only [hnx]
          simp only [go_sem, ↓reduceIte, hF]
        · have hbl : b < l.length := by omega
          have f0 : l[b]? = some l[b] := List.getElem?_eq_getElem hbl
          have f1 : (l.map File.flat)[b]? = some l[b].flat := by rw [List.getElem?_map, f0]; rfl
          have hk3 : b < (l.map File.flat).length := by simpa using hbl
          have f3 : ((cnL cn l.length).map irow)[b]? = some (irow (cn b : Int)) := by rw [List.getElem?_map, cnL_get hbl]; rfl
          have hk4 : b < ((cnL cn l.length).map irow).length := by simpa [hcl] using hbl
          have hlb : lenAt l b = l[b].acts.length := by rw [lenAt, f0]
          have hr4 : cn b < l[b].acts.length := by omega
          have g0 : l[b].acts[cn b]? = some l[b].acts[cn b] := List.getElem?_eq_getElem hr4
          have g1 : (l[b].acts.map Act.flat)[cn b]? = some l[b].acts[cn b].flat := by rw [List.getElem?_map, g0]; rfl
          have g2 : cn b < (l[b].acts.map Act.flat).length := by simpa using hr4
          have g3 : bkAt l cn b = l[b].acts[cn b].booked := by rw [bkAt, f0]; simp only [g0]
          have hb0 : ((b : Int) < 0) = False := eq_false (by omega)
          rw [b2, Int.toNat_natCast, a3, g3] at hnx
          generalize l[i].acts[cn i] = a at *
          generalize l[b].acts[cn b] = d at *
          generalize l[i] = f at *
          generalize l[b] = g at *
          (with_reducible repeat' (first|exact trivial|(apply byE;simp only [go_sem, ↓reduceIte, e1, e2, hk1, e3, hk2, hr3, decide_eq_true (of_eq_true hr3), a1, a2, f1, hk3, f3, hk4, g1, g2, b2, hb0, decide_eq_false (of_eq_false hb0)];try rfl)|apply Aa|apply As|apply Au|apply Av|apply Aj|apply At|apply Aw|apply Ab|apply Ac|apply Ad|apply Ae|apply Af|apply Ag|apply Ah|apply Ai|apply Ak|apply Al|((first|apply An|apply Ao);(case hs=>with_unfolding_all rfl))|apply Am|apply Ap|apply Aq|apply Ar|apply Ax|apply Ay|apply Az|apply Ba|apply Bb|apply Bc|apply Bd|apply Be|apply Ca|apply Cb|apply Cc|apply Cd|apply Ce|apply Cf|apply Cg|apply Ch|apply Ci|apply Bf|apply Cj|apply Ck|apply Cl|apply Cm|apply Cn|apply Co|apply Cp|(apply byR;with_unfolding_all rfl)|((first|apply byKt|apply byKs);kernel_rfl)|(apply byL;simp only [econs,List.map_cons,List.map_nil,List.cons_append,List.nil_append,OpS.nm,OpS.reads,OpS.turns,Nat.reduceAdd];try with_unfolding_all rfl)|(apply byG;intro hg;try simp only [hg])|(apply byQ;intro hq;try simp only [hqs] at hq;try (exfalso;omega))|(apply byI;intro K hK)|(apply byH;repeat (first|exact dst_z rfl|apply dst_s))|(apply byN;unfold NapOK;kernel_rfl)|(apply byD;first|(simp;done)|(simp [go_sem];done))|(refine hK _ _ ?_;clear hK;clear K)|omega|contradiction))
          · rw [if_pos ⟨hr, .inr hq⟩] at hnx
            refine ⟨⟨i + 1, hi⟩, id, ?_, by show l.length - (i + 1) < l.length - i; omega⟩
            simp only [hnx]
            simp only [go_sem, ↓reduceIte, hF]
          · rw [if_neg (by omega), ← b2] at hnx
            refine ⟨⟨i + 1, hi⟩, id, ?_, by show l.length - (i + 1) < l.length - i; omega⟩
            simp only [hnx]
            simp only [go_sem, ↓reduceIte, hF]
      · rw [if_neg (fun h => hr h.1)] at hnx
        have hr3 : ((cn i : Int) < (l[i].acts.length : Int)) = False := eq_false (by omega)
        generalize l[i] = f at *
        (with_reducible repeat' (first|exact trivial|(apply byE;simp only [go_sem, ↓reduceIte, e1, e2, hk1, e3, hk2, hr3, decide_eq_false (of_eq_false hr3)];try rfl)|apply Aa|apply As|apply Au|apply Av|apply Aj|apply At|apply Aw|apply Ab|apply Ac|apply Ad|apply Ae|apply Af|apply Ag|apply Ah|apply Ai|apply Ak|apply Al|((first|apply An|apply Ao);(case hs=>with_unfolding_all rfl))|apply Am|apply Ap|apply Aq|apply Ar|apply Ax|apply Ay|apply Az|apply Ba|apply Bb|apply Bc|apply Bd|apply Be|apply Ca|apply Cb|apply Cc|apply Cd|apply Ce|apply Cf|apply Cg|apply Ch|apply Ci|apply Bf|apply Cj|apply Ck|apply Cl|apply Cm|apply Cn|apply Co|apply Cp|(apply byR;with_unfolding_all rfl)|((first|apply byKt|apply byKs);kernel_rfl)|(apply byL;simp only [econs,List.map_cons,List.map_nil,List.cons_append,List.nil_append,OpS.nm,OpS.reads,OpS.turns,Nat.reduceAdd];try with_unfolding_all rfl)|(apply byG;intro hg;try simp only [hg])|(apply byQ;intro hq;try simp only [hqs] at hq;try (exfalso;omega))|(apply byI;intro K hK)|(apply byH;repeat (first|exact dst_z rfl|apply dst_s))|(apply byN;unfold NapOK;kernel_rfl)|(apply byD;first|(simp;done)|(simp [go_sem];done))|(refine hK _ _ ?_;clear hK;clear K)|omega|contradiction))
        refine ⟨⟨i + 1, hi⟩, id, ?_, by show l.length - (i + 1) < l.length - i; omega⟩
        simp only [hnx]
        simp only [go_sem, ↓reduceIte, hF]
    · obtain rfl : i = l.length := by omega
      (with_reducible repeat' (first|exact trivial|(apply byE;simp only [go_sem, ↓reduceIte];try rfl)|apply Aa|apply As|apply Au|apply Av|apply Aj|apply At|apply Aw|apply Ab|apply Ac|apply Ad|apply Ae|apply Af|apply Ag|apply Ah|apply Ai|apply Ak|apply Al|((first|apply An|apply Ao);(case hs=>with_unfolding_all rfl))|apply Am|apply Ap|apply Aq|apply Ar|apply Ax|apply Ay|apply Az|apply Ba|apply Bb|apply Bc|apply Bd|apply Be|apply Ca|apply Cb|apply Cc|apply Cd|apply Ce|apply Cf|apply Cg|apply Ch|apply Ci|apply Bf|apply Cj|apply Ck|apply Cl|apply Cm|apply Cn|apply Co|apply Cp|(apply byR;with_unfolding_all rfl)|((first|apply byKt|apply byKs);kernel_rfl)|(apply byL;simp only [econs,List.map_cons,List.map_nil,List.cons_append,List.nil_append,OpS.nm,OpS.reads,OpS.turns,Nat.reduceAdd];try with_unfolding_all rfl)|(apply byG;intro hg;try simp only [hg])|(apply byQ;intro hq;try simp only [hqs] at hq;try (exfalso;omega))|(apply byI;intro K hK)|(apply byH;repeat (first|exact dst_z rfl|apply dst_s))|(apply byN;unfold NapOK;kernel_rfl)|(apply byD;first|(simp;done)|(simp [go_sem];done))|(refine hK _ _ ?_;clear hK;clear K)|omega|contradiction))
def totW (l : List Int) : Int := l.foldl (fun s x => IntKind.i64.wrap (s + x)) 0
theorem totW_take {l : List Int} {i : Nat} {x : Int} (h : l[i]? = some x) : totW (l.take (i + 1)) = IntKind.i64.wrap (totW (l.take i) + x) := by
  rw [List.take_add_one, h]
  simp [totW]
theorem total_f (l : List Int) : Fun Try.prog 47 [ints l] (int (totW l)) := by
  refine fun_W mixed Try.func47 rfl (Nat.le_of_ble_eq_true rfl) (by kernel_rfl) fun cx hN hR hF hL => ?_; apply args_k; (case hA => (simp only [go_sem, ↓reduceIte]; rfl))
  have hl : l.length ≤ 9223372036854775807 := by
    simp [maxLen] at hL
    omega
  (with_reducible repeat' (first|exact trivial|(apply byE;simp only [go_sem, ↓reduceIte];try rfl)|apply Aa|apply As|apply Au|apply Av|apply Aj|apply At|apply Aw|apply Ab|apply Ac|apply Ad|apply Ae|apply Af|apply Ag|apply Ah|apply Ai|apply Ak|apply Al|((first|apply An|apply Ao);(case hs=>with_unfolding_all rfl))|apply Am|apply Ap|apply Aq|apply Ar|apply Ax|apply Ay|apply Az|apply Ba|apply Bb|apply Bc|apply Bd|apply Be|apply Ca|apply Cb|apply Cc|apply Cd|apply Ce|apply Cf|apply Cg|apply Ch|apply Ci|apply Bf|apply Cj|apply Ck|apply Cl|apply Cm|apply Cn|apply Co|apply Cp|(apply byR;with_unfolding_all rfl)|((first|apply byKt|apply byKs);kernel_rfl)|(apply byL;simp only [econs,List.map_cons,List.map_nil,List.cons_append,List.nil_append,OpS.nm,OpS.reads,OpS.turns,Nat.reduceAdd];try with_unfolding_all rfl)|(apply byG;intro hg;try simp only [hg])|(apply byQ;intro hq;try simp only [hqs] at hq;try (exfalso;omega))|(apply byI;intro K hK)|(apply byH;repeat (first|exact dst_z rfl|apply dst_s))|(apply byN;unfold NapOK;kernel_rfl)|(apply byD;first|(simp;done)|(simp [go_sem];done))|(refine hK _ _ ?_;clear hK;clear K)|omega|contradiction))
  refine loopW mixed (σ := {i : Nat // i ≤ l.length}) (fun s => ⟨[(4, int s.1), (3, int (totW (l.take s.1))), (0, ints l)], [], 4000⟩) (fun s => l.length - s.1) id ⟨0, by omega⟩ (by rw [hN]; kernel_rfl) ?_ ?_
  · simp only [go_sem, ↓reduceIte, hF]
    exact ⟨rfl, rfl⟩
  · rintro ⟨i, h1⟩
    by_cases hi : i < l.length
    · have e0 : l[i]? = some l[i] := List.getElem?_eq_getElem hi
      have e1 : (l.map irow)[i]? = some (irow l[i]) := by rw [List.getElem?_map, e0]; rfl
      have e2 : IntKind.i64.wrap ((i : Int) + 1) = ((i + 1 : Nat) : Int) := by rw [wrap_id] <;> omega
      have hk1 : i < (l.map irow).length := by simpa using hi
      have hs := totW_take e0
      generalize l[i] = x at *
      (with_reducible repeat' (first|exact trivial|(apply byE;simp only [go_sem, ↓reduceIte, e1, e2, hk1];try rfl)|apply Aa|apply As|apply Au|apply Av|apply Aj|apply At|apply Aw|apply Ab|apply Ac|apply Ad|apply Ae|apply Af|apply Ag|apply Ah|apply Ai|apply Ak|apply Al|((first|apply An|apply Ao);(case hs=>with_unfolding_all rfl))|apply Am|apply Ap|apply Aq|apply Ar|apply Ax|apply Ay|apply Az|apply Ba|apply Bb|apply Bc|apply Bd|apply Be|apply Ca|apply Cb|apply Cc|apply Cd|apply Ce|apply Cf|apply Cg|apply Ch|apply Ci|apply Bf|apply Cj|apply Ck|apply Cl|apply Cm|apply Cn|apply Co|apply Cp|(apply byR;with_unfolding_all rfl)|((first|apply byKt|apply byKs);kernel_rfl)|(apply byL;simp only [econs,List.map_cons,List.map_nil,List.cons_append,List.nil_append,OpS.nm,OpS.reads,OpS.turns,Nat.reduceAdd];try with_unfolding_all rfl)|(apply byG;intro hg;try simp only [hg])|(apply byQ;intro hq;try simp only [hqs] at hq;try (exfalso;omega))|(apply byI;intro K hK)|(apply byH;repeat (first|exact dst_z rfl|apply dst_s))|(apply byN;unfold NapOK;kernel_rfl)|(apply byD;first|(simp;done)|(simp [go_sem];done))|(refine hK _ _ ?_;clear hK;clear K)|omega|contradiction))
      refine ⟨⟨i + 1, hi⟩, id, ?_, by show l.length - (i + 1) < l.length - i; omega⟩
      simp only [hs]
      simp only [go_sem, ↓reduceIte, hF]
    · obtain rfl : i = l.length := by omega
      simp only [List.take_length]
      (with_reducible repeat' (first|exact trivial|(apply byE;simp only [go_sem, ↓reduceIte];try rfl)|apply Aa|apply As|apply Au|apply Av|apply Aj|apply At|apply Aw|apply Ab|apply Ac|apply Ad|apply Ae|apply Af|apply Ag|apply Ah|apply Ai|apply Ak|apply Al|((first|apply An|apply Ao);(case hs=>with_unfolding_all rfl))|apply Am|apply Ap|apply Aq|apply Ar|apply Ax|apply Ay|apply Az|apply Ba|apply Bb|apply Bc|apply Bd|apply Be|apply Ca|apply Cb|apply Cc|apply Cd|apply Ce|apply Cf|apply Cg|apply Ch|apply Ci|apply Bf|apply Cj|apply Ck|apply Cl|apply Cm|apply Cn|apply Co|apply Cp|(apply byR;with_unfolding_all rfl)|((first|apply byKt|apply byKs);kernel_rfl)|(apply byL;simp only [econs,List.map_cons,List.map_nil,List.cons_append,List.nil_append,OpS.nm,OpS.reads,OpS.turns,Nat.reduceAdd];try with_unfolding_all rfl)|(apply byG;intro hg;try simp only [hg])|(apply byQ;intro hq;try simp only [hqs] at hq;try (exfalso;omega))|(apply byI;intro K hK)|(apply byH;repeat (first|exact dst_z rfl|apply dst_s))|(apply byN;unfold NapOK;kernel_rfl)|(apply byD;first|(simp;done)|(simp [go_sem];done))|(refine hK _ _ ?_;clear hK;clear K)|omega|contradiction))
/-- How many of a file's acts were taken. -/
def cntE (E : List Stp) (k : Nat) : Nat := (E.filter fun s => decide (s.file = (k : Int))).length
theorem srt_of {c : Cover} {l : List File} (h : adjRight c l = true) : ∀ f, f ∈ l → f.acts.Pairwise fun a b => a.booked ≤ b.booked := by
  intro f hf
  rw [adjRight, Bool.and_eq_true, List.all_eq_true] at h
  have := h.2 f hf
  rw [okFile, Bool.and_eq_true] at this
  exact (made_good this.2).srt
/-- What is left of a file's acts. -/
theorem left_k {l : List File} (hs : ∀ f, f ∈ l → f.acts.Pairwise fun a b => a.booked ≤ b.booked) (m : Nat) {k : Nat} {f : File} (hk : l[k]? = some f) :
    ((ordL l).drop m).filter (fun s => decide (s.file = (k : Int))) = (f.acts.drop (cntE ((ordL l).take m) k)).map (Stp.mk (k : Int)) := by
  have h := ordL_fileK hs k
  rw [fileK, hk] at h
  simp only at h
  have h2 : (ordL l).filter (fun s => decide (s.file = (k : Int))) = ((ordL l).take m).filter (fun s => decide (s.file = (k : Int))) ++ ((ordL l).drop m).filter (fun s => decide (s.file = (k : Int))) := by
    rw [← List.filter_append, List.take_append_drop]
  rw [h] at h2
  rw [List.map_drop, h2, cntE, List.drop_left]
theorem lenAt_some {l : List File} {k : Nat} {f : File} (h : l[k]? = some f) : lenAt l k = f.acts.length := by rw [lenAt, h]
/-- The head of what is left of a file's acts. -/
theorem head_k {l : List File} (hs : ∀ f, f ∈ l → f.acts.Pairwise fun a b => a.booked ≤ b.booked) (m : Nat) {k : Nat} {f : File} (hk : l[k]? = some f) {y : Stp} {Y : List Stp}
    (hy : ((ordL l).drop m).filter (fun s => decide (s.file = (k : Int))) = y :: Y) : f.acts[cntE ((ordL l).take m) k]? = some y.act ∧ cntE ((ordL l).take m) k < lenAt l k ∧ bkAt l (cntE ((ordL l).take m)) k = y.act.booked ∧ y.file = (k : Int) := by
  rw [left_k hs m hk] at hy
  have h0 : f.acts[cntE ((ordL l).take m) k]? = some y.act := by
    rcases hd : f.acts.drop (cntE ((ordL l).take m) k) with _ | ⟨a, r⟩
    · rw [hd] at hy; simp at hy
    · rw [hd, List.map_cons, List.cons.injEq] at hy
      have h1 : (f.acts.drop (cntE ((ordL l).take m) k))[0]? = some a := by rw [hd]; rfl
      rw [List.getElem?_drop, Nat.add_zero] at h1
      rw [h1, ← hy.1]
  refine ⟨h0, ?_, ?_, ?_⟩
  · rw [lenAt_some hk]
    exact (List.getElem?_eq_some_iff.1 h0).1
  · rw [bkAt, hk]
    simp only [h0]
  · rcases hd : f.acts.drop (cntE ((ordL l).take m) k) with _ | ⟨a, r⟩
    · rw [hd] at hy; simp at hy
    · rw [hd, List.map_cons, List.cons.injEq] at hy
      rw [← hy.1]
theorem rem_k {l : List File} (hs : ∀ f, f ∈ l → f.acts.Pairwise fun a b => a.booked ≤ b.booked) (m : Nat) {k : Nat} (hr : cntE ((ordL l).take m) k < lenAt l k) :
    ∃ (f : File) (y : Stp) (Y : List Stp), l[k]? = some f ∧ ((ordL l).drop m).filter (fun s => decide (s.file = (k : Int))) = y :: Y := by
  rcases hk : l[k]? with _ | f
  · rw [lenAt, hk] at hr
    exact absurd hr (Nat.not_lt_zero _)
  · rw [lenAt_some hk] at hr
    refine ⟨f, ?_⟩
    rw [left_k hs m hk]
    rcases hd : f.acts.drop (cntE ((ordL l).take m) k) with _ | ⟨a, r⟩
    · rw [List.drop_eq_nil_iff] at hd
      omega
    · exact ⟨_, _, rfl, List.map_cons ..⟩
/-- The next act is the next one of the order. -/
theorem next_at {l : List File} (hs : ∀ f, f ∈ l → f.acts.Pairwise fun a b => a.booked ≤ b.booked) {m : Nat} {x : Stp} (hx : (ordL l)[m]? = some x) :
    ∃ (k : Nat) (f : File), x.file = (k : Int) ∧ l[k]? = some f ∧ nextI l (cntE ((ordL l).take m)) l.length = (k : Int) ∧ f.acts[cntE ((ordL l).take m) k]? = some x.act := by
  have hm := (List.getElem?_eq_some_iff.1 hx).1
  have hD : (ordL l).drop m = x :: (ordL l).drop (m + 1) := by rw [List.drop_eq_getElem_cons hm, (List.getElem?_eq_some_iff.1 hx).2]
  obtain ⟨k, f, h1, h2, h3⟩ := stepsL_mem (ordL_mem.1 (List.mem_of_getElem? hx))
  rw [Nat.zero_add] at h2
  have hF : ((ordL l).drop m).filter (fun s => decide (s.file = (k : Int))) = x :: ((ordL l).drop (m + 1)).filter (fun s => decide (s.file = (k : Int))) := by
    rw [hD, List.filter_cons_of_pos (by simp [h2])]
  obtain ⟨p1, p2, p3, p4⟩ := head_k hs m h1 hF
  have hkl := (List.getElem?_eq_some_iff.1 h1).1
  refine ⟨k, f, h2, h1, ?_, p1⟩
  have hsrt : Srt ltT ((ordL l).drop m) := (ordL_srt l).sublist (List.drop_sublist m _)
  have hmin : ∀ j, cntE ((ordL l).take m) j < lenAt l j → ¬ (bkAt l (cntE ((ordL l).take m)) j < x.act.booked) ∧ ¬ (bkAt l (cntE ((ordL l).take m)) j = x.act.booked ∧ j < k) := by
    intro j hj
    obtain ⟨g, y, Y, g1, g2⟩ := rem_k hs m hj
    obtain ⟨q1, q2, q3, q4⟩ := head_k hs m g1 g2
    have hyD : y ∈ (ordL l).drop m := by
      have : y ∈ ((ordL l).drop m).filter (fun s => decide (s.file = (j : Int))) := by rw [g2]; simp
      exact (List.mem_filter.1 this).1
    rw [hD, List.mem_cons] at hyD
    rw [hD] at hsrt
    have hlt : ltT y x = false := by
      rcases hyD with rfl | hyD
      · simp [ltT]
      · exact (List.pairwise_cons.1 hsrt).1 y hyD
    rw [q3]
    simp only [ltT, q4, h2, Bool.or_eq_false_iff, Bool.and_eq_false_iff, decide_eq_false_iff_not] at hlt
    obtain ⟨t1, t2⟩ := hlt
    refine ⟨t1, fun t => ?_⟩
    rcases t2 with t2 | t2
    · exact t2 t.1
    · omega
  rcases nextI_is l (cntE ((ordL l).take m)) l.length with ⟨_, n2⟩ | ⟨b, b1, b2, b3, b4⟩
  · exact absurd p2 (n2 k hkl)
  · have c1 := b4 k hkl p2
    have c2 := hmin b b3
    rw [p3] at c1
    rw [b2]
    omega
theorem next_end (l : List File) (hs : ∀ f, f ∈ l → f.acts.Pairwise fun a b => a.booked ≤ b.booked) : nextI l (cntE (ordL l)) l.length = -1 := by
  rcases nextI_is l (cntE (ordL l)) l.length with ⟨n1, _⟩ | ⟨b, b1, b2, b3, b4⟩
  · exact n1
  · have h := rem_k hs (ordL l).length (k := b) (by rw [List.take_length]; exact b3)
    obtain ⟨f, y, Y, _, h⟩ := h
    rw [List.drop_length] at h
    simp at h
theorem cnt_snoc (E : List Stp) (x : Stp) {k : Nat} (hx : x.file = (k : Int)) (n : Nat) : cnL (cntE (E ++ [x])) n = (cnL (cntE E) n).set k ((cntE E k : Int) + 1) := by
  apply List.ext_getElem?
  intro j
  rw [List.getElem?_set]
  by_cases hj : j < n
  · rw [cnL_get hj]
    have hc : cntE (E ++ [x]) j = cntE E j + if k = j then 1 else 0 := by
      unfold cntE
      rw [List.filter_append, List.length_append]
      by_cases h : k = j
      · subst h; simp [hx]
      · rw [if_neg h, List.filter_cons_of_neg (by rw [hx]; simp; omega)]
        simp
    by_cases h : k = j
    · subst h
      rw [if_pos rfl, cnL_len, if_pos hj, hc, if_pos rfl]
      rfl
    · rw [if_neg h, cnL_get hj, hc, if_neg h]
      rfl
  · have h1 : (cnL (cntE (E ++ [x])) n)[j]? = none := List.getElem?_eq_none (by rw [cnL_len]; omega)
    have h2 : (cnL (cntE E) n)[j]? = none := List.getElem?_eq_none (by rw [cnL_len]; omega)
    rw [h1, h2, cnL_len]
    split
    · rw [if_neg (by omega)]
    · rfl
theorem cnt_nil (n : Nat) : cnL (cntE []) n = List.replicate n 0 := by
  apply List.ext_getElem?
  intro j
  by_cases hj : j < n
  · rw [cnL_get hj]; simp [cntE, hj]
  · rw [List.getElem?_eq_none (by rw [cnL_len]; omega), List.getElem?_eq_none (by simp; omega)]

/-! ### The sum of what is paid -/
theorem sum_set : ∀ (l : List Int) (k : Nat) (w : Int), k < l.length → (l.set k w).sum = l.sum + (w - l.getD k 0)
  | [], k, w, h => absurd h (Nat.not_lt_zero k)
  | x :: l, 0, w, _ => by simp; omega
  | x :: l, k + 1, w, h => by
    have := sum_set l k w (by simpa using h)
    simp at this ⊢
    omega
theorem pay_sum {c : Cover} {n m : Nat} {s : PS} (h : PB c n m s) (hs : s.paid.sum = s.all) (x : Stp) {k : Nat} (hx : x.file = (k : Int)) (hk : k < n) : (payOne c s x).paid.sum = (payOne c s x).all := by
  unfold payOne
  split
  · simp only
    split
    · exact hs
    · simp only
      rw [hx, Int.toNat_natCast, sum_set _ _ _ (by rw [h.l2]; exact hk), hs]
  · exact hs
theorem payL_sum {c : Cover} {l : List File} (h : adjRight c l = true) : ∀ i, i ≤ (ordL l).length → (payL c l.length ((ordL l).take i)).paid.sum = (payL c l.length ((ordL l).take i)).all := by
  have hr : c.rightB = true := by rw [adjRight, Bool.and_eq_true] at h; exact h.1
  have hPB := payL_PB hr l.length (L := ordL l) fun x hx => by obtain ⟨_, _, _, _, h⟩ := step_right h hx; exact h
  intro i
  induction i with
  | zero =>
    intro _
    show (List.replicate l.length (0 : Int)).sum = 0
    simp
  | succ i ih =>
    intro hi
    have e0 : (ordL l)[i]? = some (ordL l)[i] := List.getElem?_eq_getElem hi
    rw [payL_take e0]
    obtain ⟨k, h1, h2, _⟩ := step_right h (List.getElem_mem hi)
    exact pay_sum (hPB i (by omega)) (ih (by omega)) _ h2 h1
theorem totW_sum : ∀ (l : List Int) (s : Int), 0 ≤ s → (∀ x, x ∈ l → 0 ≤ x) → s + l.sum ≤ 9000000000000000000 → l.foldl (fun s x => IntKind.i64.wrap (s + x)) s = s + l.sum ∧ 0 ≤ l.sum
  | [], s, _, _, _ => by simp
  | x :: l, s, h0, h1, h2 => by
    have hx := h1 x (by simp)
    have h3 : ∀ (l : List Int), (∀ x, x ∈ l → 0 ≤ x) → 0 ≤ l.sum := by
      intro l
      induction l with
      | nil => intro _; simp
      | cons y l ih =>
        intro h
        have a1 := h y (by simp)
        have a2 := ih fun z hz => h z (by simp [hz])
        simp; omega
    have h4 := h3 l fun z hz => h1 z (by simp [hz])
    rw [List.sum_cons] at h2 ⊢
    have w : IntKind.i64.wrap (s + x) = s + x := by rw [wrap_id] <;> omega
    rw [List.foldl_cons, w]
    have := totW_sum l (s + x) (by omega) (fun z hz => h1 z (by simp [hz])) (by omega)
    exact ⟨by rw [this.1]; omega, by omega⟩
theorem tot_all {c : Cover} (hr : c.rightB = true) {n m : Nat} {s : PS} (h : PB c n m s) (hs : s.paid.sum = s.all) : totW s.paid = s.all := by
  have hc := cvRight_iff.1 hr
  have ha := h.al
  have := (totW_sum s.paid 0 (Int.le_refl _) (fun x hx => (h.pd x hx).1) (by omega)).1
  rw [totW, this]
  omega
end Go.Proofs.Ytjplhfmakghabaa.V
namespace Go.Proofs.Ytjplhfmakghabaa.V
open Go.RowKit
set_option maxRecDepth 100000
attribute [local go_sem] Option.toList_some Option.toList_none

def sumW (k : Int) (l : List Act) : Int := l.foldl (fun s a => if a.kind = k then IntKind.i64.wrap (s + a.amt) else s) 0
theorem sumW_snoc (k : Int) (l : List Act) (a : Act) : sumW k (l ++ [a]) = if a.kind = k then IntKind.i64.wrap (sumW k l + a.amt) else sumW k l := by simp [sumW]
theorem sumW_take {k : Int} {l : List Act} {i : Nat} {a : Act} (h : l[i]? = some a) : sumW k (l.take (i + 1)) = if a.kind = k then IntKind.i64.wrap (sumW k (l.take i) + a.amt) else sumW k (l.take i) := by
  rw [List.take_add_one, h]
  exact sumW_snoc k _ a
theorem stand_take {l : List Act} {i : Nat} {a : Act} (h : l[i]? = some a) : standS (l.take (i + 1)) = stOne (standS (l.take i)) a := by
  rw [List.take_add_one, h]
  exact standS_snoc _ a
theorem stand_sums (l : List Act) : ∀ i, i ≤ l.length → (standS (l.take i)).shown = sumW 2 (l.take i) ∧ (standS (l.take i)).back = sumW 3 (l.take i) := by
  intro i
  induction i with
  | zero => intro _; exact ⟨rfl, rfl⟩
  | succ i ih =>
    intro hi
    have e0 : l[i]? = some l[i] := List.getElem?_eq_getElem hi
    obtain ⟨h1, h2⟩ := ih (by omega)
    rw [stand_take e0, sumW_take e0, sumW_take e0, ← h1, ← h2]
    generalize l[i] = a
    unfold stOne
    constructor <;> (repeat' split) <;> first | rfl | omega
theorem rSum_f (f : File) (k : Int) (hl : f.acts.length ≤ 100000) : Fun Try.prog 83 [.agg f.flat, int k] (int (sumW k f.acts)) := by
  obtain ⟨c, l⟩ := f
  simp only at hl ⊢
  refine fun_W mixed Try.func83 rfl (Nat.le_of_ble_eq_true rfl) (by kernel_rfl) fun cx hN hR hF hL => ?_; apply args_k; (case hA => (simp only [go_sem, ↓reduceIte]; rfl))
  (with_reducible repeat' (first|exact trivial|(apply byE;simp only [go_sem, ↓reduceIte];try rfl)|apply Aa|apply As|apply Au|apply Av|apply Aj|apply At|apply Aw|apply Ab|apply Ac|apply Ad|apply Ae|apply Af|apply Ag|apply Ah|apply Ai|apply Ak|apply Al|((first|apply An|apply Ao);(case hs=>with_unfolding_all rfl))|apply Am|apply Ap|apply Aq|apply Ar|apply Ax|apply Ay|apply Az|apply Ba|apply Bb|apply Bc|apply Bd|apply Be|apply Ca|apply Cb|apply Cc|apply Cd|apply Ce|apply Cf|apply Cg|apply Ch|apply Ci|apply Bf|apply Cj|apply Ck|apply Cl|apply Cm|apply Cn|apply Co|apply Cp|(apply byR;with_unfolding_all rfl)|((first|apply byKt|apply byKs);kernel_rfl)|(apply byL;simp only [econs,List.map_cons,List.map_nil,List.cons_append,List.nil_append,OpS.nm,OpS.reads,OpS.turns,Nat.reduceAdd];try with_unfolding_all rfl)|(apply byG;intro hg;try simp only [hg])|(apply byQ;intro hq;try simp only [hqs] at hq;try (exfalso;omega))|(apply byI;intro K hK)|(apply byH;repeat (first|exact dst_z rfl|apply dst_s))|(apply byN;unfold NapOK;kernel_rfl)|(apply byD;first|(simp;done)|(simp [go_sem];done))|(refine hK _ _ ?_;clear hK;clear K)|omega|contradiction))
  refine loopW mixed (σ := {i : Nat // i ≤ l.length}) (fun s => ⟨[(6, int s.1), (5, int (sumW k (l.take s.1))), (1, int k), (2, .ptr 0 0)], [(0, some ⟨44, (⟨c, l⟩ : File).flat⟩)], 3000⟩) (fun s => l.length - s.1) id ⟨0, by omega⟩ (by rw [hN]; kernel_rfl) ?_ ?_
  · simp only [go_sem, ↓reduceIte, hF]
    exact ⟨rfl, rfl⟩
  · rintro ⟨i, h1⟩
    by_cases hi : i < l.length
    · have e0 : l[i]? = some l[i] := List.getElem?_eq_getElem hi
      have e1 : (l.map Act.flat)[i]? = some l[i].flat := by rw [List.getElem?_map, e0]; rfl
      have e2 : IntKind.i64.wrap ((i : Int) + 1) = ((i + 1 : Nat) : Int) := by rw [wrap_id] <;> omega
      have hk1 : i < (l.map Act.flat).length := by simpa using hi
      have hs := sumW_take (k := k) e0
      generalize l[i] = a at *
      by_cases hk : a.kind = k
      · rw [if_pos hk] at hs
        (with_reducible repeat' (first|exact trivial|(apply byE;simp only [go_sem, ↓reduceIte, e1, e2, hk1, eq_true hk, decide_eq_true hk];try rfl)|apply Aa|apply As|apply Au|apply Av|apply Aj|apply At|apply Aw|apply Ab|apply Ac|apply Ad|apply Ae|apply Af|apply Ag|apply Ah|apply Ai|apply Ak|apply Al|((first|apply An|apply Ao);(case hs=>with_unfolding_all rfl))|apply Am|apply Ap|apply Aq|apply Ar|apply Ax|apply Ay|apply Az|apply Ba|apply Bb|apply Bc|apply Bd|apply Be|apply Ca|apply Cb|apply Cc|apply Cd|apply Ce|apply Cf|apply Cg|apply Ch|apply Ci|apply Bf|apply Cj|apply Ck|apply Cl|apply Cm|apply Cn|apply Co|apply Cp|(apply byR;with_unfolding_all rfl)|((first|apply byKt|apply byKs);kernel_rfl)|(apply byL;simp only [econs,List.map_cons,List.map_nil,List.cons_append,List.nil_append,OpS.nm,OpS.reads,OpS.turns,Nat.reduceAdd];try with_unfolding_all rfl)|(apply byG;intro hg;try simp only [hg])|(apply byQ;intro hq;try simp only [hqs] at hq;try (exfalso;omega))|(apply byI;intro K hK)|(apply byH;repeat (first|exact dst_z rfl|apply dst_s))|(apply byN;unfold NapOK;kernel_rfl)|(apply byD;first|(simp;done)|(simp [go_sem];done))|(refine hK _ _ ?_;clear hK;clear K)|omega|contradiction))
        refine ⟨⟨i + 1, hi⟩, id, ?_, by show l.length - (i + 1) < l.length - i; omega⟩
        simp only [hs]
        simp only [go_sem, ↓reduceIte, hF]
      · rw [if_neg hk] at hs
        (with_reducible repeat' (first|exact trivial|(apply byE;simp only [go_sem, ↓reduceIte, e1, e2, hk1, eq_false hk, decide_eq_false hk];try rfl)|apply Aa|apply As|apply Au|apply Av|apply Aj|apply At|apply Aw|apply Ab|apply Ac|apply Ad|apply Ae|apply Af|apply Ag|apply Ah|apply Ai|apply Ak|apply Al|((first|apply An|apply Ao);(case hs=>with_unfolding_all rfl))|apply Am|apply Ap|apply Aq|apply Ar|apply Ax|apply Ay|apply Az|apply Ba|apply Bb|apply Bc|apply Bd|apply Be|apply Ca|apply Cb|apply Cc|apply Cd|apply Ce|apply Cf|apply Cg|apply Ch|apply Ci|apply Bf|apply Cj|apply Ck|apply Cl|apply Cm|apply Cn|apply Co|apply Cp|(apply byR;with_unfolding_all rfl)|((first|apply byKt|apply byKs);kernel_rfl)|(apply byL;simp only [econs,List.map_cons,List.map_nil,List.cons_append,List.nil_append,OpS.nm,OpS.reads,OpS.turns,Nat.reduceAdd];try with_unfolding_all rfl)|(apply byG;intro hg;try simp only [hg])|(apply byQ;intro hq;try simp only [hqs] at hq;try (exfalso;omega))|(apply byI;intro K hK)|(apply byH;repeat (first|exact dst_z rfl|apply dst_s))|(apply byN;unfold NapOK;kernel_rfl)|(apply byD;first|(simp;done)|(simp [go_sem];done))|(refine hK _ _ ?_;clear hK;clear K)|omega|contradiction))
        refine ⟨⟨i + 1, hi⟩, id, ?_, by show l.length - (i + 1) < l.length - i; omega⟩
        simp only [hs]
        simp only [go_sem, ↓reduceIte, hF]
    · obtain rfl : i = l.length := by omega
      simp only [List.take_length]
      (with_reducible repeat' (first|exact trivial|(apply byE;simp only [go_sem, ↓reduceIte];try rfl)|apply Aa|apply As|apply Au|apply Av|apply Aj|apply At|apply Aw|apply Ab|apply Ac|apply Ad|apply Ae|apply Af|apply Ag|apply Ah|apply Ai|apply Ak|apply Al|((first|apply An|apply Ao);(case hs=>with_unfolding_all rfl))|apply Am|apply Ap|apply Aq|apply Ar|apply Ax|apply Ay|apply Az|apply Ba|apply Bb|apply Bc|apply Bd|apply Be|apply Ca|apply Cb|apply Cc|apply Cd|apply Ce|apply Cf|apply Cg|apply Ch|apply Ci|apply Bf|apply Cj|apply Ck|apply Cl|apply Cm|apply Cn|apply Co|apply Cp|(apply byR;with_unfolding_all rfl)|((first|apply byKt|apply byKs);kernel_rfl)|(apply byL;simp only [econs,List.map_cons,List.map_nil,List.cons_append,List.nil_append,OpS.nm,OpS.reads,OpS.turns,Nat.reduceAdd];try with_unfolding_all rfl)|(apply byG;intro hg;try simp only [hg])|(apply byQ;intro hq;try simp only [hqs] at hq;try (exfalso;omega))|(apply byI;intro K hK)|(apply byH;repeat (first|exact dst_z rfl|apply dst_s))|(apply byN;unfold NapOK;kernel_rfl)|(apply byD;first|(simp;done)|(simp [go_sem];done))|(refine hK _ _ ?_;clear hK;clear K)|omega|contradiction))
set_option maxHeartbeats 4000000 in
theorem rStand_f (f : File) (hl : f.acts.length ≤ 100000) : Fun Try.prog 56 [.agg f.flat] (.agg (standP f.acts).flat) := by
  have hs2 := rSum_f f 2 hl
  have hs3 := rSum_f f 3 hl
  obtain ⟨c, l⟩ := f
  simp only at hl hs2 hs3 ⊢
  refine fun_W mixed Try.func56 rfl (Nat.le_of_ble_eq_true rfl) (by kernel_rfl) fun cx hN hR hF hL => ?_; apply args_k; (case hA => (simp only [go_sem, ↓reduceIte]; rfl))
  (with_reducible repeat' (first|exact trivial|(apply byE;simp only [go_sem, ↓reduceIte];try rfl)|apply Aa|apply As|apply Au|apply Av|apply Aj|apply At|apply Aw|apply Ab|apply Ac|apply Ad|apply Ae|apply Af|apply Ag|apply Ah|apply Ai|apply Ak|apply Al|((first|apply An|apply Ao);(case hs=>with_unfolding_all rfl))|apply Am|apply Ap|apply Aq|apply Ar|apply Ax|apply Ay|apply Az|apply Ba|apply Bb|apply Bc|apply Bd|apply Be|apply Ca|apply Cb|apply Cc|apply Cd|apply Ce|apply Cf|apply Cg|apply Ch|apply Ci|apply Bf|apply Cj|apply Ck|apply Cl|apply Cm|apply Cn|apply Co|apply Cp|(apply byR;with_unfolding_all rfl)|((first|apply byKt|apply byKs);kernel_rfl)|(apply byL;simp only [econs,List.map_cons,List.map_nil,List.cons_append,List.nil_append,OpS.nm,OpS.reads,OpS.turns,Nat.reduceAdd];try with_unfolding_all rfl)|(apply byG;intro hg;try simp only [hg])|(apply byQ;intro hq;try simp only [hqs] at hq;try (exfalso;omega))|(apply byI;intro K hK)|(apply byH;repeat (first|exact dst_z rfl|apply dst_s))|(apply byN;unfold NapOK;kernel_rfl)|(apply byD;first|(simp;done)|(simp [go_sem];done))|(refine hK _ _ ?_;clear hK;clear K)|omega|(apply callX cl83 (hs2);(case hl=>with_unfolding_all rfl))|(apply callX cl83 (hs3);(case hl=>with_unfolding_all rfl))|contradiction))
  refine loopW mixed (σ := {i : Nat // i ≤ l.length}) (fun s => ⟨[(4, int s.1), (3, .ptr 1040 0), (1, .ptr 0 0), (2, .ptr 8 0)], [(1040, some ⟨38, [int (standS (l.take s.1)).gross, int (sumW 2 l), int 0, int (sumW 3 l), int 0, bool (standS (l.take s.1)).opn]⟩), (8, some ⟨38, [int 0, int 0, int 0, int 0, int 0, bool false]⟩), (0, some ⟨44, (⟨c, l⟩ : File).flat⟩)], 3000⟩) (fun s => l.length - s.1) id ⟨0, by omega⟩ (by rw [hN]; kernel_rfl) ?_ ?_
  · simp only [go_sem, ↓reduceIte, hF]
    exact ⟨rfl, rfl⟩
  · rintro ⟨i, h1⟩
    by_cases hi : i < l.length
    · have e0 : l[i]? = some l[i] := List.getElem?_eq_getElem hi
      have e1 : (l.map Act.flat)[i]? = some l[i].flat := by rw [List.getElem?_map, e0]; rfl
      have e2 : IntKind.i64.wrap ((i : Int) + 1) = ((i + 1 : Nat) : Int) := by rw [wrap_id] <;> omega
      have hk1 : i < (l.map Act.flat).length := by simpa using hi
      have hs := stand_take e0
      generalize l[i] = a at *
      obtain ⟨bk, kd, am⟩ := a
      by_cases k1 : kd = 1
      · subst k1
        rw [stOne_1] at hs
        (with_reducible repeat' (first|exact trivial|(apply byE;simp only [go_sem, ↓reduceIte, e1, e2, hk1, Int.reduceEq];try rfl)|apply Aa|apply As|apply Au|apply Av|apply Aj|apply At|apply Aw|apply Ab|apply Ac|apply Ad|apply Ae|apply Af|apply Ag|apply Ah|apply Ai|apply Ak|apply Al|((first|apply An|apply Ao);(case hs=>with_unfolding_all rfl))|apply Am|apply Ap|apply Aq|apply Ar|apply Ax|apply Ay|apply Az|apply Ba|apply Bb|apply Bc|apply Bd|apply Be|apply Ca|apply Cb|apply Cc|apply Cd|apply Ce|apply Cf|apply Cg|apply Ch|apply Ci|apply Bf|apply Cj|apply Ck|apply Cl|apply Cm|apply Cn|apply Co|apply Cp|(apply byR;with_unfolding_all rfl)|((first|apply byKt|apply byKs);kernel_rfl)|(apply byL;simp only [econs,List.map_cons,List.map_nil,List.cons_append,List.nil_append,OpS.nm,OpS.reads,OpS.turns,Nat.reduceAdd];try with_unfolding_all rfl)|(apply byG;intro hg;try simp only [hg])|(apply byQ;intro hq;try simp only [hqs] at hq;try (exfalso;omega))|(apply byI;intro K hK)|(apply byH;repeat (first|exact dst_z rfl|apply dst_s))|(apply byN;unfold NapOK;kernel_rfl)|(apply byD;first|(simp;done)|(simp [go_sem];done))|(refine hK _ _ ?_;clear hK;clear K)|omega|contradiction))
        refine ⟨⟨i + 1, hi⟩, id, ?_, by show l.length - (i + 1) < l.length - i; omega⟩
        simp only [hs]
        simp only [go_sem, ↓reduceIte, hF]
      · by_cases k4 : kd = 4
        · subst k4
          rw [stOne_4] at hs
          (with_reducible repeat' (first|exact trivial|(apply byE;simp only [go_sem, ↓reduceIte, e1, e2, hk1, Int.reduceEq];try rfl)|apply Aa|apply As|apply Au|apply Av|apply Aj|apply At|apply Aw|apply Ab|apply Ac|apply Ad|apply Ae|apply Af|apply Ag|apply Ah|apply Ai|apply Ak|apply Al|((first|apply An|apply Ao);(case hs=>with_unfolding_all rfl))|apply Am|apply Ap|apply Aq|apply Ar|apply Ax|apply Ay|apply Az|apply Ba|apply Bb|apply Bc|apply Bd|apply Be|apply Ca|apply Cb|apply Cc|apply Cd|apply Ce|apply Cf|apply Cg|apply Ch|apply Ci|apply Bf|apply Cj|apply Ck|apply Cl|apply Cm|apply Cn|apply Co|apply Cp|(apply byR;with_unfolding_all rfl)|((first|apply byKt|apply byKs);kernel_rfl)|(apply byL;simp only [econs,List.map_cons,List.map_nil,List.cons_append,List.nil_append,OpS.nm,OpS.reads,OpS.turns,Nat.reduceAdd];try with_unfolding_all rfl)|(apply byG;intro hg;try simp only [hg])|(apply byQ;intro hq;try simp only [hqs] at hq;try (exfalso;omega))|(apply byI;intro K hK)|(apply byH;repeat (first|exact dst_z rfl|apply dst_s))|(apply byN;unfold NapOK;kernel_rfl)|(apply byD;first|(simp;done)|(simp [go_sem];done))|(refine hK _ _ ?_;clear hK;clear K)|omega|contradiction))
          refine ⟨⟨i + 1, hi⟩, id, ?_, by show l.length - (i + 1) < l.length - i; omega⟩
          simp only [hs]
          simp only [go_sem, ↓reduceIte, hF]
        · by_cases k5 : kd = 5
          · subst k5
            rw [stOne_5] at hs
            (with_reducible repeat' (first|exact trivial|(apply byE;simp only [go_sem, ↓reduceIte, e1, e2, hk1, Int.reduceEq];try rfl)|apply Aa|apply As|apply Au|apply Av|apply Aj|apply At|apply Aw|apply Ab|apply Ac|apply Ad|apply Ae|apply Af|apply Ag|apply Ah|apply Ai|apply Ak|apply Al|((first|apply An|apply Ao);(case hs=>with_unfolding_all rfl))|apply Am|apply Ap|apply Aq|apply Ar|apply Ax|apply Ay|apply Az|apply Ba|apply Bb|apply Bc|apply Bd|apply Be|apply Ca|apply Cb|apply Cc|apply Cd|apply Ce|apply Cf|apply Cg|apply Ch|apply Ci|apply Bf|apply Cj|apply Ck|apply Cl|apply Cm|apply Cn|apply Co|apply Cp|(apply byR;with_unfolding_all rfl)|((first|apply byKt|apply byKs);kernel_rfl)|(apply byL;simp only [econs,List.map_cons,List.map_nil,List.cons_append,List.nil_append,OpS.nm,OpS.reads,OpS.turns,Nat.reduceAdd];try with_unfolding_all rfl)|(apply byG;intro hg;try simp only [hg])|(apply byQ;intro hq;try simp only [hqs] at hq;try (exfalso;omega))|(apply byI;intro K hK)|(apply byH;repeat (first|exact dst_z rfl|apply dst_s))|(apply byN;unfold NapOK;kernel_rfl)|(apply byD;first|(simp;done)|(simp [go_sem];done))|(refine hK _ _ ?_;clear hK;clear K)|omega|contradiction))
            refine ⟨⟨i + 1, hi⟩, id, ?_, by show l.length - (i + 1) < l.length - i; omega⟩
            simp only [hs]
            simp only [go_sem, ↓reduceIte, hF]
          · have hg : (standS (l.take (i + 1))).gross = (standS (l.take i)).gross := by
              rw [hs]; unfold stOne; simp only; rw [if_neg k1]; (repeat' split) <;> rfl
            have ho : (standS (l.take (i + 1))).opn = (standS (l.take i)).opn := by
              rw [hs]; unfold stOne; simp only; rw [if_neg k1, if_neg k4, if_neg k5]; (repeat' split) <;> rfl
            (with_reducible repeat' (first|exact trivial|(apply byE;simp only [go_sem, ↓reduceIte, e1, e2, hk1, eq_false k1, decide_eq_false k1, eq_false k4, decide_eq_false k4, eq_false k5, decide_eq_false k5];try rfl)|apply Aa|apply As|apply Au|apply Av|apply Aj|apply At|apply Aw|apply Ab|apply Ac|apply Ad|apply Ae|apply Af|apply Ag|apply Ah|apply Ai|apply Ak|apply Al|((first|apply An|apply Ao);(case hs=>with_unfolding_all rfl))|apply Am|apply Ap|apply Aq|apply Ar|apply Ax|apply Ay|apply Az|apply Ba|apply Bb|apply Bc|apply Bd|apply Be|apply Ca|apply Cb|apply Cc|apply Cd|apply Ce|apply Cf|apply Cg|apply Ch|apply Ci|apply Bf|apply Cj|apply Ck|apply Cl|apply Cm|apply Cn|apply Co|apply Cp|(apply byR;with_unfolding_all rfl)|((first|apply byKt|apply byKs);kernel_rfl)|(apply byL;simp only [econs,List.map_cons,List.map_nil,List.cons_append,List.nil_append,OpS.nm,OpS.reads,OpS.turns,Nat.reduceAdd];try with_unfolding_all rfl)|(apply byG;intro hg;try simp only [hg])|(apply byQ;intro hq;try simp only [hqs] at hq;try (exfalso;omega))|(apply byI;intro K hK)|(apply byH;repeat (first|exact dst_z rfl|apply dst_s))|(apply byN;unfold NapOK;kernel_rfl)|(apply byD;first|(simp;done)|(simp [go_sem];done))|(refine hK _ _ ?_;clear hK;clear K)|omega|contradiction))
            refine ⟨⟨i + 1, hi⟩, id, ?_, by show l.length - (i + 1) < l.length - i; omega⟩
            simp only [hg, ho]
            simp only [go_sem, ↓reduceIte, hF]
    · obtain rfl : i = l.length := by omega
      have hsm := stand_sums l l.length (Nat.le_refl _)
      simp only [List.take_length] at hsm ⊢
      rw [← hsm.1, ← hsm.2]
      (with_reducible repeat' (first|exact trivial|(apply byE;simp only [go_sem, ↓reduceIte];try rfl)|apply Aa|apply As|apply Au|apply Av|apply Aj|apply At|apply Aw|apply Ab|apply Ac|apply Ad|apply Ae|apply Af|apply Ag|apply Ah|apply Ai|apply Ak|apply Al|((first|apply An|apply Ao);(case hs=>with_unfolding_all rfl))|apply Am|apply Ap|apply Aq|apply Ar|apply Ax|apply Ay|apply Az|apply Ba|apply Bb|apply Bc|apply Bd|apply Be|apply Ca|apply Cb|apply Cc|apply Cd|apply Ce|apply Cf|apply Cg|apply Ch|apply Ci|apply Bf|apply Cj|apply Ck|apply Cl|apply Cm|apply Cn|apply Co|apply Cp|(apply byR;with_unfolding_all rfl)|((first|apply byKt|apply byKs);kernel_rfl)|(apply byL;simp only [econs,List.map_cons,List.map_nil,List.cons_append,List.nil_append,OpS.nm,OpS.reads,OpS.turns,Nat.reduceAdd];try with_unfolding_all rfl)|(apply byG;intro hg;try simp only [hg])|(apply byQ;intro hq;try simp only [hqs] at hq;try (exfalso;omega))|(apply byI;intro K hK)|(apply byH;repeat (first|exact dst_z rfl|apply dst_s))|(apply byN;unfold NapOK;kernel_rfl)|(apply byD;first|(simp;done)|(simp [go_sem];done))|(refine hK _ _ ?_;clear hK;clear K)|omega|contradiction))
      · exact ⟨(Int.max_eq_right (Int.le_of_lt hq)).symm, rfl, rfl, rfl, rfl, rfl⟩
      · exact ⟨(Int.max_eq_left hq).symm, rfl, rfl, rfl, rfl, rfl⟩

/-- Over which bound an act would lead, in the reference's words. -/
theorem over_ref {s : St} {a : Act} (h1 : 0 ≤ s.shown ∧ s.shown ≤ 1000000000000000) (h2 : 0 ≤ s.back ∧ s.back ≤ 1000000000000000) (hr : a.rightB = true) :
    overA s a = ((decide (a.kind = 2) && decide (1000000000000000 < IntKind.i64.wrap (s.shown + a.amt))) || (decide (a.kind = 3) && decide (1000000000000000 < IntKind.i64.wrap (s.back + a.amt)))) := by
  have ha := Act.right_iff.1 hr
  have hk : (if a.kind = 4 ∨ a.kind = 5 then (0 : Int) else 1000000000000000) ≤ 1000000000000000 := by split <;> omega
  have w1 : IntKind.i64.wrap (s.shown + a.amt) = s.shown + a.amt := by rw [wrap_id] <;> omega
  have w2 : IntKind.i64.wrap (s.back + a.amt) = s.back + a.amt := by rw [wrap_id] <;> omega
  have w3 : IntKind.i64.wrap (1000000000000000 - s.shown) = 1000000000000000 - s.shown := by rw [wrap_id] <;> omega
  have w4 : IntKind.i64.wrap (1000000000000000 - s.back) = 1000000000000000 - s.back := by rw [wrap_id] <;> omega
  unfold overA
  rw [w1, w2, w3, w4]
  have d1 : decide (a.amt > 1000000000000000 - s.shown) = decide (1000000000000000 < s.shown + a.amt) := by rw [decide_eq_decide]; omega
  have d2 : decide (a.amt > 1000000000000000 - s.back) = decide (1000000000000000 < s.back + a.amt) := by rw [decide_eq_decide]; omega
  rw [d1, d2]
theorem opn_ref {o : Bool} {k : Prop} [Decidable k] (h : (o = false ∨ ¬k) ∧ (o = true ∨ k)) : ¬ (o = decide k) := by
  cases o <;> by_cases h2 : k <;> simp_all
theorem opn_ref2 {o : Bool} {k : Prop} [Decidable k] (h : o = true ∧ k ∨ o = false ∧ ¬k) : o = decide k := by
  cases o <;> by_cases h2 : k <;> simp_all
set_option maxHeartbeats 4000000 in
theorem rPut_f (f : File) (a : Act) (hg : Good f.claim f.acts) : Fun Try.prog 82 [.agg f.flat, .agg a.flat] (.tup [.agg (putF f a).flat, int (putE f a)]) := by
  have hgl := hg.len
  have hst := rStand_f f (by omega)
  have hlc : (f.acts.map Act.flat).flatten.length = f.acts.length * 3 := rows_count act_len _
  have hov := over_ref (a := a) hg.shown hg.back
  have hlb : lastB f = match f.acts.getLast? with | some b => b.booked | none => f.claim.booked := rfl
  rcases List.eq_nil_or_concat f.acts with h | ⟨p, x, h⟩
  · have hlb2 : lastB f = f.claim.booked := by rw [hlb, h]; rfl
    have h0 : ((f.acts.length : Int) > 0) = False := eq_false (by rw [h]; simp)
    refine fun_W mixed Try.func82 rfl (Nat.le_of_ble_eq_true rfl) (by kernel_rfl) fun cx hN hR hF hL => ?_; apply args_k; (case hA => (simp only [go_sem, ↓reduceIte]; rfl))
    (with_reducible repeat' (first|exact trivial|(apply byE;simp only [go_sem, ↓reduceIte, h0];try rfl)|apply Aa|apply As|apply Au|apply Av|apply Aj|apply At|apply Aw|apply Ab|apply Ac|apply Ad|apply Ae|apply Af|apply Ag|apply Ah|apply Ai|apply Ak|apply Al|((first|apply An|apply Ao);(case hs=>with_unfolding_all rfl))|apply Am|apply Ap|apply Aq|apply Ar|apply Ax|apply Ay|apply Az|apply Ba|apply Bb|apply Bc|apply Bd|apply Be|apply Ca|apply Cb|apply Cc|apply Cd|apply Ce|apply Cf|apply Cg|apply Ch|apply Ci|apply Bf|apply Cj|apply Ck|apply Cl|apply Cm|apply Cn|apply Co|apply Cp|(apply byR;with_unfolding_all rfl)|((first|apply byKt|apply byKs);kernel_rfl)|(apply byL;simp only [econs,List.map_cons,List.map_nil,List.cons_append,List.nil_append,OpS.nm,OpS.reads,OpS.turns,Nat.reduceAdd];try with_unfolding_all rfl)|(apply byG;intro hg;try simp only [hg])|(apply byQ;intro hq;try simp only [hqs] at hq;try (exfalso;omega))|(apply byI;intro K hK)|(apply byH;repeat (first|exact dst_z rfl|apply dst_s))|(apply byN;unfold NapOK;kernel_rfl)|(apply byD;first|(simp;done)|(simp [go_sem];done))|(refine hK _ _ ?_;clear hK;clear K)|omega|(apply callX cl97 (refAct_f a);(case hl=>with_unfolding_all rfl))|(apply callX cl56 (hst);(case hl=>with_unfolding_all rfl))|contradiction))
    · have e : putE f a = 1 := by
        unfold putE
        (repeat' split) <;> first | rfl | omega | (simp_all [standP]; done) | (simp_all [standP]; omega)
      rw [put_1 e (by omega), e]
      simp [zeroF]
    · have e : putE f a = 2 := by
        unfold putE
        (repeat' split) <;> first | rfl | omega | (simp_all [standP]; done) | (simp_all [standP]; omega)
      rw [put_1 e (by omega), e]
      simp [zeroF]
    · have e : putE f a = 4 := by
        unfold putE
        (repeat' split) <;> first | rfl | omega | (simp_all [standP]; done) | (simp_all [standP]; omega)
      rw [put_1 e (by omega), e]
      simp [zeroF]
    · have e : putE f a = 10 := by
        unfold putE
        rw [if_neg (by simp_all), if_neg (by omega), if_neg (by omega), if_pos (opn_ref2 (by assumption))]
      rw [put_1 e (by omega), e]
      simp [zeroF]
    · have e : putE f a = 5 := by
        have h5 : overA (standS f.acts) a = true := by rw [hov (by assumption)]; simpa [standP] using hq
        unfold putE
        rw [if_neg (by simp_all), if_neg (by omega), if_neg (by omega), if_neg (opn_ref (by assumption)), if_pos h5]
      rw [put_1 e (by omega), e]
      simp [zeroF]
    · have e : putE f a = 0 := by
        have h5 : ¬ overA (standS f.acts) a = true := by
          rw [hov (by assumption)]
          obtain ⟨h1, h2⟩ := hq
          simp only [Bool.or_eq_true, Bool.and_eq_true, decide_eq_true_eq, not_or, not_and]
          exact ⟨fun h => by rcases h1 with h1 | h1; · exact absurd h h1
                             · exact Int.not_lt.2 h1, fun h => by rcases h2 with h2 | h2; · exact absurd h h2
                                                                  · exact Int.not_lt.2 h2⟩
        unfold putE
        rw [if_neg (by simp_all), if_neg (by omega), if_neg (by omega), if_neg (opn_ref (by assumption)), if_neg h5]
      rw [put_0 e, e]
      exact ⟨⟨rfl, rfl, rfl, rfl, rfl, rfl, ⟨by simp, rows_len act_len _⟩, fzo_snoc f.acts a rfl⟩, rfl⟩
    · exact ⟨hlc, by simp [maxLen]; omega⟩
    · simp [maxLen]; omega
    · exact fun h _ => h
    · exact fun h _ => h
  · rw [List.concat_eq_append] at h
    have hlen : (f.acts.length : Int) = (p.length : Int) + 1 := by rw [h, List.length_append, List.length_singleton]; omega
    have h0 : ((f.acts.length : Int) > 0) = True := eq_true (by omega)
    have w1 : IntKind.i64.wrap ((f.acts.length : Int) - 1) = (p.length : Int) := by rw [wrap_id] <;> omega
    have e1 : (f.acts.map Act.flat)[p.length]? = some x.flat := by rw [h]; simp
    have hk : p.length < (f.acts.map Act.flat).length := by rw [h]; simp
    have w2 : ((p.length : Int) < (f.acts.length : Int)) = True := eq_true (by omega)
    have hr : f.acts.getLast? = some x := by rw [h]; simp
    have hlb2 : lastB f = x.booked := by rw [hlb, hr]
    refine fun_W mixed Try.func82 rfl (Nat.le_of_ble_eq_true rfl) (by kernel_rfl) fun cx hN hR hF hL => ?_; apply args_k; (case hA => (simp only [go_sem, ↓reduceIte]; rfl))
    (with_reducible repeat' (first|exact trivial|(apply byE;simp only [go_sem, ↓reduceIte, h0, w1, e1, hk, w2];try rfl)|apply Aa|apply As|apply Au|apply Av|apply Aj|apply At|apply Aw|apply Ab|apply Ac|apply Ad|apply Ae|apply Af|apply Ag|apply Ah|apply Ai|apply Ak|apply Al|((first|apply An|apply Ao);(case hs=>with_unfolding_all rfl))|apply Am|apply Ap|apply Aq|apply Ar|apply Ax|apply Ay|apply Az|apply Ba|apply Bb|apply Bc|apply Bd|apply Be|apply Ca|apply Cb|apply Cc|apply Cd|apply Ce|apply Cf|apply Cg|apply Ch|apply Ci|apply Bf|apply Cj|apply Ck|apply Cl|apply Cm|apply Cn|apply Co|apply Cp|(apply byR;with_unfolding_all rfl)|((first|apply byKt|apply byKs);kernel_rfl)|(apply byL;simp only [econs,List.map_cons,List.map_nil,List.cons_append,List.nil_append,OpS.nm,OpS.reads,OpS.turns,Nat.reduceAdd];try with_unfolding_all rfl)|(apply byG;intro hg;try simp only [hg])|(apply byQ;intro hq;try simp only [hqs] at hq;try (exfalso;omega))|(apply byI;intro K hK)|(apply byH;repeat (first|exact dst_z rfl|apply dst_s))|(apply byN;unfold NapOK;kernel_rfl)|(apply byD;first|(simp;done)|(simp [go_sem];done))|(refine hK _ _ ?_;clear hK;clear K)|omega|(apply callX cl97 (refAct_f a);(case hl=>with_unfolding_all rfl))|(apply callX cl56 (hst);(case hl=>with_unfolding_all rfl))|contradiction))
    · have e : putE f a = 1 := by
        unfold putE
        (repeat' split) <;> first | rfl | omega | (simp_all [standP]; done) | (simp_all [standP]; omega)
      rw [put_1 e (by omega), e]
      simp [zeroF]
    · have e : putE f a = 2 := by
        unfold putE
        (repeat' split) <;> first | rfl | omega | (simp_all [standP]; done) | (simp_all [standP]; omega)
      rw [put_1 e (by omega), e]
      simp [zeroF]
    · have e : putE f a = 4 := by
        unfold putE
        (repeat' split) <;> first | rfl | omega | (simp_all [standP]; done) | (simp_all [standP]; omega)
      rw [put_1 e (by omega), e]
      simp [zeroF]
    · have e : putE f a = 10 := by
        unfold putE
        rw [if_neg (by simp_all), if_neg (by omega), if_neg (by omega), if_pos (opn_ref2 (by assumption))]
      rw [put_1 e (by omega), e]
      simp [zeroF]
    · have e : putE f a = 5 := by
        have h5 : overA (standS f.acts) a = true := by rw [hov (by assumption)]; simpa [standP] using hq
        unfold putE
        rw [if_neg (by simp_all), if_neg (by omega), if_neg (by omega), if_neg (opn_ref (by assumption)), if_pos h5]
      rw [put_1 e (by omega), e]
      simp [zeroF]
    · have e : putE f a = 0 := by
        have h5 : ¬ overA (standS f.acts) a = true := by
          rw [hov (by assumption)]
          obtain ⟨h1, h2⟩ := hq
          simp only [Bool.or_eq_true, Bool.and_eq_true, decide_eq_true_eq, not_or, not_and]
          exact ⟨fun h => by rcases h1 with h1 | h1; · exact absurd h h1
                             · exact Int.not_lt.2 h1, fun h => by rcases h2 with h2 | h2; · exact absurd h h2
                                                                  · exact Int.not_lt.2 h2⟩
        unfold putE
        rw [if_neg (by simp_all), if_neg (by omega), if_neg (by omega), if_neg (opn_ref (by assumption)), if_neg h5]
      rw [put_0 e, e]
      exact ⟨⟨rfl, rfl, rfl, rfl, rfl, rfl, ⟨by simp, rows_len act_len _⟩, fzo_snoc f.acts a rfl⟩, rfl⟩
    · exact ⟨hlc, by simp [maxLen]; omega⟩
    · simp [maxLen]; omega
    · exact fun h _ => h
    · exact fun h _ => h
set_option maxHeartbeats 4000000 in
theorem rMade_f (f : File) : Fun Try.prog 54 [.agg f.flat] (bool f.made) := by
  obtain ⟨c, l⟩ := f
  refine fun_W mixed Try.func54 rfl (Nat.le_of_ble_eq_true rfl) (by kernel_rfl) fun cx hN hR hF hL => ?_; apply args_k; (case hA => (simp only [go_sem, ↓reduceIte]; rfl))
  have hl : l.length ≤ 9223372036854775807 := by
    simp [maxLen, File.flat] at hL
    omega
  (with_reducible repeat' (first|exact trivial|(apply byE;simp only [go_sem, ↓reduceIte];try rfl)|apply Aa|apply As|apply Au|apply Av|apply Aj|apply At|apply Aw|apply Ab|apply Ac|apply Ad|apply Ae|apply Af|apply Ag|apply Ah|apply Ai|apply Ak|apply Al|((first|apply An|apply Ao);(case hs=>with_unfolding_all rfl))|apply Am|apply Ap|apply Aq|apply Ar|apply Ax|apply Ay|apply Az|apply Ba|apply Bb|apply Bc|apply Bd|apply Be|apply Ca|apply Cb|apply Cc|apply Cd|apply Ce|apply Cf|apply Cg|apply Ch|apply Ci|apply Bf|apply Cj|apply Ck|apply Cl|apply Cm|apply Cn|apply Co|apply Cp|(apply byR;with_unfolding_all rfl)|((first|apply byKt|apply byKs);kernel_rfl)|(apply byL;simp only [econs,List.map_cons,List.map_nil,List.cons_append,List.nil_append,OpS.nm,OpS.reads,OpS.turns,Nat.reduceAdd];try with_unfolding_all rfl)|(apply byG;intro hg;try simp only [hg])|(apply byQ;intro hq;try simp only [hqs] at hq;try (exfalso;omega))|(apply byI;intro K hK)|(apply byH;repeat (first|exact dst_z rfl|apply dst_s))|(apply byN;unfold NapOK;kernel_rfl)|(apply byD;first|(simp;done)|(simp [go_sem];done))|(refine hK _ _ ?_;clear hK;clear K)|omega|(apply callX cl81 (rOpen_f c);(case hl=>with_unfolding_all rfl))|contradiction))
  refine loopW mixed (σ := {i : Nat // i ≤ l.length ∧ madeL c [] (l.take i) = true}) (fun s => ⟨[(4, int s.1), (3, .ptr 1024 0), (1, .ptr 0 0)], [(1024, some ⟨44, (⟨c, l.take s.1⟩ : File).flat⟩), (0, some ⟨44, (⟨c, l⟩ : File).flat⟩)], 3000⟩) (fun s => l.length - s.1) id ⟨0, by omega, rfl⟩ (by rw [hN]; kernel_rfl) ?_ ?_
  · simp only [go_sem, ↓reduceIte, hF]
    exact ⟨rfl, rfl⟩
  · rintro ⟨i, h1, hm⟩
    by_cases hi : i < l.length
    · have hq2 : l[i]? = some l[i] := List.getElem?_eq_getElem hi
      have e1 : (l.map Act.flat)[i]? = some l[i].flat := by rw [List.getElem?_map, hq2]; rfl
      have e5 : IntKind.i64.wrap ((i : Int) + 1) = ((i + 1 : Nat) : Int) := by rw [wrap_id] <;> omega
      have hk1 : i < (l.map Act.flat).length := by simpa using hi
      have hn := made_next hq2 hm
      generalize l[i] = a at *
      have hp := rPut_f ⟨c, l.take i⟩ a (made_good (f := ⟨c, l.take i⟩) hm)
      by_cases h0 : putE ⟨c, l.take i⟩ a = 0
      · have hn2 : madeL c [] (l.take (i + 1)) = true := by rw [hn, h0]; rfl
        have hg : l.take (i + 1) = l.take i ++ [a] := by rw [List.take_add_one, hq2]; rfl
        rw [put_0 h0, h0] at hp
        (with_reducible repeat' (first|exact trivial|(apply byE;simp only [go_sem, ↓reduceIte, e1, e5, hk1];try rfl)|apply Aa|apply As|apply Au|apply Av|apply Aj|apply At|apply Aw|apply Ab|apply Ac|apply Ad|apply Ae|apply Af|apply Ag|apply Ah|apply Ai|apply Ak|apply Al|((first|apply An|apply Ao);(case hs=>with_unfolding_all rfl))|apply Am|apply Ap|apply Aq|apply Ar|apply Ax|apply Ay|apply Az|apply Ba|apply Bb|apply Bc|apply Bd|apply Be|apply Ca|apply Cb|apply Cc|apply Cd|apply Ce|apply Cf|apply Cg|apply Ch|apply Ci|apply Bf|apply Cj|apply Ck|apply Cl|apply Cm|apply Cn|apply Co|apply Cp|(apply byR;with_unfolding_all rfl)|((first|apply byKt|apply byKs);kernel_rfl)|(apply byL;simp only [econs,List.map_cons,List.map_nil,List.cons_append,List.nil_append,OpS.nm,OpS.reads,OpS.turns,Nat.reduceAdd];try with_unfolding_all rfl)|(apply byG;intro hg;try simp only [hg])|(apply byQ;intro hq;try simp only [hqs] at hq;try (exfalso;omega))|(apply byI;intro K hK)|(apply byH;repeat (first|exact dst_z rfl|apply dst_s))|(apply byN;unfold NapOK;kernel_rfl)|(apply byD;first|(simp;done)|(simp [go_sem];done))|(refine hK _ _ ?_;clear hK;clear K)|omega|(apply callX cl82 (hp);(case hl=>with_unfolding_all rfl))|contradiction))
        refine ⟨⟨i + 1, hi, hn2⟩, id, ?_, by show l.length - (i + 1) < l.length - i; omega⟩
        simp only [hg]
        simp only [go_sem, ↓reduceIte, hF]
      · have hn2 : madeL c [] (l.take (i + 1)) = false := by rw [hn]; exact decide_eq_false h0
        have hn3 := made_not hn2
        (with_reducible repeat' (first|exact trivial|(apply byE;simp only [go_sem, ↓reduceIte, e1, e5, hk1, eq_false h0, decide_eq_false h0];try rfl)|apply Aa|apply As|apply Au|apply Av|apply Aj|apply At|apply Aw|apply Ab|apply Ac|apply Ad|apply Ae|apply Af|apply Ag|apply Ah|apply Ai|apply Ak|apply Al|((first|apply An|apply Ao);(case hs=>with_unfolding_all rfl))|apply Am|apply Ap|apply Aq|apply Ar|apply Ax|apply Ay|apply Az|apply Ba|apply Bb|apply Bc|apply Bd|apply Be|apply Ca|apply Cb|apply Cc|apply Cd|apply Ce|apply Cf|apply Cg|apply Ch|apply Ci|apply Bf|apply Cj|apply Ck|apply Cl|apply Cm|apply Cn|apply Co|apply Cp|(apply byR;with_unfolding_all rfl)|((first|apply byKt|apply byKs);kernel_rfl)|(apply byL;simp only [econs,List.map_cons,List.map_nil,List.cons_append,List.nil_append,OpS.nm,OpS.reads,OpS.turns,Nat.reduceAdd];try with_unfolding_all rfl)|(apply byG;intro hg;try simp only [hg])|(apply byQ;intro hq;try simp only [hqs] at hq;try (exfalso;omega))|(apply byI;intro K hK)|(apply byH;repeat (first|exact dst_z rfl|apply dst_s))|(apply byN;unfold NapOK;kernel_rfl)|(apply byD;first|(simp;done)|(simp [go_sem];done))|(refine hK _ _ ?_;clear hK;clear K)|omega|(apply callX cl82 (hp);(case hl=>with_unfolding_all rfl))|contradiction))
        exact hn3.symm
    · obtain rfl : i = l.length := by omega
      rw [List.take_length] at hm
      (with_reducible repeat' (first|exact trivial|(apply byE;simp only [go_sem, ↓reduceIte];try rfl)|apply Aa|apply As|apply Au|apply Av|apply Aj|apply At|apply Aw|apply Ab|apply Ac|apply Ad|apply Ae|apply Af|apply Ag|apply Ah|apply Ai|apply Ak|apply Al|((first|apply An|apply Ao);(case hs=>with_unfolding_all rfl))|apply Am|apply Ap|apply Aq|apply Ar|apply Ax|apply Ay|apply Az|apply Ba|apply Bb|apply Bc|apply Bd|apply Be|apply Ca|apply Cb|apply Cc|apply Cd|apply Ce|apply Cf|apply Cg|apply Ch|apply Ci|apply Bf|apply Cj|apply Ck|apply Cl|apply Cm|apply Cn|apply Co|apply Cp|(apply byR;with_unfolding_all rfl)|((first|apply byKt|apply byKs);kernel_rfl)|(apply byL;simp only [econs,List.map_cons,List.map_nil,List.cons_append,List.nil_append,OpS.nm,OpS.reads,OpS.turns,Nat.reduceAdd];try with_unfolding_all rfl)|(apply byG;intro hg;try simp only [hg])|(apply byQ;intro hq;try simp only [hqs] at hq;try (exfalso;omega))|(apply byI;intro K hK)|(apply byH;repeat (first|exact dst_z rfl|apply dst_s))|(apply byN;unfold NapOK;kernel_rfl)|(apply byD;first|(simp;done)|(simp [go_sem];done))|(refine hK _ _ ?_;clear hK;clear K)|omega|contradiction))
      exact hm.symm
theorem rRight_f (c : Cover) (l : List File) : Fun Try.prog 21 [.agg c.flat, filesA l] (bool (adjRight c l)) := by
  refine fun_W mixed Try.func21 rfl (Nat.le_of_ble_eq_true rfl) (by kernel_rfl) fun cx hN hR hF hL => ?_; apply args_k; (case hA => (simp only [go_sem, ↓reduceIte]; rfl))
  have hl : l.length ≤ 9223372036854775807 := by
    simp [maxLen] at hL
    omega
  (with_reducible repeat' (first|exact trivial|(apply byE;simp only [go_sem, ↓reduceIte];try rfl)|apply Aa|apply As|apply Au|apply Av|apply Aj|apply At|apply Aw|apply Ab|apply Ac|apply Ad|apply Ae|apply Af|apply Ag|apply Ah|apply Ai|apply Ak|apply Al|((first|apply An|apply Ao);(case hs=>with_unfolding_all rfl))|apply Am|apply Ap|apply Aq|apply Ar|apply Ax|apply Ay|apply Az|apply Ba|apply Bb|apply Bc|apply Bd|apply Be|apply Ca|apply Cb|apply Cc|apply Cd|apply Ce|apply Cf|apply Cg|apply Ch|apply Ci|apply Bf|apply Cj|apply Ck|apply Cl|apply Cm|apply Cn|apply Co|apply Cp|(apply byR;with_unfolding_all rfl)|((first|apply byKt|apply byKs);kernel_rfl)|(apply byL;simp only [econs,List.map_cons,List.map_nil,List.cons_append,List.nil_append,OpS.nm,OpS.reads,OpS.turns,Nat.reduceAdd];try with_unfolding_all rfl)|(apply byG;intro hg;try simp only [hg])|(apply byQ;intro hq;try simp only [hqs] at hq;try (exfalso;omega))|(apply byI;intro K hK)|(apply byH;repeat (first|exact dst_z rfl|apply dst_s))|(apply byN;unfold NapOK;kernel_rfl)|(apply byD;first|(simp;done)|(simp [go_sem];done))|(refine hK _ _ ?_;clear hK;clear K)|omega|contradiction))
  refine loopW mixed (σ := {i : Nat // i ≤ l.length ∧ (l.take i).all (okFile c.peril) = true}) (fun s => ⟨[(5, int s.1), (1, filesA l), (2, .ptr 0 0)], [(0, some ⟨23, c.flat⟩)], 2000⟩) (fun s => l.length - s.1) id ⟨0, by omega, rfl⟩ (by rw [hN]; kernel_rfl) ?_ ?_
  · simp only [go_sem, ↓reduceIte, hF]
    rfl
  · rintro ⟨i, h1, hm⟩
    by_cases hi : i < l.length
    · have e0 : l[i]? = some l[i] := List.getElem?_eq_getElem hi
      have e1 : (l.map File.flat)[i]? = some l[i].flat := by rw [List.getElem?_map, e0]; rfl
      have e2 : IntKind.i64.wrap ((i : Int) + 1) = ((i + 1 : Nat) : Int) := by rw [wrap_id] <;> omega
      have hk1 : i < (l.map File.flat).length := by simpa using hi
      have hn : (l.take (i + 1)).all (okFile c.peril) = okFile c.peril l[i] := by rw [List.take_succ_eq_append_getElem hi, List.all_append, hm]; simp
      have hmem : l[i] ∈ l := List.getElem_mem hi
      generalize l[i] = f at *
      have hf := rMade_f f
      have ho : okFile c.peril f = (f.claim.formedB && decide (f.claim.peril = c.peril) && f.made) := rfl
      (with_reducible repeat' (first|exact trivial|(apply byE;simp only [go_sem, ↓reduceIte, e1, e2, hk1];try rfl)|apply Aa|apply As|apply Au|apply Av|apply Aj|apply At|apply Aw|apply Ab|apply Ac|apply Ad|apply Ae|apply Af|apply Ag|apply Ah|apply Ai|apply Ak|apply Al|((first|apply An|apply Ao);(case hs=>with_unfolding_all rfl))|apply Am|apply Ap|apply Aq|apply Ar|apply Ax|apply Ay|apply Az|apply Ba|apply Bb|apply Bc|apply Bd|apply Be|apply Ca|apply Cb|apply Cc|apply Cd|apply Ce|apply Cf|apply Cg|apply Ch|apply Ci|apply Bf|apply Cj|apply Ck|apply Cl|apply Cm|apply Cn|apply Co|apply Cp|(apply byR;with_unfolding_all rfl)|((first|apply byKt|apply byKs);kernel_rfl)|(apply byL;simp only [econs,List.map_cons,List.map_nil,List.cons_append,List.nil_append,OpS.nm,OpS.reads,OpS.turns,Nat.reduceAdd];try with_unfolding_all rfl)|(apply byG;intro hg;try simp only [hg])|(apply byQ;intro hq;try simp only [hqs] at hq;try (exfalso;omega))|(apply byI;intro K hK)|(apply byH;repeat (first|exact dst_z rfl|apply dst_s))|(apply byN;unfold NapOK;kernel_rfl)|(apply byD;first|(simp;done)|(simp [go_sem];done))|(refine hK _ _ ?_;clear hK;clear K)|omega|(apply callX cl53 (refFormed_f f.claim);(case hl=>with_unfolding_all rfl))|(apply callX cl54 (hf);(case hl=>with_unfolding_all rfl))|contradiction))
      · have hb : okFile c.peril f = false := by rw [ho]; rcases hq with (h | h) | h <;> simp [h]
        have ha : l.all (okFile c.peril) = false := List.all_eq_false.2 ⟨f, hmem, by simp [hb]⟩
        rw [adjRight, ha, Bool.and_false]
      · refine ⟨⟨i + 1, hi, by rw [hn, ho]; simp [hq.1.1, hq.1.2, hq.2]⟩, id, ?_, by show l.length - (i + 1) < l.length - i; omega⟩
        simp only [go_sem, ↓reduceIte, hF]
    · obtain rfl : i = l.length := by omega
      rw [List.take_length] at hm
      have hA : adjRight c l = c.rightB := by rw [adjRight, hm, Bool.and_true]
      (with_reducible repeat' (first|exact trivial|(apply byE;simp only [go_sem, ↓reduceIte, hA];try rfl)|apply Aa|apply As|apply Au|apply Av|apply Aj|apply At|apply Aw|apply Ab|apply Ac|apply Ad|apply Ae|apply Af|apply Ag|apply Ah|apply Ai|apply Ak|apply Al|((first|apply An|apply Ao);(case hs=>with_unfolding_all rfl))|apply Am|apply Ap|apply Aq|apply Ar|apply Ax|apply Ay|apply Az|apply Ba|apply Bb|apply Bc|apply Bd|apply Be|apply Ca|apply Cb|apply Cc|apply Cd|apply Ce|apply Cf|apply Cg|apply Ch|apply Ci|apply Bf|apply Cj|apply Ck|apply Cl|apply Cm|apply Cn|apply Co|apply Cp|(apply byR;with_unfolding_all rfl)|((first|apply byKt|apply byKs);kernel_rfl)|(apply byL;simp only [econs,List.map_cons,List.map_nil,List.cons_append,List.nil_append,OpS.nm,OpS.reads,OpS.turns,Nat.reduceAdd];try with_unfolding_all rfl)|(apply byG;intro hg;try simp only [hg])|(apply byQ;intro hq;try simp only [hqs] at hq;try (exfalso;omega))|(apply byI;intro K hK)|(apply byH;repeat (first|exact dst_z rfl|apply dst_s))|(apply byN;unfold NapOK;kernel_rfl)|(apply byD;first|(simp;done)|(simp [go_sem];done))|(refine hK _ _ ?_;clear hK;clear K)|omega|(apply callX cl55 (rCover_f c);(case hl=>with_unfolding_all rfl))|contradiction))
end Go.Proofs.Ytjplhfmakghabaa.V
