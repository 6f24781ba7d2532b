/- Contracts: files as they were known: the reference's At. Contracts of chapter 20: Known, sums of positions. -/
-- STEPS: new
import Derived.Test.YtjplhfmakghabaaM8
import Derived.Test.YtjplhfmakghabaaM2
set_option linter.unusedSimpArgs false
set_option linter.unusedVariables false
namespace Go.Proofs.Ytjplhfmakghabaa.V
open Go.RowKit
set_option maxRecDepth 100000
attribute [local go_sem] Option.toList_some Option.toList_none

def knownR (l : List File) (d : Int) : List File := (l.filter fun f => decide (f.claim.booked ≤ d)).map fun f => f.at d
theorem knownR_snoc (d : Int) {l : List File} {i : Nat} {f : File} (h : l[i]? = some f) : knownR (l.take (i + 1)) d = knownR (l.take i) d ++ if f.claim.booked ≤ d then [f.at d] else [] := by
  rw [List.take_add_one, h, knownR, List.filter_append, List.map_append]
  by_cases hb : f.claim.booked ≤ d <;> simp [knownR, hb]
theorem knownR_len (l : List File) (d : Int) : (knownR l d).length ≤ l.length := by
  rw [knownR, List.length_map]
  exact List.length_filter_le _ _
set_option maxHeartbeats 4000000 in
theorem known_f (l : List File) (d : Int) (hl : l.length ≤ 100000) (ha : ∀ f, f ∈ l → f.acts.length ≤ 100000) : Fun Try.prog 33 [filesA l, int d] (filesA (knownR l d)) := by
  refine fun_W mixed Try.func33 rfl (Nat.le_of_ble_eq_true rfl) (by kernel_rfl) fun cx hN hR hF hL => ?_; apply args_k; (case hA => (simp only [go_sem, ↓reduceIte]; rfl))
  (with_reducible repeat' (first|exact trivial|(apply byE;simp only [go_sem, ↓reduceIte];try rfl)|apply Aa|apply As|apply Au|apply Av|apply Aj|apply At|apply Aw|apply Ab|apply Ac|apply Ad|apply Ae|apply Af|apply Ag|apply Ah|apply Ai|apply Ak|apply Al|((first|apply An|apply Ao);(case hs=>with_unfolding_all rfl))|apply Am|apply Ap|apply Aq|apply Ar|apply Ax|apply Ay|apply Az|apply Ba|apply Bb|apply Bc|apply Bd|apply Be|apply Ca|apply Cb|apply Cc|apply Cd|apply Ce|apply Cf|apply Cg|apply Ch|apply Ci|apply Bf|apply Cj|apply Ck|apply Cl|apply Cm|apply Cn|apply Co|apply Cp|(apply byR;with_unfolding_all rfl)|((first|apply byKt|apply byKs);kernel_rfl)|(apply byL;simp only [econs,List.map_cons,List.map_nil,List.cons_append,List.nil_append,OpS.nm,OpS.reads,OpS.turns,Nat.reduceAdd];try with_unfolding_all rfl)|(apply byG;intro hg;try simp only [hg])|(apply byQ;intro hq;try simp only [hqs] at hq;try (exfalso;omega))|(apply byI;intro K hK)|(apply byH;repeat (first|exact dst_z rfl|apply dst_s))|(apply byN;unfold NapOK;kernel_rfl)|(apply byD;first|(simp;done)|(simp [go_sem];done))|(refine hK _ _ ?_;clear hK;clear K)|omega|contradiction))
  refine loop_nil 5 3000 7 44 rfl (Nat.le_of_ble_eq_true rfl) ?_
  refine loopW mixed (σ := {i : Nat // i ≤ l.length}) (fun s => ⟨[(10, int s.1), (5, .osl 3000 7 0 (knownR (l.take s.1) d).length), (8, filesA l), (9, int l.length), (1, int d)], [(3000, some ⟨44, rowC File.flat (knownR (l.take s.1) d)⟩)], 3001⟩) (fun s => l.length - s.1) id ⟨0, by omega⟩ (by rw [hN]; kernel_rfl) ?_ ?_
  · simp only [go_sem, ↓reduceIte, hF]
    exact ⟨⟨rfl, rfl⟩, rfl⟩
  · rintro ⟨i, g1⟩
    by_cases gi : i < l.length
    · have e0 : l[i]? = some l[i] := List.getElem?_eq_getElem gi
      have e1 : (l.map File.flat)[i]? = some l[i].flat := by rw [List.getElem?_map, e0]; rfl
      have e2 : IntKind.i64.wrap ((i : Int) + 1) = ((i + 1 : Nat) : Int) := by rw [wrap_id] <;> omega
      have hk1 : i < (l.map File.flat).length := by simpa using gi
      have hsn := knownR_snoc d e0
      have hat := claimAt_f l[i] d (ha _ (List.getElem_mem gi))
      have hkl := knownR_len (l.take i) d
      rw [List.length_take, Nat.min_eq_left g1] at hkl
      generalize knownR (l.take i) d = Q at *
      have hln := rowF_len Q
      generalize l[i] = f at *
      by_cases hd : f.claim.booked ≤ d
      · rw [if_pos hd] at hsn
        (with_reducible repeat' (first|exact trivial|(apply byE;simp only [go_sem, ↓reduceIte, e1, e2, hk1, eq_true hd, decide_eq_true hd];try rfl)|apply Aa|apply As|apply Au|apply Av|apply Aj|apply At|apply Aw|apply Ab|apply Ac|apply Ad|apply Ae|apply Af|apply Ag|apply Ah|apply Ai|apply Ak|apply Al|((first|apply An|apply Ao);(case hs=>with_unfolding_all rfl))|apply Am|apply Ap|apply Aq|apply Ar|apply Ax|apply Ay|apply Az|apply Ba|apply Bb|apply Bc|apply Bd|apply Be|apply Ca|apply Cb|apply Cc|apply Cd|apply Ce|apply Cf|apply Cg|apply Ch|apply Ci|apply Bf|apply Cj|apply Ck|apply Cl|apply Cm|apply Cn|apply Co|apply Cp|(apply byR;with_unfolding_all rfl)|((first|apply byKt|apply byKs);kernel_rfl)|(apply byL;simp only [econs,List.map_cons,List.map_nil,List.cons_append,List.nil_append,OpS.nm,OpS.reads,OpS.turns,Nat.reduceAdd];try with_unfolding_all rfl)|(apply byG;intro hg;try simp only [hg])|(apply byQ;intro hq;try simp only [hqs] at hq;try (exfalso;omega))|(apply byI;intro K hK)|(apply byH;repeat (first|exact dst_z rfl|apply dst_s))|(apply byN;unfold NapOK;kernel_rfl)|(apply byD;first|(simp;done)|(simp [go_sem];done))|(refine hK _ _ ?_;clear hK;clear K)|omega|(apply callX cl28 (hat);(case hl=>with_unfolding_all rfl))|contradiction))
        · refine ⟨⟨i + 1, gi⟩, nm1 3000 6041, ?_, by show l.length - (i + 1) < l.length - i; omega⟩
          simp only [hsn, rowF_snoc, List.length_append, List.length_singleton]
          simp only [go_sem, ↓reduceIte, hF, List.map_append, List.all_append]
        · exact ⟨hln, by simp [maxLen]; omega⟩
      · rw [if_neg hd, List.append_nil] at hsn
        (with_reducible repeat' (first|exact trivial|(apply byE;simp only [go_sem, ↓reduceIte, e1, e2, hk1, eq_false hd, decide_eq_false hd];try rfl)|apply Aa|apply As|apply Au|apply Av|apply Aj|apply At|apply Aw|apply Ab|apply Ac|apply Ad|apply Ae|apply Af|apply Ag|apply Ah|apply Ai|apply Ak|apply Al|((first|apply An|apply Ao);(case hs=>with_unfolding_all rfl))|apply Am|apply Ap|apply Aq|apply Ar|apply Ax|apply Ay|apply Az|apply Ba|apply Bb|apply Bc|apply Bd|apply Be|apply Ca|apply Cb|apply Cc|apply Cd|apply Ce|apply Cf|apply Cg|apply Ch|apply Ci|apply Bf|apply Cj|apply Ck|apply Cl|apply Cm|apply Cn|apply Co|apply Cp|(apply byR;with_unfolding_all rfl)|((first|apply byKt|apply byKs);kernel_rfl)|(apply byL;simp only [econs,List.map_cons,List.map_nil,List.cons_append,List.nil_append,OpS.nm,OpS.reads,OpS.turns,Nat.reduceAdd];try with_unfolding_all rfl)|(apply byG;intro hg;try simp only [hg])|(apply byQ;intro hq;try simp only [hqs] at hq;try (exfalso;omega))|(apply byI;intro K hK)|(apply byH;repeat (first|exact dst_z rfl|apply dst_s))|(apply byN;unfold NapOK;kernel_rfl)|(apply byD;first|(simp;done)|(simp [go_sem];done))|(refine hK _ _ ?_;clear hK;clear K)|omega|contradiction))
        refine ⟨⟨i + 1, gi⟩, id, ?_, by show l.length - (i + 1) < l.length - i; omega⟩
        simp only [hsn]
        simp only [go_sem, ↓reduceIte, hF]
    · obtain rfl : i = l.length := by omega
      simp only [List.take_length]
      (with_reducible repeat' (first|exact trivial|(apply byE;simp only [go_sem, ↓reduceIte];try rfl)|apply Aa|apply As|apply Au|apply Av|apply Aj|apply At|apply Aw|apply Ab|apply Ac|apply Ad|apply Ae|apply Af|apply Ag|apply Ah|apply Ai|apply Ak|apply Al|((first|apply An|apply Ao);(case hs=>with_unfolding_all rfl))|apply Am|apply Ap|apply Aq|apply Ar|apply Ax|apply Ay|apply Az|apply Ba|apply Bb|apply Bc|apply Bd|apply Be|apply Ca|apply Cb|apply Cc|apply Cd|apply Ce|apply Cf|apply Cg|apply Ch|apply Ci|apply Bf|apply Cj|apply Ck|apply Cl|apply Cm|apply Cn|apply Co|apply Cp|(apply byR;with_unfolding_all rfl)|((first|apply byKt|apply byKs);kernel_rfl)|(apply byL;simp only [econs,List.map_cons,List.map_nil,List.cons_append,List.nil_append,OpS.nm,OpS.reads,OpS.turns,Nat.reduceAdd];try with_unfolding_all rfl)|(apply byG;intro hg;try simp only [hg])|(apply byQ;intro hq;try simp only [hqs] at hq;try (exfalso;omega))|(apply byI;intro K hK)|(apply byH;repeat (first|exact dst_z rfl|apply dst_s))|(apply byN;unfold NapOK;kernel_rfl)|(apply byD;first|(simp;done)|(simp [go_sem];done))|(refine hK _ _ ?_;clear hK;clear K)|omega|contradiction))
      exact ⟨rows_len (F := File.flat) (fun _ => rfl) _, fzo_rows (F := File.flat) (k := 7) (fun _ => rfl) (fun _ => by simp [File.flat]) _ rfl⟩
/-! ### Positions, added -/
def addPos (p x : Pos) : Pos := ⟨IntKind.i64.wrap (p.gross + x.gross), IntKind.i64.wrap (p.shown + x.shown), IntKind.i64.wrap (p.paid + x.paid), IntKind.i64.wrap (p.back + x.back), IntKind.i64.wrap (p.reserve + x.reserve), p.opn || x.opn⟩
def zeroP : Pos := ⟨0, 0, 0, 0, 0, false⟩
def sumP (P : List Pos) : Pos := P.foldl addPos zeroP
theorem sumP_take {P : List Pos} {i : Nat} {x : Pos} (h : P[i]? = some x) : sumP (P.take (i + 1)) = addPos (sumP (P.take i)) x := by
  rw [List.take_add_one, h, sumP, List.foldl_append]
  rfl
theorem ofL_le (c : Cover) (l : List File) : (ofL c l).length ≤ l.length := by
  by_cases he : checkE c l = 0
  · rw [ofL_len he]
    exact Nat.le_refl _
  · rw [ofL, if_neg he]
    exact Nat.zero_le _
set_option maxHeartbeats 4000000 in
theorem rSumP_f (A : List Pos) (hA : A.length ≤ 100000) : Fun Try.prog 39 [possA A] (.agg (sumP A).flat) := by
  refine fun_W mixed Try.func39 rfl (Nat.le_of_ble_eq_true rfl) (by kernel_rfl) fun cx hN hR hF hL => ?_; apply args_k; (case hA => (simp only [go_sem, ↓reduceIte]; rfl))
  (with_reducible repeat' (first|exact trivial|(apply byE;simp only [go_sem, ↓reduceIte];try rfl)|apply Aa|apply As|apply Au|apply Av|apply Aj|apply At|apply Aw|apply Ab|apply Ac|apply Ad|apply Ae|apply Af|apply Ag|apply Ah|apply Ai|apply Ak|apply Al|((first|apply An|apply Ao);(case hs=>with_unfolding_all rfl))|apply Am|apply Ap|apply Aq|apply Ar|apply Ax|apply Ay|apply Az|apply Ba|apply Bb|apply Bc|apply Bd|apply Be|apply Ca|apply Cb|apply Cc|apply Cd|apply Ce|apply Cf|apply Cg|apply Ch|apply Ci|apply Bf|apply Cj|apply Ck|apply Cl|apply Cm|apply Cn|apply Co|apply Cp|(apply byR;with_unfolding_all rfl)|((first|apply byKt|apply byKs);kernel_rfl)|(apply byL;simp only [econs,List.map_cons,List.map_nil,List.cons_append,List.nil_append,OpS.nm,OpS.reads,OpS.turns,Nat.reduceAdd];try with_unfolding_all rfl)|(apply byG;intro hg;try simp only [hg])|(apply byQ;intro hq;try simp only [hqs] at hq;try (exfalso;omega))|(apply byI;intro K hK)|(apply byH;repeat (first|exact dst_z rfl|apply dst_s))|(apply byN;unfold NapOK;kernel_rfl)|(apply byD;first|(simp;done)|(simp [go_sem];done))|(refine hK _ _ ?_;clear hK;clear K)|omega|contradiction))
  refine loopW mixed (σ := {i : Nat // i ≤ A.length}) (fun s => ⟨[(4, int s.1), (3, .ptr 1008 0), (0, possA A), (2, .ptr 0 0)], [(1008, some ⟨38, (sumP (A.take s.1)).flat⟩), (0, some ⟨38, zeroP.flat⟩)], 3000⟩) (fun s => A.length - s.1) id ⟨0, by omega⟩ (by rw [hN]; kernel_rfl) ?_ ?_
  · simp only [go_sem, ↓reduceIte, hF]
    exact ⟨rfl, rfl, rfl⟩
  · rintro ⟨i, g1⟩
    by_cases gi : i < A.length
    · have e0 : A[i]? = some A[i] := List.getElem?_eq_getElem gi
      have e1 : (A.map Pos.flat)[i]? = some A[i].flat := by rw [List.getElem?_map, e0]; rfl
      have e2 : IntKind.i64.wrap ((i : Int) + 1) = ((i + 1 : Nat) : Int) := by rw [wrap_id] <;> omega
      have hk1 : i < (A.map Pos.flat).length := by simpa using gi
      have hsn := sumP_take e0
      generalize sumP (A.take i) = p at *
      generalize A[i] = x at *
      obtain ⟨p1, p2, p3, p4, p5, p6⟩ := p
      obtain ⟨x1, x2, x3, x4, x5, x6⟩ := x
      unfold addPos at hsn
      simp only at hsn
      cases x6 <;>
      · simp only [Bool.or_true, Bool.or_false] at hsn
        (with_reducible repeat' (first|exact trivial|(apply byE;simp only [go_sem, ↓reduceIte, e1, e2, hk1];try rfl)|apply Aa|apply As|apply Au|apply Av|apply Aj|apply At|apply Aw|apply Ab|apply Ac|apply Ad|apply Ae|apply Af|apply Ag|apply Ah|apply Ai|apply Ak|apply Al|((first|apply An|apply Ao);(case hs=>with_unfolding_all rfl))|apply Am|apply Ap|apply Aq|apply Ar|apply Ax|apply Ay|apply Az|apply Ba|apply Bb|apply Bc|apply Bd|apply Be|apply Ca|apply Cb|apply Cc|apply Cd|apply Ce|apply Cf|apply Cg|apply Ch|apply Ci|apply Bf|apply Cj|apply Ck|apply Cl|apply Cm|apply Cn|apply Co|apply Cp|(apply byR;with_unfolding_all rfl)|((first|apply byKt|apply byKs);kernel_rfl)|(apply byL;simp only [econs,List.map_cons,List.map_nil,List.cons_append,List.nil_append,OpS.nm,OpS.reads,OpS.turns,Nat.reduceAdd];try with_unfolding_all rfl)|(apply byG;intro hg;try simp only [hg])|(apply byQ;intro hq;try simp only [hqs] at hq;try (exfalso;omega))|(apply byI;intro K hK)|(apply byH;repeat (first|exact dst_z rfl|apply dst_s))|(apply byN;unfold NapOK;kernel_rfl)|(apply byD;first|(simp;done)|(simp [go_sem];done))|(refine hK _ _ ?_;clear hK;clear K)|omega|contradiction))
        refine ⟨⟨i + 1, gi⟩, id, ?_, by show A.length - (i + 1) < A.length - i; omega⟩
        simp only [hsn]
        simp only [go_sem, ↓reduceIte, hF]
    · obtain rfl : i = A.length := by omega
      simp only [List.take_length]
      generalize sumP A = p at *
      obtain ⟨p1, p2, p3, p4, p5, p6⟩ := p
      (with_reducible repeat' (first|exact trivial|(apply byE;simp only [go_sem, ↓reduceIte];try rfl)|apply Aa|apply As|apply Au|apply Av|apply Aj|apply At|apply Aw|apply Ab|apply Ac|apply Ad|apply Ae|apply Af|apply Ag|apply Ah|apply Ai|apply Ak|apply Al|((first|apply An|apply Ao);(case hs=>with_unfolding_all rfl))|apply Am|apply Ap|apply Aq|apply Ar|apply Ax|apply Ay|apply Az|apply Ba|apply Bb|apply Bc|apply Bd|apply Be|apply Ca|apply Cb|apply Cc|apply Cd|apply Ce|apply Cf|apply Cg|apply Ch|apply Ci|apply Bf|apply Cj|apply Ck|apply Cl|apply Cm|apply Cn|apply Co|apply Cp|(apply byR;with_unfolding_all rfl)|((first|apply byKt|apply byKs);kernel_rfl)|(apply byL;simp only [econs,List.map_cons,List.map_nil,List.cons_append,List.nil_append,OpS.nm,OpS.reads,OpS.turns,Nat.reduceAdd];try with_unfolding_all rfl)|(apply byG;intro hg;try simp only [hg])|(apply byQ;intro hq;try simp only [hqs] at hq;try (exfalso;omega))|(apply byI;intro K hK)|(apply byH;repeat (first|exact dst_z rfl|apply dst_s))|(apply byN;unfold NapOK;kernel_rfl)|(apply byD;first|(simp;done)|(simp [go_sem];done))|(refine hK _ _ ?_;clear hK;clear K)|omega|contradiction))
set_option maxHeartbeats 4000000 in
theorem sum_f (c : Cover) (l : List File) (hc : c.ok) (hl : l.length ≤ 100000) : Fun Try.prog 67 [.agg c.flat, filesA l] (.tup [.agg (sumP (ofL c l)).flat, int (checkE c l)]) := by
  have k1 := aof_f c l hc hl
  have hAl := ofL_le c l
  generalize ofL c l = A at *
  generalize checkE c l = e at *
  refine fun_W mixed Try.func67 rfl (Nat.le_of_ble_eq_true rfl) (by kernel_rfl) fun cx hN hR hF hL => ?_; apply args_k; (case hA => (simp only [go_sem, ↓reduceIte]; rfl))
  (with_reducible repeat' (first|exact trivial|(apply byE;simp only [go_sem, ↓reduceIte];try rfl)|apply Aa|apply As|apply Au|apply Av|apply Aj|apply At|apply Aw|apply Ab|apply Ac|apply Ad|apply Ae|apply Af|apply Ag|apply Ah|apply Ai|apply Ak|apply Al|((first|apply An|apply Ao);(case hs=>with_unfolding_all rfl))|apply Am|apply Ap|apply Aq|apply Ar|apply Ax|apply Ay|apply Az|apply Ba|apply Bb|apply Bc|apply Bd|apply Be|apply Ca|apply Cb|apply Cc|apply Cd|apply Ce|apply Cf|apply Cg|apply Ch|apply Ci|apply Bf|apply Cj|apply Ck|apply Cl|apply Cm|apply Cn|apply Co|apply Cp|(apply byR;with_unfolding_all rfl)|((first|apply byKt|apply byKs);kernel_rfl)|(apply byL;simp only [econs,List.map_cons,List.map_nil,List.cons_append,List.nil_append,OpS.nm,OpS.reads,OpS.turns,Nat.reduceAdd];try with_unfolding_all rfl)|(apply byG;intro hg;try simp only [hg])|(apply byQ;intro hq;try simp only [hqs] at hq;try (exfalso;omega))|(apply byI;intro K hK)|(apply byH;repeat (first|exact dst_z rfl|apply dst_s))|(apply byN;unfold NapOK;kernel_rfl)|(apply byD;first|(simp;done)|(simp [go_sem];done))|(refine hK _ _ ?_;clear hK;clear K)|omega|(apply callX cl22 (k1);(case hl=>with_unfolding_all rfl))|contradiction))
  refine loopW mixed (σ := {i : Nat // i ≤ A.length}) (fun s => ⟨[(19, int s.1), (8, .ptr 2000 0), (17, possA A), (18, int A.length), (7, int e), (4, .ptr 8 0)], [(2000, some ⟨38, (sumP (A.take s.1)).flat⟩), (8, some ⟨38, zeroP.flat⟩)], 4000⟩) (fun s => A.length - s.1) id ⟨0, by omega⟩ (by rw [hN]; kernel_rfl) ?_ ?_
  · simp only [go_sem, ↓reduceIte, hF]
    exact ⟨rfl, rfl, rfl⟩
  · rintro ⟨i, g1⟩
    by_cases gi : i < A.length
    · have e0 : A[i]? = some A[i] := List.getElem?_eq_getElem gi
      have e1 : (A.map Pos.flat)[i]? = some A[i].flat := by rw [List.getElem?_map, e0]; rfl
      have e2 : IntKind.i64.wrap ((i : Int) + 1) = ((i + 1 : Nat) : Int) := by rw [wrap_id] <;> omega
      have hk1 : i < (A.map Pos.flat).length := by simpa using gi
      have hsn := sumP_take e0
      generalize sumP (A.take i) = p at *
      generalize A[i] = x at *
      obtain ⟨p1, p2, p3, p4, p5, p6⟩ := p
      obtain ⟨x1, x2, x3, x4, x5, x6⟩ := x
      unfold addPos at hsn
      simp only at hsn
      cases p6 <;>
      · (with_reducible repeat' (first|exact trivial|(apply byE;simp only [go_sem, ↓reduceIte, e1, e2, hk1];try rfl)|apply Aa|apply As|apply Au|apply Av|apply Aj|apply At|apply Aw|apply Ab|apply Ac|apply Ad|apply Ae|apply Af|apply Ag|apply Ah|apply Ai|apply Ak|apply Al|((first|apply An|apply Ao);(case hs=>with_unfolding_all rfl))|apply Am|apply Ap|apply Aq|apply Ar|apply Ax|apply Ay|apply Az|apply Ba|apply Bb|apply Bc|apply Bd|apply Be|apply Ca|apply Cb|apply Cc|apply Cd|apply Ce|apply Cf|apply Cg|apply Ch|apply Ci|apply Bf|apply Cj|apply Ck|apply Cl|apply Cm|apply Cn|apply Co|apply Cp|(apply byR;with_unfolding_all rfl)|((first|apply byKt|apply byKs);kernel_rfl)|(apply byL;simp only [econs,List.map_cons,List.map_nil,List.cons_append,List.nil_append,OpS.nm,OpS.reads,OpS.turns,Nat.reduceAdd];try with_unfolding_all rfl)|(apply byG;intro hg;try simp only [hg])|(apply byQ;intro hq;try simp only [hqs] at hq;try (exfalso;omega))|(apply byI;intro K hK)|(apply byH;repeat (first|exact dst_z rfl|apply dst_s))|(apply byN;unfold NapOK;kernel_rfl)|(apply byD;first|(simp;done)|(simp [go_sem];done))|(refine hK _ _ ?_;clear hK;clear K)|omega|contradiction))
        refine ⟨⟨i + 1, gi⟩, id, ?_, by show A.length - (i + 1) < A.length - i; omega⟩
        simp only [hsn]
        simp only [go_sem, ↓reduceIte, hF]
    · obtain rfl : i = A.length := by omega
      simp only [List.take_length]
      generalize sumP A = p at *
      obtain ⟨p1, p2, p3, p4, p5, p6⟩ := p
      (with_reducible repeat' (first|exact trivial|(apply byE;simp only [go_sem, ↓reduceIte];try rfl)|apply Aa|apply As|apply Au|apply Av|apply Aj|apply At|apply Aw|apply Ab|apply Ac|apply Ad|apply Ae|apply Af|apply Ag|apply Ah|apply Ai|apply Ak|apply Al|((first|apply An|apply Ao);(case hs=>with_unfolding_all rfl))|apply Am|apply Ap|apply Aq|apply Ar|apply Ax|apply Ay|apply Az|apply Ba|apply Bb|apply Bc|apply Bd|apply Be|apply Ca|apply Cb|apply Cc|apply Cd|apply Ce|apply Cf|apply Cg|apply Ch|apply Ci|apply Bf|apply Cj|apply Ck|apply Cl|apply Cm|apply Cn|apply Co|apply Cp|(apply byR;with_unfolding_all rfl)|((first|apply byKt|apply byKs);kernel_rfl)|(apply byL;simp only [econs,List.map_cons,List.map_nil,List.cons_append,List.nil_append,OpS.nm,OpS.reads,OpS.turns,Nat.reduceAdd];try with_unfolding_all rfl)|(apply byG;intro hg;try simp only [hg])|(apply byQ;intro hq;try simp only [hqs] at hq;try (exfalso;omega))|(apply byI;intro K hK)|(apply byH;repeat (first|exact dst_z rfl|apply dst_s))|(apply byN;unfold NapOK;kernel_rfl)|(apply byD;first|(simp;done)|(simp [go_sem];done))|(refine hK _ _ ?_;clear hK;clear K)|omega|contradiction))
end Go.Proofs.Ytjplhfmakghabaa.V
