/- Contracts: ref 11 last, Put. -/
import Derived.Test.YtkagkiepicepeaaF8
set_option linter.unusedSimpArgs false
set_option linter.unusedVariables false
namespace Go.Proofs.Ytkagkiepicepeaa.V
open Go.RowKit
set_option maxRecDepth 100000
attribute [local go_sem] Option.toList_some Option.toList_none

theorem hist_len {h : History} {l : List AV} (hL : (.agg h.flat :: l).all AV.lens = true) : h.changes.length ≤ 9223372036854775807 := by
  simp [History.flat, maxLen] at hL
  omega

theorem last_f (h : History) : Fun Try.prog 64 [.agg h.flat] (int (lastB h.booked h.changes)) := by
  rcases List.eq_nil_or_concat h.changes with hn | ⟨l', x, hn⟩
  · refine fun_W mixed Try.func64 rfl (Nat.le_of_ble_eq_true rfl) (by kernel_rfl) fun cx hN hR hF hL => ?_; apply args_k; (case hA => (simp only [go_sem, ↓reduceIte, reduceCtorEq, Nat.reduceAdd, Nat.reduceMul, Nat.reduceEqDiff, Nat.reduceLT, Nat.reduceLeDiff, Nat.reduceBEq, Nat.reduceSub]; rfl))
    (repeat' (first | (with_reducible exact trivial) | ((with_reducible apply byE); simp only [go_sem, ↓reduceIte, reduceCtorEq, Nat.reduceAdd, Nat.reduceMul, Nat.reduceEqDiff, Nat.reduceLT, Nat.reduceLeDiff, Nat.reduceBEq, Nat.reduceSub, hn]; try with_reducible rfl) | (with_reducible first | apply Aa | apply As | apply Au | apply Av | apply Aj | apply At | apply Aw | apply Ab | apply Ac | apply Ad | apply Ae | apply Af | apply Ag | apply Ah | apply Ai | apply Ak | apply Al) | ((with_reducible first | apply An | apply Ao); (case hs => rfl)) | (with_reducible first | apply Am | apply Ap | apply Aq | apply Ar | apply Ax | apply Ay | apply Az | apply Ba | apply Bb | apply Bc | apply Bd | apply Be | apply Ca | apply Cb | apply Cc | apply Cd | apply Ce | apply Cf | apply Cg | apply Ch | apply Ci | apply Bf | apply Cj | apply Ck | apply Cl | apply Cm | apply Cn | apply Co | apply Cp) | ((with_reducible apply byR); rfl) | ((with_reducible apply byK); kernel_rfl) | ((with_reducible apply byL); simp only [econs, List.map_cons, List.map_nil, List.cons_append, List.nil_append, OpS.nm, OpS.reads, OpS.turns, Nat.reduceAdd]; try rfl) | ((with_reducible apply byG); intro hg; try simp only [hg]) | ((with_reducible apply byQ); intro hq; try simp only [hqs] at hq; try (exfalso; omega)) | ((with_reducible apply byI); intro K hK) | ((with_reducible apply byH); repeat (first | (with_reducible exact dst_z rfl) | (with_reducible apply dst_s))) | ((with_reducible apply byN); unfold NapOK; kernel_rfl) | ((with_reducible apply byD); first | (simp; done) | (simp [go_sem]; done)) | (with_reducible refine hK _ _ ?_; clear hK; clear K) | omega))
    simp [lastB]
  · have hlb : lastB h.booked h.changes = x.booked := by rw [hn]; simp [lastB]
    have hlen : h.changes.length = l'.length + 1 := by rw [hn]; simp
    have e1 : h.changes[l'.length]? = some x := by rw [hn]; simp
    refine fun_W mixed Try.func64 rfl (Nat.le_of_ble_eq_true rfl) (by kernel_rfl) fun cx hN hR hF hL => ?_; apply args_k; (case hA => (simp only [go_sem, ↓reduceIte, reduceCtorEq, Nat.reduceAdd, Nat.reduceMul, Nat.reduceEqDiff, Nat.reduceLT, Nat.reduceLeDiff, Nat.reduceBEq, Nat.reduceSub]; rfl))
    have hl := hist_len hL
    have ew : IntKind.i64.wrap (((l'.length + 1 : Nat) : Int) - 1) = (l'.length : Int) := by rw [wrap_id] <;> omega
    (repeat' (first | (with_reducible exact trivial) | ((with_reducible apply byE); simp only [go_sem, ↓reduceIte, reduceCtorEq, Nat.reduceAdd, Nat.reduceMul, Nat.reduceEqDiff, Nat.reduceLT, Nat.reduceLeDiff, Nat.reduceBEq, Nat.reduceSub, hlen, e1, ew]; try with_reducible rfl) | (with_reducible first | apply Aa | apply As | apply Au | apply Av | apply Aj | apply At | apply Aw | apply Ab | apply Ac | apply Ad | apply Ae | apply Af | apply Ag | apply Ah | apply Ai | apply Ak | apply Al) | ((with_reducible first | apply An | apply Ao); (case hs => rfl)) | (with_reducible first | apply Am | apply Ap | apply Aq | apply Ar | apply Ax | apply Ay | apply Az | apply Ba | apply Bb | apply Bc | apply Bd | apply Be | apply Ca | apply Cb | apply Cc | apply Cd | apply Ce | apply Cf | apply Cg | apply Ch | apply Ci | apply Bf | apply Cj | apply Ck | apply Cl | apply Cm | apply Cn | apply Co | apply Cp) | ((with_reducible apply byR); rfl) | ((with_reducible apply byK); kernel_rfl) | ((with_reducible apply byL); simp only [econs, List.map_cons, List.map_nil, List.cons_append, List.nil_append, OpS.nm, OpS.reads, OpS.turns, Nat.reduceAdd]; try rfl) | ((with_reducible apply byG); intro hg; try simp only [hg]) | ((with_reducible apply byQ); intro hq; try simp only [hqs] at hq; try (exfalso; omega)) | ((with_reducible apply byI); intro K hK) | ((with_reducible apply byH); repeat (first | (with_reducible exact dst_z rfl) | (with_reducible apply dst_s))) | ((with_reducible apply byN); unfold NapOK; kernel_rfl) | ((with_reducible apply byD); first | (simp; done) | (simp [go_sem]; done)) | (with_reducible refine hK _ _ ?_; clear hK; clear K) | omega))
    first | done | exact hlb.symm

theorem refPut_f (h : History) (c : Change) (ho : c.ok) : Fun Try.prog 36 [.agg h.flat, .agg c.flat] (.tup [.agg (putH h c).flat, int (putE h c)]) := by
  have mx : 2000 ≤ maxLen := by simp [maxLen]
  refine fun_W mixed Try.func36 rfl (Nat.le_of_ble_eq_true rfl) (by kernel_rfl) fun cx hN hR hF hL => ?_; apply args_k; (case hA => (simp only [go_sem, ↓reduceIte, reduceCtorEq, Nat.reduceAdd, Nat.reduceMul, Nat.reduceEqDiff, Nat.reduceLT, Nat.reduceLeDiff, Nat.reduceBEq, Nat.reduceSub]; rfl))
  (repeat' (first | (with_reducible exact trivial) | ((with_reducible apply byE); simp only [go_sem, ↓reduceIte, reduceCtorEq, Nat.reduceAdd, Nat.reduceMul, Nat.reduceEqDiff, Nat.reduceLT, Nat.reduceLeDiff, Nat.reduceBEq, Nat.reduceSub]; try with_reducible rfl) | (with_reducible first | apply Aa | apply As | apply Au | apply Av | apply Aj | apply At | apply Aw | apply Ab | apply Ac | apply Ad | apply Ae | apply Af | apply Ag | apply Ah | apply Ai | apply Ak | apply Al) | ((with_reducible first | apply An | apply Ao); (case hs => rfl)) | (with_reducible first | apply Am | apply Ap | apply Aq | apply Ar | apply Ax | apply Ay | apply Az | apply Ba | apply Bb | apply Bc | apply Bd | apply Be | apply Ca | apply Cb | apply Cc | apply Cd | apply Ce | apply Cf | apply Cg | apply Ch | apply Ci | apply Bf | apply Cj | apply Ck | apply Cl | apply Cm | apply Cn | apply Co | apply Cp) | ((with_reducible apply byR); rfl) | ((with_reducible apply byK); kernel_rfl) | ((with_reducible apply byL); simp only [econs, List.map_cons, List.map_nil, List.cons_append, List.nil_append, OpS.nm, OpS.reads, OpS.turns, Nat.reduceAdd]; try rfl) | ((with_reducible apply byG); intro hg; try simp only [hg]) | ((with_reducible apply byQ); intro hq; try simp only [hqs] at hq; try (exfalso; omega)) | ((with_reducible apply byI); intro K hK) | ((with_reducible apply byH); repeat (first | (with_reducible exact dst_z rfl) | (with_reducible apply dst_s))) | ((with_reducible apply byN); unfold NapOK; kernel_rfl) | ((with_reducible apply byD); first | (simp; done) | (simp [go_sem]; done)) | (with_reducible refine hK _ _ ?_; clear hK; clear K) | ((with_reducible apply callX cl29 (ref11Right_f _ ho)); (case hl => rfl)) | ((with_reducible apply callX cl40 (ref03In_f _ _ _)); (case hl => rfl)) | ((with_reducible apply callX cl64 (last_f _)); (case hl => rfl)) | omega))
  · have he := put1 hq
    simp [putH_no he, he, zeroHist, zeroTerms]
  · rename_i h1
    have he := put4 h1 hq
    simp [putH_no he, he, zeroHist, zeroTerms]
  · rename_i h2 h1
    have he := put2 h2 h1 hq
    simp [putH_no he, he, zeroHist, zeroTerms]
  · rename_i h2 h1
    have he := put0 h2 h1 hq
    simp only [putH_yes he, he, and_self, true_and, and_true]
    exact ⟨⟨by simp, rows_len Change.len _⟩, fzo_snoc h.changes c rfl⟩
  · refine ⟨?_, by omega, by omega⟩
    have := length_flat (h.changes.map Change.flat) (rows_len Change.len _)
    simpa using this
end Go.Proofs.Ytkagkiepicepeaa.V
