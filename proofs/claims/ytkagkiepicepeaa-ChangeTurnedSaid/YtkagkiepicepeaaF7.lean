/- Contracts: ref 10, ref 11 Right; Bind, Put, History of both. -/
import Derived.Test.YtkagkiepicepeaaF6
set_option linter.unusedSimpArgs false
set_option linter.unusedVariables false
namespace Go.Proofs.Ytkagkiepicepeaa.V
open Go.RowKit
set_option maxRecDepth 100000
attribute [local go_sem] Option.toList_some Option.toList_none

theorem ref10Right_f (t : Terms) (ho : t.ok) : Fun Try.prog 62 [.agg t.flat] (bool t.right) := by
  have ho2 := ho.2
  have w1 : full t.from_ t.to_ = true → IntKind.i64.wrap (t.to_ - t.from_) = t.to_ - t.from_ := by
    intro h
    simp [full] at h
    exact wrap_id (by omega) (by omega)
  have key : t.right = (full t.from_ t.to_ && decide (t.to_ - t.from_ ≤ 1100) && riskRight t.kind t.value t.age t.zone && coversRight t.covers) := by
    have : (spanRight t.from_ t.to_ && manyRight t.from_ t.to_) = (full t.from_ t.to_ && decide (t.to_ - t.from_ ≤ 1100)) := by
      rw [Bool.eq_iff_iff]
      by_cases h : spanRight t.from_ t.to_ = true
      · simp only [manyRight, spanMany, keptFrom, keptTo, full, h, Bool.true_and]
        simp [spanRight] at h
        by_cases e : t.from_ = t.to_
        · simp [e]
        · simp [e]; omega
      · simp only [Bool.not_eq_true] at h
        rw [h, Bool.false_and]
        simp [spanRight, full] at h ⊢
        omega
    rw [Terms.right, this]
  refine fun_W mixed Try.func62 rfl (Nat.le_of_ble_eq_true rfl) (by kernel_rfl) fun cx hN hR hF hL => ?_; apply args_k; (case hA => (simp only [go_sem, ↓reduceIte, reduceCtorEq, Nat.reduceAdd, Nat.reduceMul, Nat.reduceEqDiff, Nat.reduceLT, Nat.reduceLeDiff, Nat.reduceBEq, Nat.reduceSub]; rfl))
  (repeat' (first | (with_reducible exact trivial) | ((with_reducible apply byE); simp only [go_sem, ↓reduceIte, reduceCtorEq, Nat.reduceAdd, Nat.reduceMul, Nat.reduceEqDiff, Nat.reduceLT, Nat.reduceLeDiff, Nat.reduceBEq, Nat.reduceSub]; try with_reducible rfl) | (with_reducible first | apply Aa | apply As | apply Au | apply Av | apply Aj | apply At | apply Aw | apply Ab | apply Ac | apply Ad | apply Ae | apply Af | apply Ag | apply Ah | apply Ai | apply Ak | apply Al) | ((with_reducible first | apply An | apply Ao); (case hs => rfl)) | (with_reducible first | apply Am | apply Ap | apply Aq | apply Ar | apply Ax | apply Ay | apply Az | apply Ba | apply Bb | apply Bc | apply Bd | apply Be | apply Ca | apply Cb | apply Cc | apply Cd | apply Ce | apply Cf | apply Cg | apply Ch | apply Ci | apply Bf | apply Cj | apply Ck | apply Cl | apply Cm | apply Cn | apply Co | apply Cp) | ((with_reducible apply byR); rfl) | ((with_reducible apply byK); kernel_rfl) | ((with_reducible apply byL); simp only [econs, List.map_cons, List.map_nil, List.cons_append, List.nil_append, OpS.nm, OpS.reads, OpS.turns, Nat.reduceAdd]; try rfl) | ((with_reducible apply byG); intro hg; try simp only [hg]) | ((with_reducible apply byQ); intro hq; try simp only [hqs] at hq; try (exfalso; omega)) | ((with_reducible apply byI); intro K hK) | ((with_reducible apply byH); repeat (first | (with_reducible exact dst_z rfl) | (with_reducible apply dst_s))) | ((with_reducible apply byN); unfold NapOK; kernel_rfl) | ((with_reducible apply byD); first | (simp; done) | (simp [go_sem]; done)) | (with_reducible refine hK _ _ ?_; clear hK; clear K) | ((with_reducible apply callX cl94 (full_f _ _)); (case hl => rfl)) | ((with_reducible apply callX cl56 (ref06_f _ _ _ _)); (case hl => rfl)) | ((with_reducible apply callX cl57 (ref10Covers_f _ ho2)); (case hl => rfl)) | omega))
  · rw [key, hq]; rfl
  · rw [key, hq, w1 hq]; rfl

/-- ref 11 asks it so. -/
theorem ref11Right_f (c : Change) (ho : c.ok) : Fun Try.prog 29 [.agg c.flat] (bool c.right) := by
  have ho2 := ho.2
  refine fun_W mixed Try.func29 rfl (Nat.le_of_ble_eq_true rfl) (by kernel_rfl) fun cx hN hR hF hL => ?_; apply args_k; (case hA => (simp only [go_sem, ↓reduceIte, reduceCtorEq, Nat.reduceAdd, Nat.reduceMul, Nat.reduceEqDiff, Nat.reduceLT, Nat.reduceLeDiff, Nat.reduceBEq, Nat.reduceSub]; rfl))
  (repeat' (first | (with_reducible exact trivial) | ((with_reducible apply byE); simp only [go_sem, ↓reduceIte, reduceCtorEq, Nat.reduceAdd, Nat.reduceMul, Nat.reduceEqDiff, Nat.reduceLT, Nat.reduceLeDiff, Nat.reduceBEq, Nat.reduceSub]; try with_reducible rfl) | (with_reducible first | apply Aa | apply As | apply Au | apply Av | apply Aj | apply At | apply Aw | apply Ab | apply Ac | apply Ad | apply Ae | apply Af | apply Ag | apply Ah | apply Ai | apply Ak | apply Al) | ((with_reducible first | apply An | apply Ao); (case hs => rfl)) | (with_reducible first | apply Am | apply Ap | apply Aq | apply Ar | apply Ax | apply Ay | apply Az | apply Ba | apply Bb | apply Bc | apply Bd | apply Be | apply Ca | apply Cb | apply Cc | apply Cd | apply Ce | apply Cf | apply Cg | apply Ch | apply Ci | apply Bf | apply Cj | apply Ck | apply Cl | apply Cm | apply Cn | apply Co | apply Cp) | ((with_reducible apply byR); rfl) | ((with_reducible apply byK); kernel_rfl) | ((with_reducible apply byL); simp only [econs, List.map_cons, List.map_nil, List.cons_append, List.nil_append, OpS.nm, OpS.reads, OpS.turns, Nat.reduceAdd]; try rfl) | ((with_reducible apply byG); intro hg; try simp only [hg]) | ((with_reducible apply byQ); intro hq; try simp only [hqs] at hq; try (exfalso; omega)) | ((with_reducible apply byI); intro K hK) | ((with_reducible apply byH); repeat (first | (with_reducible exact dst_z rfl) | (with_reducible apply dst_s))) | ((with_reducible apply byN); unfold NapOK; kernel_rfl) | ((with_reducible apply byD); first | (simp; done) | (simp [go_sem]; done)) | (with_reducible refine hK _ _ ?_; clear hK; clear K) | ((with_reducible apply callX cl56 (ref06_f _ _ _ _)); (case hl => rfl)) | ((with_reducible apply callX cl57 (ref10Covers_f _ ho2)); (case hl => rfl)) | omega))
  all_goals rw [Bool.eq_iff_iff]
  all_goals simp [Change.right, kindRight, isDay, check1, check2, check3, check4, riskZero] at hq ⊢
  all_goals first
    | (intro a b c d; omega)
    | grind

def zeroTerms : Terms := ⟨0, 0, 0, 0, 0, 0, []⟩
def zeroHist : History := ⟨0, 0, zeroTerms, []⟩
def bindOk (id booked : Int) (t : Terms) : Bool := !(decide (id < 1) || decide (1000000000 < id) || !isDay booked || !t.right)
def bindH (id booked : Int) (t : Terms) : History := if bindOk id booked t then ⟨id, booked, t, []⟩ else zeroHist
def bindE (id booked : Int) (t : Terms) : Int := if bindOk id booked t then 0 else 1

theorem bind_f (id booked : Int) (t : Terms) (hl : t.covers.length ≤ 100000) : Fun Try.prog 32 [int id, int booked, .agg t.flat] (.tup [.agg (bindH id booked t).flat, int (bindE id booked t)]) := by
  refine fun_W mixed Try.func32 rfl (Nat.le_of_ble_eq_true rfl) (by kernel_rfl) fun cx hN hR hF hL => ?_; apply args_k; (case hA => (simp only [go_sem, ↓reduceIte, reduceCtorEq, Nat.reduceAdd, Nat.reduceMul, Nat.reduceEqDiff, Nat.reduceLT, Nat.reduceLeDiff, Nat.reduceBEq, Nat.reduceSub]; rfl))
  (repeat' (first | (with_reducible exact trivial) | ((with_reducible apply byE); simp only [go_sem, ↓reduceIte, reduceCtorEq, Nat.reduceAdd, Nat.reduceMul, Nat.reduceEqDiff, Nat.reduceLT, Nat.reduceLeDiff, Nat.reduceBEq, Nat.reduceSub]; try with_reducible rfl) | (with_reducible first | apply Aa | apply As | apply Au | apply Av | apply Aj | apply At | apply Aw | apply Ab | apply Ac | apply Ad | apply Ae | apply Af | apply Ag | apply Ah | apply Ai | apply Ak | apply Al) | ((with_reducible first | apply An | apply Ao); (case hs => rfl)) | (with_reducible first | apply Am | apply Ap | apply Aq | apply Ar | apply Ax | apply Ay | apply Az | apply Ba | apply Bb | apply Bc | apply Bd | apply Be | apply Ca | apply Cb | apply Cc | apply Cd | apply Ce | apply Cf | apply Cg | apply Ch | apply Ci | apply Bf | apply Cj | apply Ck | apply Cl | apply Cm | apply Cn | apply Co | apply Cp) | ((with_reducible apply byR); rfl) | ((with_reducible apply byK); kernel_rfl) | ((with_reducible apply byL); simp only [econs, List.map_cons, List.map_nil, List.cons_append, List.nil_append, OpS.nm, OpS.reads, OpS.turns, Nat.reduceAdd]; try rfl) | ((with_reducible apply byG); intro hg; try simp only [hg]) | ((with_reducible apply byQ); intro hq; try simp only [hqs] at hq; try (exfalso; omega)) | ((with_reducible apply byI); intro K hK) | ((with_reducible apply byH); repeat (first | (with_reducible exact dst_z rfl) | (with_reducible apply dst_s))) | ((with_reducible apply byN); unfold NapOK; kernel_rfl) | ((with_reducible apply byD); first | (simp; done) | (simp [go_sem]; done)) | (with_reducible refine hK _ _ ?_; clear hK; clear K) | ((with_reducible apply callX cl55 (day_f _)); (case hl => rfl)) | ((with_reducible apply callX cl49 (termsRight_f _)); (case hl => rfl)) | ((with_reducible apply callX cl61 (own_f _ hl)); (case hl => rfl)) | omega))
  · have hb : bindOk id booked t = false := by simp only [bindOk]; grind
    simp [bindH, bindE, hb, zeroHist, zeroTerms]
  · have hb : bindOk id booked t = true := by simp only [bindOk]; grind
    simp [bindH, bindE, hb]

theorem refBind_f (id booked : Int) (t : Terms) (ho : t.ok) : Fun Try.prog 33 [int id, int booked, .agg t.flat] (.tup [.agg (bindH id booked t).flat, int (bindE id booked t)]) := by
  refine fun_W mixed Try.func33 rfl (Nat.le_of_ble_eq_true rfl) (by kernel_rfl) fun cx hN hR hF hL => ?_; apply args_k; (case hA => (simp only [go_sem, ↓reduceIte, reduceCtorEq, Nat.reduceAdd, Nat.reduceMul, Nat.reduceEqDiff, Nat.reduceLT, Nat.reduceLeDiff, Nat.reduceBEq, Nat.reduceSub]; rfl))
  (repeat' (first | (with_reducible exact trivial) | ((with_reducible apply byE); simp only [go_sem, ↓reduceIte, reduceCtorEq, Nat.reduceAdd, Nat.reduceMul, Nat.reduceEqDiff, Nat.reduceLT, Nat.reduceLeDiff, Nat.reduceBEq, Nat.reduceSub]; try with_reducible rfl) | (with_reducible first | apply Aa | apply As | apply Au | apply Av | apply Aj | apply At | apply Aw | apply Ab | apply Ac | apply Ad | apply Ae | apply Af | apply Ag | apply Ah | apply Ai | apply Ak | apply Al) | ((with_reducible first | apply An | apply Ao); (case hs => rfl)) | (with_reducible first | apply Am | apply Ap | apply Aq | apply Ar | apply Ax | apply Ay | apply Az | apply Ba | apply Bb | apply Bc | apply Bd | apply Be | apply Ca | apply Cb | apply Cc | apply Cd | apply Ce | apply Cf | apply Cg | apply Ch | apply Ci | apply Bf | apply Cj | apply Ck | apply Cl | apply Cm | apply Cn | apply Co | apply Cp) | ((with_reducible apply byR); rfl) | ((with_reducible apply byK); kernel_rfl) | ((with_reducible apply byL); simp only [econs, List.map_cons, List.map_nil, List.cons_append, List.nil_append, OpS.nm, OpS.reads, OpS.turns, Nat.reduceAdd]; try rfl) | ((with_reducible apply byG); intro hg; try simp only [hg]) | ((with_reducible apply byQ); intro hq; try simp only [hqs] at hq; try (exfalso; omega)) | ((with_reducible apply byI); intro K hK) | ((with_reducible apply byH); repeat (first | (with_reducible exact dst_z rfl) | (with_reducible apply dst_s))) | ((with_reducible apply byN); unfold NapOK; kernel_rfl) | ((with_reducible apply byD); first | (simp; done) | (simp [go_sem]; done)) | (with_reducible refine hK _ _ ?_; clear hK; clear K) | ((with_reducible apply callX cl62 (ref10Right_f _ ho)); (case hl => rfl)) | omega))
  · have hb : bindOk id booked t = false := by simp only [bindOk, isDay]; grind
    simp [bindH, bindE, hb, zeroHist, zeroTerms]
  · have hb : bindOk id booked t = true := by simp only [bindOk, isDay]; grind
    simp [bindH, bindE, hb]
end Go.Proofs.Ytkagkiepicepeaa.V
