/- Contract of change.Right. -/
import Derived.Test.YtkagkiepicepeaaF4
set_option linter.unusedSimpArgs false
set_option linter.unusedVariables false
namespace Go.Proofs.Ytkagkiepicepeaa.V
open Go.RowKit
set_option maxRecDepth 100000

def checksMap : Array MapEntry := #[{ key := .int .i64 1, val := .func (.func 87) #[] #[], born := 0 }, { key := .int .i64 2, val := .func (.func 88) #[] #[], born := 1 },
  { key := .int .i64 3, val := .func (.func 89) #[] #[], born := 2 }, { key := .int .i64 4, val := .func (.func 90) #[] #[], born := 3 }]

/-- A key that is not there yet is laid behind the others, in a map that was made last. -/
theorem run_insert_new {P : Program} {t kt et : TypeId} (ht : P.underlying t = some (.map kt et)) (hk : P.underlying kt = some (.int .i64)) (es : Array MapEntry) (c : Nat) (k : Int) (v : Value)
    (hf : Instr.findNow (.int .i64) (.int .i64 k) es.toList 0 = some none) (w : World) (r : Nat) (hr : r = w.heap.size) :
    (Instr.mapUpdate t (.map (some r)) (.int .i64 k) v).run P (w.alloc (.map es c)) = .ok () (w.alloc (.map (es.push { key := .int .i64 k, val := v, born := c }) (c + 1))) := by
  subst hr
  have h1 : (w.alloc (.map es c)).heap[w.heap.size]? = some (.map es c) := heap_alloc_new w _
  have h2 : ∀ o, ({ (w.alloc (.map es c)) with heap := (w.alloc (.map es c)).heap.setIfInBounds w.heap.size o } : World) = w.alloc o := by
    intro o
    show ({ w with heap := (w.heap.push _).setIfInBounds w.heap.size o } : World) = { w with heap := w.heap.push o }
    congr 1
    apply Array.ext_getElem?
    intro i
    rw [Array.getElem?_setIfInBounds, Array.getElem?_push, Array.getElem?_push]
    by_cases h5 : i = w.heap.size
    · subst h5; simp
    · rw [if_neg (fun h => h5 h.symm), if_neg h5, if_neg h5]
  simp only [Instr.mapUpdate, Sem.run_bind, run_underlying ht, Result.andThen_ok, MapKept.run_getObj_map h1, MapKept.run_checkKey hk (show MapKept.IsKey (.int .i64) (.int .i64 k) from rfl), MapKept.run_findKey hk hf, MapKept.run_setObj_map _ h1, h2]

set_option maxHeartbeats 400000 in
theorem checks_any (w : World) : Calls Try.prog 54 #[] w fun e w' => e = .returned (.map (some w.heap.size)) ∧ w.alloc (.map checksMap 4) = w' := by
  have hmm := @run_makeMap Try.prog
  have ht := Try.underlying102
  have hk := Try.underlying3
  have i1 := fun w : World => run_insert_new (P := Try.prog) ht hk #[] 0 1 (.func (.func 87) #[] #[]) rfl w _ rfl
  have i2 := fun w : World => run_insert_new (P := Try.prog) ht hk #[{ key := .int .i64 1, val := .func (.func 87) #[] #[], born := 0 }] 1 2 (.func (.func 88) #[] #[]) rfl w _ rfl
  have i3 := fun w : World => run_insert_new (P := Try.prog) ht hk #[{ key := .int .i64 1, val := .func (.func 87) #[] #[], born := 0 }, { key := .int .i64 2, val := .func (.func 88) #[] #[], born := 1 }] 2 3 (.func (.func 89) #[] #[]) rfl w _ rfl
  have i4 := fun w : World => run_insert_new (P := Try.prog) ht hk #[{ key := .int .i64 1, val := .func (.func 87) #[] #[], born := 0 }, { key := .int .i64 2, val := .func (.func 88) #[] #[], born := 1 }, { key := .int .i64 3, val := .func (.func 89) #[] #[], born := 2 }] 3 4 (.func (.func 90) #[] #[]) rfl w _ rfl
  simp only [List.push_toArray, List.cons_append, List.nil_append, Nat.zero_add, Nat.reduceAdd] at i1 i2 i3 i4
  clear ht hk
  go_enter Try.func54, Try.ntmps54
  go_wp2
  go_ret
  exact ⟨rfl, rfl⟩

theorem checks_f : Fun Try.prog 54 [] (.mp checksMap 4) := by
  intro M w vs hM hsz _
  obtain rfl : vs = #[] := Array.eq_empty_of_size_eq_zero (by simpa using hsz)
  refine (checks_any w).mono ?_
  rintro e w' ⟨rfl, rfl⟩
  exact ⟨_, rfl, .mp (fun h => by have := hM _ h; omega) (heap_alloc_new w _), (Below.refl _ _).alloc (Nat.le_refl _) _⟩

theorem find_none {k : Int} (h1 : k ≠ 1) (h2 : k ≠ 2) (h3 : k ≠ 3) (h4 : k ≠ 4) : Instr.findNow (.int .i64) (.int .i64 k) checksMap.toList 0 = some none := by
  have e1 : (k == 1) = false := by simpa using h1
  have e2 : (k == 2) = false := by simpa using h2
  have e3 : (k == 3) = false := by simpa using h3
  have e4 : (k == 4) = false := by simpa using h4
  simp [checksMap, Instr.findNow, Instr.sameNow, e1, e2, e3, e4]

def kindRight (c : Change) : Bool :=
  if c.kind = 1 then check1 c else if c.kind = 2 then check2 c else if c.kind = 3 then check3 c else if c.kind = 4 then check4 c else false
def Change.right (c : Change) : Bool := isDay c.booked && isDay c.day && kindRight c

theorem changeRight_f (c : Change) : Fun Try.prog 28 [.agg c.flat] (bool c.right) := by
  have hu := Try.underlying102
  by_cases hk4 : c.kind = 1 ∨ c.kind = 2 ∨ c.kind = 3 ∨ c.kind = 4
  · rcases hk4 with hk | hk | hk | hk
    · have hf : Instr.findNow (.int .i64) (.int .i64 1) checksMap.toList 0 = some (some (1 - 1, .func (.func 87) #[] #[])) := rfl
      refine fun_W mixed Try.func28 rfl (Nat.le_of_ble_eq_true rfl) (by kernel_rfl) fun cx hN hR hF hL => ?_; apply args_k; (case hA => (simp only [go_sem, ↓reduceIte, reduceCtorEq, Nat.reduceAdd, Nat.reduceMul, Nat.reduceEqDiff, Nat.reduceLT, Nat.reduceLeDiff, Nat.reduceBEq, Nat.reduceSub]; rfl))
      (repeat' (first | (with_reducible exact trivial) | ((with_reducible apply byE); simp only [go_sem, ↓reduceIte, reduceCtorEq, Nat.reduceAdd, Nat.reduceMul, Nat.reduceEqDiff, Nat.reduceLT, Nat.reduceLeDiff, Nat.reduceBEq, Nat.reduceSub, hk, hf, hu]; try with_reducible rfl) | (with_reducible first | apply Aa | apply As | apply Au | apply Av | apply Aj | apply At | apply Aw | apply Ab | apply Ac | apply Ad | apply Ae | apply Af | apply Ag | apply Ah | apply Ai | apply Ak | apply Al) | ((with_reducible first | apply An | apply Ao); (case hs => rfl)) | (with_reducible first | apply Am | apply Ap | apply Aq | apply Ar | apply Ax | apply Ay | apply Az | apply Ba | apply Bb | apply Bc | apply Bd | apply Be | apply Ca | apply Cb | apply Cc | apply Cd | apply Ce | apply Cf | apply Cg | apply Ch | apply Ci | apply Bf | apply Cj | apply Ck | apply Cl | apply Cm | apply Cn | apply Co | apply Cp) | ((with_reducible apply byR); rfl) | ((with_reducible apply byK); kernel_rfl) | ((with_reducible apply byL); simp only [econs, List.map_cons, List.map_nil, List.cons_append, List.nil_append, OpS.nm, OpS.reads, OpS.turns, Nat.reduceAdd]; try rfl) | ((with_reducible apply byG); intro hg; try simp only [hg]) | ((with_reducible apply byQ); intro hq; try simp only [hqs] at hq; try (exfalso; omega)) | ((with_reducible apply byI); intro K hK) | ((with_reducible apply byH); repeat (first | (with_reducible exact dst_z rfl) | (with_reducible apply dst_s))) | ((with_reducible apply byN); unfold NapOK; kernel_rfl) | ((with_reducible apply byD); first | (simp; done) | (simp [go_sem]; done)) | (with_reducible refine hK _ _ ?_; clear hK; clear K) | ((with_reducible apply callX cl54 (checks_f)); (case hl => rfl)) | ((with_reducible apply callX cl55 (day_f _)); (case hl => rfl)) | ((with_reducible apply callX cl87 (check1_f { c with kind := 1 })); (case hl => rfl)) | omega))
      simp [Change.right, kindRight, hk, check1]
    · have hf : Instr.findNow (.int .i64) (.int .i64 2) checksMap.toList 0 = some (some (2 - 1, .func (.func 88) #[] #[])) := rfl
      refine fun_W mixed Try.func28 rfl (Nat.le_of_ble_eq_true rfl) (by kernel_rfl) fun cx hN hR hF hL => ?_; apply args_k; (case hA => (simp only [go_sem, ↓reduceIte, reduceCtorEq, Nat.reduceAdd, Nat.reduceMul, Nat.reduceEqDiff, Nat.reduceLT, Nat.reduceLeDiff, Nat.reduceBEq, Nat.reduceSub]; rfl))
      (repeat' (first | (with_reducible exact trivial) | ((with_reducible apply byE); simp only [go_sem, ↓reduceIte, reduceCtorEq, Nat.reduceAdd, Nat.reduceMul, Nat.reduceEqDiff, Nat.reduceLT, Nat.reduceLeDiff, Nat.reduceBEq, Nat.reduceSub, hk, hf, hu]; try with_reducible rfl) | (with_reducible first | apply Aa | apply As | apply Au | apply Av | apply Aj | apply At | apply Aw | apply Ab | apply Ac | apply Ad | apply Ae | apply Af | apply Ag | apply Ah | apply Ai | apply Ak | apply Al) | ((with_reducible first | apply An | apply Ao); (case hs => rfl)) | (with_reducible first | apply Am | apply Ap | apply Aq | apply Ar | apply Ax | apply Ay | apply Az | apply Ba | apply Bb | apply Bc | apply Bd | apply Be | apply Ca | apply Cb | apply Cc | apply Cd | apply Ce | apply Cf | apply Cg | apply Ch | apply Ci | apply Bf | apply Cj | apply Ck | apply Cl | apply Cm | apply Cn | apply Co | apply Cp) | ((with_reducible apply byR); rfl) | ((with_reducible apply byK); kernel_rfl) | ((with_reducible apply byL); simp only [econs, List.map_cons, List.map_nil, List.cons_append, List.nil_append, OpS.nm, OpS.reads, OpS.turns, Nat.reduceAdd]; try rfl) | ((with_reducible apply byG); intro hg; try simp only [hg]) | ((with_reducible apply byQ); intro hq; try simp only [hqs] at hq; try (exfalso; omega)) | ((with_reducible apply byI); intro K hK) | ((with_reducible apply byH); repeat (first | (with_reducible exact dst_z rfl) | (with_reducible apply dst_s))) | ((with_reducible apply byN); unfold NapOK; kernel_rfl) | ((with_reducible apply byD); first | (simp; done) | (simp [go_sem]; done)) | (with_reducible refine hK _ _ ?_; clear hK; clear K) | ((with_reducible apply callX cl54 (checks_f)); (case hl => rfl)) | ((with_reducible apply callX cl55 (day_f _)); (case hl => rfl)) | ((with_reducible apply callX cl88 (check2_f { c with kind := 2 })); (case hl => rfl)) | omega))
      simp [Change.right, kindRight, hk, check2]
    · have hf : Instr.findNow (.int .i64) (.int .i64 3) checksMap.toList 0 = some (some (3 - 1, .func (.func 89) #[] #[])) := rfl
      refine fun_W mixed Try.func28 rfl (Nat.le_of_ble_eq_true rfl) (by kernel_rfl) fun cx hN hR hF hL => ?_; apply args_k; (case hA => (simp only [go_sem, ↓reduceIte, reduceCtorEq, Nat.reduceAdd, Nat.reduceMul, Nat.reduceEqDiff, Nat.reduceLT, Nat.reduceLeDiff, Nat.reduceBEq, Nat.reduceSub]; rfl))
      (repeat' (first | (with_reducible exact trivial) | ((with_reducible apply byE); simp only [go_sem, ↓reduceIte, reduceCtorEq, Nat.reduceAdd, Nat.reduceMul, Nat.reduceEqDiff, Nat.reduceLT, Nat.reduceLeDiff, Nat.reduceBEq, Nat.reduceSub, hk, hf, hu]; try with_reducible rfl) | (with_reducible first | apply Aa | apply As | apply Au | apply Av | apply Aj | apply At | apply Aw | apply Ab | apply Ac | apply Ad | apply Ae | apply Af | apply Ag | apply Ah | apply Ai | apply Ak | apply Al) | ((with_reducible first | apply An | apply Ao); (case hs => rfl)) | (with_reducible first | apply Am | apply Ap | apply Aq | apply Ar | apply Ax | apply Ay | apply Az | apply Ba | apply Bb | apply Bc | apply Bd | apply Be | apply Ca | apply Cb | apply Cc | apply Cd | apply Ce | apply Cf | apply Cg | apply Ch | apply Ci | apply Bf | apply Cj | apply Ck | apply Cl | apply Cm | apply Cn | apply Co | apply Cp) | ((with_reducible apply byR); rfl) | ((with_reducible apply byK); kernel_rfl) | ((with_reducible apply byL); simp only [econs, List.map_cons, List.map_nil, List.cons_append, List.nil_append, OpS.nm, OpS.reads, OpS.turns, Nat.reduceAdd]; try rfl) | ((with_reducible apply byG); intro hg; try simp only [hg]) | ((with_reducible apply byQ); intro hq; try simp only [hqs] at hq; try (exfalso; omega)) | ((with_reducible apply byI); intro K hK) | ((with_reducible apply byH); repeat (first | (with_reducible exact dst_z rfl) | (with_reducible apply dst_s))) | ((with_reducible apply byN); unfold NapOK; kernel_rfl) | ((with_reducible apply byD); first | (simp; done) | (simp [go_sem]; done)) | (with_reducible refine hK _ _ ?_; clear hK; clear K) | ((with_reducible apply callX cl54 (checks_f)); (case hl => rfl)) | ((with_reducible apply callX cl55 (day_f _)); (case hl => rfl)) | ((with_reducible apply callX cl89 (check3_f { c with kind := 3 })); (case hl => rfl)) | omega))
      simp [Change.right, kindRight, hk, check3]
    · have hf : Instr.findNow (.int .i64) (.int .i64 4) checksMap.toList 0 = some (some (4 - 1, .func (.func 90) #[] #[])) := rfl
      refine fun_W mixed Try.func28 rfl (Nat.le_of_ble_eq_true rfl) (by kernel_rfl) fun cx hN hR hF hL => ?_; apply args_k; (case hA => (simp only [go_sem, ↓reduceIte, reduceCtorEq, Nat.reduceAdd, Nat.reduceMul, Nat.reduceEqDiff, Nat.reduceLT, Nat.reduceLeDiff, Nat.reduceBEq, Nat.reduceSub]; rfl))
      (repeat' (first | (with_reducible exact trivial) | ((with_reducible apply byE); simp only [go_sem, ↓reduceIte, reduceCtorEq, Nat.reduceAdd, Nat.reduceMul, Nat.reduceEqDiff, Nat.reduceLT, Nat.reduceLeDiff, Nat.reduceBEq, Nat.reduceSub, hk, hf, hu]; try with_reducible rfl) | (with_reducible first | apply Aa | apply As | apply Au | apply Av | apply Aj | apply At | apply Aw | apply Ab | apply Ac | apply Ad | apply Ae | apply Af | apply Ag | apply Ah | apply Ai | apply Ak | apply Al) | ((with_reducible first | apply An | apply Ao); (case hs => rfl)) | (with_reducible first | apply Am | apply Ap | apply Aq | apply Ar | apply Ax | apply Ay | apply Az | apply Ba | apply Bb | apply Bc | apply Bd | apply Be | apply Ca | apply Cb | apply Cc | apply Cd | apply Ce | apply Cf | apply Cg | apply Ch | apply Ci | apply Bf | apply Cj | apply Ck | apply Cl | apply Cm | apply Cn | apply Co | apply Cp) | ((with_reducible apply byR); rfl) | ((with_reducible apply byK); kernel_rfl) | ((with_reducible apply byL); simp only [econs, List.map_cons, List.map_nil, List.cons_append, List.nil_append, OpS.nm, OpS.reads, OpS.turns, Nat.reduceAdd]; try rfl) | ((with_reducible apply byG); intro hg; try simp only [hg]) | ((with_reducible apply byQ); intro hq; try simp only [hqs] at hq; try (exfalso; omega)) | ((with_reducible apply byI); intro K hK) | ((with_reducible apply byH); repeat (first | (with_reducible exact dst_z rfl) | (with_reducible apply dst_s))) | ((with_reducible apply byN); unfold NapOK; kernel_rfl) | ((with_reducible apply byD); first | (simp; done) | (simp [go_sem]; done)) | (with_reducible refine hK _ _ ?_; clear hK; clear K) | ((with_reducible apply callX cl54 (checks_f)); (case hl => rfl)) | ((with_reducible apply callX cl55 (day_f _)); (case hl => rfl)) | ((with_reducible apply callX cl90 (check4_f { c with kind := 4 })); (case hl => rfl)) | omega))
      simp [Change.right, kindRight, hk, check4]
  · have h1 : c.kind ≠ 1 := fun h => hk4 (.inl h)
    have h2 : c.kind ≠ 2 := fun h => hk4 (.inr (.inl h))
    have h3 : c.kind ≠ 3 := fun h => hk4 (.inr (.inr (.inl h)))
    have h4 : c.kind ≠ 4 := fun h => hk4 (.inr (.inr (.inr h)))
    have hf := find_none h1 h2 h3 h4
    refine fun_W mixed Try.func28 rfl (Nat.le_of_ble_eq_true rfl) (by kernel_rfl) fun cx hN hR hF hL => ?_; apply args_k; (case hA => (simp only [go_sem, ↓reduceIte, reduceCtorEq, Nat.reduceAdd, Nat.reduceMul, Nat.reduceEqDiff, Nat.reduceLT, Nat.reduceLeDiff, Nat.reduceBEq, Nat.reduceSub]; rfl))
    (repeat' (first | (with_reducible exact trivial) | ((with_reducible apply byE); simp only [go_sem, ↓reduceIte, reduceCtorEq, Nat.reduceAdd, Nat.reduceMul, Nat.reduceEqDiff, Nat.reduceLT, Nat.reduceLeDiff, Nat.reduceBEq, Nat.reduceSub, hf, hu]; try with_reducible rfl) | (with_reducible first | apply Aa | apply As | apply Au | apply Av | apply Aj | apply At | apply Aw | apply Ab | apply Ac | apply Ad | apply Ae | apply Af | apply Ag | apply Ah | apply Ai | apply Ak | apply Al) | ((with_reducible first | apply An | apply Ao); (case hs => rfl)) | (with_reducible first | apply Am | apply Ap | apply Aq | apply Ar | apply Ax | apply Ay | apply Az | apply Ba | apply Bb | apply Bc | apply Bd | apply Be | apply Ca | apply Cb | apply Cc | apply Cd | apply Ce | apply Cf | apply Cg | apply Ch | apply Ci | apply Bf | apply Cj | apply Ck | apply Cl | apply Cm | apply Cn | apply Co | apply Cp) | ((with_reducible apply byR); rfl) | ((with_reducible apply byK); kernel_rfl) | ((with_reducible apply byL); simp only [econs, List.map_cons, List.map_nil, List.cons_append, List.nil_append, OpS.nm, OpS.reads, OpS.turns, Nat.reduceAdd]; try rfl) | ((with_reducible apply byG); intro hg; try simp only [hg]) | ((with_reducible apply byQ); intro hq; try simp only [hqs] at hq; try (exfalso; omega)) | ((with_reducible apply byI); intro K hK) | ((with_reducible apply byH); repeat (first | (with_reducible exact dst_z rfl) | (with_reducible apply dst_s))) | ((with_reducible apply byN); unfold NapOK; kernel_rfl) | ((with_reducible apply byD); first | (simp; done) | (simp [go_sem]; done)) | (with_reducible refine hK _ _ ?_; clear hK; clear K) | ((with_reducible apply callX cl54 (checks_f)); (case hl => rfl)) | omega))
    simp [Change.right, kindRight, h1, h2, h3, h4]
end Go.Proofs.Ytkagkiepicepeaa.V
