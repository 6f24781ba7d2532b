/- Laws of chapter 19: More. -/
-- STEPS: new
import Derived.Test.YtjplhfmakghabaaM4
import Derived.Test.YtjplhfmakghabaaM7
set_option linter.unusedSimpArgs false
set_option linter.unusedVariables false
namespace Go.Proofs.Ytjplhfmakghabaa.V
open Go.RowKit
set_option maxRecDepth 100000
attribute [local go_sem] Option.toList_some Option.toList_none

/-- A payment more. -/
theorem more_of {c : Cover} {f : File} {a : Act} (h0 : checkE c [f] = 0) (hf : fewB [f] = true) (hp : putE f a = 0) (hk : a.kind = 2) :
    checkE c [(⟨f.claim, f.acts ++ [a]⟩ : File)] = 0 ∧ (standP (f.acts ++ [a])).shown = (standP f.acts).shown + a.amt ∧ 0 ≤ a.amt ∧ a.amt ≤ 1000000000000000 := by
  obtain ⟨har, _⟩ := chk_right h0
  have hr2 := right_few har hf
  have ha2 := Act.right_iff.1 (putE_ok hp).1
  have hA : adjRight c [(⟨f.claim, f.acts ++ [a]⟩ : File)] = true := by
    rw [adjRight, Bool.and_eq_true] at har ⊢
    refine ⟨har.1, ?_⟩
    have h1 := har.2
    simp only [List.all_cons, List.all_nil, Bool.and_true] at h1 ⊢
    rw [okFile, Bool.and_eq_true] at h1 ⊢
    exact ⟨h1.1, by rw [made_put h1.2, hp]; rfl⟩
  have hg := right_good har (f := f) (by simp)
  have hg2 := right_good hA (f := ⟨f.claim, f.acts ++ [a]⟩) (by simp)
  have e1 := hg.shownE
  have e2 := hg2.shownE
  simp only at e2
  rw [sumK_snoc, if_pos hk, ← e1] at e2
  have hk4 : ¬ (a.kind = 4 ∨ a.kind = 5) := by omega
  rw [if_neg hk4] at ha2
  refine ⟨?_, ?_, by omega, by omega⟩
  · rw [checkE, if_neg (by rw [hA]; decide), if_neg]
    have : actsN [(⟨f.claim, f.acts ++ [a]⟩ : File)] = actsN [f] + 1 := by simp [actsN]
    rw [this]
    simp
    omega
  · simp only [standP]
    exact e2
set_option maxHeartbeats 4000000 in
theorem moreLaw (c : Cover) (f : File) (a : Act) (hc : c.ok) : Fun Try.prog 8 [.agg c.flat, .agg f.flat, .agg a.flat] (bool true) := by
  have q1 := few_f [f]
  by_cases hf : fewB [f] = true
  · rw [hf] at q1
    by_cases hk : a.kind = 2
    · have q2 := aof_f c [f] hc (by simp)
      have q3 := aof_f c [putF f a] hc (by simp)
      refine fun_W mixed Try.func8 rfl (Nat.le_of_ble_eq_true rfl) (by kernel_rfl) fun cx hN hR hF hL => ?_; apply args_k; (case hA => (simp only [go_sem, ↓reduceIte]; rfl))
      have hl : f.acts.length ≤ 9223372036854775807 := by
        simp [maxLen, File.flat, Act.flat, Cover.flat] at hL
        omega
      have hl2 : f.acts.length ≤ 200 := by
        rw [fewB, Bool.and_eq_true, decide_eq_true_eq, decide_eq_true_eq] at hf
        have h2 := hf.2
        have h3 : actsN [f] = f.acts.length := by simp [actsN]
        rw [h3, wrap_id (by omega) (by omega)] at h2
        omega
      have q4 := put_f f a (by omega)
      by_cases hp : putE f a = 0
      · by_cases h0 : checkE c [f] = 0
        · obtain ⟨h1, h2, h3, h4⟩ := more_of h0 hf hp hk
          have hF : putF f a = ⟨f.claim, f.acts ++ [a]⟩ := by rw [putF, if_pos hp]
          obtain ⟨o1, hr, o2, o3, o4⟩ := one_of h0
          obtain ⟨o5, -, o6, o7, o8⟩ := one_of h1
          rw [hF, h1, o5] at q3
          rw [h0, o1] at q2
          rw [hF, hp] at q4
          simp only at q3 o5 o6 o7 o8
          have b1 := worth0_step (c := c) hr (a := (standP f.acts).shown) h3
          have b2 := worth0_mono (c := c) hr (a := (standP f.acts).shown) (b := (standP f.acts).shown + a.amt) (by omega)
          have b3 := worth0_bd (c := c) hr (standP f.acts).shown
          have b4 := worth0_bd (c := c) hr ((standP f.acts).shown + a.amt)
          have hcv := cvRight_iff.1 hr
          rw [← h2] at b1 b2 b4
          obtain ⟨fc, fa⟩ := f
          obtain ⟨bk, kd, am⟩ := a
          simp only at *
          subst hk
          generalize fa ++ [(⟨bk, 2, am⟩ : Act)] = fb at *
          generalize standP fa = s at *
          generalize standP fb = t at *
          obtain ⟨s1, s2, s3, s4, s5, s6⟩ := s
          obtain ⟨t1, t2, t3, t4, t5, t6⟩ := t
          simp only at *
          generalize worth0 c s2 = ws at *
          generalize worth0 c t2 = wt at *
          generalize (if t6 = true then worth0 c t1 - wt else 0) = rt at *
          generalize (if s6 = true then worth0 c s1 - ws else 0) = rs at *
          have e1 : IntKind.i64.wrap (wt - ws) = wt - ws := by rw [wrap_id] <;> omega
          have e2 : IntKind.i64.wrap (s2 + am) = t2 := by rw [wrap_id] <;> omega
          have c1 : (ws ≤ wt) = True := eq_true b2
          have c2 : (wt - ws ≤ am) = True := eq_true (by omega)
          (repeat' (first | (with_reducible exact trivial) | ((with_reducible apply byE); simp only [go_sem, ↓reduceIte, e1, e2, c1, c2, decide_eq_true (of_eq_true c1), decide_eq_true (of_eq_true c2), Int.reduceEq, Int.toNat_zero, List.getElem?_cons_zero, Option.getD_some]; try with_reducible rfl) | (with_reducible first | apply Aa | apply As | apply Au | apply Av | apply Aj | apply At | apply Aw | apply Ab | apply Ac | apply Ad | apply Ae | apply Af | apply Ag | apply Ah | apply Ai | apply Ak | apply Al) | ((with_reducible first | apply An | apply Ao); (case hs => rfl)) | (with_reducible first | apply Am | apply Ap | apply Aq | apply Ar | apply Ax | apply Ay | apply Az | apply Ba | apply Bb | apply Bc | apply Bd | apply Be | apply Ca | apply Cb | apply Cc | apply Cd | apply Ce | apply Cf | apply Cg | apply Ch | apply Ci | apply Bf | apply Cj | apply Ck | apply Cl | apply Cm | apply Cn | apply Co | apply Cp) | ((with_reducible apply byR); rfl) | ((with_reducible first | apply byKt | apply byKs); kernel_rfl) | ((with_reducible apply byL); simp only [econs, List.map_cons, List.map_nil, List.cons_append, List.nil_append, OpS.nm, OpS.reads, OpS.turns, Nat.reduceAdd]; try rfl) | ((with_reducible apply byG); intro hg; try simp only [hg]) | ((with_reducible apply byQ); intro hq; try simp only [hqs] at hq; try (exfalso; omega)) | ((with_reducible apply byI); intro K hK) | ((with_reducible apply byH); repeat (first | (with_reducible exact dst_z rfl) | (with_reducible apply dst_s))) | ((with_reducible apply byN); unfold NapOK; kernel_rfl) | ((with_reducible apply byD); first | (simp; done) | (simp [go_sem]; done)) | (with_reducible refine hK _ _ ?_; clear hK; clear K) | omega | ((with_reducible apply callFX [1008] cl15 (q1)); (case hy | hl | hk => (simp only [go_sem, ↓reduceIte]; try rfl)); (case hz => (simp [go_sem, fzo, e1, e2, c1, c2, decide_eq_true (of_eq_true c1), decide_eq_true (of_eq_true c2), Int.reduceEq, Int.toNat_zero, List.getElem?_cons_zero, Option.getD_some]; done))) | ((with_reducible apply callX cl27 (q4)); (case hl => rfl)) | ((with_reducible apply callFX [3016] cl22 (q2)); (case hy | hl | hk => (simp only [go_sem, ↓reduceIte]; try rfl)); (case hz => (simp [go_sem, fzo, e1, e2, c1, c2, decide_eq_true (of_eq_true c1), decide_eq_true (of_eq_true c2), Int.reduceEq, Int.toNat_zero, List.getElem?_cons_zero, Option.getD_some]; done))) | ((with_reducible apply callFX [4016] cl22 (q3)); (case hy | hl | hk => (simp only [go_sem, ↓reduceIte]; try rfl)); (case hz => (simp [go_sem, fzo, e1, e2, c1, c2, decide_eq_true (of_eq_true c1), decide_eq_true (of_eq_true c2), Int.reduceEq, Int.toNat_zero, List.getElem?_cons_zero, Option.getD_some]; done))) | ((with_reducible apply callX cl16 (alive_f)); (case hl => rfl)) | contradiction))
        · obtain ⟨fc, fa⟩ := f
          obtain ⟨bk, kd, am⟩ := a
          simp only at hk
          subst hk
          rw [put_0 hp] at q3
          rw [put_0 hp, hp] at q4
          simp only at q3 q4
          (repeat' (first | (with_reducible exact trivial) | ((with_reducible apply byE); simp only [go_sem, ↓reduceIte, eq_false h0, decide_eq_false h0, Int.reduceEq, Int.toNat_zero, List.getElem?_cons_zero, Option.getD_some]; try with_reducible rfl) | (with_reducible first | apply Aa | apply As | apply Au | apply Av | apply Aj | apply At | apply Aw | apply Ab | apply Ac | apply Ad | apply Ae | apply Af | apply Ag | apply Ah | apply Ai | apply Ak | apply Al) | ((with_reducible first | apply An | apply Ao); (case hs => rfl)) | (with_reducible first | apply Am | apply Ap | apply Aq | apply Ar | apply Ax | apply Ay | apply Az | apply Ba | apply Bb | apply Bc | apply Bd | apply Be | apply Ca | apply Cb | apply Cc | apply Cd | apply Ce | apply Cf | apply Cg | apply Ch | apply Ci | apply Bf | apply Cj | apply Ck | apply Cl | apply Cm | apply Cn | apply Co | apply Cp) | ((with_reducible apply byR); rfl) | ((with_reducible first | apply byKt | apply byKs); kernel_rfl) | ((with_reducible apply byL); simp only [econs, List.map_cons, List.map_nil, List.cons_append, List.nil_append, OpS.nm, OpS.reads, OpS.turns, Nat.reduceAdd]; try rfl) | ((with_reducible apply byG); intro hg; try simp only [hg]) | ((with_reducible apply byQ); intro hq; try simp only [hqs] at hq; try (exfalso; omega)) | ((with_reducible apply byI); intro K hK) | ((with_reducible apply byH); repeat (first | (with_reducible exact dst_z rfl) | (with_reducible apply dst_s))) | ((with_reducible apply byN); unfold NapOK; kernel_rfl) | ((with_reducible apply byD); first | (simp; done) | (simp [go_sem]; done)) | (with_reducible refine hK _ _ ?_; clear hK; clear K) | omega | ((with_reducible apply callFX [1008] cl15 (q1)); (case hy | hl | hk => (simp only [go_sem, ↓reduceIte]; try rfl)); (case hz => (simp [go_sem, fzo, eq_false h0, decide_eq_false h0, Int.reduceEq, Int.toNat_zero, List.getElem?_cons_zero, Option.getD_some]; done))) | ((with_reducible apply callX cl27 (q4)); (case hl => rfl)) | ((with_reducible apply callFX [3016] cl22 (q2)); (case hy | hl | hk => (simp only [go_sem, ↓reduceIte]; try rfl)); (case hz => (simp [go_sem, fzo, eq_false h0, decide_eq_false h0, Int.reduceEq, Int.toNat_zero, List.getElem?_cons_zero, Option.getD_some]; done))) | ((with_reducible apply callFX [4016] cl22 (q3)); (case hy | hl | hk => (simp only [go_sem, ↓reduceIte]; try rfl)); (case hz => (simp [go_sem, fzo, eq_false h0, decide_eq_false h0, Int.reduceEq, Int.toNat_zero, List.getElem?_cons_zero, Option.getD_some]; done))) | ((with_reducible apply callX cl16 (alive_f)); (case hl => rfl)) | contradiction))
      · obtain ⟨fc, fa⟩ := f
        obtain ⟨bk, kd, am⟩ := a
        simp only at hk
        subst hk
        rw [put_1 rfl hp, zeroF] at q3
        rw [put_1 rfl hp, zeroF] at q4
        (repeat' (first | (with_reducible exact trivial) | ((with_reducible apply byE); simp only [go_sem, ↓reduceIte, eq_false hp, decide_eq_false hp, Int.reduceEq, Int.toNat_zero, List.getElem?_cons_zero, Option.getD_some]; try with_reducible rfl) | (with_reducible first | apply Aa | apply As | apply Au | apply Av | apply Aj | apply At | apply Aw | apply Ab | apply Ac | apply Ad | apply Ae | apply Af | apply Ag | apply Ah | apply Ai | apply Ak | apply Al) | ((with_reducible first | apply An | apply Ao); (case hs => rfl)) | (with_reducible first | apply Am | apply Ap | apply Aq | apply Ar | apply Ax | apply Ay | apply Az | apply Ba | apply Bb | apply Bc | apply Bd | apply Be | apply Ca | apply Cb | apply Cc | apply Cd | apply Ce | apply Cf | apply Cg | apply Ch | apply Ci | apply Bf | apply Cj | apply Ck | apply Cl | apply Cm | apply Cn | apply Co | apply Cp) | ((with_reducible apply byR); rfl) | ((with_reducible first | apply byKt | apply byKs); kernel_rfl) | ((with_reducible apply byL); simp only [econs, List.map_cons, List.map_nil, List.cons_append, List.nil_append, OpS.nm, OpS.reads, OpS.turns, Nat.reduceAdd]; try rfl) | ((with_reducible apply byG); intro hg; try simp only [hg]) | ((with_reducible apply byQ); intro hq; try simp only [hqs] at hq; try (exfalso; omega)) | ((with_reducible apply byI); intro K hK) | ((with_reducible apply byH); repeat (first | (with_reducible exact dst_z rfl) | (with_reducible apply dst_s))) | ((with_reducible apply byN); unfold NapOK; kernel_rfl) | ((with_reducible apply byD); first | (simp; done) | (simp [go_sem]; done)) | (with_reducible refine hK _ _ ?_; clear hK; clear K) | omega | ((with_reducible apply callFX [1008] cl15 (q1)); (case hy | hl | hk => (simp only [go_sem, ↓reduceIte]; try rfl)); (case hz => (simp [go_sem, fzo, eq_false hp, decide_eq_false hp, Int.reduceEq, Int.toNat_zero, List.getElem?_cons_zero, Option.getD_some]; done))) | ((with_reducible apply callX cl27 (q4)); (case hl => rfl)) | ((with_reducible apply callFX [3016] cl22 (q2)); (case hy | hl | hk => (simp only [go_sem, ↓reduceIte]; try rfl)); (case hz => (simp [go_sem, fzo, eq_false hp, decide_eq_false hp, Int.reduceEq, Int.toNat_zero, List.getElem?_cons_zero, Option.getD_some]; done))) | ((with_reducible apply callFX [4016] cl22 (q3)); (case hy | hl | hk => (simp only [go_sem, ↓reduceIte]; try rfl)); (case hz => (simp [go_sem, fzo, eq_false hp, decide_eq_false hp, Int.reduceEq, Int.toNat_zero, List.getElem?_cons_zero, Option.getD_some]; done))) | ((with_reducible apply callX cl16 (alive_f)); (case hl => rfl)) | contradiction))
    · obtain ⟨fc, fa⟩ := f
      obtain ⟨bk, kd, am⟩ := a
      simp only at hk
      refine fun_W mixed Try.func8 rfl (Nat.le_of_ble_eq_true rfl) (by kernel_rfl) fun cx hN hR hF hL => ?_; apply args_k; (case hA => (simp only [go_sem, ↓reduceIte]; rfl))
      (repeat' (first | (with_reducible exact trivial) | ((with_reducible apply byE); simp only [go_sem, ↓reduceIte, eq_false hk, decide_eq_false hk]; try with_reducible rfl) | (with_reducible first | apply Aa | apply As | apply Au | apply Av | apply Aj | apply At | apply Aw | apply Ab | apply Ac | apply Ad | apply Ae | apply Af | apply Ag | apply Ah | apply Ai | apply Ak | apply Al) | ((with_reducible first | apply An | apply Ao); (case hs => rfl)) | (with_reducible first | apply Am | apply Ap | apply Aq | apply Ar | apply Ax | apply Ay | apply Az | apply Ba | apply Bb | apply Bc | apply Bd | apply Be | apply Ca | apply Cb | apply Cc | apply Cd | apply Ce | apply Cf | apply Cg | apply Ch | apply Ci | apply Bf | apply Cj | apply Ck | apply Cl | apply Cm | apply Cn | apply Co | apply Cp) | ((with_reducible apply byR); rfl) | ((with_reducible first | apply byKt | apply byKs); kernel_rfl) | ((with_reducible apply byL); simp only [econs, List.map_cons, List.map_nil, List.cons_append, List.nil_append, OpS.nm, OpS.reads, OpS.turns, Nat.reduceAdd]; try rfl) | ((with_reducible apply byG); intro hg; try simp only [hg]) | ((with_reducible apply byQ); intro hq; try simp only [hqs] at hq; try (exfalso; omega)) | ((with_reducible apply byI); intro K hK) | ((with_reducible apply byH); repeat (first | (with_reducible exact dst_z rfl) | (with_reducible apply dst_s))) | ((with_reducible apply byN); unfold NapOK; kernel_rfl) | ((with_reducible apply byD); first | (simp; done) | (simp [go_sem]; done)) | (with_reducible refine hK _ _ ?_; clear hK; clear K) | omega | ((with_reducible apply callFX [1008] cl15 (q1)); (case hy | hl | hk => (simp only [go_sem, ↓reduceIte]; try rfl)); (case hz => (simp [go_sem, fzo, eq_false hk, decide_eq_false hk]; done))) | ((with_reducible apply callX cl16 (alive_f)); (case hl => rfl)) | contradiction))
  · simp only [Bool.not_eq_true] at hf
    rw [hf] at q1
    obtain ⟨fc, fa⟩ := f
    obtain ⟨bk, kd, am⟩ := a
    refine fun_W mixed Try.func8 rfl (Nat.le_of_ble_eq_true rfl) (by kernel_rfl) fun cx hN hR hF hL => ?_; apply args_k; (case hA => (simp only [go_sem, ↓reduceIte]; rfl))
    (repeat' (first | (with_reducible exact trivial) | ((with_reducible apply byE); simp only [go_sem, ↓reduceIte]; try with_reducible rfl) | (with_reducible first | apply Aa | apply As | apply Au | apply Av | apply Aj | apply At | apply Aw | apply Ab | apply Ac | apply Ad | apply Ae | apply Af | apply Ag | apply Ah | apply Ai | apply Ak | apply Al) | ((with_reducible first | apply An | apply Ao); (case hs => rfl)) | (with_reducible first | apply Am | apply Ap | apply Aq | apply Ar | apply Ax | apply Ay | apply Az | apply Ba | apply Bb | apply Bc | apply Bd | apply Be | apply Ca | apply Cb | apply Cc | apply Cd | apply Ce | apply Cf | apply Cg | apply Ch | apply Ci | apply Bf | apply Cj | apply Ck | apply Cl | apply Cm | apply Cn | apply Co | apply Cp) | ((with_reducible apply byR); rfl) | ((with_reducible first | apply byKt | apply byKs); kernel_rfl) | ((with_reducible apply byL); simp only [econs, List.map_cons, List.map_nil, List.cons_append, List.nil_append, OpS.nm, OpS.reads, OpS.turns, Nat.reduceAdd]; try rfl) | ((with_reducible apply byG); intro hg; try simp only [hg]) | ((with_reducible apply byQ); intro hq; try simp only [hqs] at hq; try (exfalso; omega)) | ((with_reducible apply byI); intro K hK) | ((with_reducible apply byH); repeat (first | (with_reducible exact dst_z rfl) | (with_reducible apply dst_s))) | ((with_reducible apply byN); unfold NapOK; kernel_rfl) | ((with_reducible apply byD); first | (simp; done) | (simp [go_sem]; done)) | (with_reducible refine hK _ _ ?_; clear hK; clear K) | omega | ((with_reducible apply callFX [1008] cl15 (q1)); (case hy | hl | hk => (simp only [go_sem, ↓reduceIte]; try rfl)); (case hz => (simp [go_sem, fzo]; done))) | ((with_reducible apply callX cl16 (alive_f)); (case hl => rfl)) | contradiction))
end Go.Proofs.Ytjplhfmakghabaa.V
