/- Laws of chapter 19: Most. -/
-- STEPS: new
import Derived.Test.YtjplhfmakghabaaM4
set_option linter.unusedSimpArgs false
set_option linter.unusedVariables false
namespace Go.Proofs.Ytjplhfmakghabaa.V
open Go.RowKit
set_option maxRecDepth 100000
attribute [local go_sem] Option.toList_some Option.toList_none

theorem sumPR_take {P : List Pos} {i : Nat} {p : Pos} (h : P[i]? = some p) : sumPR (P.take (i + 1)) = sumPR (P.take i) + (p.paid + p.reserve) := by
  rw [List.take_add_one, h]
  simp [sumPR]
theorem sumPR_nn : ∀ {P : List Pos}, (∀ p, p ∈ P → 0 ≤ p.paid ∧ 0 ≤ p.reserve) → 0 ≤ sumPR P
  | [], _ => Int.le_refl _
  | p :: P, h => by
    have h1 := h p (by simp)
    have h2 := sumPR_nn (P := P) fun q hq => h q (by simp [hq])
    unfold sumPR at *
    rw [List.map_cons, List.sum_cons]
    omega
theorem sumPR_le {P : List Pos} (h : ∀ p, p ∈ P → 0 ≤ p.paid ∧ 0 ≤ p.reserve) (i : Nat) : 0 ≤ sumPR (P.take i) ∧ sumPR (P.take i) ≤ sumPR P := by
  have h1 := sumPR_nn (P := P.take i) fun p hp => h p (List.mem_of_mem_take hp)
  have h2 := sumPR_nn (P := P.drop i) fun p hp => h p (List.mem_of_mem_drop hp)
  have h3 : sumPR P = sumPR (P.take i) + sumPR (P.drop i) := by
    conv => lhs; rw [← List.take_append_drop i P]
    rw [sumPR, List.map_append, List.sum_append]
    rfl
  omega
/-- What positions say. -/
theorem of_bd {c : Cover} {l : List File} (he : checkE c l = 0) {p : Pos} (h : p ∈ ofL c l) : 0 ≤ p.paid ∧ 0 ≤ p.reserve ∧ p.paid + p.reserve ≤ worth0 c p.gross ∧ p.shown ≤ p.gross ∧ 0 ≤ p.gross ∧ p.gross ≤ 1000000000000000 ∧ (p.opn = false → p.reserve = 0) := by
  obtain ⟨k, hk⟩ := List.mem_iff_getElem?.1 h
  have hkl := (List.getElem?_eq_some_iff.1 hk).1
  rw [ofL_len he] at hkl
  have e0 : l[k]? = some l[k] := List.getElem?_eq_getElem hkl
  obtain ⟨r, h1, h2, h3, h4, -⟩ := of_file he e0
  have h5 := paid_file he e0
  rw [h1] at hk
  injection hk with hk
  subst hk
  exact ⟨h5.1, h2, h3, h5.2.2.1, by simp only; omega, h5.2.2.2.2, h4⟩
set_option maxHeartbeats 4000000 in
theorem mostLaw (c : Cover) (l : List File) (hc : c.ok) : Fun Try.prog 5 [.agg c.flat, filesA l] (bool true) := by
  by_cases hf : fewB l = true
  · have hl := few_len hf
    have k1 := aof_f c l hc (by omega)
    by_cases he : checkE c l = 0
    · have hb := fun p hp => of_bd he (p := p) hp
      have hs := of_sum he
      have hn := ofL_len he
      have hr : c.rightB = true := by have := (chk_right he).1; rw [adjRight, Bool.and_eq_true] at this; exact this.1
      have hcv := cvRight_iff.1 hr
      have hsp := sumPR_le (P := ofL c l) fun p hp => ⟨(hb p hp).1, (hb p hp).2.1⟩
      rw [he] at k1
      generalize ofL c l = A at *
      have hlA : ((A.length : Int) = (l.length : Int)) = True := by simp [hn]
      refine fun_W mixed Try.func5 rfl (Nat.le_of_ble_eq_true rfl) (by kernel_rfl) fun cx hN hR hF hL => ?_; apply args_k; (case hA => (simp only [go_sem, ↓reduceIte]; rfl))
      (repeat' (first | (with_reducible exact trivial) | ((with_reducible apply byE); simp only [go_sem, ↓reduceIte, hf]; try with_reducible rfl) | (with_reducible first | apply Aa | apply As | apply Au | apply Av | apply Aj | apply At | apply Aw | apply Ab | apply Ac | apply Ad | apply Ae | apply Af | apply Ag | apply Ah | apply Ai | apply Ak | apply Al) | ((with_reducible first | apply An | apply Ao); (case hs => rfl)) | (with_reducible first | apply Am | apply Ap | apply Aq | apply Ar | apply Ax | apply Ay | apply Az | apply Ba | apply Bb | apply Bc | apply Bd | apply Be | apply Ca | apply Cb | apply Cc | apply Cd | apply Ce | apply Cf | apply Cg | apply Ch | apply Ci | apply Bf | apply Cj | apply Ck | apply Cl | apply Cm | apply Cn | apply Co | apply Cp) | ((with_reducible apply byR); rfl) | ((with_reducible first | apply byKt | apply byKs); kernel_rfl) | ((with_reducible apply byL); simp only [econs, List.map_cons, List.map_nil, List.cons_append, List.nil_append, OpS.nm, OpS.reads, OpS.turns, Nat.reduceAdd]; try rfl) | ((with_reducible apply byG); intro hg; try simp only [hg]) | ((with_reducible apply byQ); intro hq; try simp only [hqs] at hq; try (exfalso; omega)) | ((with_reducible apply byI); intro K hK) | ((with_reducible apply byH); repeat (first | (with_reducible exact dst_z rfl) | (with_reducible apply dst_s))) | ((with_reducible apply byN); unfold NapOK; kernel_rfl) | ((with_reducible apply byD); first | (simp; done) | (simp [go_sem]; done)) | (with_reducible refine hK _ _ ?_; clear hK; clear K) | omega | ((with_reducible apply callX cl15 (few_f l)); (case hl => rfl)) | ((with_reducible apply callX cl22 (k1)); (case hl => rfl)) | contradiction))
      refine loopW mixed (σ := {i : Nat // i ≤ A.length}) (fun s => ⟨[(30, int s.1), (7, int (sumPR (A.take s.1))), (28, possA A), (29, int A.length), (5, possA A), (1, filesA l), (2, .ptr 0 0)], [(0, some ⟨23, c.flat⟩)], 6000⟩) (fun s => A.length - s.1) id ⟨0, by omega⟩ (by rw [hN]; kernel_rfl) ?_ ?_
      · simp only [go_sem, ↓reduceIte, hF]
        exact ⟨rfl, rfl⟩
      · rintro ⟨i, h1⟩
        by_cases hi : i < A.length
        · have e0 : A[i]? = some A[i] := List.getElem?_eq_getElem hi
          have e1 : (A.map Pos.flat)[i]? = some A[i].flat := by rw [List.getElem?_map, e0]; rfl
          have e2 : IntKind.i64.wrap ((i : Int) + 1) = ((i + 1 : Nat) : Int) := by rw [wrap_id] <;> omega
          have hk1 : i < (A.map Pos.flat).length := by simpa using hi
          have q := hb _ (List.getElem_mem hi)
          have t1 := sumPR_take e0
          have t2 := hsp i
          have t3 := hsp (i + 1)
          generalize A[i] = p at *
          have hpy := pays_f c p.gross 0 hc (by unfold Int64; omega) (by unfold Int64; omega)
          rw [pays_zero hr q.2.2.2.2.1] at hpy
          have hw := worth0_bd (c := c) hr p.gross
          generalize worth0 c p.gross = wg at *
          obtain ⟨p1, p2, p3, p4, p5, p6⟩ := p
          simp only at q t1 hpy hw
          have m1 : max p1 p2 = p1 := by omega
          have w1 : IntKind.i64.wrap (p3 + p5) = p3 + p5 := by rw [wrap_id] <;> omega
          have w2 : IntKind.i64.wrap (sumPR (A.take i) + (p3 + p5)) = sumPR (A.take i) + (p3 + p5) := by rw [wrap_id] <;> omega
          have c1 : (p3 < 0) = False := eq_false (by omega)
          have c2 : (p5 < 0) = False := eq_false (by omega)
          have c3 : (wg < p3 + p5) = False := eq_false (by omega)
          cases p6 with
          | true =>
            (repeat' (first | (with_reducible exact trivial) | ((with_reducible apply byE); simp only [go_sem, ↓reduceIte, e1, e2, hk1, m1, w1, w2, c1, c2, c3, decide_eq_false (of_eq_false c1), decide_eq_false (of_eq_false c2), decide_eq_false (of_eq_false c3)]; try with_reducible rfl) | (with_reducible first | apply Aa | apply As | apply Au | apply Av | apply Aj | apply At | apply Aw | apply Ab | apply Ac | apply Ad | apply Ae | apply Af | apply Ag | apply Ah | apply Ai | apply Ak | apply Al) | ((with_reducible first | apply An | apply Ao); (case hs => rfl)) | (with_reducible first | apply Am | apply Ap | apply Aq | apply Ar | apply Ax | apply Ay | apply Az | apply Ba | apply Bb | apply Bc | apply Bd | apply Be | apply Ca | apply Cb | apply Cc | apply Cd | apply Ce | apply Cf | apply Cg | apply Ch | apply Ci | apply Bf | apply Cj | apply Ck | apply Cl | apply Cm | apply Cn | apply Co | apply Cp) | ((with_reducible apply byR); rfl) | ((with_reducible first | apply byKt | apply byKs); kernel_rfl) | ((with_reducible apply byL); simp only [econs, List.map_cons, List.map_nil, List.cons_append, List.nil_append, OpS.nm, OpS.reads, OpS.turns, Nat.reduceAdd]; try rfl) | ((with_reducible apply byG); intro hg; try simp only [hg]) | ((with_reducible apply byQ); intro hq; try simp only [hqs] at hq; try (exfalso; omega)) | ((with_reducible apply byI); intro K hK) | ((with_reducible apply byH); repeat (first | (with_reducible exact dst_z rfl) | (with_reducible apply dst_s))) | ((with_reducible apply byN); unfold NapOK; kernel_rfl) | ((with_reducible apply byD); first | (simp; done) | (simp [go_sem]; done)) | (with_reducible refine hK _ _ ?_; clear hK; clear K) | omega | ((with_reducible apply callX cl25 (hpy)); (case hl => rfl)) | contradiction))
            refine ⟨⟨i + 1, hi⟩, id, ?_, by show A.length - (i + 1) < A.length - i; omega⟩
            simp only [t1]
            simp only [go_sem, ↓reduceIte, hF]
          | false =>
            have c4 : (0 < p5) = False := eq_false (by have := q.2.2.2.2.2.2 rfl; omega)
            (repeat' (first | (with_reducible exact trivial) | ((with_reducible apply byE); simp only [go_sem, ↓reduceIte, e1, e2, hk1, m1, w1, w2, c1, c2, c3, c4, decide_eq_false (of_eq_false c1), decide_eq_false (of_eq_false c2), decide_eq_false (of_eq_false c3), decide_eq_false (of_eq_false c4)]; try with_reducible rfl) | (with_reducible first | apply Aa | apply As | apply Au | apply Av | apply Aj | apply At | apply Aw | apply Ab | apply Ac | apply Ad | apply Ae | apply Af | apply Ag | apply Ah | apply Ai | apply Ak | apply Al) | ((with_reducible first | apply An | apply Ao); (case hs => rfl)) | (with_reducible first | apply Am | apply Ap | apply Aq | apply Ar | apply Ax | apply Ay | apply Az | apply Ba | apply Bb | apply Bc | apply Bd | apply Be | apply Ca | apply Cb | apply Cc | apply Cd | apply Ce | apply Cf | apply Cg | apply Ch | apply Ci | apply Bf | apply Cj | apply Ck | apply Cl | apply Cm | apply Cn | apply Co | apply Cp) | ((with_reducible apply byR); rfl) | ((with_reducible first | apply byKt | apply byKs); kernel_rfl) | ((with_reducible apply byL); simp only [econs, List.map_cons, List.map_nil, List.cons_append, List.nil_append, OpS.nm, OpS.reads, OpS.turns, Nat.reduceAdd]; try rfl) | ((with_reducible apply byG); intro hg; try simp only [hg]) | ((with_reducible apply byQ); intro hq; try simp only [hqs] at hq; try (exfalso; omega)) | ((with_reducible apply byI); intro K hK) | ((with_reducible apply byH); repeat (first | (with_reducible exact dst_z rfl) | (with_reducible apply dst_s))) | ((with_reducible apply byN); unfold NapOK; kernel_rfl) | ((with_reducible apply byD); first | (simp; done) | (simp [go_sem]; done)) | (with_reducible refine hK _ _ ?_; clear hK; clear K) | omega | ((with_reducible apply callX cl25 (hpy)); (case hl => rfl)) | contradiction))
            refine ⟨⟨i + 1, hi⟩, id, ?_, by show A.length - (i + 1) < A.length - i; omega⟩
            simp only [t1]
            simp only [go_sem, ↓reduceIte, hF]
        · obtain rfl : i = A.length := by omega
          simp only [List.take_length]
          have c5 : (sumPR A ≤ c.agg) = True := eq_true hs
          (repeat' (first | (with_reducible exact trivial) | ((with_reducible apply byE); simp only [go_sem, ↓reduceIte, c5, decide_eq_true (of_eq_true c5), hlA, decide_eq_true (of_eq_true hlA)]; try with_reducible rfl) | (with_reducible first | apply Aa | apply As | apply Au | apply Av | apply Aj | apply At | apply Aw | apply Ab | apply Ac | apply Ad | apply Ae | apply Af | apply Ag | apply Ah | apply Ai | apply Ak | apply Al) | ((with_reducible first | apply An | apply Ao); (case hs => rfl)) | (with_reducible first | apply Am | apply Ap | apply Aq | apply Ar | apply Ax | apply Ay | apply Az | apply Ba | apply Bb | apply Bc | apply Bd | apply Be | apply Ca | apply Cb | apply Cc | apply Cd | apply Ce | apply Cf | apply Cg | apply Ch | apply Ci | apply Bf | apply Cj | apply Ck | apply Cl | apply Cm | apply Cn | apply Co | apply Cp) | ((with_reducible apply byR); rfl) | ((with_reducible first | apply byKt | apply byKs); kernel_rfl) | ((with_reducible apply byL); simp only [econs, List.map_cons, List.map_nil, List.cons_append, List.nil_append, OpS.nm, OpS.reads, OpS.turns, Nat.reduceAdd]; try rfl) | ((with_reducible apply byG); intro hg; try simp only [hg]) | ((with_reducible apply byQ); intro hq; try simp only [hqs] at hq; try (exfalso; omega)) | ((with_reducible apply byI); intro K hK) | ((with_reducible apply byH); repeat (first | (with_reducible exact dst_z rfl) | (with_reducible apply dst_s))) | ((with_reducible apply byN); unfold NapOK; kernel_rfl) | ((with_reducible apply byD); first | (simp; done) | (simp [go_sem]; done)) | (with_reducible refine hK _ _ ?_; clear hK; clear K) | omega | ((with_reducible apply callX cl16 (alive_f)); (case hl => rfl)) | contradiction))
    · have hof : ofL c l = [] := by rw [ofL, if_neg he]
      rw [hof] at k1
      refine fun_W mixed Try.func5 rfl (Nat.le_of_ble_eq_true rfl) (by kernel_rfl) fun cx hN hR hF hL => ?_; apply args_k; (case hA => (simp only [go_sem, ↓reduceIte]; rfl))
      (repeat' (first | (with_reducible exact trivial) | ((with_reducible apply byE); simp only [go_sem, ↓reduceIte, hf, eq_false he, decide_eq_false he]; try with_reducible rfl) | (with_reducible first | apply Aa | apply As | apply Au | apply Av | apply Aj | apply At | apply Aw | apply Ab | apply Ac | apply Ad | apply Ae | apply Af | apply Ag | apply Ah | apply Ai | apply Ak | apply Al) | ((with_reducible first | apply An | apply Ao); (case hs => rfl)) | (with_reducible first | apply Am | apply Ap | apply Aq | apply Ar | apply Ax | apply Ay | apply Az | apply Ba | apply Bb | apply Bc | apply Bd | apply Be | apply Ca | apply Cb | apply Cc | apply Cd | apply Ce | apply Cf | apply Cg | apply Ch | apply Ci | apply Bf | apply Cj | apply Ck | apply Cl | apply Cm | apply Cn | apply Co | apply Cp) | ((with_reducible apply byR); rfl) | ((with_reducible first | apply byKt | apply byKs); kernel_rfl) | ((with_reducible apply byL); simp only [econs, List.map_cons, List.map_nil, List.cons_append, List.nil_append, OpS.nm, OpS.reads, OpS.turns, Nat.reduceAdd]; try rfl) | ((with_reducible apply byG); intro hg; try simp only [hg]) | ((with_reducible apply byQ); intro hq; try simp only [hqs] at hq; try (exfalso; omega)) | ((with_reducible apply byI); intro K hK) | ((with_reducible apply byH); repeat (first | (with_reducible exact dst_z rfl) | (with_reducible apply dst_s))) | ((with_reducible apply byN); unfold NapOK; kernel_rfl) | ((with_reducible apply byD); first | (simp; done) | (simp [go_sem]; done)) | (with_reducible refine hK _ _ ?_; clear hK; clear K) | omega | ((with_reducible apply callX cl15 (few_f l)); (case hl => rfl)) | ((with_reducible apply callX cl22 (k1)); (case hl => rfl)) | ((with_reducible apply callX cl16 (alive_f)); (case hl => rfl)) | contradiction))
      rfl
  · simp only [Bool.not_eq_true] at hf
    refine fun_W mixed Try.func5 rfl (Nat.le_of_ble_eq_true rfl) (by kernel_rfl) fun cx hN hR hF hL => ?_; apply args_k; (case hA => (simp only [go_sem, ↓reduceIte]; rfl))
    (repeat' (first | (with_reducible exact trivial) | ((with_reducible apply byE); simp only [go_sem, ↓reduceIte, hf]; try with_reducible rfl) | (with_reducible first | apply Aa | apply As | apply Au | apply Av | apply Aj | apply At | apply Aw | apply Ab | apply Ac | apply Ad | apply Ae | apply Af | apply Ag | apply Ah | apply Ai | apply Ak | apply Al) | ((with_reducible first | apply An | apply Ao); (case hs => rfl)) | (with_reducible first | apply Am | apply Ap | apply Aq | apply Ar | apply Ax | apply Ay | apply Az | apply Ba | apply Bb | apply Bc | apply Bd | apply Be | apply Ca | apply Cb | apply Cc | apply Cd | apply Ce | apply Cf | apply Cg | apply Ch | apply Ci | apply Bf | apply Cj | apply Ck | apply Cl | apply Cm | apply Cn | apply Co | apply Cp) | ((with_reducible apply byR); rfl) | ((with_reducible first | apply byKt | apply byKs); kernel_rfl) | ((with_reducible apply byL); simp only [econs, List.map_cons, List.map_nil, List.cons_append, List.nil_append, OpS.nm, OpS.reads, OpS.turns, Nat.reduceAdd]; try rfl) | ((with_reducible apply byG); intro hg; try simp only [hg]) | ((with_reducible apply byQ); intro hq; try simp only [hqs] at hq; try (exfalso; omega)) | ((with_reducible apply byI); intro K hK) | ((with_reducible apply byH); repeat (first | (with_reducible exact dst_z rfl) | (with_reducible apply dst_s))) | ((with_reducible apply byN); unfold NapOK; kernel_rfl) | ((with_reducible apply byD); first | (simp; done) | (simp [go_sem]; done)) | (with_reducible refine hK _ _ ?_; clear hK; clear K) | omega | ((with_reducible apply callX cl15 (few_f l)); (case hl => rfl)) | ((with_reducible apply callX cl16 (alive_f)); (case hl => rfl)) | contradiction))
end Go.Proofs.Ytjplhfmakghabaa.V
