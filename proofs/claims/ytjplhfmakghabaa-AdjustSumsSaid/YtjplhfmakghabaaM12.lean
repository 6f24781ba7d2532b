/- Laws of chapter 19: Sums. -/
-- STEPS: new
import Derived.Test.YtjplhfmakghabaaM4
set_option linter.unusedSimpArgs false
set_option linter.unusedVariables false
namespace Go.Proofs.Ytjplhfmakghabaa.V
open Go.RowKit
set_option maxRecDepth 100000
attribute [local go_sem] Option.toList_some Option.toList_none

def sumsL (R : List (Int × Int × Int)) (n : Nat) : List Int := (List.range n).map fun k => paidK R k
theorem sumsL_len (R : List (Int × Int × Int)) (n : Nat) : (sumsL R n).length = n := by simp [sumsL]
theorem sumsL_get {R : List (Int × Int × Int)} {n k : Nat} (h : k < n) : (sumsL R n)[k]? = some (paidK R k) := by simp [sumsL, h]
theorem sumsL_nil (n : Nat) : sumsL [] n = List.replicate n 0 := by
  apply List.ext_getElem?
  intro k
  by_cases h : k < n
  · rw [sumsL_get h, List.getElem?_replicate, if_pos h]
    rfl
  · rw [List.getElem?_eq_none (by rw [sumsL_len]; omega), List.getElem?_eq_none (by simp; omega)]
theorem sumsL_snoc {R : List (Int × Int × Int)} {r : Int × Int × Int} {n k : Nat} (h : k < n) (hr : r.1 = (k : Int)) : sumsL (R ++ [r]) n = (sumsL R n).set k (paidK R k + r.2.2) := by
  apply List.ext_getElem?
  intro j
  rw [List.getElem?_set, sumsL_len]
  by_cases hj : j < n
  · rw [sumsL_get hj, paidK_snoc]
    by_cases hkj : k = j
    · subst hkj
      rw [if_pos hr, if_pos rfl, if_pos h]
    · rw [if_neg (by omega), if_neg hkj, sumsL_get hj, Int.add_zero]
  · rw [List.getElem?_eq_none (by rw [sumsL_len]; omega), if_neg (by omega), List.getElem?_eq_none (by rw [sumsL_len]; omega)]
set_option maxHeartbeats 8000000 in
theorem sumsLaw (c : Cover) (l : List File) (hc : c.ok) : Fun Try.prog 7 [.agg c.flat, filesA l] (bool true) := by
  by_cases hf : fewB l = true
  · have hl := few_len hf
    have k1 := paid_f c l hc (by omega)
    have k2 := aof_f c l hc (by omega)
    by_cases he : checkE c l = 0
    · have hn := ofL_len he
      have hof := fun k f (h : l[k]? = some f) => of_file he h
      obtain ⟨hR1, hR2⟩ := rows_ok he
      have hdy := paid_days he
      have hbd := paid_bds (R := paidR c l) fun r hr => by obtain ⟨_, _, _, h, _⟩ := hR2 r hr; omega
      have hal := paid_all he
      have hcv := cvRight_iff.1 (by have := (chk_right he).1; rw [adjRight, Bool.and_eq_true] at this; exact this.1 : c.rightB = true)
      rw [he] at k1 k2
      rcases Nat.eq_zero_or_pos l.length with h0 | h0
      · obtain rfl := List.length_eq_zero_iff.1 h0
        have hpr : paidR c [] = [] := by rw [paidR, if_pos he]; rfl
        have hof2 : ofL c [] = [] := List.length_eq_zero_iff.1 hn
        rw [hpr] at k1
        rw [hof2] at k2
        refine fun_W mixed Try.func7 rfl (Nat.le_of_ble_eq_true rfl) (by kernel_rfl) fun cx hN hR hF hL => ?_; apply args_k; (case hA => (simp only [go_sem, ↓reduceIte]; rfl))
        (repeat' (first | (with_reducible exact trivial) | ((with_reducible apply byE); simp only [go_sem, ↓reduceIte, hf]; try with_reducible rfl) | (with_reducible first | apply Aa | apply As | apply Au | apply Av | apply Aj | apply At | apply Aw | apply Ab | apply Ac | apply Ad | apply Ae | apply Af | apply Ag | apply Ah | apply Ai | apply Ak | apply Al) | (with_reducible apply rounds_s) | ((with_reducible first | apply An | apply Ao); (case hs => rfl)) | (with_reducible first | apply Am | apply Ap | apply Aq | apply Ar | apply Ax | apply Ay | apply Az | apply Ba | apply Bb | apply Bc | apply Bd | apply Be | apply Ca | apply Cb | apply Cc | apply Cd | apply Ce | apply Cf | apply Cg | apply Ch | apply Ci | apply Bf | apply Cj | apply Ck | apply Cl | apply Cm | apply Cn | apply Co | apply Cp) | ((with_reducible apply byR); rfl) | ((with_reducible first | apply byKt | apply byKs); kernel_rfl) | ((with_reducible apply byL); simp only [econs, List.map_cons, List.map_nil, List.cons_append, List.nil_append, OpS.nm, OpS.reads, OpS.turns, Nat.reduceAdd]; try rfl) | ((with_reducible apply byG); intro hg; try simp only [hg]) | ((with_reducible apply byQ); intro hq; try simp only [hqs] at hq; try (exfalso; omega)) | ((with_reducible apply byI); intro K hK) | ((with_reducible apply byH); repeat (first | (with_reducible exact dst_z rfl) | (with_reducible apply dst_s))) | ((with_reducible apply byN); unfold NapOK; kernel_rfl) | ((with_reducible apply byD); first | (simp; done) | (simp [go_sem]; done)) | (with_reducible refine hK _ _ ?_; clear hK; clear K) | omega | ((with_reducible apply callX cl15 (few_f [])); (case hl => rfl)) | ((with_reducible apply callX cl17 (k1)); (case hl => rfl)) | ((with_reducible apply callX cl22 (k2)); (case hl => rfl)) | contradiction))
        refine loop_rounds mixed 1 (by rw [hN]; kernel_rfl) ?_
        (repeat' (first | (with_reducible exact trivial) | ((with_reducible apply byE); simp only [go_sem, ↓reduceIte]; try with_reducible rfl) | (with_reducible first | apply Aa | apply As | apply Au | apply Av | apply Aj | apply At | apply Aw | apply Ab | apply Ac | apply Ad | apply Ae | apply Af | apply Ag | apply Ah | apply Ai | apply Ak | apply Al) | (with_reducible apply rounds_s) | ((with_reducible first | apply An | apply Ao); (case hs => rfl)) | (with_reducible first | apply Am | apply Ap | apply Aq | apply Ar | apply Ax | apply Ay | apply Az | apply Ba | apply Bb | apply Bc | apply Bd | apply Be | apply Ca | apply Cb | apply Cc | apply Cd | apply Ce | apply Cf | apply Cg | apply Ch | apply Ci | apply Bf | apply Cj | apply Ck | apply Cl | apply Cm | apply Cn | apply Co | apply Cp) | ((with_reducible apply byR); rfl) | ((with_reducible first | apply byKt | apply byKs); kernel_rfl) | ((with_reducible apply byL); simp only [econs, List.map_cons, List.map_nil, List.cons_append, List.nil_append, OpS.nm, OpS.reads, OpS.turns, Nat.reduceAdd]; try rfl) | ((with_reducible apply byG); intro hg; try simp only [hg]) | ((with_reducible apply byQ); intro hq; try simp only [hqs] at hq; try (exfalso; omega)) | ((with_reducible apply byI); intro K hK) | ((with_reducible apply byH); repeat (first | (with_reducible exact dst_z rfl) | (with_reducible apply dst_s))) | ((with_reducible apply byN); unfold NapOK; kernel_rfl) | ((with_reducible apply byD); first | (simp; done) | (simp [go_sem]; done)) | (with_reducible refine hK _ _ ?_; clear hK; clear K) | omega | contradiction))
        refine loop_rounds mixed 1 (by rw [hN]; kernel_rfl) ?_
        (repeat' (first | (with_reducible exact trivial) | ((with_reducible apply byE); simp only [go_sem, ↓reduceIte]; try with_reducible rfl) | (with_reducible first | apply Aa | apply As | apply Au | apply Av | apply Aj | apply At | apply Aw | apply Ab | apply Ac | apply Ad | apply Ae | apply Af | apply Ag | apply Ah | apply Ai | apply Ak | apply Al) | (with_reducible apply rounds_s) | ((with_reducible first | apply An | apply Ao); (case hs => rfl)) | (with_reducible first | apply Am | apply Ap | apply Aq | apply Ar | apply Ax | apply Ay | apply Az | apply Ba | apply Bb | apply Bc | apply Bd | apply Be | apply Ca | apply Cb | apply Cc | apply Cd | apply Ce | apply Cf | apply Cg | apply Ch | apply Ci | apply Bf | apply Cj | apply Ck | apply Cl | apply Cm | apply Cn | apply Co | apply Cp) | ((with_reducible apply byR); rfl) | ((with_reducible first | apply byKt | apply byKs); kernel_rfl) | ((with_reducible apply byL); simp only [econs, List.map_cons, List.map_nil, List.cons_append, List.nil_append, OpS.nm, OpS.reads, OpS.turns, Nat.reduceAdd]; try rfl) | ((with_reducible apply byG); intro hg; try simp only [hg]) | ((with_reducible apply byQ); intro hq; try simp only [hqs] at hq; try (exfalso; omega)) | ((with_reducible apply byI); intro K hK) | ((with_reducible apply byH); repeat (first | (with_reducible exact dst_z rfl) | (with_reducible apply dst_s))) | ((with_reducible apply byN); unfold NapOK; kernel_rfl) | ((with_reducible apply byD); first | (simp; done) | (simp [go_sem]; done)) | (with_reducible refine hK _ _ ?_; clear hK; clear K) | omega | ((with_reducible apply callX cl16 (alive_f)); (case hl => rfl)) | contradiction))
        all_goals trace_state
      · generalize ofL c l = A at *
        generalize paidR c l = R at *
        have hlA : ((A.length : Int) = (l.length : Int)) = True := by simp [hn]
        refine fun_W mixed Try.func7 rfl (Nat.le_of_ble_eq_true rfl) (by kernel_rfl) fun cx hN hR hF hL => ?_; apply args_k; (case hA => (simp only [go_sem, ↓reduceIte]; rfl))
        (repeat' (first | (with_reducible exact trivial) | ((with_reducible apply byE); simp only [go_sem, ↓reduceIte, hf]; try with_reducible rfl) | (with_reducible first | apply Aa | apply As | apply Au | apply Av | apply Aj | apply At | apply Aw | apply Ab | apply Ac | apply Ad | apply Ae | apply Af | apply Ag | apply Ah | apply Ai | apply Ak | apply Al) | (with_reducible apply rounds_s) | ((with_reducible first | apply An | apply Ao); (case hs => rfl)) | (with_reducible first | apply Am | apply Ap | apply Aq | apply Ar | apply Ax | apply Ay | apply Az | apply Ba | apply Bb | apply Bc | apply Bd | apply Be | apply Ca | apply Cb | apply Cc | apply Cd | apply Ce | apply Cf | apply Cg | apply Ch | apply Ci | apply Bf | apply Cj | apply Ck | apply Cl | apply Cm | apply Cn | apply Co | apply Cp) | ((with_reducible apply byR); rfl) | ((with_reducible first | apply byKt | apply byKs); kernel_rfl) | ((with_reducible apply byL); simp only [econs, List.map_cons, List.map_nil, List.cons_append, List.nil_append, OpS.nm, OpS.reads, OpS.turns, Nat.reduceAdd]; try rfl) | ((with_reducible apply byG); intro hg; try simp only [hg]) | ((with_reducible apply byQ); intro hq; try simp only [hqs] at hq; try (exfalso; omega)) | ((with_reducible apply byI); intro K hK) | ((with_reducible apply byH); repeat (first | (with_reducible exact dst_z rfl) | (with_reducible apply dst_s))) | ((with_reducible apply byN); unfold NapOK; kernel_rfl) | ((with_reducible apply byD); first | (simp; done) | (simp [go_sem]; done)) | (with_reducible refine hK _ _ ?_; clear hK; clear K) | omega | ((with_reducible apply callX cl15 (few_f l)); (case hl => rfl)) | ((with_reducible apply callX cl17 (k1)); (case hl => rfl)) | ((with_reducible apply callX cl22 (k2)); (case hl => rfl)) | contradiction))
        rotate_left
        · simp [maxLen]; omega
        simp only [zerosR_int]
        refine loopW mixed (σ := {i : Nat // i ≤ R.length}) (fun s => ⟨[(47, int s.1), (45, rowsA R), (46, int R.length), (9, .osl 5016 1 0 l.length), (1, filesA l), (5, rowsA R), (7, possA A)], [(5016, some ⟨3, rowC irow (sumsL (R.take s.1) l.length)⟩)], 7000⟩) (fun s => R.length - s.1) id ⟨0, by omega⟩ (by rw [hN]; kernel_rfl) ?_ ?_
        · simp only [List.take_zero, sumsL_nil]
          simp only [go_sem, ↓reduceIte, hF]
          rfl
        · rintro ⟨i, g1⟩
          by_cases gi : i < R.length
          · have e0 : R[i]? = some R[i] := List.getElem?_eq_getElem gi
            have e1 : (R.map r3row)[i]? = some (r3row R[i]) := by rw [List.getElem?_map, e0]; rfl
            have e2 : IntKind.i64.wrap ((i : Int) + 1) = ((i + 1 : Nat) : Int) := by rw [wrap_id] <;> omega
            have hk1 : i < (R.map r3row).length := by simpa using gi
            obtain ⟨k, r1, r2, r3, r4⟩ := hR2 _ (List.getElem_mem gi)
            have hsn := sumsL_snoc (R := R.take i) r1 r2
            rw [← List.take_succ_eq_append_getElem gi] at hsn
            have d1 := hbd k i
            have d2 := hbd k (i + 1)
            have hpk := paidK_snoc (R.take i) R[i] k
            rw [← List.take_succ_eq_append_getElem gi, if_pos r2] at hpk
            have hprev : ∀ j, i = j + 1 → ∃ q : Int × Int × Int, R[j]? = some q ∧ q.2.1 ≤ R[i].2.1 := by
              rintro j rfl
              exact ⟨R[j], List.getElem?_eq_getElem (by omega), List.pairwise_iff_getElem.1 hdy j (j + 1) (by omega) gi (by omega)⟩
            generalize R[i] = r at *
            obtain ⟨rk, rb, ra⟩ := r
            simp only at r2 r3 r4 hsn hpk hprev
            subst r2
            have m1 := rowI_some (sumsL_get (R := R.take i) r1)
            have m2 := rowI_put (sumsL (R.take i) l.length) k (paidK (R.take i) k + ra) (by rw [sumsL_len]; exact r1)
            have m3 := sumsL_len (R.take i) l.length
            have z1 := rowI_nz (l := sumsL (R.take i) l.length) (by omega)
            have w1 : IntKind.i64.wrap (paidK (R.take i) k + ra) = paidK (R.take i) k + ra := by rw [wrap_id] <;> omega
            have c1 : ((k : Int) < 0) = False := eq_false (by omega)
            have c2 : ((k : Int) ≥ (l.length : Int)) = False := eq_false (by omega)
            have c3 : (ra ≤ 0) = False := eq_false (by omega)
            rcases i with _ | j
            · have w0 : IntKind.i64.wrap (((0 : Nat) : Int) - 1) = -1 := by decide
              simp only [List.take_zero] at m1 m2 m3 z1 w1 hsn
              (repeat' (first | (with_reducible exact trivial) | ((with_reducible apply byE); simp only [go_sem, ↓reduceIte, e0, e1, e2, hk1, w0, c1, c2, c3, decide_eq_false (of_eq_false c1), decide_eq_false (of_eq_false c2), decide_eq_false (of_eq_false c3), m1, m2, m3, z1, w1, r1, rowI_len, Int.toNat_zero, Int.toNat_one, Int.reduceToNat]; try with_reducible rfl) | (with_reducible first | apply Aa | apply As | apply Au | apply Av | apply Aj | apply At | apply Aw | apply Ab | apply Ac | apply Ad | apply Ae | apply Af | apply Ag | apply Ah | apply Ai | apply Ak | apply Al) | (with_reducible apply rounds_s) | ((with_reducible first | apply An | apply Ao); (case hs => rfl)) | (with_reducible first | apply Am | apply Ap | apply Aq | apply Ar | apply Ax | apply Ay | apply Az | apply Ba | apply Bb | apply Bc | apply Bd | apply Be | apply Ca | apply Cb | apply Cc | apply Cd | apply Ce | apply Cf | apply Cg | apply Ch | apply Ci | apply Bf | apply Cj | apply Ck | apply Cl | apply Cm | apply Cn | apply Co | apply Cp) | ((with_reducible apply byR); rfl) | ((with_reducible first | apply byKt | apply byKs); kernel_rfl) | ((with_reducible apply byL); simp only [econs, List.map_cons, List.map_nil, List.cons_append, List.nil_append, OpS.nm, OpS.reads, OpS.turns, Nat.reduceAdd]; try rfl) | ((with_reducible apply byG); intro hg; try simp only [hg]) | ((with_reducible apply byQ); intro hq; try simp only [hqs] at hq; try (exfalso; omega)) | ((with_reducible apply byI); intro K hK) | ((with_reducible apply byH); repeat (first | (with_reducible exact dst_z rfl) | (with_reducible apply dst_s))) | ((with_reducible apply byN); unfold NapOK; kernel_rfl) | ((with_reducible apply byD); first | (simp; done) | (simp [go_sem]; done)) | (with_reducible refine hK _ _ ?_; clear hK; clear K) | omega | contradiction))
              any_goals (intro h; simp at h; done)
              refine ⟨⟨1, gi⟩, id, ?_, by show R.length - 1 < R.length - 0; omega⟩
              simp only [hsn]
              simp only [go_sem, ↓reduceIte, hF]
            · obtain ⟨q, f0, f1⟩ := hprev j rfl
              have f2 : (R.map r3row)[j]? = some (r3row q) := by rw [List.getElem?_map, f0]; rfl
              have hk2 : j < (R.map r3row).length := by simp; omega
              have w2 : IntKind.i64.wrap (((j + 1 : Nat) : Int) - 1) = (j : Int) := by rw [wrap_id] <;> omega
              have c4 : (((j + 1 : Nat) : Int) > 0) = True := eq_true (by omega)
              obtain ⟨qk, qb, qa⟩ := q
              simp only at f1
              have c5 : (rb < qb) = False := eq_false (by omega)
              (repeat' (first | (with_reducible exact trivial) | ((with_reducible apply byE); simp only [go_sem, ↓reduceIte, e1, e2, hk1, c1, c2, c3, c4, c5, decide_eq_false (of_eq_false c1), decide_eq_false (of_eq_false c2), decide_eq_false (of_eq_false c3), decide_eq_true (of_eq_true c4), decide_eq_false (of_eq_false c5), f2, hk2, w2, m1, m2, m3, z1, w1, r1, rowI_len, Int.toNat_zero, Int.toNat_one, Int.reduceToNat]; try with_reducible rfl) | (with_reducible first | apply Aa | apply As | apply Au | apply Av | apply Aj | apply At | apply Aw | apply Ab | apply Ac | apply Ad | apply Ae | apply Af | apply Ag | apply Ah | apply Ai | apply Ak | apply Al) | (with_reducible apply rounds_s) | ((with_reducible first | apply An | apply Ao); (case hs => rfl)) | (with_reducible first | apply Am | apply Ap | apply Aq | apply Ar | apply Ax | apply Ay | apply Az | apply Ba | apply Bb | apply Bc | apply Bd | apply Be | apply Ca | apply Cb | apply Cc | apply Cd | apply Ce | apply Cf | apply Cg | apply Ch | apply Ci | apply Bf | apply Cj | apply Ck | apply Cl | apply Cm | apply Cn | apply Co | apply Cp) | ((with_reducible apply byR); rfl) | ((with_reducible first | apply byKt | apply byKs); kernel_rfl) | ((with_reducible apply byL); simp only [econs, List.map_cons, List.map_nil, List.cons_append, List.nil_append, OpS.nm, OpS.reads, OpS.turns, Nat.reduceAdd]; try rfl) | ((with_reducible apply byG); intro hg; try simp only [hg]) | ((with_reducible apply byQ); intro hq; try simp only [hqs] at hq; try (exfalso; omega)) | ((with_reducible apply byI); intro K hK) | ((with_reducible apply byH); repeat (first | (with_reducible exact dst_z rfl) | (with_reducible apply dst_s))) | ((with_reducible apply byN); unfold NapOK; kernel_rfl) | ((with_reducible apply byD); first | (simp; done) | (simp [go_sem]; done)) | (with_reducible refine hK _ _ ?_; clear hK; clear K) | omega | contradiction))
              refine ⟨⟨j + 1 + 1, gi⟩, id, ?_, by show R.length - (j + 1 + 1) < R.length - (j + 1); omega⟩
              simp only [hsn]
              simp only [go_sem, ↓reduceIte, hF]
          · obtain rfl : i = R.length := by omega
            simp only [List.take_length]
            (repeat' (first | (with_reducible exact trivial) | ((with_reducible apply byE); simp only [go_sem, ↓reduceIte]; try with_reducible rfl) | (with_reducible first | apply Aa | apply As | apply Au | apply Av | apply Aj | apply At | apply Aw | apply Ab | apply Ac | apply Ad | apply Ae | apply Af | apply Ag | apply Ah | apply Ai | apply Ak | apply Al) | (with_reducible apply rounds_s) | ((with_reducible first | apply An | apply Ao); (case hs => rfl)) | (with_reducible first | apply Am | apply Ap | apply Aq | apply Ar | apply Ax | apply Ay | apply Az | apply Ba | apply Bb | apply Bc | apply Bd | apply Be | apply Ca | apply Cb | apply Cc | apply Cd | apply Ce | apply Cf | apply Cg | apply Ch | apply Ci | apply Bf | apply Cj | apply Ck | apply Cl | apply Cm | apply Cn | apply Co | apply Cp) | ((with_reducible apply byR); rfl) | ((with_reducible first | apply byKt | apply byKs); kernel_rfl) | ((with_reducible apply byL); simp only [econs, List.map_cons, List.map_nil, List.cons_append, List.nil_append, OpS.nm, OpS.reads, OpS.turns, Nat.reduceAdd]; try rfl) | ((with_reducible apply byG); intro hg; try simp only [hg]) | ((with_reducible apply byQ); intro hq; try simp only [hqs] at hq; try (exfalso; omega)) | ((with_reducible apply byI); intro K hK) | ((with_reducible apply byH); repeat (first | (with_reducible exact dst_z rfl) | (with_reducible apply dst_s))) | ((with_reducible apply byN); unfold NapOK; kernel_rfl) | ((with_reducible apply byD); first | (simp; done) | (simp [go_sem]; done)) | (with_reducible refine hK _ _ ?_; clear hK; clear K) | omega | contradiction))
            have m3 := sumsL_len R l.length
            have z1 := rowI_nz (l := sumsL R l.length) (by omega)
            refine loopW mixed (σ := {i : Nat // i ≤ A.length}) (fun s => ⟨[(94, int s.1), (92, possA A), (93, int A.length), (9, .osl 5016 1 0 l.length), (1, filesA l), (7, possA A)], [(5016, some ⟨3, rowC irow (sumsL R l.length)⟩)], 9000⟩) (fun s => A.length - s.1) id ⟨0, by omega⟩ (by rw [hN]; kernel_rfl) ?_ ?_
            · simp only [go_sem, ↓reduceIte, hF]
              rfl
            · rintro ⟨i, g1⟩
              by_cases gi : i < A.length
              · have e0 : A[i]? = some A[i] := List.getElem?_eq_getElem gi
                have e1 : (A.map Pos.flat)[i]? = some A[i].flat := by rw [List.getElem?_map, e0]; rfl
                have e2 : IntKind.i64.wrap ((i : Int) + 1) = ((i + 1 : Nat) : Int) := by rw [wrap_id] <;> omega
                have hk1 : i < (A.map Pos.flat).length := by simpa using gi
                have hil : i < l.length := by omega
                obtain ⟨v, t1, -⟩ := hof i _ (List.getElem?_eq_getElem hil)
                have t2 : A[i].paid = paidK R i := by
                  rw [e0] at t1
                  injection t1 with t1
                  rw [t1]
                have m1 := rowI_some (sumsL_get (R := R) hil)
                generalize A[i] = p at *
                obtain ⟨p1, p2, p3, p4, p5, p6⟩ := p
                simp only at t2
                subst t2
                (repeat' (first | (with_reducible exact trivial) | ((with_reducible apply byE); simp only [go_sem, ↓reduceIte, e1, e2, hk1, m1, m3, z1, hil, rowI_len]; try with_reducible rfl) | (with_reducible first | apply Aa | apply As | apply Au | apply Av | apply Aj | apply At | apply Aw | apply Ab | apply Ac | apply Ad | apply Ae | apply Af | apply Ag | apply Ah | apply Ai | apply Ak | apply Al) | (with_reducible apply rounds_s) | ((with_reducible first | apply An | apply Ao); (case hs => rfl)) | (with_reducible first | apply Am | apply Ap | apply Aq | apply Ar | apply Ax | apply Ay | apply Az | apply Ba | apply Bb | apply Bc | apply Bd | apply Be | apply Ca | apply Cb | apply Cc | apply Cd | apply Ce | apply Cf | apply Cg | apply Ch | apply Ci | apply Bf | apply Cj | apply Ck | apply Cl | apply Cm | apply Cn | apply Co | apply Cp) | ((with_reducible apply byR); rfl) | ((with_reducible first | apply byKt | apply byKs); kernel_rfl) | ((with_reducible apply byL); simp only [econs, List.map_cons, List.map_nil, List.cons_append, List.nil_append, OpS.nm, OpS.reads, OpS.turns, Nat.reduceAdd]; try rfl) | ((with_reducible apply byG); intro hg; try simp only [hg]) | ((with_reducible apply byQ); intro hq; try simp only [hqs] at hq; try (exfalso; omega)) | ((with_reducible apply byI); intro K hK) | ((with_reducible apply byH); repeat (first | (with_reducible exact dst_z rfl) | (with_reducible apply dst_s))) | ((with_reducible apply byN); unfold NapOK; kernel_rfl) | ((with_reducible apply byD); first | (simp; done) | (simp [go_sem]; done)) | (with_reducible refine hK _ _ ?_; clear hK; clear K) | omega | contradiction))
                refine ⟨⟨i + 1, gi⟩, id, ?_, by show A.length - (i + 1) < A.length - i; omega⟩
                simp only [go_sem, ↓reduceIte, hF]
              · obtain rfl : i = A.length := by omega
                (repeat' (first | (with_reducible exact trivial) | ((with_reducible apply byE); simp only [go_sem, ↓reduceIte, hlA, decide_eq_true (of_eq_true hlA)]; try with_reducible rfl) | (with_reducible first | apply Aa | apply As | apply Au | apply Av | apply Aj | apply At | apply Aw | apply Ab | apply Ac | apply Ad | apply Ae | apply Af | apply Ag | apply Ah | apply Ai | apply Ak | apply Al) | (with_reducible apply rounds_s) | ((with_reducible first | apply An | apply Ao); (case hs => rfl)) | (with_reducible first | apply Am | apply Ap | apply Aq | apply Ar | apply Ax | apply Ay | apply Az | apply Ba | apply Bb | apply Bc | apply Bd | apply Be | apply Ca | apply Cb | apply Cc | apply Cd | apply Ce | apply Cf | apply Cg | apply Ch | apply Ci | apply Bf | apply Cj | apply Ck | apply Cl | apply Cm | apply Cn | apply Co | apply Cp) | ((with_reducible apply byR); rfl) | ((with_reducible first | apply byKt | apply byKs); kernel_rfl) | ((with_reducible apply byL); simp only [econs, List.map_cons, List.map_nil, List.cons_append, List.nil_append, OpS.nm, OpS.reads, OpS.turns, Nat.reduceAdd]; try rfl) | ((with_reducible apply byG); intro hg; try simp only [hg]) | ((with_reducible apply byQ); intro hq; try simp only [hqs] at hq; try (exfalso; omega)) | ((with_reducible apply byI); intro K hK) | ((with_reducible apply byH); repeat (first | (with_reducible exact dst_z rfl) | (with_reducible apply dst_s))) | ((with_reducible apply byN); unfold NapOK; kernel_rfl) | ((with_reducible apply byD); first | (simp; done) | (simp [go_sem]; done)) | (with_reducible refine hK _ _ ?_; clear hK; clear K) | omega | ((with_reducible apply callX cl16 (alive_f)); (case hl => rfl)) | contradiction))
    · have hof : ofL c l = [] := by rw [ofL, if_neg he]
      have hp : paidR c l = [] := by rw [paidR, if_neg he]
      rw [hof] at k2
      rw [hp] at k1
      refine fun_W mixed Try.func7 rfl (Nat.le_of_ble_eq_true rfl) (by kernel_rfl) fun cx hN hR hF hL => ?_; apply args_k; (case hA => (simp only [go_sem, ↓reduceIte]; rfl))
      (repeat' (first | (with_reducible exact trivial) | ((with_reducible apply byE); simp only [go_sem, ↓reduceIte, hf, eq_false he, decide_eq_false he]; try with_reducible rfl) | (with_reducible first | apply Aa | apply As | apply Au | apply Av | apply Aj | apply At | apply Aw | apply Ab | apply Ac | apply Ad | apply Ae | apply Af | apply Ag | apply Ah | apply Ai | apply Ak | apply Al) | (with_reducible apply rounds_s) | ((with_reducible first | apply An | apply Ao); (case hs => rfl)) | (with_reducible first | apply Am | apply Ap | apply Aq | apply Ar | apply Ax | apply Ay | apply Az | apply Ba | apply Bb | apply Bc | apply Bd | apply Be | apply Ca | apply Cb | apply Cc | apply Cd | apply Ce | apply Cf | apply Cg | apply Ch | apply Ci | apply Bf | apply Cj | apply Ck | apply Cl | apply Cm | apply Cn | apply Co | apply Cp) | ((with_reducible apply byR); rfl) | ((with_reducible first | apply byKt | apply byKs); kernel_rfl) | ((with_reducible apply byL); simp only [econs, List.map_cons, List.map_nil, List.cons_append, List.nil_append, OpS.nm, OpS.reads, OpS.turns, Nat.reduceAdd]; try rfl) | ((with_reducible apply byG); intro hg; try simp only [hg]) | ((with_reducible apply byQ); intro hq; try simp only [hqs] at hq; try (exfalso; omega)) | ((with_reducible apply byI); intro K hK) | ((with_reducible apply byH); repeat (first | (with_reducible exact dst_z rfl) | (with_reducible apply dst_s))) | ((with_reducible apply byN); unfold NapOK; kernel_rfl) | ((with_reducible apply byD); first | (simp; done) | (simp [go_sem]; done)) | (with_reducible refine hK _ _ ?_; clear hK; clear K) | omega | ((with_reducible apply callX cl15 (few_f l)); (case hl => rfl)) | ((with_reducible apply callX cl17 (k1)); (case hl => rfl)) | ((with_reducible apply callX cl22 (k2)); (case hl => rfl)) | ((with_reducible apply callX cl16 (alive_f)); (case hl => rfl)) | contradiction))
  · simp only [Bool.not_eq_true] at hf
    refine fun_W mixed Try.func7 rfl (Nat.le_of_ble_eq_true rfl) (by kernel_rfl) fun cx hN hR hF hL => ?_; apply args_k; (case hA => (simp only [go_sem, ↓reduceIte]; rfl))
    (repeat' (first | (with_reducible exact trivial) | ((with_reducible apply byE); simp only [go_sem, ↓reduceIte, hf]; try with_reducible rfl) | (with_reducible first | apply Aa | apply As | apply Au | apply Av | apply Aj | apply At | apply Aw | apply Ab | apply Ac | apply Ad | apply Ae | apply Af | apply Ag | apply Ah | apply Ai | apply Ak | apply Al) | (with_reducible apply rounds_s) | ((with_reducible first | apply An | apply Ao); (case hs => rfl)) | (with_reducible first | apply Am | apply Ap | apply Aq | apply Ar | apply Ax | apply Ay | apply Az | apply Ba | apply Bb | apply Bc | apply Bd | apply Be | apply Ca | apply Cb | apply Cc | apply Cd | apply Ce | apply Cf | apply Cg | apply Ch | apply Ci | apply Bf | apply Cj | apply Ck | apply Cl | apply Cm | apply Cn | apply Co | apply Cp) | ((with_reducible apply byR); rfl) | ((with_reducible first | apply byKt | apply byKs); kernel_rfl) | ((with_reducible apply byL); simp only [econs, List.map_cons, List.map_nil, List.cons_append, List.nil_append, OpS.nm, OpS.reads, OpS.turns, Nat.reduceAdd]; try rfl) | ((with_reducible apply byG); intro hg; try simp only [hg]) | ((with_reducible apply byQ); intro hq; try simp only [hqs] at hq; try (exfalso; omega)) | ((with_reducible apply byI); intro K hK) | ((with_reducible apply byH); repeat (first | (with_reducible exact dst_z rfl) | (with_reducible apply dst_s))) | ((with_reducible apply byN); unfold NapOK; kernel_rfl) | ((with_reducible apply byD); first | (simp; done) | (simp [go_sem]; done)) | (with_reducible refine hK _ _ ?_; clear hK; clear K) | omega | ((with_reducible apply callX cl15 (few_f l)); (case hl => rfl)) | ((with_reducible apply callX cl16 (alive_f)); (case hl => rfl)) | contradiction))
end Go.Proofs.Ytjplhfmakghabaa.V
