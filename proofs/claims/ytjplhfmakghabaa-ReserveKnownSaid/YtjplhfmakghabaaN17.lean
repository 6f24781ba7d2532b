/- Positions in memory; what is held back (plain). Contracts of chapter 19: Of. -/
-- STEPS: new
import Derived.Test.YtjplhfmakghabaaN10
set_option linter.unusedSimpArgs false
set_option linter.unusedVariables false
namespace Go.Proofs.Ytjplhfmakghabaa.V
open Go.RowKit
set_option maxRecDepth 100000
attribute [local go_sem] Option.toList_some Option.toList_none

theorem pos_len (p : Pos) : p.flat.length = 6 := rfl
theorem pos_data (p : Pos) : p.flat.all AV.isData = true := by simp [Pos.flat]
@[go_sem] theorem rowO_ren (r : Nat → Nat) (l : List Pos) : (rowC Pos.flat l).map (AV.ren r) = rowC Pos.flat l := rows_ren (fun x r => by simp [Pos.flat]) r l
@[go_sem] theorem rowO_nms (p : Nat → Bool) (l : List Pos) : (rowC Pos.flat l).all (AV.names p) = true := rows_nms (fun x p => by simp [Pos.flat]) p l
theorem rowO_len (l : List Pos) : (rowC Pos.flat l).length = l.length * 6 := rowC_len pos_len l
theorem rowO_snoc (l : List Pos) (p : Pos) : rowC Pos.flat (l ++ [p]) = rowC Pos.flat l ++ [int p.gross, int p.shown, int p.paid, int p.back, int p.reserve, bool p.opn] := by simp [rowC, Pos.flat]
theorem rowO_cons (x : Pos) (l : List Pos) : rowC Pos.flat (x :: l) = [int x.gross, int x.shown, int x.paid, int x.back, int x.reserve, bool x.opn] ++ rowC Pos.flat l := by simp [rowC, Pos.flat]
theorem rowO_nz {l : List Pos} (h : 0 < l.length) : (rowC Pos.flat l = []) ↔ False := by
  rw [iff_false, ← List.length_eq_zero_iff, rowO_len]
  omega
/-- The cells of an element. -/
theorem rowO_split {l : List Pos} {i : Nat} {x : Pos} (h : l[i]? = some x) : rowC Pos.flat l = rowC Pos.flat (l.take i) ++ ([int x.gross, int x.shown, int x.paid, int x.back, int x.reserve, bool x.opn] ++ rowC Pos.flat (l.drop (i + 1))) := by
  obtain ⟨hi, hx⟩ := List.getElem?_eq_some_iff.1 h
  have : l = l.take i ++ (x :: l.drop (i + 1)) := by rw [← hx, ← List.drop_eq_getElem_cons hi, List.take_append_drop]
  conv => lhs; rw [this]
  rw [show rowC Pos.flat (l.take i ++ x :: l.drop (i + 1)) = rowC Pos.flat (l.take i) ++ rowC Pos.flat (x :: l.drop (i + 1)) by simp [rowC], rowO_cons]
theorem rowO_some {l : List Pos} {i : Nat} {x : Pos} (h : l[i]? = some x) : ((rowC Pos.flat l).drop (i * 6)).take 6 = x.flat := by
  have hi := (List.getElem?_eq_some_iff.1 h).1
  have hl : (rowC Pos.flat (l.take i)).length = i * 6 := by rw [rowO_len, List.length_take, Nat.min_eq_left (by omega)]
  rw [rowO_split h, List.drop_append_of_le_length (by omega), List.drop_of_length_le (by omega), List.nil_append]
  rfl
/-- The j-th cell of an element. -/
theorem rowO_cell {l : List Pos} {i j : Nat} {x : Pos} (h : l[i]? = some x) (hj : j < 6) : (rowC Pos.flat l)[i * 6 + j]? = x.flat[j]? := by
  have hi := (List.getElem?_eq_some_iff.1 h).1
  have hl : (rowC Pos.flat (l.take i)).length = i * 6 := by rw [rowO_len, List.length_take, Nat.min_eq_left (by omega)]
  rw [rowO_split h, List.getElem?_append_right (by rw [hl]; omega), hl, Nat.add_sub_cancel_left, List.getElem?_append_left (by simpa using hj)]
  rfl
/-- A cell of an element is overwritten. -/
theorem rowO_put {l : List Pos} {i j : Nat} {x y : Pos} (h : l[i]? = some x) (hj : j < 6) (v : AV) (hv : x.flat.set j v = y.flat) :
    List.take (i * 6 + j) (rowC Pos.flat l) ++ [v] ++ List.drop (i * 6 + j + 1) (rowC Pos.flat l) = rowC Pos.flat (l.set i y) := by
  have hi := (List.getElem?_eq_some_iff.1 h).1
  have hl : (rowC Pos.flat (l.take i)).length = i * 6 := by rw [rowO_len, List.length_take, Nat.min_eq_left (by omega)]
  have hset : l.set i y = l.take i ++ y :: l.drop (i + 1) := List.set_eq_take_append_cons_drop .. |>.trans (if_pos hi)
  have hlen : i * 6 + j < (rowC Pos.flat l).length := by rw [rowO_len]; omega
  have h1 : List.take (i * 6 + j) (rowC Pos.flat l) ++ [v] ++ List.drop (i * 6 + j + 1) (rowC Pos.flat l) = (rowC Pos.flat l).set (i * 6 + j) v := by
    rw [List.set_eq_take_append_cons_drop, if_pos hlen]
    simp
  have h2 : rowC Pos.flat (l.set i y) = rowC Pos.flat (l.take i) ++ (y.flat ++ rowC Pos.flat (l.drop (i + 1))) := by rw [hset]; simp [rowC]
  rw [h1, h2, rowO_split h, List.set_append_right _ _ (by rw [hl]; omega), hl, Nat.add_sub_cancel_left, List.set_append_left _ _ (by simpa using hj), ← hv]
  rfl

/-! ### What is held back -/
def addP (P : List Pos) (r : Int × Int × Int) : List Pos := P.set r.1.toNat { P.getD r.1.toNat ⟨0, 0, 0, 0, 0, false⟩ with paid := (P.getD r.1.toNat ⟨0, 0, 0, 0, 0, false⟩).paid + r.2.2 }
def heldOne (c : Cover) (u : Int) (p : Pos) : Int := if p.opn then max 0 (pays c p.gross (u - p.paid) - p.paid) else 0
/-- The reserves, from the first position on; what is used. -/
def heldL (c : Cover) : Int → List Pos → List Pos
  | _, [] => []
  | u, p :: r => { p with reserve := if p.opn then heldOne c u p else p.reserve } :: heldL c (u + heldOne c u p) r
def posL (l : List File) : List Pos := l.map fun f => standP f.acts
def ofL (c : Cover) (l : List File) : List Pos :=
  if checkE c l = 0 then heldL c ((paidR c l).map fun r => r.2.2).sum ((paidR c l).foldl addP (posL l)) else []

theorem out_ok {c : Cover} {l : List File} (h : adjRight c l = true) : ∀ i, i ≤ (ordL l).length → ∀ r, r ∈ (payL c l.length ((ordL l).take i)).out → ∃ k : Nat, k < l.length ∧ r.1 = (k : Int) ∧ 0 < r.2.2 ∧ r.2.2 ≤ 1000000000000000 := by
  have hr : c.rightB = true := by rw [adjRight, Bool.and_eq_true] at h; exact h.1
  have hPB := payL_PB hr l.length (L := ordL l) fun x hx => by obtain ⟨_, _, _, _, h⟩ := step_right h hx; exact h
  intro i
  induction i with
  | zero => intro _ r hm; exact absurd hm (by simp [payL, ps0])
  | succ i ih =>
    intro hi
    have e0 : (ordL l)[i]? = some (ordL l)[i] := List.getElem?_eq_getElem hi
    rw [payL_take e0]
    obtain ⟨k, h1, h2, _⟩ := step_right h (List.getElem_mem hi)
    have hP := hPB i (by omega)
    generalize (ordL l)[i] = x at *
    have g2 := hP.get2 x.file.toNat
    have ha := hP.al
    have hcv := cvRight_iff.1 hr
    have hb1 := pays_bd (c := c) hr ((payL c l.length ((ordL l).take i)).shown.getD x.file.toNat 0 + x.act.amt) (used := (payL c l.length ((ordL l).take i)).all - (payL c l.length ((ordL l).take i)).paid.getD x.file.toNat 0) (by omega)
    have hb2 := worth0_bd (c := c) hr ((payL c l.length ((ordL l).take i)).shown.getD x.file.toNat 0 + x.act.amt)
    intro r hm
    unfold payOne at hm
    simp only at hm
    split at hm
    · split at hm
      · exact ih (by omega) r hm
      · rcases List.mem_append.1 hm with hm | hm
        · exact ih (by omega) r hm
        · simp only [List.mem_singleton] at hm
          subst hm
          exact ⟨k, h1, h2, by simp only; omega, by simp only; omega⟩
    · exact ih (by omega) r hm
theorem rows_ok {c : Cover} {l : List File} (he : checkE c l = 0) : (paidR c l).length ≤ 2000 ∧ ∀ r, r ∈ paidR c l → ∃ k : Nat, k < l.length ∧ r.1 = (k : Int) ∧ 0 < r.2.2 ∧ r.2.2 ≤ 1000000000000000 := by
  have har : adjRight c l = true := by
    cases h : adjRight c l with
    | true => rfl
    | false => simp [checkE, h] at he
  have hn : l.length ≤ 2000 ∧ actsN l ≤ 2000 := by
    unfold checkE at he
    split at he; · cases he
    split at he; · cases he
    omega
  have hr : c.rightB = true := by rw [adjRight, Bool.and_eq_true] at har; exact har.1
  have hPB := payL_PB hr l.length (L := ordL l) (fun x hx => by obtain ⟨_, _, _, _, h⟩ := step_right har hx; exact h) (ordL l).length (Nat.le_refl _)
  have ho := out_ok har (ordL l).length (Nat.le_refl _)
  rw [List.take_length] at hPB ho
  rw [paidR, if_pos he]
  refine ⟨?_, ho⟩
  have := hPB.ou
  rw [ordL_len] at this
  omega

theorem heldL_len (c : Cover) : ∀ (P : List Pos) (u : Int), (heldL c u P).length = P.length
  | [], _ => rfl
  | p :: r, u => by rw [heldL, List.length_cons, heldL_len c r, List.length_cons]
def uAt (c : Cover) (u : Int) : List Pos → Nat → Int
  | _, 0 => u
  | [], _ + 1 => u
  | p :: r, i + 1 => uAt c (u + heldOne c u p) r i
theorem uAt_succ (c : Cover) : ∀ (P : List Pos) (u : Int) (i : Nat) (p : Pos), P[i]? = some p → uAt c u P (i + 1) = uAt c u P i + heldOne c (uAt c u P i) p
  | [], u, i, p, h => by simp at h
  | q :: r, u, 0, p, h => by simp at h; subst h; simp [uAt]
  | q :: r, u, i + 1, p, h => by
    rw [uAt, uAt_succ c r _ i p (by simpa using h)]
    rfl
def heldP (c : Cover) (u : Int) (p : Pos) : Pos := { p with reserve := if p.opn then heldOne c u p else p.reserve }
theorem heldL_at (c : Cover) : ∀ (P : List Pos) (u : Int) (i : Nat) (p : Pos), P[i]? = some p → (heldL c u P)[i]? = some (heldP c (uAt c u P i) p)
  | [], u, i, p, h => by simp at h
  | q :: r, u, 0, p, h => by simp at h; subst h; simp [heldL, uAt, heldP]
  | q :: r, u, i + 1, p, h => by
    rw [heldL, List.getElem?_cons_succ, heldL_at c r _ i p (by simpa using h)]
    rfl
/-- The positions behind i of them. -/
def heldI (c : Cover) (u : Int) (P : List Pos) (i : Nat) : List Pos := (heldL c u P).take i ++ P.drop i
theorem heldI_len (c : Cover) (u : Int) (P : List Pos) (i : Nat) : (heldI c u P i).length = P.length := by
  simp [heldI, heldL_len]; omega
theorem heldI_at {c : Cover} {u : Int} {P : List Pos} {i : Nat} {p : Pos} (h : P[i]? = some p) : (heldI c u P i)[i]? = some p := by
  have hi := (List.getElem?_eq_some_iff.1 h).1
  rw [heldI, List.getElem?_append_right (by simp [heldL_len]; omega)]
  simp [heldL_len, Nat.min_eq_left (Nat.le_of_lt hi), h]
theorem heldI_succ {c : Cover} {u : Int} {P : List Pos} {i : Nat} {p : Pos} (h : P[i]? = some p) : heldI c u P (i + 1) = (heldI c u P i).set i (heldP c (uAt c u P i) p) := by
  have hi := (List.getElem?_eq_some_iff.1 h).1
  have hk := heldL_at c P u i p h
  rw [heldI, heldI, List.take_add_one, hk, List.set_append_right _ _ (by simp [heldL_len]; omega)]
  simp [heldL_len, Nat.min_eq_left (Nat.le_of_lt hi)]
  rw [List.drop_eq_getElem_cons hi]
  rfl
theorem heldOne_bd {c : Cover} (hr : c.rightB = true) (u : Int) (p : Pos) (h0 : 0 ≤ p.paid) : 0 ≤ heldOne c u p ∧ heldOne c u p ≤ 1000000000000000 := by
  have hcv := cvRight_iff.1 hr
  have hw := worth0_bd (c := c) hr p.gross
  unfold heldOne
  split
  · unfold pays
    split <;> omega
  · omega

/-- The positions behind j rows. -/
structure AB (n j : Nat) (P : List Pos) : Prop where
  len : P.length = n
  pd : ∀ p, p ∈ P → 0 ≤ p.paid ∧ p.paid ≤ j * 1000000000000000
  gr : ∀ p, p ∈ P → 0 ≤ p.gross ∧ p.gross ≤ 1000000000000000
theorem addP_at {n j : Nat} {P : List Pos} (h : AB n j P) {k : Nat} (hk : k < n) : ∃ p, P[k]? = some p ∧ P.getD k ⟨0, 0, 0, 0, 0, false⟩ = p ∧ p ∈ P := by
  have hl := h.len
  refine ⟨P[k], List.getElem?_eq_getElem (by omega), ?_, List.getElem_mem _⟩
  rw [List.getD_eq_getElem?_getD, List.getElem?_eq_getElem (by omega)]
  rfl
theorem AB.step {n j : Nat} {P : List Pos} (h : AB n j P) {r : Int × Int × Int} {k : Nat} (hk : k < n) (h1 : r.1 = (k : Int)) (h2 : 0 < r.2.2 ∧ r.2.2 ≤ 1000000000000000) : AB n (j + 1) (addP P r) := by
  obtain ⟨p, p1, p2, p3⟩ := addP_at h hk
  have g1 := h.pd p p3
  have g2 := h.gr p p3
  unfold addP
  rw [h1, Int.toNat_natCast, p2]
  refine ⟨by rw [List.length_set]; exact h.len, fun q hq => ?_, fun q hq => ?_⟩
  · rcases List.mem_or_eq_of_mem_set hq with hq | rfl
    · have := h.pd q hq; omega
    · simp only; omega
  · rcases List.mem_or_eq_of_mem_set hq with hq | rfl
    · exact h.gr q hq
    · exact g2
theorem AB.zero {c : Cover} {l : List File} (h : adjRight c l = true) : AB l.length 0 (posL l) := by
  refine ⟨by simp [posL], fun p hp => ?_, fun p hp => ?_⟩ <;>
  · obtain ⟨f, hf, rfl⟩ := List.mem_map.1 hp
    rw [adjRight, Bool.and_eq_true, List.all_eq_true] at h
    have := h.2 f hf
    rw [okFile, Bool.and_eq_true] at this
    have hg := made_good this.2
    have h1 := hg.gross
    have h2 := hg.shown
    simp only [standP]
    omega
theorem AB.all {c : Cover} {l : List File} (he : checkE c l = 0) : ∀ j, j ≤ (paidR c l).length → AB l.length j (((paidR c l).take j).foldl addP (posL l)) := by
  have har : adjRight c l = true := by
    cases h : adjRight c l with
    | true => rfl
    | false => simp [checkE, h] at he
  have ho := (rows_ok he).2
  intro j
  induction j with
  | zero => intro _; exact AB.zero har
  | succ j ih =>
    intro hj
    have e0 : (paidR c l)[j]? = some (paidR c l)[j] := List.getElem?_eq_getElem hj
    obtain ⟨k, h1, h2, h3⟩ := ho _ (List.getElem_mem hj)
    rw [List.take_add_one, e0, List.foldl_append]
    exact (ih (by omega)).step h1 h2 h3
def amtS (R : List (Int × Int × Int)) : Int := (R.map fun r => r.2.2).sum
theorem amtS_take {R : List (Int × Int × Int)} {j : Nat} {r : Int × Int × Int} (h : R[j]? = some r) : amtS (R.take (j + 1)) = amtS (R.take j) + r.2.2 := by
  rw [List.take_add_one, h]
  simp [amtS]
theorem amtS_bd {R : List (Int × Int × Int)} (h : ∀ r, r ∈ R → 0 < r.2.2 ∧ r.2.2 ≤ 1000000000000000) : ∀ j, j ≤ R.length → 0 ≤ amtS (R.take j) ∧ amtS (R.take j) ≤ j * 1000000000000000 := by
  intro j
  induction j with
  | zero => intro _; simp [amtS]
  | succ j ih =>
    intro hj
    have e0 : R[j]? = some R[j] := List.getElem?_eq_getElem hj
    have := ih (by omega)
    have h1 := h _ (List.getElem_mem hj)
    rw [amtS_take e0]
    omega
theorem uAt_bd {c : Cover} (hr : c.rightB = true) {P : List Pos} (h : ∀ p, p ∈ P → 0 ≤ p.paid) {u : Int} (h0 : 0 ≤ u) : ∀ i, i ≤ P.length → 0 ≤ uAt c u P i ∧ uAt c u P i ≤ u + i * 1000000000000000 := by
  intro i
  induction i with
  | zero =>
    intro _
    have : uAt c u P 0 = u := by cases P <;> rfl
    rw [this]; omega
  | succ i ih =>
    intro hi
    have e0 : P[i]? = some P[i] := List.getElem?_eq_getElem hi
    rw [uAt_succ c P u i _ e0]
    have := ih (by omega)
    have hb := heldOne_bd hr (uAt c u P i) P[i] (h _ (List.getElem_mem hi))
    omega
end Go.Proofs.Ytjplhfmakghabaa.V
namespace Go.Proofs.Ytjplhfmakghabaa.V
open Go.RowKit
set_option maxRecDepth 100000
attribute [local go_sem] Option.toList_some Option.toList_none

theorem le6 (j n : Nat) : (j * 6 + 6 ≤ n * 6) = (j < n) := propext ⟨fun h => by omega, fun h => by omega⟩
theorem uAt_zero (c : Cover) (u : Int) (P : List Pos) : uAt c u P 0 = u := by cases P <;> rfl
theorem heldI_zero (c : Cover) (u : Int) (P : List Pos) : heldI c u P 0 = P := by simp [heldI]
theorem heldI_all (c : Cover) (u : Int) (P : List Pos) : heldI c u P P.length = heldL c u P := by
  rw [heldI, List.drop_length, List.append_nil, List.take_of_length_le (by rw [heldL_len]; omega)]
set_option maxHeartbeats 8000000 in
theorem aof_f (c : Cover) (l : List File) (hc : c.ok) (hl : l.length ≤ 100000) : Fun Try.prog 22 [.agg c.flat, filesA l] (.tup [possA (ofL c l), int (checkE c l)]) := by
  have hpd := paid_f c l hc hl
  by_cases he : checkE c l = 0
  · have hof : ofL c l = heldL c (amtS (paidR c l)) ((paidR c l).foldl addP (posL l)) := by rw [ofL, if_pos he]; rfl
    have har : adjRight c l = true := by
      cases h : adjRight c l with
      | true => rfl
      | false => simp [checkE, h] at he
    have har0 : c.rightB = true := by rw [adjRight, Bool.and_eq_true] at har; exact har.1
    have hn : l.length ≤ 2000 := by
      unfold checkE at he
      split at he; · cases he
      split at he; · cases he
      omega
    obtain ⟨hR1, hR2⟩ := rows_ok he
    have hAB := AB.all he
    have hAm := amtS_bd (R := paidR c l) fun r hr => by obtain ⟨_, _, _, h⟩ := hR2 r hr; exact h
    have hrl := right_len har
    rw [he] at hpd
    rcases Nat.eq_zero_or_pos l.length with h0 | h0
    · obtain rfl := List.length_eq_zero_iff.1 h0
      have hpr : paidR c [] = [] := by rw [paidR, if_pos he]; rfl
      have hof2 : ofL c [] = [] := by rw [hof, hpr]; rfl
      rw [hpr] at hpd
      rw [hof2, he]
      refine fun_W mixed Try.func22 rfl (Nat.le_of_ble_eq_true rfl) (by kernel_rfl) fun cx hN hR hF hL => ?_; apply args_k; (case hA => (simp only [go_sem, ↓reduceIte]; rfl))
      (with_reducible repeat' (first|exact trivial|(apply byE;simp only [go_sem, ↓reduceIte];try rfl)|apply Aa|apply As|apply Au|apply Av|apply Aj|apply At|apply Aw|apply Ab|apply Ac|apply Ad|apply Ae|apply Af|apply Ag|apply Ah|apply Ai|apply Ak|apply Al|apply rounds_s|((first|apply An|apply Ao);(case hs=>with_unfolding_all rfl))|apply Am|apply Ap|apply Aq|apply Ar|apply Ax|apply Ay|apply Az|apply Ba|apply Bb|apply Bc|apply Bd|apply Be|apply Ca|apply Cb|apply Cc|apply Cd|apply Ce|apply Cf|apply Cg|apply Ch|apply Ci|apply Bf|apply Cj|apply Ck|apply Cl|apply Cm|apply Cn|apply Co|apply Cp|(apply byR;with_unfolding_all rfl)|((first|apply byKt|apply byKs);kernel_rfl)|(apply byL;simp only [econs,List.map_cons,List.map_nil,List.cons_append,List.nil_append,OpS.nm,OpS.reads,OpS.turns,Nat.reduceAdd];try with_unfolding_all rfl)|(apply byG;intro hg;try simp only [hg])|(apply byQ;intro hq;try simp only [hqs] at hq;try (exfalso;omega))|(apply byI;intro K hK)|(apply byH;repeat (first|exact dst_z rfl|apply dst_s))|(apply byN;unfold NapOK;kernel_rfl)|(apply byD;first|(simp;done)|(simp [go_sem];done))|(refine hK _ _ ?_;clear hK;clear K)|omega|(apply callX cl17 (hpd);(case hl=>with_unfolding_all rfl))|contradiction))
      refine loop_rounds mixed 1 (by rw [hN]; kernel_rfl) ?_
      (with_reducible repeat' (first|exact trivial|(apply byE;simp only [go_sem, ↓reduceIte];try rfl)|apply Aa|apply As|apply Au|apply Av|apply Aj|apply At|apply Aw|apply Ab|apply Ac|apply Ad|apply Ae|apply Af|apply Ag|apply Ah|apply Ai|apply Ak|apply Al|apply rounds_s|((first|apply An|apply Ao);(case hs=>with_unfolding_all rfl))|apply Am|apply Ap|apply Aq|apply Ar|apply Ax|apply Ay|apply Az|apply Ba|apply Bb|apply Bc|apply Bd|apply Be|apply Ca|apply Cb|apply Cc|apply Cd|apply Ce|apply Cf|apply Cg|apply Ch|apply Ci|apply Bf|apply Cj|apply Ck|apply Cl|apply Cm|apply Cn|apply Co|apply Cp|(apply byR;with_unfolding_all rfl)|((first|apply byKt|apply byKs);kernel_rfl)|(apply byL;simp only [econs,List.map_cons,List.map_nil,List.cons_append,List.nil_append,OpS.nm,OpS.reads,OpS.turns,Nat.reduceAdd];try with_unfolding_all rfl)|(apply byG;intro hg;try simp only [hg])|(apply byQ;intro hq;try simp only [hqs] at hq;try (exfalso;omega))|(apply byI;intro K hK)|(apply byH;repeat (first|exact dst_z rfl|apply dst_s))|(apply byN;unfold NapOK;kernel_rfl)|(apply byD;first|(simp;done)|(simp [go_sem];done))|(refine hK _ _ ?_;clear hK;clear K)|omega|contradiction))
      refine loop_rounds mixed 1 (by rw [hN]; kernel_rfl) ?_
      (with_reducible repeat' (first|exact trivial|(apply byE;simp only [go_sem, ↓reduceIte];try rfl)|apply Aa|apply As|apply Au|apply Av|apply Aj|apply At|apply Aw|apply Ab|apply Ac|apply Ad|apply Ae|apply Af|apply Ag|apply Ah|apply Ai|apply Ak|apply Al|apply rounds_s|((first|apply An|apply Ao);(case hs=>with_unfolding_all rfl))|apply Am|apply Ap|apply Aq|apply Ar|apply Ax|apply Ay|apply Az|apply Ba|apply Bb|apply Bc|apply Bd|apply Be|apply Ca|apply Cb|apply Cc|apply Cd|apply Ce|apply Cf|apply Cg|apply Ch|apply Ci|apply Bf|apply Cj|apply Ck|apply Cl|apply Cm|apply Cn|apply Co|apply Cp|(apply byR;with_unfolding_all rfl)|((first|apply byKt|apply byKs);kernel_rfl)|(apply byL;simp only [econs,List.map_cons,List.map_nil,List.cons_append,List.nil_append,OpS.nm,OpS.reads,OpS.turns,Nat.reduceAdd];try with_unfolding_all rfl)|(apply byG;intro hg;try simp only [hg])|(apply byQ;intro hq;try simp only [hqs] at hq;try (exfalso;omega))|(apply byI;intro K hK)|(apply byH;repeat (first|exact dst_z rfl|apply dst_s))|(apply byN;unfold NapOK;kernel_rfl)|(apply byD;first|(simp;done)|(simp [go_sem];done))|(refine hK _ _ ?_;clear hK;clear K)|omega|contradiction))
      refine loop_rounds mixed 1 (by rw [hN]; kernel_rfl) ?_
      (with_reducible repeat' (first|exact trivial|(apply byE;simp only [go_sem, ↓reduceIte];try rfl)|apply Aa|apply As|apply Au|apply Av|apply Aj|apply At|apply Aw|apply Ab|apply Ac|apply Ad|apply Ae|apply Af|apply Ag|apply Ah|apply Ai|apply Ak|apply Al|apply rounds_s|((first|apply An|apply Ao);(case hs=>with_unfolding_all rfl))|apply Am|apply Ap|apply Aq|apply Ar|apply Ax|apply Ay|apply Az|apply Ba|apply Bb|apply Bc|apply Bd|apply Be|apply Ca|apply Cb|apply Cc|apply Cd|apply Ce|apply Cf|apply Cg|apply Ch|apply Ci|apply Bf|apply Cj|apply Ck|apply Cl|apply Cm|apply Cn|apply Co|apply Cp|(apply byR;with_unfolding_all rfl)|((first|apply byKt|apply byKs);kernel_rfl)|(apply byL;simp only [econs,List.map_cons,List.map_nil,List.cons_append,List.nil_append,OpS.nm,OpS.reads,OpS.turns,Nat.reduceAdd];try with_unfolding_all rfl)|(apply byG;intro hg;try simp only [hg])|(apply byQ;intro hq;try simp only [hqs] at hq;try (exfalso;omega))|(apply byI;intro K hK)|(apply byH;repeat (first|exact dst_z rfl|apply dst_s))|(apply byN;unfold NapOK;kernel_rfl)|(apply byD;first|(simp;done)|(simp [go_sem];done))|(refine hK _ _ ?_;clear hK;clear K)|omega|contradiction))
    · generalize paidR c l = R at *
      refine fun_W mixed Try.func22 rfl (Nat.le_of_ble_eq_true rfl) (by kernel_rfl) fun cx hN hR hF hL => ?_; apply args_k; (case hA => (simp only [go_sem, ↓reduceIte]; rfl))
      (with_reducible repeat' (first|exact trivial|(apply byE;simp only [go_sem, ↓reduceIte];try rfl)|apply Aa|apply As|apply Au|apply Av|apply Aj|apply At|apply Aw|apply Ab|apply Ac|apply Ad|apply Ae|apply Af|apply Ag|apply Ah|apply Ai|apply Ak|apply Al|apply rounds_s|((first|apply An|apply Ao);(case hs=>with_unfolding_all rfl))|apply Am|apply Ap|apply Aq|apply Ar|apply Ax|apply Ay|apply Az|apply Ba|apply Bb|apply Bc|apply Bd|apply Be|apply Ca|apply Cb|apply Cc|apply Cd|apply Ce|apply Cf|apply Cg|apply Ch|apply Ci|apply Bf|apply Cj|apply Ck|apply Cl|apply Cm|apply Cn|apply Co|apply Cp|(apply byR;with_unfolding_all rfl)|((first|apply byKt|apply byKs);kernel_rfl)|(apply byL;simp only [econs,List.map_cons,List.map_nil,List.cons_append,List.nil_append,OpS.nm,OpS.reads,OpS.turns,Nat.reduceAdd];try with_unfolding_all rfl)|(apply byG;intro hg;try simp only [hg])|(apply byQ;intro hq;try simp only [hqs] at hq;try (exfalso;omega))|(apply byI;intro K hK)|(apply byH;repeat (first|exact dst_z rfl|apply dst_s))|(apply byN;unfold NapOK;kernel_rfl)|(apply byD;first|(simp;done)|(simp [go_sem];done))|(refine hK _ _ ?_;clear hK;clear K)|omega|(apply callX cl17 (hpd);(case hl=>with_unfolding_all rfl))|contradiction))
      refine loop_nil 8 6000 6 38 rfl (Nat.le_of_ble_eq_true rfl) ?_
      refine loopW mixed (σ := {i : Nat // i ≤ l.length}) (fun s => ⟨[(28, int s.1), (8, .osl 6000 6 0 s.1), (26, filesA l), (27, int l.length), (6, rowsA R), (2, .ptr 0 0)], [(6000, some ⟨38, rowC Pos.flat (posL (l.take s.1))⟩), (0, some ⟨23, c.flat⟩)], 6001⟩) (fun s => l.length - s.1) id ⟨0, by omega⟩ (by rw [hN]; kernel_rfl) ?_ ?_
      · simp only [go_sem, ↓reduceIte, hF]
        exact ⟨rfl, rfl⟩
      · rintro ⟨i, h1⟩
        by_cases hi : i < l.length
        · have e0 : l[i]? = some l[i] := List.getElem?_eq_getElem hi
          have e1 : (l.map File.flat)[i]? = some l[i].flat := by rw [List.getElem?_map, e0]; rfl
          have e2 : IntKind.i64.wrap ((i : Int) + 1) = ((i + 1 : Nat) : Int) := by rw [wrap_id] <;> omega
          have hk1 : i < (l.map File.flat).length := by simpa using hi
          have hsn : posL (l.take (i + 1)) = posL (l.take i) ++ [standP l[i].acts] := by rw [List.take_succ_eq_append_getElem hi, posL, List.map_append]; rfl
          have hst := standF_f l[i] (Nat.le_trans (hrl _ (List.getElem_mem hi)) (by omega))
          have hln := rowO_len (posL (l.take i))
          have hln2 : (posL (l.take i)).length = i := by simp [posL]; omega
          rw [hln2] at hln
          generalize l[i] = f at *
          (with_reducible repeat' (first|exact trivial|(apply byE;simp only [go_sem, ↓reduceIte, e1, e2, hk1];try rfl)|apply Aa|apply As|apply Au|apply Av|apply Aj|apply At|apply Aw|apply Ab|apply Ac|apply Ad|apply Ae|apply Af|apply Ag|apply Ah|apply Ai|apply Ak|apply Al|apply rounds_s|((first|apply An|apply Ao);(case hs=>with_unfolding_all rfl))|apply Am|apply Ap|apply Aq|apply Ar|apply Ax|apply Ay|apply Az|apply Ba|apply Bb|apply Bc|apply Bd|apply Be|apply Ca|apply Cb|apply Cc|apply Cd|apply Ce|apply Cf|apply Cg|apply Ch|apply Ci|apply Bf|apply Cj|apply Ck|apply Cl|apply Cm|apply Cn|apply Co|apply Cp|(apply byR;with_unfolding_all rfl)|((first|apply byKt|apply byKs);kernel_rfl)|(apply byL;simp only [econs,List.map_cons,List.map_nil,List.cons_append,List.nil_append,OpS.nm,OpS.reads,OpS.turns,Nat.reduceAdd];try with_unfolding_all rfl)|(apply byG;intro hg;try simp only [hg])|(apply byQ;intro hq;try simp only [hqs] at hq;try (exfalso;omega))|(apply byI;intro K hK)|(apply byH;repeat (first|exact dst_z rfl|apply dst_s))|(apply byN;unfold NapOK;kernel_rfl)|(apply byD;first|(simp;done)|(simp [go_sem];done))|(refine hK _ _ ?_;clear hK;clear K)|omega|(apply callX cl26 (hst);(case hl=>with_unfolding_all rfl))|contradiction))
          · refine ⟨⟨i + 1, hi⟩, nm1 6000 8033, ?_, by show l.length - (i + 1) < l.length - i; omega⟩
            simp only [hsn, rowO_snoc]
            simp only [go_sem, ↓reduceIte, hF, List.map_append, List.all_append]
          · exact ⟨hln, by simp [maxLen]; omega⟩
        · obtain rfl : i = l.length := by omega
          simp only [List.take_length]
          (with_reducible repeat' (first|exact trivial|(apply byE;simp only [go_sem, ↓reduceIte];try rfl)|apply Aa|apply As|apply Au|apply Av|apply Aj|apply At|apply Aw|apply Ab|apply Ac|apply Ad|apply Ae|apply Af|apply Ag|apply Ah|apply Ai|apply Ak|apply Al|apply rounds_s|((first|apply An|apply Ao);(case hs=>with_unfolding_all rfl))|apply Am|apply Ap|apply Aq|apply Ar|apply Ax|apply Ay|apply Az|apply Ba|apply Bb|apply Bc|apply Bd|apply Be|apply Ca|apply Cb|apply Cc|apply Cd|apply Ce|apply Cf|apply Cg|apply Ch|apply Ci|apply Bf|apply Cj|apply Ck|apply Cl|apply Cm|apply Cn|apply Co|apply Cp|(apply byR;with_unfolding_all rfl)|((first|apply byKt|apply byKs);kernel_rfl)|(apply byL;simp only [econs,List.map_cons,List.map_nil,List.cons_append,List.nil_append,OpS.nm,OpS.reads,OpS.turns,Nat.reduceAdd];try with_unfolding_all rfl)|(apply byG;intro hg;try simp only [hg])|(apply byQ;intro hq;try simp only [hqs] at hq;try (exfalso;omega))|(apply byI;intro K hK)|(apply byH;repeat (first|exact dst_z rfl|apply dst_s))|(apply byN;unfold NapOK;kernel_rfl)|(apply byD;first|(simp;done)|(simp [go_sem];done))|(refine hK _ _ ?_;clear hK;clear K)|omega|contradiction))
          refine loopW mixed (σ := {j : Nat // j ≤ R.length}) (fun s => ⟨[(40, int s.1), (11, int (amtS (R.take s.1))), (39, int R.length), (38, rowsA R), (8, .osl 6000 6 0 l.length), (2, .ptr 0 0)], [(6000, some ⟨38, rowC Pos.flat ((R.take s.1).foldl addP (posL l))⟩), (0, some ⟨23, c.flat⟩)], 8001⟩) (fun s => R.length - s.1) id ⟨0, by omega⟩ (by rw [hN]; kernel_rfl) ?_ ?_
          · simp only [go_sem, ↓reduceIte, hF]
            exact ⟨⟨rfl, rfl⟩, rfl⟩
          · rintro ⟨j, g1⟩
            by_cases gj : j < R.length
            · have e0 : R[j]? = some R[j] := List.getElem?_eq_getElem gj
              have e1 : (R.map r3row)[j]? = some (r3row R[j]) := by rw [List.getElem?_map, e0]; rfl
              have e2 : IntKind.i64.wrap ((j : Int) + 1) = ((j + 1 : Nat) : Int) := by rw [wrap_id] <;> omega
              have hk1 : j < (R.map r3row).length := by simpa using gj
              obtain ⟨k, k1, k2, k3⟩ := hR2 _ (List.getElem_mem gj)
              have hA := hAB j g1
              have hsn : (R.take (j + 1)).foldl addP (posL l) = addP ((R.take j).foldl addP (posL l)) R[j] := by rw [List.take_succ_eq_append_getElem gj, List.foldl_append]; rfl
              have hsm := amtS_take e0
              have hb1 := hAm j g1
              generalize (R.take j).foldl addP (posL l) = P at *
              generalize R[j] = r at *
              obtain ⟨rk, rb, ra⟩ := r
              simp only at k2 k3 hsm
              subst k2
              obtain ⟨p, p1, p2, p3⟩ := addP_at hA k1
              have q1 := hA.pd p p3
              have hl6 := hA.len
              have c1 : (rowC Pos.flat P)[k * 6 + 2]? = some (int p.paid) := rowO_cell p1 (by omega)
              have c2 : List.take (k * 6 + 2) (rowC Pos.flat P) ++ [int (p.paid + ra)] ++ List.drop (k * 6 + 2 + 1) (rowC Pos.flat P) = rowC Pos.flat (P.set k { p with paid := p.paid + ra }) := rowO_put p1 (by omega) _ rfl
              have w1 : IntKind.i64.wrap (p.paid + ra) = p.paid + ra := by rw [wrap_id] <;> omega
              have w2 : IntKind.i64.wrap (amtS (R.take j) + ra) = amtS (R.take j) + ra := by rw [wrap_id] <;> omega
              have hln := rowO_len P
              have z1 := rowO_nz (l := P) (by omega)
              have hs2 : addP P ((k : Int), rb, ra) = P.set k { p with paid := p.paid + ra } := by
                unfold addP
                simp only [Int.toNat_natCast]
                rw [p2]
              rw [hs2] at hsn
              rw [hl6] at hln
              (with_reducible repeat' (first|exact trivial|(apply byE;simp only [go_sem, ↓reduceIte, e1, e2, hk1, c1, c2, w1, w2, hln, z1, k1, Int.toNat_zero, Int.reduceToNat];try rfl)|apply Aa|apply As|apply Au|apply Av|apply Aj|apply At|apply Aw|apply Ab|apply Ac|apply Ad|apply Ae|apply Af|apply Ag|apply Ah|apply Ai|apply Ak|apply Al|apply rounds_s|((first|apply An|apply Ao);(case hs=>with_unfolding_all rfl))|apply Am|apply Ap|apply Aq|apply Ar|apply Ax|apply Ay|apply Az|apply Ba|apply Bb|apply Bc|apply Bd|apply Be|apply Ca|apply Cb|apply Cc|apply Cd|apply Ce|apply Cf|apply Cg|apply Ch|apply Ci|apply Bf|apply Cj|apply Ck|apply Cl|apply Cm|apply Cn|apply Co|apply Cp|(apply byR;with_unfolding_all rfl)|((first|apply byKt|apply byKs);kernel_rfl)|(apply byL;simp only [econs,List.map_cons,List.map_nil,List.cons_append,List.nil_append,OpS.nm,OpS.reads,OpS.turns,Nat.reduceAdd];try with_unfolding_all rfl)|(apply byG;intro hg;try simp only [hg])|(apply byQ;intro hq;try simp only [hqs] at hq;try (exfalso;omega))|(apply byI;intro K hK)|(apply byH;repeat (first|exact dst_z rfl|apply dst_s))|(apply byN;unfold NapOK;kernel_rfl)|(apply byD;first|(simp;done)|(simp [go_sem];done))|(refine hK _ _ ?_;clear hK;clear K)|omega|contradiction))
              refine ⟨⟨j + 1, gj⟩, id, ?_, by show R.length - (j + 1) < R.length - j; omega⟩
              simp only [hsn, hsm]
              simp only [go_sem, ↓reduceIte, hF]
            · obtain rfl : j = R.length := by omega
              simp only [List.take_length]
              have hA := hAB R.length (Nat.le_refl _)
              have hu0 := hAm R.length (Nat.le_refl _)
              rw [List.take_length] at hA hu0
              have hub := uAt_bd (c := c) har0 (fun p hp => (hA.pd p hp).1) hu0.1
              generalize R.foldl addP (posL l) = P at *
              have hPl := hA.len
              (with_reducible repeat' (first|exact trivial|(apply byE;simp only [go_sem, ↓reduceIte];try rfl)|apply Aa|apply As|apply Au|apply Av|apply Aj|apply At|apply Aw|apply Ab|apply Ac|apply Ad|apply Ae|apply Af|apply Ag|apply Ah|apply Ai|apply Ak|apply Al|apply rounds_s|((first|apply An|apply Ao);(case hs=>with_unfolding_all rfl))|apply Am|apply Ap|apply Aq|apply Ar|apply Ax|apply Ay|apply Az|apply Ba|apply Bb|apply Bc|apply Bd|apply Be|apply Ca|apply Cb|apply Cc|apply Cd|apply Ce|apply Cf|apply Cg|apply Ch|apply Ci|apply Bf|apply Cj|apply Ck|apply Cl|apply Cm|apply Cn|apply Co|apply Cp|(apply byR;with_unfolding_all rfl)|((first|apply byKt|apply byKs);kernel_rfl)|(apply byL;simp only [econs,List.map_cons,List.map_nil,List.cons_append,List.nil_append,OpS.nm,OpS.reads,OpS.turns,Nat.reduceAdd];try with_unfolding_all rfl)|(apply byG;intro hg;try simp only [hg])|(apply byQ;intro hq;try simp only [hqs] at hq;try (exfalso;omega))|(apply byI;intro K hK)|(apply byH;repeat (first|exact dst_z rfl|apply dst_s))|(apply byN;unfold NapOK;kernel_rfl)|(apply byD;first|(simp;done)|(simp [go_sem];done))|(refine hK _ _ ?_;clear hK;clear K)|omega|contradiction))
              refine loopW mixed (σ := {i : Nat // i ≤ l.length}) (fun s => ⟨[(62, int s.1), (11, int (uAt c (amtS R) P s.1)), (61, int l.length), (60, .osl 6000 6 0 l.length), (8, .osl 6000 6 0 l.length), (2, .ptr 0 0)], [(6000, some ⟨38, rowC Pos.flat (heldI c (amtS R) P s.1)⟩), (0, some ⟨23, c.flat⟩)], 9001⟩) (fun s => l.length - s.1) id ⟨0, by omega⟩ (by rw [hN]; kernel_rfl) ?_ ?_
              · simp only [go_sem, ↓reduceIte, hF]
                exact ⟨⟨rfl, (uAt_zero _ _ _).symm⟩, by rw [heldI_zero]⟩
              · rintro ⟨i, i1⟩
                by_cases hi : i < l.length
                · have e0 : P[i]? = some P[i] := List.getElem?_eq_getElem (by omega)
                  have hpm : P[i] ∈ P := List.getElem_mem _
                  have b1 := heldI_at (c := c) (u := amtS R) e0
                  have b2 := heldI_succ (c := c) (u := amtS R) e0
                  have b3 := uAt_succ c P (amtS R) i _ e0
                  have b4 := hub i (by omega)
                  have b5 := heldI_len c (amtS R) P i
                  have e2 : IntKind.i64.wrap ((i : Int) + 1) = ((i + 1 : Nat) : Int) := by rw [wrap_id] <;> omega
                  generalize P[i] = p at *
                  have q1 := hA.pd p hpm
                  have q2 := hA.gr p hpm
                  have b6 := heldOne_bd har0 (uAt c (amtS R) P i) p q1.1
                  have e3 := rowO_some b1
                  have hln := rowO_len (heldI c (amtS R) P i)
                  have z1 := rowO_nz (l := heldI c (amtS R) P i) (by omega)
                  rw [b5, hPl] at hln
                  generalize uAt c (amtS R) P i = u at *
                  cases ho : p.opn with
                  | false =>
                    have b7 : heldOne c u p = 0 := by unfold heldOne; rw [ho]; rfl
                    have b8 : heldP c u p = p := by cases p; simp only at ho; subst ho; rfl
                    rw [b7, Int.add_zero] at b3
                    rw [b8] at b2
                    have b9 : heldI c (amtS R) P (i + 1) = heldI c (amtS R) P i := by
                      rw [b2]
                      apply List.ext_getElem?
                      intro j
                      rw [List.getElem?_set]
                      split
                      · rename_i h; subst h; rw [b1]; simp; omega
                      · rfl
                    (with_reducible repeat' (first|exact trivial|(apply byE;simp only [go_sem, ↓reduceIte, e2, e3, hln, z1, hi, ho, le6];try rfl)|apply Aa|apply As|apply Au|apply Av|apply Aj|apply At|apply Aw|apply Ab|apply Ac|apply Ad|apply Ae|apply Af|apply Ag|apply Ah|apply Ai|apply Ak|apply Al|apply rounds_s|((first|apply An|apply Ao);(case hs=>with_unfolding_all rfl))|apply Am|apply Ap|apply Aq|apply Ar|apply Ax|apply Ay|apply Az|apply Ba|apply Bb|apply Bc|apply Bd|apply Be|apply Ca|apply Cb|apply Cc|apply Cd|apply Ce|apply Cf|apply Cg|apply Ch|apply Ci|apply Bf|apply Cj|apply Ck|apply Cl|apply Cm|apply Cn|apply Co|apply Cp|(apply byR;with_unfolding_all rfl)|((first|apply byKt|apply byKs);kernel_rfl)|(apply byL;simp only [econs,List.map_cons,List.map_nil,List.cons_append,List.nil_append,OpS.nm,OpS.reads,OpS.turns,Nat.reduceAdd];try with_unfolding_all rfl)|(apply byG;intro hg;try simp only [hg])|(apply byQ;intro hq;try simp only [hqs] at hq;try (exfalso;omega))|(apply byI;intro K hK)|(apply byH;repeat (first|exact dst_z rfl|apply dst_s))|(apply byN;unfold NapOK;kernel_rfl)|(apply byD;first|(simp;done)|(simp [go_sem];done))|(refine hK _ _ ?_;clear hK;clear K)|omega|contradiction))
                    refine ⟨⟨i + 1, hi⟩, id, ?_, by show l.length - (i + 1) < l.length - i; omega⟩
                    simp only [b9, b3]
                    simp only [go_sem, ↓reduceIte, hF]
                  | true =>
                    have hcv := cvRight_iff.1 har0
                    have w1 : IntKind.i64.wrap (u - p.paid) = u - p.paid := by rw [wrap_id] <;> omega
                    have hpy := pays_f c p.gross (u - p.paid) hc (by unfold Int64; omega) (by unfold Int64; omega)
                    have b7 : heldOne c u p = max 0 (pays c p.gross (u - p.paid) - p.paid) := by unfold heldOne; rw [ho]; rfl
                    have hw := worth0_bd (c := c) har0 p.gross
                    have hpb : 0 ≤ pays c p.gross (u - p.paid) ∧ pays c p.gross (u - p.paid) ≤ 1000000000000000 := by
                      unfold pays
                      split <;> omega
                    have b8 : heldP c u p = { p with reserve := heldOne c u p } := by unfold heldP; rw [ho]; rfl
                    rw [b8, b7] at b2
                    rw [b7] at b3
                    generalize pays c p.gross (u - p.paid) = pw at *
                    have w2 : IntKind.i64.wrap (pw - p.paid) = pw - p.paid := by rw [wrap_id] <;> omega
                    have w3 : IntKind.i64.wrap (u + max 0 (pw - p.paid)) = u + max 0 (pw - p.paid) := by rw [wrap_id] <;> omega
                    have c2 : List.take (i * 6 + 4) (rowC Pos.flat (heldI c (amtS R) P i)) ++ [int (max 0 (pw - p.paid))] ++ List.drop (i * 6 + 4 + 1) (rowC Pos.flat (heldI c (amtS R) P i)) = rowC Pos.flat ((heldI c (amtS R) P i).set i { p with reserve := max 0 (pw - p.paid) }) := rowO_put b1 (by omega) _ rfl
                    (with_reducible repeat' (first|exact trivial|(apply byE;simp only [go_sem, ↓reduceIte, e2, e3, hln, z1, hi, ho, le6, w1, w2, w3, c2];try rfl)|apply Aa|apply As|apply Au|apply Av|apply Aj|apply At|apply Aw|apply Ab|apply Ac|apply Ad|apply Ae|apply Af|apply Ag|apply Ah|apply Ai|apply Ak|apply Al|apply rounds_s|((first|apply An|apply Ao);(case hs=>with_unfolding_all rfl))|apply Am|apply Ap|apply Aq|apply Ar|apply Ax|apply Ay|apply Az|apply Ba|apply Bb|apply Bc|apply Bd|apply Be|apply Ca|apply Cb|apply Cc|apply Cd|apply Ce|apply Cf|apply Cg|apply Ch|apply Ci|apply Bf|apply Cj|apply Ck|apply Cl|apply Cm|apply Cn|apply Co|apply Cp|(apply byR;with_unfolding_all rfl)|((first|apply byKt|apply byKs);kernel_rfl)|(apply byL;simp only [econs,List.map_cons,List.map_nil,List.cons_append,List.nil_append,OpS.nm,OpS.reads,OpS.turns,Nat.reduceAdd];try with_unfolding_all rfl)|(apply byG;intro hg;try simp only [hg])|(apply byQ;intro hq;try simp only [hqs] at hq;try (exfalso;omega))|(apply byI;intro K hK)|(apply byH;repeat (first|exact dst_z rfl|apply dst_s))|(apply byN;unfold NapOK;kernel_rfl)|(apply byD;first|(simp;done)|(simp [go_sem];done))|(refine hK _ _ ?_;clear hK;clear K)|omega|(apply callX cl25 (hpy);(case hl=>with_unfolding_all rfl))|contradiction))
                    refine ⟨⟨i + 1, hi⟩, id, ?_, by show l.length - (i + 1) < l.length - i; omega⟩
                    simp only [b2, b3, ho]
                    simp only [go_sem, ↓reduceIte, hF]
                · obtain rfl : i = l.length := by omega
                  (with_reducible repeat' (first|exact trivial|(apply byE;simp only [go_sem, ↓reduceIte];try rfl)|apply Aa|apply As|apply Au|apply Av|apply Aj|apply At|apply Aw|apply Ab|apply Ac|apply Ad|apply Ae|apply Af|apply Ag|apply Ah|apply Ai|apply Ak|apply Al|apply rounds_s|((first|apply An|apply Ao);(case hs=>with_unfolding_all rfl))|apply Am|apply Ap|apply Aq|apply Ar|apply Ax|apply Ay|apply Az|apply Ba|apply Bb|apply Bc|apply Bd|apply Be|apply Ca|apply Cb|apply Cc|apply Cd|apply Ce|apply Cf|apply Cg|apply Ch|apply Ci|apply Bf|apply Cj|apply Ck|apply Cl|apply Cm|apply Cn|apply Co|apply Cp|(apply byR;with_unfolding_all rfl)|((first|apply byKt|apply byKs);kernel_rfl)|(apply byL;simp only [econs,List.map_cons,List.map_nil,List.cons_append,List.nil_append,OpS.nm,OpS.reads,OpS.turns,Nat.reduceAdd];try with_unfolding_all rfl)|(apply byG;intro hg;try simp only [hg])|(apply byQ;intro hq;try simp only [hqs] at hq;try (exfalso;omega))|(apply byI;intro K hK)|(apply byH;repeat (first|exact dst_z rfl|apply dst_s))|(apply byN;unfold NapOK;kernel_rfl)|(apply byD;first|(simp;done)|(simp [go_sem];done))|(refine hK _ _ ?_;clear hK;clear K)|omega|contradiction))
                  rw [hof, he]
                  have hha := heldI_all c (amtS R) P
                  rw [hPl] at hha
                  rw [hha]
                  have hhl : l.length = (heldL c (amtS R) P).length := by rw [heldL_len, hPl]
                  exact ⟨⟨⟨hhl, rows_len pos_len _⟩, fzo_rows pos_len pos_data _ hhl⟩, rfl⟩
  · have hof : ofL c l = [] := by rw [ofL, if_neg he]
    have hp : paidR c l = [] := by rw [paidR, if_neg he]
    rw [hp] at hpd
    rw [hof]
    refine fun_W mixed Try.func22 rfl (Nat.le_of_ble_eq_true rfl) (by kernel_rfl) fun cx hN hR hF hL => ?_; apply args_k; (case hA => (simp only [go_sem, ↓reduceIte]; rfl))
    (with_reducible repeat' (first|exact trivial|(apply byE;simp only [go_sem, ↓reduceIte, eq_false he, decide_eq_false he];try rfl)|apply Aa|apply As|apply Au|apply Av|apply Aj|apply At|apply Aw|apply Ab|apply Ac|apply Ad|apply Ae|apply Af|apply Ag|apply Ah|apply Ai|apply Ak|apply Al|apply rounds_s|((first|apply An|apply Ao);(case hs=>with_unfolding_all rfl))|apply Am|apply Ap|apply Aq|apply Ar|apply Ax|apply Ay|apply Az|apply Ba|apply Bb|apply Bc|apply Bd|apply Be|apply Ca|apply Cb|apply Cc|apply Cd|apply Ce|apply Cf|apply Cg|apply Ch|apply Ci|apply Bf|apply Cj|apply Ck|apply Cl|apply Cm|apply Cn|apply Co|apply Cp|(apply byR;with_unfolding_all rfl)|((first|apply byKt|apply byKs);kernel_rfl)|(apply byL;simp only [econs,List.map_cons,List.map_nil,List.cons_append,List.nil_append,OpS.nm,OpS.reads,OpS.turns,Nat.reduceAdd];try with_unfolding_all rfl)|(apply byG;intro hg;try simp only [hg])|(apply byQ;intro hq;try simp only [hqs] at hq;try (exfalso;omega))|(apply byI;intro K hK)|(apply byH;repeat (first|exact dst_z rfl|apply dst_s))|(apply byN;unfold NapOK;kernel_rfl)|(apply byD;first|(simp;done)|(simp [go_sem];done))|(refine hK _ _ ?_;clear hK;clear K)|omega|(apply callX cl17 (hpd);(case hl=>with_unfolding_all rfl))|contradiction))
end Go.Proofs.Ytjplhfmakghabaa.V
