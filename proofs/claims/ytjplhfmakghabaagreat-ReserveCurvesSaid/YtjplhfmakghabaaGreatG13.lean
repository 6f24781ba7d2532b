/- Contracts of chapter 20: put: a step that grows. Contracts of chapter 20: Curves. -/
import Derived.Test.YtjplhfmakghabaaGreatG11
import Derived.Test.YtjplhfmakghabaaGreatG12
set_option linter.unusedSimpArgs false
set_option linter.unusedVariables false
namespace Go.Proofs.YtjplhfmakghabaaGreat.V
open Go.RowKit
set_option maxRecDepth 100000
attribute [local go_sem] Option.toList_some Option.toList_none

/-- A step as days and values from them on. -/
def lastO (O : List (Int × Int)) : Int := match O.getLast? with | some p => p.2 | none => 0
def putO (O : List (Int × Int)) (d v : Int) : List (Int × Int) := if v = lastO O then O else O ++ [(d, v)]
def daysO (O : List (Int × Int)) : List Int := O.map Prod.fst
def valsO (O : List (Int × Int)) : List Int := O.map Prod.snd
theorem daysO_len (O : List (Int × Int)) : (daysO O).length = O.length := by simp [daysO]
theorem valsO_len (O : List (Int × Int)) : (valsO O).length = O.length := by simp [valsO]
theorem rowI_snoc (l : List Int) (x : Int) : rowC irow (l ++ [x]) = rowC irow l ++ [int x] := by simp [rowC, irow]
abbrev stepT : TypeId := 29
@[go_sem] def nm2 (a b c d x : Nat) : Nat := if x = a then b else if x = c then d else x
/-- New names at the end. -/
theorem code_end {P : Program} {cx : Cx} {c : Code} {Q : Exit → LS → Prop} {A : LS} (h : CodeW P cx c (fun e L => ∃ r L', LCut cx r L L' ∧ Q e L') A) : CodeW P cx c Q A := by
  intro ι a w hs
  refine wpIn_mono (h ι a w hs) ?_
  rintro e a' w' ⟨ι', A', hs', hq⟩
  obtain ⟨L, rfl, r, L', hc, hq⟩ := hq
  exact ⟨_, L'.toAS, hs'.cut hc.cut, L', rfl, hq⟩
theorem put0N_f (d : Int) : FunB Tryz.prog 13 [(0, ⟨stepT, [.v (.slice none 0 0), .v (.slice none 0 0)]⟩)] [.ptr 0 0, int d, int 0] (.tup []) [] := by
  refine fun_WB 1 mixed Tryz.func13 rfl (Nat.le_of_ble_eq_true rfl) (by kernel_rfl) (by simp [go_sem]) fun cx hN hR hF hL => ?_; apply args_kb; (case hA => (simp only [go_sem, ↓reduceIte]; rfl)); (case hB => (simp only [go_sem, ↓reduceIte]; rfl))
  (try ((try (revert K;refine bK ?_));refine' run trivial ?_;(repeat' first|exact True.intro|refine Lv.mk ?_ ?_|(refine oK ?_;intro K hK)|intro hq);all_goals refine Lf.mk ?_))
theorem put0_f (d v : Int) (hv : v ≠ 0) : FunB Tryz.prog 13 [(0, ⟨stepT, [.v (.slice none 0 0), .v (.slice none 0 0)]⟩)] [.ptr 0 0, int d, int v] (.tup [])
    [(0, some ⟨stepT, [.osl 1 1 0 1, .osl 2 1 0 1]⟩), (1, some ⟨3, [int d]⟩), (2, some ⟨3, [int v]⟩)] := by
  refine funB_C 3 Tryz.func13 rfl (Nat.le_of_ble_eq_true rfl) (by simp [go_sem]) fun cx hN hR hF hL => ?_; apply code_argsB; (case hA => (simp only [go_sem, ↓reduceIte]; rfl)); (case hB => (simp only [go_sem, ↓reduceIte]; rfl))
  refine code_end (code_w mixed (by rw [hN]; kernel_rfl) ?_)
  (try ((try (revert K;refine bK ?_));refine' run (I (eq_false hv) (decide_eq_false hv)) ?_;(repeat' first|exact True.intro|refine Lv.mk ?_ ?_|(refine oK ?_;intro K hK)|intro hq);all_goals refine Lf.mk ?_))
  · refine ⟨nm2 1 4067 2 4123, ⟨[], [(0, some ⟨stepT, [.osl 1 1 0 1, .osl 2 1 0 1]⟩), (1, some ⟨3, [int d]⟩), (2, some ⟨3, [int v]⟩)], 3⟩, ?_, ?_⟩
    · simp only [go_sem, ↓reduceIte, hF]
      refine fun b g h => ?_
      have := hF b g h
      simp [inl] at this
      subst this
      simp
    · (try ((try (revert K;refine bK ?_));refine' run trivial ?_;(repeat' first|exact True.intro|refine Lv.mk ?_ ?_|(refine oK ?_;intro K hK)|intro hq);all_goals refine Lf.mk ?_))
  all_goals simp [maxLen]
theorem putN_f (O : List (Int × Int)) (d : Int) (h0 : O ≠ []) (hl : O.length ≤ 100000) : FunB Tryz.prog 13 [(0, ⟨stepT, [.osl 1 1 0 O.length, .osl 2 1 0 O.length]⟩), (1, ⟨3, rowC irow (daysO O)⟩), (2, ⟨3, rowC irow (valsO O)⟩)] [.ptr 0 0, int d, int (lastO O)] (.tup []) [] := by
  have hp : 0 < O.length := List.length_pos_iff.2 h0
  have hz1 := rowI_nz (l := daysO O) (by rw [daysO_len]; exact hp)
  have hz2 := rowI_nz (l := valsO O) (by rw [valsO_len]; exact hp)
  have hlast : (rowC irow (valsO O))[O.length - 1]? = some (int (lastO O)) := by
    rw [rowI_at, valsO, List.getElem?_map, ← List.getLast?_eq_getElem?]
    unfold lastO
    rcases hg : O.getLast? with _ | q
    · exact absurd (List.getLast?_eq_none_iff.1 hg) h0
    · rfl
  have w1 : IntKind.i64.wrap ((O.length : Int) - 1) = ((O.length - 1 : Nat) : Int) := by rw [wrap_id] <;> omega
  have c1 : ((O.length : Int) > 0) = True := eq_true (by omega)
  have c2 : O.length - 1 < O.length := by omega
  refine fun_WB 3 mixed Tryz.func13 rfl (Nat.le_of_ble_eq_true rfl) (by kernel_rfl) (by simp [go_sem, hz1, hz2]) fun cx hN hR hF hL => ?_; apply args_kb; (case hA => (simp only [go_sem, ↓reduceIte]; rfl)); (case hB => (simp only [go_sem, ↓reduceIte]; rfl))
  (try ((try (revert K;refine bK ?_));refine' run (I c1 (I (decide_eq_true (of_eq_true c1)) (I w1 (I hlast (I c2 (I hz1 hz2)))))) ?_;(repeat' first|exact True.intro|refine Lv.mk ?_ ?_|(refine oK ?_;intro K hK)|intro hq);all_goals refine Lf.mk ?_))
attribute [local go_sem] List.all_append List.map_append in
theorem put1_f (O : List (Int × Int)) (d v : Int) (h0 : O ≠ []) (hl : O.length ≤ 100000) (hv : v ≠ lastO O) : FunB Tryz.prog 13 [(0, ⟨stepT, [.osl 1 1 0 O.length, .osl 2 1 0 O.length]⟩), (1, ⟨3, rowC irow (daysO O)⟩), (2, ⟨3, rowC irow (valsO O)⟩)] [.ptr 0 0, int d, int v] (.tup [])
    [(0, some ⟨stepT, [.osl 3 1 0 (O.length + 1), .osl 4 1 0 (O.length + 1)]⟩), (3, some ⟨3, rowC irow (daysO O) ++ [int d]⟩), (4, some ⟨3, rowC irow (valsO O) ++ [int v]⟩), (1, none), (2, none)] := by
  have hp : 0 < O.length := List.length_pos_iff.2 h0
  have hz1 := rowI_nz (l := daysO O) (by rw [daysO_len]; exact hp)
  have hz2 := rowI_nz (l := valsO O) (by rw [valsO_len]; exact hp)
  have hlast : (rowC irow (valsO O))[O.length - 1]? = some (int (lastO O)) := by
    rw [rowI_at, valsO, List.getElem?_map, ← List.getLast?_eq_getElem?]
    unfold lastO
    rcases hg : O.getLast? with _ | q
    · exact absurd (List.getLast?_eq_none_iff.1 hg) h0
    · rfl
  have w1 : IntKind.i64.wrap ((O.length : Int) - 1) = ((O.length - 1 : Nat) : Int) := by rw [wrap_id] <;> omega
  have c1 : ((O.length : Int) > 0) = True := eq_true (by omega)
  have c2 : O.length - 1 < O.length := by omega
  have hn1 : (rowC irow (daysO O)).length = O.length := by rw [rowI_len, daysO_len]
  have hn2 : (rowC irow (valsO O)).length = O.length := by rw [rowI_len, valsO_len]
  have hm1 := rowI_nms' (l := daysO O)
  have hm2 := rowI_nms' (l := valsO O)
  refine funB_C 5 Tryz.func13 rfl (Nat.le_of_ble_eq_true rfl) (by simp [go_sem, hz1, hz2, hm1, hm2]) fun cx hN hR hF hL => ?_; apply code_argsB; (case hA => (simp only [go_sem, ↓reduceIte]; rfl)); (case hB => (simp only [go_sem, ↓reduceIte]; rfl))
  refine code_end (code_w mixed (by rw [hN]; kernel_rfl) ?_)
  (try ((try (revert K;refine bK ?_));refine' run (I c1 (I (decide_eq_true (of_eq_true c1)) (I w1 (I hlast (I c2 (I hz1 (I hz2 (I (eq_false hv) (I (decide_eq_false hv) (I hn1 hn2)))))))))) ?_;(repeat' first|exact True.intro|refine Lv.mk ?_ ?_|(refine oK ?_;intro K hK)|intro hq);all_goals refine Lf.mk ?_))
  · refine ⟨nm2 3 5069 4 5125, ⟨[], [(0, some ⟨stepT, [.osl 3 1 0 (O.length + 1), .osl 4 1 0 (O.length + 1)]⟩), (3, some ⟨3, rowC irow (daysO O) ++ [int d]⟩), (4, some ⟨3, rowC irow (valsO O) ++ [int v]⟩)], 5⟩, ?_, ?_⟩
    · simp only [go_sem, ↓reduceIte, hF, List.map_append, List.all_append]
      refine fun b g h => ?_
      have := hF b g h
      simp [inl] at this
      rcases this with rfl | rfl | rfl <;> simp
    · (try ((try (revert K;refine bK ?_));refine' run trivial ?_;(repeat' first|exact True.intro|refine Lv.mk ?_ ?_|(refine oK ?_;intro K hK)|intro hq);all_goals refine Lf.mk ?_))
  all_goals (simp [maxLen]; omega)
end Go.Proofs.YtjplhfmakghabaaGreat.V
namespace Go.Proofs.YtjplhfmakghabaaGreat.V
open Go.RowKit
set_option maxRecDepth 100000
attribute [local go_sem] Option.toList_some Option.toList_none

/-! ### Plain -/
theorem check_filter {c : Cover} {l : List File} (he : checkE c l = 0) (p : File → Bool) : checkE c (l.filter p) = 0 := by
  obtain ⟨har, h1, h2⟩ := chk_right he
  have hA : adjRight c (l.filter p) = true := by
    rw [adjRight, Bool.and_eq_true, List.all_eq_true] at har ⊢
    exact ⟨har.1, fun f hf => har.2 f (List.mem_filter.1 hf).1⟩
  have hN : actsN (l.filter p) ≤ actsN l := by
    clear har h1 h2 he hA
    induction l with
    | nil => exact Nat.le_refl _
    | cons f l ih =>
      have e1 : actsN (f :: l) = f.acts.length + actsN l := by simp [actsN]
      by_cases hp : p f = true
      · rw [List.filter_cons_of_pos hp]
        have e2 : actsN (f :: l.filter p) = f.acts.length + actsN (l.filter p) := by simp [actsN]
        omega
      · rw [List.filter_cons_of_neg hp]
        omega
  have hl := List.length_filter_le p l
  rw [checkE, if_neg (by rw [hA]; decide), if_neg (by omega)]
theorem check_known {c : Cover} {l : List File} (he : checkE c l = 0) (d : Int) : checkE c (knownR l d) = 0 := check_at (check_filter he _) d
theorem sumPR_nn' : ∀ {P : List Pos}, (∀ p, p ∈ P → 0 ≤ p.paid ∧ 0 ≤ p.reserve) → 0 ≤ sumPR P
  | [], _ => Int.le_refl _
  | p :: P, h => by
    have h1 := h p (by simp)
    have h2 := sumPR_nn' (P := P) fun q hq => h q (by simp [hq])
    unfold sumPR at *
    rw [List.map_cons, List.sum_cons]
    omega
/-- What is paid, and held back, in all. -/
theorem sumP_pr : ∀ (P : List Pos) (s : Pos), (∀ p, p ∈ P → 0 ≤ p.paid ∧ 0 ≤ p.reserve) → 0 ≤ s.paid → 0 ≤ s.reserve → s.paid + s.reserve + sumPR P ≤ 1000000000000000 →
    (P.foldl addPos s).paid = s.paid + (P.map Pos.paid).sum ∧ (P.foldl addPos s).reserve = s.reserve + (P.map Pos.reserve).sum ∧ 0 ≤ (P.map Pos.paid).sum ∧ 0 ≤ (P.map Pos.reserve).sum ∧ (P.map Pos.paid).sum + (P.map Pos.reserve).sum = sumPR P
  | [], s, _, _, _, _ => by simp [sumPR]
  | p :: P, s, h, h1, h2, h3 => by
    have hp := h p (by simp)
    have hn := sumPR_nn' (P := P) fun q hq => h q (by simp [hq])
    have hs : sumPR (p :: P) = (p.paid + p.reserve) + sumPR P := by simp [sumPR]
    rw [hs] at h3
    have w1 : IntKind.i64.wrap (s.paid + p.paid) = s.paid + p.paid := by rw [wrap_id] <;> omega
    have w2 : IntKind.i64.wrap (s.reserve + p.reserve) = s.reserve + p.reserve := by rw [wrap_id] <;> omega
    have ih := sumP_pr P (addPos s p) (fun q hq => h q (by simp [hq])) (by simp only [addPos, w1]; omega) (by simp only [addPos, w2]; omega) (by simp only [addPos, w1, w2]; omega)
    simp only [addPos, w1, w2] at ih
    rw [List.foldl_cons, List.map_cons, List.map_cons, List.sum_cons, List.sum_cons, hs]
    have e : (P.foldl addPos (addPos s p)) = P.foldl addPos ⟨IntKind.i64.wrap (s.gross + p.gross), IntKind.i64.wrap (s.shown + p.shown), s.paid + p.paid, IntKind.i64.wrap (s.back + p.back), s.reserve + p.reserve, s.opn || p.opn⟩ := by simp only [addPos, w1, w2]
    rw [e]
    omega
theorem of_pr {c : Cover} {l : List File} (he : checkE c l = 0) : ∀ p, p ∈ ofL c l → 0 ≤ p.paid ∧ 0 ≤ p.reserve := by
  intro p h
  obtain ⟨k, hk⟩ := List.mem_iff_getElem?.1 h
  have hkl := (List.getElem?_eq_some_iff.1 hk).1
  rw [ofL_len he] at hkl
  have e0 : l[k]? = some l[k] := List.getElem?_eq_getElem hkl
  obtain ⟨r, h1, h2, -⟩ := of_file he e0
  have h5 := paid_file he e0
  rw [h1] at hk
  injection hk with hk
  subst hk
  exact ⟨h5.1, h2⟩
theorem sum_bd {c : Cover} {l : List File} (he : checkE c l = 0) : 0 ≤ (sumP (ofL c l)).paid ∧ 0 ≤ (sumP (ofL c l)).reserve ∧ (sumP (ofL c l)).paid + (sumP (ofL c l)).reserve ≤ c.agg ∧ c.agg ≤ 1000000000000000 := by
  have hr : c.rightB = true := by have := (chk_right he).1; rw [adjRight, Bool.and_eq_true] at this; exact this.1
  have hcv := cvRight_iff.1 hr
  have h1 := of_sum he
  have h2 := sumP_pr (ofL c l) zeroP (of_pr he) (Int.le_refl _) (Int.le_refl _) (by simp only [zeroP]; omega)
  simp only [zeroP, Int.zero_add] at h2
  have e : sumP (ofL c l) = (ofL c l).foldl addPos ⟨0, 0, 0, 0, 0, false⟩ := rfl
  rw [e]
  omega
theorem daysS_len (l : List File) : (daysS l).length = l.length + actsN l := by
  induction l with
  | nil => rfl
  | cons f l ih =>
    have h1 : daysS (f :: l) = daysF f ++ daysS l := rfl
    have h2 : actsN (f :: l) = f.acts.length + actsN l := by simp [actsN]
    have h3 : (daysF f).length = f.acts.length + 1 := by simp [daysF]
    rw [h1, List.length_append, h3, ih, h2, List.length_cons]
    omega
theorem days_in {c : Cover} {l : List File} (he : checkE c l = 0) : ∀ x, x ∈ daysS l → 1 ≤ x ∧ x ≤ 292194 := by
  intro x hx
  obtain ⟨har, -⟩ := chk_right he
  unfold daysS at hx
  rw [List.mem_flatten] at hx
  obtain ⟨q, hq, hx⟩ := hx
  obtain ⟨f, hf, rfl⟩ := List.mem_map.1 hq
  have hg := right_good har hf
  rw [adjRight, Bool.and_eq_true, List.all_eq_true] at har
  have hok := har.2 f hf
  rw [okFile, Bool.and_eq_true, Bool.and_eq_true] at hok
  have hfm := hok.1.1
  rcases List.mem_cons.1 hx with rfl | hx
  · simp only [Claim.formedB, Bool.and_eq_true, inR_iff] at hfm
    omega
  · obtain ⟨a, ha, rfl⟩ := List.mem_map.1 hx
    have := Act.right_iff.1 (hg.right a ha)
    omega
/-- The curve of what files come to, over these days. -/
def curveO (f : Pos → Int) (c : Cover) (l : List File) (D : List Int) : List (Int × Int) := D.foldl (fun O d => putO O d (f (sumP (ofL c (knownR l d))))) []
theorem curveO_take {f : Pos → Int} {c : Cover} {l : List File} {D : List Int} {i : Nat} {d : Int} (h : D[i]? = some d) : curveO f c l (D.take (i + 1)) = putO (curveO f c l (D.take i)) d (f (sumP (ofL c (knownR l d)))) := by
  rw [List.take_add_one, h, curveO, List.foldl_append]
  rfl
theorem curveO_len (f : Pos → Int) (c : Cover) (l : List File) (D : List Int) : ∀ i, i ≤ D.length → (curveO f c l (D.take i)).length ≤ i := by
  intro i
  induction i with
  | zero => intro _; exact Nat.le_refl _
  | succ i ih =>
    intro hi
    have h := ih (by omega)
    rw [curveO_take (List.getElem?_eq_getElem (by omega : i < D.length))]
    unfold putO
    split
    · omega
    · rw [List.length_append, List.length_singleton]; omega
def cvE (c : Cover) (l : List File) : Int := if checkE c l = 0 then (if 2000 < (daysL l).length then 2 else 0) else checkE c l
def cvO (f : Pos → Int) (c : Cover) (l : List File) : List (Int × Int) := if cvE c l = 0 then curveO f c l (daysL l) else []
abbrev stepA (O : List (Int × Int)) : AV := .agg [ints (daysO O), ints (valsO O)]

/-! ### A growing step in memory -/
def stX (b : Nat) (O : List (Int × Int)) : AV := if O = [] then .v (.slice none 0 0) else .osl b 1 0 O.length
def stB (b : Nat) (O : List (Int × Int)) : List (Nat × Option Bx) := if O = [] then [] else [(b, some ⟨3, rowC irow (daysO O)⟩), (b + 1, some ⟨3, rowC irow (valsO O)⟩)]
theorem stX_nil (b : Nat) : stX b [] = .v (.slice none 0 0) := rfl
theorem stB_nil (b : Nat) : stB b [] = [] := rfl
theorem stX_some {b : Nat} {O : List (Int × Int)} (h : O ≠ []) : stX b O = .osl b 1 0 O.length := if_neg h
theorem stB_some {b : Nat} {O : List (Int × Int)} (h : O ≠ []) : stB b O = [(b, some ⟨3, rowC irow (daysO O)⟩), (b + 1, some ⟨3, rowC irow (valsO O)⟩)] := if_neg h
@[go_sem] def nm4 (a b c d e f g h x : Nat) : Nat := if x = a then b else if x = c then d else if x = e then f else if x = g then h else x
theorem daysO_snoc (O : List (Int × Int)) (d v : Int) : rowC irow (daysO (O ++ [(d, v)])) = rowC irow (daysO O) ++ [int d] := by rw [daysO, List.map_append]; exact rowI_snoc _ _
theorem valsO_snoc (O : List (Int × Int)) (d v : Int) : rowC irow (valsO (O ++ [(d, v)])) = rowC irow (valsO O) ++ [int v] := by rw [valsO, List.map_append]; exact rowI_snoc _ _
theorem lastO_nil : lastO [] = 0 := rfl
theorem fzi {t : TypeId} {R : AV → AV → Prop} (L : List Int) {n : Nat} (h : n = L.length) : (n = L.length ∧ ∀ r, r ∈ L.map irow → r.length = 1) ∧ fzo (some ⟨t, rowC irow L⟩) R 1 0 n (L.map irow) :=
  ⟨⟨h, rows_len (F := irow) (fun _ => rfl) L⟩, fzo_rows (F := irow) (k := 1) (fun _ => rfl) (fun _ => by simp [irow]) L h⟩
theorem four_ways (O : List (Int × Int)) (v : Int) : (O = [] ∧ v = 0) ∨ (O = [] ∧ v ≠ 0) ∨ (O ≠ [] ∧ v = lastO O) ∨ (O ≠ [] ∧ v ≠ lastO O) := by
  by_cases h : O = [] <;> by_cases h2 : v = 0 <;> by_cases h3 : v = lastO O <;> simp_all
theorem stX_one (b : Nat) (p : Int × Int) : stX b [p] = .osl b 1 0 1 := rfl
theorem stB_one (b : Nat) (d v : Int) : stB b [(d, v)] = [(b, some ⟨3, [int d]⟩), (b + 1, some ⟨3, [int v]⟩)] := rfl
theorem stX_snoc (b : Nat) (O : List (Int × Int)) (p : Int × Int) : stX b (O ++ [p]) = .osl b 1 0 (O.length + 1) := by rw [stX_some (by simp), List.length_append]; rfl
theorem stB_snoc (b : Nat) (O : List (Int × Int)) (d v : Int) : stB b (O ++ [(d, v)]) = [(b, some ⟨3, rowC irow (daysO O) ++ [int d]⟩), (b + 1, some ⟨3, rowC irow (valsO O) ++ [int v]⟩)] := by rw [stB_some (by simp), daysO_snoc, valsO_snoc]
set_option maxHeartbeats 16000000 in
theorem curves_f (c : Cover) (l : List File) (hc : c.ok) (hl : l.length ≤ 100000) : Fun Tryz.prog 6 [.agg c.flat, filesA l] (.tup [stepA (cvO Pos.paid c l), stepA (cvO Pos.reserve c l), int (cvE c l)]) := by
  have k1 := sum_f c l hc hl
  by_cases he : checkE c l = 0
  · obtain ⟨har, hn1, hn2⟩ := chk_right he
    have hds := daysS_len l
    have hdi := days_in he
    have k2 := days_f l (by omega) fun x hx => by have := hdi x hx; unfold Int64; omega
    have hrl := right_len har
    have kK := fun d => known_f l d hl fun f hf => Nat.le_trans (hrl f hf) (by omega)
    have kS := fun d => sum_f c (knownR l d) hc (Nat.le_trans (knownR_len l d) hl)
    have hbd := fun d => sum_bd (check_known he d)
    have hck := fun d => check_known he d
    rw [he] at k1
    have hcE : cvE c l = if 2000 < (daysL l).length then 2 else 0 := by rw [cvE, if_pos he]
    by_cases hd : (daysL l).length > 2000
    · have hd2 : ((daysL l).length : Int) > 2000 := by omega
      rw [if_pos hd] at hcE
      have h0 : ∀ f, cvO f c l = [] := fun f => by rw [cvO, if_neg (by rw [hcE]; decide)]
      rw [h0, h0, hcE]
      refine fun_W mixed Tryz.func6 rfl (Nat.le_of_ble_eq_true rfl) (by kernel_rfl) fun cx hN hR hF hL => ?_; apply args_k; (case hA => (simp only [go_sem, ↓reduceIte]; rfl))
      (repeat' first|((try (revert K;refine bK ?_));refine' run (I (eq_true hd2) (decide_eq_true hd2)) ?_;(repeat' first|exact True.intro|refine Lv.mk ?_ ?_|(refine oK ?_;intro K hK)|intro hq);all_goals refine Lf.mk ?_)|refine callZ cl10 (k1) ?_|refine callZ cl11 (k2) ?_)
      exact ⟨rfl, rfl⟩
    · have hd2 : ¬ ((daysL l).length : Int) > 2000 := by omega
      rw [if_neg hd] at hcE
      have h0 : ∀ f, cvO f c l = curveO f c l (daysL l) := fun f => by rw [cvO, if_pos hcE]
      rw [h0, h0, hcE]
      generalize daysL l = D at *
      refine fun_W mixed Tryz.func6 rfl (Nat.le_of_ble_eq_true rfl) (by kernel_rfl) fun cx hN hR hF hL => ?_; apply args_k; (case hA => (simp only [go_sem, ↓reduceIte]; rfl))
      (repeat' first|((try (revert K;refine bK ?_));refine' run (I (eq_false hd2) (decide_eq_false hd2)) ?_;(repeat' first|exact True.intro|refine Lv.mk ?_ ?_|(refine oK ?_;intro K hK)|intro hq);all_goals refine Lf.mk ?_)|refine callZ cl10 (k1) ?_|refine callZ cl11 (k2) ?_)
      refine loopW mixed (σ := {i : Nat // i ≤ D.length}) (fun s => ⟨[(35, int s.1), (33, ints D), (34, int D.length), (1, filesA l), (2, .ptr 0 0), (4, .ptr 8 0), (5, .ptr 16 0), (10, bool false)], (8, some ⟨stepT, [stX 6990 (curveO Pos.paid c l (D.take s.1)), stX 6991 (curveO Pos.paid c l (D.take s.1))]⟩) :: (16, some ⟨stepT, [stX 6992 (curveO Pos.reserve c l (D.take s.1)), stX 6993 (curveO Pos.reserve c l (D.take s.1))]⟩) :: (0, some ⟨23, c.flat⟩) :: (stB 6990 (curveO Pos.paid c l (D.take s.1)) ++ stB 6992 (curveO Pos.reserve c l (D.take s.1))), 7000⟩) (fun s => D.length - s.1) id ⟨0, by omega⟩ (by rw [hN]; kernel_rfl) ?_ ?_
      · simp only [List.take_zero, show ∀ f, curveO f c l [] = [] from fun _ => rfl, stX_nil, stB_nil, List.nil_append]
        simp only [go_sem, ↓reduceIte, hF]
        rfl
      · rintro ⟨i, g1⟩
        by_cases gi : i < D.length
        · have e0 : D[i]? = some D[i] := List.getElem?_eq_getElem gi
          have e1 : (D.map irow)[i]? = some (irow D[i]) := by rw [List.getElem?_map, e0]; rfl
          have e2 : IntKind.i64.wrap ((i : Int) + 1) = ((i + 1 : Nat) : Int) := by rw [wrap_id] <;> omega
          have hg1 : i < (D.map irow).length := by simpa using gi
          have s1 := curveO_take (f := Pos.paid) (c := c) (l := l) e0
          have s2 := curveO_take (f := Pos.reserve) (c := c) (l := l) e0
          have l1 := curveO_len Pos.paid c l D i g1
          have l2 := curveO_len Pos.reserve c l D i g1
          generalize D[i] = d at *
          have kK := kK d
          have kS := kS d
          have hbd := hbd d
          rw [hck d] at kS
          generalize knownR l d = m at *
          generalize sumP (ofL c m) = q at *
          obtain ⟨q1, q2, q3, q4, q5, q6⟩ := q
          simp only at hbd s1 s2
          have c1 : (q3 > 4000000000000000000) = False := eq_false (by omega)
          have c2 : (q5 > 4000000000000000000) = False := eq_false (by omega)
          generalize hO1 : curveO Pos.paid c l (D.take i) = A at *
          generalize hO2 : curveO Pos.reserve c l (D.take i) = B at *
          simp only [hO1, hO2]
          (repeat' first|((try (revert K;refine bK ?_));refine' run (I e1 (I e2 (I hg1 (I c1 (I c2 (I (decide_eq_false (of_eq_false c1)) (decide_eq_false (of_eq_false c2)))))))) ?_;(repeat' first|exact True.intro|refine Lv.mk ?_ ?_|(refine oK ?_;intro K hK)|intro hq);all_goals refine Lf.mk ?_)|refine callZ cl12 (kK) ?_|refine callZ cl10 (kS) ?_)
          obtain hA | hA | hA | hA : (A = [] ∧ q3 = 0) ∨ (A = [] ∧ q3 ≠ 0) ∨ (A ≠ [] ∧ q3 = lastO A) ∨ (A ≠ [] ∧ q3 ≠ lastO A) := four_ways _ _
          all_goals first
            | (have hh : A = [] ∧ q3 = 0 := hA; obtain ⟨rfl, rfl⟩ := hh; rw [putO, lastO_nil, if_pos rfl] at s1; simp only [stX_nil, stB_nil, List.nil_append]; (apply callB' [8] cl13 (put0N_f d); (case h1 | h2 | h3 => (simp only [go_sem, ↓reduceIte]; try rfl)); (case hl | hs | hfp | hfr => (simp [go_sem]; done))))
            | (have hh : A = [] ∧ q3 ≠ 0 := hA; obtain ⟨rfl, hv1⟩ := hh; rw [putO, lastO_nil, if_neg hv1, List.nil_append] at s1; simp only [stX_nil, stB_nil, List.nil_append]; (apply callB' [8, 12024, 12025] cl13 (put0_f d q3 hv1); (case h1 | h2 | h3 => (simp only [go_sem, ↓reduceIte]; try rfl)); (case hl | hs | hfp | hfr => (simp [go_sem]; done))))
            | (have hh : A ≠ [] ∧ q3 = lastO A := hA; obtain ⟨n1, rfl⟩ := hh; rw [putO, if_pos rfl] at s1; simp only [stX_some n1, stB_some n1, List.cons_append, List.nil_append]; (apply callB' [8, 6990, 6991] cl13 (putN_f A d n1 (by omega)); (case h1 | h2 | h3 => (simp only [go_sem, ↓reduceIte]; try rfl)); (case hl | hs | hfp | hfr => (simp [go_sem]; done))))
            | (have hh : A ≠ [] ∧ q3 ≠ lastO A := hA; obtain ⟨n1, hv1⟩ := hh; rw [putO, if_neg hv1] at s1; simp only [stX_some n1, stB_some n1, List.cons_append, List.nil_append]; (apply callB' [8, 6990, 6991, 12024, 12025] cl13 (put1_f A d q3 n1 (by omega) hv1); (case h1 | h2 | h3 => (simp only [go_sem, ↓reduceIte]; try rfl)); (case hl | hs | hfp | hfr => (simp [go_sem]; done))))
          all_goals (try ((try (revert K;refine bK ?_));refine' run (I e1 (I e2 (I hg1 (I c1 (I c2 (I (decide_eq_false (of_eq_false c1)) (decide_eq_false (of_eq_false c2)))))))) ?_;(repeat' first|exact True.intro|refine Lv.mk ?_ ?_|(refine oK ?_;intro K hK)|intro hq);all_goals refine Lf.mk ?_))
          all_goals obtain hB | hB | hB | hB : (B = [] ∧ q5 = 0) ∨ (B = [] ∧ q5 ≠ 0) ∨ (B ≠ [] ∧ q5 = lastO B) ∨ (B ≠ [] ∧ q5 ≠ lastO B) := four_ways _ _
          all_goals first
            | (have hh : B = [] ∧ q5 = 0 := hB; obtain ⟨rfl, rfl⟩ := hh; rw [putO, lastO_nil, if_pos rfl] at s2; simp only [stX_nil, stB_nil, List.nil_append]; (apply callB' [16] cl13 (put0N_f d); (case h1 | h2 | h3 => (simp only [go_sem, ↓reduceIte]; try rfl)); (case hl | hs | hfp | hfr => (simp [go_sem]; done))))
            | (have hh : B = [] ∧ q5 ≠ 0 := hB; obtain ⟨rfl, hv2⟩ := hh; rw [putO, lastO_nil, if_neg hv2, List.nil_append] at s2; simp only [stX_nil, stB_nil, List.nil_append]; (apply callB' [16, 13024, 13025] cl13 (put0_f d q5 hv2); (case h1 | h2 | h3 => (simp only [go_sem, ↓reduceIte]; try rfl)); (case hl | hs | hfp | hfr => (simp [go_sem]; done))))
            | (have hh : B ≠ [] ∧ q5 = lastO B := hB; obtain ⟨n2, rfl⟩ := hh; rw [putO, if_pos rfl] at s2; simp only [stX_some n2, stB_some n2, List.cons_append, List.nil_append]; (apply callB' [16, 6992, 6993] cl13 (putN_f B d n2 (by omega)); (case h1 | h2 | h3 => (simp only [go_sem, ↓reduceIte]; try rfl)); (case hl | hs | hfp | hfr => (simp [go_sem]; done))))
            | (have hh : B ≠ [] ∧ q5 ≠ lastO B := hB; obtain ⟨n2, hv2⟩ := hh; rw [putO, if_neg hv2] at s2; simp only [stX_some n2, stB_some n2, List.cons_append, List.nil_append]; (apply callB' [16, 6992, 6993, 13024, 13025] cl13 (put1_f B d q5 n2 (by omega) hv2); (case h1 | h2 | h3 => (simp only [go_sem, ↓reduceIte]; try rfl)); (case hl | hs | hfp | hfr => (simp [go_sem]; done))))
          all_goals (try ((try (revert K;refine bK ?_));refine' run (I e1 (I e2 (I hg1 (I c1 (I c2 (I (decide_eq_false (of_eq_false c1)) (decide_eq_false (of_eq_false c2)))))))) ?_;(repeat' first|exact True.intro|refine Lv.mk ?_ ?_|(refine oK ?_;intro K hK)|intro hq);all_goals refine Lf.mk ?_))
          all_goals first
            | (refine ⟨⟨i + 1, gi⟩, id, ?_, by show D.length - (i + 1) < D.length - i; omega⟩; simp (disch := assumption) only [s1, s2, stX_nil, stB_nil, stX_one, stB_one, stX_snoc, stB_snoc, stX_some, stB_some, List.cons_append, List.nil_append]; simp only [go_sem, ↓reduceIte, hF, List.map_append, List.all_append]; done)
            | (refine ⟨⟨i + 1, gi⟩, (nm2 6990 12024 6991 12025), ?_, by show D.length - (i + 1) < D.length - i; omega⟩; simp (disch := assumption) only [s1, s2, stX_nil, stB_nil, stX_one, stB_one, stX_snoc, stB_snoc, stX_some, stB_some, List.cons_append, List.nil_append]; simp only [go_sem, ↓reduceIte, hF, List.map_append, List.all_append]; done)
            | (refine ⟨⟨i + 1, gi⟩, (nm2 6992 13024 6993 13025), ?_, by show D.length - (i + 1) < D.length - i; omega⟩; simp (disch := assumption) only [s1, s2, stX_nil, stB_nil, stX_one, stB_one, stX_snoc, stB_snoc, stX_some, stB_some, List.cons_append, List.nil_append]; simp only [go_sem, ↓reduceIte, hF, List.map_append, List.all_append]; done)
            | (refine ⟨⟨i + 1, gi⟩, (nm4 6990 12024 6991 12025 6992 13024 6993 13025), ?_, by show D.length - (i + 1) < D.length - i; omega⟩; simp (disch := assumption) only [s1, s2, stX_nil, stB_nil, stX_one, stB_one, stX_snoc, stB_snoc, stX_some, stB_some, List.cons_append, List.nil_append]; simp only [go_sem, ↓reduceIte, hF, List.map_append, List.all_append]; done)
        · obtain rfl : i = D.length := by omega
          simp only [List.take_length]
          generalize curveO Pos.paid c l D = A at *
          generalize curveO Pos.reserve c l D = B at *
          by_cases nA : A = []
          · by_cases nB : B = []
            · subst nA nB
              simp only [stX_nil, stB_nil, List.append_nil]
              (try ((try (revert K;refine bK ?_));refine' run trivial ?_;(repeat' first|exact True.intro|refine Lv.mk ?_ ?_|(refine oK ?_;intro K hK)|intro hq);all_goals refine Lf.mk ?_))
              exact ⟨rfl, rfl⟩
            · subst nA
              simp only [stX_nil, stB_nil, stX_some nB, stB_some nB, List.nil_append]
              (try ((try (revert K;refine bK ?_));refine' run trivial ?_;(repeat' first|exact True.intro|refine Lv.mk ?_ ?_|(refine oK ?_;intro K hK)|intro hq);all_goals refine Lf.mk ?_))
              exact ⟨⟨rfl, rfl⟩, fzi _ (daysO_len B).symm, fzi _ (valsO_len B).symm⟩
          · by_cases nB : B = []
            · subst nB
              simp only [stX_nil, stB_nil, stX_some nA, stB_some nA, List.append_nil]
              (try ((try (revert K;refine bK ?_));refine' run trivial ?_;(repeat' first|exact True.intro|refine Lv.mk ?_ ?_|(refine oK ?_;intro K hK)|intro hq);all_goals refine Lf.mk ?_))
              exact ⟨⟨fzi _ (daysO_len A).symm, fzi _ (valsO_len A).symm⟩, rfl, rfl⟩
            · simp only [stX_some nA, stB_some nA, stX_some nB, stB_some nB, List.cons_append, List.nil_append]
              (try ((try (revert K;refine bK ?_));refine' run trivial ?_;(repeat' first|exact True.intro|refine Lv.mk ?_ ?_|(refine oK ?_;intro K hK)|intro hq);all_goals refine Lf.mk ?_))
              exact ⟨⟨fzi _ (daysO_len A).symm, fzi _ (valsO_len A).symm⟩, fzi _ (daysO_len B).symm, fzi _ (valsO_len B).symm⟩
  · have hcE : cvE c l = checkE c l := by rw [cvE, if_neg he]
    have h0 : ∀ f, cvO f c l = [] := fun f => by rw [cvO, if_neg (by rw [hcE]; exact he)]
    rw [h0, h0, hcE]
    refine fun_W mixed Tryz.func6 rfl (Nat.le_of_ble_eq_true rfl) (by kernel_rfl) fun cx hN hR hF hL => ?_; apply args_k; (case hA => (simp only [go_sem, ↓reduceIte]; rfl))
    (repeat' first|((try (revert K;refine bK ?_));refine' run (I (eq_false he) (decide_eq_false he)) ?_;(repeat' first|exact True.intro|refine Lv.mk ?_ ?_|(refine oK ?_;intro K hK)|intro hq);all_goals refine Lf.mk ?_)|refine callZ cl10 (k1) ?_)
    exact ⟨rfl, rfl⟩
end Go.Proofs.YtjplhfmakghabaaGreat.V
