/- slices.SortStableFunc at ints by days: the comparison; insertionSort. slices.SortStableFunc: merging, as plain lists. slices.SortStableFunc at ints by days: symMerge. slices.SortStableFunc at ints by days: symMerge of one element behind. -/
import Derived.Test.YtkonljmmdifnaaaGreatG8
set_option linter.unusedSimpArgs false
set_option linter.unusedVariables false
namespace Go.Proofs.YtkonljmmdifnaaaGreat.V
open Go.RowKit
set_option maxRecDepth 100000

def compareJ (a b : Int) : Int := if a < b then -1 else if b < a then 1 else 0
theorem cmp_lt (a b : Int) : decide (compareJ a b < 0) = decide (a < b) := by
  unfold compareJ
  by_cases h : a < b
  · simp [h]
  · by_cases h2 : b < a <;> simp [h, h2]

theorem compareJ_f (a b : Int) : Fun Tryz.prog 44 [int a, int b] (int (compareJ a b)) := by
  refine fun_W mixed Tryz.func44 rfl (Nat.le_of_ble_eq_true rfl) (by kernel_rfl) fun cx hN hR hF hL => ?_; apply args_k; (case hA => (simp only [go_sem, ↓reduceIte]; rfl))
  (repeat' first|((try (revert K;refine bK ?_));refine' run trivial ?_;(repeat' first|exact True.intro|refine Lv.mk ?_ ?_|(refine oK ?_;intro K hK)|intro hq);all_goals refine Lf.mk ?_)|refine callZ cl75 (isNaN_f _) ?_)
  · simp [compareJ, hq]
  · rename_i h
    simp [compareJ, hq, show ¬ a < b by omega]
  · rename_i h
    simp [compareJ, show ¬ a < b by omega, show ¬ b < a by omega]

def dayAt (h : History) (x : Int) : Int := ((h.changes[x.toNat]?).map Change.day).getD 0
def placeOf (h : History) (x : Int) : Prop := 0 ≤ x ∧ x < h.changes.length
def ltO (h : History) (x y : Int) : Bool := decide (dayAt h x < dayAt h y)

theorem orderJ_f (h : History) (x y : Int) (hx : placeOf h x) (hy : placeOf h y) : Fun Tryz.prog 121 [int x, int y, .pp h.flat] (int (compareJ (dayAt h x) (dayAt h y))) := by
  obtain ⟨i, rfl⟩ : ∃ i : Nat, x = i := ⟨x.toNat, by have := hx.1; omega⟩
  obtain ⟨j, rfl⟩ : ∃ j : Nat, y = j := ⟨y.toNat, by have := hy.1; omega⟩
  have hi2 : i < h.changes.length := by have := hx.2; omega
  have hj2 : j < h.changes.length := by have := hy.2; omega
  have hi : h.changes[i]? = some h.changes[i] := List.getElem?_eq_getElem hi2
  have hj : h.changes[j]? = some h.changes[j] := List.getElem?_eq_getElem hj2
  have di : dayAt h (i : Int) = (h.changes[i]).day := by simp [dayAt, hi]
  have dj : dayAt h (j : Int) = (h.changes[j]).day := by simp [dayAt, hj]
  rw [di, dj]
  refine fun_W mixed Tryz.func121 rfl (Nat.le_of_ble_eq_true rfl) (by kernel_rfl) fun cx hN hR hF hL => ?_; apply args_k; (case hA => (simp only [go_sem, ↓reduceIte]; rfl))
  (repeat' first|((try (revert K;refine bK ?_));refine' run (I hi hj) ?_;(repeat' first|exact True.intro|refine Lv.mk ?_ ?_|(refine oK ?_;intro K hK)|intro hq);all_goals refine Lf.mk ?_)|refine callZ cl44 (compareJ_f _ _) ?_)

/-- x is put among what lies behind, turned round. -/
def insR {α : Type} (lt : α → α → Bool) (x : α) : List α → List α
  | [] => [x]
  | p :: P => if lt x p then p :: insR lt x P else x :: p :: P
def isortR {α : Type} (lt : α → α → Bool) (S : List α) : List α := S.foldl (fun r x => insR lt x r) []
def isort {α : Type} (lt : α → α → Bool) (S : List α) : List α := (isortR lt S).reverse

theorem insR_len {α : Type} (lt : α → α → Bool) (x : α) : ∀ P, (insR lt x P).length = P.length + 1
  | [] => rfl
  | p :: P => by
    rw [insR]
    split
    · simp [insR_len lt x P]
    · simp
theorem isortR_snoc {α : Type} (lt : α → α → Bool) (S : List α) (x : α) : isortR lt (S ++ [x]) = insR lt x (isortR lt S) := by simp [isortR]
theorem isort_len {α : Type} (lt : α → α → Bool) (S : List α) : (isort lt S).length = S.length := by
  unfold isort
  rw [List.length_reverse]
  rcases List.eq_nil_or_concat S with rfl | ⟨S, x, rfl⟩
  · rfl
  · have ih := isort_len lt S
    unfold isort at ih
    rw [List.length_reverse] at ih
    rw [List.concat_eq_append, isortR_snoc, insR_len, ih]
    simp
termination_by S.length
decreasing_by simp_all

theorem insR_at {α : Type} {lt : α → α → Bool} {x : α} : ∀ (Q P : List α), (∀ q, q ∈ Q → lt x q = true) → (∀ p, P.head? = some p → lt x p = false) → insR lt x (Q ++ P) = Q ++ x :: P
  | [], [], _, _ => rfl
  | [], p :: P, _, h => by
    rw [List.nil_append, insR, h p rfl]
    rfl
  | q :: Q, P, hq, h => by
    rw [List.cons_append, insR, hq q (by simp), if_pos rfl, insR_at Q P (fun z hz => hq z (by simp [hz])) h, List.cons_append]

theorem isort_snoc {α : Type} {lt : α → α → Bool} {S P Q : List α} {x : α} (h : P ++ Q = isort lt S) (hq : ∀ q, q ∈ Q → lt x q = true) (hp : ∀ p, P.getLast? = some p → lt x p = false) : isort lt (S ++ [x]) = P ++ x :: Q := by
  unfold isort at h ⊢
  have h2 : isortR lt S = Q.reverse ++ P.reverse := by
    have := congrArg List.reverse h
    rw [List.reverse_reverse, List.reverse_append] at this
    exact this.symm
  rw [isortR_snoc, h2, insR_at _ _ (fun q hm => hq q (by simpa using hm)) (fun p hm => hp p (by simpa using hm))]
  simp

theorem isort_mem {α : Type} {lt : α → α → Bool} {S : List α} {y : α} : y ∈ isort lt S ↔ y ∈ S := by
  have ins : ∀ (x : α) (P : List α), y ∈ insR lt x P ↔ y = x ∨ y ∈ P := by
    intro x P
    induction P with
    | nil => simp [insR]
    | cons p P ih =>
      rw [insR]
      split
      · simp [ih]; grind
      · simp
  unfold isort
  rw [List.mem_reverse]
  unfold isortR
  have key : ∀ (S r : List α), y ∈ S.foldl (fun r x => insR lt x r) r ↔ y ∈ S ∨ y ∈ r := by
    intro S
    induction S with
    | nil => simp
    | cons s S ih => intro r; rw [List.foldl_cons, ih, ins]; simp; grind
  rw [key]; simp

theorem insertion_f (h : History) (X S Y : List Int) (hl : (X ++ (S ++ Y)).length ≤ 100000) (h0 : 0 < (X ++ (S ++ Y)).length) (hS : ∀ x, x ∈ S → placeOf h x) :
    FunB Tryz.prog 162 [(0, ⟨3, rowC irow (X ++ (S ++ Y))⟩), (1, ⟨31, h.flat⟩)] [.osl 0 1 0 (X ++ (S ++ Y)).length, int X.length, int (X.length + S.length : Nat), .fn (.func 121) [] [.ptr 1 0]] (.tup []) [(0, some ⟨3, rowC irow (X ++ (isort (ltO h) S ++ Y))⟩)] := by
  have hne2 := rowI_nz h0
  have hlen : (X ++ (S ++ Y)).length = X.length + S.length + Y.length := by simp; omega
  rw [hlen] at hl
  generalize hn : (X ++ (S ++ Y)).length = n at *
  generalize ha : X.length = a at *
  have hsl : (isort (ltO h) S).length = S.length := isort_len _ _
  refine fun_WB 2 mixed Tryz.func162 rfl (Nat.le_of_ble_eq_true rfl) (by kernel_rfl) (by simp [go_sem, hne2, rowI_nms']) fun cx hN hR hF hL => ?_; apply args_kb; (case hA => (simp only [go_sem, ↓reduceIte]; rfl)); (case hB => (simp only [go_sem, ↓reduceIte]; rfl))
  have hF2 : ∀ b g, cx.F b = some g → b < 3000 := fun b g h => by
    have := hF b g h
    simp [inl] at this
    omega
  have w1 : IntKind.i64.wrap ((a : Int) + 1) = ((a + 1 : Nat) : Int) := by rw [wrap_id] <;> omega
  (try ((try (revert K;refine bK ?_));refine' run w1 ?_;(repeat' first|exact True.intro|refine Lv.mk ?_ ?_|(refine oK ?_;intro K hK)|intro hq);all_goals refine Lf.mk ?_))
  refine loopW mixed (σ := {i : Nat // i ≤ S.length ∨ i = 1}) (fun s => ⟨[(8, int (a + s.1 : Nat)), (0, .osl 0 1 0 n), (1, int a), (2, int (a + S.length : Nat)), (3, .fn (.func 121) [] [.ptr 1 0])], [(0, some ⟨3, rowC irow (X ++ (isort (ltO h) (S.take s.1) ++ (S.drop s.1 ++ Y)))⟩), (1, some ⟨31, h.flat⟩)], 3000⟩) (fun s => S.length - s.1) id ⟨1, .inr rfl⟩ (by rw [hN]; kernel_rfl) ?_ ?_
  · simp only [go_sem, ↓reduceIte, hF]
    refine ⟨?_, hF2⟩
    rcases S with _ | ⟨s, S⟩
    · rfl
    · simp [isort, isortR, insR]
  · rintro ⟨i, g1⟩
    by_cases hi : i < S.length
    · have c1 : decide (((a + i : Nat) : Int) < ((a + S.length : Nat) : Int)) = true := by simp; omega
      (try ((try (revert K;refine bK ?_));refine' run c1 ?_;(repeat' first|exact True.intro|refine Lv.mk ?_ ?_|(refine oK ?_;intro K hK)|intro hq);all_goals refine Lf.mk ?_))
      have hd : S.drop i = S[i] :: S.drop (i + 1) := List.drop_eq_getElem_cons hi
      have hx : placeOf h S[i] := hS _ (List.getElem_mem hi)
      have htk : S.take (i + 1) = S.take i ++ [S[i]] := List.take_succ_eq_append_getElem hi
      have hacc : (isort (ltO h) (S.take i)).length = i := by rw [isort_len, List.length_take]; omega
      have hmem : ∀ y, y ∈ isort (ltO h) (S.take i) → placeOf h y := fun y hy => hS y (List.mem_of_mem_take (isort_mem.1 hy))
      generalize S[i] = x at *
      generalize hR : S.drop (i + 1) ++ Y = R at *
      refine loopW mixed (σ := {p : List Int × List Int // p.1 ++ p.2 = isort (ltO h) (S.take i) ∧ ∀ q, q ∈ p.2 → ltO h x q = true}) (fun s => ⟨[(9, int (a + s.1.1.length : Nat)), (8, int (a + i : Nat)), (0, .osl 0 1 0 n), (1, int a), (2, int (a + S.length : Nat)), (3, .fn (.func 121) [] [.ptr 1 0])], [(0, some ⟨3, rowC irow (X ++ (s.1.1 ++ (x :: (s.1.2 ++ R))))⟩), (1, some ⟨31, h.flat⟩)], 6000⟩) (fun s => s.1.1.length) id ⟨(isort (ltO h) (S.take i), []), by simp, by simp⟩ (by rw [hN]; kernel_rfl) ?_ ?_
      · simp only [go_sem, ↓reduceIte, hF]
        rw [hacc, hd, ← hR]
        exact ⟨rfl, rfl, fun b g h => by have := hF2 b g h; omega⟩
      · rintro ⟨⟨P, Q⟩, g2, g3⟩
        simp only at g2 g3
        have g4 : P.length + Q.length = i := by rw [← hacc, ← g2, List.length_append]
        have hRl : R.length + i + 1 = S.length + Y.length := by rw [← hR, List.length_append, List.length_drop]; omega
        have e2 : IntKind.i64.wrap (((a + i : Nat) : Int) + 1) = ((a + (i + 1) : Nat) : Int) := by rw [wrap_id] <;> omega
        rcases List.eq_nil_or_concat P with hP | ⟨P', p, hP⟩
        · have c2 : decide ((a : Int) < ((a + P.length : Nat) : Int)) = false := by rw [hP]; simp
          (try ((try (revert K;refine bK ?_));refine' run (I c2 e2) ?_;(repeat' first|exact True.intro|refine Lv.mk ?_ ?_|(refine oK ?_;intro K hK)|intro hq);all_goals refine Lf.mk ?_))
          refine ⟨⟨i + 1, .inl hi⟩, id, ?_, by show S.length - (i + 1) < S.length - i; omega⟩
          have hs := isort_snoc g2 g3 (by rw [hP]; simp)
          rw [← htk] at hs
          simp only [go_sem, ↓reduceIte, hF, hs, hR]
          refine ⟨?_, hF2⟩
          simp
        · rw [List.concat_eq_append] at hP
          have hPl : P.length = P'.length + 1 := by rw [hP]; simp
          have hpm : placeOf h p := hmem p (by rw [← g2, hP]; simp)
          have c2 : decide ((a : Int) < ((a + P.length : Nat) : Int)) = true := by simp; omega
          have w2 : IntKind.i64.wrap (((a + P.length : Nat) : Int) - 1) = ((a + P'.length : Nat) : Int) := by rw [wrap_id] <;> omega
          have hLe : X ++ (P ++ x :: (Q ++ R)) = (X ++ P') ++ p :: x :: (Q ++ R) := by rw [hP]; simp
          have hLx : (X ++ (P ++ x :: (Q ++ R)))[a + P.length]? = some x := by
            rw [← List.append_assoc]; exact at_mid _ _ _ _ (by rw [List.length_append, ha])
          have hLp : (X ++ (P ++ x :: (Q ++ R)))[a + P'.length]? = some p := by
            rw [hLe]; exact at_mid _ _ _ _ (by rw [List.length_append, ha])
          have hLn : (X ++ (P ++ x :: (Q ++ R))).length = n := by
            simp only [List.length_append, List.length_cons]; omega
          have hst := set_pair (X ++ P') (Q ++ R) p x (a + P.length) (a + P'.length) (by rw [List.length_append]; omega) (by rw [List.length_append]; omega)
          rw [← hLe] at hst
          have hz := rowI_nz (l := X ++ (P ++ x :: (Q ++ R))) (by omega)
          generalize X ++ (P ++ x :: (Q ++ R)) = L at *
          have r1 := rowI_some hLx
          have r2 := rowI_some hLp
          have hn1 : (rowC irow L).length = n := by rw [rowI_len, hLn]
          have hn2 : (rowC irow (L.set (a + P.length) p)).length = n := by rw [rowI_len, List.length_set, hLn]
          have s1 := rowI_put L (a + P.length) p (by omega)
          have s2 := rowI_put (L.set (a + P.length) p) (a + P'.length) x (by rw [List.length_set]; omega)
          rw [hst] at s2
          cases hlt : ltO h x p
          · have d1 : decide (compareJ (dayAt h x) (dayAt h p) < 0) = false := by rw [cmp_lt]; exact hlt
            (try ((try (revert K;refine bK ?_));refine' run (I c2 (I e2 (I w2 (I r1 (I r2 (I hn1 hz)))))) ?_;(repeat' first|exact True.intro|refine Lv.mk ?_ ?_|(refine oK ?_;intro K hK)|intro hq);all_goals refine Lf.mk ?_))
            · (apply callL' [1] cl121 (orderJ_f h x p hx hpm); (case hp | hl => (simp only [go_sem, ↓reduceIte]; try rfl)); (case hx => (simp [AV.flat0])); (try (case hfz => (first | (simp only [go_sem]; done) | (simp [go_sem, fzo]; done)))))
              (try ((try (revert K;refine bK ?_));refine' run (I c2 (I e2 (I w2 (I r1 (I r2 (I hn1 (I hz d1))))))) ?_;(repeat' first|exact True.intro|refine Lv.mk ?_ ?_|(refine oK ?_;intro K hK)|intro hq);all_goals refine Lf.mk ?_))
              refine ⟨⟨i + 1, .inl hi⟩, id, ?_, by show S.length - (i + 1) < S.length - i; omega⟩
              have hs := isort_snoc g2 g3 (by
                rw [hP]
                intro z hz
                simp at hz
                subst hz
                exact hlt)
              rw [← htk] at hs
              simp only [go_sem, ↓reduceIte, hF, hs, hR]
              refine ⟨?_, hF2⟩
              rw [hLe, hP]
              simp
          · have d1 : decide (compareJ (dayAt h x) (dayAt h p) < 0) = true := by rw [cmp_lt]; exact hlt
            (try ((try (revert K;refine bK ?_));refine' run (I c2 (I e2 (I w2 (I r1 (I r2 (I hn1 hz)))))) ?_;(repeat' first|exact True.intro|refine Lv.mk ?_ ?_|(refine oK ?_;intro K hK)|intro hq);all_goals refine Lf.mk ?_))
            · (apply callL' [1] cl121 (orderJ_f h x p hx hpm); (case hp | hl => (simp only [go_sem, ↓reduceIte]; try rfl)); (case hx => (simp [AV.flat0])); (try (case hfz => (first | (simp only [go_sem]; done) | (simp [go_sem, fzo]; done)))))
              (try ((try (revert K;refine bK ?_));refine' run (I c2 (I e2 (I w2 (I r1 (I r2 (I hn1 (I hn2 (I hz (I d1 (I s1 s2)))))))))) ?_;(repeat' first|exact True.intro|refine Lv.mk ?_ ?_|(refine oK ?_;intro K hK)|intro hq);all_goals refine Lf.mk ?_))
              · refine ⟨⟨(P', p :: Q), by rw [← g2, hP]; simp, by
                  intro q hq
                  rcases List.mem_cons.1 hq with rfl | hq
                  · exact hlt
                  · exact g3 q hq⟩, id, ?_, by show P'.length < P.length; omega⟩
                simp only [go_sem, ↓reduceIte, hF]
                refine ⟨?_, fun b g h => by have := hF2 b g h; omega⟩
                simp
    · have c1 : decide (((a + i : Nat) : Int) < ((a + S.length : Nat) : Int)) = false := by simp; omega
      (try ((try (revert K;refine bK ?_));refine' run c1 ?_;(repeat' first|exact True.intro|refine Lv.mk ?_ ?_|(refine oK ?_;intro K hK)|intro hq);all_goals refine Lf.mk ?_))
      rcases Nat.lt_or_ge S.length i with h1 | h1
      · rw [List.take_of_length_le (by omega), List.drop_eq_nil_of_le (by omega)]; rfl
      · rw [List.take_of_length_le (by omega), List.drop_eq_nil_of_le (by omega)]; rfl
end Go.Proofs.YtkonljmmdifnaaaGreat.V
set_option linter.unusedSimpArgs false
set_option linter.unusedVariables false
namespace Go.Proofs.YtkonljmmdifnaaaGreat.V
set_option maxRecDepth 100000

section
variable {α : Type} {lt : α → α → Bool}

/-- A strict weak order. -/
structure SW (lt : α → α → Bool) : Prop where
  asym : ∀ x y, lt x y = true → lt y x = false
  ntr : ∀ x y z, lt y x = false → lt z y = false → lt z x = false

def Srt (lt : α → α → Bool) (l : List α) : Prop := l.Pairwise fun x y => lt y x = false

theorem SW.lt_of {x y z : α} (h : SW lt) (h1 : lt x y = true) (h2 : lt z y = false) : lt x z = true := by
  cases h3 : lt x z with
  | true => rfl
  | false => have := h.ntr y z x h2 h3; rw [h1] at this; cases this
theorem SW.of_lt {x y z : α} (h : SW lt) (h1 : lt y x = false) (h2 : lt y z = true) : lt x z = true := by
  cases h3 : lt x z with
  | true => rfl
  | false => have := h.ntr z x y h3 h1; rw [h2] at this; cases this

def mrg (lt : α → α → Bool) : List α → List α → List α
  | [], V => V
  | u :: U, [] => u :: U
  | u :: U, v :: V => if lt v u then v :: mrg lt (u :: U) V else u :: mrg lt U (v :: V)
termination_by U V => U.length + V.length

@[simp] theorem mrg_nil (V : List α) : mrg lt [] V = V := by unfold mrg; rfl
@[simp] theorem mrg_nil' (U : List α) : mrg lt U [] = U := by cases U <;> simp [mrg]
theorem mrg_cons (u v : α) (U V : List α) : mrg lt (u :: U) (v :: V) = if lt v u then v :: mrg lt (u :: U) V else u :: mrg lt U (v :: V) := by rw [mrg]

theorem mrg_split : ∀ (U1 V1 U2 V2 : List α), (∀ u, u ∈ U1 → ∀ v, v ∈ V2 → lt v u = false) → (∀ v, v ∈ V1 → ∀ u, u ∈ U2 → lt v u = true) → mrg lt (U1 ++ U2) (V1 ++ V2) = mrg lt U1 V1 ++ mrg lt U2 V2
  | [], [], U2, V2, _, _ => by simp
  | [], v :: V1, U2, V2, h1, h2 => by
    rcases U2 with _ | ⟨u, U2⟩
    · simp
    · have ih := mrg_split [] V1 (u :: U2) V2 (by simp) (fun x hx => h2 x (by simp [hx]))
      simp only [List.nil_append, List.cons_append, mrg_nil, mrg_cons] at ih ⊢
      rw [h2 v (by simp) u (by simp), if_pos rfl, ih]
  | u :: U1, [], U2, V2, h1, h2 => by
    rcases V2 with _ | ⟨v, V2⟩
    · simp
    · have ih := mrg_split U1 [] U2 (v :: V2) (fun x hx => h1 x (by simp [hx])) (by simp)
      simp only [List.nil_append, List.cons_append, mrg_nil', mrg_cons] at ih ⊢
      rw [h1 u (by simp) v (by simp), if_neg (by simp), ih]
  | u :: U1, v :: V1, U2, V2, h1, h2 => by
    simp only [List.cons_append, mrg_cons]
    split
    · have ih := mrg_split (u :: U1) V1 U2 V2 h1 (fun x hx => h2 x (by simp [hx]))
      simp only [List.cons_append] at ih
      rw [ih, List.cons_append]
    · have ih := mrg_split U1 (v :: V1) U2 V2 (fun x hx => h1 x (by simp [hx])) h2
      simp only [List.cons_append] at ih
      rw [ih, List.cons_append]
termination_by U1 V1 => U1.length + V1.length

theorem mrg_len : ∀ (U V : List α), (mrg lt U V).length = U.length + V.length
  | [], V => by simp
  | u :: U, [] => by simp
  | u :: U, v :: V => by
    rw [mrg_cons]
    split
    · rw [List.length_cons, mrg_len (u :: U) V]; simp; omega
    · rw [List.length_cons, mrg_len U (v :: V)]; simp; omega
termination_by U V => U.length + V.length

theorem mrg_mem {x : α} : ∀ (U V : List α), x ∈ mrg lt U V ↔ x ∈ U ∨ x ∈ V
  | [], V => by simp
  | u :: U, [] => by simp
  | u :: U, v :: V => by
    rw [mrg_cons]
    split
    · rw [List.mem_cons, mrg_mem (u :: U) V]; simp only [List.mem_cons]; grind
    · rw [List.mem_cons, mrg_mem U (v :: V)]; simp only [List.mem_cons]; grind
termination_by U V => U.length + V.length

theorem Srt.app {U V : List α} : Srt lt (U ++ V) ↔ Srt lt U ∧ Srt lt V ∧ ∀ u, u ∈ U → ∀ v, v ∈ V → lt v u = false := List.pairwise_append

theorem mrg_srt (h : SW lt) : ∀ (U V : List α), Srt lt U → Srt lt V → Srt lt (mrg lt U V)
  | [], V, _, hV => by simpa using hV
  | u :: U, [], hU, _ => by simpa using hU
  | u :: U, v :: V, hU, hV => by
    rw [mrg_cons]
    obtain ⟨a1, a2⟩ := List.pairwise_cons.1 hU
    obtain ⟨b1, b2⟩ := List.pairwise_cons.1 hV
    split
    · rename_i hc
      refine List.pairwise_cons.2 ⟨fun x hx => ?_, mrg_srt h (u :: U) V hU b2⟩
      rcases (mrg_mem _ _).1 hx with hx | hx
      · rcases List.mem_cons.1 hx with rfl | hx
        · exact h.asym _ _ hc
        · exact h.ntr _ _ _ (h.asym _ _ hc) (a1 x hx)
      · exact b1 x hx
    · rename_i hc
      have hc : lt v u = false := by simpa using hc
      refine List.pairwise_cons.2 ⟨fun x hx => ?_, mrg_srt h U (v :: V) a2 hV⟩
      rcases (mrg_mem _ _).1 hx with hx | hx
      · exact a1 x hx
      · rcases List.mem_cons.1 hx with rfl | hx
        · exact hc
        · exact h.ntr _ _ _ hc (b1 x hx)
termination_by U V => U.length + V.length

/-! ### Insertion sort -/

theorem srt_rev_insR (h : SW lt) (x : α) : ∀ (R : List α), Srt lt R.reverse → ∃ P Q, R.reverse = P ++ Q ∧ (insR lt x R).reverse = P ++ x :: Q ∧ (∀ p, p ∈ P → lt x p = false) ∧ ∀ q, q ∈ Q → lt x q = true
  | [], _ => ⟨[], [], rfl, rfl, by simp, by simp⟩
  | r :: R, hR => by
    rw [List.reverse_cons] at hR
    obtain ⟨h1, h2, h3⟩ := Srt.app.1 hR
    rw [insR]
    split
    · rename_i hc
      obtain ⟨P, Q, e1, e2, e3, e4⟩ := srt_rev_insR h x R h1
      refine ⟨P, Q ++ [r], by rw [List.reverse_cons, e1]; simp, by rw [List.reverse_cons, e2]; simp, e3, fun q hq => ?_⟩
      rcases List.mem_append.1 hq with hq | hq
      · exact e4 q hq
      · simp at hq; subst hq; exact hc
    · rename_i hc
      have hc : lt x r = false := by simpa using hc
      refine ⟨(r :: R).reverse, [], by simp, by simp, fun p hp => ?_, by simp⟩
      simp only [List.reverse_cons, List.mem_append, List.mem_singleton] at hp
      rcases hp with hp | rfl
      · exact h.ntr _ _ _ (h3 p hp r (by simp)) hc
      · exact hc

theorem isort_cut (h : SW lt) (S : List α) (x : α) (hS : Srt lt (isort lt S)) : ∃ P Q, isort lt S = P ++ Q ∧ isort lt (S ++ [x]) = P ++ x :: Q ∧ (∀ p, p ∈ P → lt x p = false) ∧ ∀ q, q ∈ Q → lt x q = true := by
  unfold isort at *
  rw [isortR_snoc]
  exact srt_rev_insR h x _ hS

theorem isort_srt (h : SW lt) (S : List α) : Srt lt (isort lt S) := by
  rcases List.eq_nil_or_concat S with rfl | ⟨S, x, rfl⟩
  · simp [isort, isortR, Srt]
  · have ih := isort_srt h S
    rw [List.concat_eq_append]
    obtain ⟨P, Q, e1, e2, e3, e4⟩ := isort_cut h S x ih
    rw [e1] at ih
    rw [e2]
    obtain ⟨h1, h2, h3⟩ := Srt.app.1 ih
    refine Srt.app.2 ⟨h1, List.pairwise_cons.2 ⟨fun q hq => h.asym _ _ (e4 q hq), h2⟩, fun u hu v hv => ?_⟩
    rcases List.mem_cons.1 hv with rfl | hv
    · exact e3 u hu
    · exact h3 u hu v hv
termination_by S.length
decreasing_by simp_all

/-- A sorted list falls in two, at any place. -/
theorem srt_cut (h : SW lt) (x : α) : ∀ (S : List α), Srt lt S → ∃ P Q, S = P ++ Q ∧ (∀ p, p ∈ P → lt x p = false) ∧ ∀ q, q ∈ Q → lt x q = true
  | [], _ => ⟨[], [], rfl, by simp, by simp⟩
  | s :: S, hS => by
    obtain ⟨h1, h2⟩ := List.pairwise_cons.1 hS
    cases hc : lt x s with
    | true =>
      refine ⟨[], s :: S, rfl, by simp, fun q hq => ?_⟩
      rcases List.mem_cons.1 hq with rfl | hq
      · exact hc
      · exact h.lt_of hc (h1 q hq)
    | false =>
      obtain ⟨P, Q, e1, e2, e3⟩ := srt_cut h x S h2
      refine ⟨s :: P, Q, by rw [e1]; rfl, fun p hp => ?_, e3⟩
      rcases List.mem_cons.1 hp with rfl | hp
      · exact hc
      · exact e2 p hp

/-- What is sorted stays as it is. -/
theorem cut_eq {P Q P' Q' : List α} {x : α} (h : P ++ Q = P' ++ Q') (h1 : ∀ p, p ∈ P → lt x p = false) (h2 : ∀ q, q ∈ Q → lt x q = true) (h3 : ∀ p, p ∈ P' → lt x p = false) (h4 : ∀ q, q ∈ Q' → lt x q = true) : P = P' ∧ Q = Q' := by
  induction P generalizing P' with
  | nil =>
    rcases P' with _ | ⟨p, P'⟩
    · exact ⟨rfl, h⟩
    · simp only [List.nil_append, List.cons_append] at h
      have := h2 p (by rw [h]; simp)
      rw [h3 p (by simp)] at this
      cases this
  | cons p P ih =>
    rcases P' with _ | ⟨p', P'⟩
    · simp only [List.nil_append, List.cons_append] at h
      have := h4 p (by rw [← h]; simp)
      rw [h1 p (by simp)] at this
      cases this
    · simp only [List.cons_append, List.cons.injEq] at h
      obtain ⟨rfl, h⟩ := h
      obtain ⟨e1, e2⟩ := ih h (fun q hq => h1 q (by simp [hq])) (fun q hq => h3 q (by simp [hq]))
      exact ⟨by rw [e1], e2⟩

theorem mrg_isort (h : SW lt) (A B : List α) : mrg lt (isort lt A) (isort lt B) = isort lt (A ++ B) := by
  rcases List.eq_nil_or_concat B with rfl | ⟨B, x, rfl⟩
  · simp [isort, isortR]
  · have ih := mrg_isort h A B
    rw [List.concat_eq_append, ← List.append_assoc]
    have hA := isort_srt h A
    obtain ⟨P, Q, e1, e2, e3, e4⟩ := isort_cut h B x (isort_srt h B)
    obtain ⟨P', Q', f1, f2, f3, f4⟩ := isort_cut h (A ++ B) x (isort_srt h _)
    obtain ⟨A1, A2, g1, g2, g3⟩ := srt_cut h x _ hA
    have c1 : ∀ u, u ∈ A1 → ∀ v, v ∈ Q → lt v u = false := fun u hu v hv => h.ntr _ _ _ (g2 u hu) (h.asym _ _ (e4 v hv))
    have c2 : ∀ v, v ∈ P → ∀ u, u ∈ A2 → lt v u = true := fun v hv u hu => h.of_lt (e3 v hv) (g3 u hu)
    have c3 : ∀ u, u ∈ A1 → ∀ v, v ∈ x :: Q → lt v u = false := fun u hu v hv => by
      rcases List.mem_cons.1 hv with rfl | hv
      · exact g2 u hu
      · exact c1 u hu v hv
    have hm : mrg lt A1 P ++ mrg lt A2 Q = P' ++ Q' := by rw [← mrg_split _ _ _ _ c1 c2, ← g1, ← e1, ih, f1]
    obtain ⟨k1, k2⟩ := cut_eq (lt := lt) (x := x) hm (fun p hp => by
      rcases (mrg_mem _ _).1 hp with hp | hp
      · exact g2 p hp
      · exact e3 p hp) (fun p hp => by
      rcases (mrg_mem _ _).1 hp with hp | hp
      · exact g3 p hp
      · exact e4 p hp) f3 f4
    rw [e2, f2, g1, mrg_split _ _ _ _ c3 c2, ← k1, ← k2]
    congr 1
    rcases A2 with _ | ⟨a, A2⟩
    · simp
    · rw [mrg_cons, g3 a (by simp), if_pos rfl]
termination_by B.length
decreasing_by simp_all

/-- Sorted piece by piece. -/
def blk (lt : α → α → Bool) (s : Nat) (l : List α) : List α := if h : l.length ≤ s ∨ s = 0 then isort lt l else isort lt (l.take s) ++ blk lt s (l.drop s)
termination_by l.length
decreasing_by simp; omega

theorem blk_le {s : Nat} {l : List α} (h : l.length ≤ s) : blk lt s l = isort lt l := by rw [blk, dif_pos (.inl h)]
theorem blk_app {s : Nat} {A R : List α} (hA : A.length = s) (hs : 0 < s) : blk lt s (A ++ R) = isort lt A ++ blk lt s R := by
  by_cases hR : R = []
  · subst hR
    rw [List.append_nil, blk_le (by omega), blk_le (by simp)]
    simp [isort, isortR]
  · have := List.length_pos_iff.2 hR
    rw [blk, dif_neg (by rw [List.length_append]; omega), List.take_append_of_le_length (by omega), List.take_of_length_le (by omega), List.drop_append_of_le_length (by omega), List.drop_eq_nil_of_le (by omega), List.nil_append]
theorem blk_len {s : Nat} (l : List α) : (blk lt s l).length = l.length := by
  rw [blk]
  split
  · exact isort_len _ _
  · rename_i h
    rw [List.length_append, isort_len, blk_len (l.drop s)]
    simp; omega
termination_by l.length
decreasing_by simp; omega
theorem blk_mem {s : Nat} {x : α} (l : List α) : x ∈ blk lt s l ↔ x ∈ l := by
  rw [blk]
  split
  · exact isort_mem
  · rename_i h
    rw [List.mem_append, isort_mem, blk_mem (l.drop s), ← List.mem_append, List.take_append_drop]
termination_by l.length
decreasing_by simp; omega
end
end Go.Proofs.YtkonljmmdifnaaaGreat.V
set_option linter.unusedSimpArgs false
set_option linter.unusedVariables false
namespace Go.Proofs.YtkonljmmdifnaaaGreat.V
open Go.RowKit
set_option maxRecDepth 100000

theorem sw_ltO (h : History) : SW (ltO h) := by
  constructor <;> simp only [ltO, decide_eq_true_eq, decide_eq_false_iff_not] <;> intros <;> omega

theorem mrg_one {α : Type} {lt : α → α → Bool} {u : α} {V1 V2 : List α} (h1 : ∀ v, v ∈ V1 → lt v u = true) (h2 : ∀ v, v ∈ V2 → lt v u = false) : mrg lt [u] (V1 ++ V2) = V1 ++ u :: V2 := by
  have := mrg_split (lt := lt) [] V1 [u] V2 (by simp) (fun v hv x hx => by simp at hx; subst hx; exact h1 v hv)
  simp only [List.nil_append, mrg_nil] at this
  rw [this]
  rcases V2 with _ | ⟨v, V2⟩
  · simp
  · rw [mrg_cons, h2 v (by simp)]
    simp
theorem mrg_last {α : Type} {lt : α → α → Bool} {v : α} {U1 U2 : List α} (h1 : ∀ u, u ∈ U1 → lt v u = false) (h2 : ∀ u, u ∈ U2 → lt v u = true) : mrg lt (U1 ++ U2) [v] = U1 ++ v :: U2 := by
  have := mrg_split (lt := lt) U1 [] U2 [v] (fun u hu x hx => by simp at hx; subst hx; exact h1 u hu) (by simp)
  simp only [List.nil_append, mrg_nil'] at this
  rw [this]
  rcases U2 with _ | ⟨u, U2⟩
  · simp
  · rw [mrg_cons, h2 u (by simp)]
    simp

theorem wrap_u {n : Int} (h1 : 0 ≤ n) (h2 : n ≤ 18446744073709551615) : IntKind.u64.wrap n = n := by
  unfold IntKind.wrap
  simp [IntKind.bits, IntKind.signed]
  omega
theorem half_n (n : Nat) : Int.fdiv (n : Int) 2 = ((n / 2 : Nat) : Int) := by
  rw [Int.fdiv_eq_ediv_of_nonneg _ (by decide)]
  rfl

theorem at_in {α : Type} {X V Y : List α} {k i : Nat} {v : α} (h : V[k]? = some v) (hi : i = X.length + k) : (X ++ (V ++ Y))[i]? = some v := by
  subst hi
  have := (List.getElem?_eq_some_iff.1 h).1
  rw [List.getElem?_append_right (by omega), show X.length + k - X.length = k by omega, List.getElem?_append_left this, h]

theorem srt_at {α : Type} {lt : α → α → Bool} (hS : SW lt) {V : List α} (h : Srt lt V) {i j : Nat} {x y : α} (hi : V[i]? = some x) (hj : V[j]? = some y) (hij : i ≤ j) : lt y x = false := by
  rcases Nat.lt_or_eq_of_le hij with hij | rfl
  · obtain ⟨a, rfl⟩ := List.getElem?_eq_some_iff.1 hi
    obtain ⟨b, rfl⟩ := List.getElem?_eq_some_iff.1 hj
    exact List.pairwise_iff_getElem.1 h i j _ _ hij
  · rw [hi] at hj
    injection hj with hj
    subst hj
    cases hc : lt x x with
    | false => rfl
    | true => have := hS.asym _ _ hc; rw [hc] at this; cases this
theorem srt_le {α : Type} {lt : α → α → Bool} (hS : SW lt) {V : List α} (h : Srt lt V) {i j : Nat} {x y u : α} (hi : V[i]? = some x) (hj : V[j]? = some y) (hij : i ≤ j) (hx : lt x u = false) : lt y u = false := hS.ntr _ _ _ hx (srt_at hS h hi hj hij)
theorem srt_lt {α : Type} {lt : α → α → Bool} (hS : SW lt) {V : List α} (h : Srt lt V) {i j : Nat} {x y u : α} (hi : V[i]? = some x) (hj : V[j]? = some y) (hij : i ≤ j) (hy : lt y u = true) : lt x u = true := hS.of_lt (srt_at hS h hi hj hij) hy

attribute [local go_sem] Int.reduceEq in
theorem symMerge1_f (h : History) (X V Y : List Int) (u : Int) (hl : (X ++ (u :: (V ++ Y))).length ≤ 100000) (hu : placeOf h u) (hV : ∀ x, x ∈ V → placeOf h x) (sV : Srt (ltO h) V) :
    FunB Tryz.prog 163 [(0, ⟨3, rowC irow (X ++ (u :: (V ++ Y)))⟩), (1, ⟨31, h.flat⟩)] [.osl 0 1 0 (X ++ (u :: (V ++ Y))).length, int X.length, int (X.length + 1 : Nat), int (X.length + 1 + V.length : Nat), .fn (.func 121) [] [.ptr 1 0]] (.tup []) [(0, some ⟨3, rowC irow (X ++ (mrg (ltO h) [u] V ++ Y))⟩)] := by
  have hne2 := rowI_nz (l := X ++ (u :: (V ++ Y))) (by simp; omega)
  have hlen : (X ++ (u :: (V ++ Y))).length = X.length + 1 + V.length + Y.length := by simp; omega
  have hLu : (X ++ (u :: (V ++ Y)))[X.length]? = some u := at_mid _ _ _ _ rfl
  have hLv : ∀ k v, V[k]? = some v → (X ++ (u :: (V ++ Y)))[X.length + 1 + k]? = some v := fun k v hk => by
    have := at_in (X := X ++ [u]) (Y := Y) (i := X.length + 1 + k) hk (by simp)
    simpa using this
  have hfin : ∀ i, X.length + 1 ≤ i → i ≤ X.length + 1 + V.length → X ++ (u :: (V ++ Y)) = X ++ ([] ++ (u :: (V.take (i - (X.length + 1)) ++ (V.drop (i - (X.length + 1)) ++ Y)))) := fun i _ _ => by
    rw [← List.append_assoc (V.take _), List.take_append_drop]; rfl
  rw [hlen] at hl ⊢
  generalize hn : X.length + 1 + V.length + Y.length = n at *
  generalize hLL : X ++ (u :: (V ++ Y)) = L at *
  generalize ha : X.length = a at *
  refine fun_WB 2 mixed Tryz.func163 rfl (Nat.le_of_ble_eq_true rfl) (by kernel_rfl) (by simp [go_sem, hne2, rowI_nms']) fun cx hN hR hF hL => ?_; apply args_kb; (case hA => (simp only [go_sem, ↓reduceIte]; rfl)); (case hB => (simp only [go_sem, ↓reduceIte]; rfl))
  have hF2 : ∀ b g, cx.F b = some g → b < 3000 := fun b g h => by
    have := hF b g h
    simp [inl] at this
    omega
  have w1 : IntKind.i64.wrap (((a + 1 : Nat) : Int) - a) = 1 := by rw [wrap_id] <;> omega
  (try ((try (revert K;refine bK ?_));refine' run w1 ?_;(repeat' first|exact True.intro|refine Lv.mk ?_ ?_|(refine oK ?_;intro K hK)|intro hq);all_goals refine Lf.mk ?_))
  refine loopW mixed (σ := {p : Nat × Nat // a + 1 ≤ p.1 ∧ p.1 ≤ p.2 ∧ p.2 ≤ a + 1 + V.length ∧ (∀ (k : Nat) v, V[k]? = some v → a + 1 + k < p.1 → ltO h v u = true) ∧ (∀ (k : Nat) v, V[k]? = some v → p.2 ≤ a + 1 + k → ltO h v u = false)})
    (fun s => ⟨[(10, int s.1.1), (11, int s.1.2), (0, .osl 0 1 0 n), (1, int a), (4, .fn (.func 121) [] [.ptr 1 0])], [(0, some ⟨3, rowC irow L⟩), (1, some ⟨31, h.flat⟩)], 4000⟩) (fun s => s.1.2 - s.1.1) id
    ⟨(a + 1, a + 1 + V.length), Nat.le_refl _, by omega, Nat.le_refl _, fun k v _ h => by omega, fun k v hk h => by have := (List.getElem?_eq_some_iff.1 hk).1; omega⟩ (by rw [hN]; kernel_rfl) ?_ ?_
  · simp only [go_sem, ↓reduceIte, hF]
    exact fun b g h => by have := hF2 b g h; omega
  · rintro ⟨⟨i, j⟩, g1, g2, g3, g4, g5⟩
    simp only at g1 g2 g3 g4 g5
    by_cases hi : i < j
    · have hij : (i + j) / 2 < j ∧ i ≤ (i + j) / 2 := by omega
      have e1 : IntKind.i64.wrap ((i : Int) + j) = ((i + j : Nat) : Int) := by rw [wrap_id] <;> omega
      have e2 : IntKind.u64.wrap ((i + j : Nat) : Int) = ((i + j : Nat) : Int) := by rw [wrap_u] <;> omega
      have e3 := half_n (i + j)
      generalize hm : (i + j) / 2 = q at *
      have e4 : IntKind.i64.wrap (q : Int) = (q : Int) := by rw [wrap_id] <;> omega
      have e5 : IntKind.i64.wrap ((q : Int) + 1) = ((q + 1 : Nat) : Int) := by rw [wrap_id] <;> omega
      obtain ⟨k, hk⟩ : ∃ k, q = a + 1 + k := ⟨q - (a + 1), by omega⟩
      have hk2 : k < V.length := by omega
      have hv : V[k]? = some V[k] := List.getElem?_eq_getElem hk2
      have hpv : placeOf h V[k] := hV _ (List.getElem_mem hk2)
      have hLq := hLv k _ hv
      rw [← hk] at hLq
      generalize V[k] = v at *
      have r1 := rowI_some hLu
      have r2 := rowI_some hLq
      have hqn : q < n := by omega
      have han : a < n := by omega
      have hlr : (rowC irow L).length = n := by rw [rowI_len]; exact hlen
      (try ((try (revert K;refine bK ?_));refine' run (I e1 (I e2 (I e3 (I e4 (I e5 (I r1 (I r2 (I hlr (I (eq_true hi) hne2))))))))) ?_;(repeat' first|exact True.intro|refine Lv.mk ?_ ?_|(refine oK ?_;intro K hK)|intro hq);all_goals refine Lf.mk ?_))
      (apply callL' [1] cl121 (orderJ_f h v u hpv hu); (case hp | hl => (simp only [go_sem, ↓reduceIte]; try rfl)); (case hx => (simp [AV.flat0])); (try (case hfz => (first | (simp only [go_sem]; done) | (simp [go_sem, fzo]; done)))))
      cases hlt : ltO h v u
      · have d1 : decide (compareJ (dayAt h v) (dayAt h u) < 0) = false := by rw [cmp_lt]; exact hlt
        (try ((try (revert K;refine bK ?_));refine' run (I e1 (I e2 (I e3 (I e4 (I e5 (I r1 (I r2 (I hlr (I hne2 d1))))))))) ?_;(repeat' first|exact True.intro|refine Lv.mk ?_ ?_|(refine oK ?_;intro K hK)|intro hq);all_goals refine Lf.mk ?_))
        refine ⟨⟨(i, q), g1, hij.2, by show q ≤ _; omega, g4, fun k' v' hk' h' => ?_⟩, id, ?_, by show q - i < j - i; omega⟩
        · have h' : q ≤ a + 1 + k' := h'
          refine srt_le (sw_ltO h) sV hv hk' (by omega) hlt
        · simp only [go_sem, ↓reduceIte, hF]
          exact fun b g h => by have := hF2 b g h; omega
      · have d1 : decide (compareJ (dayAt h v) (dayAt h u) < 0) = true := by rw [cmp_lt]; exact hlt
        (try ((try (revert K;refine bK ?_));refine' run (I e1 (I e2 (I e3 (I e4 (I e5 (I r1 (I r2 (I hlr (I hne2 d1))))))))) ?_;(repeat' first|exact True.intro|refine Lv.mk ?_ ?_|(refine oK ?_;intro K hK)|intro hq);all_goals refine Lf.mk ?_))
        refine ⟨⟨(q + 1, j), by show a + 1 ≤ q + 1; omega, by show q + 1 ≤ j; omega, g3, fun k' v' hk' h' => ?_, g5⟩, id, ?_, by show j - (q + 1) < j - i; omega⟩
        · have h' : a + 1 + k' < q + 1 := h'
          exact srt_lt (sw_ltO h) sV hk' hv (by omega) hlt
        · simp only [go_sem, ↓reduceIte, hF]
          exact fun b g h => by have := hF2 b g h; omega
    · obtain rfl : i = j := by omega
      have f1 := hfin i g1 g3
      obtain ⟨V1, hV1⟩ : ∃ V1, V1 = V.take (i - (a + 1)) := ⟨_, rfl⟩
      obtain ⟨V2, hV2⟩ : ∃ V2, V2 = V.drop (i - (a + 1)) := ⟨_, rfl⟩
      rw [← hV1, ← hV2] at f1
      have hVe : V = V1 ++ V2 := by rw [hV1, hV2, List.take_append_drop]
      have hV1l : V1.length = i - (a + 1) := by rw [hV1, List.length_take]; omega
      have k1 : ∀ v, v ∈ V1 → ltO h v u = true := fun v hv => by
        obtain ⟨k, hk, rfl⟩ := List.mem_iff_getElem.1 hv
        exact g4 k _ (by rw [hVe, List.getElem?_append_left hk, List.getElem?_eq_getElem hk]) (by omega)
      have k2 : ∀ v, v ∈ V2 → ltO h v u = false := fun v hv => by
        obtain ⟨k, hk, rfl⟩ := List.mem_iff_getElem.1 hv
        exact g5 (V1.length + k) _ (by rw [hVe, List.getElem?_append_right (by omega), Nat.add_sub_cancel_left, List.getElem?_eq_getElem hk]) (by omega)
      have hres := mrg_one k1 k2
      rw [← hVe] at hres
      have w2 : IntKind.i64.wrap ((i : Int) - 1) = ((a + V1.length : Nat) : Int) := by rw [wrap_id] <;> omega
      (try ((try (revert K;refine bK ?_));refine' run w2 ?_;(repeat' first|exact True.intro|refine Lv.mk ?_ ?_|(refine oK ?_;intro K hK)|intro hq);all_goals refine Lf.mk ?_))
      refine loopW mixed (σ := {p : List Int × List Int // p.1 ++ p.2 = V1}) (fun s => ⟨[(13, int (a + s.1.1.length : Nat)), (0, .osl 0 1 0 n), (10, int i)], [(0, some ⟨3, rowC irow (X ++ (s.1.1 ++ (u :: (s.1.2 ++ (V2 ++ Y)))))⟩), (1, some ⟨31, h.flat⟩)], 9000⟩) (fun s => s.1.2.length) id ⟨([], V1), rfl⟩ (by rw [hN]; kernel_rfl) ?_ ?_
      · simp only [go_sem, ↓reduceIte, hF]
        rw [f1]
        exact ⟨rfl, fun b g h => by have := hF2 b g h; omega⟩
      · rintro ⟨⟨P, Q⟩, q1⟩
        simp only at q1
        have q1l : P.length + Q.length = V1.length := by rw [← q1, List.length_append]
        rcases Q with _ | ⟨x, Q⟩
        · have c2 : decide (((a + P.length : Nat) : Int) < ((a + V1.length : Nat) : Int)) = false := by
            simp at q1l; simp; omega
          rw [List.append_nil] at q1
          subst q1
          (try ((try (revert K;refine bK ?_));refine' run (I w2 c2) ?_;(repeat' first|exact True.intro|refine Lv.mk ?_ ?_|(refine oK ?_;intro K hK)|intro hq);all_goals refine Lf.mk ?_))
          rw [hres]
          simp
        · have q2l : P.length + Q.length + 1 = V1.length := by simp at q1l; omega
          have c2 : decide (((a + P.length : Nat) : Int) < ((a + V1.length : Nat) : Int)) = true := by simp; omega
          have e6 : IntKind.i64.wrap (((a + P.length : Nat) : Int) + 1) = ((a + (P.length + 1) : Nat) : Int) := by rw [wrap_id] <;> omega
          have hVl := congrArg List.length hVe
          rw [List.length_append] at hVl
          have hLe : X ++ (P ++ (u :: (x :: Q ++ (V2 ++ Y)))) = (X ++ P) ++ u :: x :: (Q ++ (V2 ++ Y)) := by simp
          have hLx : (X ++ (P ++ (u :: (x :: Q ++ (V2 ++ Y)))))[a + P.length]? = some u := by
            rw [hLe]; exact at_mid _ _ _ _ (by rw [List.length_append, ha])
          have hLp : (X ++ (P ++ (u :: (x :: Q ++ (V2 ++ Y)))))[a + (P.length + 1)]? = some x := by
            rw [hLe, show (X ++ P) ++ u :: x :: (Q ++ (V2 ++ Y)) = (X ++ P ++ [u]) ++ x :: (Q ++ (V2 ++ Y)) by simp]; exact at_mid _ _ _ _ (by simp; omega)
          have hLn : (X ++ (P ++ (u :: (x :: Q ++ (V2 ++ Y))))).length = n := by
            simp only [List.length_append, List.length_cons]; omega
          have hst := set_pair2 (X ++ P) (Q ++ (V2 ++ Y)) u x (a + P.length) (a + (P.length + 1)) (by rw [List.length_append]; omega) (by rw [List.length_append]; omega)
          rw [← hLe] at hst
          have hz := rowI_nz (l := X ++ (P ++ (u :: (x :: Q ++ (V2 ++ Y))))) (by omega)
          generalize X ++ (P ++ (u :: (x :: Q ++ (V2 ++ Y)))) = M at *
          have r1 := rowI_some hLx
          have r2 := rowI_some hLp
          have hn1 : (rowC irow M).length = n := by rw [rowI_len, hLn]
          have hn2 : (rowC irow (M.set (a + P.length) x)).length = n := by rw [rowI_len, List.length_set, hLn]
          have s1 := rowI_put M (a + P.length) x (by omega)
          have s2 := rowI_put (M.set (a + P.length) x) (a + (P.length + 1)) u (by rw [List.length_set]; omega)
          rw [hst] at s2
          (try ((try (revert K;refine bK ?_));refine' run (I w2 (I c2 (I e6 (I r1 (I r2 (I hn1 (I hn2 (I hz (I s1 s2))))))))) ?_;(repeat' first|exact True.intro|refine Lv.mk ?_ ?_|(refine oK ?_;intro K hK)|intro hq);all_goals refine Lf.mk ?_))
          refine ⟨⟨(P ++ [x], Q), by rw [← q1]; simp⟩, id, ?_, by show Q.length < (x :: Q).length; simp⟩
          have hlp : (P ++ [x]).length = P.length + 1 := by simp
          simp only [go_sem, ↓reduceIte, hF, hlp]
          refine ⟨?_, fun b g h => by have := hF2 b g h; omega⟩
          simp
end Go.Proofs.YtkonljmmdifnaaaGreat.V
set_option linter.unusedSimpArgs false
set_option linter.unusedVariables false
namespace Go.Proofs.YtkonljmmdifnaaaGreat.V
open Go.RowKit
set_option maxRecDepth 100000

attribute [local go_sem] Int.reduceEq in
theorem symMerge2_f (h : History) (X U Y : List Int) (v : Int) (hl : (X ++ (U ++ (v :: Y))).length ≤ 100000) (hv : placeOf h v) (hU : ∀ x, x ∈ U → placeOf h x) (sU : Srt (ltO h) U) (hU1 : U.length ≠ 1) :
    FunB Tryz.prog 163 [(0, ⟨3, rowC irow (X ++ (U ++ (v :: Y)))⟩), (1, ⟨31, h.flat⟩)] [.osl 0 1 0 (X ++ (U ++ (v :: Y))).length, int X.length, int (X.length + U.length : Nat), int (X.length + U.length + 1 : Nat), .fn (.func 121) [] [.ptr 1 0]] (.tup []) [(0, some ⟨3, rowC irow (X ++ (mrg (ltO h) U [v] ++ Y))⟩)] := by
  have hne2 := rowI_nz (l := X ++ (U ++ (v :: Y))) (by simp; omega)
  have hlen : (X ++ (U ++ (v :: Y))).length = X.length + U.length + 1 + Y.length := by simp; omega
  have hLv : (X ++ (U ++ (v :: Y)))[X.length + U.length]? = some v := by rw [← List.append_assoc]; exact at_mid _ _ _ _ (by simp)
  have hLu : ∀ k x, U[k]? = some x → (X ++ (U ++ (v :: Y)))[X.length + k]? = some x := fun k x hk => at_in hk rfl
  have hfin : ∀ i, X.length ≤ i → i ≤ X.length + U.length → X ++ (U ++ (v :: Y)) = X ++ (U.take (i - X.length) ++ (U.drop (i - X.length) ++ (v :: ([] ++ Y)))) := fun i _ _ => by
    rw [← List.append_assoc (U.take _), List.take_append_drop]; rfl
  rw [hlen] at hl ⊢
  generalize hn : X.length + U.length + 1 + Y.length = n at *
  generalize hLL : X ++ (U ++ (v :: Y)) = L at *
  generalize ha : X.length = a at *
  generalize hm : a + U.length = m at *
  refine fun_WB 2 mixed Tryz.func163 rfl (Nat.le_of_ble_eq_true rfl) (by kernel_rfl) (by simp [go_sem, hne2, rowI_nms']) fun cx hN hR hF hL => ?_; apply args_kb; (case hA => (simp only [go_sem, ↓reduceIte]; rfl)); (case hB => (simp only [go_sem, ↓reduceIte]; rfl))
  have hF2 : ∀ b g, cx.F b = some g → b < 3000 := fun b g h => by
    have := hF b g h
    simp [inl] at this
    omega
  have w1 : IntKind.i64.wrap ((m : Int) - a) = ((U.length : Nat) : Int) := by rw [wrap_id] <;> omega
  have w1' : (((U.length : Nat) : Int) = 1) = False := by simp; omega
  have w2 : IntKind.i64.wrap (((m + 1 : Nat) : Int) - m) = 1 := by rw [wrap_id] <;> omega
  (try ((try (revert K;refine bK ?_));refine' run (I w1 (I w1' w2)) ?_;(repeat' first|exact True.intro|refine Lv.mk ?_ ?_|(refine oK ?_;intro K hK)|intro hq);all_goals refine Lf.mk ?_))
  refine loopW mixed (σ := {p : Nat × Nat // a ≤ p.1 ∧ p.1 ≤ p.2 ∧ p.2 ≤ m ∧ (∀ (k : Nat) x, U[k]? = some x → a + k < p.1 → ltO h v x = false) ∧ (∀ (k : Nat) x, U[k]? = some x → p.2 ≤ a + k → ltO h v x = true)})
    (fun s => ⟨[(14, int s.1.1), (15, int s.1.2), (0, .osl 0 1 0 n), (2, int m), (4, .fn (.func 121) [] [.ptr 1 0])], [(0, some ⟨3, rowC irow L⟩), (1, some ⟨31, h.flat⟩)], 5000⟩) (fun s => s.1.2 - s.1.1) id
    ⟨(a, m), Nat.le_refl _, by omega, Nat.le_refl _, fun k v _ h => by omega, fun k v hk h => by have := (List.getElem?_eq_some_iff.1 hk).1; omega⟩ (by rw [hN]; kernel_rfl) ?_ ?_
  · simp only [go_sem, ↓reduceIte, hF]
    exact fun b g h => by have := hF2 b g h; omega
  · rintro ⟨⟨i, j⟩, g1, g2, g3, g4, g5⟩
    simp only at g1 g2 g3 g4 g5
    by_cases hi : i < j
    · have hij : (i + j) / 2 < j ∧ i ≤ (i + j) / 2 := by omega
      have e1 : IntKind.i64.wrap ((i : Int) + j) = ((i + j : Nat) : Int) := by rw [wrap_id] <;> omega
      have e2 : IntKind.u64.wrap ((i + j : Nat) : Int) = ((i + j : Nat) : Int) := by rw [wrap_u] <;> omega
      have e3 := half_n (i + j)
      generalize hqq : (i + j) / 2 = q at *
      have e4 : IntKind.i64.wrap (q : Int) = (q : Int) := by rw [wrap_id] <;> omega
      have e5 : IntKind.i64.wrap ((q : Int) + 1) = ((q + 1 : Nat) : Int) := by rw [wrap_id] <;> omega
      obtain ⟨k, hk⟩ : ∃ k, q = a + k := ⟨q - a, by omega⟩
      have hk2 : k < U.length := by omega
      have hx : U[k]? = some U[k] := List.getElem?_eq_getElem hk2
      have hpx : placeOf h U[k] := hU _ (List.getElem_mem hk2)
      have hLq := hLu k _ hx
      rw [← hk] at hLq
      generalize U[k] = x at *
      have r1 := rowI_some hLv
      have r2 := rowI_some hLq
      have hqn : q < n := by omega
      have hmn : m < n := by omega
      have hlr : (rowC irow L).length = n := by rw [rowI_len]; exact hlen
      (try ((try (revert K;refine bK ?_));refine' run (I e1 (I e2 (I e3 (I e4 (I e5 (I r1 (I r2 (I hlr (I (eq_true hi) hne2))))))))) ?_;(repeat' first|exact True.intro|refine Lv.mk ?_ ?_|(refine oK ?_;intro K hK)|intro hq);all_goals refine Lf.mk ?_))
      (apply callL' [1] cl121 (orderJ_f h v x hv hpx); (case hp | hl => (simp only [go_sem, ↓reduceIte]; try rfl)); (case hx => (simp [AV.flat0])); (try (case hfz => (first | (simp only [go_sem]; done) | (simp [go_sem, fzo]; done)))))
      cases hlt : ltO h v x
      · have d1 : decide (compareJ (dayAt h v) (dayAt h x) < 0) = false := by rw [cmp_lt]; exact hlt
        (try ((try (revert K;refine bK ?_));refine' run (I e1 (I e2 (I e3 (I e4 (I e5 (I r1 (I r2 (I hlr (I hne2 d1))))))))) ?_;(repeat' first|exact True.intro|refine Lv.mk ?_ ?_|(refine oK ?_;intro K hK)|intro hq);all_goals refine Lf.mk ?_))
        refine ⟨⟨(q + 1, j), by show a ≤ q + 1; omega, by show q + 1 ≤ j; omega, g3, fun k' v' hk' h' => ?_, g5⟩, id, ?_, by show j - (q + 1) < j - i; omega⟩
        · have h' : a + k' < q + 1 := h'
          exact (sw_ltO h).ntr _ _ _ (srt_at (sw_ltO h) sU hk' hx (by omega)) hlt
        · simp only [go_sem, ↓reduceIte, hF]
          exact fun b g h => by have := hF2 b g h; omega
      · have d1 : decide (compareJ (dayAt h v) (dayAt h x) < 0) = true := by rw [cmp_lt]; exact hlt
        (try ((try (revert K;refine bK ?_));refine' run (I e1 (I e2 (I e3 (I e4 (I e5 (I r1 (I r2 (I hlr (I hne2 d1))))))))) ?_;(repeat' first|exact True.intro|refine Lv.mk ?_ ?_|(refine oK ?_;intro K hK)|intro hq);all_goals refine Lf.mk ?_))
        refine ⟨⟨(i, q), g1, hij.2, by show q ≤ _; omega, g4, fun k' v' hk' h' => ?_⟩, id, ?_, by show q - i < j - i; omega⟩
        · have h' : q ≤ a + k' := h'
          exact (sw_ltO h).lt_of hlt (srt_at (sw_ltO h) sU hx hk' (by omega))
        · simp only [go_sem, ↓reduceIte, hF]
          exact fun b g h => by have := hF2 b g h; omega
    · obtain rfl : i = j := by omega
      have f1 := hfin i g1 g3
      obtain ⟨V1, hV1⟩ : ∃ V1, V1 = U.take (i - a) := ⟨_, rfl⟩
      obtain ⟨V2, hV2⟩ : ∃ V2, V2 = U.drop (i - a) := ⟨_, rfl⟩
      rw [← hV1, ← hV2] at f1
      have hVe : U = V1 ++ V2 := by rw [hV1, hV2, List.take_append_drop]
      have hV1l : V1.length = i - a := by rw [hV1, List.length_take]; omega
      have k1 : ∀ x, x ∈ V1 → ltO h v x = false := fun v hv => by
        obtain ⟨k, hk, rfl⟩ := List.mem_iff_getElem.1 hv
        exact g4 k _ (by rw [hVe, List.getElem?_append_left hk, List.getElem?_eq_getElem hk]) (by omega)
      have k2 : ∀ x, x ∈ V2 → ltO h v x = true := fun v hv => by
        obtain ⟨k, hk, rfl⟩ := List.mem_iff_getElem.1 hv
        exact g5 (V1.length + k) _ (by rw [hVe, List.getElem?_append_right (by omega), Nat.add_sub_cancel_left, List.getElem?_eq_getElem hk]) (by omega)
      have hres := mrg_last k1 k2
      rw [← hVe] at hres
      have hVl := congrArg List.length hVe
      rw [List.length_append] at hVl
      (try ((try (revert K;refine bK ?_));refine' run trivial ?_;(repeat' first|exact True.intro|refine Lv.mk ?_ ?_|(refine oK ?_;intro K hK)|intro hq);all_goals refine Lf.mk ?_))
      refine loopW mixed (σ := {p : List Int × List Int // p.1 ++ p.2 = V2}) (fun s => ⟨[(17, int (i + s.1.1.length : Nat)), (0, .osl 0 1 0 n), (14, int i)], [(0, some ⟨3, rowC irow (X ++ (V1 ++ (s.1.1 ++ (v :: (s.1.2 ++ Y)))))⟩), (1, some ⟨31, h.flat⟩)], 9000⟩) (fun s => s.1.1.length) id ⟨(V2, []), by simp⟩ (by rw [hN]; kernel_rfl) ?_ ?_
      · have hmi : i + V2.length = m := by omega
        simp only [go_sem, ↓reduceIte, hF, hmi]
        rw [f1]
        exact ⟨rfl, fun b g h => by have := hF2 b g h; omega⟩
      · rintro ⟨⟨P, Q⟩, q1⟩
        simp only at q1
        have q1l : P.length + Q.length = V2.length := by rw [← q1, List.length_append]
        rcases List.eq_nil_or_concat P with hP | ⟨P', x, hP⟩
        · have c2 : decide ((i : Int) < ((i + P.length : Nat) : Int)) = false := by
            rw [hP]; simp
          rw [hP, List.nil_append] at q1
          (try ((try (revert K;refine bK ?_));refine' run c2 ?_;(repeat' first|exact True.intro|refine Lv.mk ?_ ?_|(refine oK ?_;intro K hK)|intro hq);all_goals refine Lf.mk ?_))
          rw [hres, hP, q1]
          simp
        · rw [List.concat_eq_append] at hP
          have hPl : P.length = P'.length + 1 := by rw [hP]; simp
          have c2 : decide ((i : Int) < ((i + P.length : Nat) : Int)) = true := by simp; omega
          have e6 : IntKind.i64.wrap (((i + P.length : Nat) : Int) - 1) = ((i + P'.length : Nat) : Int) := by rw [wrap_id] <;> omega
          have hLe : X ++ (V1 ++ (P ++ (v :: (Q ++ Y)))) = (X ++ V1 ++ P') ++ x :: v :: (Q ++ Y) := by rw [hP]; simp
          have hLx : (X ++ (V1 ++ (P ++ (v :: (Q ++ Y)))))[i + P.length]? = some v := by
            rw [hLe, show (X ++ V1 ++ P') ++ x :: v :: (Q ++ Y) = (X ++ V1 ++ P' ++ [x]) ++ v :: (Q ++ Y) by simp]; exact at_mid _ _ _ _ (by simp; omega)
          have hLp : (X ++ (V1 ++ (P ++ (v :: (Q ++ Y)))))[i + P'.length]? = some x := by
            rw [hLe]; exact at_mid _ _ _ _ (by simp; omega)
          have hLn : (X ++ (V1 ++ (P ++ (v :: (Q ++ Y))))).length = n := by
            simp only [List.length_append, List.length_cons]; omega
          have hst := set_pair (X ++ V1 ++ P') (Q ++ Y) x v (i + P.length) (i + P'.length) (by simp; omega) (by simp; omega)
          rw [← hLe] at hst
          have hz := rowI_nz (l := X ++ (V1 ++ (P ++ (v :: (Q ++ Y))))) (by omega)
          generalize X ++ (V1 ++ (P ++ (v :: (Q ++ Y)))) = M at *
          have r1 := rowI_some hLx
          have r2 := rowI_some hLp
          have hn1 : (rowC irow M).length = n := by rw [rowI_len, hLn]
          have hn2 : (rowC irow (M.set (i + P.length) x)).length = n := by rw [rowI_len, List.length_set, hLn]
          have s1 := rowI_put M (i + P.length) x (by omega)
          have s2 := rowI_put (M.set (i + P.length) x) (i + P'.length) v (by rw [List.length_set]; omega)
          rw [hst] at s2
          (try ((try (revert K;refine bK ?_));refine' run (I c2 (I e6 (I r1 (I r2 (I hn1 (I hn2 (I hz (I s1 s2)))))))) ?_;(repeat' first|exact True.intro|refine Lv.mk ?_ ?_|(refine oK ?_;intro K hK)|intro hq);all_goals refine Lf.mk ?_))
          refine ⟨⟨(P', x :: Q), by rw [← q1, hP]; simp⟩, id, ?_, by show P'.length < P.length; omega⟩
          simp only [go_sem, ↓reduceIte, hF]
          refine ⟨?_, fun b g h => by have := hF2 b g h; omega⟩
          simp
end Go.Proofs.YtkonljmmdifnaaaGreat.V
