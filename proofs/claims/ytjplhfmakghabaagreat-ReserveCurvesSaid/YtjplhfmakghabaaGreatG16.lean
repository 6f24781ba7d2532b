/- Contracts of chapter 20: the reference's next, with, Curves. The law ReserveCurves. -/
import Derived.Test.YtjplhfmakghabaaGreatG15
set_option linter.unusedSimpArgs false
set_option linter.unusedVariables false
namespace Go.Proofs.YtjplhfmakghabaaGreat.V
open Go.RowKit
set_option maxRecDepth 100000
attribute [local go_sem] Option.toList_some Option.toList_none

theorem daysL_rise (l : List File) : (daysL l).Pairwise fun a b => a < b := by
  have tr : ∀ a b c : Int, decide (a ≤ b) = true → decide (b ≤ c) = true → decide (a ≤ c) = true := fun a b c h1 h2 => by simp only [decide_eq_true_eq] at *; omega
  have to : ∀ a b : Int, (decide (a ≤ b) || decide (b ≤ a)) = true := fun a b => by simp only [Bool.or_eq_true, decide_eq_true_eq]; omega
  have h1 := List.pairwise_mergeSort tr to (uniq (daysS l))
  have h2 : (daysL l).Nodup := (List.mergeSort_perm (uniq (daysS l)) _).nodup_iff.2 (uniq_nodup _)
  have h3 : (daysL l).Pairwise fun a b => decide (a ≤ b) = true := h1
  have h4 := h3.and h2
  refine h4.imp fun {a b} h => ?_
  have h5 := h.1
  simp only [decide_eq_true_eq] at h5
  have h6 : a ≠ b := h.2
  omega
theorem daysL_mem {l : List File} {x : Int} : x ∈ daysL l ↔ x ∈ daysS l := by
  rw [daysL, (List.mergeSort_perm (uniq (daysS l)) _).mem_iff, uniq_mem]
/-! ### The next day -/
def stepN (d x n : Int) : Int := if d < x ∧ (n = 0 ∨ x < n) then x else n
def nextD (S : List Int) (d n : Int) : Int := S.foldl (fun n x => stepN d x n) n
def NextOk (T : List Int) (d n : Int) : Prop := (n = 0 ∧ ∀ x, x ∈ T → x ≤ d) ∨ (n ∈ T ∧ d < n ∧ ∀ x, x ∈ T → d < x → n ≤ x)
theorem nextD_ok {d : Int} (hd : 0 ≤ d) : ∀ (S T : List Int) (n : Int), NextOk T d n → NextOk (T ++ S) d (nextD S d n)
  | [], T, n, h => by simpa [nextD] using h
  | x :: S, T, n, h => by
    have e : T ++ x :: S = (T ++ [x]) ++ S := by simp
    have e2 : nextD (x :: S) d n = nextD S d (stepN d x n) := rfl
    rw [e, e2]
    refine nextD_ok hd S (T ++ [x]) _ ?_
    unfold stepN
    rcases h with ⟨h1, h2⟩ | ⟨h1, h2, h3⟩
    · split
      · refine .inr ⟨by simp, by omega, fun y hy hy2 => ?_⟩
        rcases List.mem_append.1 hy with hy | hy
        · exact absurd (h2 y hy) (by omega)
        · simp at hy; omega
      · refine .inl ⟨h1, fun y hy => ?_⟩
        rcases List.mem_append.1 hy with hy | hy
        · exact h2 y hy
        · simp at hy; omega
    · split
      · refine .inr ⟨by simp, by omega, fun y hy hy2 => ?_⟩
        rcases List.mem_append.1 hy with hy | hy
        · have := h3 y hy hy2; omega
        · simp at hy; omega
      · refine .inr ⟨by simp [h1], h2, fun y hy hy2 => ?_⟩
        rcases List.mem_append.1 hy with hy | hy
        · exact h3 y hy hy2
        · simp at hy; omega
theorem nextD_at {S D : List Int} (hm : ∀ x, x ∈ D ↔ x ∈ S) (hp : D.Pairwise fun a b => a < b) (h1 : ∀ x, x ∈ S → 1 ≤ x) {i : Nat} {d : Int} (hi : i ≤ D.length)
    (hd : (i = 0 ∧ d = 0) ∨ (0 < i ∧ D[i - 1]? = some d)) : nextD S d 0 = (D[i]?).getD 0 := by
  have hd0 : 0 ≤ d := by
    rcases hd with ⟨-, h⟩ | ⟨-, h⟩
    · omega
    · have := h1 d ((hm d).1 (List.mem_of_getElem? h)); omega
  have hk : ∀ k x, D[k]? = some x → (x ≤ d ↔ k < i) := by
    intro k x hx
    rcases hd with ⟨rfl, rfl⟩ | ⟨h0, h⟩
    · have := h1 x ((hm x).1 (List.mem_of_getElem? hx)); omega
    · obtain ⟨hk, rfl⟩ := List.getElem?_eq_some_iff.1 hx
      obtain ⟨hk2, rfl⟩ := List.getElem?_eq_some_iff.1 h
      rw [List.pairwise_iff_getElem] at hp
      rcases Nat.lt_trichotomy k (i - 1) with hq | hq | hq
      · have := hp k (i - 1) hk hk2 hq; omega
      · subst hq; omega
      · have := hp (i - 1) k hk2 hk hq; omega
  rcases nextD_ok hd0 S [] 0 (.inl ⟨rfl, by simp⟩) with ⟨h2, h3⟩ | ⟨h2, h3, h4⟩
  · rw [h2]
    rcases he : D[i]? with _ | x
    · rfl
    · have := (hk i x he).1 (h3 x (by simpa using (hm x).1 (List.mem_of_getElem? he))); omega
  · rw [List.nil_append] at h2 h4
    obtain ⟨k, hx⟩ := List.mem_iff_getElem?.1 ((hm _).2 h2)
    have hki : i ≤ k := by have := (hk k _ hx); omega
    have hil : i < D.length := by have := (List.getElem?_eq_some_iff.1 hx).1; omega
    have he : D[i]? = some D[i] := List.getElem?_eq_getElem hil
    have h5 := h4 D[i] ((hm _).1 (List.getElem_mem hil)) (by have := hk i _ he; omega)
    rcases Nat.lt_or_eq_of_le hki with hq | rfl
    · obtain ⟨hk2, h6⟩ := List.getElem?_eq_some_iff.1 hx
      rw [List.pairwise_iff_getElem] at hp
      have := hp i k hil hk2 hq
      omega
    · rw [hx]; rfl
theorem nextD_app (S T : List Int) (d n : Int) : nextD (S ++ T) d n = nextD T d (nextD S d n) := by simp [nextD]
theorem rwith0N_f (d : Int) : Fun Tryz.prog 17 [.agg [.v (.slice none 0 0), .v (.slice none 0 0)], int d, int 0] (.agg [.v (.slice none 0 0), .v (.slice none 0 0)]) := by
  refine fun_W mixed Tryz.func17 rfl (Nat.le_of_ble_eq_true rfl) (by kernel_rfl) fun cx hN hR hF hL => ?_; apply args_k; (case hA => (simp only [go_sem, ↓reduceIte]; rfl))
  (try ((try (revert K;refine bK ?_));refine' run trivial ?_;(repeat' first|exact True.intro|refine Lv.mk ?_ ?_|(refine oK ?_;intro K hK)|intro hq);all_goals refine Lf.mk ?_))
theorem rwith0_f (d v : Int) (hv : v ≠ 0) : FunB Tryz.prog 17 [] [.agg [.v (.slice none 0 0), .v (.slice none 0 0)], int d, int v] (.agg [.osl 0 1 0 1, .osl 1 1 0 1]) [(0, some ⟨3, [int d]⟩), (1, some ⟨3, [int v]⟩)] := by
  refine funB_C 0 Tryz.func17 rfl (Nat.le_of_ble_eq_true rfl) (by simp [go_sem]) fun cx hN hR hF hL => ?_; apply code_argsB; (case hA => (simp only [go_sem, ↓reduceIte]; rfl)); (case hB => (simp only [go_sem, ↓reduceIte]; rfl))
  refine code_end (code_w mixed (by rw [hN]; kernel_rfl) ?_)
  (try ((try (revert K;refine bK ?_));refine' run (I (eq_false hv) (decide_eq_false hv)) ?_;(repeat' first|exact True.intro|refine Lv.mk ?_ ?_|(refine oK ?_;intro K hK)|intro hq);all_goals refine Lf.mk ?_))
  · refine ⟨nm2 0 4032 1 4072, ⟨[(6, .ptr 8 0)], [(8, some ⟨stepT, [.osl 0 1 0 1, .osl 1 1 0 1]⟩), (0, some ⟨3, [int d]⟩), (1, some ⟨3, [int v]⟩)], 9⟩, ?_, ?_⟩
    · simp only [go_sem, ↓reduceIte, hF]
      exact fun b g h => absurd (hF b g h) (by simp [inl])
    · (try ((try (revert K;refine bK ?_));refine' run trivial ?_;(repeat' first|exact True.intro|refine Lv.mk ?_ ?_|(refine oK ?_;intro K hK)|intro hq);all_goals refine Lf.mk ?_))
  all_goals simp [maxLen]
theorem rwithN_f (O : List (Int × Int)) (d : Int) (h0 : O ≠ []) (hl : O.length ≤ 100000) : FunB Tryz.prog 17 [(0, ⟨3, rowC irow (daysO O)⟩), (1, ⟨3, rowC irow (valsO O)⟩)] [.agg [.osl 0 1 0 O.length, .osl 1 1 0 O.length], int d, int (lastO O)] (.agg [.osl 0 1 0 O.length, .osl 1 1 0 O.length]) [] := by
  have hp : 0 < O.length := List.length_pos_iff.2 h0
  have hz1 := rowI_nz (l := daysO O) (by rw [daysO_len]; exact hp)
  have hz2 := rowI_nz (l := valsO O) (by rw [valsO_len]; exact hp)
  have hlast : (rowC irow (valsO O))[O.length - 1]? = some (int (lastO O)) := by
    rw [rowI_at, valsO, List.getElem?_map, ← List.getLast?_eq_getElem?]
    unfold lastO
    rcases hg : O.getLast? with _ | q
    · exact absurd (List.getLast?_eq_none_iff.1 hg) h0
    · rfl
  have w1 : IntKind.i64.wrap ((O.length : Int) - 1) = ((O.length - 1 : Nat) : Int) := by rw [wrap_id] <;> omega
  have c1 : ((O.length : Int) > 0) = True := eq_true (by omega)
  have c2 : O.length - 1 < O.length := by omega
  refine fun_WB 2 mixed Tryz.func17 rfl (Nat.le_of_ble_eq_true rfl) (by kernel_rfl) (by simp [go_sem, hz1, hz2]) fun cx hN hR hF hL => ?_; apply args_kb; (case hA => (simp only [go_sem, ↓reduceIte]; rfl)); (case hB => (simp only [go_sem, ↓reduceIte]; rfl))
  (try ((try (revert K;refine bK ?_));refine' run (I c1 (I (decide_eq_true (of_eq_true c1)) (I w1 (I hlast (I c2 (I hz1 hz2)))))) ?_;(repeat' first|exact True.intro|refine Lv.mk ?_ ?_|(refine oK ?_;intro K hK)|intro hq);all_goals refine Lf.mk ?_))
attribute [local go_sem] List.all_append List.map_append in
theorem rwith1_f (O : List (Int × Int)) (d v : Int) (h0 : O ≠ []) (hl : O.length ≤ 100000) (hv : v ≠ lastO O) : FunB Tryz.prog 17 [(0, ⟨3, rowC irow (daysO O)⟩), (1, ⟨3, rowC irow (valsO O)⟩)] [.agg [.osl 0 1 0 O.length, .osl 1 1 0 O.length], int d, int v] (.agg [.osl 2 1 0 (O.length + 1), .osl 3 1 0 (O.length + 1)])
    [(2, some ⟨3, rowC irow (daysO O) ++ [int d]⟩), (3, some ⟨3, rowC irow (valsO O) ++ [int v]⟩), (0, none), (1, none)] := by
  have hp : 0 < O.length := List.length_pos_iff.2 h0
  have hz1 := rowI_nz (l := daysO O) (by rw [daysO_len]; exact hp)
  have hz2 := rowI_nz (l := valsO O) (by rw [valsO_len]; exact hp)
  have hlast : (rowC irow (valsO O))[O.length - 1]? = some (int (lastO O)) := by
    rw [rowI_at, valsO, List.getElem?_map, ← List.getLast?_eq_getElem?]
    unfold lastO
    rcases hg : O.getLast? with _ | q
    · exact absurd (List.getLast?_eq_none_iff.1 hg) h0
    · rfl
  have w1 : IntKind.i64.wrap ((O.length : Int) - 1) = ((O.length - 1 : Nat) : Int) := by rw [wrap_id] <;> omega
  have c1 : ((O.length : Int) > 0) = True := eq_true (by omega)
  have c2 : O.length - 1 < O.length := by omega
  have hn1 : (rowC irow (daysO O)).length = O.length := by rw [rowI_len, daysO_len]
  have hn2 : (rowC irow (valsO O)).length = O.length := by rw [rowI_len, valsO_len]
  have hm1 := rowI_nms' (l := daysO O)
  have hm2 := rowI_nms' (l := valsO O)
  refine funB_C 2 Tryz.func17 rfl (Nat.le_of_ble_eq_true rfl) (by simp [go_sem, hz1, hz2, hm1, hm2]) fun cx hN hR hF hL => ?_; apply code_argsB; (case hA => (simp only [go_sem, ↓reduceIte]; rfl)); (case hB => (simp only [go_sem, ↓reduceIte]; rfl))
  refine code_end (code_w mixed (by rw [hN]; kernel_rfl) ?_)
  (try ((try (revert K;refine bK ?_));refine' run (I c1 (I (decide_eq_true (of_eq_true c1)) (I w1 (I hlast (I c2 (I hz1 (I hz2 (I (eq_false hv) (I (decide_eq_false hv) (I hn1 hn2)))))))))) ?_;(repeat' first|exact True.intro|refine Lv.mk ?_ ?_|(refine oK ?_;intro K hK)|intro hq);all_goals refine Lf.mk ?_))
  · refine ⟨nm2 2 5034 3 5074, ⟨[(6, .ptr 10 0)], [(10, some ⟨stepT, [.osl 2 1 0 (O.length + 1), .osl 3 1 0 (O.length + 1)]⟩), (2, some ⟨3, rowC irow (daysO O) ++ [int d]⟩), (3, some ⟨3, rowC irow (valsO O) ++ [int v]⟩)], 11⟩, ?_, ?_⟩
    · simp only [go_sem, ↓reduceIte, hF, List.map_append, List.all_append]
      refine fun b g h => ?_
      have := hF b g h
      simp [inl] at this
      rcases this with rfl | rfl <;> simp
    · (try ((try (revert K;refine bK ?_));refine' run trivial ?_;(repeat' first|exact True.intro|refine Lv.mk ?_ ?_|(refine oK ?_;intro K hK)|intro hq);all_goals refine Lf.mk ?_))
  all_goals (simp [maxLen]; omega)
theorem daysS_take {l : List File} {i : Nat} {f : File} (h : l[i]? = some f) (d n : Int) : nextD (daysS (l.take (i + 1))) d n = nextD (f.acts.map Act.booked) d (stepN d f.claim.booked (nextD (daysS (l.take i)) d n)) := by
  rw [daysS_snoc h, nextD_app]
  rfl
theorem nextD_snoc {S : List Int} {k : Nat} {x : Int} (h : S[k]? = some x) (d n : Int) : nextD (S.take (k + 1)) d n = stepN d x (nextD (S.take k) d n) := by
  rw [List.take_add_one, h, nextD_app]
  rfl
set_option maxHeartbeats 4000000 in
theorem rnext_f (l : List File) (d : Int) (hl : l.length ≤ 100000) (ha : ∀ f, f ∈ l → f.acts.length ≤ 100000) : Fun Tryz.prog 15 [filesA l, int d] (int (nextD (daysS l) d 0)) := by
  refine fun_W mixed Tryz.func15 rfl (Nat.le_of_ble_eq_true rfl) (by kernel_rfl) fun cx hN hR hF hL => ?_; apply args_k; (case hA => (simp only [go_sem, ↓reduceIte]; rfl))
  (try ((try (revert K;refine bK ?_));refine' run trivial ?_;(repeat' first|exact True.intro|refine Lv.mk ?_ ?_|(refine oK ?_;intro K hK)|intro hq);all_goals refine Lf.mk ?_))
  refine loopW mixed (σ := {i : Nat // i ≤ l.length}) (fun s => ⟨[(5, int (nextD (daysS (l.take s.1)) d 0)), (6, int s.1), (0, filesA l), (1, int d)], [], 3000⟩) (fun s => l.length - s.1) id ⟨0, by omega⟩ (by rw [hN]; kernel_rfl) ?_ ?_
  · simp only [go_sem, ↓reduceIte, hF]
    exact ⟨rfl, rfl⟩
  · rintro ⟨i, g1⟩
    by_cases gi : i < l.length
    · have e0 : l[i]? = some l[i] := List.getElem?_eq_getElem gi
      have e1 : (l.map File.flat)[i]? = some l[i].flat := by rw [List.getElem?_map, e0]; rfl
      have e2 : IntKind.i64.wrap ((i : Int) + 1) = ((i + 1 : Nat) : Int) := by rw [wrap_id] <;> omega
      have hk1 : i < (l.map File.flat).length := by simpa using gi
      have hs := fun n => daysS_take e0 d n
      have hal := ha _ (List.getElem_mem gi)
      generalize l[i] = f at *
      obtain ⟨c, L⟩ := f
      simp only at hs hal
      generalize hX : nextD (daysS (l.take i)) d 0 = X at *
      (try ((try (revert K;refine bK ?_));refine' run (I e1 (I hX hk1)) ?_;(repeat' first|exact True.intro|refine Lv.mk ?_ ?_|(refine oK ?_;intro K hK)|intro hq);all_goals refine Lf.mk ?_))
      all_goals
        refine loopW mixed (σ := {k : Nat // k ≤ L.length}) (fun s => ⟨[(5, int (nextD ((L.map Act.booked).take s.1) d (stepN d c.booked X))), (8, int s.1), (6, int i), (0, filesA l), (1, int d)], [], 8000⟩) (fun s => L.length - s.1) id ⟨0, by omega⟩ (by rw [hN]; kernel_rfl) ?_ ?_
        · simp only [go_sem, ↓reduceIte, hF]
          simp [nextD, stepN]
          try omega
        · rintro ⟨k, g2⟩
          by_cases gk : k < L.length
          · have f0 : L[k]? = some L[k] := List.getElem?_eq_getElem gk
            have f1 : (L.map Act.flat)[k]? = some L[k].flat := by rw [List.getElem?_map, f0]; rfl
            have f2 : IntKind.i64.wrap ((k : Int) + 1) = ((k + 1 : Nat) : Int) := by rw [wrap_id] <;> omega
            have hk2 : k < (L.map Act.flat).length := by simpa using gk
            have f3 : (L.map Act.booked)[k]? = some L[k].booked := by rw [List.getElem?_map, f0]; rfl
            have hn := nextD_snoc f3 d (stepN d c.booked X)
            generalize L[k] = a at *
            generalize hY : nextD ((L.map Act.booked).take k) d (stepN d c.booked X) = Y at *
            (try ((try (revert K;refine bK ?_));refine' run (I e1 (I hk1 (I f1 (I f2 (I hk2 hY))))) ?_;(repeat' first|exact True.intro|refine Lv.mk ?_ ?_|(refine oK ?_;intro K hK)|intro hq);all_goals refine Lf.mk ?_))
            all_goals
              refine ⟨⟨k + 1, gk⟩, id, ?_, by show L.length - (k + 1) < L.length - k; omega⟩
              simp only [go_sem, ↓reduceIte, hF, hn]
              simp [stepN]
              try omega
          · obtain rfl : k = L.length := by omega
            have hr := hs 0
            rw [hX] at hr
            have ht : (L.map Act.booked).take L.length = L.map Act.booked := by rw [← List.length_map (f := Act.booked), List.take_length]
            (try ((try (revert K;refine bK ?_));refine' run (I e1 (I e2 hk1)) ?_;(repeat' first|exact True.intro|refine Lv.mk ?_ ?_|(refine oK ?_;intro K hK)|intro hq);all_goals refine Lf.mk ?_))
            refine ⟨⟨i + 1, gi⟩, id, ?_, by show l.length - (i + 1) < l.length - i; omega⟩
            simp only [go_sem, ↓reduceIte, hF, hr, ht]
    · obtain rfl : i = l.length := by omega
      (try ((try (revert K;refine bK ?_));refine' run trivial ?_;(repeat' first|exact True.intro|refine Lv.mk ?_ ?_|(refine oK ?_;intro K hK)|intro hq);all_goals refine Lf.mk ?_))
      rw [List.take_length]
set_option maxHeartbeats 16000000 in
theorem rCurves_f (c : Cover) (l : List File) (hc : c.ok) (hl : l.length ≤ 100000) (ha : ∀ f, f ∈ l → f.acts.length ≤ 100000) (hd : (daysL l).length ≤ 2000) : Fun Tryz.prog 7 [.agg c.flat, filesA l] (.tup [stepA (cvO Pos.paid c l), stepA (cvO Pos.reserve c l), int (cvE c l)]) := by
  have k1 := rOf_f c l hc hl
  by_cases he : checkE c l = 0
  · have hdi := days_in he
    have kA := fun d => refAt_f c l d hc hl ha
    have kN := fun d => rnext_f l d hl ha
    have hat : ∀ d, atP c l d = sumP (ofL c (knownR l d)) ∧ atE c l d = 0 := fun d => ⟨by rw [atP, if_pos ⟨he, check_known he d⟩], by rw [atE, if_pos he, check_known he d]⟩
    have hbd := fun d => sum_bd (check_known he d)
    rw [he] at k1
    have hcE : cvE c l = 0 := by rw [cvE, if_pos he, if_neg (by omega)]
    have h0 : ∀ f, cvO f c l = curveO f c l (daysL l) := fun f => by rw [cvO, if_pos hcE]
    rw [h0, h0, hcE]
    have hnx : ∀ (i : Nat) (d : Int), i ≤ (daysL l).length → ((i = 0 ∧ d = 0) ∨ (0 < i ∧ (daysL l)[i - 1]? = some d)) → nextD (daysS l) d 0 = ((daysL l)[i]?).getD 0 := fun i d h1 h2 => nextD_at (fun x => daysL_mem) (daysL_rise l) (fun x hx => (hdi x hx).1) h1 h2
    have hpos : ∀ d, d ∈ daysL l → 1 ≤ d := fun d hd => (hdi d (daysL_mem.1 hd)).1
    have hn0 := hnx 0 0 (Nat.zero_le _) (.inl ⟨rfl, rfl⟩)
    generalize daysL l = D at *
    have hd3 : ¬ ((D.length : Int) > 2000) := by omega
    refine fun_W mixed Tryz.func7 rfl (Nat.le_of_ble_eq_true rfl) (by kernel_rfl) fun cx hN hR hF hL => ?_; apply args_k; (case hA => (simp only [go_sem, ↓reduceIte]; rfl))
    (repeat' first|((try (revert K;refine bK ?_));refine' run hn0 ?_;(repeat' first|exact True.intro|refine Lv.mk ?_ ?_|(refine oK ?_;intro K hK)|intro hq);all_goals refine Lf.mk ?_)|refine callZ cl14 (k1) ?_|refine callZ cl15 (kN 0) ?_)
    refine loopW mixed (σ := {i : Nat // i ≤ D.length}) (fun s => ⟨[(11, int s.1), (12, int 0), (13, bool false), (14, int ((D[s.1]?).getD 0)), (1, filesA l), (2, .ptr 0 0), (4, .ptr 8 0), (5, .ptr 16 0), (9, .ptr 3008 0), (10, .ptr 4008 0)], (3008, some ⟨stepT, [stX 8990 (curveO Pos.paid c l (D.take s.1)), stX 8991 (curveO Pos.paid c l (D.take s.1))]⟩) :: (4008, some ⟨stepT, [stX 8992 (curveO Pos.reserve c l (D.take s.1)), stX 8993 (curveO Pos.reserve c l (D.take s.1))]⟩) :: (0, some ⟨23, c.flat⟩) :: (8, some ⟨stepT, [.v (.slice none 0 0), .v (.slice none 0 0)]⟩) :: (16, some ⟨stepT, [.v (.slice none 0 0), .v (.slice none 0 0)]⟩) :: (stB 8990 (curveO Pos.paid c l (D.take s.1)) ++ stB 8992 (curveO Pos.reserve c l (D.take s.1))), 9000⟩) (fun s => D.length - s.1) id ⟨0, by omega⟩ (by rw [hN]; kernel_rfl) ?_ ?_
    · simp only [List.take_zero, show ∀ f, curveO f c l [] = [] from fun _ => rfl, stX_nil, stB_nil, List.nil_append]
      simp only [go_sem, ↓reduceIte, hF, hn0]
      rfl
    · rintro ⟨i, g1⟩
      by_cases gi : i < D.length
      · have e0 : D[i]? = some D[i] := List.getElem?_eq_getElem gi
        have e2 : IntKind.i64.wrap ((i : Int) + 1) = ((i + 1 : Nat) : Int) := by rw [wrap_id] <;> omega
        have e3 : (D[i]?).getD 0 = D[i] := by rw [e0]; rfl
        have hp := hpos D[i] (List.getElem_mem gi)
        have hnn := hnx (i + 1) D[i] gi (.inr ⟨by omega, by simp [e0]⟩)
        have s1 := curveO_take (f := Pos.paid) (c := c) (l := l) e0
        have s2 := curveO_take (f := Pos.reserve) (c := c) (l := l) e0
        have l1 := curveO_len Pos.paid c l D i g1
        have l2 := curveO_len Pos.reserve c l D i g1
        simp only [e3]
        generalize D[i] = d at *
        have kA := kA d
        have hbd := hbd d
        rw [(hat d).1, (hat d).2] at kA
        generalize knownR l d = m at *
        generalize sumP (ofL c m) = q at *
        obtain ⟨q1, q2, q3, q4, q5, q6⟩ := q
        simp only at hbd s1 s2
        have c0 : (d > 0) = True := eq_true (by omega)
        have c1 : (q3 > 4000000000000000000) = False := eq_false (by omega)
        have c2 : (q5 > 4000000000000000000) = False := eq_false (by omega)
        generalize hO1 : curveO Pos.paid c l (D.take i) = A at *
        generalize hO2 : curveO Pos.reserve c l (D.take i) = B at *
        try simp only [hO1, hO2]
        (repeat' first|((try (revert K;refine bK ?_));refine' run (I e2 (I c0 (I (decide_eq_true (of_eq_true c0)) (I c1 (I c2 (I (decide_eq_false (of_eq_false c1)) (decide_eq_false (of_eq_false c2)))))))) ?_;(repeat' first|exact True.intro|refine Lv.mk ?_ ?_|(refine oK ?_;intro K hK)|intro hq);all_goals refine Lf.mk ?_)|refine callZ cl16 (kA) ?_)
        obtain hA | hA | hA | hA : (A = [] ∧ q3 = 0) ∨ (A = [] ∧ q3 ≠ 0) ∨ (A ≠ [] ∧ q3 = lastO A) ∨ (A ≠ [] ∧ q3 ≠ lastO A) := four_ways _ _
        all_goals first
          | (have hh : A = [] ∧ q3 = 0 := hA; obtain ⟨rfl, rfl⟩ := hh; rw [putO, lastO_nil, if_pos rfl] at s1; simp only [stX_nil, stB_nil, List.nil_append]; (refine callW cl17 (rwith0N_f d) (by simp) ?_))
          | (have hh : A = [] ∧ q3 ≠ 0 := hA; obtain ⟨rfl, hv1⟩ := hh; rw [putO, lastO_nil, if_neg hv1, List.nil_append] at s1; simp only [stX_nil, stB_nil, List.nil_append]; (apply callB' [14032, 14033] cl17 (rwith0_f d q3 hv1); (case h1 | h2 | h3 => (simp only [go_sem, ↓reduceIte]; try rfl)); (case hl | hs | hfp | hfr => (simp [go_sem]; done))))
          | (have hh : A ≠ [] ∧ q3 = lastO A := hA; obtain ⟨n1, rfl⟩ := hh; rw [putO, if_pos rfl] at s1; simp only [stX_some n1, stB_some n1, List.cons_append, List.nil_append]; (apply callB' [8990, 8991] cl17 (rwithN_f A d n1 (by omega)); (case h1 | h2 | h3 => (simp only [go_sem, ↓reduceIte]; try rfl)); (case hl | hs | hfp | hfr => (simp [go_sem]; done))))
          | (have hh : A ≠ [] ∧ q3 ≠ lastO A := hA; obtain ⟨n1, hv1⟩ := hh; rw [putO, if_neg hv1] at s1; simp only [stX_some n1, stB_some n1, List.cons_append, List.nil_append]; (apply callB' [8990, 8991, 14032, 14033] cl17 (rwith1_f A d q3 n1 (by omega) hv1); (case h1 | h2 | h3 => (simp only [go_sem, ↓reduceIte]; try rfl)); (case hl | hs | hfp | hfr => (simp [go_sem]; done))))
        all_goals (try ((try (revert K;refine bK ?_));refine' run e2 ?_;(repeat' first|exact True.intro|refine Lv.mk ?_ ?_|(refine oK ?_;intro K hK)|intro hq);all_goals refine Lf.mk ?_))
        all_goals obtain hB | hB | hB | hB : (B = [] ∧ q5 = 0) ∨ (B = [] ∧ q5 ≠ 0) ∨ (B ≠ [] ∧ q5 = lastO B) ∨ (B ≠ [] ∧ q5 ≠ lastO B) := four_ways _ _
        all_goals first
          | (have hh : B = [] ∧ q5 = 0 := hB; obtain ⟨rfl, rfl⟩ := hh; rw [putO, lastO_nil, if_pos rfl] at s2; simp only [stX_nil, stB_nil, List.nil_append]; (refine callW cl17 (rwith0N_f d) (by simp) ?_))
          | (have hh : B = [] ∧ q5 ≠ 0 := hB; obtain ⟨rfl, hv2⟩ := hh; rw [putO, lastO_nil, if_neg hv2, List.nil_append] at s2; simp only [stX_nil, stB_nil, List.nil_append]; (apply callB' [15032, 15033] cl17 (rwith0_f d q5 hv2); (case h1 | h2 | h3 => (simp only [go_sem, ↓reduceIte]; try rfl)); (case hl | hs | hfp | hfr => (simp [go_sem]; done))))
          | (have hh : B ≠ [] ∧ q5 = lastO B := hB; obtain ⟨n2, rfl⟩ := hh; rw [putO, if_pos rfl] at s2; simp only [stX_some n2, stB_some n2, List.cons_append, List.nil_append]; (apply callB' [8992, 8993] cl17 (rwithN_f B d n2 (by omega)); (case h1 | h2 | h3 => (simp only [go_sem, ↓reduceIte]; try rfl)); (case hl | hs | hfp | hfr => (simp [go_sem]; done))))
          | (have hh : B ≠ [] ∧ q5 ≠ lastO B := hB; obtain ⟨n2, hv2⟩ := hh; rw [putO, if_neg hv2] at s2; simp only [stX_some n2, stB_some n2, List.cons_append, List.nil_append]; (apply callB' [8992, 8993, 15032, 15033] cl17 (rwith1_f B d q5 n2 (by omega) hv2); (case h1 | h2 | h3 => (simp only [go_sem, ↓reduceIte]; try rfl)); (case hl | hs | hfp | hfr => (simp [go_sem]; done))))
        all_goals (repeat' first|((try (revert K;refine bK ?_));refine' run (I e2 hnn) ?_;(repeat' first|exact True.intro|refine Lv.mk ?_ ?_|(refine oK ?_;intro K hK)|intro hq);all_goals refine Lf.mk ?_)|refine callZ cl15 (kN d) ?_)
        all_goals first
          | (refine ⟨⟨i + 1, gi⟩, id, ?_, by show D.length - (i + 1) < D.length - i; omega⟩; simp (disch := assumption) only [s1, s2, stX_nil, stB_nil, stX_one, stB_one, stX_snoc, stB_snoc, stX_some, stB_some, List.cons_append, List.nil_append]; simp only [go_sem, ↓reduceIte, hF, List.map_append, List.all_append]; done)
          | (refine ⟨⟨i + 1, gi⟩, (nm2 8990 14032 8991 14033), ?_, by show D.length - (i + 1) < D.length - i; omega⟩; simp (disch := assumption) only [s1, s2, stX_nil, stB_nil, stX_one, stB_one, stX_snoc, stB_snoc, stX_some, stB_some, List.cons_append, List.nil_append]; simp only [go_sem, ↓reduceIte, hF, List.map_append, List.all_append]; done)
          | (refine ⟨⟨i + 1, gi⟩, (nm2 8992 15032 8993 15033), ?_, by show D.length - (i + 1) < D.length - i; omega⟩; simp (disch := assumption) only [s1, s2, stX_nil, stB_nil, stX_one, stB_one, stX_snoc, stB_snoc, stX_some, stB_some, List.cons_append, List.nil_append]; simp only [go_sem, ↓reduceIte, hF, List.map_append, List.all_append]; done)
          | (refine ⟨⟨i + 1, gi⟩, (nm4 8990 14032 8991 14033 8992 15032 8993 15033), ?_, by show D.length - (i + 1) < D.length - i; omega⟩; simp (disch := assumption) only [s1, s2, stX_nil, stB_nil, stX_one, stB_one, stX_snoc, stB_snoc, stX_some, stB_some, List.cons_append, List.nil_append]; simp only [go_sem, ↓reduceIte, hF, List.map_append, List.all_append]; done)
      · obtain rfl : i = D.length := by omega
        have e9 : (D[D.length]?).getD 0 = 0 := by simp
        simp only [List.take_length, e9]
        generalize curveO Pos.paid c l D = A at *
        generalize curveO Pos.reserve c l D = B at *
        by_cases nA : A = []
        · by_cases nB : B = []
          · subst nA nB
            simp only [stX_nil, stB_nil, List.append_nil]
            (try ((try (revert K;refine bK ?_));refine' run (I (eq_false hd3) (decide_eq_false hd3)) ?_;(repeat' first|exact True.intro|refine Lv.mk ?_ ?_|(refine oK ?_;intro K hK)|intro hq);all_goals refine Lf.mk ?_))
            exact ⟨rfl, rfl⟩
          · subst nA
            simp only [stX_nil, stB_nil, stX_some nB, stB_some nB, List.nil_append]
            (try ((try (revert K;refine bK ?_));refine' run (I (eq_false hd3) (decide_eq_false hd3)) ?_;(repeat' first|exact True.intro|refine Lv.mk ?_ ?_|(refine oK ?_;intro K hK)|intro hq);all_goals refine Lf.mk ?_))
            exact ⟨⟨rfl, rfl⟩, fzi _ (daysO_len B).symm, fzi _ (valsO_len B).symm⟩
        · by_cases nB : B = []
          · subst nB
            simp only [stX_nil, stB_nil, stX_some nA, stB_some nA, List.append_nil]
            (try ((try (revert K;refine bK ?_));refine' run (I (eq_false hd3) (decide_eq_false hd3)) ?_;(repeat' first|exact True.intro|refine Lv.mk ?_ ?_|(refine oK ?_;intro K hK)|intro hq);all_goals refine Lf.mk ?_))
            exact ⟨⟨fzi _ (daysO_len A).symm, fzi _ (valsO_len A).symm⟩, rfl, rfl⟩
          · simp only [stX_some nA, stB_some nA, stX_some nB, stB_some nB, List.cons_append, List.nil_append]
            (try ((try (revert K;refine bK ?_));refine' run (I (eq_false hd3) (decide_eq_false hd3)) ?_;(repeat' first|exact True.intro|refine Lv.mk ?_ ?_|(refine oK ?_;intro K hK)|intro hq);all_goals refine Lf.mk ?_))
            exact ⟨⟨fzi _ (daysO_len A).symm, fzi _ (valsO_len A).symm⟩, fzi _ (daysO_len B).symm, fzi _ (valsO_len B).symm⟩
  · have hcE : cvE c l = checkE c l := by rw [cvE, if_neg he]
    have h0 : ∀ f, cvO f c l = [] := fun f => by rw [cvO, if_neg (by rw [hcE]; exact he)]
    rw [h0, h0, hcE]
    refine fun_W mixed Tryz.func7 rfl (Nat.le_of_ble_eq_true rfl) (by kernel_rfl) fun cx hN hR hF hL => ?_; apply args_k; (case hA => (simp only [go_sem, ↓reduceIte]; rfl))
    (repeat' first|((try (revert K;refine bK ?_));refine' run (I (eq_false he) (decide_eq_false he)) ?_;(repeat' first|exact True.intro|refine Lv.mk ?_ ?_|(refine oK ?_;intro K hK)|intro hq);all_goals refine Lf.mk ?_)|refine callZ cl14 (k1) ?_)
    exact ⟨rfl, rfl⟩
set_option maxHeartbeats 4000000 in
theorem curvesLaw (c : Cover) (l : List File) (hc : c.ok) : Fun Tryz.prog 3 [.agg c.flat, filesA l] (bool true) := by
  by_cases hf : few20 l = true
  · obtain ⟨h1, h2⟩ := few20_is hf
    have ha : ∀ f, f ∈ l → f.acts.length ≤ 100000 := fun f hf => Nat.le_trans (h2 f hf) (by omega)
    have hd : (daysL l).length ≤ 2000 := by
      have q1 := actsN_le l 40 h2
      have q2 := daysS_len l
      have q3 : (daysL l).length = (uniq (daysS l)).length := by simp [daysL]
      have q4 : ∀ S : List Int, (uniq S).length ≤ S.length := by
        intro S
        induction S with
        | nil => exact Nat.le_refl _
        | cons x S ih => have := List.length_filter_le (fun y => decide (y ≠ x)) (uniq S); unfold uniq; simp only [List.length_cons]; omega
      have q5 := q4 (daysS l)
      have : l.length * 40 ≤ 20 * 40 := Nat.mul_le_mul_right _ h1
      omega
    have k1 := curves_f c l hc (by omega)
    have k2 := rCurves_f c l hc (by omega) ha hd
    generalize cvO Pos.paid c l = A at *
    generalize cvO Pos.reserve c l = B at *
    generalize cvE c l = e at *
    have k3 := same4_f (daysO A) (valsO A)
    have k4 := same4_f (daysO B) (valsO B)
    refine fun_W mixed Tryz.func3 rfl (Nat.le_of_ble_eq_true rfl) (by kernel_rfl) fun cx hN hR hF hL => ?_; apply args_k; (case hA => (simp only [go_sem, ↓reduceIte]; rfl))
    (repeat' first|((try (revert K;refine bK ?_));refine' run hf ?_;(repeat' first|exact True.intro|refine Lv.mk ?_ ?_|(refine oK ?_;intro K hK)|intro hq);all_goals refine Lf.mk ?_)|refine callZ cl4 (awake_f) ?_|refine callZ cl5 (few20_f l) ?_|refine callZ cl6 (k1) ?_|refine callZ cl7 (k2) ?_|refine callZ cl8 (k3) ?_|refine callZ cl8 (k4) ?_)
  · simp only [Bool.not_eq_true] at hf
    refine fun_W mixed Tryz.func3 rfl (Nat.le_of_ble_eq_true rfl) (by kernel_rfl) fun cx hN hR hF hL => ?_; apply args_k; (case hA => (simp only [go_sem, ↓reduceIte]; rfl))
    (repeat' first|((try (revert K;refine bK ?_));refine' run hf ?_;(repeat' first|exact True.intro|refine Lv.mk ?_ ?_|(refine oK ?_;intro K hK)|intro hq);all_goals refine Lf.mk ?_)|refine callZ cl4 (awake_f) ?_|refine callZ cl5 (few20_f l) ?_)
end Go.Proofs.YtjplhfmakghabaaGreat.V
