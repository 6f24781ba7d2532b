/- slices.SortStableFunc at ints by days. Contracts: change.Order, the reference's Order. slices.cut (chapter 12). Contract of change.Put. Contracts: ref 11 last, Put. Contracts: Same, at equal things. -/
import Derived.Test.YtkonljmmdifnaaaGreatG10
import Derived.Test.YtkonljmmdifnaaaGreatG6
import Derived.Test.YtkonljmmdifnaaaGreatG8
set_option linter.unusedSimpArgs false
set_option linter.unusedVariables false
namespace Go.Proofs.YtkonljmmdifnaaaGreat.V
open Go.RowKit
set_option maxRecDepth 100000

set_option maxHeartbeats 4000000 in
theorem stable_f (h : History) (l : List Int) (h0 : 0 < l.length) (hl : l.length ≤ 50000) (hP : ∀ x, x ∈ l → placeOf h x) :
    FunB Tryz.prog 150 [(0, ⟨3, rowC irow l⟩), (1, ⟨31, h.flat⟩)] [.osl 0 1 0 l.length, int l.length, .fn (.func 121) [] [.ptr 1 0]] (.tup []) [(0, some ⟨3, rowC irow (isort (ltO h) l)⟩)] := by
  have hne2 := rowI_nz h0
  generalize hn : l.length = n at *
  refine fun_WB 2 mixed Tryz.func150 rfl (Nat.le_of_ble_eq_true rfl) (by kernel_rfl) (by simp [go_sem, hne2, rowI_nms']) fun cx hN hR hF hL => ?_; apply args_kb; (case hA => (simp only [go_sem, ↓reduceIte]; rfl)); (case hB => (simp only [go_sem, ↓reduceIte]; rfl))
  have hF2 : ∀ b g, cx.F b = some g → b < 2000 := fun b g h => by
    have := hF b g h
    simp [inl] at this
    omega
  (try ((try (revert K;refine bK ?_));refine' run trivial ?_;(repeat' first|exact True.intro|refine Lv.mk ?_ ?_|(refine oK ?_;intro K hK)|intro hq);all_goals refine Lf.mk ?_))
  refine loopW mixed (σ := {p : List Int × List Int // p.1 ++ blk (ltO h) 20 p.2 = blk (ltO h) 20 l ∧ p.1.length + p.2.length = n ∧ (∀ x, x ∈ p.1 → placeOf h x) ∧ ∀ x, x ∈ p.2 → placeOf h x})
    (fun s => ⟨[(7, int s.1.1.length), (8, int (s.1.1.length + 20 : Nat)), (6, int 20), (0, .osl 0 1 0 n), (1, int n), (2, .fn (.func 121) [] [.ptr 1 0])], [(0, some ⟨3, rowC irow (s.1.1 ++ s.1.2)⟩), (1, some ⟨31, h.flat⟩)], 4000⟩) (fun s => s.1.2.length) id ⟨([], l), rfl, by simpa using hn, by simp, hP⟩ (by rw [hN]; kernel_rfl) ?_ ?_
  · have h20 : ((0 + 20 : Nat) : Int) = 20 := rfl
    simp only [go_sem, ↓reduceIte, hF, h20]
    exact ⟨rfl, fun b g h => by have := hF2 b g h; omega⟩
  · rintro ⟨⟨D, R⟩, g1, g2, g3, g4⟩
    simp only at g1 g2 g3 g4
    by_cases hR : 20 ≤ R.length
    · obtain ⟨A, R', he, hA⟩ : ∃ A R', R = A ++ R' ∧ A.length = 20 := ⟨R.take 20, R.drop 20, by simp, by simp; omega⟩
      have c1 : decide (((D.length + 20 : Nat) : Int) ≤ (n : Int)) = true := by simp; omega
      have w1 : IntKind.i64.wrap (((D.length + 20 : Nat) : Int) + 20) = ((D.length + 20 + 20 : Nat) : Int) := by rw [wrap_id] <;> omega
      have lR : R.length = 20 + R'.length := by rw [he, List.length_append, hA]
      have hnz := rowI_nz (l := D ++ R) (by rw [List.length_append]; omega)
      have c := insertion_f h D A R' (by simp only [List.length_append]; omega) (by simp only [List.length_append]; omega) (fun x hx => g4 x (by rw [he]; simp [hx]))
      rw [← he, List.length_append, g2, hA] at c
      (try ((try (revert K;refine bK ?_));refine' run (I c1 w1) ?_;(repeat' first|exact True.intro|refine Lv.mk ?_ ?_|(refine oK ?_;intro K hK)|intro hq);all_goals refine Lf.mk ?_))
      (apply callB' [0, 1] cl162 (c); (case h1 | h2 | h3 => (simp only [go_sem, ↓reduceIte]; try rfl)); (case hl | hs | hfp | hfr => (simp [go_sem]; done)))
      (try ((try (revert K;refine bK ?_));refine' run (I c1 w1) ?_;(repeat' first|exact True.intro|refine Lv.mk ?_ ?_|(refine oK ?_;intro K hK)|intro hq);all_goals refine Lf.mk ?_))
      refine ⟨⟨(D ++ isort (ltO h) A, R'), by rw [← g1, he, blk_app hA (by omega)]; simp, by simp only [List.length_append, isort_len]; omega, fun x hx => ?_, fun x hx => g4 x (by rw [he]; simp [hx])⟩, id, ?_, by show R'.length < R.length; omega⟩
      · rcases List.mem_append.1 hx with hx | hx
        · exact g3 x hx
        · exact g4 x (by rw [he]; simp [isort_mem.1 hx])
      · have e1 : (D ++ isort (ltO h) A).length = D.length + 20 := by rw [List.length_append, isort_len, hA]
        simp only [go_sem, ↓reduceIte, hF, e1, List.append_assoc]
        exact fun b g h => by have := hF2 b g h; omega
    · have c1 : decide (((D.length + 20 : Nat) : Int) ≤ (n : Int)) = false := by simp; omega
      have hnz := rowI_nz (l := D ++ R) (by rw [List.length_append]; omega)
      have c := insertion_f h D R [] (by simp only [List.append_nil, List.length_append]; omega) (by simp only [List.append_nil, List.length_append]; omega) g4
      rw [List.append_nil, List.append_nil, List.length_append, g2, ← blk_le (s := 20) (by omega : R.length ≤ 20), g1] at c
      have hnz2 := rowI_nz (l := blk (ltO h) 20 l) (by rw [blk_len]; omega)
      (try ((try (revert K;refine bK ?_));refine' run c1 ?_;(repeat' first|exact True.intro|refine Lv.mk ?_ ?_|(refine oK ?_;intro K hK)|intro hq);all_goals refine Lf.mk ?_))
      (apply callB' [0, 1] cl162 (c); (case h1 | h2 | h3 => (simp only [go_sem, ↓reduceIte]; try rfl)); (case hl | hs | hfp | hfr => (simp [go_sem]; done)))
      (try ((try (revert K;refine bK ?_));refine' run c1 ?_;(repeat' first|exact True.intro|refine Lv.mk ?_ ?_|(refine oK ?_;intro K hK)|intro hq);all_goals refine Lf.mk ?_))
      refine loopW mixed (σ := {s : Nat // 0 < s ∧ s ≤ 100000}) (fun s => ⟨[(6, int s.1), (0, .osl 0 1 0 n), (1, int n), (2, .fn (.func 121) [] [.ptr 1 0])], [(0, some ⟨3, rowC irow (blk (ltO h) s.1 l)⟩), (1, some ⟨31, h.flat⟩)], 8000⟩) (fun s => n - s.1) id ⟨20, by omega, by omega⟩ (by rw [hN]; kernel_rfl) ?_ ?_
      · simp only [go_sem, ↓reduceIte, hF]
        exact ⟨rfl, fun b g h => by have := hF2 b g h; omega⟩
      · rintro ⟨s, q1, q2⟩
        by_cases hs : s < n
        · have w2 : IntKind.i64.wrap (2 * (s : Int)) = ((2 * s : Nat) : Int) := by rw [wrap_id] <;> omega
          have w3 : IntKind.i64.wrap ((s : Int) * 2) = ((2 * s : Nat) : Int) := by rw [wrap_id] <;> omega
          (try ((try (revert K;refine bK ?_));refine' run (I (eq_true hs) (I w2 w3)) ?_;(repeat' first|exact True.intro|refine Lv.mk ?_ ?_|(refine oK ?_;intro K hK)|intro hq);all_goals refine Lf.mk ?_))
          refine loopW mixed (σ := {p : List Int × List Int // p.1 ++ blk (ltO h) (2 * s) p.2 = blk (ltO h) (2 * s) l ∧ p.1.length + p.2.length = n ∧ (∀ x, x ∈ p.1 → placeOf h x) ∧ ∀ x, x ∈ p.2 → placeOf h x})
            (fun p => ⟨[(7, int p.1.1.length), (8, int (p.1.1.length + 2 * s : Nat)), (6, int s), (0, .osl 0 1 0 n), (1, int n), (2, .fn (.func 121) [] [.ptr 1 0])], [(0, some ⟨3, rowC irow (p.1.1 ++ blk (ltO h) s p.1.2)⟩), (1, some ⟨31, h.flat⟩)], 16000⟩) (fun p => p.1.2.length) id ⟨([], l), rfl, by simpa using hn, by simp, hP⟩ (by rw [hN]; kernel_rfl) ?_ ?_
          · have hz : ((0 + 2 * s : Nat) : Int) = ((2 * s : Nat) : Int) := by omega
            simp only [go_sem, ↓reduceIte, hF, hz]
            exact ⟨rfl, fun b g h => by have := hF2 b g h; omega⟩
          · rintro ⟨⟨D, R⟩, g1, g2, g3, g4⟩
            simp only at g1 g2 g3 g4
            by_cases hR : 2 * s ≤ R.length
            · obtain ⟨A, B, R', he, hA, hB⟩ : ∃ A B R', R = A ++ (B ++ R') ∧ A.length = s ∧ B.length = s := ⟨R.take s, (R.drop s).take s, (R.drop s).drop s, by rw [List.take_append_drop, List.take_append_drop], by simp; omega, by simp; omega⟩
              have c1 : decide (((D.length + 2 * s : Nat) : Int) ≤ (n : Int)) = true := by simp; omega
              have w4 : IntKind.i64.wrap (((D.length + 2 * s : Nat) : Int) + ((2 * s : Nat) : Int)) = ((D.length + 2 * s + 2 * s : Nat) : Int) := by rw [wrap_id] <;> omega
              have w5 : IntKind.i64.wrap (((D.length : Nat) : Int) + s) = ((D.length + s : Nat) : Int) := by rw [wrap_id] <;> omega
              have lR : R.length = s + (s + R'.length) := by rw [he, List.length_append, List.length_append, hA, hB]
              have eb : blk (ltO h) s R = isort (ltO h) A ++ (isort (ltO h) B ++ blk (ltO h) s R') := by rw [he, blk_app hA q1, blk_app hB q1]
              have lb : (D ++ blk (ltO h) s R).length = n := by rw [List.length_append, blk_len]; omega
              have c := symMerge_f h _ D (isort (ltO h) A) (isort (ltO h) B) (blk (ltO h) s R') (Nat.le_refl _) (by rw [← eb]; omega) (by rw [isort_len]; omega) (by rw [isort_len]; omega) (fun x hx => g4 x (by rw [he]; simp [isort_mem.1 hx])) (fun x hx => g4 x (by rw [he]; simp [isort_mem.1 hx])) (isort_srt (sw_ltO h) _) (isort_srt (sw_ltO h) _)
              unfold SymM at c
              rw [← eb, lb, isort_len, isort_len, hA, hB, show D.length + s + s = D.length + 2 * s by omega, mrg_isort (sw_ltO h)] at c
              have hnz3 := rowI_nz (l := D ++ blk (ltO h) s R) (by omega)
              (try ((try (revert K;refine bK ?_));refine' run (I c1 (I w2 (I w4 w5))) ?_;(repeat' first|exact True.intro|refine Lv.mk ?_ ?_|(refine oK ?_;intro K hK)|intro hq);all_goals refine Lf.mk ?_))
              (apply callB' [0, 1] cl163 (c); (case h1 | h2 | h3 => (simp only [go_sem, ↓reduceIte]; try rfl)); (case hl | hs | hfp | hfr => (simp [go_sem]; done)))
              (try ((try (revert K;refine bK ?_));refine' run (I c1 (I w2 (I w4 w5))) ?_;(repeat' first|exact True.intro|refine Lv.mk ?_ ?_|(refine oK ?_;intro K hK)|intro hq);all_goals refine Lf.mk ?_))
              refine ⟨⟨(D ++ isort (ltO h) (A ++ B), R'), ?_, by simp only [List.length_append, isort_len]; omega, fun x hx => ?_, fun x hx => g4 x (by rw [he]; simp [hx])⟩, id, ?_, by show R'.length < R.length; omega⟩
              · rw [← g1, he, ← List.append_assoc A, blk_app (by rw [List.length_append]; omega) (by omega), List.append_assoc]
              · rcases List.mem_append.1 hx with hx | hx
                · exact g3 x hx
                · rcases List.mem_append.1 (isort_mem.1 hx) with hx | hx
                  · exact g4 x (by rw [he]; simp [hx])
                  · exact g4 x (by rw [he]; simp [hx])
              · have e1 : (D ++ isort (ltO h) (A ++ B)).length = D.length + 2 * s := by rw [List.length_append, isort_len, List.length_append]; omega
                simp only [go_sem, ↓reduceIte, hF, e1, List.append_assoc]
                exact fun b g h => by have := hF2 b g h; omega
            · have c1 : decide (((D.length + 2 * s : Nat) : Int) ≤ (n : Int)) = false := by simp; omega
              have w5 : IntKind.i64.wrap (((D.length : Nat) : Int) + s) = ((D.length + s : Nat) : Int) := by rw [wrap_id] <;> omega
              have hnz3 := rowI_nz (l := D ++ blk (ltO h) s R) (by rw [List.length_append, blk_len]; omega)
              by_cases hm : s < R.length
              · have c2 : decide (((D.length + s : Nat) : Int) < (n : Int)) = true := by simp; omega
                obtain ⟨A, B, he, hA⟩ : ∃ A B, R = A ++ B ∧ A.length = s := ⟨R.take s, R.drop s, by simp, by simp; omega⟩
                have lR : R.length = s + B.length := by rw [he, List.length_append, hA]
                have eb : blk (ltO h) s R = isort (ltO h) A ++ (isort (ltO h) B ++ []) := by rw [he, blk_app hA q1, blk_le (l := B) (by omega), List.append_nil]
                have lb : (D ++ blk (ltO h) s R).length = n := by rw [List.length_append, blk_len]; omega
                have c := symMerge_f h _ D (isort (ltO h) A) (isort (ltO h) B) [] (Nat.le_refl _) (by rw [← eb]; omega) (by rw [isort_len]; omega) (by rw [isort_len]; omega) (fun x hx => g4 x (by rw [he]; simp [isort_mem.1 hx])) (fun x hx => g4 x (by rw [he]; simp [isort_mem.1 hx])) (isort_srt (sw_ltO h) _) (isort_srt (sw_ltO h) _)
                unfold SymM at c
                rw [← eb, lb, isort_len, isort_len, hA, show D.length + s + B.length = n by omega, mrg_isort (sw_ltO h), List.append_nil, ← he, ← blk_le (s := 2 * s) (by omega : R.length ≤ 2 * s), g1] at c
                (try ((try (revert K;refine bK ?_));refine' run (I c1 (I c2 (I w5 w3))) ?_;(repeat' first|exact True.intro|refine Lv.mk ?_ ?_|(refine oK ?_;intro K hK)|intro hq);all_goals refine Lf.mk ?_))
                (apply callB' [0, 1] cl163 (c); (case h1 | h2 | h3 => (simp only [go_sem, ↓reduceIte]; try rfl)); (case hl | hs | hfp | hfr => (simp [go_sem]; done)))
                (try ((try (revert K;refine bK ?_));refine' run (I c1 (I c2 (I w5 w3))) ?_;(repeat' first|exact True.intro|refine Lv.mk ?_ ?_|(refine oK ?_;intro K hK)|intro hq);all_goals refine Lf.mk ?_))
                refine ⟨⟨2 * s, by omega, by omega⟩, id, ?_, by show n - 2 * s < n - s; omega⟩
                simp only [go_sem, ↓reduceIte, hF]
                exact fun b g h => by have := hF2 b g h; omega
              · have c2 : decide (((D.length + s : Nat) : Int) < (n : Int)) = false := by simp; omega
                rw [blk_le (s := 2 * s) (by omega : R.length ≤ 2 * s), ← blk_le (s := s) (by omega : R.length ≤ s)] at g1
                rw [g1]
                (try ((try (revert K;refine bK ?_));refine' run (I c1 (I c2 (I w5 w3))) ?_;(repeat' first|exact True.intro|refine Lv.mk ?_ ?_|(refine oK ?_;intro K hK)|intro hq);all_goals refine Lf.mk ?_))
                refine ⟨⟨2 * s, by omega, by omega⟩, id, ?_, by show n - 2 * s < n - s; omega⟩
                simp only [go_sem, ↓reduceIte, hF]
                exact fun b g h => by have := hF2 b g h; omega
        · have c3 : decide ((s : Int) < (n : Int)) = false := by simp; omega
          have hb : blk (ltO h) s l = isort (ltO h) l := blk_le (by omega)
          (try ((try (revert K;refine bK ?_));refine' run (I c3 hb) ?_;(repeat' first|exact True.intro|refine Lv.mk ?_ ?_|(refine oK ?_;intro K hK)|intro hq);all_goals refine Lf.mk ?_))

theorem sortStable_f (h : History) (l : List Int) (h0 : 0 < l.length) (hl : l.length ≤ 50000) (hP : ∀ x, x ∈ l → placeOf h x) : FunB Tryz.prog 120 [(0, ⟨3, rowC irow l⟩), (1, ⟨31, h.flat⟩)] [.osl 0 1 0 l.length, .fn (.func 121) [] [.ptr 1 0]] (.tup []) [(0, some ⟨3, rowC irow (isort (ltO h) l)⟩)] := by
  have hne2 := rowI_nz h0
  refine fun_WB 2 mixed Tryz.func120 rfl (Nat.le_of_ble_eq_true rfl) (by kernel_rfl) (by simp [go_sem, hne2, rowI_nms']) fun cx hN hR hF hL => ?_; apply args_kb; (case hA => (simp only [go_sem, ↓reduceIte]; rfl)); (case hB => (simp only [go_sem, ↓reduceIte]; rfl))
  (try ((try (revert K;refine bK ?_));refine' run trivial ?_;(repeat' first|exact True.intro|refine Lv.mk ?_ ?_|(refine oK ?_;intro K hK)|intro hq);all_goals refine Lf.mk ?_))
  (apply callB' [0, 1] cl150 (stable_f h l h0 hl hP); (case h1 | h2 | h3 => (simp only [go_sem, ↓reduceIte]; try rfl)); (case hl | hs | hfp | hfr => (simp [go_sem]; done)))
  (try ((try (revert K;refine bK ?_));refine' run trivial ?_;(repeat' first|exact True.intro|refine Lv.mk ?_ ?_|(refine oK ?_;intro K hK)|intro hq);all_goals refine Lf.mk ?_))
end Go.Proofs.YtkonljmmdifnaaaGreat.V
set_option linter.unusedSimpArgs false
set_option linter.unusedVariables false
namespace Go.Proofs.YtkonljmmdifnaaaGreat.V
open Go.RowKit
set_option maxRecDepth 100000
attribute [local go_sem] Option.toList_some Option.toList_none

def seg (a n : Nat) : List Int := (List.range' a n).map fun i : Nat => (i : Int)
theorem seg_len (a n : Nat) : (seg a n).length = n := by simp [seg]
theorem seg_snoc (a n : Nat) : seg a (n + 1) = seg a n ++ [((a + n : Nat) : Int)] := by
  simp [seg, List.range'_concat]
theorem seg_app (a n m : Nat) : seg a (n + m) = seg a n ++ seg (a + n) m := by
  simp [seg, ← List.map_append, List.range'_append_1]
theorem seg_mem {a n : Nat} {x : Int} (h : x ∈ seg a n) : (a : Int) ≤ x ∧ x < (a + n : Nat) := by
  simp [seg] at h
  obtain ⟨i, hi, rfl⟩ := h
  omega
theorem seg_one (a : Nat) : seg a 1 = [(a : Int)] := by simp [seg]
theorem seg_inc (a n : Nat) : (seg a n).Pairwise (· < ·) := by
  rw [seg, List.pairwise_map]
  refine (List.pairwise_lt_range' (s := a) (n := n) (step := 1) (by decide)).imp fun h => by omega

def orderL (h : History) : List Int := isort (ltO h) (seg 0 h.changes.length)
theorem orderL_len (h : History) : (orderL h).length = h.changes.length := by rw [orderL, isort_len, seg_len]

attribute [local go_sem] Int.reduceLT in
theorem ins0_f (h : History) : FunB Tryz.prog 162 [(1, ⟨31, h.flat⟩)] [.v (.slice none 0 0), int 0, int 0, .fn (.func 121) [] [.ptr 1 0]] (.tup []) [] := by
  have k1 : IntKind.i64.wrap (0 + 1) = 1 := rfl
  refine fun_WB 2 mixed Tryz.func162 rfl (Nat.le_of_ble_eq_true rfl) (by kernel_rfl) (by simp [go_sem]) fun cx hN hR hF hL => ?_; apply args_kb; (case hA => (simp only [go_sem, ↓reduceIte]; rfl)); (case hB => (simp only [go_sem, ↓reduceIte]; rfl))
  (repeat' first|((try (revert K;refine bK ?_));refine' run k1 ?_;(repeat' first|exact True.intro|refine Lv.mk ?_ ?_|(refine oK ?_;intro K hK)|intro hq);all_goals refine Lf.mk ?_)|refine rounds_s ?_)
  refine loop_rounds mixed 1 (by rw [hN]; kernel_rfl) ?_
  (repeat' first|((try (revert K;refine bK ?_));refine' run k1 ?_;(repeat' first|exact True.intro|refine Lv.mk ?_ ?_|(refine oK ?_;intro K hK)|intro hq);all_goals refine Lf.mk ?_)|refine rounds_s ?_)

attribute [local go_sem] Int.reduceLE Int.reduceLT in
theorem stable0_f (h : History) : FunB Tryz.prog 150 [(1, ⟨31, h.flat⟩)] [.v (.slice none 0 0), int 0, .fn (.func 121) [] [.ptr 1 0]] (.tup []) [] := by
  refine fun_WB 2 mixed Tryz.func150 rfl (Nat.le_of_ble_eq_true rfl) (by kernel_rfl) (by simp [go_sem]) fun cx hN hR hF hL => ?_; apply args_kb; (case hA => (simp only [go_sem, ↓reduceIte]; rfl)); (case hB => (simp only [go_sem, ↓reduceIte]; rfl))
  (repeat' first|((try (revert K;refine bK ?_));refine' run trivial ?_;(repeat' first|exact True.intro|refine Lv.mk ?_ ?_|(refine oK ?_;intro K hK)|intro hq);all_goals refine Lf.mk ?_)|refine rounds_s ?_)
  refine loop_rounds mixed 1 (by rw [hN]; kernel_rfl) ?_
  (repeat' first|((try (revert K;refine bK ?_));refine' run trivial ?_;(repeat' first|exact True.intro|refine Lv.mk ?_ ?_|(refine oK ?_;intro K hK)|intro hq);all_goals refine Lf.mk ?_)|refine rounds_s ?_)
  (apply callB' [0, 1] cl162 (ins0_f h); (case h1 | h2 | h3 => (simp only [go_sem, ↓reduceIte]; try rfl)); (case hl | hs | hfp | hfr => (simp [go_sem]; done)))
  (repeat' first|((try (revert K;refine bK ?_));refine' run trivial ?_;(repeat' first|exact True.intro|refine Lv.mk ?_ ?_|(refine oK ?_;intro K hK)|intro hq);all_goals refine Lf.mk ?_)|refine rounds_s ?_)
  refine loop_rounds mixed 1 (by rw [hN]; kernel_rfl) ?_
  (repeat' first|((try (revert K;refine bK ?_));refine' run trivial ?_;(repeat' first|exact True.intro|refine Lv.mk ?_ ?_|(refine oK ?_;intro K hK)|intro hq);all_goals refine Lf.mk ?_)|refine rounds_s ?_)

theorem sortStable0_f (h : History) : FunB Tryz.prog 120 [(1, ⟨31, h.flat⟩)] [.v (.slice none 0 0), .fn (.func 121) [] [.ptr 1 0]] (.tup []) [] := by
  have hz : ((0 : Nat) : Int) = 0 := rfl
  refine fun_WB 2 mixed Tryz.func120 rfl (Nat.le_of_ble_eq_true rfl) (by kernel_rfl) (by simp [go_sem]) fun cx hN hR hF hL => ?_; apply args_kb; (case hA => (simp only [go_sem, ↓reduceIte]; rfl)); (case hB => (simp only [go_sem, ↓reduceIte]; rfl))
  (repeat' first|((try (revert K;refine bK ?_));refine' run hz ?_;(repeat' first|exact True.intro|refine Lv.mk ?_ ?_|(refine oK ?_;intro K hK)|intro hq);all_goals refine Lf.mk ?_)|refine rounds_s ?_)
  (apply callB' [0, 1] cl150 (stable0_f h); (case h1 | h2 | h3 => (simp only [go_sem, ↓reduceIte]; try rfl)); (case hl | hs | hfp | hfr => (simp [go_sem]; done)))
  (repeat' first|((try (revert K;refine bK ?_));refine' run trivial ?_;(repeat' first|exact True.intro|refine Lv.mk ?_ ?_|(refine oK ?_;intro K hK)|intro hq);all_goals refine Lf.mk ?_)|refine rounds_s ?_)

attribute [local go_sem] Int.reduceLT in
theorem order_f (h : History) (hl : h.changes.length ≤ 50000) : Fun Tryz.prog 83 [.agg h.flat] (ints (orderL h)) := by
  by_cases h0 : h.changes.length = 0
  · have ho : orderL h = [] := by rw [orderL, h0]; simp [seg, isort, isortR]
    have hz : ((0 : Nat) : Int) = 0 := rfl
    refine fun_W mixed Tryz.func83 rfl (Nat.le_of_ble_eq_true rfl) (by kernel_rfl) fun cx hN hR hF hL => ?_; apply args_k; (case hA => (simp only [go_sem, ↓reduceIte]; rfl))
    (repeat' first|((try (revert K;refine bK ?_));refine' run (I h0 hz) ?_;(repeat' first|exact True.intro|refine Lv.mk ?_ ?_|(refine oK ?_;intro K hK)|intro hq);all_goals refine Lf.mk ?_)|refine rounds_s ?_)
    refine loop_rounds mixed 1 (by rw [hN]; kernel_rfl) ?_
    (repeat' first|((try (revert K;refine bK ?_));refine' run (I h0 hz) ?_;(repeat' first|exact True.intro|refine Lv.mk ?_ ?_|(refine oK ?_;intro K hK)|intro hq);all_goals refine Lf.mk ?_)|refine rounds_s ?_)
    (apply callB' [9024, 0] cl120 (sortStable0_f h); (case h1 | h2 | h3 => (simp only [go_sem, ↓reduceIte]; try rfl)); (case hl | hs | hfp | hfr => (simp [go_sem]; done)))
    (repeat' first|((try (revert K;refine bK ?_));refine' run ho ?_;(repeat' first|exact True.intro|refine Lv.mk ?_ ?_|(refine oK ?_;intro K hK)|intro hq);all_goals refine Lf.mk ?_)|refine rounds_s ?_)
  · refine fun_W mixed Tryz.func83 rfl (Nat.le_of_ble_eq_true rfl) (by kernel_rfl) fun cx hN hR hF hL => ?_; apply args_k; (case hA => (simp only [go_sem, ↓reduceIte]; rfl))
    (repeat' first|((try (revert K;refine bK ?_));refine' run trivial ?_;(repeat' first|exact True.intro|refine Lv.mk ?_ ?_|(refine oK ?_;intro K hK)|intro hq);all_goals refine Lf.mk ?_)|refine rounds_s ?_)
    refine loop_nil 3 4000 1 3 rfl (Nat.le_of_ble_eq_true rfl) ?_
    refine loopW mixed (σ := {i : Nat // i ≤ h.changes.length}) (fun s => ⟨[(8, int s.1), (7, int h.changes.length), (3, .osl 4000 1 0 s.1), (1, .ptr 0 0)], [(4000, some ⟨3, rowC irow (seg 0 s.1)⟩), (0, some ⟨31, h.flat⟩)], 4001⟩) (fun s => h.changes.length - s.1) id ⟨0, by omega⟩ (by rw [hN]; kernel_rfl) ?_ ?_
    · have hs : rowC irow (seg 0 0) = [] := rfl
      simp only [go_sem, ↓reduceIte, hF, hs]
      rfl
    · rintro ⟨i, h1⟩
      by_cases hi : i < h.changes.length
      · have e2 : IntKind.i64.wrap ((i : Int) + 1) = ((i + 1 : Nat) : Int) := by rw [wrap_id] <;> omega
        have hln : (rowC irow (seg 0 i)).length = i := by rw [rowI_len, seg_len]
        have hsn : rowC irow (seg 0 i) ++ [int i] = rowC irow (seg 0 (i + 1)) := by rw [seg_snoc, rowI_eq, rowI_eq]; simp
        (repeat' first|((try (revert K;refine bK ?_));refine' run (I e2 (I hln hsn)) ?_;(repeat' first|exact True.intro|refine Lv.mk ?_ ?_|(refine oK ?_;intro K hK)|intro hq);all_goals refine Lf.mk ?_)|refine rounds_s ?_)
        · refine ⟨⟨i + 1, by omega⟩, nm1 4000 6025, ?_, by show h.changes.length - (i + 1) < h.changes.length - i; omega⟩
          simp only [go_sem, ↓reduceIte, hF]
        all_goals (simp [maxLen]; try omega)
      · have he : i = h.changes.length := by omega
        subst he
        have hnz := rowI_nz (l := seg 0 h.changes.length) (by rw [seg_len]; omega)
        have c := sortStable_f h (seg 0 h.changes.length) (by rw [seg_len]; omega) (by rw [seg_len]; exact hl) (fun x hx => by have := seg_mem hx; exact ⟨by omega, by omega⟩)
        rw [seg_len] at c
        (repeat' first|((try (revert K;refine bK ?_));refine' run trivial ?_;(repeat' first|exact True.intro|refine Lv.mk ?_ ?_|(refine oK ?_;intro K hK)|intro hq);all_goals refine Lf.mk ?_)|refine rounds_s ?_)
        (apply callB' [4000, 0] cl120 (c); (case h1 | h2 | h3 => (simp only [go_sem, ↓reduceIte]; try rfl)); (case hl | hs | hfp | hfr => (simp [go_sem]; done)))
        (repeat' first|((try (revert K;refine bK ?_));refine' run trivial ?_;(repeat' first|exact True.intro|refine Lv.mk ?_ ?_|(refine oK ?_;intro K hK)|intro hq);all_goals refine Lf.mk ?_)|refine rounds_s ?_)
        exact ⟨⟨(orderL_len h).symm, rows_len (F := irow) (fun _ => rfl) _⟩, fzo_rows (F := irow) (fun _ => rfl) (fun _ => by simp [irow]) (orderL h) (orderL_len h).symm⟩

theorem day_nat {h : History} {x : Int} (hx : placeOf h x) : ∃ (k : Nat) (c : Change), x = k ∧ h.changes[k]? = some c ∧ dayAt h x = c.day := by
  obtain ⟨k, rfl⟩ : ∃ k : Nat, x = k := ⟨x.toNat, by have := hx.1; omega⟩
  have hk : k < h.changes.length := by have := hx.2; omega
  have e : h.changes[k]? = some h.changes[k] := List.getElem?_eq_getElem hk
  exact ⟨k, _, rfl, e, by simp [dayAt, e]⟩

set_option maxHeartbeats 1000000 in
theorem refMerge_f (h : History) (a b : List Int) (ha : ∀ x, x ∈ a → placeOf h x) (hb : ∀ x, x ∈ b → placeOf h x) (hl : a.length + b.length ≤ 100000) : Fun Tryz.prog 130 [.agg h.flat, ints a, ints b] (ints (mrg (ltO h) a b)) := by
  refine fun_W mixed Tryz.func130 rfl (Nat.le_of_ble_eq_true rfl) (by kernel_rfl) fun cx hN hR hF hL => ?_; apply args_k; (case hA => (simp only [go_sem, ↓reduceIte]; rfl))
  (repeat' first|((try (revert K;refine bK ?_));refine' run trivial ?_;(repeat' first|exact True.intro|refine Lv.mk ?_ ?_|(refine oK ?_;intro K hK)|intro hq);all_goals refine Lf.mk ?_)|refine rounds_s ?_)
  refine loop_nil 7 8000 1 3 rfl (Nat.le_of_ble_eq_true rfl) ?_
  refine loopW mixed (σ := {p : List Int × Nat × Nat // p.2.1 ≤ a.length ∧ p.2.2 ≤ b.length ∧ p.1.length = p.2.1 + p.2.2 ∧ p.1 ++ mrg (ltO h) (a.drop p.2.1) (b.drop p.2.2) = mrg (ltO h) a b})
    (fun s => ⟨[(7, .osl 8000 1 0 (s.1.2.1 + s.1.2.2)), (8, int s.1.2.1), (9, int s.1.2.2), (1, ints a), (2, ints b), (3, .ptr 0 0)], [(8000, some ⟨3, rowC irow s.1.1⟩), (0, some ⟨31, h.flat⟩)], 8001⟩) (fun s => a.length - s.1.2.1 + (b.length - s.1.2.2)) id ⟨([], 0, 0), Nat.zero_le _, Nat.zero_le _, rfl, rfl⟩ (by rw [hN]; kernel_rfl) ?_ ?_
  · have hs : rowC irow [] = [] := rfl
    simp only [go_sem, ↓reduceIte, hF, hs]
    rfl
  · rintro ⟨⟨D, i, j⟩, h1, h2, h3, h4⟩
    simp only at h1 h2 h3 h4
    have e2 : IntKind.i64.wrap ((i : Int) + 1) = ((i + 1 : Nat) : Int) := by rw [wrap_id] <;> omega
    have e3 : IntKind.i64.wrap ((j : Int) + 1) = ((j + 1 : Nat) : Int) := by rw [wrap_id] <;> omega
    have hs1 : i + 1 + j = i + j + 1 := by omega
    have hs2 : i + (j + 1) = i + j + 1 := by omega
    have hln : (rowC irow D).length = i + j := by rw [rowI_len, h3]
    have hsn : ∀ x, rowC irow D ++ [int x] = rowC irow (D ++ [x]) := fun x => by rw [rowI_eq, rowI_eq]; simp
    by_cases hi : i < a.length
    · have ea : a[i]? = some a[i] := List.getElem?_eq_getElem hi
      have da : a.drop i = a[i] :: a.drop (i + 1) := List.drop_eq_getElem_cons hi
      obtain ⟨ka, ca, xa, ka1, ka2⟩ := day_nat (ha _ (List.getElem_mem hi))
      generalize a[i] = x at *
      subst xa
      have ci : ((i : Int) < (a.length : Int)) = True := by simp; omega
      have hka := (List.getElem?_eq_some_iff.1 ka1).1
      by_cases hj : j < b.length
      · have eb : b[j]? = some b[j] := List.getElem?_eq_getElem hj
        have db : b.drop j = b[j] :: b.drop (j + 1) := List.drop_eq_getElem_cons hj
        obtain ⟨kb, cb, xb, kb1, kb2⟩ := day_nat (hb _ (List.getElem_mem hj))
        generalize b[j] = y at *
        subst xb
        have hkb := (List.getElem?_eq_some_iff.1 kb1).1
        have cj : ((j : Int) = (b.length : Int)) = False := by simp; omega
        have hlt : ltO h (kb : Int) (ka : Int) = decide (cb.day < ca.day) := by simp [ltO, ka2, kb2]
        (repeat' first|((try (revert K;refine bK ?_));refine' run (I e2 (I e3 (I hln (I hsn (I ea (I eb (I ka1 (I kb1 (I ci cj))))))))) ?_;(repeat' first|exact True.intro|refine Lv.mk ?_ ?_|(refine oK ?_;intro K hK)|intro hq);all_goals refine Lf.mk ?_)|refine rounds_s ?_)
        · refine ⟨⟨(D ++ [(ka : Int)], i + 1, j), by show i + 1 ≤ _; omega, h2, by simp only [List.length_append, List.length_singleton]; omega, ?_⟩, nm1 8000 10049, ?_, by show a.length - (i + 1) + (b.length - j) < a.length - i + (b.length - j); omega⟩
          · rw [← h4, da]
            rw [db, mrg_cons, hlt, decide_eq_false (by omega), if_neg (by simp)]
            simp [db]
          · simp only [go_sem, ↓reduceIte, hF, hs1]
        · simp [maxLen]; omega
        · refine ⟨⟨(D ++ [(kb : Int)], i, j + 1), h1, by show j + 1 ≤ _; omega, by simp only [List.length_append, List.length_singleton]; omega, ?_⟩, nm1 8000 10049, ?_, by show a.length - i + (b.length - (j + 1)) < a.length - i + (b.length - j); omega⟩
          · rw [← h4, db]
            rw [da, mrg_cons, hlt, decide_eq_true (by omega), if_pos rfl]
            simp [da]
          · simp only [go_sem, ↓reduceIte, hF, hs2]
        all_goals (simp [maxLen]; try omega)
      · have cj : ((j : Int) = (b.length : Int)) = True := by simp; omega
        have db : b.drop j = [] := List.drop_eq_nil_of_le (by omega)
        (repeat' first|((try (revert K;refine bK ?_));refine' run (I e2 (I e3 (I hln (I hsn (I ea (I ci cj)))))) ?_;(repeat' first|exact True.intro|refine Lv.mk ?_ ?_|(refine oK ?_;intro K hK)|intro hq);all_goals refine Lf.mk ?_)|refine rounds_s ?_)
        · refine ⟨⟨(D ++ [(ka : Int)], i + 1, j), by show i + 1 ≤ _; omega, h2, by simp only [List.length_append, List.length_singleton]; omega, ?_⟩, nm1 8000 10049, ?_, by show a.length - (i + 1) + (b.length - j) < a.length - i + (b.length - j); omega⟩
          · rw [← h4, da]
            rw [db]; simp
          · simp only [go_sem, ↓reduceIte, hF, hs1]
        all_goals (simp [maxLen]; try omega)
    · have ci : ((i : Int) < (a.length : Int)) = False := by simp; omega
      have da : a.drop i = [] := List.drop_eq_nil_of_le (by omega)
      by_cases hj : j < b.length
      · have eb : b[j]? = some b[j] := List.getElem?_eq_getElem hj
        have db : b.drop j = b[j] :: b.drop (j + 1) := List.drop_eq_getElem_cons hj
        have cj : ((j : Int) = (b.length : Int)) = False := by simp; omega
        have cj2 : ((j : Int) < (b.length : Int)) = True := by simp; omega
        (repeat' first|((try (revert K;refine bK ?_));refine' run (I e2 (I e3 (I hln (I hsn (I eb (I ci (I cj cj2))))))) ?_;(repeat' first|exact True.intro|refine Lv.mk ?_ ?_|(refine oK ?_;intro K hK)|intro hq);all_goals refine Lf.mk ?_)|refine rounds_s ?_)
        · refine ⟨⟨(D ++ [b[j]], i, j + 1), h1, by show j + 1 ≤ _; omega, by simp only [List.length_append, List.length_singleton]; omega, ?_⟩, nm1 8000 10049, ?_, by show a.length - i + (b.length - (j + 1)) < a.length - i + (b.length - j); omega⟩
          · rw [← h4, db]
            rw [da]; simp
          · simp only [go_sem, ↓reduceIte, hF, hs2]
        all_goals (simp [maxLen]; try omega)
      · have cj2 : ((j : Int) < (b.length : Int)) = False := by simp; omega
        have db : b.drop j = [] := List.drop_eq_nil_of_le (by omega)
        rw [da, db, mrg_nil, List.append_nil] at h4
        have hl3 : i + j = (mrg (ltO h) a b).length := by rw [← h4, h3]
        (repeat' first|((try (revert K;refine bK ?_));refine' run (I ci cj2) ?_;(repeat' first|exact True.intro|refine Lv.mk ?_ ?_|(refine oK ?_;intro K hK)|intro hq);all_goals refine Lf.mk ?_)|refine rounds_s ?_)
        rw [← h4] at hl3 ⊢
        exact ⟨⟨hl3, rows_len (F := irow) (fun _ => rfl) _⟩, fzo_rows (F := irow) (fun _ => rfl) (fun _ => by simp [irow]) D hl3⟩

theorem half_tdiv (n : Nat) : Int.tdiv (n : Int) 2 = ((n / 2 : Nat) : Int) := by
  rw [Int.tdiv_eq_ediv_of_nonneg (by omega)]
  rfl

attribute [local go_sem] Int.reduceEq Int.reduceLT in
theorem refOrd_f (h : History) (hl : h.changes.length ≤ 50000) : ∀ (n a b : Nat), a ≤ b → b - a ≤ n → b ≤ h.changes.length → Fun Tryz.prog 91 [.agg h.flat, int a, int b] (ints (isort (ltO h) (seg a (b - a)))) := by
  intro n
  induction n with
  | zero =>
    intro a b h1 h2 h3
    have w1 : IntKind.i64.wrap ((b : Int) - a) = 0 := by rw [wrap_id] <;> omega
    have hr : isort (ltO h) (seg a (b - a)) = [] := by rw [show b - a = 0 by omega]; simp [seg, isort, isortR]
    refine fun_W mixed Tryz.func91 rfl (Nat.le_of_ble_eq_true rfl) (by kernel_rfl) fun cx hN hR hF hL => ?_; apply args_k; (case hA => (simp only [go_sem, ↓reduceIte]; rfl))
    (repeat' first|((try (revert K;refine bK ?_));refine' run (I w1 hr) ?_;(repeat' first|exact True.intro|refine Lv.mk ?_ ?_|(refine oK ?_;intro K hK)|intro hq);all_goals refine Lf.mk ?_)|refine rounds_s ?_)
  | succ n ih =>
    intro a b h1 h2 h3
    have w1 : IntKind.i64.wrap ((b : Int) - a) = ((b - a : Nat) : Int) := by rw [wrap_id] <;> omega
    by_cases h4 : b - a = 0
    · have c1 : decide (((b - a : Nat) : Int) < 1) = true := by simp; omega
      have hr : isort (ltO h) (seg a (b - a)) = [] := by rw [h4]; simp [seg, isort, isortR]
      refine fun_W mixed Tryz.func91 rfl (Nat.le_of_ble_eq_true rfl) (by kernel_rfl) fun cx hN hR hF hL => ?_; apply args_k; (case hA => (simp only [go_sem, ↓reduceIte]; rfl))
      (repeat' first|((try (revert K;refine bK ?_));refine' run (I w1 (I c1 hr)) ?_;(repeat' first|exact True.intro|refine Lv.mk ?_ ?_|(refine oK ?_;intro K hK)|intro hq);all_goals refine Lf.mk ?_)|refine rounds_s ?_)
    · have c1 : decide (((b - a : Nat) : Int) < 1) = false := by simp; omega
      by_cases h5 : b - a = 1
      · have c2 : (((b - a : Nat) : Int) = 1) = True := by simp; omega
        have hr : isort (ltO h) (seg a (b - a)) = [(a : Int)] := by rw [h5, seg_one]; simp [isort, isortR, insR]
        refine fun_W mixed Tryz.func91 rfl (Nat.le_of_ble_eq_true rfl) (by kernel_rfl) fun cx hN hR hF hL => ?_; apply args_k; (case hA => (simp only [go_sem, ↓reduceIte]; rfl))
        (repeat' first|((try (revert K;refine bK ?_));refine' run (I w1 (I c1 (I c2 hr))) ?_;(repeat' first|exact True.intro|refine Lv.mk ?_ ?_|(refine oK ?_;intro K hK)|intro hq);all_goals refine Lf.mk ?_)|refine rounds_s ?_)
        simp [fzo, irow]
      · have c2 : (((b - a : Nat) : Int) = 1) = False := by simp; omega
        have w2 : IntKind.i64.wrap ((a : Int) + b) = ((a + b : Nat) : Int) := by rw [wrap_id] <;> omega
        have w3 := half_tdiv (a + b)
        obtain ⟨m, hm⟩ : ∃ m, m = (a + b) / 2 := ⟨_, rfl⟩
        rw [← hm] at w3
        have w4 : IntKind.i64.wrap (m : Int) = (m : Int) := by rw [wrap_id] <;> omega
        have i1 := ih a m (by omega) (by omega) (by omega)
        have i2 := ih m b (by omega) (by omega) (by omega)
        have hpl : ∀ (x y : Nat), y ≤ h.changes.length → ∀ z, z ∈ isort (ltO h) (seg x (y - x)) → placeOf h z := fun x y hy z hz => by
          have hz := isort_mem.1 hz
          by_cases hxy : x ≤ y
          · have := seg_mem hz
            exact ⟨by omega, by omega⟩
          · rw [show y - x = 0 by omega] at hz
            simp [seg] at hz
        have i3 := refMerge_f h (isort (ltO h) (seg a (m - a))) (isort (ltO h) (seg m (b - m))) (hpl a m (by omega)) (hpl m b h3) (by rw [isort_len, isort_len, seg_len, seg_len]; omega)
        have hr : mrg (ltO h) (isort (ltO h) (seg a (m - a))) (isort (ltO h) (seg m (b - m))) = isort (ltO h) (seg a (b - a)) := by
          rw [mrg_isort (sw_ltO h), show b - a = (m - a) + (b - m) by omega, seg_app, show a + (m - a) = m by omega]
        rw [hr] at i3
        refine fun_W mixed Tryz.func91 rfl (Nat.le_of_ble_eq_true rfl) (by kernel_rfl) fun cx hN hR hF hL => ?_; apply args_k; (case hA => (simp only [go_sem, ↓reduceIte]; rfl))
        (repeat' first|((try (revert K;refine bK ?_));refine' run (I w1 (I c1 (I c2 (I w2 (I w3 w4))))) ?_;(repeat' first|exact True.intro|refine Lv.mk ?_ ?_|(refine oK ?_;intro K hK)|intro hq);all_goals refine Lf.mk ?_)|refine callZ cl91 (i1) ?_|refine callZ cl91 (i2) ?_|refine callZ cl130 (i3) ?_|refine rounds_s ?_)

theorem refOrder_f (h : History) (hl : h.changes.length ≤ 50000) : Fun Tryz.prog 59 [.agg h.flat] (ints (orderL h)) := by
  have c := refOrd_f h hl _ 0 h.changes.length (Nat.zero_le _) (Nat.le_refl _) (Nat.le_refl _)
  have hz : ((0 : Nat) : Int) = 0 := rfl
  rw [Nat.sub_zero, hz] at c
  refine fun_W mixed Tryz.func59 rfl (Nat.le_of_ble_eq_true rfl) (by kernel_rfl) fun cx hN hR hF hL => ?_; apply args_k; (case hA => (simp only [go_sem, ↓reduceIte]; rfl))
  (repeat' first|((try (revert K;refine bK ?_));refine' run trivial ?_;(repeat' first|exact True.intro|refine Lv.mk ?_ ?_|(refine oK ?_;intro K hK)|intro hq);all_goals refine Lf.mk ?_)|refine callZ cl91 (c) ?_|refine rounds_s ?_)
  rfl
end Go.Proofs.YtkonljmmdifnaaaGreat.V
set_option linter.unusedSimpArgs false
set_option linter.unusedVariables false
namespace Go.Proofs.YtkonljmmdifnaaaGreat.V
open Go.RowKit
set_option maxRecDepth 100000
attribute [local go_sem] Option.toList_some Option.toList_none

/-- The changes in their order. -/
def chO (h : History) (Ix : List Int) : List Change := Ix.filterMap fun i => h.changes[i.toNat]?
theorem chO_drop {h : History} {Ix : List Int} {i : Nat} (hi : i < Ix.length) {c : Change} (hc : h.changes[(Ix[i]).toNat]? = some c) : chO h (Ix.drop i) = c :: chO h (Ix.drop (i + 1)) := by
  rw [chO, List.drop_eq_getElem_cons hi, List.filterMap_cons, hc]; rfl
/-- What holds first. -/
def nowSl (h : History) : Sl := ⟨h.terms.from_, 0, initSt h.terms, 0⟩
attribute [local go_sem] nowSl initSt
theorem endS_same {O : List Sl} {a : Int} {st : St} : endS O a st a = O := by rw [endS, if_pos rfl]
set_option maxHeartbeats 8000000 in
theorem cutI_f (h : History) (Ix : List Int) (ko : Fun Tryz.prog 83 [.agg h.flat] (ints Ix)) (hI : ∀ x, x ∈ Ix → 0 ≤ x ∧ x.toNat < h.changes.length) (hIl : Ix.length ≤ 50000) (hc : h.terms.covers.length ≤ 100000) (hcc : ∀ c, c ∈ h.changes → c.covers.length ≤ 100000) (R : List Sl) (hR0 : cutG [] h.terms.from_ (initSt h.terms) (chO h Ix) h.terms.to_ = R) (hR1 : R ≠ []) :
    FunB Tryz.prog 53 [] [.agg h.flat] (.osl 0 9 0 R.length) [(0, some ⟨73, rowC Sl.flat R⟩)] := by
  refine funB_C 0 Tryz.func53 rfl (Nat.le_of_ble_eq_true rfl) (by simp [go_sem]) fun cx hN hR hF hL => ?_; apply code_argsB; (case hA => (simp only [go_sem, ↓reduceIte]; rfl)); (case hB => (simp only [go_sem, ↓reduceIte]; rfl))
  replace hF : cx.F = fun _ => none := by
    funext b
    cases hq : cx.F b with
    | none => rfl
    | some g => exact absurd (hF b g hq) (by simp [inl])
  refine code_end (code_w mixed (by rw [hN]; kernel_rfl) ?_)
  (repeat' first|((try (revert K;refine bK ?_));refine' run trivial ?_;(repeat' first|exact True.intro|refine Lv.mk ?_ ?_|(refine oK ?_;intro K hK)|intro hq);all_goals refine Lf.mk ?_)|refine callZ cl83 (ko) ?_)
  · refine loop_frz [2080] [(28, int 0), (27, int Ix.length), (26, ints Ix), (6, .fn (.func 82) [] [.ptr 2096 0, .ptr 3000 0]), (5, .ptr 3000 0), (4, .ptr 2096 0), (3, .ptr 1024 0), (1, .ptr 0 0)]
      [(3000, some ⟨37, [.v (.slice none 0 0)]⟩), (2096, some ⟨73, (nowSl h).flat⟩), (1024, some ⟨23, [int h.terms.from_, int h.terms.to_]⟩), (0, some ⟨31, h.flat⟩)] rfl ?_ ?_ ?_
    · simp only [go_sem, ↓reduceIte]
    · simp only [go_sem, ↓reduceIte]
      exact ⟨rows_len (F := Cover.flat) cov_len _, fzo_rows Cover.len Cover.data h.terms.covers rfl⟩
    refine loopW mixed (σ := {s : Nat × List Sl × Sl // s.1 ≤ Ix.length ∧ s.2.1.length ≤ s.1 ∧ s.2.2.to_ = 0 ∧ s.2.2.yearly = 0 ∧ cutG s.2.1 s.2.2.from_ s.2.2.st (chO h (Ix.drop s.1)) h.terms.to_ = R})
      (fun s => ⟨[(28, int s.1.1), (27, int Ix.length), (26, ints Ix), (6, .fn (.func 82) [] [.ptr 2096 0, .ptr 3000 0]), (5, .ptr 3000 0), (4, .ptr 2096 0), (3, .ptr 1024 0), (1, .ptr 0 0)],
        [(3000, some ⟨37, [outV 6001 9 s.1.2.1]⟩), (6001, outB 73 Sl.flat s.1.2.1), (2096, some ⟨73, s.1.2.2.flat⟩), (1024, some ⟨23, [int h.terms.from_, int h.terms.to_]⟩), (0, some ⟨31, h.flat⟩)], 7000⟩) (fun s => Ix.length - s.1.1) id ⟨(0, [], nowSl h), Nat.zero_le _, Nat.le_refl _, rfl, rfl, hR0⟩ (by rw [hN]; kernel_rfl) ?_ ?_
    · have o1 := outV_nil (b := 6001) (k := 9) (l := ([] : List Sl)) rfl
      have o3 := outB_nil (t := 73) (F := Sl.flat) (l := ([] : List Sl)) rfl
      simp only [o1, o3]
      simp only [go_sem, ↓reduceIte, hF]
      all_goals rfl
    · rintro ⟨⟨i, O, s⟩, h1, h2, h3, h4, h5⟩
      simp only at h1 h2 h3 h4 h5 ⊢
      by_cases hi : i < Ix.length
      · have hx := hI Ix[i] (List.getElem_mem hi)
        have e1 : (Ix.map irow)[i]? = some [int Ix[i]] := by rw [List.getElem?_map, List.getElem?_eq_getElem hi]; rfl
        have e2 : IntKind.i64.wrap ((i : Int) + 1) = ((i + 1 : Nat) : Int) := by rw [wrap_id] <;> omega
        have hcx : h.changes[(Ix[i]).toNat]? = some h.changes[(Ix[i]).toNat] := List.getElem?_eq_getElem hx.2
        have hcv := hcc _ (List.getElem_mem hx.2)
        rw [chO_drop hi hcx, cutG] at h5
        generalize h.changes[(Ix[i]).toNat] = c at *
        have e3 : (h.changes.map Change.flat)[(Ix[i]).toNat]? = some c.flat := by rw [List.getElem?_map, hcx]; rfl
        generalize Ix[i] = x at *
        have b0 : ((i : Int) < (Ix.length : Int)) = True := eq_true (by omega)
        have b1 : (0 ≤ x) = True := eq_true hx.1
        have b2 : (x < (h.changes.length : Int)) = True := eq_true (by omega)
        rcases snoc_cases O with rfl | ⟨m, q, rfl⟩
        · have o1 := outV_nil (b := 6001) (k := 9) (l := ([] : List Sl)) rfl
          have o3 := outB_nil (t := 73) (F := Sl.flat) (l := ([] : List Sl)) rfl
          simp only [o1, o3]
          by_cases hd : s.from_ = c.day
          · have kE := endE1_f s c.day hd
            rw [hd, endS_same] at h5
            (try ((try (revert K;refine bK ?_));refine' run (I b0 (I (decide_eq_true (of_eq_true b0)) (I e1 (I e2 (I e3 (I b1 b2)))))) ?_;(repeat' first|exact True.intro|refine Lv.mk ?_ ?_|(refine oK ?_;intro K hK)|intro hq);all_goals refine Lf.mk ?_))
            (apply callB' [2096, 3000] cl82 (kE); (case h1 | h2 | h3 => (simp only [go_sem, ↓reduceIte]; try rfl)); (case hl | hs | hfp | hfr => (simp [go_sem]; done)))
            (try ((try (revert K;refine bK ?_));refine' run (I b0 (I (decide_eq_true (of_eq_true b0)) (I e1 (I e2 (I e3 (I b1 b2)))))) ?_;(repeat' first|exact True.intro|refine Lv.mk ?_ ?_|(refine oK ?_;intro K hK)|intro hq);all_goals refine Lf.mk ?_))
            (apply callB' [2096] cl84 (does_f (setFrom s c.day) c hcv); (case h1 | h2 | h3 => (simp only [go_sem, ↓reduceIte]; try rfl)); (case hl | hs | hfp | hfr => (simp [go_sem]; done)))
            (try ((try (revert K;refine bK ?_));refine' run (I b0 (I (decide_eq_true (of_eq_true b0)) (I e1 (I e2 (I e3 (I b1 b2)))))) ?_;(repeat' first|exact True.intro|refine Lv.mk ?_ ?_|(refine oK ?_;intro K hK)|intro hq);all_goals refine Lf.mk ?_))
            refine ⟨⟨(i + 1, [], doSl (setFrom s c.day) c), hi, Nat.zero_le _, h3, h4, h5⟩, id, ?_, by show Ix.length - (i + 1) < Ix.length - i; omega⟩
            simp only [o1, o3]
            simp only [go_sem, ↓reduceIte, hF]
          · have kE := endE2_f s c.day hd
            have hs : setTo s c.day = ⟨s.from_, c.day, s.st, 0⟩ := by rw [setTo, h4]
            rw [endS_nil hd, ← hs] at h5
            (try ((try (revert K;refine bK ?_));refine' run (I b0 (I (decide_eq_true (of_eq_true b0)) (I e1 (I e2 (I e3 (I b1 b2)))))) ?_;(repeat' first|exact True.intro|refine Lv.mk ?_ ?_|(refine oK ?_;intro K hK)|intro hq);all_goals refine Lf.mk ?_))
            (apply callB' [2096, 3000, 9056] cl82 (kE); (case h1 | h2 | h3 => (simp only [go_sem, ↓reduceIte]; try rfl)); (case hl | hs | hfp | hfr => (simp [go_sem]; done)))
            (try ((try (revert K;refine bK ?_));refine' run (I b0 (I (decide_eq_true (of_eq_true b0)) (I e1 (I e2 (I e3 (I b1 b2)))))) ?_;(repeat' first|exact True.intro|refine Lv.mk ?_ ?_|(refine oK ?_;intro K hK)|intro hq);all_goals refine Lf.mk ?_))
            (apply callB' [2096] cl84 (does_f (setFrom s c.day) c hcv); (case h1 | h2 | h3 => (simp only [go_sem, ↓reduceIte]; try rfl)); (case hl | hs | hfp | hfr => (simp [go_sem]; done)))
            (try ((try (revert K;refine bK ?_));refine' run (I b0 (I (decide_eq_true (of_eq_true b0)) (I e1 (I e2 (I e3 (I b1 b2)))))) ?_;(repeat' first|exact True.intro|refine Lv.mk ?_ ?_|(refine oK ?_;intro K hK)|intro hq);all_goals refine Lf.mk ?_))
            have o2 : outV 6001 9 [setTo s c.day] = .osl 6001 9 0 1 := rfl
            have o4 : outB 73 Sl.flat [setTo s c.day] = some ⟨73, rowC Sl.flat [setTo s c.day]⟩ := rfl
            refine ⟨⟨(i + 1, [setTo s c.day], doSl (setFrom s c.day) c), hi, by simp, h3, h4, h5⟩, nm1 6001 9056, ?_, by show Ix.length - (i + 1) < Ix.length - i; omega⟩
            simp only [o2, o4]
            simp only [go_sem, ↓reduceIte, hF]
        · have o1 : outV 6001 9 (m ++ [q]) = .osl 6001 9 0 (m.length + 1) := outV_snoc m q
          have o3 : outB 73 Sl.flat (m ++ [q]) = some ⟨73, rowC Sl.flat (m ++ [q])⟩ := outB_some (by simp)
          have hml : m.length + 1 ≤ i := by simpa using h2
          have hm : m.length ≤ 100000 := by omega
          simp only [o1, o3]
          by_cases hd : s.from_ = c.day
          · have kE := endN1_f s q m c.day hm hd
            rw [hd, endS_same] at h5
            (try ((try (revert K;refine bK ?_));refine' run (I b0 (I (decide_eq_true (of_eq_true b0)) (I e1 (I e2 (I e3 (I b1 b2)))))) ?_;(repeat' first|exact True.intro|refine Lv.mk ?_ ?_|(refine oK ?_;intro K hK)|intro hq);all_goals refine Lf.mk ?_))
            (apply callB' [2096, 3000, 6001] cl82 (kE); (case h1 | h2 | h3 => (simp only [go_sem, ↓reduceIte]; try rfl)); (case hl | hs | hfp | hfr => (simp [go_sem]; done)))
            (try ((try (revert K;refine bK ?_));refine' run (I b0 (I (decide_eq_true (of_eq_true b0)) (I e1 (I e2 (I e3 (I b1 b2)))))) ?_;(repeat' first|exact True.intro|refine Lv.mk ?_ ?_|(refine oK ?_;intro K hK)|intro hq);all_goals refine Lf.mk ?_))
            (apply callB' [2096] cl84 (does_f (setFrom s c.day) c hcv); (case h1 | h2 | h3 => (simp only [go_sem, ↓reduceIte]; try rfl)); (case hl | hs | hfp | hfr => (simp [go_sem]; done)))
            (try ((try (revert K;refine bK ?_));refine' run (I b0 (I (decide_eq_true (of_eq_true b0)) (I e1 (I e2 (I e3 (I b1 b2)))))) ?_;(repeat' first|exact True.intro|refine Lv.mk ?_ ?_|(refine oK ?_;intro K hK)|intro hq);all_goals refine Lf.mk ?_))
            refine ⟨⟨(i + 1, m ++ [q], doSl (setFrom s c.day) c), hi, by simp; omega, h3, h4, h5⟩, id, ?_, by show Ix.length - (i + 1) < Ix.length - i; omega⟩
            simp only [o1, o3]
            simp only [go_sem, ↓reduceIte, hF]
          · rw [endS_snoc hd] at h5
            by_cases hqs : q.st = s.st
            · have kE := endN2_f s q m c.day hm hd hqs
              rw [if_pos hqs] at h5
              (try ((try (revert K;refine bK ?_));refine' run (I b0 (I (decide_eq_true (of_eq_true b0)) (I e1 (I e2 (I e3 (I b1 b2)))))) ?_;(repeat' first|exact True.intro|refine Lv.mk ?_ ?_|(refine oK ?_;intro K hK)|intro hq);all_goals refine Lf.mk ?_))
              (apply callB' [2096, 3000, 6001] cl82 (kE); (case h1 | h2 | h3 => (simp only [go_sem, ↓reduceIte]; try rfl)); (case hl | hs | hfp | hfr => (simp [go_sem]; done)))
              (try ((try (revert K;refine bK ?_));refine' run (I b0 (I (decide_eq_true (of_eq_true b0)) (I e1 (I e2 (I e3 (I b1 b2)))))) ?_;(repeat' first|exact True.intro|refine Lv.mk ?_ ?_|(refine oK ?_;intro K hK)|intro hq);all_goals refine Lf.mk ?_))
              (apply callB' [2096] cl84 (does_f (setFrom s c.day) c hcv); (case h1 | h2 | h3 => (simp only [go_sem, ↓reduceIte]; try rfl)); (case hl | hs | hfp | hfr => (simp [go_sem]; done)))
              (try ((try (revert K;refine bK ?_));refine' run (I b0 (I (decide_eq_true (of_eq_true b0)) (I e1 (I e2 (I e3 (I b1 b2)))))) ?_;(repeat' first|exact True.intro|refine Lv.mk ?_ ?_|(refine oK ?_;intro K hK)|intro hq);all_goals refine Lf.mk ?_))
              have o2 : outV 6001 9 (m ++ [setTo q c.day]) = .osl 6001 9 0 (m.length + 1) := outV_snoc m _
              have o4 : outB 73 Sl.flat (m ++ [setTo q c.day]) = some ⟨73, rowC Sl.flat (m ++ [setTo q c.day])⟩ := outB_some (by simp)
              refine ⟨⟨(i + 1, m ++ [setTo q c.day], doSl (setFrom s c.day) c), hi, by simp; omega, h3, h4, h5⟩, id, ?_, by show Ix.length - (i + 1) < Ix.length - i; omega⟩
              simp only [o2, o4]
              simp only [go_sem, ↓reduceIte, hF]
            · have kE := endN3_f s q m c.day hm hd hqs
              have hs : setTo s c.day = ⟨s.from_, c.day, s.st, 0⟩ := by rw [setTo, h4]
              rw [if_neg hqs, ← hs] at h5
              (try ((try (revert K;refine bK ?_));refine' run (I b0 (I (decide_eq_true (of_eq_true b0)) (I e1 (I e2 (I e3 (I b1 b2)))))) ?_;(repeat' first|exact True.intro|refine Lv.mk ?_ ?_|(refine oK ?_;intro K hK)|intro hq);all_goals refine Lf.mk ?_))
              (apply callB' [2096, 3000, 6001, 9056] cl82 (kE); (case h1 | h2 | h3 => (simp only [go_sem, ↓reduceIte]; try rfl)); (case hl | hs | hfp | hfr => (simp [go_sem]; done)))
              (try ((try (revert K;refine bK ?_));refine' run (I b0 (I (decide_eq_true (of_eq_true b0)) (I e1 (I e2 (I e3 (I b1 b2)))))) ?_;(repeat' first|exact True.intro|refine Lv.mk ?_ ?_|(refine oK ?_;intro K hK)|intro hq);all_goals refine Lf.mk ?_))
              (apply callB' [2096] cl84 (does_f (setFrom s c.day) c hcv); (case h1 | h2 | h3 => (simp only [go_sem, ↓reduceIte]; try rfl)); (case hl | hs | hfp | hfr => (simp [go_sem]; done)))
              (try ((try (revert K;refine bK ?_));refine' run (I b0 (I (decide_eq_true (of_eq_true b0)) (I e1 (I e2 (I e3 (I b1 b2)))))) ?_;(repeat' first|exact True.intro|refine Lv.mk ?_ ?_|(refine oK ?_;intro K hK)|intro hq);all_goals refine Lf.mk ?_))
              have o2 : outV 6001 9 (m ++ [q] ++ [setTo s c.day]) = .osl 6001 9 0 (m.length + 1 + 1) := by rw [outV_snoc, List.length_append]; rfl
              have o4 : outB 73 Sl.flat (m ++ [q] ++ [setTo s c.day]) = some ⟨73, rowC Sl.flat (m ++ [q] ++ [setTo s c.day])⟩ := outB_some (by simp)
              refine ⟨⟨(i + 1, m ++ [q] ++ [setTo s c.day], doSl (setFrom s c.day) c), hi, by simp; omega, h3, h4, h5⟩, nm1 6001 9056, ?_, by show Ix.length - (i + 1) < Ix.length - i; omega⟩
              simp only [o2, o4]
              simp only [go_sem, ↓reduceIte, hF]
      · obtain rfl : i = Ix.length := by omega
        rw [List.drop_length, show chO h [] = [] from rfl, cutG] at h5
        have b9 : ((Ix.length : Int) < (Ix.length : Int)) = False := eq_false (by omega)
        rcases snoc_cases O with rfl | ⟨m, q, rfl⟩
        · have o1 := outV_nil (b := 6001) (k := 9) (l := ([] : List Sl)) rfl
          have o3 := outB_nil (t := 73) (F := Sl.flat) (l := ([] : List Sl)) rfl
          simp only [o1, o3]
          by_cases hd : s.from_ = h.terms.to_
          · have kE := endE1_f s h.terms.to_ hd
            rw [hd, endS_same] at h5
            exact absurd h5.symm hR1
          · have kE := endE2_f s h.terms.to_ hd
            have hs : setTo s h.terms.to_ = ⟨s.from_, h.terms.to_, s.st, 0⟩ := by rw [setTo, h4]
            rw [endS_nil hd, ← hs] at h5
            generalize setTo s h.terms.to_ = u at *
            subst h5
            (try ((try (revert K;refine bK ?_));refine' run (I b9 (decide_eq_false (of_eq_false b9))) ?_;(repeat' first|exact True.intro|refine Lv.mk ?_ ?_|(refine oK ?_;intro K hK)|intro hq);all_goals refine Lf.mk ?_))
            (apply callB' [2096, 3000, 8024] cl82 (kE); (case h1 | h2 | h3 => (simp only [go_sem, ↓reduceIte]; try rfl)); (case hl | hs | hfp | hfr => (simp [go_sem]; done)))
            (try ((try (revert K;refine bK ?_));refine' run (I b9 (decide_eq_false (of_eq_false b9))) ?_;(repeat' first|exact True.intro|refine Lv.mk ?_ ?_|(refine oK ?_;intro K hK)|intro hq);all_goals refine Lf.mk ?_))
            refine ⟨nm1 0 8024, ⟨[(2, .osl 0 9 0 1)], [(0, some ⟨73, rowC Sl.flat ([u])⟩)], 1⟩, ?_, ?_⟩
            · simp only [go_sem, ↓reduceIte, hF]
              all_goals rfl
            · (try ((try (revert K;refine bK ?_));refine' run trivial ?_;(repeat' first|exact True.intro|refine Lv.mk ?_ ?_|(refine oK ?_;intro K hK)|intro hq);all_goals refine Lf.mk ?_))
        · have o1 : outV 6001 9 (m ++ [q]) = .osl 6001 9 0 (m.length + 1) := outV_snoc m q
          have o3 : outB 73 Sl.flat (m ++ [q]) = some ⟨73, rowC Sl.flat (m ++ [q])⟩ := outB_some (by simp)
          have hml : m.length + 1 ≤ Ix.length := by simpa using h2
          have hm : m.length ≤ 100000 := by omega
          simp only [o1, o3]
          by_cases hd : s.from_ = h.terms.to_
          · have kE := endN1_f s q m h.terms.to_ hm hd
            rw [hd, endS_same] at h5
            subst h5
            (try ((try (revert K;refine bK ?_));refine' run (I b9 (decide_eq_false (of_eq_false b9))) ?_;(repeat' first|exact True.intro|refine Lv.mk ?_ ?_|(refine oK ?_;intro K hK)|intro hq);all_goals refine Lf.mk ?_))
            (apply callB' [2096, 3000, 6001] cl82 (kE); (case h1 | h2 | h3 => (simp only [go_sem, ↓reduceIte]; try rfl)); (case hl | hs | hfp | hfr => (simp [go_sem]; done)))
            (try ((try (revert K;refine bK ?_));refine' run (I b9 (decide_eq_false (of_eq_false b9))) ?_;(repeat' first|exact True.intro|refine Lv.mk ?_ ?_|(refine oK ?_;intro K hK)|intro hq);all_goals refine Lf.mk ?_))
            refine ⟨nm1 0 6001, ⟨[(2, .osl 0 9 0 (m.length + 1))], [(0, some ⟨73, rowC Sl.flat (m ++ [q])⟩)], 1⟩, ?_, ?_⟩
            · simp only [go_sem, ↓reduceIte, hF]
              all_goals rfl
            · (try ((try (revert K;refine bK ?_));refine' run trivial ?_;(repeat' first|exact True.intro|refine Lv.mk ?_ ?_|(refine oK ?_;intro K hK)|intro hq);all_goals refine Lf.mk ?_))
          · rw [endS_snoc hd] at h5
            by_cases hqs : q.st = s.st
            · have kE := endN2_f s q m h.terms.to_ hm hd hqs
              rw [if_pos hqs] at h5
              generalize setTo q h.terms.to_ = u at *
              subst h5
              (try ((try (revert K;refine bK ?_));refine' run (I b9 (decide_eq_false (of_eq_false b9))) ?_;(repeat' first|exact True.intro|refine Lv.mk ?_ ?_|(refine oK ?_;intro K hK)|intro hq);all_goals refine Lf.mk ?_))
              (apply callB' [2096, 3000, 6001] cl82 (kE); (case h1 | h2 | h3 => (simp only [go_sem, ↓reduceIte]; try rfl)); (case hl | hs | hfp | hfr => (simp [go_sem]; done)))
              (try ((try (revert K;refine bK ?_));refine' run (I b9 (decide_eq_false (of_eq_false b9))) ?_;(repeat' first|exact True.intro|refine Lv.mk ?_ ?_|(refine oK ?_;intro K hK)|intro hq);all_goals refine Lf.mk ?_))
              refine ⟨nm1 0 6001, ⟨[(2, .osl 0 9 0 (m.length + 1))], [(0, some ⟨73, rowC Sl.flat (m ++ [u])⟩)], 1⟩, ?_, ?_⟩
              · simp only [go_sem, ↓reduceIte, hF]
                all_goals rfl
              · (try ((try (revert K;refine bK ?_));refine' run trivial ?_;(repeat' first|exact True.intro|refine Lv.mk ?_ ?_|(refine oK ?_;intro K hK)|intro hq);all_goals refine Lf.mk ?_))
            · have kE := endN3_f s q m h.terms.to_ hm hd hqs
              have hs : setTo s h.terms.to_ = ⟨s.from_, h.terms.to_, s.st, 0⟩ := by rw [setTo, h4]
              rw [if_neg hqs, ← hs] at h5
              generalize setTo s h.terms.to_ = u at *
              subst h5
              (try ((try (revert K;refine bK ?_));refine' run (I b9 (decide_eq_false (of_eq_false b9))) ?_;(repeat' first|exact True.intro|refine Lv.mk ?_ ?_|(refine oK ?_;intro K hK)|intro hq);all_goals refine Lf.mk ?_))
              (apply callB' [2096, 3000, 6001, 8024] cl82 (kE); (case h1 | h2 | h3 => (simp only [go_sem, ↓reduceIte]; try rfl)); (case hl | hs | hfp | hfr => (simp [go_sem]; done)))
              (try ((try (revert K;refine bK ?_));refine' run (I b9 (decide_eq_false (of_eq_false b9))) ?_;(repeat' first|exact True.intro|refine Lv.mk ?_ ?_|(refine oK ?_;intro K hK)|intro hq);all_goals refine Lf.mk ?_))
              refine ⟨nm1 0 8024, ⟨[(2, .osl 0 9 0 (m.length + 1 + 1))], [(0, some ⟨73, rowC Sl.flat (m ++ [q] ++ [u])⟩)], 1⟩, ?_, ?_⟩
              · simp only [go_sem, ↓reduceIte, hF]
                all_goals rfl
              · (try ((try (revert K;refine bK ?_));refine' run trivial ?_;(repeat' first|exact True.intro|refine Lv.mk ?_ ?_|(refine oK ?_;intro K hK)|intro hq);all_goals refine Lf.mk ?_))
  · simp [maxLen]; omega
end Go.Proofs.YtkonljmmdifnaaaGreat.V
set_option linter.unusedSimpArgs false
set_option linter.unusedVariables false
namespace Go.Proofs.YtkonljmmdifnaaaGreat.V
open Go.RowKit
set_option maxRecDepth 100000
attribute [local go_sem] Option.toList_some Option.toList_none

def lastB (b : Int) (l : List Change) : Int := match l.getLast? with | some c => c.booked | none => b
def putE (h : History) (c : Change) : Int := if (!c.right || !spanIn h.terms.from_ h.terms.to_ c.day) = true then 1 else if c.booked < lastB h.booked h.changes then 4 else if 2000 ≤ h.changes.length then 2 else 0
def putH (h : History) (c : Change) : History := if putE h c = 0 then ⟨h.id, h.booked, h.terms, h.changes ++ [c]⟩ else zeroHist

theorem take_map_len {α β : Type} (F : α → β) (l : List α) : (l.map F).take l.length = l.map F := by
  rw [← List.length_map (f := F), List.take_length]

theorem fzo_snoc {t : TypeId} {R : AV → AV → Prop} (l : List Change) (c : Change) {n : Nat} (hn : n = l.length + 1) : fzo (some ⟨t, (l.map Change.flat).flatten ++ c.flat⟩) R 9 0 n ((l ++ [c]).map Change.flat) := by
  have : (l.map Change.flat).flatten ++ c.flat = ((l ++ [c]).map Change.flat).flatten := by simp
  rw [this]
  exact fzo_rows Change.len Change.data _ (by simp [hn])

theorem put1 {h : History} {c : Change} (hq : c.right = false ∨ spanIn h.terms.from_ h.terms.to_ c.day = false) : putE h c = 1 := by
  unfold putE
  rcases hq with e | e <;> simp [e]
theorem put4 {h : History} {c : Change} (h1 : c.right = true ∧ spanIn h.terms.from_ h.terms.to_ c.day = true) (hq : c.booked < lastB h.booked h.changes) : putE h c = 4 := by
  unfold putE
  simp [h1.1, h1.2, hq]
theorem put2 {h : History} {c : Change} (h1 : c.right = true ∧ spanIn h.terms.from_ h.terms.to_ c.day = true) (h2 : lastB h.booked h.changes ≤ c.booked) (hq : 2000 ≤ (h.changes.length : Int)) : putE h c = 2 := by
  unfold putE
  have : 2000 ≤ h.changes.length := by omega
  simp [h1.1, h1.2, this]
  omega
theorem put0 {h : History} {c : Change} (h1 : c.right = true ∧ spanIn h.terms.from_ h.terms.to_ c.day = true) (h2 : lastB h.booked h.changes ≤ c.booked) (hq : (h.changes.length : Int) < 2000) : putE h c = 0 := by
  unfold putE
  simp [h1.1, h1.2]
  omega
theorem putH_no {h : History} {c : Change} {e : Int} (he : putE h c = e) (hne : e ≠ 0) : putH h c = zeroHist := by
  unfold putH
  rw [if_neg (by rw [he]; exact hne)]
theorem putH_yes {h : History} {c : Change} (he : putE h c = 0) : putH h c = ⟨h.id, h.booked, h.terms, h.changes ++ [c]⟩ := by
  unfold putH
  rw [if_pos he]

theorem put_f (h : History) (c : Change) (hc : c.covers.length ≤ 100000) (ht : h.terms.covers.length ≤ 100000) : Fun Tryz.prog 24 [.agg h.flat, .agg c.flat] (.tup [.agg (putH h c).flat, int (putE h c)]) := by
  have htm := take_map_len Change.flat h.changes
  have mx : 2000 ≤ maxLen := by simp [maxLen]
  rcases List.eq_nil_or_concat h.changes with hn | ⟨l', x, hn⟩
  · have hlb : lastB h.booked h.changes = h.booked := by rw [hn]; rfl
    refine fun_W mixed Tryz.func24 rfl (Nat.le_of_ble_eq_true rfl) (by kernel_rfl) fun cx hN hR hF hL => ?_; apply args_k; (case hA => (simp only [go_sem, ↓reduceIte]; rfl))
    (repeat' first|((try (revert K;refine bK ?_));refine' run (I htm hn) ?_;(repeat' first|exact True.intro|refine Lv.mk ?_ ?_|(refine oK ?_;intro K hK)|intro hq);all_goals refine Lf.mk ?_)|refine callZ cl47 (changeRight_f _) ?_|refine callZ cl18 (in_f _ _ _) ?_|refine callZ cl49 (clone_f _ _ hc) ?_|refine callZ cl50 (own_f _ ht) ?_)
    · have he := put1 hq
      simp [putH_no he, he, zeroHist, zeroTerms]
    · rename_i h1
      have he := put4 h1 (by rw [hlb]; exact hq)
      simp [putH_no he, he, zeroHist, zeroTerms]
    · rename_i h2 h1
      have he := put0 h2 (by rw [hlb]; exact h1) (by rw [hn]; exact hq)
      simp only [putH_yes he, he, hn, List.nil_append, and_self, true_and, and_true]
      exact ⟨⟨rfl, rows_len Change.len _⟩, fzo_snoc [] c rfl⟩
  · have hlb : lastB h.booked h.changes = x.booked := by rw [hn]; simp [lastB]
    have hlen : h.changes.length = l'.length + 1 := by rw [hn]; simp
    have e1 : h.changes[l'.length]? = some x := by rw [hn]; simp
    refine fun_W mixed Tryz.func24 rfl (Nat.le_of_ble_eq_true rfl) (by kernel_rfl) fun cx hN hR hF hL => ?_; apply args_k; (case hA => (simp only [go_sem, ↓reduceIte]; rfl))
    have hl : h.changes.length ≤ 9223372036854775807 := by
      have := hL
      simp [History.flat, maxLen] at this
      omega
    have ew : IntKind.i64.wrap (((l'.length + 1 : Nat) : Int) - 1) = (l'.length : Int) := by rw [wrap_id] <;> omega
    have htm2 : List.take (l'.length + 1) (h.changes.map Change.flat) = h.changes.map Change.flat := by rw [← hlen]; exact htm
    (repeat' first|((try (revert K;refine bK ?_));refine' run (I htm2 (I hlen (I e1 ew))) ?_;(repeat' first|exact True.intro|refine Lv.mk ?_ ?_|(refine oK ?_;intro K hK)|intro hq);all_goals refine Lf.mk ?_)|refine callZ cl47 (changeRight_f _) ?_|refine callZ cl18 (in_f _ _ _) ?_|refine callZ cl49 (clone_f _ _ hc) ?_|refine callZ cl50 (own_f _ ht) ?_)
    · have he := put1 hq
      simp [putH_no he, he, zeroHist, zeroTerms]
    · rename_i h1
      have he := put4 h1 (by rw [hlb]; exact hq)
      simp [putH_no he, he, zeroHist, zeroTerms]
    · rename_i h2 h1
      have he := put2 h2 (by rw [hlb]; exact h1) (by rw [hlen]; exact hq)
      simp [putH_no he, he, zeroHist, zeroTerms]
    · rename_i h2 h1
      have he := put0 h2 (by rw [hlb]; exact h1) (by rw [hlen]; exact hq)
      simp only [putH_yes he, he, and_self, true_and, and_true]
      exact ⟨⟨by simp [hlen], rows_len Change.len _⟩, fzo_snoc h.changes c (by simp [hlen])⟩
end Go.Proofs.YtkonljmmdifnaaaGreat.V
set_option linter.unusedSimpArgs false
set_option linter.unusedVariables false
namespace Go.Proofs.YtkonljmmdifnaaaGreat.V
open Go.RowKit
set_option maxRecDepth 100000
attribute [local go_sem] Option.toList_some Option.toList_none

theorem hist_len {h : History} {l : List AV} (hL : (.agg h.flat :: l).all AV.lens = true) : h.changes.length ≤ 9223372036854775807 := by
  simp [History.flat, maxLen] at hL
  omega

end Go.Proofs.YtkonljmmdifnaaaGreat.V
set_option linter.unusedSimpArgs false
set_option linter.unusedVariables false
namespace Go.Proofs.YtkonljmmdifnaaaGreat.V
open Go.RowKit
set_option maxRecDepth 100000

end Go.Proofs.YtkonljmmdifnaaaGreat.V
