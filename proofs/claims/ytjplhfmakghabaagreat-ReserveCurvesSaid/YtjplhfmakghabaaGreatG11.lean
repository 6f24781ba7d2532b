/- slices.SortStableFunc at steps. Contracts of chapter 19: Paid. Positions in memory; what is held back (plain). Contracts of chapter 19: Of. The reference's positions, file by file (plain). What is paid, and held back, file by file (plain). Contracts: files as they were known: the reference's At. Contracts of chapter 20: Known, sums of positions. -/
import Derived.Test.YtjplhfmakghabaaGreatG10
import Derived.Test.YtjplhfmakghabaaGreatG8
set_option linter.unusedSimpArgs false
set_option linter.unusedVariables false
namespace Go.Proofs.YtjplhfmakghabaaGreat.V
open Go.RowKit
set_option maxRecDepth 100000

set_option maxHeartbeats 4000000 in
theorem stable_fT (l : List Stp) (h0 : 0 < l.length) (hl : l.length ≤ 50000) (hP : ∀ x, x ∈ l → True) :
    FunB Tryz.prog 65 [(0, ⟨81, rowC trow l⟩)] [.osl 0 4 0 l.length, int l.length, .v (.func (.func 44) #[] #[])] (.tup []) [(0, some ⟨81, rowC trow (isort (ltT) l)⟩)] := by
  have hne2 := rowT_nz h0
  generalize hn : l.length = n at *
  refine fun_WB 1 mixed Tryz.func65 rfl (Nat.le_of_ble_eq_true rfl) (by kernel_rfl) (by simp [go_sem, hne2, rowT_nms']) fun cx hN hR hF hL => ?_; apply args_kb; (case hA => (simp only [go_sem, ↓reduceIte]; rfl)); (case hB => (simp only [go_sem, ↓reduceIte]; rfl))
  have hF2 : ∀ b g, cx.F b = some g → b < 2000 := fun b g h => by
    have := hF b g h
    simp [inl] at this
    omega
  (try ((try (revert K;refine bK ?_));refine' run trivial ?_;(repeat' first|exact True.intro|refine Lv.mk ?_ ?_|(refine oK ?_;intro K hK)|intro hq);all_goals refine Lf.mk ?_))
  refine loopW mixed (σ := {p : List Stp × List Stp // p.1 ++ blk (ltT) 20 p.2 = blk (ltT) 20 l ∧ p.1.length + p.2.length = n ∧ (∀ x, x ∈ p.1 → True) ∧ ∀ x, x ∈ p.2 → True})
    (fun s => ⟨[(7, int s.1.1.length), (8, int (s.1.1.length + 20 : Nat)), (6, int 20), (0, .osl 0 4 0 n), (1, int n), (2, .v (.func (.func 44) #[] #[]))], [(0, some ⟨81, rowC trow (s.1.1 ++ s.1.2)⟩)], 4000⟩) (fun s => s.1.2.length) id ⟨([], l), rfl, by simpa using hn, by simp, hP⟩ (by rw [hN]; kernel_rfl) ?_ ?_
  · have h20 : ((0 + 20 : Nat) : Int) = 20 := rfl
    simp only [go_sem, ↓reduceIte, hF, h20]
    exact ⟨rfl, fun b g h => by have := hF2 b g h; omega⟩
  · rintro ⟨⟨D, R⟩, g1, g2, g3, g4⟩
    simp only at g1 g2 g3 g4
    by_cases hR : 20 ≤ R.length
    · obtain ⟨A, R', he, hA⟩ : ∃ A R', R = A ++ R' ∧ A.length = 20 := ⟨R.take 20, R.drop 20, by simp, by simp; omega⟩
      have c1 : decide (((D.length + 20 : Nat) : Int) ≤ (n : Int)) = true := by simp; omega
      have w1 : IntKind.i64.wrap (((D.length + 20 : Nat) : Int) + 20) = ((D.length + 20 + 20 : Nat) : Int) := by rw [wrap_id] <;> omega
      have lR : R.length = 20 + R'.length := by rw [he, List.length_append, hA]
      have hnz := rowT_nz (l := D ++ R) (by rw [List.length_append]; omega)
      have c := insertion_fT D A R' (by simp only [List.length_append]; omega) (by simp only [List.length_append]; omega) (fun x hx => g4 x (by rw [he]; simp [hx]))
      rw [← he, List.length_append, g2, hA] at c
      (try ((try (revert K;refine bK ?_));refine' run (I c1 w1) ?_;(repeat' first|exact True.intro|refine Lv.mk ?_ ?_|(refine oK ?_;intro K hK)|intro hq);all_goals refine Lf.mk ?_))
      (apply callB' [0] cl88 (c); (case h1 | h2 | h3 => (simp only [go_sem, ↓reduceIte]; try rfl)); (case hl | hs | hfp | hfr => (simp [go_sem]; done)))
      (try ((try (revert K;refine bK ?_));refine' run (I c1 w1) ?_;(repeat' first|exact True.intro|refine Lv.mk ?_ ?_|(refine oK ?_;intro K hK)|intro hq);all_goals refine Lf.mk ?_))
      refine ⟨⟨(D ++ isort (ltT) A, R'), by rw [← g1, he, blk_app hA (by omega)]; simp, by simp only [List.length_append, isort_len]; omega, fun x hx => ?_, fun x hx => g4 x (by rw [he]; simp [hx])⟩, id, ?_, by show R'.length < R.length; omega⟩
      · rcases List.mem_append.1 hx with hx | hx
        · exact g3 x hx
        · exact g4 x (by rw [he]; simp [isort_mem.1 hx])
      · have e1 : (D ++ isort (ltT) A).length = D.length + 20 := by rw [List.length_append, isort_len, hA]
        simp only [go_sem, ↓reduceIte, hF, e1, List.append_assoc]
        exact fun b g h => by have := hF2 b g h; omega
    · have c1 : decide (((D.length + 20 : Nat) : Int) ≤ (n : Int)) = false := by simp; omega
      have hnz := rowT_nz (l := D ++ R) (by rw [List.length_append]; omega)
      have c := insertion_fT D R [] (by simp only [List.append_nil, List.length_append]; omega) (by simp only [List.append_nil, List.length_append]; omega) g4
      rw [List.append_nil, List.append_nil, List.length_append, g2, ← blk_le (s := 20) (by omega : R.length ≤ 20), g1] at c
      have hnz2 := rowT_nz (l := blk (ltT) 20 l) (by rw [blk_len]; omega)
      (try ((try (revert K;refine bK ?_));refine' run c1 ?_;(repeat' first|exact True.intro|refine Lv.mk ?_ ?_|(refine oK ?_;intro K hK)|intro hq);all_goals refine Lf.mk ?_))
      (apply callB' [0] cl88 (c); (case h1 | h2 | h3 => (simp only [go_sem, ↓reduceIte]; try rfl)); (case hl | hs | hfp | hfr => (simp [go_sem]; done)))
      (try ((try (revert K;refine bK ?_));refine' run c1 ?_;(repeat' first|exact True.intro|refine Lv.mk ?_ ?_|(refine oK ?_;intro K hK)|intro hq);all_goals refine Lf.mk ?_))
      refine loopW mixed (σ := {s : Nat // 0 < s ∧ s ≤ 100000}) (fun s => ⟨[(6, int s.1), (0, .osl 0 4 0 n), (1, int n), (2, .v (.func (.func 44) #[] #[]))], [(0, some ⟨81, rowC trow (blk (ltT) s.1 l)⟩)], 8000⟩) (fun s => n - s.1) id ⟨20, by omega, by omega⟩ (by rw [hN]; kernel_rfl) ?_ ?_
      · simp only [go_sem, ↓reduceIte, hF]
        exact ⟨rfl, fun b g h => by have := hF2 b g h; omega⟩
      · rintro ⟨s, q1, q2⟩
        by_cases hs : s < n
        · have w2 : IntKind.i64.wrap (2 * (s : Int)) = ((2 * s : Nat) : Int) := by rw [wrap_id] <;> omega
          have w3 : IntKind.i64.wrap ((s : Int) * 2) = ((2 * s : Nat) : Int) := by rw [wrap_id] <;> omega
          (try ((try (revert K;refine bK ?_));refine' run (I (eq_true hs) (I w2 w3)) ?_;(repeat' first|exact True.intro|refine Lv.mk ?_ ?_|(refine oK ?_;intro K hK)|intro hq);all_goals refine Lf.mk ?_))
          refine loopW mixed (σ := {p : List Stp × List Stp // p.1 ++ blk (ltT) (2 * s) p.2 = blk (ltT) (2 * s) l ∧ p.1.length + p.2.length = n ∧ (∀ x, x ∈ p.1 → True) ∧ ∀ x, x ∈ p.2 → True})
            (fun p => ⟨[(7, int p.1.1.length), (8, int (p.1.1.length + 2 * s : Nat)), (6, int s), (0, .osl 0 4 0 n), (1, int n), (2, .v (.func (.func 44) #[] #[]))], [(0, some ⟨81, rowC trow (p.1.1 ++ blk (ltT) s p.1.2)⟩)], 16000⟩) (fun p => p.1.2.length) id ⟨([], l), rfl, by simpa using hn, by simp, hP⟩ (by rw [hN]; kernel_rfl) ?_ ?_
          · have hz : ((0 + 2 * s : Nat) : Int) = ((2 * s : Nat) : Int) := by omega
            simp only [go_sem, ↓reduceIte, hF, hz]
            exact ⟨rfl, fun b g h => by have := hF2 b g h; omega⟩
          · rintro ⟨⟨D, R⟩, g1, g2, g3, g4⟩
            simp only at g1 g2 g3 g4
            by_cases hR : 2 * s ≤ R.length
            · obtain ⟨A, B, R', he, hA, hB⟩ : ∃ A B R', R = A ++ (B ++ R') ∧ A.length = s ∧ B.length = s := ⟨R.take s, (R.drop s).take s, (R.drop s).drop s, by rw [List.take_append_drop, List.take_append_drop], by simp; omega, by simp; omega⟩
              have c1 : decide (((D.length + 2 * s : Nat) : Int) ≤ (n : Int)) = true := by simp; omega
              have w4 : IntKind.i64.wrap (((D.length + 2 * s : Nat) : Int) + ((2 * s : Nat) : Int)) = ((D.length + 2 * s + 2 * s : Nat) : Int) := by rw [wrap_id] <;> omega
              have w5 : IntKind.i64.wrap (((D.length : Nat) : Int) + s) = ((D.length + s : Nat) : Int) := by rw [wrap_id] <;> omega
              have lR : R.length = s + (s + R'.length) := by rw [he, List.length_append, List.length_append, hA, hB]
              have eb : blk (ltT) s R = isort (ltT) A ++ (isort (ltT) B ++ blk (ltT) s R') := by rw [he, blk_app hA q1, blk_app hB q1]
              have lb : (D ++ blk (ltT) s R).length = n := by rw [List.length_append, blk_len]; omega
              have c := symMerge_fT _ D (isort (ltT) A) (isort (ltT) B) (blk (ltT) s R') (Nat.le_refl _) (by rw [← eb]; omega) (by rw [isort_len]; omega) (by rw [isort_len]; omega) (fun x hx => g4 x (by rw [he]; simp [isort_mem.1 hx])) (fun x hx => g4 x (by rw [he]; simp [isort_mem.1 hx])) (isort_srt (sw_ltT) _) (isort_srt (sw_ltT) _)
              unfold SymM at c
              rw [← eb, lb, isort_len, isort_len, hA, hB, show D.length + s + s = D.length + 2 * s by omega, mrg_isort (sw_ltT)] at c
              have hnz3 := rowT_nz (l := D ++ blk (ltT) s R) (by omega)
              (try ((try (revert K;refine bK ?_));refine' run (I c1 (I w2 (I w4 w5))) ?_;(repeat' first|exact True.intro|refine Lv.mk ?_ ?_|(refine oK ?_;intro K hK)|intro hq);all_goals refine Lf.mk ?_))
              (apply callB' [0] cl89 (c); (case h1 | h2 | h3 => (simp only [go_sem, ↓reduceIte]; try rfl)); (case hl | hs | hfp | hfr => (simp [go_sem]; done)))
              (try ((try (revert K;refine bK ?_));refine' run (I c1 (I w2 (I w4 w5))) ?_;(repeat' first|exact True.intro|refine Lv.mk ?_ ?_|(refine oK ?_;intro K hK)|intro hq);all_goals refine Lf.mk ?_))
              refine ⟨⟨(D ++ isort (ltT) (A ++ B), R'), ?_, by simp only [List.length_append, isort_len]; omega, fun x hx => ?_, fun x hx => g4 x (by rw [he]; simp [hx])⟩, id, ?_, by show R'.length < R.length; omega⟩
              · rw [← g1, he, ← List.append_assoc A, blk_app (by rw [List.length_append]; omega) (by omega), List.append_assoc]
              · rcases List.mem_append.1 hx with hx | hx
                · exact g3 x hx
                · rcases List.mem_append.1 (isort_mem.1 hx) with hx | hx
                  · exact g4 x (by rw [he]; simp [hx])
                  · exact g4 x (by rw [he]; simp [hx])
              · have e1 : (D ++ isort (ltT) (A ++ B)).length = D.length + 2 * s := by rw [List.length_append, isort_len, List.length_append]; omega
                simp only [go_sem, ↓reduceIte, hF, e1, List.append_assoc]
                exact fun b g h => by have := hF2 b g h; omega
            · have c1 : decide (((D.length + 2 * s : Nat) : Int) ≤ (n : Int)) = false := by simp; omega
              have w5 : IntKind.i64.wrap (((D.length : Nat) : Int) + s) = ((D.length + s : Nat) : Int) := by rw [wrap_id] <;> omega
              have hnz3 := rowT_nz (l := D ++ blk (ltT) s R) (by rw [List.length_append, blk_len]; omega)
              by_cases hm : s < R.length
              · have c2 : decide (((D.length + s : Nat) : Int) < (n : Int)) = true := by simp; omega
                obtain ⟨A, B, he, hA⟩ : ∃ A B, R = A ++ B ∧ A.length = s := ⟨R.take s, R.drop s, by simp, by simp; omega⟩
                have lR : R.length = s + B.length := by rw [he, List.length_append, hA]
                have eb : blk (ltT) s R = isort (ltT) A ++ (isort (ltT) B ++ []) := by rw [he, blk_app hA q1, blk_le (l := B) (by omega), List.append_nil]
                have lb : (D ++ blk (ltT) s R).length = n := by rw [List.length_append, blk_len]; omega
                have c := symMerge_fT _ D (isort (ltT) A) (isort (ltT) B) [] (Nat.le_refl _) (by rw [← eb]; omega) (by rw [isort_len]; omega) (by rw [isort_len]; omega) (fun x hx => g4 x (by rw [he]; simp [isort_mem.1 hx])) (fun x hx => g4 x (by rw [he]; simp [isort_mem.1 hx])) (isort_srt (sw_ltT) _) (isort_srt (sw_ltT) _)
                unfold SymM at c
                rw [← eb, lb, isort_len, isort_len, hA, show D.length + s + B.length = n by omega, mrg_isort (sw_ltT), List.append_nil, ← he, ← blk_le (s := 2 * s) (by omega : R.length ≤ 2 * s), g1] at c
                (try ((try (revert K;refine bK ?_));refine' run (I c1 (I c2 (I w5 w3))) ?_;(repeat' first|exact True.intro|refine Lv.mk ?_ ?_|(refine oK ?_;intro K hK)|intro hq);all_goals refine Lf.mk ?_))
                (apply callB' [0] cl89 (c); (case h1 | h2 | h3 => (simp only [go_sem, ↓reduceIte]; try rfl)); (case hl | hs | hfp | hfr => (simp [go_sem]; done)))
                (try ((try (revert K;refine bK ?_));refine' run (I c1 (I c2 (I w5 w3))) ?_;(repeat' first|exact True.intro|refine Lv.mk ?_ ?_|(refine oK ?_;intro K hK)|intro hq);all_goals refine Lf.mk ?_))
                refine ⟨⟨2 * s, by omega, by omega⟩, id, ?_, by show n - 2 * s < n - s; omega⟩
                simp only [go_sem, ↓reduceIte, hF]
                exact fun b g h => by have := hF2 b g h; omega
              · have c2 : decide (((D.length + s : Nat) : Int) < (n : Int)) = false := by simp; omega
                rw [blk_le (s := 2 * s) (by omega : R.length ≤ 2 * s), ← blk_le (s := s) (by omega : R.length ≤ s)] at g1
                rw [g1]
                (try ((try (revert K;refine bK ?_));refine' run (I c1 (I c2 (I w5 w3))) ?_;(repeat' first|exact True.intro|refine Lv.mk ?_ ?_|(refine oK ?_;intro K hK)|intro hq);all_goals refine Lf.mk ?_))
                refine ⟨⟨2 * s, by omega, by omega⟩, id, ?_, by show n - 2 * s < n - s; omega⟩
                simp only [go_sem, ↓reduceIte, hF]
                exact fun b g h => by have := hF2 b g h; omega
        · have c3 : decide ((s : Int) < (n : Int)) = false := by simp; omega
          have hb : blk (ltT) s l = isort (ltT) l := blk_le (by omega)
          (try ((try (revert K;refine bK ?_));refine' run (I c3 hb) ?_;(repeat' first|exact True.intro|refine Lv.mk ?_ ?_|(refine oK ?_;intro K hK)|intro hq);all_goals refine Lf.mk ?_))

theorem sortStable_fT (l : List Stp) (h0 : 0 < l.length) (hl : l.length ≤ 50000) (hP : ∀ x, x ∈ l → True) : FunB Tryz.prog 43 [(0, ⟨81, rowC trow l⟩)] [.osl 0 4 0 l.length, .v (.func (.func 44) #[] #[])] (.tup []) [(0, some ⟨81, rowC trow (isort (ltT) l)⟩)] := by
  have hne2 := rowT_nz h0
  refine fun_WB 1 mixed Tryz.func43 rfl (Nat.le_of_ble_eq_true rfl) (by kernel_rfl) (by simp [go_sem, hne2, rowT_nms']) fun cx hN hR hF hL => ?_; apply args_kb; (case hA => (simp only [go_sem, ↓reduceIte]; rfl)); (case hB => (simp only [go_sem, ↓reduceIte]; rfl))
  (try ((try (revert K;refine bK ?_));refine' run trivial ?_;(repeat' first|exact True.intro|refine Lv.mk ?_ ?_|(refine oK ?_;intro K hK)|intro hq);all_goals refine Lf.mk ?_))
  (apply callB' [0] cl65 (stable_fT l h0 hl hP); (case h1 | h2 | h3 => (simp only [go_sem, ↓reduceIte]; try rfl)); (case hl | hs | hfp | hfr => (simp [go_sem]; done)))
  (try ((try (revert K;refine bK ?_));refine' run trivial ?_;(repeat' first|exact True.intro|refine Lv.mk ?_ ?_|(refine oK ?_;intro K hK)|intro hq);all_goals refine Lf.mk ?_))
end Go.Proofs.YtjplhfmakghabaaGreat.V
set_option linter.unusedSimpArgs false
set_option linter.unusedVariables false
namespace Go.Proofs.YtjplhfmakghabaaGreat.V
open Go.RowKit
set_option maxRecDepth 100000
attribute [local go_sem] Option.toList_some Option.toList_none

theorem ins0_f : Fun Tryz.prog 88 [.v (.slice none 0 0), int 0, int 0, .v (.func (.func 44) #[] #[])] (.tup []) := by
  refine fun_W mixed Tryz.func88 rfl (Nat.le_of_ble_eq_true rfl) (by kernel_rfl) fun cx hN hR hF hL => ?_; apply args_k; (case hA => (simp only [go_sem, ↓reduceIte]; rfl))
  have w1 : IntKind.i64.wrap (0 + 1) = 1 := by rw [wrap_id] <;> omega
  (repeat' first|((try (revert K;refine bK ?_));refine' run w1 ?_;(repeat' first|exact True.intro|refine Lv.mk ?_ ?_|(refine oK ?_;intro K hK)|intro hq);all_goals refine Lf.mk ?_)|refine rounds_s ?_)
  refine loop_rounds mixed 1 (by rw [hN]; kernel_rfl) ?_
  (repeat' first|((try (revert K;refine bK ?_));refine' run w1 ?_;(repeat' first|exact True.intro|refine Lv.mk ?_ ?_|(refine oK ?_;intro K hK)|intro hq);all_goals refine Lf.mk ?_)|refine rounds_s ?_)
theorem stable0_f : Fun Tryz.prog 65 [.v (.slice none 0 0), int 0, .v (.func (.func 44) #[] #[])] (.tup []) := by
  refine fun_W mixed Tryz.func65 rfl (Nat.le_of_ble_eq_true rfl) (by kernel_rfl) fun cx hN hR hF hL => ?_; apply args_k; (case hA => (simp only [go_sem, ↓reduceIte]; rfl))
  (repeat' first|((try (revert K;refine bK ?_));refine' run trivial ?_;(repeat' first|exact True.intro|refine Lv.mk ?_ ?_|(refine oK ?_;intro K hK)|intro hq);all_goals refine Lf.mk ?_)|refine rounds_s ?_)
  refine loop_rounds mixed 1 (by rw [hN]; kernel_rfl) ?_
  (repeat' first|((try (revert K;refine bK ?_));refine' run trivial ?_;(repeat' first|exact True.intro|refine Lv.mk ?_ ?_|(refine oK ?_;intro K hK)|intro hq);all_goals refine Lf.mk ?_)|refine callZ cl88 (ins0_f) ?_|refine rounds_s ?_)
  refine loop_rounds mixed 1 (by rw [hN]; kernel_rfl) ?_
  (repeat' first|((try (revert K;refine bK ?_));refine' run trivial ?_;(repeat' first|exact True.intro|refine Lv.mk ?_ ?_|(refine oK ?_;intro K hK)|intro hq);all_goals refine Lf.mk ?_)|refine rounds_s ?_)
theorem sort0_f : Fun Tryz.prog 43 [.v (.slice none 0 0), .v (.func (.func 44) #[] #[])] (.tup []) := by
  refine fun_W mixed Tryz.func43 rfl (Nat.le_of_ble_eq_true rfl) (by kernel_rfl) fun cx hN hR hF hL => ?_; apply args_k; (case hA => (simp only [go_sem, ↓reduceIte]; rfl))
  (repeat' first|((try (revert K;refine bK ?_));refine' run trivial ?_;(repeat' first|exact True.intro|refine Lv.mk ?_ ?_|(refine oK ?_;intro K hK)|intro hq);all_goals refine Lf.mk ?_)|refine callZ cl65 (stable0_f) ?_|refine rounds_s ?_)
theorem rowT_snoc (l : List Stp) (x : Stp) : rowC trow (l ++ [x]) = rowC trow l ++ [int x.file, int x.act.booked, int x.act.kind, int x.act.amt] := by simp [rowC, trow]
@[go_sem] def r3row (r : Int × Int × Int) : List AV := [int r.1, int r.2.1, int r.2.2]
@[go_sem] theorem rowR_ren (r : Nat → Nat) (l : List (Int × Int × Int)) : (rowC r3row l).map (AV.ren r) = rowC r3row l := rows_ren (fun x r => by simp [r3row]) r l
@[go_sem] theorem rowR_nms (p : Nat → Bool) (l : List (Int × Int × Int)) : (rowC r3row l).all (AV.names p) = true := rows_nms (fun x p => by simp [r3row]) p l
theorem rowR_snoc (l : List (Int × Int × Int)) (a b c : Int) : rowC r3row (l ++ [(a, b, c)]) = rowC r3row l ++ [int a, int b, int c] := by simp [rowC, r3row]
abbrev rowsA (l : List (Int × Int × Int)) : AV := .sl false 3 (l.map r3row)
theorem zerosR_int : ∀ n, zerosR [AV.v (Value.int IntKind.i64 0)] n = rowC irow (List.replicate n 0)
  | 0 => rfl
  | n + 1 => by rw [zerosR, zerosR_int n]; rfl
def paidR (c : Cover) (l : List File) : List (Int × Int × Int) := if checkE c l = 0 then (payL c l.length (ordL l)).out else []
attribute [local go_sem] Int.reduceEq List.length_set in
set_option maxHeartbeats 8000000 in
theorem paid_f (c : Cover) (l : List File) (hc : c.ok) (hl : l.length ≤ 100000) : Fun Tryz.prog 26 [.agg c.flat, filesA l] (.tup [rowsA (paidR c l), int (checkE c l)]) := by
  by_cases he : checkE c l = 0
  · have har : adjRight c l = true := by
      cases h : adjRight c l with
      | true => rfl
      | false => simp [checkE, h] at he
    have har0 : c.rightB = true := by
      rw [adjRight, Bool.and_eq_true] at har
      exact har.1
    have hn : l.length ≤ 2000 ∧ actsN l ≤ 2000 := by
      unfold checkE at he
      split at he; · cases he
      split at he; · cases he
      omega
    by_cases h0 : actsN l = 0
    · have hz : ∀ f, f ∈ l → f.acts = [] := by
        have key : ∀ m : List File, actsN m = 0 → ∀ f, f ∈ m → f.acts = [] := by
          intro m
          induction m with
          | nil => intro _ f hf; simp at hf
          | cons g m ih =>
            intro h f hf
            have h2 : actsN (g :: m) = g.acts.length + actsN m := by simp [actsN]
            rcases List.mem_cons.1 hf with rfl | hf
            · exact List.length_eq_zero_iff.1 (by omega)
            · exact ih (by omega) f hf
        exact key l h0
      refine fun_W mixed Tryz.func26 rfl (Nat.le_of_ble_eq_true rfl) (by kernel_rfl) fun cx hN hR hF hL => ?_; apply args_k; (case hA => (simp only [go_sem, ↓reduceIte]; rfl))
      (repeat' first|((try (revert K;refine bK ?_));refine' run he ?_;(repeat' first|exact True.intro|refine Lv.mk ?_ ?_|(refine oK ?_;intro K hK)|intro hq);all_goals refine Lf.mk ?_)|refine callZ cl42 (check_f c l hc hl) ?_|refine rounds_s ?_)
      refine loopW mixed (σ := {i : Nat // i ≤ l.length}) (fun s => ⟨[(27, int s.1), (7, .v (.slice none 0 0)), (25, filesA l), (26, int l.length), (1, filesA l), (2, .ptr 0 0)], [(0, some ⟨23, c.flat⟩)], 6000⟩) (fun s => l.length - s.1) id ⟨0, by omega⟩ (by rw [hN]; kernel_rfl) ?_ ?_
      · simp only [go_sem, ↓reduceIte, hF]
        rfl
      · rintro ⟨i, h1⟩
        by_cases hi : i < l.length
        · have e0 : l[i]? = some l[i] := List.getElem?_eq_getElem hi
          have e1 : (l.map File.flat)[i]? = some l[i].flat := by rw [List.getElem?_map, e0]; rfl
          have e2 : IntKind.i64.wrap ((i : Int) + 1) = ((i + 1 : Nat) : Int) := by rw [wrap_id] <;> omega
          have hk1 : i < (l.map File.flat).length := by simpa using hi
          have hy : l[i].acts = [] := hz _ (List.getElem_mem hi)
          generalize l[i] = f at *
          obtain ⟨fc, fa⟩ := f
          simp only at hy
          subst hy
          (repeat' first|((try (revert K;refine bK ?_));refine' run (I e1 (I e2 hk1)) ?_;(repeat' first|exact True.intro|refine Lv.mk ?_ ?_|(refine oK ?_;intro K hK)|intro hq);all_goals refine Lf.mk ?_)|refine rounds_s ?_)
          refine loop_rounds mixed 1 (by rw [hN]; kernel_rfl) ?_
          (repeat' first|((try (revert K;refine bK ?_));refine' run e2 ?_;(repeat' first|exact True.intro|refine Lv.mk ?_ ?_|(refine oK ?_;intro K hK)|intro hq);all_goals refine Lf.mk ?_)|refine rounds_s ?_)
          refine ⟨⟨i + 1, hi⟩, id, ?_, by show l.length - (i + 1) < l.length - i; omega⟩
          simp only [go_sem, ↓reduceIte, hF]
        · obtain rfl : i = l.length := by omega
          (repeat' first|((try (revert K;refine bK ?_));refine' run trivial ?_;(repeat' first|exact True.intro|refine Lv.mk ?_ ?_|(refine oK ?_;intro K hK)|intro hq);all_goals refine Lf.mk ?_)|refine callZ cl43 (sort0_f) ?_|refine rounds_s ?_)
          · refine loop_rounds mixed 1 (by rw [hN]; kernel_rfl) ?_
            (repeat' first|((try (revert K;refine bK ?_));refine' run trivial ?_;(repeat' first|exact True.intro|refine Lv.mk ?_ ?_|(refine oK ?_;intro K hK)|intro hq);all_goals refine Lf.mk ?_)|refine rounds_s ?_)
            have hpr : paidR c l = [] := by
              have : ordL l = [] := List.length_eq_zero_iff.1 (by rw [ordL_len]; exact h0)
              rw [paidR, if_pos he, this]
              rfl
            rw [hpr, he]
            exact ⟨rfl, rfl⟩
          · simp [maxLen]; omega
          · simp [maxLen]; omega
    · refine fun_W mixed Tryz.func26 rfl (Nat.le_of_ble_eq_true rfl) (by kernel_rfl) fun cx hN hR hF hL => ?_; apply args_k; (case hA => (simp only [go_sem, ↓reduceIte]; rfl))
      (repeat' first|((try (revert K;refine bK ?_));refine' run he ?_;(repeat' first|exact True.intro|refine Lv.mk ?_ ?_|(refine oK ?_;intro K hK)|intro hq);all_goals refine Lf.mk ?_)|refine callZ cl42 (check_f c l hc hl) ?_|refine rounds_s ?_)
      refine loop_nil 7 6000 4 81 rfl (Nat.le_of_ble_eq_true rfl) ?_
      refine loopW mixed (σ := {i : Nat // i ≤ l.length}) (fun s => ⟨[(27, int s.1), (7, .osl 6000 4 0 (actsN (l.take s.1))), (25, filesA l), (26, int l.length), (1, filesA l), (2, .ptr 0 0)], [(6000, some ⟨81, rowC trow (stepsL 0 (l.take s.1))⟩), (0, some ⟨23, c.flat⟩)], 6001⟩) (fun s => l.length - s.1) id ⟨0, by omega⟩ (by rw [hN]; kernel_rfl) ?_ ?_
      · simp only [go_sem, ↓reduceIte, hF]
        exact ⟨⟨rfl, rfl⟩, rfl⟩
      · rintro ⟨i, h1⟩
        by_cases hi : i < l.length
        · have e0 : l[i]? = some l[i] := List.getElem?_eq_getElem hi
          have e1 : (l.map File.flat)[i]? = some l[i].flat := by rw [List.getElem?_map, e0]; rfl
          have e2 : IntKind.i64.wrap ((i : Int) + 1) = ((i + 1 : Nat) : Int) := by rw [wrap_id] <;> omega
          have hk1 : i < (l.map File.flat).length := by simpa using hi
          have hs := actsN_snoc e0
          have ht := actsN_take l (i + 1)
          have hst : stepsL 0 (l.take (i + 1)) = stepsL 0 (l.take i) ++ l[i].acts.map (Stp.mk i) := by
            rw [List.take_succ_eq_append_getElem hi, stepsL_app]
            simp [stepsL, Nat.min_eq_left (Nat.le_of_lt hi)]
          generalize l[i] = f at *
          obtain ⟨fc, fa⟩ := f
          simp only at hs hst
          (repeat' first|((try (revert K;refine bK ?_));refine' run (I e1 (I e2 hk1)) ?_;(repeat' first|exact True.intro|refine Lv.mk ?_ ?_|(refine oK ?_;intro K hK)|intro hq);all_goals refine Lf.mk ?_)|refine rounds_s ?_)
          refine loopW mixed (σ := {j : Nat // j ≤ fa.length}) (fun t => ⟨[(35, int t.1), (34, int fa.length), (33, actsA fa), (8, int i), (7, .osl 6000 4 0 (actsN (l.take i) + t.1)), (27, int i), (25, filesA l), (26, int l.length), (1, filesA l), (2, .ptr 0 0)], [(6000, some ⟨81, rowC trow (stepsL 0 (l.take i) ++ (fa.take t.1).map (Stp.mk i))⟩), (0, some ⟨23, c.flat⟩)], 9001⟩) (fun t => fa.length - t.1) id ⟨0, by omega⟩ (by rw [hN]; kernel_rfl) ?_ ?_
          · simp only [go_sem, ↓reduceIte, hF]
            rfl
          · rintro ⟨j, g1⟩
            by_cases hj : j < fa.length
            · have k0 : fa[j]? = some fa[j] := List.getElem?_eq_getElem hj
              have k1 : (fa.map Act.flat)[j]? = some fa[j].flat := by rw [List.getElem?_map, k0]; rfl
              have k2 : IntKind.i64.wrap ((j : Int) + 1) = ((j + 1 : Nat) : Int) := by rw [wrap_id] <;> omega
              have k3 : j < (fa.map Act.flat).length := by simpa using hj
              have k4 : (fa.take (j + 1)).map (Stp.mk i) = (fa.take j).map (Stp.mk i) ++ [⟨i, fa[j]⟩] := by rw [List.take_succ_eq_append_getElem hj, List.map_append]; rfl
              have k5 := rowT_len (stepsL 0 (l.take i) ++ (fa.take j).map (Stp.mk i))
              generalize fa[j] = a at *
              (repeat' first|((try (revert K;refine bK ?_));refine' run (I k1 (I k2 k3)) ?_;(repeat' first|exact True.intro|refine Lv.mk ?_ ?_|(refine oK ?_;intro K hK)|intro hq);all_goals refine Lf.mk ?_)|refine rounds_s ?_)
              · refine ⟨⟨j + 1, hj⟩, nm1 6000 11041, ?_, by show fa.length - (j + 1) < fa.length - j; omega⟩
                simp only [k4, ← List.append_assoc, rowT_snoc]
                simp only [go_sem, ↓reduceIte, hF, List.map_append, List.all_append]
                rfl
              · rw [k5, List.length_append, stepsL_len, List.length_map, List.length_take, Nat.min_eq_left g1]
                exact ⟨rfl, by simp [maxLen]; omega⟩
            · obtain rfl : j = fa.length := by omega
              rw [← hs, List.take_length, ← hst]
              (repeat' first|((try (revert K;refine bK ?_));refine' run e2 ?_;(repeat' first|exact True.intro|refine Lv.mk ?_ ?_|(refine oK ?_;intro K hK)|intro hq);all_goals refine Lf.mk ?_)|refine rounds_s ?_)
              refine ⟨⟨i + 1, hi⟩, id, ?_, by show l.length - (i + 1) < l.length - i; omega⟩
              simp only [go_sem, ↓reduceIte, hF]
        · obtain rfl : i = l.length := by omega
          simp only [List.take_length]
          have hc1 := sortStable_fT (stepsL 0 l) (by rw [stepsL_len]; omega) (by rw [stepsL_len]; omega) (fun _ _ => trivial)
          rw [stepsL_len] at hc1
          (repeat' first|((try (revert K;refine bK ?_));refine' run trivial ?_;(repeat' first|exact True.intro|refine Lv.mk ?_ ?_|(refine oK ?_;intro K hK)|intro hq);all_goals refine Lf.mk ?_)|refine rounds_s ?_)
          (apply callB' [6000] cl43 (hc1); (case h1 | h2 | h3 => (simp only [go_sem, ↓reduceIte]; try rfl)); (case hl | hs | hfp | hfr => (simp [go_sem]; done)))
          (repeat' first|((try (revert K;refine bK ?_));refine' run trivial ?_;(repeat' first|exact True.intro|refine Lv.mk ?_ ?_|(refine oK ?_;intro K hK)|intro hq);all_goals refine Lf.mk ?_)|refine rounds_s ?_)
          rotate_left
          · simp [maxLen]; omega
          · simp [maxLen]; omega
          simp only [zerosR_int]
          refine loop_nil 15 11001 3 63 rfl (Nat.le_of_ble_eq_true rfl) ?_
          have hL := ordL_len l
          have hst2 : isort ltT (stepsL 0 l) = ordL l := rfl
          rw [hst2]
          have hmem := fun x (hx : x ∈ ordL l) => step_right har hx
          have hPB := payL_PB har0 l.length (L := ordL l) (fun x hx => by obtain ⟨k, _, _, _, h⟩ := hmem x hx; exact h)
          have hTl := rowT_len (ordL l)
          generalize hLe : ordL l = L at *
          simp only [← hL]
          refine loopW mixed (σ := {i : Nat // i ≤ L.length}) (fun s => ⟨[(57, int s.1), (56, int L.length), (55, .osl 6000 4 0 L.length), (15, .osl 11001 3 0 (payL c l.length (L.take s.1)).out.length), (14, int (payL c l.length (L.take s.1)).all), (13, .osl 8041 1 0 l.length), (12, .osl 8017 1 0 l.length), (2, .ptr 0 0)], [(11001, some ⟨63, rowC r3row (payL c l.length (L.take s.1)).out⟩), (8041, some ⟨3, rowC irow (payL c l.length (L.take s.1)).paid⟩), (8017, some ⟨3, rowC irow (payL c l.length (L.take s.1)).shown⟩), (6000, some ⟨81, rowC trow L⟩), (0, some ⟨23, c.flat⟩)], 11002⟩) (fun s => L.length - s.1) id ⟨0, by omega⟩ (by rw [hN]; kernel_rfl) ?_ ?_
          · simp only [go_sem, ↓reduceIte, hF]
            exact ⟨⟨rfl, rfl, rfl⟩, rfl, rfl, rfl⟩
          · rintro ⟨i, g1⟩
            by_cases gi : i < L.length
            · have e0 : L[i]? = some L[i] := List.getElem?_eq_getElem gi
              have e1 := rowT_some e0
              have e2 : IntKind.i64.wrap ((i : Int) + 1) = ((i + 1 : Nat) : Int) := by rw [wrap_id] <;> omega
              have hnx := payL_take (c := c) (n := l.length) e0
              have hP := hPB i g1
              have z4 := rowT_nz (l := L) (by omega)
              obtain ⟨k, q1, q2, q3, q4⟩ := hmem _ (List.getElem_mem gi)
              generalize L[i] = x at *
              obtain ⟨xf, bk, kd, am⟩ := x
              simp only at q2 q4
              subst q2
              have gk := hP.get1 k
              have gp := hP.get2 k
              have gb := hP.al
              have gl1 := hP.l1
              have gl2 := hP.l2
              unfold payOne at hnx
              simp only [Int.toNat_natCast] at hnx
              by_cases hk : kd = 2
              · subst hk
                rw [if_pos rfl] at hnx
                generalize payL c l.length (L.take i) = s at *
                obtain ⟨sS, sP, sA, sO⟩ := s
                simp only at gl1 gl2 gk gp gb hnx
                have ou := hP.ou
                simp only at ou
                have r1 : sS[k]? = some (sS.getD k 0) := by rw [List.getD_eq_getElem?_getD, List.getElem?_eq_getElem (by omega)]; rfl
                have r2 : sP[k]? = some (sP.getD k 0) := by rw [List.getD_eq_getElem?_getD, List.getElem?_eq_getElem (by omega)]; rfl
                generalize sS.getD k 0 = sh at *
                generalize sP.getD k 0 = pk at *
                have m1 := rowI_some r1
                have m2 := rowI_some r2
                have hcv := cvRight_iff.1 har0
                have z1 := rowI_nz (l := sS) (by omega)
                have z2 := rowI_nz (l := sP) (by omega)
                have z3 := rowI_nz (l := sS.set k (sh + am)) (by rw [List.length_set]; omega)
                have w1 : IntKind.i64.wrap (sh + am) = sh + am := by rw [wrap_id] <;> omega
                have w2 : IntKind.i64.wrap (sA - pk) = sA - pk := by rw [wrap_id] <;> omega
                have hb1 := pays_bd (c := c) har0 (sh + am) (used := sA - pk) (by omega)
                have hb2 := worth0_bd (c := c) har0 (sh + am)
                have hpy := pays_f c (sh + am) (sA - pk) hc (by unfold Int64; omega) (by unfold Int64; omega)
                generalize pays c (sh + am) (sA - pk) = pw at *
                have w3 : IntKind.i64.wrap (pw - pk) = pw - pk := by rw [wrap_id] <;> omega
                have w4 : IntKind.i64.wrap (pk + (pw - pk)) = pw := by rw [wrap_id] <;> omega
                have w5 : IntKind.i64.wrap (sA + (pw - pk)) = sA + (pw - pk) := by rw [wrap_id] <;> omega
                have m3 : (sS.set k (sh + am))[k]? = some (sh + am) := by rw [List.getElem?_set_self (by omega)]
                have m4 := rowI_some m3
                have n1 := rowI_put sS k (sh + am) (by omega)
                have n2 := rowI_put sP k pw (by omega)
                have q5 : k < sS.length := by omega
                have q6 : k < sP.length := by omega
                by_cases hw : pw - pk ≤ 0
                · rw [if_pos hw] at hnx
                  (repeat' first|((try (revert K;refine bK ?_));refine' run (I e1 (I e2 (I hTl (I gi (I le4 (I m1 (I m2 (I w1 (I w2 (I w3 (I m4 (I n1 (I q5 (I q6 (I rowI_len (I z1 (I z2 (I z3 (I z4 (I (eq_true hw) (decide_eq_true hw))))))))))))))))))))) ?_;(repeat' first|exact True.intro|refine Lv.mk ?_ ?_|(refine oK ?_;intro K hK)|intro hq);all_goals refine Lf.mk ?_)|refine callZ cl28 (hpy) ?_|refine rounds_s ?_)
                  refine ⟨⟨i + 1, gi⟩, id, ?_, by show L.length - (i + 1) < L.length - i; omega⟩
                  simp only [hnx]
                  simp only [go_sem, ↓reduceIte, hF]
                · rw [if_neg hw] at hnx
                  (repeat' first|((try (revert K;refine bK ?_));refine' run (I e1 (I e2 (I hTl (I gi (I le4 (I m1 (I m2 (I w1 (I w2 (I w3 (I w4 (I w5 (I m4 (I n1 (I n2 (I q5 (I q6 (I rowI_len (I z1 (I z2 (I z3 (I z4 (I (eq_false hw) (decide_eq_false hw)))))))))))))))))))))))) ?_;(repeat' first|exact True.intro|refine Lv.mk ?_ ?_|(refine oK ?_;intro K hK)|intro hq);all_goals refine Lf.mk ?_)|refine callZ cl28 (hpy) ?_|refine rounds_s ?_)
                  · refine ⟨⟨i + 1, gi⟩, nm1 11001 18074, ?_, by show L.length - (i + 1) < L.length - i; omega⟩
                    simp only [hnx, List.length_append, List.length_singleton, rowR_snoc]
                    simp only [go_sem, ↓reduceIte, hF, List.map_append, List.all_append]
                  · have hro : (rowC r3row sO).length = sO.length * 3 := rowC_len (F := r3row) (k := 3) (fun _ => rfl) sO
                    exact ⟨hro, by simp [maxLen]; omega⟩
              · rw [if_neg hk] at hnx
                (repeat' first|((try (revert K;refine bK ?_));refine' run (I e1 (I e2 (I hk (I hTl (I gi (I le4 z4)))))) ?_;(repeat' first|exact True.intro|refine Lv.mk ?_ ?_|(refine oK ?_;intro K hK)|intro hq);all_goals refine Lf.mk ?_)|refine rounds_s ?_)
                refine ⟨⟨i + 1, gi⟩, id, ?_, by show L.length - (i + 1) < L.length - i; omega⟩
                simp only [hnx]
                simp only [go_sem, ↓reduceIte, hF]
            · obtain rfl : i = L.length := by omega
              simp only [List.take_length]
              (repeat' first|((try (revert K;refine bK ?_));refine' run trivial ?_;(repeat' first|exact True.intro|refine Lv.mk ?_ ?_|(refine oK ?_;intro K hK)|intro hq);all_goals refine Lf.mk ?_)|refine rounds_s ?_)
              have hpr : paidR c l = (payL c l.length L).out := by rw [paidR, if_pos he, hLe]
              rw [hpr, he]
              exact ⟨⟨⟨rfl, rows_len (F := r3row) (fun _ => rfl) _⟩, fzo_rows (F := r3row) (k := 3) (fun _ => rfl) (fun _ => by simp [r3row]) _ rfl⟩, rfl⟩
  · refine fun_W mixed Tryz.func26 rfl (Nat.le_of_ble_eq_true rfl) (by kernel_rfl) fun cx hN hR hF hL => ?_; apply args_k; (case hA => (simp only [go_sem, ↓reduceIte]; rfl))
    (repeat' first|((try (revert K;refine bK ?_));refine' run he ?_;(repeat' first|exact True.intro|refine Lv.mk ?_ ?_|(refine oK ?_;intro K hK)|intro hq);all_goals refine Lf.mk ?_)|refine callZ cl42 (check_f c l hc hl) ?_|refine rounds_s ?_)
    simp [paidR, he]
theorem srt_of {c : Cover} {l : List File} (h : adjRight c l = true) : ∀ f, f ∈ l → f.acts.Pairwise fun a b => a.booked ≤ b.booked := by
  intro f hf
  rw [adjRight, Bool.and_eq_true, List.all_eq_true] at h
  have := h.2 f hf
  rw [okFile, Bool.and_eq_true] at this
  exact (made_good this.2).srt
/-! ### The sum of what is paid -/
theorem sum_set : ∀ (l : List Int) (k : Nat) (w : Int), k < l.length → (l.set k w).sum = l.sum + (w - l.getD k 0)
  | [], k, w, h => absurd h (Nat.not_lt_zero k)
  | x :: l, 0, w, _ => by simp; omega
  | x :: l, k + 1, w, h => by
    have := sum_set l k w (by simpa using h)
    simp at this ⊢
    omega
theorem pay_sum {c : Cover} {n m : Nat} {s : PS} (h : PB c n m s) (hs : s.paid.sum = s.all) (x : Stp) {k : Nat} (hx : x.file = (k : Int)) (hk : k < n) : (payOne c s x).paid.sum = (payOne c s x).all := by
  unfold payOne
  split
  · simp only
    split
    · exact hs
    · simp only
      rw [hx, Int.toNat_natCast, sum_set _ _ _ (by rw [h.l2]; exact hk), hs]
  · exact hs
theorem payL_sum {c : Cover} {l : List File} (h : adjRight c l = true) : ∀ i, i ≤ (ordL l).length → (payL c l.length ((ordL l).take i)).paid.sum = (payL c l.length ((ordL l).take i)).all := by
  have hr : c.rightB = true := by rw [adjRight, Bool.and_eq_true] at h; exact h.1
  have hPB := payL_PB hr l.length (L := ordL l) fun x hx => by obtain ⟨_, _, _, _, h⟩ := step_right h hx; exact h
  intro i
  induction i with
  | zero =>
    intro _
    show (List.replicate l.length (0 : Int)).sum = 0
    simp
  | succ i ih =>
    intro hi
    have e0 : (ordL l)[i]? = some (ordL l)[i] := List.getElem?_eq_getElem hi
    rw [payL_take e0]
    obtain ⟨k, h1, h2, _⟩ := step_right h (List.getElem_mem hi)
    exact pay_sum (hPB i (by omega)) (ih (by omega)) _ h2 h1
end Go.Proofs.YtjplhfmakghabaaGreat.V
set_option linter.unusedSimpArgs false
set_option linter.unusedVariables false
namespace Go.Proofs.YtjplhfmakghabaaGreat.V
open Go.RowKit
set_option maxRecDepth 100000
attribute [local go_sem] Option.toList_some Option.toList_none

theorem pos_len (p : Pos) : p.flat.length = 6 := rfl
theorem pos_data (p : Pos) : p.flat.all AV.isData = true := by simp [Pos.flat]
@[go_sem] theorem rowO_ren (r : Nat → Nat) (l : List Pos) : (rowC Pos.flat l).map (AV.ren r) = rowC Pos.flat l := rows_ren (fun x r => by simp [Pos.flat]) r l
@[go_sem] theorem rowO_nms (p : Nat → Bool) (l : List Pos) : (rowC Pos.flat l).all (AV.names p) = true := rows_nms (fun x p => by simp [Pos.flat]) p l
theorem rowO_len (l : List Pos) : (rowC Pos.flat l).length = l.length * 6 := rowC_len pos_len l
theorem rowO_snoc (l : List Pos) (p : Pos) : rowC Pos.flat (l ++ [p]) = rowC Pos.flat l ++ [int p.gross, int p.shown, int p.paid, int p.back, int p.reserve, bool p.opn] := by simp [rowC, Pos.flat]
theorem rowO_cons (x : Pos) (l : List Pos) : rowC Pos.flat (x :: l) = [int x.gross, int x.shown, int x.paid, int x.back, int x.reserve, bool x.opn] ++ rowC Pos.flat l := by simp [rowC, Pos.flat]
theorem rowO_nz {l : List Pos} (h : 0 < l.length) : (rowC Pos.flat l = []) ↔ False := by
  rw [iff_false, ← List.length_eq_zero_iff, rowO_len]
  omega
/-- The cells of an element. -/
theorem rowO_split {l : List Pos} {i : Nat} {x : Pos} (h : l[i]? = some x) : rowC Pos.flat l = rowC Pos.flat (l.take i) ++ ([int x.gross, int x.shown, int x.paid, int x.back, int x.reserve, bool x.opn] ++ rowC Pos.flat (l.drop (i + 1))) := by
  obtain ⟨hi, hx⟩ := List.getElem?_eq_some_iff.1 h
  have : l = l.take i ++ (x :: l.drop (i + 1)) := by rw [← hx, ← List.drop_eq_getElem_cons hi, List.take_append_drop]
  conv => lhs; rw [this]
  rw [show rowC Pos.flat (l.take i ++ x :: l.drop (i + 1)) = rowC Pos.flat (l.take i) ++ rowC Pos.flat (x :: l.drop (i + 1)) by simp [rowC], rowO_cons]
theorem rowO_some {l : List Pos} {i : Nat} {x : Pos} (h : l[i]? = some x) : ((rowC Pos.flat l).drop (i * 6)).take 6 = x.flat := by
  have hi := (List.getElem?_eq_some_iff.1 h).1
  have hl : (rowC Pos.flat (l.take i)).length = i * 6 := by rw [rowO_len, List.length_take, Nat.min_eq_left (by omega)]
  rw [rowO_split h, List.drop_append_of_le_length (by omega), List.drop_of_length_le (by omega), List.nil_append]
  rfl
/-- The j-th cell of an element. -/
theorem rowO_cell {l : List Pos} {i j : Nat} {x : Pos} (h : l[i]? = some x) (hj : j < 6) : (rowC Pos.flat l)[i * 6 + j]? = x.flat[j]? := by
  have hi := (List.getElem?_eq_some_iff.1 h).1
  have hl : (rowC Pos.flat (l.take i)).length = i * 6 := by rw [rowO_len, List.length_take, Nat.min_eq_left (by omega)]
  rw [rowO_split h, List.getElem?_append_right (by rw [hl]; omega), hl, Nat.add_sub_cancel_left, List.getElem?_append_left (by simpa using hj)]
  rfl
/-- A cell of an element is overwritten. -/
theorem rowO_put {l : List Pos} {i j : Nat} {x y : Pos} (h : l[i]? = some x) (hj : j < 6) (v : AV) (hv : x.flat.set j v = y.flat) :
    List.take (i * 6 + j) (rowC Pos.flat l) ++ [v] ++ List.drop (i * 6 + j + 1) (rowC Pos.flat l) = rowC Pos.flat (l.set i y) := by
  have hi := (List.getElem?_eq_some_iff.1 h).1
  have hl : (rowC Pos.flat (l.take i)).length = i * 6 := by rw [rowO_len, List.length_take, Nat.min_eq_left (by omega)]
  have hset : l.set i y = l.take i ++ y :: l.drop (i + 1) := List.set_eq_take_append_cons_drop .. |>.trans (if_pos hi)
  have hlen : i * 6 + j < (rowC Pos.flat l).length := by rw [rowO_len]; omega
  have h1 : List.take (i * 6 + j) (rowC Pos.flat l) ++ [v] ++ List.drop (i * 6 + j + 1) (rowC Pos.flat l) = (rowC Pos.flat l).set (i * 6 + j) v := by
    rw [List.set_eq_take_append_cons_drop, if_pos hlen]
    simp
  have h2 : rowC Pos.flat (l.set i y) = rowC Pos.flat (l.take i) ++ (y.flat ++ rowC Pos.flat (l.drop (i + 1))) := by rw [hset]; simp [rowC]
  rw [h1, h2, rowO_split h, List.set_append_right _ _ (by rw [hl]; omega), hl, Nat.add_sub_cancel_left, List.set_append_left _ _ (by simpa using hj), ← hv]
  rfl

/-! ### What is held back -/
def addP (P : List Pos) (r : Int × Int × Int) : List Pos := P.set r.1.toNat { P.getD r.1.toNat ⟨0, 0, 0, 0, 0, false⟩ with paid := (P.getD r.1.toNat ⟨0, 0, 0, 0, 0, false⟩).paid + r.2.2 }
def heldOne (c : Cover) (u : Int) (p : Pos) : Int := if p.opn then max 0 (pays c p.gross (u - p.paid) - p.paid) else 0
/-- The reserves, from the first position on; what is used. -/
def heldL (c : Cover) : Int → List Pos → List Pos
  | _, [] => []
  | u, p :: r => { p with reserve := if p.opn then heldOne c u p else p.reserve } :: heldL c (u + heldOne c u p) r
def posL (l : List File) : List Pos := l.map fun f => standP f.acts
def ofL (c : Cover) (l : List File) : List Pos :=
  if checkE c l = 0 then heldL c ((paidR c l).map fun r => r.2.2).sum ((paidR c l).foldl addP (posL l)) else []

theorem out_ok {c : Cover} {l : List File} (h : adjRight c l = true) : ∀ i, i ≤ (ordL l).length → ∀ r, r ∈ (payL c l.length ((ordL l).take i)).out → ∃ k : Nat, k < l.length ∧ r.1 = (k : Int) ∧ 0 < r.2.2 ∧ r.2.2 ≤ 1000000000000000 := by
  have hr : c.rightB = true := by rw [adjRight, Bool.and_eq_true] at h; exact h.1
  have hPB := payL_PB hr l.length (L := ordL l) fun x hx => by obtain ⟨_, _, _, _, h⟩ := step_right h hx; exact h
  intro i
  induction i with
  | zero => intro _ r hm; exact absurd hm (by simp [payL, ps0])
  | succ i ih =>
    intro hi
    have e0 : (ordL l)[i]? = some (ordL l)[i] := List.getElem?_eq_getElem hi
    rw [payL_take e0]
    obtain ⟨k, h1, h2, _⟩ := step_right h (List.getElem_mem hi)
    have hP := hPB i (by omega)
    generalize (ordL l)[i] = x at *
    have g2 := hP.get2 x.file.toNat
    have ha := hP.al
    have hcv := cvRight_iff.1 hr
    have hb1 := pays_bd (c := c) hr ((payL c l.length ((ordL l).take i)).shown.getD x.file.toNat 0 + x.act.amt) (used := (payL c l.length ((ordL l).take i)).all - (payL c l.length ((ordL l).take i)).paid.getD x.file.toNat 0) (by omega)
    have hb2 := worth0_bd (c := c) hr ((payL c l.length ((ordL l).take i)).shown.getD x.file.toNat 0 + x.act.amt)
    intro r hm
    unfold payOne at hm
    simp only at hm
    split at hm
    · split at hm
      · exact ih (by omega) r hm
      · rcases List.mem_append.1 hm with hm | hm
        · exact ih (by omega) r hm
        · simp only [List.mem_singleton] at hm
          subst hm
          exact ⟨k, h1, h2, by simp only; omega, by simp only; omega⟩
    · exact ih (by omega) r hm
theorem rows_ok {c : Cover} {l : List File} (he : checkE c l = 0) : (paidR c l).length ≤ 2000 ∧ ∀ r, r ∈ paidR c l → ∃ k : Nat, k < l.length ∧ r.1 = (k : Int) ∧ 0 < r.2.2 ∧ r.2.2 ≤ 1000000000000000 := by
  have har : adjRight c l = true := by
    cases h : adjRight c l with
    | true => rfl
    | false => simp [checkE, h] at he
  have hn : l.length ≤ 2000 ∧ actsN l ≤ 2000 := by
    unfold checkE at he
    split at he; · cases he
    split at he; · cases he
    omega
  have hr : c.rightB = true := by rw [adjRight, Bool.and_eq_true] at har; exact har.1
  have hPB := payL_PB hr l.length (L := ordL l) (fun x hx => by obtain ⟨_, _, _, _, h⟩ := step_right har hx; exact h) (ordL l).length (Nat.le_refl _)
  have ho := out_ok har (ordL l).length (Nat.le_refl _)
  rw [List.take_length] at hPB ho
  rw [paidR, if_pos he]
  refine ⟨?_, ho⟩
  have := hPB.ou
  rw [ordL_len] at this
  omega

theorem heldL_len (c : Cover) : ∀ (P : List Pos) (u : Int), (heldL c u P).length = P.length
  | [], _ => rfl
  | p :: r, u => by rw [heldL, List.length_cons, heldL_len c r, List.length_cons]
def uAt (c : Cover) (u : Int) : List Pos → Nat → Int
  | _, 0 => u
  | [], _ + 1 => u
  | p :: r, i + 1 => uAt c (u + heldOne c u p) r i
theorem uAt_succ (c : Cover) : ∀ (P : List Pos) (u : Int) (i : Nat) (p : Pos), P[i]? = some p → uAt c u P (i + 1) = uAt c u P i + heldOne c (uAt c u P i) p
  | [], u, i, p, h => by simp at h
  | q :: r, u, 0, p, h => by simp at h; subst h; simp [uAt]
  | q :: r, u, i + 1, p, h => by
    rw [uAt, uAt_succ c r _ i p (by simpa using h)]
    rfl
def heldP (c : Cover) (u : Int) (p : Pos) : Pos := { p with reserve := if p.opn then heldOne c u p else p.reserve }
theorem heldL_at (c : Cover) : ∀ (P : List Pos) (u : Int) (i : Nat) (p : Pos), P[i]? = some p → (heldL c u P)[i]? = some (heldP c (uAt c u P i) p)
  | [], u, i, p, h => by simp at h
  | q :: r, u, 0, p, h => by simp at h; subst h; simp [heldL, uAt, heldP]
  | q :: r, u, i + 1, p, h => by
    rw [heldL, List.getElem?_cons_succ, heldL_at c r _ i p (by simpa using h)]
    rfl
/-- The positions behind i of them. -/
def heldI (c : Cover) (u : Int) (P : List Pos) (i : Nat) : List Pos := (heldL c u P).take i ++ P.drop i
theorem heldI_len (c : Cover) (u : Int) (P : List Pos) (i : Nat) : (heldI c u P i).length = P.length := by
  simp [heldI, heldL_len]; omega
theorem heldI_at {c : Cover} {u : Int} {P : List Pos} {i : Nat} {p : Pos} (h : P[i]? = some p) : (heldI c u P i)[i]? = some p := by
  have hi := (List.getElem?_eq_some_iff.1 h).1
  rw [heldI, List.getElem?_append_right (by simp [heldL_len]; omega)]
  simp [heldL_len, Nat.min_eq_left (Nat.le_of_lt hi), h]
theorem heldI_succ {c : Cover} {u : Int} {P : List Pos} {i : Nat} {p : Pos} (h : P[i]? = some p) : heldI c u P (i + 1) = (heldI c u P i).set i (heldP c (uAt c u P i) p) := by
  have hi := (List.getElem?_eq_some_iff.1 h).1
  have hk := heldL_at c P u i p h
  rw [heldI, heldI, List.take_add_one, hk, List.set_append_right _ _ (by simp [heldL_len]; omega)]
  simp [heldL_len, Nat.min_eq_left (Nat.le_of_lt hi)]
  rw [List.drop_eq_getElem_cons hi]
  rfl
theorem heldOne_bd {c : Cover} (hr : c.rightB = true) (u : Int) (p : Pos) (h0 : 0 ≤ p.paid) : 0 ≤ heldOne c u p ∧ heldOne c u p ≤ 1000000000000000 := by
  have hcv := cvRight_iff.1 hr
  have hw := worth0_bd (c := c) hr p.gross
  unfold heldOne
  split
  · unfold pays
    split <;> omega
  · omega

/-- The positions behind j rows. -/
structure AB (n j : Nat) (P : List Pos) : Prop where
  len : P.length = n
  pd : ∀ p, p ∈ P → 0 ≤ p.paid ∧ p.paid ≤ j * 1000000000000000
  gr : ∀ p, p ∈ P → 0 ≤ p.gross ∧ p.gross ≤ 1000000000000000
theorem addP_at {n j : Nat} {P : List Pos} (h : AB n j P) {k : Nat} (hk : k < n) : ∃ p, P[k]? = some p ∧ P.getD k ⟨0, 0, 0, 0, 0, false⟩ = p ∧ p ∈ P := by
  have hl := h.len
  refine ⟨P[k], List.getElem?_eq_getElem (by omega), ?_, List.getElem_mem _⟩
  rw [List.getD_eq_getElem?_getD, List.getElem?_eq_getElem (by omega)]
  rfl
theorem AB.step {n j : Nat} {P : List Pos} (h : AB n j P) {r : Int × Int × Int} {k : Nat} (hk : k < n) (h1 : r.1 = (k : Int)) (h2 : 0 < r.2.2 ∧ r.2.2 ≤ 1000000000000000) : AB n (j + 1) (addP P r) := by
  obtain ⟨p, p1, p2, p3⟩ := addP_at h hk
  have g1 := h.pd p p3
  have g2 := h.gr p p3
  unfold addP
  rw [h1, Int.toNat_natCast, p2]
  refine ⟨by rw [List.length_set]; exact h.len, fun q hq => ?_, fun q hq => ?_⟩
  · rcases List.mem_or_eq_of_mem_set hq with hq | rfl
    · have := h.pd q hq; omega
    · simp only; omega
  · rcases List.mem_or_eq_of_mem_set hq with hq | rfl
    · exact h.gr q hq
    · exact g2
theorem AB.zero {c : Cover} {l : List File} (h : adjRight c l = true) : AB l.length 0 (posL l) := by
  refine ⟨by simp [posL], fun p hp => ?_, fun p hp => ?_⟩ <;>
  · obtain ⟨f, hf, rfl⟩ := List.mem_map.1 hp
    rw [adjRight, Bool.and_eq_true, List.all_eq_true] at h
    have := h.2 f hf
    rw [okFile, Bool.and_eq_true] at this
    have hg := made_good this.2
    have h1 := hg.gross
    have h2 := hg.shown
    simp only [standP]
    omega
theorem AB.all {c : Cover} {l : List File} (he : checkE c l = 0) : ∀ j, j ≤ (paidR c l).length → AB l.length j (((paidR c l).take j).foldl addP (posL l)) := by
  have har : adjRight c l = true := by
    cases h : adjRight c l with
    | true => rfl
    | false => simp [checkE, h] at he
  have ho := (rows_ok he).2
  intro j
  induction j with
  | zero => intro _; exact AB.zero har
  | succ j ih =>
    intro hj
    have e0 : (paidR c l)[j]? = some (paidR c l)[j] := List.getElem?_eq_getElem hj
    obtain ⟨k, h1, h2, h3⟩ := ho _ (List.getElem_mem hj)
    rw [List.take_add_one, e0, List.foldl_append]
    exact (ih (by omega)).step h1 h2 h3
def amtS (R : List (Int × Int × Int)) : Int := (R.map fun r => r.2.2).sum
theorem amtS_take {R : List (Int × Int × Int)} {j : Nat} {r : Int × Int × Int} (h : R[j]? = some r) : amtS (R.take (j + 1)) = amtS (R.take j) + r.2.2 := by
  rw [List.take_add_one, h]
  simp [amtS]
theorem amtS_bd {R : List (Int × Int × Int)} (h : ∀ r, r ∈ R → 0 < r.2.2 ∧ r.2.2 ≤ 1000000000000000) : ∀ j, j ≤ R.length → 0 ≤ amtS (R.take j) ∧ amtS (R.take j) ≤ j * 1000000000000000 := by
  intro j
  induction j with
  | zero => intro _; simp [amtS]
  | succ j ih =>
    intro hj
    have e0 : R[j]? = some R[j] := List.getElem?_eq_getElem hj
    have := ih (by omega)
    have h1 := h _ (List.getElem_mem hj)
    rw [amtS_take e0]
    omega
theorem uAt_bd {c : Cover} (hr : c.rightB = true) {P : List Pos} (h : ∀ p, p ∈ P → 0 ≤ p.paid) {u : Int} (h0 : 0 ≤ u) : ∀ i, i ≤ P.length → 0 ≤ uAt c u P i ∧ uAt c u P i ≤ u + i * 1000000000000000 := by
  intro i
  induction i with
  | zero =>
    intro _
    have : uAt c u P 0 = u := by cases P <;> rfl
    rw [this]; omega
  | succ i ih =>
    intro hi
    have e0 : P[i]? = some P[i] := List.getElem?_eq_getElem hi
    rw [uAt_succ c P u i _ e0]
    have := ih (by omega)
    have hb := heldOne_bd hr (uAt c u P i) P[i] (h _ (List.getElem_mem hi))
    omega
end Go.Proofs.YtjplhfmakghabaaGreat.V
namespace Go.Proofs.YtjplhfmakghabaaGreat.V
open Go.RowKit
set_option maxRecDepth 100000
attribute [local go_sem] Option.toList_some Option.toList_none

theorem le6 (j n : Nat) : (j * 6 + 6 ≤ n * 6) = (j < n) := propext ⟨fun h => by omega, fun h => by omega⟩
theorem uAt_zero (c : Cover) (u : Int) (P : List Pos) : uAt c u P 0 = u := by cases P <;> rfl
theorem heldI_zero (c : Cover) (u : Int) (P : List Pos) : heldI c u P 0 = P := by simp [heldI]
theorem heldI_all (c : Cover) (u : Int) (P : List Pos) : heldI c u P P.length = heldL c u P := by
  rw [heldI, List.drop_length, List.append_nil, List.take_of_length_le (by rw [heldL_len]; omega)]
attribute [local go_sem] Int.reduceToNat Int.toNat_zero in
set_option maxHeartbeats 8000000 in
theorem aof_f (c : Cover) (l : List File) (hc : c.ok) (hl : l.length ≤ 100000) : Fun Tryz.prog 18 [.agg c.flat, filesA l] (.tup [possA (ofL c l), int (checkE c l)]) := by
  have hpd := paid_f c l hc hl
  by_cases he : checkE c l = 0
  · have hof : ofL c l = heldL c (amtS (paidR c l)) ((paidR c l).foldl addP (posL l)) := by rw [ofL, if_pos he]; rfl
    have har : adjRight c l = true := by
      cases h : adjRight c l with
      | true => rfl
      | false => simp [checkE, h] at he
    have har0 : c.rightB = true := by rw [adjRight, Bool.and_eq_true] at har; exact har.1
    have hn : l.length ≤ 2000 := by
      unfold checkE at he
      split at he; · cases he
      split at he; · cases he
      omega
    obtain ⟨hR1, hR2⟩ := rows_ok he
    have hAB := AB.all he
    have hAm := amtS_bd (R := paidR c l) fun r hr => by obtain ⟨_, _, _, h⟩ := hR2 r hr; exact h
    have hrl := right_len har
    rw [he] at hpd
    rcases Nat.eq_zero_or_pos l.length with h0 | h0
    · obtain rfl := List.length_eq_zero_iff.1 h0
      have hpr : paidR c [] = [] := by rw [paidR, if_pos he]; rfl
      have hof2 : ofL c [] = [] := by rw [hof, hpr]; rfl
      rw [hpr] at hpd
      rw [hof2, he]
      refine fun_W mixed Tryz.func18 rfl (Nat.le_of_ble_eq_true rfl) (by kernel_rfl) fun cx hN hR hF hL => ?_; apply args_k; (case hA => (simp only [go_sem, ↓reduceIte]; rfl))
      (repeat' first|((try (revert K;refine bK ?_));refine' run trivial ?_;(repeat' first|exact True.intro|refine Lv.mk ?_ ?_|(refine oK ?_;intro K hK)|intro hq);all_goals refine Lf.mk ?_)|refine callZ cl26 (hpd) ?_|refine rounds_s ?_)
      refine loop_rounds mixed 1 (by rw [hN]; kernel_rfl) ?_
      (repeat' first|((try (revert K;refine bK ?_));refine' run trivial ?_;(repeat' first|exact True.intro|refine Lv.mk ?_ ?_|(refine oK ?_;intro K hK)|intro hq);all_goals refine Lf.mk ?_)|refine rounds_s ?_)
      refine loop_rounds mixed 1 (by rw [hN]; kernel_rfl) ?_
      (repeat' first|((try (revert K;refine bK ?_));refine' run trivial ?_;(repeat' first|exact True.intro|refine Lv.mk ?_ ?_|(refine oK ?_;intro K hK)|intro hq);all_goals refine Lf.mk ?_)|refine rounds_s ?_)
      refine loop_rounds mixed 1 (by rw [hN]; kernel_rfl) ?_
      (repeat' first|((try (revert K;refine bK ?_));refine' run trivial ?_;(repeat' first|exact True.intro|refine Lv.mk ?_ ?_|(refine oK ?_;intro K hK)|intro hq);all_goals refine Lf.mk ?_)|refine rounds_s ?_)
    · generalize paidR c l = R at *
      refine fun_W mixed Tryz.func18 rfl (Nat.le_of_ble_eq_true rfl) (by kernel_rfl) fun cx hN hR hF hL => ?_; apply args_k; (case hA => (simp only [go_sem, ↓reduceIte]; rfl))
      (repeat' first|((try (revert K;refine bK ?_));refine' run trivial ?_;(repeat' first|exact True.intro|refine Lv.mk ?_ ?_|(refine oK ?_;intro K hK)|intro hq);all_goals refine Lf.mk ?_)|refine callZ cl26 (hpd) ?_|refine rounds_s ?_)
      refine loop_nil 8 6000 6 43 rfl (Nat.le_of_ble_eq_true rfl) ?_
      refine loopW mixed (σ := {i : Nat // i ≤ l.length}) (fun s => ⟨[(28, int s.1), (8, .osl 6000 6 0 s.1), (26, filesA l), (27, int l.length), (6, rowsA R), (2, .ptr 0 0)], [(6000, some ⟨43, rowC Pos.flat (posL (l.take s.1))⟩), (0, some ⟨23, c.flat⟩)], 6001⟩) (fun s => l.length - s.1) id ⟨0, by omega⟩ (by rw [hN]; kernel_rfl) ?_ ?_
      · simp only [go_sem, ↓reduceIte, hF]
        exact ⟨rfl, rfl⟩
      · rintro ⟨i, h1⟩
        by_cases hi : i < l.length
        · have e0 : l[i]? = some l[i] := List.getElem?_eq_getElem hi
          have e1 : (l.map File.flat)[i]? = some l[i].flat := by rw [List.getElem?_map, e0]; rfl
          have e2 : IntKind.i64.wrap ((i : Int) + 1) = ((i + 1 : Nat) : Int) := by rw [wrap_id] <;> omega
          have hk1 : i < (l.map File.flat).length := by simpa using hi
          have hsn : posL (l.take (i + 1)) = posL (l.take i) ++ [standP l[i].acts] := by rw [List.take_succ_eq_append_getElem hi, posL, List.map_append]; rfl
          have hst := standF_f l[i] (Nat.le_trans (hrl _ (List.getElem_mem hi)) (by omega))
          have hln := rowO_len (posL (l.take i))
          have hln2 : (posL (l.take i)).length = i := by simp [posL]; omega
          rw [hln2] at hln
          generalize l[i] = f at *
          (repeat' first|((try (revert K;refine bK ?_));refine' run (I e1 (I e2 hk1)) ?_;(repeat' first|exact True.intro|refine Lv.mk ?_ ?_|(refine oK ?_;intro K hK)|intro hq);all_goals refine Lf.mk ?_)|refine callZ cl27 (hst) ?_|refine rounds_s ?_)
          · refine ⟨⟨i + 1, hi⟩, nm1 6000 8033, ?_, by show l.length - (i + 1) < l.length - i; omega⟩
            simp only [hsn, rowO_snoc]
            simp only [go_sem, ↓reduceIte, hF, List.map_append, List.all_append]
          · exact ⟨hln, by simp [maxLen]; omega⟩
        · obtain rfl : i = l.length := by omega
          simp only [List.take_length]
          (repeat' first|((try (revert K;refine bK ?_));refine' run trivial ?_;(repeat' first|exact True.intro|refine Lv.mk ?_ ?_|(refine oK ?_;intro K hK)|intro hq);all_goals refine Lf.mk ?_)|refine rounds_s ?_)
          refine loopW mixed (σ := {j : Nat // j ≤ R.length}) (fun s => ⟨[(40, int s.1), (11, int (amtS (R.take s.1))), (39, int R.length), (38, rowsA R), (8, .osl 6000 6 0 l.length), (2, .ptr 0 0)], [(6000, some ⟨43, rowC Pos.flat ((R.take s.1).foldl addP (posL l))⟩), (0, some ⟨23, c.flat⟩)], 8001⟩) (fun s => R.length - s.1) id ⟨0, by omega⟩ (by rw [hN]; kernel_rfl) ?_ ?_
          · simp only [go_sem, ↓reduceIte, hF]
            exact ⟨⟨rfl, rfl⟩, rfl⟩
          · rintro ⟨j, g1⟩
            by_cases gj : j < R.length
            · have e0 : R[j]? = some R[j] := List.getElem?_eq_getElem gj
              have e1 : (R.map r3row)[j]? = some (r3row R[j]) := by rw [List.getElem?_map, e0]; rfl
              have e2 : IntKind.i64.wrap ((j : Int) + 1) = ((j + 1 : Nat) : Int) := by rw [wrap_id] <;> omega
              have hk1 : j < (R.map r3row).length := by simpa using gj
              obtain ⟨k, k1, k2, k3⟩ := hR2 _ (List.getElem_mem gj)
              have hA := hAB j g1
              have hsn : (R.take (j + 1)).foldl addP (posL l) = addP ((R.take j).foldl addP (posL l)) R[j] := by rw [List.take_succ_eq_append_getElem gj, List.foldl_append]; rfl
              have hsm := amtS_take e0
              have hb1 := hAm j g1
              generalize (R.take j).foldl addP (posL l) = P at *
              generalize R[j] = r at *
              obtain ⟨rk, rb, ra⟩ := r
              simp only at k2 k3 hsm
              subst k2
              obtain ⟨p, p1, p2, p3⟩ := addP_at hA k1
              have q1 := hA.pd p p3
              have hl6 := hA.len
              have c1 : (rowC Pos.flat P)[k * 6 + 2]? = some (int p.paid) := rowO_cell p1 (by omega)
              have c2 : List.take (k * 6 + 2) (rowC Pos.flat P) ++ [int (p.paid + ra)] ++ List.drop (k * 6 + 2 + 1) (rowC Pos.flat P) = rowC Pos.flat (P.set k { p with paid := p.paid + ra }) := rowO_put p1 (by omega) _ rfl
              have w1 : IntKind.i64.wrap (p.paid + ra) = p.paid + ra := by rw [wrap_id] <;> omega
              have w2 : IntKind.i64.wrap (amtS (R.take j) + ra) = amtS (R.take j) + ra := by rw [wrap_id] <;> omega
              have hln := rowO_len P
              have z1 := rowO_nz (l := P) (by omega)
              have hs2 : addP P ((k : Int), rb, ra) = P.set k { p with paid := p.paid + ra } := by
                unfold addP
                simp only [Int.toNat_natCast]
                rw [p2]
              rw [hs2] at hsn
              rw [hl6] at hln
              (repeat' first|((try (revert K;refine bK ?_));refine' run (I e1 (I e2 (I hk1 (I c1 (I c2 (I w1 (I w2 (I hln (I z1 k1))))))))) ?_;(repeat' first|exact True.intro|refine Lv.mk ?_ ?_|(refine oK ?_;intro K hK)|intro hq);all_goals refine Lf.mk ?_)|refine rounds_s ?_)
              refine ⟨⟨j + 1, gj⟩, id, ?_, by show R.length - (j + 1) < R.length - j; omega⟩
              simp only [hsn, hsm]
              simp only [go_sem, ↓reduceIte, hF]
            · obtain rfl : j = R.length := by omega
              simp only [List.take_length]
              have hA := hAB R.length (Nat.le_refl _)
              have hu0 := hAm R.length (Nat.le_refl _)
              rw [List.take_length] at hA hu0
              have hub := uAt_bd (c := c) har0 (fun p hp => (hA.pd p hp).1) hu0.1
              generalize R.foldl addP (posL l) = P at *
              have hPl := hA.len
              (repeat' first|((try (revert K;refine bK ?_));refine' run trivial ?_;(repeat' first|exact True.intro|refine Lv.mk ?_ ?_|(refine oK ?_;intro K hK)|intro hq);all_goals refine Lf.mk ?_)|refine rounds_s ?_)
              refine loopW mixed (σ := {i : Nat // i ≤ l.length}) (fun s => ⟨[(62, int s.1), (11, int (uAt c (amtS R) P s.1)), (61, int l.length), (60, .osl 6000 6 0 l.length), (8, .osl 6000 6 0 l.length), (2, .ptr 0 0)], [(6000, some ⟨43, rowC Pos.flat (heldI c (amtS R) P s.1)⟩), (0, some ⟨23, c.flat⟩)], 9001⟩) (fun s => l.length - s.1) id ⟨0, by omega⟩ (by rw [hN]; kernel_rfl) ?_ ?_
              · simp only [go_sem, ↓reduceIte, hF]
                exact ⟨⟨rfl, (uAt_zero _ _ _).symm⟩, by rw [heldI_zero]⟩
              · rintro ⟨i, i1⟩
                by_cases hi : i < l.length
                · have e0 : P[i]? = some P[i] := List.getElem?_eq_getElem (by omega)
                  have hpm : P[i] ∈ P := List.getElem_mem _
                  have b1 := heldI_at (c := c) (u := amtS R) e0
                  have b2 := heldI_succ (c := c) (u := amtS R) e0
                  have b3 := uAt_succ c P (amtS R) i _ e0
                  have b4 := hub i (by omega)
                  have b5 := heldI_len c (amtS R) P i
                  have e2 : IntKind.i64.wrap ((i : Int) + 1) = ((i + 1 : Nat) : Int) := by rw [wrap_id] <;> omega
                  generalize P[i] = p at *
                  have q1 := hA.pd p hpm
                  have q2 := hA.gr p hpm
                  have b6 := heldOne_bd har0 (uAt c (amtS R) P i) p q1.1
                  have e3 := rowO_some b1
                  have hln := rowO_len (heldI c (amtS R) P i)
                  have z1 := rowO_nz (l := heldI c (amtS R) P i) (by omega)
                  rw [b5, hPl] at hln
                  generalize uAt c (amtS R) P i = u at *
                  cases ho : p.opn with
                  | false =>
                    have b7 : heldOne c u p = 0 := by unfold heldOne; rw [ho]; rfl
                    have b8 : heldP c u p = p := by cases p; simp only at ho; subst ho; rfl
                    rw [b7, Int.add_zero] at b3
                    rw [b8] at b2
                    have b9 : heldI c (amtS R) P (i + 1) = heldI c (amtS R) P i := by
                      rw [b2]
                      apply List.ext_getElem?
                      intro j
                      rw [List.getElem?_set]
                      split
                      · rename_i h; subst h; rw [b1]; simp; omega
                      · rfl
                    (repeat' first|((try (revert K;refine bK ?_));refine' run (I e2 (I e3 (I hln (I z1 (I hi (I ho le6)))))) ?_;(repeat' first|exact True.intro|refine Lv.mk ?_ ?_|(refine oK ?_;intro K hK)|intro hq);all_goals refine Lf.mk ?_)|refine rounds_s ?_)
                    refine ⟨⟨i + 1, hi⟩, id, ?_, by show l.length - (i + 1) < l.length - i; omega⟩
                    simp only [b9, b3]
                    simp only [go_sem, ↓reduceIte, hF]
                  | true =>
                    have hcv := cvRight_iff.1 har0
                    have w1 : IntKind.i64.wrap (u - p.paid) = u - p.paid := by rw [wrap_id] <;> omega
                    have hpy := pays_f c p.gross (u - p.paid) hc (by unfold Int64; omega) (by unfold Int64; omega)
                    have b7 : heldOne c u p = max 0 (pays c p.gross (u - p.paid) - p.paid) := by unfold heldOne; rw [ho]; rfl
                    have hw := worth0_bd (c := c) har0 p.gross
                    have hpb : 0 ≤ pays c p.gross (u - p.paid) ∧ pays c p.gross (u - p.paid) ≤ 1000000000000000 := by
                      unfold pays
                      split <;> omega
                    have b8 : heldP c u p = { p with reserve := heldOne c u p } := by unfold heldP; rw [ho]; rfl
                    rw [b8, b7] at b2
                    rw [b7] at b3
                    generalize pays c p.gross (u - p.paid) = pw at *
                    have w2 : IntKind.i64.wrap (pw - p.paid) = pw - p.paid := by rw [wrap_id] <;> omega
                    have w3 : IntKind.i64.wrap (u + max 0 (pw - p.paid)) = u + max 0 (pw - p.paid) := by rw [wrap_id] <;> omega
                    have c2 : List.take (i * 6 + 4) (rowC Pos.flat (heldI c (amtS R) P i)) ++ [int (max 0 (pw - p.paid))] ++ List.drop (i * 6 + 4 + 1) (rowC Pos.flat (heldI c (amtS R) P i)) = rowC Pos.flat ((heldI c (amtS R) P i).set i { p with reserve := max 0 (pw - p.paid) }) := rowO_put b1 (by omega) _ rfl
                    (repeat' first|((try (revert K;refine bK ?_));refine' run (I e2 (I e3 (I hln (I z1 (I hi (I ho (I le6 (I w1 (I w2 (I w3 c2)))))))))) ?_;(repeat' first|exact True.intro|refine Lv.mk ?_ ?_|(refine oK ?_;intro K hK)|intro hq);all_goals refine Lf.mk ?_)|refine callZ cl28 (hpy) ?_|refine rounds_s ?_)
                    refine ⟨⟨i + 1, hi⟩, id, ?_, by show l.length - (i + 1) < l.length - i; omega⟩
                    simp only [b2, b3, ho]
                    simp only [go_sem, ↓reduceIte, hF]
                · obtain rfl : i = l.length := by omega
                  (repeat' first|((try (revert K;refine bK ?_));refine' run trivial ?_;(repeat' first|exact True.intro|refine Lv.mk ?_ ?_|(refine oK ?_;intro K hK)|intro hq);all_goals refine Lf.mk ?_)|refine rounds_s ?_)
                  rw [hof, he]
                  have hha := heldI_all c (amtS R) P
                  rw [hPl] at hha
                  rw [hha]
                  have hhl : l.length = (heldL c (amtS R) P).length := by rw [heldL_len, hPl]
                  exact ⟨⟨⟨hhl, rows_len pos_len _⟩, fzo_rows pos_len pos_data _ hhl⟩, rfl⟩
  · have hof : ofL c l = [] := by rw [ofL, if_neg he]
    have hp : paidR c l = [] := by rw [paidR, if_neg he]
    rw [hp] at hpd
    rw [hof]
    refine fun_W mixed Tryz.func18 rfl (Nat.le_of_ble_eq_true rfl) (by kernel_rfl) fun cx hN hR hF hL => ?_; apply args_k; (case hA => (simp only [go_sem, ↓reduceIte]; rfl))
    (repeat' first|((try (revert K;refine bK ?_));refine' run (I (eq_false he) (decide_eq_false he)) ?_;(repeat' first|exact True.intro|refine Lv.mk ?_ ?_|(refine oK ?_;intro K hK)|intro hq);all_goals refine Lf.mk ?_)|refine callZ cl26 (hpd) ?_|refine rounds_s ?_)
end Go.Proofs.YtjplhfmakghabaaGreat.V
set_option linter.unusedSimpArgs false
set_option linter.unusedVariables false
namespace Go.Proofs.YtjplhfmakghabaaGreat.V
set_option maxRecDepth 100000

/-- What rows pay to a file; to the files ahead of it. -/
def paidK (R : List (Int × Int × Int)) (k : Nat) : Int := (R.map fun r => if r.1 = (k : Int) then r.2.2 else 0).sum
def paidB (R : List (Int × Int × Int)) (k : Nat) : Int := (R.map fun r => if r.1 < (k : Int) then r.2.2 else 0).sum
theorem paidK_snoc (R : List (Int × Int × Int)) (r : Int × Int × Int) (k : Nat) : paidK (R ++ [r]) k = paidK R k + if r.1 = (k : Int) then r.2.2 else 0 := by simp [paidK]
theorem paidB_zero {R : List (Int × Int × Int)} (h : ∀ r, r ∈ R → 0 ≤ r.1) : paidB R 0 = 0 := by
  induction R with
  | nil => rfl
  | cons r R ih =>
    have h0 := h r (by simp)
    have := ih fun x hx => h x (by simp [hx])
    unfold paidB at *
    rw [List.map_cons, List.sum_cons, this, if_neg (by omega)]
    rfl
theorem paidB_succ (R : List (Int × Int × Int)) (k : Nat) : paidB R (k + 1) = paidB R k + paidK R k := by
  induction R with
  | nil => rfl
  | cons r R ih =>
    unfold paidB paidK at *
    rw [List.map_cons, List.sum_cons, List.map_cons, List.sum_cons, List.map_cons, List.sum_cons, ih]
    split <;> split <;> split <;> omega
theorem paidB_all {R : List (Int × Int × Int)} {n : Nat} (h : ∀ r, r ∈ R → r.1 < (n : Int)) : paidB R n = amtS R := by
  induction R with
  | nil => rfl
  | cons r R ih =>
    have h0 := h r (by simp)
    have := ih fun x hx => h x (by simp [hx])
    unfold paidB amtS at *
    rw [List.map_cons, List.sum_cons, this, if_pos h0, List.map_cons, List.sum_cons]
/-- All bounds at once. -/
theorem paid_bds : ∀ {R : List (Int × Int × Int)}, (∀ r, r ∈ R → 0 ≤ r.2.2) → ∀ k j, 0 ≤ paidB R k ∧ 0 ≤ paidK (R.take j) k ∧ paidK (R.take j) k ≤ paidK R k ∧ paidB R k + paidK R k ≤ amtS R
  | [], _, k, j => by simp [paidB, paidK, amtS]
  | r :: R, h, k, j => by
    have h0 := h r (by simp)
    have ih := fun j => paid_bds (R := R) (fun x hx => h x (by simp [hx])) k j
    unfold paidB paidK amtS at *
    simp only [List.map_cons, List.sum_cons]
    cases j with
    | zero =>
      have := ih 0
      have := ih R.length
      rw [List.take_length] at this
      simp only [List.take_zero, List.map_nil, List.sum_nil]
      split <;> split <;> omega
    | succ j =>
      have := ih j
      rw [List.take_succ_cons, List.map_cons, List.sum_cons]
      split <;> split <;> omega
/-- The positions with what rows pay. -/
def posR (R : List (Int × Int × Int)) (l : List File) : List Pos := l.mapIdx fun k f => { standP f.acts with paid := paidK R k }
theorem posR_len (R : List (Int × Int × Int)) (l : List File) : (posR R l).length = l.length := by simp [posR]
theorem posR_snoc (R : List (Int × Int × Int)) {l : List File} {k : Nat} {f : File} (h : l[k]? = some f) : posR R (l.take (k + 1)) = posR R (l.take k) ++ [{ standP f.acts with paid := paidK R k }] := by
  have hk := (List.getElem?_eq_some_iff.1 h).1
  rw [List.take_add_one, h]
  simp [posR, List.mapIdx_append, Nat.min_eq_left (Nat.le_of_lt hk)]
theorem posR_get {R : List (Int × Int × Int)} {l : List File} {k : Nat} {f : File} (h : l[k]? = some f) : (posR R l)[k]? = some { standP f.acts with paid := paidK R k } := by
  simp [posR, h]
theorem posR_nil (l : List File) : posR [] l = posL l := by
  apply List.ext_getElem?
  intro k
  rcases h : l[k]? with _ | f
  · simp [posR, posL, h]
  · rw [posR_get h]
    simp [posL, h, paidK, standP]
theorem posR_add (R : List (Int × Int × Int)) (l : List File) (r : Int × Int × Int) {k : Nat} (hk : k < l.length) (hr : r.1 = (k : Int)) : posR (R ++ [r]) l = addP (posR R l) r := by
  unfold addP
  rw [hr, Int.toNat_natCast]
  apply List.ext_getElem?
  intro j
  rw [List.getElem?_set]
  have hf : l[k]? = some l[k] := List.getElem?_eq_getElem hk
  split
  · rename_i h
    subst h
    rw [posR_get hf, if_pos (by rw [posR_len]; exact hk), List.getD_eq_getElem?_getD, posR_get hf, paidK_snoc, if_pos hr]
    rfl
  · rename_i h
    rcases h2 : l[j]? with _ | f
    · simp [posR, h2]
    · rw [posR_get h2, posR_get h2, paidK_snoc, if_neg (by omega), Int.add_zero]
theorem posR_fold (l : List File) {R : List (Int × Int × Int)} (h : ∀ r, r ∈ R → ∃ k : Nat, k < l.length ∧ r.1 = (k : Int)) : R.foldl addP (posL l) = posR R l := by
  have key : ∀ j, j ≤ R.length → (R.take j).foldl addP (posL l) = posR (R.take j) l := by
    intro j
    induction j with
    | zero => intro _; exact (posR_nil l).symm
    | succ j ih =>
      intro hj
      have e0 : R[j]? = some R[j] := List.getElem?_eq_getElem hj
      obtain ⟨k, h1, h2⟩ := h _ (List.getElem_mem hj)
      rw [List.take_add_one, e0, List.foldl_append, ih (by omega)]
      exact (posR_add _ l _ h1 h2).symm
  have := key R.length (Nat.le_refl _)
  rwa [List.take_length] at this
theorem posR_res {R : List (Int × Int × Int)} {l : List File} {p : Pos} (h : p ∈ posR R l) : p.reserve = 0 := by
  obtain ⟨k, hk⟩ := List.mem_iff_getElem?.1 h
  rcases h2 : l[k]? with _ | f
  · simp [posR, h2] at hk
  · rw [posR_get h2] at hk
    injection hk with hk
    subst hk
    rfl
end Go.Proofs.YtjplhfmakghabaaGreat.V
namespace Go.Proofs.YtjplhfmakghabaaGreat.V
set_option maxRecDepth 100000

theorem pays_zero {c : Cover} (hr : c.rightB = true) {x : Int} (hx : 0 ≤ x) : pays c x 0 = worth0 c x := by
  have h := cvRight_iff.1 hr
  have hb := worth0_bd hr x
  rw [pays, if_pos ⟨hr, hx, Int.le_refl _⟩]
  omega
/-- What was shown of a file. -/
def shK (L : List Stp) (k : Nat) : Int := sumK 2 ((L.filter fun s => decide (s.file = (k : Int))).map Stp.act)
theorem shK_snoc (L : List Stp) (x : Stp) (k : Nat) : shK (L ++ [x]) k = shK L k + if x.file = (k : Int) then (if x.act.kind = 2 then x.act.amt else 0) else 0 := by
  unfold shK
  rw [List.filter_append]
  by_cases hk : x.file = (k : Int)
  · rw [List.filter_cons_of_pos (by simpa using hk), List.filter_nil, List.map_append, List.map_singleton, sumK_snoc, if_pos hk]
  · rw [List.filter_cons_of_neg (by simpa using hk), List.filter_nil, List.append_nil, if_neg hk, Int.add_zero]
/-- What holds file by file, behind these acts. -/
structure PI (c : Cover) (n : Nat) (L : List Stp) (s : PS) : Prop where
  sh : ∀ k, k < n → s.shown.getD k 0 = shK L k
  wo : ∀ k, k < n → s.paid.getD k 0 ≤ worth0 c (s.shown.getD k 0)
  ro : ∀ k, k < n → paidK s.out k = s.paid.getD k 0
  dy : (s.out.map fun r => r.2.1).Sublist (L.map fun x => x.act.booked)
theorem getD_set {l : List Int} {k : Nat} (hk : k < l.length) (v : Int) (j : Nat) : (l.set k v).getD j 0 = if k = j then v else l.getD j 0 := by
  rw [List.getD_eq_getElem?_getD, List.getElem?_set, List.getD_eq_getElem?_getD]
  by_cases h : k = j
  · subst h
    rw [if_pos rfl, if_pos hk, if_pos rfl]
    rfl
  · rw [if_neg h, if_neg h]
theorem PI.zero {c : Cover} (hr : c.rightB = true) (n : Nat) : PI c n [] (ps0 n) := by
  have h0 : ∀ k, (List.replicate n (0 : Int)).getD k 0 = 0 := fun k => getD_mem (P := fun x => x = 0) rfl (fun x hx => List.eq_of_mem_replicate hx) k
  refine ⟨fun k _ => ?_, fun k _ => ?_, fun k _ => ?_, .slnil⟩
  · simp only [ps0]; rw [h0]; rfl
  · simp only [ps0]; rw [h0]; exact (worth0_bd hr 0).1
  · simp only [ps0]; rw [h0]; rfl
theorem PI.step {c : Cover} {n m : Nat} {L : List Stp} {s : PS} (hr : c.rightB = true) (h : PI c n L s) (hB : PB c n m s) (x : Stp) {k : Nat} (hk : k < n) (hx : x.file = (k : Int)) (ha : 0 ≤ x.act.amt) : PI c n (L ++ [x]) (payOne c s x) := by
  have g2 := hB.get2 k
  have gb := hB.al
  have hcv := cvRight_iff.1 hr
  have l1 := hB.l1
  have l2 := hB.l2
  have hb := pays_bd (c := c) hr (s.shown.getD k 0 + x.act.amt) (used := s.all - s.paid.getD k 0) (by omega)
  have hm := worth0_mono hr (a := s.shown.getD k 0) (b := s.shown.getD k 0 + x.act.amt) (by omega)
  have hL : (L.map fun x => x.act.booked).Sublist ((L ++ [x]).map fun x => x.act.booked) := by rw [List.map_append]; exact List.sublist_append_left ..
  unfold payOne
  rw [hx, Int.toNat_natCast]
  by_cases h2 : x.act.kind = 2
  · rw [if_pos h2]
    simp only
    by_cases hw : pays c (s.shown.getD k 0 + x.act.amt) (s.all - s.paid.getD k 0) - s.paid.getD k 0 ≤ 0
    · rw [if_pos hw]
      refine ⟨fun j hj => ?_, fun j hj => ?_, fun j hj => h.ro j hj, h.dy.trans hL⟩
      · have := h.sh j hj
        rw [getD_set (by omega), shK_snoc, hx]
        by_cases hkj : k = j
        · subst hkj; rw [if_pos rfl, if_pos rfl, if_pos h2, this]
        · rw [if_neg hkj, if_neg (by omega)]; omega
      · have := h.wo j hj
        show s.paid.getD j 0 ≤ worth0 c _
        rw [getD_set (by omega)]
        by_cases hkj : k = j
        · subst hkj; rw [if_pos rfl]; omega
        · rw [if_neg hkj]; exact this
    · rw [if_neg hw]
      refine ⟨fun j hj => ?_, fun j hj => ?_, fun j hj => ?_, ?_⟩
      · have := h.sh j hj
        rw [getD_set (by omega), shK_snoc, hx]
        by_cases hkj : k = j
        · subst hkj; rw [if_pos rfl, if_pos rfl, if_pos h2, this]
        · rw [if_neg hkj, if_neg (by omega)]; omega
      · have := h.wo j hj
        rw [getD_set (by omega), getD_set (by omega)]
        by_cases hkj : k = j
        · subst hkj; rw [if_pos rfl, if_pos rfl]; omega
        · rw [if_neg hkj, if_neg hkj]; exact this
      · have := h.ro j hj
        simp only
        rw [getD_set (by omega), paidK_snoc]
        simp only
        by_cases hkj : k = j
        · subst hkj; rw [if_pos rfl, if_pos rfl]; omega
        · rw [if_neg hkj, if_neg (by omega)]; omega
      · simp only
        rw [List.map_append, List.map_append]
        exact h.dy.append (List.Sublist.refl _)
  · rw [if_neg h2]
    refine ⟨fun j hj => ?_, fun j hj => h.wo j hj, fun j hj => h.ro j hj, h.dy.trans hL⟩
    rw [h.sh j hj, shK_snoc, if_neg h2]
    simp
theorem payL_PI {c : Cover} {l : List File} (h : adjRight c l = true) : ∀ i, i ≤ (ordL l).length → PI c l.length ((ordL l).take i) (payL c l.length ((ordL l).take i)) := by
  have hr : c.rightB = true := by rw [adjRight, Bool.and_eq_true] at h; exact h.1
  have hPB := payL_PB hr l.length (L := ordL l) fun x hx => by obtain ⟨_, _, _, _, h⟩ := step_right h hx; exact h
  intro i
  induction i with
  | zero => intro _; exact PI.zero hr _
  | succ i ih =>
    intro hi
    have e0 : (ordL l)[i]? = some (ordL l)[i] := List.getElem?_eq_getElem hi
    obtain ⟨k, h1, h2, _, h3, _⟩ := step_right h (List.getElem_mem hi)
    rw [payL_take e0, List.take_add_one, e0]
    exact (ih (by omega)).step hr (hPB i (by omega)) _ h1 h2 h3
theorem chk_right {c : Cover} {l : List File} (he : checkE c l = 0) : adjRight c l = true ∧ l.length ≤ 2000 ∧ actsN l ≤ 2000 := by
  have har : adjRight c l = true := by
    cases h : adjRight c l with
    | true => rfl
    | false => simp [checkE, h] at he
  refine ⟨har, ?_⟩
  unfold checkE at he
  split at he; · cases he
  split at he; · cases he
  omega
theorem right_good {c : Cover} {l : List File} (h : adjRight c l = true) {f : File} (hf : f ∈ l) : Good f.claim f.acts := by
  rw [adjRight, Bool.and_eq_true, List.all_eq_true] at h
  have := h.2 f hf
  rw [okFile, Bool.and_eq_true] at this
  exact made_good this.2
/-- What rows say, file by file. -/
theorem paid_file {c : Cover} {l : List File} (he : checkE c l = 0) {k : Nat} {f : File} (hf : l[k]? = some f) : 0 ≤ paidK (paidR c l) k ∧ paidK (paidR c l) k ≤ worth0 c (standP f.acts).shown ∧ (standP f.acts).shown ≤ (standP f.acts).gross ∧ 0 ≤ (standP f.acts).shown ∧ (standP f.acts).gross ≤ 1000000000000000 := by
  obtain ⟨har, _⟩ := chk_right he
  have hr : c.rightB = true := by rw [adjRight, Bool.and_eq_true] at har; exact har.1
  have hk := (List.getElem?_eq_some_iff.1 hf).1
  have hI := payL_PI har (ordL l).length (Nat.le_refl _)
  rw [List.take_length] at hI
  have hg := right_good har (List.mem_of_getElem? hf)
  have h1 := hI.sh k hk
  have h2 := hI.wo k hk
  have h3 := hI.ro k hk
  have h4 : shK (ordL l) k = sumK 2 f.acts := by
    rw [shK, ordL_fileK (srt_of har), fileK, hf]
    simp only [List.map_map]
    congr 1
    exact List.map_id _
  rw [h1, h4, ← hg.shownE] at h2
  rw [paidR, if_pos he, h3]
  have g1 := hg.shown
  have g2 := hg.gross
  have hPB := payL_PB hr l.length (L := ordL l) (fun x hx => by obtain ⟨_, _, _, _, h⟩ := step_right har hx; exact h) (ordL l).length (Nat.le_refl _)
  rw [List.take_length] at hPB
  have := hPB.get2 k
  simp only [standP]
  omega
theorem paid_all {c : Cover} {l : List File} (he : checkE c l = 0) : 0 ≤ amtS (paidR c l) ∧ amtS (paidR c l) ≤ c.agg := by
  obtain ⟨har, _⟩ := chk_right he
  have hr : c.rightB = true := by rw [adjRight, Bool.and_eq_true] at har; exact har.1
  have hPB := payL_PB hr l.length (L := ordL l) (fun x hx => by obtain ⟨_, _, _, _, h⟩ := step_right har hx; exact h) (ordL l).length (Nat.le_refl _)
  rw [List.take_length] at hPB
  have hs := payL_sum har (ordL l).length (Nat.le_refl _)
  rw [List.take_length] at hs
  have hI := payL_PI har (ordL l).length (Nat.le_refl _)
  rw [List.take_length] at hI
  have key : ∀ j, j ≤ l.length → paidB (payL c l.length (ordL l)).out j = ((payL c l.length (ordL l)).paid.take j).sum := by
    intro j
    induction j with
    | zero =>
      intro _
      rw [paidB_zero fun r hm => by
        obtain ⟨k, _, h, _⟩ := (rows_ok he).2 r (by rw [paidR, if_pos he]; exact hm)
        omega]
      rfl
    | succ j ih =>
      intro hj
      have hl := hPB.l2
      have e0 : (payL c l.length (ordL l)).paid[j]? = some ((payL c l.length (ordL l)).paid.getD j 0) := by rw [List.getD_eq_getElem?_getD, List.getElem?_eq_getElem (by omega)]; rfl
      rw [paidB_succ, ih (by omega), hI.ro j (by omega), List.take_add_one, e0]
      simp
  have h1 := key l.length (Nat.le_refl _)
  rw [List.take_of_length_le (by rw [hPB.l2]; omega), hs, paidB_all fun r hm => by
    obtain ⟨k, h0, h, _⟩ := (rows_ok he).2 r (by rw [paidR, if_pos he]; exact hm)
    omega] at h1
  rw [paidR, if_pos he, h1]
  exact hPB.al
/-- The days of rows rise. -/
theorem paid_days {c : Cover} {l : List File} (he : checkE c l = 0) : (paidR c l).Pairwise fun a b => a.2.1 ≤ b.2.1 := by
  obtain ⟨har, _⟩ := chk_right he
  have hI := payL_PI har (ordL l).length (Nat.le_refl _)
  rw [List.take_length] at hI
  have h1 : ((ordL l).map fun x => x.act.booked).Pairwise (· ≤ ·) := List.pairwise_map.2 (srt_booked (ordL_srt l))
  have := h1.sublist hI.dy
  rw [List.pairwise_map] at this
  rw [paidR, if_pos he]
  exact this

/-! ### Positions -/
theorem ofL_eq {c : Cover} {l : List File} (he : checkE c l = 0) : ofL c l = heldL c (amtS (paidR c l)) (posR (paidR c l) l) := by
  rw [ofL, if_pos he, posR_fold l fun r hr => by
    obtain ⟨k, h1, h2, _⟩ := (rows_ok he).2 r hr
    exact ⟨k, h1, h2⟩]
  rfl
theorem ofL_len {c : Cover} {l : List File} (he : checkE c l = 0) : (ofL c l).length = l.length := by rw [ofL_eq he, heldL_len, posR_len]
theorem heldOne_le {c : Cover} (hr : c.rightB = true) (u : Int) (p : Pos) (hu : u ≤ c.agg) (h0 : 0 ≤ p.paid) (h1 : p.paid ≤ worth0 c p.gross) : 0 ≤ heldOne c u p ∧ u + heldOne c u p ≤ c.agg ∧ p.paid + heldOne c u p ≤ worth0 c p.gross := by
  have hb := pays_bd (c := c) hr p.gross (used := u - p.paid) (by omega)
  unfold heldOne
  split <;> omega
theorem uAt_agg {c : Cover} (hr : c.rightB = true) : ∀ {P : List Pos} {u : Int}, (∀ p, p ∈ P → 0 ≤ p.paid ∧ p.paid ≤ worth0 c p.gross) → u ≤ c.agg → ∀ i, uAt c u P i ≤ c.agg
  | [], u, _, h, 0 => h
  | [], u, _, h, _ + 1 => h
  | _ :: _, u, _, h, 0 => h
  | p :: P, u, h1, h, i + 1 => by
    have := h1 p (by simp)
    exact uAt_agg hr (fun q hq => h1 q (by simp [hq])) (heldOne_le hr u p h this.1 this.2).2.1 i
/-- How a file stands. -/
theorem of_file {c : Cover} {l : List File} (he : checkE c l = 0) {k : Nat} {f : File} (hf : l[k]? = some f) :
    ∃ r : Int, (ofL c l)[k]? = some { standP f.acts with paid := paidK (paidR c l) k, reserve := r } ∧ 0 ≤ r ∧ paidK (paidR c l) k + r ≤ worth0 c (standP f.acts).gross ∧ ((standP f.acts).opn = false → r = 0)
      ∧ r = heldOne c (uAt c (amtS (paidR c l)) (posR (paidR c l) l) k) { standP f.acts with paid := paidK (paidR c l) k } := by
  obtain ⟨har, _⟩ := chk_right he
  have hr : c.rightB = true := by rw [adjRight, Bool.and_eq_true] at har; exact har.1
  have hp : ∀ p, p ∈ posR (paidR c l) l → 0 ≤ p.paid ∧ p.paid ≤ worth0 c p.gross := by
    intro p hp
    obtain ⟨j, hj⟩ := List.mem_iff_getElem?.1 hp
    rcases h2 : l[j]? with _ | g
    · simp [posR, h2] at hj
    · rw [posR_get h2] at hj
      injection hj with hj
      subst hj
      have h1 := paid_file he h2
      have h3 := worth0_mono hr h1.2.2.1
      simp only
      omega
  have h1 := heldL_at c _ (amtS (paidR c l)) k _ (posR_get (R := paidR c l) hf)
  have hu := uAt_agg hr hp (paid_all he).2 k
  have h2 := hp _ (List.mem_of_getElem? (posR_get (R := paidR c l) hf))
  have h3 := heldOne_le hr _ _ hu h2.1 h2.2
  refine ⟨_, ?_, h3.1, h3.2.2, fun ho => ?_, rfl⟩
  · rw [ofL_eq he, h1]
    unfold heldP
    congr 2
    split
    · rfl
    · rename_i ho
      unfold heldOne
      rw [if_neg ho]
      rfl
  · unfold heldOne
    simp only [ho]
    rfl
def sumPR (P : List Pos) : Int := (P.map fun p => p.paid + p.reserve).sum
theorem held_sum (c : Cover) : ∀ (P : List Pos) (u : Int), (∀ p, p ∈ P → p.reserve = 0) → sumPR (heldL c u P) + u = (P.map Pos.paid).sum + uAt c u P P.length
  | [], u, _ => by simp [heldL, sumPR, uAt]
  | p :: P, u, h => by
    have h0 := h p (by simp)
    have ih := held_sum c P (u + heldOne c u p) fun q hq => h q (by simp [hq])
    have h1 : sumPR (heldL c u (p :: P)) = p.paid + heldOne c u p + sumPR (heldL c (u + heldOne c u p) P) := by
      rw [heldL, sumPR, List.map_cons, List.sum_cons]
      simp only [sumPR]
      split
      · rfl
      · rename_i ho
        rw [h0]
        unfold heldOne
        rw [if_neg ho]
    rw [h1, List.map_cons, List.sum_cons, List.length_cons, uAt]
    omega
theorem posR_sum {R : List (Int × Int × Int)} {l : List File} (h : ∀ r, r ∈ R → 0 ≤ r.1) : ∀ j, j ≤ l.length → ((posR R (l.take j)).map Pos.paid).sum = paidB R j := by
  intro j
  induction j with
  | zero => intro _; rw [paidB_zero h]; simp [posR]
  | succ j ih =>
    intro hj
    rw [posR_snoc R (List.getElem?_eq_getElem hj), List.map_append, List.sum_append, ih (by omega), paidB_succ]
    simp
theorem of_sum {c : Cover} {l : List File} (he : checkE c l = 0) : sumPR (ofL c l) ≤ c.agg := by
  obtain ⟨har, _⟩ := chk_right he
  have hr : c.rightB = true := by rw [adjRight, Bool.and_eq_true] at har; exact har.1
  have hp : ∀ p, p ∈ posR (paidR c l) l → 0 ≤ p.paid ∧ p.paid ≤ worth0 c p.gross := by
    intro p hp
    obtain ⟨j, hj⟩ := List.mem_iff_getElem?.1 hp
    rcases h2 : l[j]? with _ | g
    · simp [posR, h2] at hj
    · rw [posR_get h2] at hj
      injection hj with hj
      subst hj
      have h1 := paid_file he h2
      have h3 := worth0_mono hr h1.2.2.1
      simp only
      omega
  have h1 := held_sum c (posR (paidR c l) l) (amtS (paidR c l)) fun p hp => posR_res hp
  have h2 := posR_sum (R := paidR c l) (l := l) (fun r hm => by
    obtain ⟨k, _, h, _⟩ := (rows_ok he).2 r hm
    omega) l.length (Nat.le_refl _)
  rw [List.take_length, paidB_all fun r hm => by
    obtain ⟨k, h0, h, _⟩ := (rows_ok he).2 r hm
    omega] at h2
  have h3 := uAt_agg hr hp (paid_all he).2 (posR (paidR c l) l).length
  rw [ofL_eq he]
  omega
end Go.Proofs.YtjplhfmakghabaaGreat.V
set_option linter.unusedSimpArgs false
set_option linter.unusedVariables false
namespace Go.Proofs.YtjplhfmakghabaaGreat.V
open Go.RowKit
set_option maxRecDepth 100000
attribute [local go_sem] Option.toList_some Option.toList_none

def knownR (l : List File) (d : Int) : List File := (l.filter fun f => decide (f.claim.booked ≤ d)).map fun f => f.at d
theorem knownR_snoc (d : Int) {l : List File} {i : Nat} {f : File} (h : l[i]? = some f) : knownR (l.take (i + 1)) d = knownR (l.take i) d ++ if f.claim.booked ≤ d then [f.at d] else [] := by
  rw [List.take_add_one, h, knownR, List.filter_append, List.map_append]
  by_cases hb : f.claim.booked ≤ d <;> simp [knownR, hb]
theorem knownR_len (l : List File) (d : Int) : (knownR l d).length ≤ l.length := by
  rw [knownR, List.length_map]
  exact List.length_filter_le _ _
set_option maxHeartbeats 4000000 in
theorem known_f (l : List File) (d : Int) (hl : l.length ≤ 100000) (ha : ∀ f, f ∈ l → f.acts.length ≤ 100000) : Fun Tryz.prog 12 [filesA l, int d] (filesA (knownR l d)) := by
  refine fun_W mixed Tryz.func12 rfl (Nat.le_of_ble_eq_true rfl) (by kernel_rfl) fun cx hN hR hF hL => ?_; apply args_k; (case hA => (simp only [go_sem, ↓reduceIte]; rfl))
  (try ((try (revert K;refine bK ?_));refine' run trivial ?_;(repeat' first|exact True.intro|refine Lv.mk ?_ ?_|(refine oK ?_;intro K hK)|intro hq);all_goals refine Lf.mk ?_))
  refine loop_nil 5 3000 7 41 rfl (Nat.le_of_ble_eq_true rfl) ?_
  refine loopW mixed (σ := {i : Nat // i ≤ l.length}) (fun s => ⟨[(10, int s.1), (5, .osl 3000 7 0 (knownR (l.take s.1) d).length), (8, filesA l), (9, int l.length), (1, int d)], [(3000, some ⟨41, rowC File.flat (knownR (l.take s.1) d)⟩)], 3001⟩) (fun s => l.length - s.1) id ⟨0, by omega⟩ (by rw [hN]; kernel_rfl) ?_ ?_
  · simp only [go_sem, ↓reduceIte, hF]
    exact ⟨⟨rfl, rfl⟩, rfl⟩
  · rintro ⟨i, g1⟩
    by_cases gi : i < l.length
    · have e0 : l[i]? = some l[i] := List.getElem?_eq_getElem gi
      have e1 : (l.map File.flat)[i]? = some l[i].flat := by rw [List.getElem?_map, e0]; rfl
      have e2 : IntKind.i64.wrap ((i : Int) + 1) = ((i + 1 : Nat) : Int) := by rw [wrap_id] <;> omega
      have hk1 : i < (l.map File.flat).length := by simpa using gi
      have hsn := knownR_snoc d e0
      have hat := claimAt_f l[i] d (ha _ (List.getElem_mem gi))
      have hkl := knownR_len (l.take i) d
      rw [List.length_take, Nat.min_eq_left g1] at hkl
      generalize knownR (l.take i) d = Q at *
      have hln := rowF_len Q
      generalize l[i] = f at *
      by_cases hd : f.claim.booked ≤ d
      · rw [if_pos hd] at hsn
        (repeat' first|((try (revert K;refine bK ?_));refine' run (I e1 (I e2 (I hk1 (I (eq_true hd) (decide_eq_true hd))))) ?_;(repeat' first|exact True.intro|refine Lv.mk ?_ ?_|(refine oK ?_;intro K hK)|intro hq);all_goals refine Lf.mk ?_)|refine callZ cl20 (hat) ?_)
        · refine ⟨⟨i + 1, gi⟩, nm1 3000 6041, ?_, by show l.length - (i + 1) < l.length - i; omega⟩
          simp only [hsn, rowF_snoc, List.length_append, List.length_singleton]
          simp only [go_sem, ↓reduceIte, hF, List.map_append, List.all_append]
        · exact ⟨hln, by simp [maxLen]; omega⟩
      · rw [if_neg hd, List.append_nil] at hsn
        (try ((try (revert K;refine bK ?_));refine' run (I e1 (I e2 (I hk1 (I (eq_false hd) (decide_eq_false hd))))) ?_;(repeat' first|exact True.intro|refine Lv.mk ?_ ?_|(refine oK ?_;intro K hK)|intro hq);all_goals refine Lf.mk ?_))
        refine ⟨⟨i + 1, gi⟩, id, ?_, by show l.length - (i + 1) < l.length - i; omega⟩
        simp only [hsn]
        simp only [go_sem, ↓reduceIte, hF]
    · obtain rfl : i = l.length := by omega
      simp only [List.take_length]
      (try ((try (revert K;refine bK ?_));refine' run trivial ?_;(repeat' first|exact True.intro|refine Lv.mk ?_ ?_|(refine oK ?_;intro K hK)|intro hq);all_goals refine Lf.mk ?_))
      exact ⟨rows_len (F := File.flat) (fun _ => rfl) _, fzo_rows (F := File.flat) (k := 7) (fun _ => rfl) (fun _ => by simp [File.flat]) _ rfl⟩
/-! ### Positions, added -/
def addPos (p x : Pos) : Pos := ⟨IntKind.i64.wrap (p.gross + x.gross), IntKind.i64.wrap (p.shown + x.shown), IntKind.i64.wrap (p.paid + x.paid), IntKind.i64.wrap (p.back + x.back), IntKind.i64.wrap (p.reserve + x.reserve), p.opn || x.opn⟩
def zeroP : Pos := ⟨0, 0, 0, 0, 0, false⟩
def sumP (P : List Pos) : Pos := P.foldl addPos zeroP
theorem sumP_take {P : List Pos} {i : Nat} {x : Pos} (h : P[i]? = some x) : sumP (P.take (i + 1)) = addPos (sumP (P.take i)) x := by
  rw [List.take_add_one, h, sumP, List.foldl_append]
  rfl
theorem ofL_le (c : Cover) (l : List File) : (ofL c l).length ≤ l.length := by
  by_cases he : checkE c l = 0
  · rw [ofL_len he]
    exact Nat.le_refl _
  · rw [ofL, if_neg he]
    exact Nat.zero_le _
set_option maxHeartbeats 4000000 in
theorem rSumP_f (A : List Pos) (hA : A.length ≤ 100000) : Fun Tryz.prog 25 [possA A] (.agg (sumP A).flat) := by
  refine fun_W mixed Tryz.func25 rfl (Nat.le_of_ble_eq_true rfl) (by kernel_rfl) fun cx hN hR hF hL => ?_; apply args_k; (case hA => (simp only [go_sem, ↓reduceIte]; rfl))
  (try ((try (revert K;refine bK ?_));refine' run trivial ?_;(repeat' first|exact True.intro|refine Lv.mk ?_ ?_|(refine oK ?_;intro K hK)|intro hq);all_goals refine Lf.mk ?_))
  refine loopW mixed (σ := {i : Nat // i ≤ A.length}) (fun s => ⟨[(4, int s.1), (3, .ptr 1008 0), (0, possA A), (2, .ptr 0 0)], [(1008, some ⟨43, (sumP (A.take s.1)).flat⟩), (0, some ⟨43, zeroP.flat⟩)], 3000⟩) (fun s => A.length - s.1) id ⟨0, by omega⟩ (by rw [hN]; kernel_rfl) ?_ ?_
  · simp only [go_sem, ↓reduceIte, hF]
    exact ⟨rfl, rfl, rfl⟩
  · rintro ⟨i, g1⟩
    by_cases gi : i < A.length
    · have e0 : A[i]? = some A[i] := List.getElem?_eq_getElem gi
      have e1 : (A.map Pos.flat)[i]? = some A[i].flat := by rw [List.getElem?_map, e0]; rfl
      have e2 : IntKind.i64.wrap ((i : Int) + 1) = ((i + 1 : Nat) : Int) := by rw [wrap_id] <;> omega
      have hk1 : i < (A.map Pos.flat).length := by simpa using gi
      have hsn := sumP_take e0
      generalize sumP (A.take i) = p at *
      generalize A[i] = x at *
      obtain ⟨p1, p2, p3, p4, p5, p6⟩ := p
      obtain ⟨x1, x2, x3, x4, x5, x6⟩ := x
      unfold addPos at hsn
      simp only at hsn
      cases x6 <;>
      · simp only [Bool.or_true, Bool.or_false] at hsn
        (try ((try (revert K;refine bK ?_));refine' run (I e1 (I e2 hk1)) ?_;(repeat' first|exact True.intro|refine Lv.mk ?_ ?_|(refine oK ?_;intro K hK)|intro hq);all_goals refine Lf.mk ?_))
        refine ⟨⟨i + 1, gi⟩, id, ?_, by show A.length - (i + 1) < A.length - i; omega⟩
        simp only [hsn]
        simp only [go_sem, ↓reduceIte, hF]
    · obtain rfl : i = A.length := by omega
      simp only [List.take_length]
      generalize sumP A = p at *
      obtain ⟨p1, p2, p3, p4, p5, p6⟩ := p
      (try ((try (revert K;refine bK ?_));refine' run trivial ?_;(repeat' first|exact True.intro|refine Lv.mk ?_ ?_|(refine oK ?_;intro K hK)|intro hq);all_goals refine Lf.mk ?_))
set_option maxHeartbeats 4000000 in
theorem sum_f (c : Cover) (l : List File) (hc : c.ok) (hl : l.length ≤ 100000) : Fun Tryz.prog 10 [.agg c.flat, filesA l] (.tup [.agg (sumP (ofL c l)).flat, int (checkE c l)]) := by
  have k1 := aof_f c l hc hl
  have hAl := ofL_le c l
  generalize ofL c l = A at *
  generalize checkE c l = e at *
  refine fun_W mixed Tryz.func10 rfl (Nat.le_of_ble_eq_true rfl) (by kernel_rfl) fun cx hN hR hF hL => ?_; apply args_k; (case hA => (simp only [go_sem, ↓reduceIte]; rfl))
  (repeat' first|((try (revert K;refine bK ?_));refine' run trivial ?_;(repeat' first|exact True.intro|refine Lv.mk ?_ ?_|(refine oK ?_;intro K hK)|intro hq);all_goals refine Lf.mk ?_)|refine callZ cl18 (k1) ?_)
  refine loopW mixed (σ := {i : Nat // i ≤ A.length}) (fun s => ⟨[(19, int s.1), (8, .ptr 2000 0), (17, possA A), (18, int A.length), (7, int e), (4, .ptr 8 0)], [(2000, some ⟨43, (sumP (A.take s.1)).flat⟩), (8, some ⟨43, zeroP.flat⟩)], 4000⟩) (fun s => A.length - s.1) id ⟨0, by omega⟩ (by rw [hN]; kernel_rfl) ?_ ?_
  · simp only [go_sem, ↓reduceIte, hF]
    exact ⟨rfl, rfl, rfl⟩
  · rintro ⟨i, g1⟩
    by_cases gi : i < A.length
    · have e0 : A[i]? = some A[i] := List.getElem?_eq_getElem gi
      have e1 : (A.map Pos.flat)[i]? = some A[i].flat := by rw [List.getElem?_map, e0]; rfl
      have e2 : IntKind.i64.wrap ((i : Int) + 1) = ((i + 1 : Nat) : Int) := by rw [wrap_id] <;> omega
      have hk1 : i < (A.map Pos.flat).length := by simpa using gi
      have hsn := sumP_take e0
      generalize sumP (A.take i) = p at *
      generalize A[i] = x at *
      obtain ⟨p1, p2, p3, p4, p5, p6⟩ := p
      obtain ⟨x1, x2, x3, x4, x5, x6⟩ := x
      unfold addPos at hsn
      simp only at hsn
      cases p6 <;>
      · (try ((try (revert K;refine bK ?_));refine' run (I e1 (I e2 hk1)) ?_;(repeat' first|exact True.intro|refine Lv.mk ?_ ?_|(refine oK ?_;intro K hK)|intro hq);all_goals refine Lf.mk ?_))
        refine ⟨⟨i + 1, gi⟩, id, ?_, by show A.length - (i + 1) < A.length - i; omega⟩
        simp only [hsn]
        simp only [go_sem, ↓reduceIte, hF]
    · obtain rfl : i = A.length := by omega
      simp only [List.take_length]
      generalize sumP A = p at *
      obtain ⟨p1, p2, p3, p4, p5, p6⟩ := p
      (try ((try (revert K;refine bK ?_));refine' run trivial ?_;(repeat' first|exact True.intro|refine Lv.mk ?_ ?_|(refine oK ?_;intro K hK)|intro hq);all_goals refine Lf.mk ?_))
end Go.Proofs.YtjplhfmakghabaaGreat.V
