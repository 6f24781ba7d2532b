/- known.At: what is known of a history on a day (chapter 13). The version of a day (chapter 7). A policy's slices: slices.Of (chapter 12). The reference's Holds (chapter 12). The reference's slices: ref12.Of (chapter 12). What holds, as known on a day; days alike (chapter 13). slices.Grow at nil, slices.Concat at two rows of slices (chapter 13). Contracts: Less of span and of the reference. Contracts: the reference's into, Join, Parts. -/
import Derived.Test.YtkonljmmdifnaaaGreatG14
import Derived.Test.YtkonljmmdifnaaaGreatG13
import Derived.Test.YtkonljmmdifnaaaGreatG12
import Derived.Test.YtkonljmmdifnaaaGreatG7
import Derived.Shelf.Spec.SlicesGrow
set_option linter.unusedSimpArgs false
set_option linter.unusedVariables false
namespace Go.Proofs.YtkonljmmdifnaaaGreat.V
open Go.RowKit
set_option maxRecDepth 100000
attribute [local go_sem] Option.toList_some Option.toList_none

@[go_sem] theorem rowsCh_ren (r : Nat → Nat) {l : List Change} : ((l.map Change.flat).flatten).map (AV.ren r) = (l.map Change.flat).flatten := rows_ren (fun x r => by simp [Change.flat]) r l
@[go_sem] theorem rowsCh_nms (p : Nat → Bool) {l : List Change} : ((l.map Change.flat).flatten).all (AV.names p) = true := rows_nms (fun x p => by simp [Change.flat]) p l
theorem kupto_f (h : History) (b : Int) : Fun Tryz.prog 56 [.agg h.flat, int b] (.fn (.func 88) [] [.pp h.flat, .pp [int b]]) := by
  refine fun_W mixed Tryz.func56 rfl (Nat.le_of_ble_eq_true rfl) (by kernel_rfl) fun cx hN hR hF hL => ?_; apply args_k; (case hA => (simp only [go_sem, ↓reduceIte]; rfl))
  (try ((try (revert K;refine bK ?_));refine' run trivial ?_;(repeat' first|exact True.intro|refine Lv.mk ?_ ?_|(refine oK ?_;intro K hK)|intro hq);all_goals refine Lf.mk ?_))
theorem filt_take {α : Type} (F : α → List AV) {p : α → Bool} {l : List α} {k : Nat} {y : List AV} (h : ((l.filter p).map fun c => [AV.agg (F c)])[k]? = some y) : ∃ c, (l.filter p)[k]? = some c ∧ y = [.agg (F c)] ∧ (l.filter p).take (k + 1) = (l.filter p).take k ++ [c] ∧ k < (l.filter p).length := by
  rw [List.getElem?_map] at h
  obtain ⟨c, hc, rfl⟩ := Option.map_eq_some_iff.1 h
  exact ⟨c, hc, rfl, by rw [List.take_add_one, hc]; rfl, (List.getElem?_eq_some_iff.1 hc).1⟩
set_option maxHeartbeats 4000000 in
theorem appendSeq_f (h : History) (b : Int) (hl : h.changes.length ≤ 100000) (hcc : ∀ c, c ∈ h.changes → c.covers.length ≤ 100000) : Fun Tryz.prog 87 [.v (.slice none 0 0), .fn (.func 88) [] [.pp h.flat, .pp [int b]]] (chgs (h.changes.filter (knB b))) := by
  have hit := upto_it h b hl hcc
  have hPl : (h.changes.filter (knB b)).length ≤ 100000 := Nat.le_trans (List.length_filter_le _ _) hl
  have hft := @filt_take Change Change.flat (knB b) h.changes
  generalize h.changes.filter (knB b) = P at *
  refine fun_C Tryz.func87 rfl (Nat.le_of_ble_eq_true rfl) fun cx hN hR hF hL => ?_; apply code_args; (case hA => (simp only [go_sem, ↓reduceIte]; rfl))
  (refine code_seq mixed (by rw [hN]; kernel_rfl) ?_)
  (try ((try (revert K;refine bK ?_));refine' run trivial ?_;(repeat' first|exact True.intro|refine Lv.mk ?_ ?_|(refine oK ?_;intro K hK)|intro hq);all_goals refine Lf.mk ?_))
  refine code_seq2 ?_
  (refine code_seq mixed (by rw [hN]; kernel_rfl) ?_)
  (try ((try (revert K;refine bK ?_));refine' run trivial ?_;(repeat' first|exact True.intro|refine Lv.mk ?_ ?_|(refine oK ?_;intro K hK)|intro hq);all_goals refine Lf.mk ?_))
  refine code_block ?_
  refine range_codeY mixed hR 2001 [(6, .fn (.func 88) [] [.pp h.flat, .pp [int b]]), (2, .ptr 0 0), (4, .v (.slice none 0 0))]
    (fun q : {k : Nat // k ≤ P.length} => ([(0, some ⟨29, [outV 2001 9 (P.take q.1)]⟩), (2001, outB 54 Change.flat (P.take q.1))], 3000)) (fun q => q.1) id ⟨0, Nat.zero_le _⟩
    (P.map fun c => [AV.agg c.flat]) hit cl88 ?_ rfl (fun b g h => by rw [hF] at h; cases h) (by simp [go_sem]) rfl (by simp [go_sem]) (fun y hy => by obtain ⟨c, -, rfl⟩ := List.mem_map.1 hy; rfl) (by rw [hN]; kernel_rfl) (by rw [hN]; kernel_rfl) (by rw [hN]; kernel_rfl) ?_ ?_
  · have o1 := outB_nil (t := 54) (F := Change.flat) (l := P.take 0) rfl
    have o3 := outV_nil (b := 2001) (k := 9) (l := P.take 0) rfl
    simp only [o1, o3]
    simp only [go_sem, ↓reduceIte, hF]
  · rintro ⟨k, h0⟩ y hy cx1 hN1 hF1
    simp only at hy
    obtain ⟨c, -, rfl, htk, hk⟩ := hft hy
    have hlen : (P.take k).length ≤ 100000 := by rw [List.length_take]; omega
    show W _ _ _ _ ⟨(7, .agg c.flat) :: _, _, _⟩
    dsimp only
    generalize P.take k = O at *
    by_cases ho : O = []
    · simp only [outV_nil ho, outB_nil ho]
      (try ((try (revert K;refine bK ?_));refine' run trivial ?_;(repeat' first|exact True.intro|refine Lv.mk ?_ ?_|(refine oK ?_;intro K hK)|intro hq);all_goals refine Lf.mk ?_))
      intro cx2 hN2 hF2
      (try ((try (revert K;refine bK ?_));refine' run trivial ?_;(repeat' first|exact True.intro|refine Lv.mk ?_ ?_|(refine oK ?_;intro K hK)|intro hq);all_goals refine Lf.mk ?_))
      · refine ⟨⟨k + 1, hk⟩, nm1 2001 4024, rfl, ?_⟩
        subst ho
        simp only [htk, outV_snoc, outB_snoc]
        simp only [go_sem, ↓reduceIte, hF]
        exact fun b g h => by have := hF2 b g h; rw [if_neg (by omega)]; exact ⟨by omega, rfl⟩
      all_goals (simp [maxLen])
    · have hs1 : ((O.map Change.flat).flatten).length = O.length * 9 := rows_count (F := Change.flat) (k := 9) (fun _ => rfl) O
      simp only [outV_some ho, outB_some ho]
      (try ((try (revert K;refine bK ?_));refine' run trivial ?_;(repeat' first|exact True.intro|refine Lv.mk ?_ ?_|(refine oK ?_;intro K hK)|intro hq);all_goals refine Lf.mk ?_))
      intro cx2 hN2 hF2
      (try ((try (revert K;refine bK ?_));refine' run trivial ?_;(repeat' first|exact True.intro|refine Lv.mk ?_ ?_|(refine oK ?_;intro K hK)|intro hq);all_goals refine Lf.mk ?_))
      · refine ⟨⟨k + 1, hk⟩, nm1 2001 4024, rfl, ?_⟩
        simp only [htk, outV_snoc, outB_snoc]
        simp only [go_sem, ↓reduceIte, hF, List.map_append, List.all_append]
        exact fun b g h => by have := hF2 b g h; rw [if_neg (by omega)]; exact ⟨by omega, rfl⟩
      all_goals (simp [maxLen, hs1]; omega)
  · rintro ⟨k, h1⟩ hk
    simp only at hk
    obtain rfl : k = P.length := by simpa using hk
    simp only [List.take_length]
    refine code_w mixed (by rw [hN]; kernel_rfl) ?_
    by_cases ho : P = []
    · simp only [outV_nil ho, outB_nil ho]
      subst ho
      (try ((try (revert K;refine bK ?_));refine' run trivial ?_;(repeat' first|exact True.intro|refine Lv.mk ?_ ?_|(refine oK ?_;intro K hK)|intro hq);all_goals refine Lf.mk ?_))
    · simp only [outV_some ho, outB_some ho]
      (try ((try (revert K;refine bK ?_));refine' run trivial ?_;(repeat' first|exact True.intro|refine Lv.mk ?_ ?_|(refine oK ?_;intro K hK)|intro hq);all_goals refine Lf.mk ?_))
      exact ⟨rows_len (F := Change.flat) (fun _ => rfl) _, fzo_rows (F := Change.flat) (k := 9) (fun _ => rfl) Change.data _ rfl⟩
theorem collect_f (h : History) (b : Int) (hl : h.changes.length ≤ 100000) (hcc : ∀ c, c ∈ h.changes → c.covers.length ≤ 100000) : Fun Tryz.prog 55 [.fn (.func 88) [] [.pp h.flat, .pp [int b]]] (chgs (h.changes.filter (knB b))) := by
  refine fun_W mixed Tryz.func55 rfl (Nat.le_of_ble_eq_true rfl) (by kernel_rfl) fun cx hN hR hF hL => ?_; apply args_k; (case hA => (simp only [go_sem, ↓reduceIte]; rfl))
  (repeat' first|((try (revert K;refine bK ?_));refine' run trivial ?_;(repeat' first|exact True.intro|refine Lv.mk ?_ ?_|(refine oK ?_;intro K hK)|intro hq);all_goals refine Lf.mk ?_)|refine callZ cl87 (appendSeq_f h b hl hcc) ?_)
def atE (h : History) (b : Int) : Int := if b < h.booked then 7 else 0
def atH (h : History) (b : Int) : History := if b < h.booked then zeroHist else knownH h b
theorem knAt_f (h : History) (b : Int) (hl : h.changes.length ≤ 100000) (hc : h.terms.covers.length ≤ 100000) (hcc : ∀ c, c ∈ h.changes → c.covers.length ≤ 100000) : Fun Tryz.prog 27 [.agg h.flat, int b] (.tup [.agg (atH h b).flat, int (atE h b)]) := by
  by_cases hb : b < h.booked
  · have g0 : (h.booked > b) = True := eq_true hb
    rw [atH, atE, if_pos hb, if_pos hb]
    refine fun_W mixed Tryz.func27 rfl (Nat.le_of_ble_eq_true rfl) (by kernel_rfl) fun cx hN hR hF hL => ?_; apply args_k; (case hA => (simp only [go_sem, ↓reduceIte]; rfl))
    (try ((try (revert K;refine bK ?_));refine' run (I g0 (decide_eq_true hb)) ?_;(repeat' first|exact True.intro|refine Lv.mk ?_ ?_|(refine oK ?_;intro K hK)|intro hq);all_goals refine Lf.mk ?_))
    simp [zeroHist, zeroTerms]
  · have g0 : (h.booked > b) = False := eq_false hb
    have k3 := collect_f h b hl hcc
    rw [atH, atE, if_neg hb, if_neg hb]
    refine fun_W mixed Tryz.func27 rfl (Nat.le_of_ble_eq_true rfl) (by kernel_rfl) fun cx hN hR hF hL => ?_; apply args_k; (case hA => (simp only [go_sem, ↓reduceIte]; rfl))
    (repeat' first|((try (revert K;refine bK ?_));refine' run (I g0 (decide_eq_false hb)) ?_;(repeat' first|exact True.intro|refine Lv.mk ?_ ?_|(refine oK ?_;intro K hK)|intro hq);all_goals refine Lf.mk ?_)|refine callZ cl49 (clone_f _ _ hc) ?_|refine callZ cl56 (kupto_f h b) ?_|refine callZ cl55 (k3) ?_)
    and_intros <;> rfl
set_option maxHeartbeats 8000000 in
theorem rKnAt_f (h : History) (b : Int) (hl : h.changes.length ≤ 100000) : Fun Tryz.prog 28 [.agg h.flat, int b] (.tup [.agg (atH h b).flat, int (atE h b)]) := by
  by_cases hb : b < h.booked
  · have g0 : (h.booked > b) = True := eq_true hb
    rw [atH, atE, if_pos hb, if_pos hb]
    refine fun_W mixed Tryz.func28 rfl (Nat.le_of_ble_eq_true rfl) (by kernel_rfl) fun cx hN hR hF hL => ?_; apply args_k; (case hA => (simp only [go_sem, ↓reduceIte]; rfl))
    (try ((try (revert K;refine bK ?_));refine' run (I g0 (decide_eq_true hb)) ?_;(repeat' first|exact True.intro|refine Lv.mk ?_ ?_|(refine oK ?_;intro K hK)|intro hq);all_goals refine Lf.mk ?_))
    simp [zeroHist, zeroTerms]
  · have g0 : (h.booked > b) = False := eq_false hb
    rw [atH, atE, if_neg hb, if_neg hb]
    refine fun_W mixed Tryz.func28 rfl (Nat.le_of_ble_eq_true rfl) (by kernel_rfl) fun cx hN hR hF hL => ?_; apply args_k; (case hA => (simp only [go_sem, ↓reduceIte]; rfl))
    have h9 : (knownH h b).changes = (h.changes.take h.changes.length).filter (knB b) := by rw [List.take_length]; rfl
    (try ((try (revert K;refine bK ?_));refine' run (I g0 (decide_eq_false hb)) ?_;(repeat' first|exact True.intro|refine Lv.mk ?_ ?_|(refine oK ?_;intro K hK)|intro hq);all_goals refine Lf.mk ?_))
    refine loopW mixed (σ := {i : Nat // i ≤ h.changes.length}) (fun s => ⟨[(7, int s.1), (6, .ptr 2056 0), (2, .ptr 0 0), (4, .ptr 8 0), (1, int b)], [(2056, some ⟨31, [int h.id, int h.booked, int h.terms.from_, int h.terms.to_, int h.terms.kind, int h.terms.value, int h.terms.age, int h.terms.zone, covs h.terms.covers, outV 4001 9 ((h.changes.take s.1).filter (knB b))]⟩),
      (8, some ⟨31, [int 0, int 0, int 0, int 0, int 0, int 0, int 0, int 0, .v (.slice none 0 0), .v (.slice none 0 0)]⟩), (0, some ⟨31, h.flat⟩), (4001, outB 54 Change.flat ((h.changes.take s.1).filter (knB b)))], 5000⟩) (fun s => h.changes.length - s.1) id ⟨0, Nat.zero_le _⟩ (by rw [hN]; kernel_rfl) ?_ ?_
    · have o1 := outB_nil (t := 54) (F := Change.flat) (l := (h.changes.take 0).filter (knB b)) rfl
      have o3 := outV_nil (b := 4001) (k := 9) (l := (h.changes.take 0).filter (knB b)) rfl
      simp only [o1, o3]
      simp only [go_sem, ↓reduceIte, hF]
      all_goals rfl
    · rintro ⟨i, h1⟩
      simp only at h1 ⊢
      by_cases hi : i < h.changes.length
      · have e1 : (h.changes.map Change.flat)[i]? = some (h.changes[i].flat) := by rw [List.getElem?_map, List.getElem?_eq_getElem hi]; rfl
        have e2 : IntKind.i64.wrap ((i : Int) + 1) = ((i + 1 : Nat) : Int) := by rw [wrap_id] <;> omega
        have b0 : ((i : Int) < (h.changes.length : Int)) = True := eq_true (by omega)
        have hyes := filt_yes (p := knB b) hi
        have hno := filt_no (p := knB b) hi
        have hOl : ((h.changes.take i).filter (knB b)).length ≤ i := Nat.le_trans (List.length_filter_le _ _) (by rw [List.length_take]; omega)
        generalize h.changes[i] = c at *
        generalize (h.changes.take i).filter (knB b) = O at *
        by_cases hcb : c.booked ≤ b
        · have hyes := hyes (by simpa [knB] using hcb)
          by_cases hO : O = []
          · simp only [outV_nil hO, outB_nil hO]
            (try ((try (revert K;refine bK ?_));refine' run (I b0 (I (decide_eq_true (of_eq_true b0)) (I e1 (I e2 (I hcb (decide_eq_true hcb)))))) ?_;(repeat' first|exact True.intro|refine Lv.mk ?_ ?_|(refine oK ?_;intro K hK)|intro hq);all_goals refine Lf.mk ?_))
            · refine ⟨⟨i + 1, hi⟩, nm1 4001 7064, ?_, by show h.changes.length - (i + 1) < h.changes.length - i; omega⟩
              subst hO
              simp only [hyes, outV_snoc, outB_snoc]
              simp only [go_sem, ↓reduceIte, hF]
            all_goals (simp [maxLen])
          · have hs1 : ((O.map Change.flat).flatten).length = O.length * 9 := rows_count (F := Change.flat) (k := 9) (fun _ => rfl) O
            simp only [outV_some hO, outB_some hO]
            (try ((try (revert K;refine bK ?_));refine' run (I b0 (I (decide_eq_true (of_eq_true b0)) (I e1 (I e2 (I hcb (decide_eq_true hcb)))))) ?_;(repeat' first|exact True.intro|refine Lv.mk ?_ ?_|(refine oK ?_;intro K hK)|intro hq);all_goals refine Lf.mk ?_))
            · refine ⟨⟨i + 1, hi⟩, nm1 4001 7064, ?_, by show h.changes.length - (i + 1) < h.changes.length - i; omega⟩
              simp only [hyes, outV_snoc, outB_snoc]
              simp only [go_sem, ↓reduceIte, hF, List.map_append, List.all_append]
            all_goals (simp [maxLen, hs1]; omega)
        · have hno := hno (by simpa [knB] using hcb)
          by_cases hO : O = []
          · simp only [outV_nil hO, outB_nil hO]
            (try ((try (revert K;refine bK ?_));refine' run (I b0 (I (decide_eq_true (of_eq_true b0)) (I e1 (I e2 (I (eq_false hcb) (decide_eq_false hcb)))))) ?_;(repeat' first|exact True.intro|refine Lv.mk ?_ ?_|(refine oK ?_;intro K hK)|intro hq);all_goals refine Lf.mk ?_))
            refine ⟨⟨i + 1, hi⟩, id, ?_, by show h.changes.length - (i + 1) < h.changes.length - i; omega⟩
            simp only [hno, outV_nil hO, outB_nil hO]
            simp only [go_sem, ↓reduceIte, hF]
          · simp only [outV_some hO, outB_some hO]
            (try ((try (revert K;refine bK ?_));refine' run (I b0 (I (decide_eq_true (of_eq_true b0)) (I e1 (I e2 (I (eq_false hcb) (decide_eq_false hcb)))))) ?_;(repeat' first|exact True.intro|refine Lv.mk ?_ ?_|(refine oK ?_;intro K hK)|intro hq);all_goals refine Lf.mk ?_))
            refine ⟨⟨i + 1, hi⟩, id, ?_, by show h.changes.length - (i + 1) < h.changes.length - i; omega⟩
            simp only [hno, outV_some hO, outB_some hO]
            simp only [go_sem, ↓reduceIte, hF]
      · obtain rfl : i = h.changes.length := by omega
        have b9 : ((h.changes.length : Int) < (h.changes.length : Int)) = False := eq_false (by omega)
        have hKf : (knownH h b).flat = [int h.id, int h.booked, int h.terms.from_, int h.terms.to_, int h.terms.kind, int h.terms.value, int h.terms.age, int h.terms.zone, covs h.terms.covers, chgs ((h.changes.take h.changes.length).filter (knB b))] := by rw [← h9]; rfl
        rw [hKf]
        generalize (h.changes.take h.changes.length).filter (knB b) = O at *
        by_cases hO : O = []
        · simp only [outV_nil hO, outB_nil hO]
          subst hO
          (try ((try (revert K;refine bK ?_));refine' run (I b9 (decide_eq_false (of_eq_false b9))) ?_;(repeat' first|exact True.intro|refine Lv.mk ?_ ?_|(refine oK ?_;intro K hK)|intro hq);all_goals refine Lf.mk ?_))
        · simp only [outV_some hO, outB_some hO]
          (try ((try (revert K;refine bK ?_));refine' run (I b9 (decide_eq_false (of_eq_false b9))) ?_;(repeat' first|exact True.intro|refine Lv.mk ?_ ?_|(refine oK ?_;intro K hK)|intro hq);all_goals refine Lf.mk ?_))
          exact ⟨rows_len (F := Change.flat) (fun _ => rfl) _, fzo_rows (F := Change.flat) (k := 9) (fun _ => rfl) Change.data _ rfl⟩
end Go.Proofs.YtkonljmmdifnaaaGreat.V
set_option linter.unusedSimpArgs false
set_option linter.unusedVariables false
namespace Go.Proofs.YtkonljmmdifnaaaGreat.V
open Go.RowKit
set_option maxRecDepth 100000
attribute [local go_sem] Option.toList_some Option.toList_none verO

theorem backV_f (l : List Version) (f : Bool) : Fun Tryz.prog 80 [.sl f 9 (l.map Version.flat)] (.fn (.func 118) [] [.pp [.sl f 9 (l.map Version.flat)]]) := by
  refine fun_W mixed Tryz.func80 rfl (Nat.le_of_ble_eq_true rfl) (by kernel_rfl) fun cx hN hR hF hL => ?_; apply args_k; (case hA => (simp only [go_sem, ↓reduceIte]; rfl))
  (try ((try (revert K;refine bK ?_));refine' run trivial ?_;(repeat' first|exact True.intro|refine Lv.mk ?_ ?_|(refine oK ?_;intro K hK)|intro hq);all_goals refine Lf.mk ?_))
theorem backR_two {α : Type} (F : α → List AV) (l : List α) : ∀ y, y ∈ backR F l → y.length = 2 := by
  intro y hy
  rw [backR, List.mem_map] at hy
  obtain ⟨p, -, rfl⟩ := hy
  rfl
set_option maxHeartbeats 4000000 in
theorem tAt_f (l : List Version) (f : Bool) (d : Int) (hl : l.length ≤ 100000) (hv : ∀ v, v ∈ l → v.age.length ≤ 100000 ∧ v.zone.length ≤ 100000 ∧ v.peril.length ≤ 100000) (o : Option Version) (ho : o = verAt l d) : Fun Tryz.prog 52 [.agg [.sl f 9 (l.map Version.flat)], int d] (verO o) := by
  have hit := backV_it l f hl
  refine fun_C Tryz.func52 rfl (Nat.le_of_ble_eq_true rfl) fun cx hN hR hF hL => ?_; apply code_args; (case hA => (simp only [go_sem, ↓reduceIte]; rfl))
  (refine code_seq mixed (by rw [hN]; kernel_rfl) ?_)
  (try ((try (revert K;refine bK ?_));refine' run trivial ?_;(repeat' first|exact True.intro|refine Lv.mk ?_ ?_|(refine oK ?_;intro K hK)|intro hq);all_goals refine Lf.mk ?_))
  refine code_seq2 ?_
  (refine code_seq mixed (by rw [hN]; kernel_rfl) ?_)
  (repeat' first|((try (revert K;refine bK ?_));refine' run trivial ?_;(repeat' first|exact True.intro|refine Lv.mk ?_ ?_|(refine oK ?_;intro K hK)|intro hq);all_goals refine Lf.mk ?_)|refine callZ cl80 (backV_f l f) ?_)
  refine code_block ?_
  refine range_codeY mixed hR 3000 [(10, .fn (.func 118) [] [.pp [.sl f 9 (l.map Version.flat)]]), (2, .ptr 0 0), (3, .ptr 8 0), (4, .ptr 16 0), (5, .ptr 24 0)]
    (fun q : {k : Nat // k ≤ l.length ∧ o = verAt (l.take (l.length - k)) d} => ([(0, some ⟨34, [.sl f 9 (l.map Version.flat)]⟩), (8, some ⟨3, [int d]⟩), (16, some ⟨67, [int 0, int 0, int 0, int 0, int 0, .v (.slice none 0 0), .v (.slice none 0 0), .v (.slice none 0 0), int 0]⟩), (24, some ⟨38, [int 0]⟩)], 3000)) (fun q => q.1) id ⟨0, Nat.zero_le _, by rw [Nat.sub_zero, List.take_length]; exact ho⟩
    (backR Version.flat l) hit cl118 ?_ rfl (fun b g h => by rw [hF] at h; cases h) (by simp [go_sem]) rfl (by simp [go_sem]) (backR_two _ _) (by rw [hN]; kernel_rfl) (by rw [hN]; kernel_rfl) (by rw [hN]; kernel_rfl) ?_ ?_
  · simp only [go_sem, ↓reduceIte, hF]
  · rintro ⟨k, h0, h1⟩ y hy cx1 hN1 hF1
    simp only at hy h1
    have hk : k < l.length := by have := (List.getElem?_eq_some_iff.1 hy).1; rwa [backR_len] at this
    obtain ⟨i, hi⟩ : ∃ i, k + i + 1 = l.length := ⟨l.length - 1 - k, by omega⟩
    rw [backR_at _ _ hi] at hy
    cases hy
    rw [show l.length - k = i + 1 by omega, take_snoc (by omega), verAt_snoc] at h1
    have hvi := hv (l[i]'(by omega)) (List.getElem_mem _)
    have hki : l.length - (k + 1) = i := by omega
    generalize (l[i]'(by omega)) = v at *
    show W _ _ _ _ ⟨(12, .agg v.flat) :: (11, int i) :: _, _, _⟩
    dsimp only
    (try ((try (revert K;refine bK ?_));refine' run trivial ?_;(repeat' first|exact True.intro|refine Lv.mk ?_ ?_|(refine oK ?_;intro K hK)|intro hq);all_goals refine Lf.mk ?_))
    intro cx2 hN2 hF2
    by_cases hd : v.from_ ≤ d
    · rw [if_pos hd] at h1
      subst h1
      (repeat' first|((try (revert K;refine bK ?_));refine' run (I (eq_true hd) (decide_eq_true hd)) ?_;(repeat' first|exact True.intro|refine Lv.mk ?_ ?_|(refine oK ?_;intro K hK)|intro hq);all_goals refine Lf.mk ?_)|refine callZ cl81 (vown_f v hvi.1 hvi.2.1 hvi.2.2) ?_)
      rw [RoundQ]
      dsimp only
      (try ((try (revert K;refine bK ?_));refine' run trivial ?_;(repeat' first|exact True.intro|refine Lv.mk ?_ ?_|(refine oK ?_;intro K hK)|intro hq);all_goals refine Lf.mk ?_))
    · rw [if_neg hd] at h1
      (try ((try (revert K;refine bK ?_));refine' run (I (eq_false hd) (decide_eq_false hd)) ?_;(repeat' first|exact True.intro|refine Lv.mk ?_ ?_|(refine oK ?_;intro K hK)|intro hq);all_goals refine Lf.mk ?_))
      refine ⟨⟨k + 1, hk, by rw [hki]; exact h1⟩, id, rfl, ?_⟩
      simp only [go_sem, ↓reduceIte, hF]
      exact hF2
  · rintro ⟨k, h0, h1⟩ hk
    simp only at hk h1
    rw [backR_len] at hk
    subst hk
    rw [Nat.sub_self] at h1
    obtain rfl : o = none := h1
    dsimp only
    refine code_w mixed (by rw [hN]; kernel_rfl) ?_
    (try ((try (revert K;refine bK ?_));refine' run trivial ?_;(repeat' first|exact True.intro|refine Lv.mk ?_ ?_|(refine oK ?_;intro K hK)|intro hq);all_goals refine Lf.mk ?_))
end Go.Proofs.YtkonljmmdifnaaaGreat.V
set_option linter.unusedSimpArgs false
set_option linter.unusedVariables false
namespace Go.Proofs.YtkonljmmdifnaaaGreat.V
open Go.RowKit
set_option maxRecDepth 100000
attribute [local go_sem] Option.toList_some Option.toList_none verO Int.reduceEq Int.reduceNe

theorem foldl_covers {P : List Cover → Prop} : ∀ {L : List Change} {s : St}, P s.covers → (∀ c, c ∈ L → P c.covers) → P (L.foldl doSt s).covers
  | [], s, h, _ => h
  | c :: L, s, h, hc => by
    rw [List.foldl_cons]
    refine foldl_covers ?_ fun d hd => hc d (by simp [hd])
    have := hc c (by simp)
    unfold doSt
    split
    · exact h
    · split
      · exact this
      · split
        · exact h
        · split <;> exact h
theorem fAt_covers {P : List Cover → Prop} {h : History} (h0 : P h.terms.covers) (hc : ∀ c, c ∈ h.changes → P c.covers) (d : Int) : P (fAt h d).covers := by
  rw [fAt_eq]
  exact foldl_covers h0 fun c hm => hc c (List.mem_filter.1 (isort_mem.1 hm)).1
theorem cutH_covers {P : List Cover → Prop} {h : History} (hr : histR h = true) (h0 : P h.terms.covers) (hc : ∀ c, c ∈ h.changes → P c.covers) : ∀ s, s ∈ cutH h → P s.st.covers := fun s hs => by
  have p := parted_mem (cutH_parted hr) s hs
  rw [← p.2.2.2.2 s.from_ (Int.le_refl _) p.2.1]
  exact fAt_covers h0 hc _
theorem refG_len {f : Int → St} {t : Int} : ∀ {l : List Int} {out : List Sl} {a : Int} {n : St}, (refG f out a n l t).length ≤ out.length + l.length + 1
  | [], out, a, n => by simp [refG]
  | d :: l, out, a, n => by
    rw [refG]
    split
    · have := @refG_len f t l out a n; simp; omega
    · have := @refG_len f t l (out ++ [⟨a, d, n, 0⟩]) d (f d); simp at this ⊢; omega
theorem cutH_len {h : History} (hr : histR h = true) : (cutH h).length ≤ h.changes.length + 1 := by
  rw [cutH_ref hr]
  have := @refG_len (fAt h) h.terms.to_ ((isort ltD h.changes).map Change.day) [] h.terms.from_ (fAt h h.terms.from_)
  simpa [isort_len] using this
section
variable {α : Type} {F : α → List AV} {k : Nat}
theorem rowC_cons (x : α) (l : List α) : rowC F (x :: l) = F x ++ rowC F l := by simp [rowC]
theorem rowC_at (hk : ∀ x, (F x).length = k) : ∀ (l : List α) (i : Nat) (x : α), l[i]? = some x → ((rowC F l).drop (i * k)).take k = F x
  | [], i, x, h => by simp at h
  | y :: l, 0, x, h => by
    simp at h; subst h
    rw [rowC_cons, Nat.zero_mul, List.drop_zero, ← hk y, List.take_left]
  | y :: l, i + 1, x, h => by
    rw [rowC_cons, Nat.add_mul, Nat.one_mul, Nat.add_comm, ← List.drop_drop, ← hk y, List.drop_left, hk y]
    exact rowC_at hk l i x (by simpa using h)
theorem rowC_set (hk : ∀ x, (F x).length = k) : ∀ (l : List α) (i : Nat) (x : α), i < l.length → (rowC F l).take (i * k) ++ F x ++ (rowC F l).drop (i * k + k) = rowC F (l.set i x)
  | [], i, x, h => by simp at h
  | y :: l, 0, x, h => by
    rw [rowC_cons, Nat.zero_mul, List.take_zero, List.nil_append, Nat.zero_add, List.set_cons_zero, rowC_cons, ← hk y, List.drop_left]
  | y :: l, i + 1, x, h => by
    rw [rowC_cons, List.set_cons_succ, rowC_cons, ← rowC_set hk l i x (by simpa using h)]
    rw [show (i + 1) * k = (F y).length + i * k by rw [hk, Nat.add_mul, Nat.one_mul, Nat.add_comm], List.take_length_add_append, Nat.add_assoc, List.drop_length_add_append]
    simp
end
theorem rowS_at (l : List Sl) {i : Nat} {s : Sl} (h : l[i]? = some s) : List.take 9 (List.drop (i * 9) (rowC Sl.flat l)) = s.flat := rowC_at (F := Sl.flat) (k := 9) (fun _ => rfl) l i s h
theorem rowS_year (l : List Sl) {i : Nat} {s : Sl} (h : l[i]? = some s) (y : Int) : List.take (i * 9 + 8) (rowC Sl.flat l) ++ [int y] ++ List.drop (i * 9 + 8 + 1) (rowC Sl.flat l) = rowC Sl.flat (l.set i ⟨s.from_, s.to_, s.st, y⟩) := by
  have hi := (List.getElem?_eq_some_iff.1 h).1
  rw [← rowC_set (F := Sl.flat) (k := 9) (fun _ => rfl) l i _ hi, List.take_add]
  have e : List.take 8 (List.drop (i * 9) (rowC Sl.flat l)) = List.take 8 s.flat := by rw [← rowS_at l h, List.take_take]; rfl
  rw [e]
  simp [Sl.flat]
/-- Some are priced. -/
def mid (v : Version) (L : List Sl) (i : Nat) : List Sl := (L.take i).map (setY v) ++ L.drop i
theorem mid_len (v : Version) (L : List Sl) (i : Nat) : (mid v L i).length = L.length := by simp [mid]; omega
theorem mid_at {v : Version} {L : List Sl} {i : Nat} (hi : i < L.length) : (mid v L i)[i]? = some L[i] := by
  rw [mid, List.getElem?_append_right (by simp; omega)]
  simp [Nat.min_eq_left (Nat.le_of_lt hi), hi]
theorem mid_next {v : Version} {L : List Sl} {i : Nat} (hi : i < L.length) : mid v L i = (L.take i).map (setY v) ++ L[i] :: L.drop (i + 1) ∧ mid v L (i + 1) = (L.take i).map (setY v) ++ setY v L[i] :: L.drop (i + 1) := by
  refine ⟨by rw [mid, List.drop_eq_getElem_cons hi], ?_⟩
  rw [mid, List.take_succ_eq_append_getElem hi, List.map_append, List.append_assoc]; rfl
theorem mid_set {v : Version} {L : List Sl} {i : Nat} (hi : i < L.length) : (mid v L i).set i (setY v L[i]) = mid v L (i + 1) := by
  have hl : ((L.take i).map (setY v)).length = i := by simp; omega
  rw [(mid_next hi).1, (mid_next hi).2, List.set_append_right _ _ (by omega), hl, Nat.sub_self, List.set_cons_zero]
theorem mid_same {v : Version} {L : List Sl} {i : Nat} (hi : i < L.length) (h : setY v L[i] = L[i]) : mid v L (i + 1) = mid v L i := by
  rw [(mid_next hi).1, (mid_next hi).2, h]
theorem yearsE_at {v : Version} {L : List Sl} {i : Nat} (hi : i < L.length) : yearsE v (L.drop i) = if errY v L[i].st = 0 then yearsE v (L.drop (i + 1)) else errY v L[i].st := by
  rw [List.drop_eq_getElem_cons hi, yearsE]

set_option maxHeartbeats 8000000 in
theorem slOf_f (h : History) (T : List Version) (hl : h.changes.length ≤ 50000) (hc : h.terms.covers.length ≤ 100000) (hcc : ∀ c, c ∈ h.changes → c.covers.length ≤ 100000) (hT : T.length ≤ 100000) (hv : ∀ v, v ∈ T → v.age.length ≤ 100000 ∧ v.zone.length ≤ 100000 ∧ v.peril.length ≤ 100000) :
    Fun Tryz.prog 25 [.agg h.flat, .agg [vers T]] (.tup [slsA (ofS h T), int (ofE h T)]) := by
  have k1 := right12_f h (by omega)
  by_cases hr : histR h = true
  · rw [hr] at k1
    have k2 := tAt_f T false h.terms.from_ hT hv _ rfl
    rcases hver : verAt T h.terms.from_ with _ | v
    · have hE : ofE h T = 7 := by rw [ofE, if_pos hr, hver]
      have hS : ofS h T = [] := ofS_no (by rw [hE]; decide)
      rw [hE, hS]
      rw [hver] at k2
      refine fun_W mixed Tryz.func25 rfl (Nat.le_of_ble_eq_true rfl) (by kernel_rfl) fun cx hN hR hF hL => ?_; apply args_k; (case hA => (simp only [go_sem, ↓reduceIte]; rfl))
      (repeat' first|((try (revert K;refine bK ?_));refine' run trivial ?_;(repeat' first|exact True.intro|refine Lv.mk ?_ ?_|(refine oK ?_;intro K hK)|intro hq);all_goals refine Lf.mk ?_)|refine callZ cl51 (k1) ?_|refine callZ cl52 (k2) ?_)
    · have hE : ofE h T = yearsE v (cutH h) := by rw [ofE, if_pos hr, hver]
      have hS : ofS h T = if yearsE v (cutH h) = 0 then (cutH h).map (setY v) else [] := by rw [ofS, hE, hver]
      have kc := cut_f h hl hc hcc (cutH_ne hr)
      have hcv := cutH_covers (P := fun l => l.length ≤ 100000) hr hc hcc
      have hpz : ∀ s, s ∈ cutH h → s.yearly = 0 := fun s hs => (parted_mem (cutH_parted hr) s hs).2.2.2.1
      have hlen := cutH_len hr
      rw [hE, hS]
      rw [hver] at k2
      generalize cutH h = L at *
      refine fun_W mixed Tryz.func25 rfl (Nat.le_of_ble_eq_true rfl) (by kernel_rfl) fun cx hN hR hF hL => ?_; apply args_k; (case hA => (simp only [go_sem, ↓reduceIte]; rfl))
      (repeat' first|((try (revert K;refine bK ?_));refine' run trivial ?_;(repeat' first|exact True.intro|refine Lv.mk ?_ ?_|(refine oK ?_;intro K hK)|intro hq);all_goals refine Lf.mk ?_)|refine callZ cl51 (k1) ?_|refine callZ cl52 (k2) ?_)
      (apply callB' [4008] cl53 (kc); (case h1 | h2 | h3 => (simp only [go_sem, ↓reduceIte]; try rfl)); (case hl | hs | hfp | hfr => (simp [go_sem]; done)))
      (try ((try (revert K;refine bK ?_));refine' run trivial ?_;(repeat' first|exact True.intro|refine Lv.mk ?_ ?_|(refine oK ?_;intro K hK)|intro hq);all_goals refine Lf.mk ?_))
      refine loopW mixed (σ := {i : Nat // i ≤ L.length ∧ yearsE v (L.drop i) = yearsE v L}) (fun s => ⟨[(30, int s.1), (6, .ptr 2072 0), (8, .osl 4008 9 0 L.length), (28, .osl 4008 9 0 L.length), (29, int L.length)], [(2072, some ⟨67, v.flat⟩), (4008, some ⟨73, rowC Sl.flat (mid v L s.1)⟩)], 8000⟩) (fun s => L.length - s.1) id ⟨0, Nat.zero_le _, rfl⟩ (by rw [hN]; kernel_rfl) ?_ ?_
      · simp only [go_sem, ↓reduceIte, hF]
        exact ⟨rfl, rfl⟩
      · rintro ⟨i, h1, h2⟩
        simp only at h1 h2 ⊢
        by_cases hi : i < L.length
        · have e2 : IntKind.i64.wrap ((i : Int) + 1) = ((i + 1 : Nat) : Int) := by rw [wrap_id] <;> omega
          have b0 : ((i : Int) < (L.length : Int)) = True := eq_true (by omega)
          have hat := mid_at (v := v) hi
          have e3 := rowS_at (mid v L i) hat
          have e4 := rowS_year (mid v L i) hat
          have e5 := rowS_len (mid v L i)
          rw [mid_len] at e5
          have hms := mid_set (v := v) hi
          have hsm := mid_same (v := v) hi
          rw [yearsE_at hi] at h2
          have hcl := hcv _ (List.getElem_mem hi)
          have hyz := hpz _ (List.getElem_mem hi)
          have e7 : (rowC Sl.flat (mid v L i) = []) = False := eq_false (by rw [← List.length_eq_zero_iff]; omega)
          generalize L[i] = s at *
          have e6 : (i * 9 + 9 ≤ L.length * 9) = True := eq_true (by omega)
          cases hon : s.st.on
          · have hs : setY v s = s := by simp [setY, prY, hon, ← hyz]
            have he : errY v s.st = 0 := by simp [errY, hon]
            rw [if_pos he] at h2
            have hm := hsm hs
            (try ((try (revert K;refine bK ?_));refine' run (I b0 (I (decide_eq_true (of_eq_true b0)) (I e2 (I e3 (I e5 (I e6 (I e7 hon))))))) ?_;(repeat' first|exact True.intro|refine Lv.mk ?_ ?_|(refine oK ?_;intro K hK)|intro hq);all_goals refine Lf.mk ?_))
            refine ⟨⟨i + 1, hi, h2⟩, id, ?_, by show L.length - (i + 1) < L.length - i; omega⟩
            simp only [hm]
            simp only [go_sem, ↓reduceIte, hF]
          · have ky := year_f v s.st.rk s.st.rv s.st.ra s.st.rz s.st.covers false hcl
            have hs4 := e4 (yearP v s.st.rk s.st.rv s.st.ra s.st.rz s.st.covers).1
            have hsy : setY v s = ⟨s.from_, s.to_, s.st, (yearP v s.st.rk s.st.rv s.st.ra s.st.rz s.st.covers).1⟩ := by simp [setY, prY, hon]
            have hey : errY v s.st = (yearP v s.st.rk s.st.rv s.st.ra s.st.rz s.st.covers).2 := by simp [errY, hon]
            rw [← hsy, hms] at hs4
            rw [hey] at h2
            by_cases hz : (yearP v s.st.rk s.st.rv s.st.ra s.st.rz s.st.covers).2 = 0
            · rw [if_pos hz] at h2
              rw [hz] at ky
              (repeat' first|((try (revert K;refine bK ?_));refine' run (I b0 (I (decide_eq_true (of_eq_true b0)) (I e2 (I e3 (I e5 (I e6 (I e7 hon))))))) ?_;(repeat' first|exact True.intro|refine Lv.mk ?_ ?_|(refine oK ?_;intro K hK)|intro hq);all_goals refine Lf.mk ?_)|refine callZ cl54 (ky) ?_)
              refine ⟨⟨i + 1, hi, h2⟩, id, ?_, by show L.length - (i + 1) < L.length - i; omega⟩
              simp only [hs4]
              simp only [go_sem, ↓reduceIte, hF]
            · rw [if_neg hz] at h2
              rw [← h2, if_neg hz]
              (repeat' first|((try (revert K;refine bK ?_));refine' run (I b0 (I (decide_eq_true (of_eq_true b0)) (I e2 (I e3 (I e5 (I e6 (I e7 (I hon (I (eq_false hz) (decide_eq_false hz)))))))))) ?_;(repeat' first|exact True.intro|refine Lv.mk ?_ ?_|(refine oK ?_;intro K hK)|intro hq);all_goals refine Lf.mk ?_)|refine callZ cl54 (ky) ?_)
        · obtain rfl : i = L.length := by omega
          have b9 : ((L.length : Int) < (L.length : Int)) = False := eq_false (by omega)
          have hz : yearsE v L = 0 := by rw [← h2, List.drop_length]; rfl
          have hm : mid v L L.length = L.map (setY v) := by simp [mid]
          rw [hz, if_pos rfl]
          (try ((try (revert K;refine bK ?_));refine' run (I b9 (I (decide_eq_false (of_eq_false b9)) hm)) ?_;(repeat' first|exact True.intro|refine Lv.mk ?_ ?_|(refine oK ?_;intro K hK)|intro hq);all_goals refine Lf.mk ?_))
          exact ⟨rows_len (F := Sl.flat) (k := 9) (fun _ => rfl) _, fzo_rows (F := Sl.flat) (k := 9) (fun _ => rfl) Sl.data _ (by simp)⟩
  · rw [Bool.not_eq_true] at hr
    have hE : ofE h T = 1 := by rw [ofE, if_neg (by simp [hr])]
    have hS : ofS h T = [] := ofS_no (by rw [hE]; decide)
    rw [hE, hS]
    rw [hr] at k1
    refine fun_W mixed Tryz.func25 rfl (Nat.le_of_ble_eq_true rfl) (by kernel_rfl) fun cx hN hR hF hL => ?_; apply args_k; (case hA => (simp only [go_sem, ↓reduceIte]; rfl))
    (repeat' first|((try (revert K;refine bK ?_));refine' run trivial ?_;(repeat' first|exact True.intro|refine Lv.mk ?_ ?_|(refine oK ?_;intro K hK)|intro hq);all_goals refine Lf.mk ?_)|refine callZ cl51 (k1) ?_)
end Go.Proofs.YtkonljmmdifnaaaGreat.V
set_option linter.unusedSimpArgs false
set_option linter.unusedVariables false
namespace Go.Proofs.YtkonljmmdifnaaaGreat.V
open Go.RowKit
set_option maxRecDepth 100000
attribute [local go_sem] Option.toList_some Option.toList_none

def plainSl (s : St) : Sl := ⟨0, 0, s, 0⟩
attribute [local go_sem] plainSl initSt
theorem stAt_cons (s : St) (c : Change) (L : List Change) (d : Int) : stAt s (c :: L) d = if c.day ≤ d then stAt (doSt s c) L d else stAt s L d := by
  rw [stAt, List.filter_cons]
  by_cases h : c.day ≤ d
  · rw [if_pos (by simpa using h), if_pos h]; rfl
  · rw [if_neg (by simpa using h), if_neg h]; rfl
set_option maxHeartbeats 8000000 in
theorem rHolds_f (h : History) (Ix : List Int) (d : Int) (hI : ∀ x, x ∈ Ix → 0 ≤ x ∧ x.toNat < h.changes.length) (hIl : Ix.length ≤ 50000) (R : St) (hRs : stAt (initSt h.terms) (chO h Ix) d = R) :
    Fun Tryz.prog 60 [.agg h.flat, ints Ix, int d] (.agg (plainSl R).flat) := by
  refine fun_W mixed Tryz.func60 rfl (Nat.le_of_ble_eq_true rfl) (by kernel_rfl) fun cx hN hR hF hL => ?_; apply args_k; (case hA => (simp only [go_sem, ↓reduceIte]; rfl))
  (try ((try (revert K;refine bK ?_));refine' run trivial ?_;(repeat' first|exact True.intro|refine Lv.mk ?_ ?_|(refine oK ?_;intro K hK)|intro hq);all_goals refine Lf.mk ?_))
  refine loopW mixed (σ := {s : Nat × St // s.1 ≤ Ix.length ∧ stAt s.2 (chO h (Ix.drop s.1)) d = R})
    (fun s => ⟨[(8, int s.1.1), (1, ints Ix), (2, int d), (3, .ptr 0 0), (6, .ptr 8 0), (7, .ptr 1056 0)], [(0, some ⟨31, h.flat⟩), (8, some ⟨73, [int 0, int 0, bool false, int 0, int 0, int 0, int 0, .v (.slice none 0 0), int 0]⟩), (1056, some ⟨73, (plainSl s.1.2).flat⟩)], 4000⟩) (fun s => Ix.length - s.1.1) id ⟨(0, initSt h.terms), Nat.zero_le _, hRs⟩ (by rw [hN]; kernel_rfl) ?_ ?_
  · simp only [go_sem, ↓reduceIte, hF]
    all_goals rfl
  · rintro ⟨⟨i, s⟩, h0, h5⟩
    simp only at h0 h5 ⊢
    by_cases hi : i < Ix.length
    · have hx := hI Ix[i] (List.getElem_mem hi)
      have e1 : (Ix.map irow)[i]? = some [int Ix[i]] := by rw [List.getElem?_map, List.getElem?_eq_getElem hi]; rfl
      have e2 : IntKind.i64.wrap ((i : Int) + 1) = ((i + 1 : Nat) : Int) := by rw [wrap_id] <;> omega
      have hcx : h.changes[(Ix[i]).toNat]? = some h.changes[(Ix[i]).toNat] := List.getElem?_eq_getElem hx.2
      rw [chO_drop hi hcx, stAt_cons] at h5
      generalize h.changes[(Ix[i]).toNat] = c at *
      have e3 : (h.changes.map Change.flat)[(Ix[i]).toNat]? = some c.flat := by rw [List.getElem?_map, hcx]; rfl
      generalize Ix[i] = x at *
      have b0 : ((i : Int) < (Ix.length : Int)) = True := eq_true (by omega)
      have b1 : (0 ≤ x) = True := eq_true hx.1
      have b2 : (x < (h.changes.length : Int)) = True := eq_true (by omega)
      by_cases hd : c.day ≤ d
      · rw [if_pos hd] at h5
        have g0 : (c.day > d) = False := eq_false (by omega)
        by_cases h1 : c.kind = 1
        · have hs : doSt s c = ⟨s.on, c.rk, c.rv, c.ra, c.rz, s.covers⟩ := by simp [doSt, h1]
          (try ((try (revert K;refine bK ?_));refine' run (I b0 (I (decide_eq_true (of_eq_true b0)) (I g0 (I (decide_eq_false (of_eq_false g0)) (I e1 (I e2 (I e3 (I b1 (I b2 h1))))))))) ?_;(repeat' first|exact True.intro|refine Lv.mk ?_ ?_|(refine oK ?_;intro K hK)|intro hq);all_goals refine Lf.mk ?_))
          refine ⟨⟨(i + 1, doSt s c), hi, h5⟩, id, ?_, by show Ix.length - (i + 1) < Ix.length - i; omega⟩
          simp only [hs]
          simp only [go_sem, ↓reduceIte, hF]
        by_cases h2 : c.kind = 2
        · have hs : doSt s c = ⟨s.on, s.rk, s.rv, s.ra, s.rz, c.covers⟩ := by simp [doSt, h2]
          (try ((try (revert K;refine bK ?_));refine' run (I b0 (I (decide_eq_true (of_eq_true b0)) (I g0 (I (decide_eq_false (of_eq_false g0)) (I e1 (I e2 (I e3 (I b1 (I b2 h2))))))))) ?_;(repeat' first|exact True.intro|refine Lv.mk ?_ ?_|(refine oK ?_;intro K hK)|intro hq);all_goals refine Lf.mk ?_))
          refine ⟨⟨(i + 1, doSt s c), hi, h5⟩, id, ?_, by show Ix.length - (i + 1) < Ix.length - i; omega⟩
          simp only [hs]
          simp only [go_sem, ↓reduceIte, hF]
        by_cases h3 : c.kind = 3
        · have hs : doSt s c = ⟨false, s.rk, s.rv, s.ra, s.rz, s.covers⟩ := by simp [doSt, h3]
          (try ((try (revert K;refine bK ?_));refine' run (I b0 (I (decide_eq_true (of_eq_true b0)) (I g0 (I (decide_eq_false (of_eq_false g0)) (I e1 (I e2 (I e3 (I b1 (I b2 h3))))))))) ?_;(repeat' first|exact True.intro|refine Lv.mk ?_ ?_|(refine oK ?_;intro K hK)|intro hq);all_goals refine Lf.mk ?_))
          refine ⟨⟨(i + 1, doSt s c), hi, h5⟩, id, ?_, by show Ix.length - (i + 1) < Ix.length - i; omega⟩
          simp only [hs]
          simp only [go_sem, ↓reduceIte, hF]
        by_cases h4 : c.kind = 4
        · have hs : doSt s c = ⟨true, s.rk, s.rv, s.ra, s.rz, s.covers⟩ := by simp [doSt, h4]
          (try ((try (revert K;refine bK ?_));refine' run (I b0 (I (decide_eq_true (of_eq_true b0)) (I g0 (I (decide_eq_false (of_eq_false g0)) (I e1 (I e2 (I e3 (I b1 (I b2 h4))))))))) ?_;(repeat' first|exact True.intro|refine Lv.mk ?_ ?_|(refine oK ?_;intro K hK)|intro hq);all_goals refine Lf.mk ?_))
          refine ⟨⟨(i + 1, doSt s c), hi, h5⟩, id, ?_, by show Ix.length - (i + 1) < Ix.length - i; omega⟩
          simp only [hs]
          simp only [go_sem, ↓reduceIte, hF]
        · have hs : doSt s c = s := by simp [doSt, h1, h2, h3, h4]
          (try ((try (revert K;refine bK ?_));refine' run (I b0 (I (decide_eq_true (of_eq_true b0)) (I g0 (I (decide_eq_false (of_eq_false g0)) (I e1 (I e2 (I e3 (I b1 (I b2 (I (eq_false h1) (I (eq_false h2) (I (eq_false h3) (I (eq_false h4) (I (decide_eq_false h1) (I (decide_eq_false h2) (I (decide_eq_false h3) (decide_eq_false h4))))))))))))))))) ?_;(repeat' first|exact True.intro|refine Lv.mk ?_ ?_|(refine oK ?_;intro K hK)|intro hq);all_goals refine Lf.mk ?_))
          refine ⟨⟨(i + 1, doSt s c), hi, h5⟩, id, ?_, by show Ix.length - (i + 1) < Ix.length - i; omega⟩
          simp only [hs]
          simp only [go_sem, ↓reduceIte, hF]
      · rw [if_neg hd] at h5
        have g0 : (c.day > d) = True := eq_true (by omega)
        (try ((try (revert K;refine bK ?_));refine' run (I b0 (I (decide_eq_true (of_eq_true b0)) (I g0 (I (decide_eq_true (of_eq_true g0)) (I e1 (I e2 (I e3 (I b1 b2)))))))) ?_;(repeat' first|exact True.intro|refine Lv.mk ?_ ?_|(refine oK ?_;intro K hK)|intro hq);all_goals refine Lf.mk ?_))
        refine ⟨⟨(i + 1, s), hi, h5⟩, id, ?_, by show Ix.length - (i + 1) < Ix.length - i; omega⟩
        simp only [go_sem, ↓reduceIte, hF]
    · obtain rfl : i = Ix.length := by omega
      rw [List.drop_length, show chO h [] = [] from rfl] at h5
      obtain rfl : s = R := h5
      have b9 : ((Ix.length : Int) < (Ix.length : Int)) = False := eq_false (by omega)
      (try ((try (revert K;refine bK ?_));refine' run (I b9 (decide_eq_false (of_eq_false b9))) ?_;(repeat' first|exact True.intro|refine Lv.mk ?_ ?_|(refine oK ?_;intro K hK)|intro hq);all_goals refine Lf.mk ?_))
end Go.Proofs.YtkonljmmdifnaaaGreat.V
set_option linter.unusedSimpArgs false
set_option linter.unusedVariables false
namespace Go.Proofs.YtkonljmmdifnaaaGreat.V
open Go.RowKit
set_option maxRecDepth 100000
attribute [local go_sem] Option.toList_some Option.toList_none verO plainSl Int.reduceEq Int.reduceNe

theorem rowS_cell (l : List Sl) {i : Nat} {s : Sl} (h : l[i]? = some s) (j : Nat) (hj : j < 9) : (rowC Sl.flat l)[i * 9 + j]? = s.flat[j]? := by
  rw [← rowS_at l h, List.getElem?_take, if_pos hj, List.getElem?_drop]
theorem rowS_risk (l : List Sl) {i : Nat} {s : Sl} (h : l[i]? = some s) : List.take 4 (List.drop (i * 9 + 3) (rowC Sl.flat l)) = [int s.st.rk, int s.st.rv, int s.st.ra, int s.st.rz] := by
  have e : List.take 4 (List.drop 3 (List.take 9 (List.drop (i * 9) (rowC Sl.flat l)))) = List.take 4 (List.drop (i * 9 + 3) (rowC Sl.flat l)) := by
    rw [List.drop_take, List.take_take, List.drop_drop]; rfl
  rw [← e, rowS_at l h]; rfl
set_option maxHeartbeats 16000000 in
theorem rSlOf_f (h : History) (T : List Version) (ho : h.ok) (hl : h.changes.length ≤ 50000) (hc : h.terms.covers.length ≤ 100000) (hcc : ∀ c, c ∈ h.changes → c.covers.length ≤ 100000) (hT : T.length ≤ 100000) :
    Fun Tryz.prog 29 [.agg h.flat, .agg [vers T]] (.tup [slsA (ofS h T), int (ofE h T)]) := by
  have k1 := rRight12_f h ho (by omega)
  by_cases hr : histR h = true
  · rw [hr] at k1
    have k2 := rAt_f T false h.terms.from_ hT _ rfl
    rcases hver : verAt T h.terms.from_ with _ | v
    · have hE : ofE h T = 7 := by rw [ofE, if_pos hr, hver]
      have hS : ofS h T = [] := ofS_no (by rw [hE]; decide)
      rw [hE, hS]
      rw [hver] at k2
      refine fun_W mixed Tryz.func29 rfl (Nat.le_of_ble_eq_true rfl) (by kernel_rfl) fun cx hN hR hF hL => ?_; apply args_k; (case hA => (simp only [go_sem, ↓reduceIte]; rfl))
      (repeat' first|((try (revert K;refine bK ?_));refine' run trivial ?_;(repeat' first|exact True.intro|refine Lv.mk ?_ ?_|(refine oK ?_;intro K hK)|intro hq);all_goals refine Lf.mk ?_)|refine callZ cl57 (k1) ?_|refine callZ cl58 (k2) ?_)
    · have hE : ofE h T = yearsE v (cutH h) := by rw [ofE, if_pos hr, hver]
      have hS : ofS h T = if yearsE v (cutH h) = 0 then (cutH h).map (setY v) else [] := by rw [ofS, hE, hver]
      have hcv := cutH_covers (P := fun l => l.length ≤ 100000) hr hc hcc
      have hco := cutH_covers (P := fun l => ∀ c, c ∈ l → c.ok) hr ho.2.1.2 (fun c hm => (ho.2.2 c hm).2)
      have hpz : ∀ s, s ∈ cutH h → s.yearly = 0 := fun s hs => (parted_mem (cutH_parted hr) s hs).2.2.2.1
      have hlen := cutH_len hr
      have hRf := cutH_ref hr
      have kO := refOrder_f h hl
      have hI : ∀ x, x ∈ orderL h → 0 ≤ x ∧ x.toNat < h.changes.length := fun x hx => by have := orderL_place hx; unfold placeOf at this; omega
      have hIl : (orderL h).length ≤ 50000 := by rw [orderL_len]; exact hl
      have kH : ∀ d, Fun Tryz.prog 60 [.agg h.flat, ints (orderL h), int d] (.agg (plainSl (fAt h d)).flat) := fun d => rHolds_f h (orderL h) d hI hIl _ (by rw [chO_eq]; rfl)
      have kH0 := kH h.terms.from_
      rw [hE, hS]
      rw [hver] at k2
      rw [← chO_eq] at hRf
      generalize orderL h = Ix at *
      generalize cutH h = L at *
      refine fun_W mixed Tryz.func29 rfl (Nat.le_of_ble_eq_true rfl) (by kernel_rfl) fun cx hN hR hF hL => ?_; apply args_k; (case hA => (simp only [go_sem, ↓reduceIte]; rfl))
      (repeat' first|((try (revert K;refine bK ?_));refine' run trivial ?_;(repeat' first|exact True.intro|refine Lv.mk ?_ ?_|(refine oK ?_;intro K hK)|intro hq);all_goals refine Lf.mk ?_)|refine callZ cl57 (k1) ?_|refine callZ cl58 (k2) ?_|refine callZ cl59 (kO) ?_|refine callZ cl60 (kH0) ?_)
      refine loop_nil 10 10001 9 73 rfl (Nat.le_of_ble_eq_true rfl) ?_
      refine loopW mixed (σ := {s : Nat × List Sl × Int × St // s.1 ≤ Ix.length ∧ s.2.1.length ≤ s.1 ∧ L = refG (fAt h) s.2.1 s.2.2.1 s.2.2.2 ((chO h (Ix.drop s.1)).map Change.day) h.terms.to_})
        (fun s => ⟨[(13, int s.1.1), (10, .osl 10001 9 0 s.1.2.1.length), (11, int s.1.2.2.1), (2, .ptr 0 0), (9, ints Ix), (12, .ptr 8032 0), (7, .ptr 3072 0)], [(0, some ⟨31, h.flat⟩), (3072, some ⟨67, v.flat⟩), (8032, some ⟨73, (plainSl s.1.2.2.2).flat⟩), (10001, some ⟨73, rowC Sl.flat s.1.2.1⟩)], 11000⟩) (fun s => Ix.length - s.1.1) id ⟨(0, [], h.terms.from_, fAt h h.terms.from_), Nat.zero_le _, Nat.le_refl _, hRf⟩ (by rw [hN]; kernel_rfl) ?_ ?_
      · simp only [go_sem, ↓reduceIte, hF]
        exact ⟨rfl, rfl⟩
      · rintro ⟨⟨i, O, a, s⟩, h1, h2, h3⟩
        simp only at h1 h2 h3 ⊢
        by_cases hi : i < Ix.length
        · have hx := hI Ix[i] (List.getElem_mem hi)
          have e1 : (Ix.map irow)[i]? = some [int Ix[i]] := by rw [List.getElem?_map, List.getElem?_eq_getElem hi]; rfl
          have e2 : IntKind.i64.wrap ((i : Int) + 1) = ((i + 1 : Nat) : Int) := by rw [wrap_id] <;> omega
          have hcx : h.changes[(Ix[i]).toNat]? = some h.changes[(Ix[i]).toNat] := List.getElem?_eq_getElem hx.2
          rw [chO_drop hi hcx, List.map_cons, refG] at h3
          generalize h.changes[(Ix[i]).toNat] = c at *
          have e3 : (h.changes.map Change.flat)[(Ix[i]).toNat]? = some c.flat := by rw [List.getElem?_map, hcx]; rfl
          generalize Ix[i] = x at *
          have b0 : ((i : Int) < (Ix.length : Int)) = True := eq_true (by omega)
          have b1 : (0 ≤ x) = True := eq_true hx.1
          have b2 : (x < (h.changes.length : Int)) = True := eq_true (by omega)
          have kH1 := kH c.day
          have kl := like_f (plainSl s) (plainSl (fAt h c.day))
          generalize fAt h c.day = s2 at *
          by_cases hq : s = s2
          · rw [if_pos hq] at h3
            rw [show decide ((plainSl s).st = (plainSl s2).st) = true from decide_eq_true hq] at kl
            (repeat' first|((try (revert K;refine bK ?_));refine' run (I b0 (I (decide_eq_true (of_eq_true b0)) (I e1 (I e2 (I e3 (I b1 b2)))))) ?_;(repeat' first|exact True.intro|refine Lv.mk ?_ ?_|(refine oK ?_;intro K hK)|intro hq);all_goals refine Lf.mk ?_)|refine callZ cl60 (kH1) ?_|refine callZ cl61 (kl) ?_)
            refine ⟨⟨(i + 1, O, a, s), hi, by show O.length ≤ i + 1; omega, h3⟩, id, ?_, by show Ix.length - (i + 1) < Ix.length - i; omega⟩
            simp only [go_sem, ↓reduceIte, hF]
          · rw [if_neg hq] at h3
            rw [show decide ((plainSl s).st = (plainSl s2).st) = false from decide_eq_false hq] at kl
            have hO := rowS_len O
            have hsn := rowS_snoc O ⟨a, c.day, s, 0⟩
            (repeat' first|((try (revert K;refine bK ?_));refine' run (I b0 (I (decide_eq_true (of_eq_true b0)) (I e1 (I e2 (I e3 (I b1 b2)))))) ?_;(repeat' first|exact True.intro|refine Lv.mk ?_ ?_|(refine oK ?_;intro K hK)|intro hq);all_goals refine Lf.mk ?_)|refine callZ cl60 (kH1) ?_|refine callZ cl61 (kl) ?_)
            · refine ⟨⟨(i + 1, O ++ [⟨a, c.day, s, 0⟩], c.day, s2), hi, by simp; omega, h3⟩, nm1 10001 16024, ?_, by show Ix.length - (i + 1) < Ix.length - i; omega⟩
              simp only [List.length_append, List.length_singleton, hsn]
              simp only [go_sem, ↓reduceIte, hF, List.map_append, List.all_append]
            · exact ⟨hO, by simp [maxLen]; omega⟩
        · obtain rfl : i = Ix.length := by omega
          rw [List.drop_length, show chO h [] = [] from rfl, List.map_nil, refG] at h3
          have b9 : ((Ix.length : Int) < (Ix.length : Int)) = False := eq_false (by omega)
          have hO := rowS_len O
          have hsn := rowS_snoc O ⟨a, h.terms.to_, s, 0⟩
          rw [← h3] at hsn
          have hLl : O.length + 1 = L.length := by rw [h3]; simp
          (try ((try (revert K;refine bK ?_));refine' run (I b9 (decide_eq_false (of_eq_false b9))) ?_;(repeat' first|exact True.intro|refine Lv.mk ?_ ?_|(refine oK ?_;intro K hK)|intro hq);all_goals refine Lf.mk ?_))
          · have hsn2 : rowC Sl.flat O ++ [int a, int h.terms.to_, bool s.on, int s.rk, int s.rv, int s.ra, int s.rz, covs s.covers, int 0] = rowC Sl.flat L := hsn.symm
            have hm0 : mid v L 0 = L := rfl
            refine loopW mixed (σ := {i : Nat // i ≤ L.length ∧ yearsE v (L.drop i) = yearsE v L}) (fun s => ⟨[(16, int s.1), (7, .ptr 3072 0), (10, .osl 13024 9 0 L.length)], [(3072, some ⟨67, v.flat⟩), (13024, some ⟨73, rowC Sl.flat (mid v L s.1)⟩)], 15000⟩) (fun s => L.length - s.1) id ⟨0, Nat.zero_le _, rfl⟩ (by rw [hN]; kernel_rfl) ?_ ?_
            · simp only [go_sem, ↓reduceIte, hF, hLl, hsn2]
              exact ⟨rfl, rfl⟩
            · rintro ⟨i, g1, g2⟩
              simp only at g1 g2 ⊢
              clear hsn hsn2 h3 hRf
              by_cases hi : i < L.length
              · have e2 : IntKind.i64.wrap ((i : Int) + 1) = ((i + 1 : Nat) : Int) := by rw [wrap_id] <;> omega
                have b0 : ((i : Int) < (L.length : Int)) = True := eq_true (by omega)
                have hat := mid_at (v := v) hi
                have e3 := rowS_at (mid v L i) hat
                have e4 := rowS_year (mid v L i) hat
                have e8 := rowS_cell (mid v L i) hat 2 (by omega)
                have e9 := rowS_risk (mid v L i) hat
                have e10 := rowS_cell (mid v L i) hat 7 (by omega)
                have e5 := rowS_len (mid v L i)
                rw [mid_len] at e5
                have hms := mid_set (v := v) hi
                have hsm := mid_same (v := v) hi
                rw [yearsE_at hi] at g2
                have hcl := hcv _ (List.getElem_mem hi)
                have hcc2 := hco _ (List.getElem_mem hi)
                have hyz := hpz _ (List.getElem_mem hi)
                have e7 : (rowC Sl.flat (mid v L i) = []) = False := eq_false (by rw [← List.length_eq_zero_iff]; omega)
                generalize L[i] = s at *
                have e6 : (i * 9 + 9 ≤ L.length * 9) = True := eq_true (by omega)
                have e11 : (i * 9 + 3 + 4 ≤ L.length * 9) = True := eq_true (by omega)
                have e8 : (rowC Sl.flat (mid v L i))[i * 9 + 2]? = some (bool s.st.on) := e8
                have e10 : (rowC Sl.flat (mid v L i))[i * 9 + 7]? = some (covs s.st.covers) := e10
                cases hon : s.st.on
                · have hs : setY v s = s := by simp [setY, prY, hon, ← hyz]
                  have he : errY v s.st = 0 := by simp [errY, hon]
                  rw [if_pos he] at g2
                  have hm := hsm hs
                  (try ((try (revert K;refine bK ?_));refine' run (I b0 (I (decide_eq_true (of_eq_true b0)) (I e2 (I e3 (I e5 (I e6 (I e7 (I e8 (I e9 (I e10 (I e11 hon))))))))))) ?_;(repeat' first|exact True.intro|refine Lv.mk ?_ ?_|(refine oK ?_;intro K hK)|intro hq);all_goals refine Lf.mk ?_))
                  refine ⟨⟨i + 1, hi, g2⟩, id, ?_, by show L.length - (i + 1) < L.length - i; omega⟩
                  simp only [hm]
                  simp only [go_sem, ↓reduceIte, hF]
                · have ky := rYear_f v s.st.rk s.st.rv s.st.ra s.st.rz s.st.covers false hcl hcc2
                  have hs4 := e4 (yearP v s.st.rk s.st.rv s.st.ra s.st.rz s.st.covers).1
                  have hsy : setY v s = ⟨s.from_, s.to_, s.st, (yearP v s.st.rk s.st.rv s.st.ra s.st.rz s.st.covers).1⟩ := by simp [setY, prY, hon]
                  have hey : errY v s.st = (yearP v s.st.rk s.st.rv s.st.ra s.st.rz s.st.covers).2 := by simp [errY, hon]
                  rw [← hsy, hms] at hs4
                  rw [hey] at g2
                  by_cases hz : (yearP v s.st.rk s.st.rv s.st.ra s.st.rz s.st.covers).2 = 0
                  · rw [if_pos hz] at g2
                    rw [hz] at ky
                    (repeat' first|((try (revert K;refine bK ?_));refine' run (I b0 (I (decide_eq_true (of_eq_true b0)) (I e2 (I e3 (I e5 (I e6 (I e7 (I e8 (I e9 (I e10 (I e11 hon))))))))))) ?_;(repeat' first|exact True.intro|refine Lv.mk ?_ ?_|(refine oK ?_;intro K hK)|intro hq);all_goals refine Lf.mk ?_)|refine callZ cl62 (ky) ?_)
                    refine ⟨⟨i + 1, hi, g2⟩, id, ?_, by show L.length - (i + 1) < L.length - i; omega⟩
                    simp only [hs4]
                    simp only [go_sem, ↓reduceIte, hF]
                  · rw [if_neg hz] at g2
                    rw [← g2, if_neg hz]
                    (repeat' first|((try (revert K;refine bK ?_));refine' run (I b0 (I (decide_eq_true (of_eq_true b0)) (I e2 (I e3 (I e5 (I e6 (I e7 (I e8 (I e9 (I e10 (I e11 (I hon (I (eq_false hz) (decide_eq_false hz)))))))))))))) ?_;(repeat' first|exact True.intro|refine Lv.mk ?_ ?_|(refine oK ?_;intro K hK)|intro hq);all_goals refine Lf.mk ?_)|refine callZ cl62 (ky) ?_)
              · obtain rfl : i = L.length := by omega
                have b8 : ((L.length : Int) < (L.length : Int)) = False := eq_false (by omega)
                have hz : yearsE v L = 0 := by rw [← g2, List.drop_length]; rfl
                have hm : mid v L L.length = L.map (setY v) := by simp [mid]
                rw [hz, if_pos rfl]
                (try ((try (revert K;refine bK ?_));refine' run (I b8 (I (decide_eq_false (of_eq_false b8)) hm)) ?_;(repeat' first|exact True.intro|refine Lv.mk ?_ ?_|(refine oK ?_;intro K hK)|intro hq);all_goals refine Lf.mk ?_))
                exact ⟨rows_len (F := Sl.flat) (k := 9) (fun _ => rfl) _, fzo_rows (F := Sl.flat) (k := 9) (fun _ => rfl) Sl.data _ (by simp)⟩
          · exact ⟨hO, by simp [maxLen]; omega⟩
  · rw [Bool.not_eq_true] at hr
    have hE : ofE h T = 1 := by rw [ofE, if_neg (by simp [hr])]
    have hS : ofS h T = [] := ofS_no (by rw [hE]; decide)
    rw [hE, hS]
    rw [hr] at k1
    refine fun_W mixed Tryz.func29 rfl (Nat.le_of_ble_eq_true rfl) (by kernel_rfl) fun cx hN hR hF hL => ?_; apply args_k; (case hA => (simp only [go_sem, ↓reduceIte]; rfl))
    (repeat' first|((try (revert K;refine bK ?_));refine' run trivial ?_;(repeat' first|exact True.intro|refine Lv.mk ?_ ?_|(refine oK ?_;intro K hK)|intro hq);all_goals refine Lf.mk ?_)|refine callZ cl57 (k1) ?_)
end Go.Proofs.YtkonljmmdifnaaaGreat.V
set_option linter.unusedSimpArgs false
set_option linter.unusedVariables false
namespace Go.Proofs.YtkonljmmdifnaaaGreat.V
open Go.RowKit
set_option maxRecDepth 100000
attribute [local go_sem] Option.toList_some Option.toList_none Int.reduceEq Int.reduceNe

/-- What is of a size that is looked at. -/
def Small (h : History) (T : List Version) : Prop := (h.changes.length ≤ 1000 ∧ h.terms.covers.length ≤ 1000 ∧ ∀ c, c ∈ h.changes → c.covers.length ≤ 1000) ∧ T.length ≤ 1000 ∧ ∀ v, v ∈ T → v.age.length ≤ 1000 ∧ v.zone.length ≤ 1000 ∧ v.peril.length ≤ 1000
theorem Small.known {h : History} {T : List Version} (hs : Small h T) (b : Int) : Small (knownH h b) T := by
  obtain ⟨⟨h1, h2, h3⟩, h4⟩ := hs
  exact ⟨⟨Nat.le_trans (List.length_filter_le _ _) h1, h2, fun c hc => h3 c (List.mem_filter.1 hc).1⟩, h4⟩
theorem History.ok.known {h : History} (ho : h.ok) (b : Int) : (knownH h b).ok := ⟨ho.1, ho.2.1, fun c hc => ho.2.2 c (List.mem_filter.1 hc).1⟩
def kE (h : History) (T : List Version) (b : Int) : Int := if b < h.booked then 7 else ofE (knownH h b) T
def kS (h : History) (T : List Version) (b : Int) : List Sl := if b < h.booked then [] else ofS (knownH h b) T
theorem kS_no {h : History} {T : List Version} {b : Int} (he : kE h T b ≠ 0) : kS h T b = [] := by
  unfold kE at he
  unfold kS
  split
  · rfl
  · rename_i hb; rw [if_neg hb] at he; exact ofS_no he
theorem kE_ok {h : History} {T : List Version} {b : Int} (he : kE h T b = 0) : ¬ b < h.booked ∧ ofE (knownH h b) T = 0 ∧ kS h T b = ofS (knownH h b) T := by
  unfold kE at he
  by_cases hb : b < h.booked
  · rw [if_pos hb] at he; exact absurd he (by decide)
  · rw [if_neg hb] at he; exact ⟨hb, he, by rw [kS, if_neg hb]⟩
theorem ofS_len {h : History} {T : List Version} : (ofS h T).length ≤ h.changes.length + 1 := by
  by_cases he : ofE h T = 0
  · obtain ⟨hr, v, -, hs⟩ := ofE_ok he
    rw [hs, List.length_map]; exact cutH_len hr
  · rw [ofS_no he]; simp
theorem kS_len {h : History} {T : List Version} {b : Int} : (kS h T b).length ≤ h.changes.length + 1 := by
  unfold kS
  split
  · simp
  · exact Nat.le_trans ofS_len (Nat.add_le_add_right (List.length_filter_le _ _) 1)

theorem knSl_f (h : History) (T : List Version) (b : Int) (hs : Small h T) : Fun Tryz.prog 12 [.agg h.flat, .agg [vers T], int b] (.tup [slsA (kS h T b), int (kE h T b)]) := by
  have hs2 := hs.known b
  obtain ⟨⟨h1, h2, h3⟩, h4, h5⟩ := hs
  obtain ⟨⟨g1, g2, g3⟩, -, -⟩ := hs2
  have k1 := knAt_f h b (by omega) (by omega) (fun c hc => by have := h3 c hc; omega)
  by_cases hb : b < h.booked
  · rw [kS, kE, if_pos hb, if_pos hb]
    rw [atE, if_pos hb] at k1
    refine fun_W mixed Tryz.func12 rfl (Nat.le_of_ble_eq_true rfl) (by kernel_rfl) fun cx hN hR hF hL => ?_; apply args_k; (case hA => (simp only [go_sem, ↓reduceIte]; rfl))
    (repeat' first|((try (revert K;refine bK ?_));refine' run trivial ?_;(repeat' first|exact True.intro|refine Lv.mk ?_ ?_|(refine oK ?_;intro K hK)|intro hq);all_goals refine Lf.mk ?_)|refine callZ cl27 (k1) ?_)
  · have k2 := slOf_f (knownH h b) T (by omega) (by omega) (fun c hc => by have := g3 c hc; omega) (by omega) (fun v hv => by have := h5 v hv; omega)
    rw [kS, kE, if_neg hb, if_neg hb]
    rw [atE, atH, if_neg hb, if_neg hb] at k1
    generalize ofE (knownH h b) T = e at *
    generalize ofS (knownH h b) T = l at *
    generalize knownH h b = g at *
    refine fun_W mixed Tryz.func12 rfl (Nat.le_of_ble_eq_true rfl) (by kernel_rfl) fun cx hN hR hF hL => ?_; apply args_k; (case hA => (simp only [go_sem, ↓reduceIte]; rfl))
    (repeat' first|((try (revert K;refine bK ?_));refine' run trivial ?_;(repeat' first|exact True.intro|refine Lv.mk ?_ ?_|(refine oK ?_;intro K hK)|intro hq);all_goals refine Lf.mk ?_)|refine callZ cl27 (k1) ?_|refine callZ cl25 (k2) ?_)
theorem rKnSl_f (h : History) (T : List Version) (b : Int) (ho : h.ok) (hs : Small h T) : Fun Tryz.prog 13 [.agg h.flat, .agg [vers T], int b] (.tup [slsA (kS h T b), int (kE h T b)]) := by
  have hs2 := hs.known b
  have ho2 := ho.known b
  obtain ⟨⟨h1, h2, h3⟩, h4, h5⟩ := hs
  obtain ⟨⟨g1, g2, g3⟩, -, -⟩ := hs2
  have k1 := rKnAt_f h b (by omega)
  by_cases hb : b < h.booked
  · rw [kS, kE, if_pos hb, if_pos hb]
    rw [atE, if_pos hb] at k1
    refine fun_W mixed Tryz.func13 rfl (Nat.le_of_ble_eq_true rfl) (by kernel_rfl) fun cx hN hR hF hL => ?_; apply args_k; (case hA => (simp only [go_sem, ↓reduceIte]; rfl))
    (repeat' first|((try (revert K;refine bK ?_));refine' run trivial ?_;(repeat' first|exact True.intro|refine Lv.mk ?_ ?_|(refine oK ?_;intro K hK)|intro hq);all_goals refine Lf.mk ?_)|refine callZ cl28 (k1) ?_)
  · have k2 := rSlOf_f (knownH h b) T ho2 (by omega) (by omega) (fun c hc => by have := g3 c hc; omega) (by omega)
    rw [kS, kE, if_neg hb, if_neg hb]
    rw [atE, atH, if_neg hb, if_neg hb] at k1
    generalize ofE (knownH h b) T = e at *
    generalize ofS (knownH h b) T = l at *
    generalize knownH h b = g at *
    refine fun_W mixed Tryz.func13 rfl (Nat.le_of_ble_eq_true rfl) (by kernel_rfl) fun cx hN hR hF hL => ?_; apply args_k; (case hA => (simp only [go_sem, ↓reduceIte]; rfl))
    (repeat' first|((try (revert K;refine bK ?_));refine' run trivial ?_;(repeat' first|exact True.intro|refine Lv.mk ?_ ?_|(refine oK ?_;intro K hK)|intro hq);all_goals refine Lf.mk ?_)|refine callZ cl28 (k1) ?_|refine callZ cl29 (k2) ?_)
attribute [local go_sem] slO zO zSl
theorem rAlike_f (X Y : List Sl) (d : Int) (hX : X.length ≤ 100000) (hY : Y.length ≤ 100000) : Fun Tryz.prog 19 [slsA X, slsA Y, int d] (bool (alikeS X Y d)) := by
  have k1 := rSlAt_f X false d _ rfl (by omega)
  have k2 := rSlAt_f Y false d _ rfl (by omega)
  have k3 := rSlSame_f (zO (slAt X d)) (zO (slAt Y d))
  unfold alikeS
  generalize slAt X d = x at *
  generalize slAt Y d = y at *
  rcases x with _ | x <;> rcases y with _ | y
  · refine fun_W mixed Tryz.func19 rfl (Nat.le_of_ble_eq_true rfl) (by kernel_rfl) fun cx hN hR hF hL => ?_; apply args_k; (case hA => (simp only [go_sem, ↓reduceIte]; rfl))
    (repeat' first|((try (revert K;refine bK ?_));refine' run trivial ?_;(repeat' first|exact True.intro|refine Lv.mk ?_ ?_|(refine oK ?_;intro K hK)|intro hq);all_goals refine Lf.mk ?_)|refine callZ cl40 (k1) ?_|refine callZ cl40 (k2) ?_|(with_reducible apply callFX [] cl30 (k3);(case hy|hl|hk=>(simp only [go_sem, ↓reduceIte];try with_unfolding_all rfl));(case hz=>(with_unfolding_all simp [go_sem,fzo];done))))
    all_goals (first | rfl | simp)
  · refine fun_W mixed Tryz.func19 rfl (Nat.le_of_ble_eq_true rfl) (by kernel_rfl) fun cx hN hR hF hL => ?_; apply args_k; (case hA => (simp only [go_sem, ↓reduceIte]; rfl))
    (repeat' first|((try (revert K;refine bK ?_));refine' run trivial ?_;(repeat' first|exact True.intro|refine Lv.mk ?_ ?_|(refine oK ?_;intro K hK)|intro hq);all_goals refine Lf.mk ?_)|refine callZ cl40 (k1) ?_|refine callZ cl40 (k2) ?_|(with_reducible apply callFX [] cl30 (k3);(case hy|hl|hk=>(simp only [go_sem, ↓reduceIte];try with_unfolding_all rfl));(case hz=>(with_unfolding_all simp [go_sem,fzo];done))))
    all_goals (first | rfl | simp)
  · refine fun_W mixed Tryz.func19 rfl (Nat.le_of_ble_eq_true rfl) (by kernel_rfl) fun cx hN hR hF hL => ?_; apply args_k; (case hA => (simp only [go_sem, ↓reduceIte]; rfl))
    (repeat' first|((try (revert K;refine bK ?_));refine' run trivial ?_;(repeat' first|exact True.intro|refine Lv.mk ?_ ?_|(refine oK ?_;intro K hK)|intro hq);all_goals refine Lf.mk ?_)|refine callZ cl40 (k1) ?_|refine callZ cl40 (k2) ?_|(with_reducible apply callFX [] cl30 (k3);(case hy|hl|hk=>(simp only [go_sem, ↓reduceIte];try with_unfolding_all rfl));(case hz=>(with_unfolding_all simp [go_sem,fzo];done))))
    all_goals (first | rfl | simp)
  · refine fun_W mixed Tryz.func19 rfl (Nat.le_of_ble_eq_true rfl) (by kernel_rfl) fun cx hN hR hF hL => ?_; apply args_k; (case hA => (simp only [go_sem, ↓reduceIte]; rfl))
    (repeat' first|((try (revert K;refine bK ?_));refine' run trivial ?_;(repeat' first|exact True.intro|refine Lv.mk ?_ ?_|(refine oK ?_;intro K hK)|intro hq);all_goals refine Lf.mk ?_)|refine callZ cl40 (k1) ?_|refine callZ cl40 (k2) ?_|(with_reducible apply callFX [] cl30 (k3);(case hy|hl|hk=>(simp only [go_sem, ↓reduceIte];try with_unfolding_all rfl));(case hz=>(with_unfolding_all simp [go_sem,fzo];done))))
    all_goals (first | rfl | simp)
theorem mlike_f (X Y : List Sl) (d : Int) (hX : X.length ≤ 100000) (hY : Y.length ≤ 100000) : FunB Tryz.prog 32 [(0, ⟨37, [slsA X]⟩), (1, ⟨37, [slsA Y]⟩)] [int d, .ptr 0 0, .ptr 1 0] (bool (likeS X Y d)) [] := by
  have k1 := slAt_f X false d _ rfl (by omega)
  have k2 := slAt_f Y false d _ rfl (by omega)
  have k3 := slSame_f (zO (slAt X d)) (zO (slAt Y d))
  unfold likeS
  generalize slAt X d = x at *
  generalize slAt Y d = y at *
  rcases x with _ | x <;> rcases y with _ | y
  · refine fun_WB 2 mixed Tryz.func32 rfl (Nat.le_of_ble_eq_true rfl) (by kernel_rfl) (by simp [go_sem]) fun cx hN hR hF hL => ?_; apply args_kb; (case hA => (simp only [go_sem, ↓reduceIte]; rfl)); (case hB => (simp only [go_sem, ↓reduceIte]; rfl))
    (repeat' first|((try (revert K;refine bK ?_));refine' run trivial ?_;(repeat' first|exact True.intro|refine Lv.mk ?_ ?_|(refine oK ?_;intro K hK)|intro hq);all_goals refine Lf.mk ?_)|refine callZ cl33 (k1) ?_|refine callZ cl33 (k2) ?_|(with_reducible apply callFX [] cl34 (k3);(case hy|hl|hk=>(simp only [go_sem, ↓reduceIte];try with_unfolding_all rfl));(case hz=>(with_unfolding_all simp [go_sem,fzo];done))))
    all_goals (first | rfl | simp)
  · refine fun_WB 2 mixed Tryz.func32 rfl (Nat.le_of_ble_eq_true rfl) (by kernel_rfl) (by simp [go_sem]) fun cx hN hR hF hL => ?_; apply args_kb; (case hA => (simp only [go_sem, ↓reduceIte]; rfl)); (case hB => (simp only [go_sem, ↓reduceIte]; rfl))
    (repeat' first|((try (revert K;refine bK ?_));refine' run trivial ?_;(repeat' first|exact True.intro|refine Lv.mk ?_ ?_|(refine oK ?_;intro K hK)|intro hq);all_goals refine Lf.mk ?_)|refine callZ cl33 (k1) ?_|refine callZ cl33 (k2) ?_|(with_reducible apply callFX [] cl34 (k3);(case hy|hl|hk=>(simp only [go_sem, ↓reduceIte];try with_unfolding_all rfl));(case hz=>(with_unfolding_all simp [go_sem,fzo];done))))
    all_goals (first | rfl | simp)
  · refine fun_WB 2 mixed Tryz.func32 rfl (Nat.le_of_ble_eq_true rfl) (by kernel_rfl) (by simp [go_sem]) fun cx hN hR hF hL => ?_; apply args_kb; (case hA => (simp only [go_sem, ↓reduceIte]; rfl)); (case hB => (simp only [go_sem, ↓reduceIte]; rfl))
    (repeat' first|((try (revert K;refine bK ?_));refine' run trivial ?_;(repeat' first|exact True.intro|refine Lv.mk ?_ ?_|(refine oK ?_;intro K hK)|intro hq);all_goals refine Lf.mk ?_)|refine callZ cl33 (k1) ?_|refine callZ cl33 (k2) ?_|(with_reducible apply callFX [] cl34 (k3);(case hy|hl|hk=>(simp only [go_sem, ↓reduceIte];try with_unfolding_all rfl));(case hz=>(with_unfolding_all simp [go_sem,fzo];done))))
    all_goals (first | rfl | simp)
  · refine fun_WB 2 mixed Tryz.func32 rfl (Nat.le_of_ble_eq_true rfl) (by kernel_rfl) (by simp [go_sem]) fun cx hN hR hF hL => ?_; apply args_kb; (case hA => (simp only [go_sem, ↓reduceIte]; rfl)); (case hB => (simp only [go_sem, ↓reduceIte]; rfl))
    (repeat' first|((try (revert K;refine bK ?_));refine' run trivial ?_;(repeat' first|exact True.intro|refine Lv.mk ?_ ?_|(refine oK ?_;intro K hK)|intro hq);all_goals refine Lf.mk ?_)|refine callZ cl33 (k1) ?_|refine callZ cl33 (k2) ?_|(with_reducible apply callFX [] cl34 (k3);(case hy|hl|hk=>(simp only [go_sem, ↓reduceIte];try with_unfolding_all rfl));(case hz=>(with_unfolding_all simp [go_sem,fzo];done))))
    all_goals (first | rfl | simp)
end Go.Proofs.YtkonljmmdifnaaaGreat.V
set_option linter.unusedSimpArgs false
set_option linter.unusedVariables false
namespace Go.Proofs.YtkonljmmdifnaaaGreat.V
open Go.RowKit Go.Sort Go.Shelf
set_option maxRecDepth 100000
attribute [local go_sem] Option.toList_some Option.toList_none

def growRenS : Go.Shelf.Ren := ⟨fun | 4 => 63 | n => n, fun | 22 => 37 | 25 => 73 | n => n, fun n => n⟩
theorem growLaysS : Lays8.n4 Tryz.prog growRenS := {
  mixed := by kernel_rfl
  f4 := ⟨Tryz.f63.name, by decide, Tryz.func63.trans (congrArg some (by kernel_rfl))⟩
  t0 := Tryz.underlying0
  a0 := Tryz.isAgg0
  z0 := Tryz.sizeOf0
  v0 := Tryz.zeroValue0
  t3 := Tryz.underlying3
  a3 := Tryz.isAgg3
  z3 := Tryz.sizeOf3
  v3 := Tryz.zeroValue3
  t4 := Tryz.underlying4
  a4 := Tryz.isAgg4
  z4 := Tryz.sizeOf4
  v4 := Tryz.zeroValue4
  t9 := Tryz.underlying9
  a9 := Tryz.isAgg9
  z9 := Tryz.sizeOf9
  v9 := Tryz.zeroValue9
  t20 := Tryz.underlying20
  a20 := Tryz.isAgg20
  z20 := Tryz.sizeOf20
  v20 := Tryz.zeroValue20
  t22 := Tryz.underlying37
  a22 := Tryz.isAgg37
  z22 := Tryz.sizeOf37
  v22 := Tryz.zeroValue37 }

theorem growS_f (n : Nat) (hn0 : 0 < n) (hn : n ≤ 1000000) : FunB Tryz.prog 63 [] [.v (.slice none 0 0), int n] (.osl 0 9 0 0) [(0, some ⟨73, []⟩)] := by
  intro M0 ι w vs hs hsz hv
  obtain ⟨u, z, rfl⟩ : ∃ u z, vs = #[u, z] := by
    have h2 : vs.size = 2 := hsz
    refine ⟨vs[0], vs[1], Array.ext (by simp [h2]) fun i h1 h3 => ?_⟩
    rcases i with _ | _ | i
    · rfl
    · rfl
    · omega
  have e1 := (hv 0 u _ rfl rfl).ofV
  have e2 := (hv 1 z _ rfl rfl).ofV
  subst e1 e2
  have hi0 : Tryz.prog.info? 73 = some ((Tryz.prog.info? 73).get (by kernel_rfl)) := (Option.some_get _).symm
  have hz0 : ((Tryz.prog.info? 73).get (by kernel_rfl)).zero = some (.agg #[.int .i64 0, .int .i64 0, .bool false, .int .i64 0, .int .i64 0, .int .i64 0, .int .i64 0, .slice none 0 0, .int .i64 0]) := by kernel_rfl
  have hs1 : ((Tryz.prog.info? 73).get (by kernel_rfl)).size = 9 := by kernel_rfl
  have hb8 : ((Tryz.prog.info? 73).get (by kernel_rfl)).bytes = 88 := by kernel_rfl
  generalize (Tryz.prog.info? 73).get (by kernel_rfl) = i0 at *
  have hc := Any8.slices_Grow_grow growLaysS i0 (.agg #[.int .i64 0, .int .i64 0, .bool false, .int .i64 0, .int .i64 0, .int .i64 0, .int .i64 0, .slice none 0 0, .int .i64 0]) hi0 hz0 (by omega) none 0 0 n [] w (Nat.le_refl _) (by omega) (by rw [hb8]; omega) (by omega) (by simp) (fun _ => rfl) (fun a h => by cases h)
  rw [show growRenS.t 25 = 73 from rfl] at hc
  refine Calls.mono (show Calls Tryz.prog 63 _ w _ from hc) ?_
  rintro e w' ⟨rfl, rfl⟩
  have s1 := step_heap hs (w' := w.drew) rfl rfl rfl rfl
  have s2 := step_alloc s1.h (b := 0) (bx := ⟨73, []⟩) (c := #[].toList.toArray ++ Builtin.zeroCells (Value.cells (.agg #[.int .i64 0, .int .i64 0, .bool false, .int .i64 0, .int .i64 0, .int .i64 0, .int .i64 0, .slice none 0 0, .int .i64 0])) (0 + n - 0) ++ Builtin.zeroCells (Value.cells (.agg #[.int .i64 0, .int .i64 0, .bool false, .int .i64 0, .int .i64 0, .int .i64 0, .int .i64 0, .slice none 0 0, .int .i64 0])) (grownCap w (0 + n) 0 73 - (0 + n))) (by simp [inl]) (Nat.zero_le _) (fun j v y _ h => by simp at h)
  have hG := grownCap_ge w (0 + n) 0 73
  rw [Nat.zero_add] at hG
  have hG2 := grownCap_le_maxLen w (0 + n) 0 73 (by unfold maxLen; omega)
  have hM : bget ([(0, some (⟨73, []⟩ : Bx))] ++ lives []) = bput (bget (lives [])) [(0, some ⟨73, []⟩)] := by
    funext b
    simp [bget, bput, lives]
  refine ⟨_, iput ι 0 w.heap.size, rfl, fun b hb => by simp [inl] at hb, ?_, s1.oth.trans s2.oth, ?_⟩
  · rw [hM]
    refine s2.h.used_mono fun b hb => ?_
    rcases hb with hb | ⟨r, hb⟩
    · exact .inl hb
    · refine .inr ?_
      simp at hb
      simp [inl, hb.1]
  · rw [hM]
    refine .osl (by simp [iput]) (Nat.zero_le _) hG2 (c := #[].toList.toArray ++ Builtin.zeroCells (Value.cells (.agg #[.int .i64 0, .int .i64 0, .bool false, .int .i64 0, .int .i64 0, .int .i64 0, .int .i64 0, .slice none 0 0, .int .i64 0])) (0 + n - 0) ++ Builtin.zeroCells (Value.cells (.agg #[.int .i64 0, .int .i64 0, .bool false, .int .i64 0, .int .i64 0, .int .i64 0, .int .i64 0, .slice none 0 0, .int .i64 0])) (grownCap w (0 + n) 0 73 - (0 + n))) (t := 73) ?_ ?_
    · show (w.heap.push _)[w.heap.size]? = _
      simp
    · have h1 : (Value.cells (.agg #[.int .i64 0, .int .i64 0, .bool false, .int .i64 0, .int .i64 0, .int .i64 0, .int .i64 0, .slice none 0 0, .int .i64 0])).size = 9 := rfl
      simp only [Array.size_append, size_zeroCells, h1]
      simp
      omega
attribute [local go_sem] Int.reduceEq Int.reduceLE Int.reduceLT Int.reduceToNat in
set_option maxHeartbeats 4000000 in
theorem concatS_f (a b : List Sl) (ha : a.length ≤ 100000) (hb : b.length ≤ 100000) (hn : a.length + b.length ≠ 0) : FunB Tryz.prog 31 [(0, ⟨37, [slsA a, slsA b]⟩)] [.osl 0 1 0 2] (.osl 1 9 0 (a.length + b.length)) [(1, some ⟨73, rowC Sl.flat (a ++ b)⟩)] := by
  have w1 : IntKind.i64.wrap (0 + (a.length : Int)) = (a.length : Int) := by rw [wrap_id] <;> omega
  have w2 : IntKind.i64.wrap ((a.length : Int) + (b.length : Int)) = ((a.length + b.length : Nat) : Int) := by rw [wrap_id] <;> omega
  have w3 : ((a.length : Int) < 0) = False := eq_false (by omega)
  have w4 : (((a.length + b.length : Nat) : Int) < 0) = False := eq_false (by omega)
  have k0 : ((2 : Nat) : Int) = 2 := rfl
  have k1 : IntKind.i64.wrap (0 + 1) = 1 := rfl
  have k2 : IntKind.i64.wrap (1 + 1) = 2 := rfl
  refine funB_C 2 Tryz.func31 rfl (Nat.le_of_ble_eq_true rfl) (by simp [go_sem]) fun cx hN hR hF hL => ?_; apply code_argsB; (case hA => (simp only [go_sem, ↓reduceIte]; rfl)); (case hB => (simp only [go_sem, ↓reduceIte]; rfl))
  (refine code_seq mixed (by rw [hN]; kernel_rfl) ?_)
  (repeat' first|((try (revert K;refine bK ?_));refine' run trivial ?_;(repeat' first|exact True.intro|refine Lv.mk ?_ ?_|(refine oK ?_;intro K hK)|intro hq);all_goals refine Lf.mk ?_)|refine rounds_s ?_)
  (refine code_seq mixed (by rw [hN]; kernel_rfl) ?_)
  (repeat' first|((try (revert K;refine bK ?_));refine' run trivial ?_;(repeat' first|exact True.intro|refine Lv.mk ?_ ?_|(refine oK ?_;intro K hK)|intro hq);all_goals refine Lf.mk ?_)|refine rounds_s ?_)
  (refine code_seq mixed (by rw [hN]; kernel_rfl) ?_)
  (repeat' first|((try (revert K;refine bK ?_));refine' run trivial ?_;(repeat' first|exact True.intro|refine Lv.mk ?_ ?_|(refine oK ?_;intro K hK)|intro hq);all_goals refine Lf.mk ?_)|refine rounds_s ?_)
  refine loop_rounds mixed 3 (by rw [hN]; kernel_rfl) ?_
  (repeat' first|((try (revert K;refine bK ?_));refine' run (I k0 (I k1 (I k2 (I w1 (I w2 (I w3 w4)))))) ?_;(repeat' first|exact True.intro|refine Lv.mk ?_ ?_|(refine oK ?_;intro K hK)|intro hq);all_goals refine Lf.mk ?_)|refine rounds_s ?_)
  have hx1 : (a.map Sl.flat).flatten = rowC Sl.flat a := rfl
  have hx2 : (b.map Sl.flat).flatten = rowC Sl.flat b := rfl
  have hx3 : rowC Sl.flat a ++ rowC Sl.flat b = rowC Sl.flat (a ++ b) := by simp [rowC]
  have hx4 := rowS_len a
  (refine code_seq mixed (by rw [hN]; kernel_rfl) ?_)
  (repeat' first|((try (revert K;refine bK ?_));refine' run trivial ?_;(repeat' first|exact True.intro|refine Lv.mk ?_ ?_|(refine oK ?_;intro K hK)|intro hq);all_goals refine Lf.mk ?_)|refine rounds_s ?_)
  (apply callB' [14012] cl63 (growS_f (a.length + b.length) (by omega) (by omega)); (case h1 | h2 | h3 => (simp only [go_sem, ↓reduceIte]; try rfl)); (case hl | hs | hfp | hfr => (simp [go_sem]; done)))
  (repeat' first|((try (revert K;refine bK ?_));refine' run trivial ?_;(repeat' first|exact True.intro|refine Lv.mk ?_ ?_|(refine oK ?_;intro K hK)|intro hq);all_goals refine Lf.mk ?_)|refine rounds_s ?_)
  refine code_seqS mixed (by rw [hN]; kernel_rfl) (fun A' => ∃ r, LCut cx r A' ⟨[(6, .osl 1 9 0 (a.length + b.length)), (0, .osl 0 1 0 2)], [(1, some ⟨73, rowC Sl.flat (a ++ b)⟩), (0, some ⟨37, [slsA a, slsA b]⟩)], 2⟩) ?_ ?_
  · (repeat' first|((try (revert K;refine bK ?_));refine' run trivial ?_;(repeat' first|exact True.intro|refine Lv.mk ?_ ?_|(refine oK ?_;intro K hK)|intro hq);all_goals refine Lf.mk ?_)|refine rounds_s ?_)
    refine loop_rounds mixed 3 (by rw [hN]; kernel_rfl) ?_
    (repeat' first|((try (revert K;refine bK ?_));refine' run (I k0 (I k1 k2)) ?_;(repeat' first|exact True.intro|refine Lv.mk ?_ ?_|(refine oK ?_;intro K hK)|intro hq);all_goals refine Lf.mk ?_)|refine rounds_s ?_)
    · refine ⟨nm1 1 22018, ?_⟩
      simp only [hx1, hx2, hx3]
      simp only [go_sem, ↓reduceIte, hF]
      intro b g h
      have := hF b g h
      simp [inl] at this
      subst this
      exact ⟨by decide, rfl⟩
    · rw [hx1, hx4]; simp [maxLen]; omega
    · simp [maxLen]; omega
  · rintro A' ⟨r, hcut⟩
    refine code_cut r _ hcut (code_w mixed (by rw [hN]; kernel_rfl) ?_)
    (repeat' first|((try (revert K;refine bK ?_));refine' run trivial ?_;(repeat' first|exact True.intro|refine Lv.mk ?_ ?_|(refine oK ?_;intro K hK)|intro hq);all_goals refine Lf.mk ?_)|refine rounds_s ?_)
end Go.Proofs.YtkonljmmdifnaaaGreat.V
set_option linter.unusedSimpArgs false
set_option linter.unusedVariables false
namespace Go.Proofs.YtkonljmmdifnaaaGreat.V
open Go.RowKit
set_option maxRecDepth 100000
attribute [local go_sem] Option.toList_some Option.toList_none

@[go_sem] theorem prow_ren (r : Nat → Nat) (l : List (Int × Int)) : ((l.map prow).flatten).map (AV.ren r) = (l.map prow).flatten := rows_ren (fun x r => by simp [prow]) r l
@[go_sem] theorem prow_nms (p : Nat → Bool) (l : List (Int × Int)) : ((l.map prow).flatten).all (AV.names p) = true := rows_nms (fun x p => by simp [prow]) p l

theorem some_f (l : List (Int × Int)) : Fun Tryz.prog 41 [prs l] (.fn (.func 72) [] [.pp [prs l]]) := by
  refine fun_W mixed Tryz.func41 rfl (Nat.le_of_ble_eq_true rfl) (by kernel_rfl) fun cx hN hR hF hL => ?_; apply args_k; (case hA => (simp only [go_sem, ↓reduceIte]; rfl))
  (try ((try (revert K;refine bK ?_));refine' run trivial ?_;(repeat' first|exact True.intro|refine Lv.mk ?_ ?_|(refine oK ?_;intro K hK)|intro hq);all_goals refine Lf.mk ?_))

def spanA (q : Int × Int) : List AV := [.agg [int q.1, int q.2]]
theorem span_rep {P : List (Int × Int)} {n : Nat} (k : Nat) (x : Array Value) (y : List AV) (hx : (P.map spanV)[k]? = some x) (hy : (P.map spanA)[k]? = some y) : x.size = y.length ∧ x.size = #[n].size ∧ ∀ (i : Nat) (v : Value) (a : AV), x[i]? = some v → y[i]? = some a → ∀ ι M w, RepA ι M w v a := by
  rw [List.getElem?_map] at hx hy
  cases hq : P[k]? with
  | none => rw [hq] at hx; cases hx
  | some q =>
    rw [hq] at hx hy
    cases hx; cases hy
    refine ⟨rfl, rfl, fun i v a hv ha ι M w => ?_⟩
    rcases i with _ | i
    · simp [spanV, spanA] at hv ha
      subst hv ha
      refine .d (.agg rfl fun j u z hu hz => ?_)
      rcases j with _ | _ | j
      · simp at hu hz; subst hu hz; exact .v _
      · simp at hu hz; subst hu hz; exact .v _
      · simp at hu
    · simp [spanV] at hv

/-- Where the days of both end the first part, and begin the second one. -/
def lxy (a b c d : Int) : Int × Int := if (has a b && has c d && has (max a c) (min b d)) = true then (max a c, min b d) else (kB a b, kB a b)
def lessL (a b c d : Int) : List (Int × Int) := hasL [(kA a b, (lxy a b c d).1), ((lxy a b c d).2, kB a b)]

theorem has_k (a b : Int) : has (kA a b) (kB a b) = has a b := by
  cases h : has a b
  · rw [(k_no h).1, (k_no h).2]; rfl
  · rw [(k_yes h).1, (k_yes h).2, h]
theorem cut_k (a b c d : Int) : cA (kA a b) (kB a b) c d = cA a b c d ∧ cB (kA a b) (kB a b) c d = cB a b c d := by
  unfold cA cB
  rw [has_k]
  cases h : has a b
  · simp
  · rw [(k_yes h).1, (k_yes h).2]; simp
theorem cut_no {a b c d : Int} (h : (has a b && has c d && has (max a c) (min b d)) = false) : cA a b c d = 0 ∧ cB a b c d = 0 ∧ lxy a b c d = (kB a b, kB a b) := by simp [cA, cB, lxy, h]
theorem cut_yes {a b c d : Int} (h : (has a b && has c d && has (max a c) (min b d)) = true) : cA a b c d = max a c ∧ cB a b c d = min b d ∧ lxy a b c d = (max a c, min b d) ∧ (max a c = 0) = False := by
  refine ⟨by simp [cA, h], by simp [cB, h], by simp [lxy, h], eq_false ?_⟩
  simp only [Bool.and_eq_true, has_iff] at h
  omega

theorem many_yes {a b : Int} (h : has a b = true) : many a b = b - a ∧ (many a b = 0) = False ∧ many a b > 0 := by
  have h2 := has_iff.1 h
  refine ⟨by simp [many, h], eq_false ?_, ?_⟩ <;> simp only [many, h, if_true] <;> omega
theorem less_eq (a b c d : Int) : lessL a b c d = if (has a b && has c d && has (max a c) (min b d)) = true then hasL [(a, max a c), (min b d, b)] else hasL [(a, b)] := by
  unfold lessL lxy
  split
  · rename_i h
    have h1 : has a b = true := by simp only [Bool.and_eq_true] at h; exact h.1.1
    rw [(k_yes h1).1, (k_yes h1).2]
  · have hn : ∀ v : Int, has v v = false := fun v => by rw [Bool.eq_false_iff, ne_eq, has_iff]; omega
    cases h1 : has a b
    · rw [(k_no h1).1, (k_no h1).2]
      simp [hasL, h1, hn]
    · rw [(k_yes h1).1, (k_yes h1).2]
      simp [hasL, h1, hn]

theorem less_cases (a x y b : Int) : (has a x = true ∧ has y b = true ∧ hasL [(a, x), (y, b)] = [(a, x), (y, b)]) ∨ (has a x = true ∧ has y b = false ∧ hasL [(a, x), (y, b)] = [(a, x)]) ∨ (has a x = false ∧ has y b = true ∧ hasL [(a, x), (y, b)] = [(y, b)]) ∨ (has a x = false ∧ has y b = false ∧ hasL [(a, x), (y, b)] = []) := by
  cases h1 : has a x <;> cases h2 : has y b <;> simp [hasL, h1, h2]

end Go.Proofs.YtkonljmmdifnaaaGreat.V
set_option linter.unusedSimpArgs false
set_option linter.unusedVariables false
namespace Go.Proofs.YtkonljmmdifnaaaGreat.V
open Go.RowKit
set_option maxRecDepth 100000
attribute [local go_sem] Option.toList_some Option.toList_none

theorem rowP_snoc (l : List (Int × Int)) (x : Int × Int) : rowC prow (l ++ [x]) = rowC prow l ++ [int x.1, int x.2] := by simp [rowC, prow]

attribute [local go_sem] List.drop_zero Nat.le_refl Nat.zero_add in
set_option maxHeartbeats 4000000 in
theorem into_f (l : List (Int × Int)) (s : Int × Int) (hl : l.length ≤ 100000) : Fun Tryz.prog 69 [prs l, .agg [int s.1, int s.2]] (prs (intoG l s [] [])) := by
  generalize hRr : intoG l s [] [] = R
  refine fun_W mixed Tryz.func69 rfl (Nat.le_of_ble_eq_true rfl) (by kernel_rfl) fun cx hN hR hF hL => ?_; apply args_k; (case hA => (simp only [go_sem, ↓reduceIte]; rfl))
  (try ((try (revert K;refine bK ?_));refine' run trivial ?_;(repeat' first|exact True.intro|refine Lv.mk ?_ ?_|(refine oK ?_;intro K hK)|intro hq);all_goals refine Lf.mk ?_))
  refine loop_nil 5 5001 2 23 rfl (Nat.le_of_ble_eq_true rfl) ?_
  refine loop_nil 6 5002 2 23 rfl (Nat.le_of_ble_eq_true rfl) ?_
  refine loopW mixed (σ := {q : Nat × (Int × Int) × List (Int × Int) × List (Int × Int) // q.1 ≤ l.length ∧ q.2.2.1.length ≤ q.1 ∧ q.2.2.2.length ≤ q.1 ∧ intoG (l.drop q.1) q.2.1 q.2.2.1 q.2.2.2 = R})
    (fun q => ⟨[(7, int q.1.1), (5, .osl 5001 2 0 q.1.2.2.1.length), (6, .osl 5002 2 0 q.1.2.2.2.length), (0, prs l), (3, .ptr 0 0)], [(0, some ⟨23, [int q.1.2.1.1, int q.1.2.1.2]⟩), (5001, some ⟨23, rowC prow q.1.2.2.1⟩), (5002, some ⟨23, rowC prow q.1.2.2.2⟩)], 6000⟩)
    (fun q => l.length - q.1.1) id ⟨(0, s, [], []), by simp, by simp, by simp, by simpa using hRr⟩ (by rw [hN]; kernel_rfl) ?_ ?_
  · simp only [go_sem, ↓reduceIte, hF]
    exact ⟨rfl, rfl⟩
  · rintro ⟨⟨i, s, A, B⟩, h1, h2, h3, h4⟩
    simp only at h1 h2 h3 h4
    by_cases hi : i < l.length
    · have hq : l[i]? = some l[i] := List.getElem?_eq_getElem hi
      have e1 : (l.map prow)[i]? = some (prow l[i]) := by rw [List.getElem?_map, hq]; rfl
      have e5 : IntKind.i64.wrap ((i : Int) + 1) = ((i + 1 : Nat) : Int) := by rw [swrap] <;> omega
      have hk1 : i < (l.map prow).length := by simpa using hi
      rw [List.drop_eq_getElem_cons hi, intoG] at h4
      have hA := rowP_len A
      have hB := rowP_len B
      generalize l[i] = q at *
      by_cases c1 : q.2 < s.1
      · rw [if_pos c1] at h4
        (try ((try (revert K;refine bK ?_));refine' run (I e1 (I e5 (I hk1 (I (eq_true c1) (decide_eq_true c1))))) ?_;(repeat' first|exact True.intro|refine Lv.mk ?_ ?_|(refine oK ?_;intro K hK)|intro hq);all_goals refine Lf.mk ?_))
        · refine ⟨⟨(i + 1, s, A ++ [q], B), hi, by rw [List.length_append]; simp only [List.length_singleton]; omega, by simp only; omega, h4⟩, nm1 5001 8048, ?_, by show l.length - (i + 1) < l.length - i; omega⟩
          simp only [List.length_append, List.length_singleton, rowP_snoc]
          simp only [go_sem, ↓reduceIte, hF, List.map_append, List.all_append]
        · exact ⟨hA, by simp [maxLen]; omega⟩
      · rw [if_neg c1] at h4
        by_cases c2 : s.2 < q.1
        · rw [if_pos c2] at h4
          (try ((try (revert K;refine bK ?_));refine' run (I e1 (I e5 (I hk1 (I (eq_false c1) (I (decide_eq_false c1) (I (eq_true c2) (decide_eq_true c2))))))) ?_;(repeat' first|exact True.intro|refine Lv.mk ?_ ?_|(refine oK ?_;intro K hK)|intro hq);all_goals refine Lf.mk ?_))
          · refine ⟨⟨(i + 1, s, A, B ++ [q]), hi, by simp only; omega, by rw [List.length_append]; simp only [List.length_singleton]; omega, h4⟩, nm1 5002 9048, ?_, by show l.length - (i + 1) < l.length - i; omega⟩
            simp only [List.length_append, List.length_singleton, rowP_snoc]
            simp only [go_sem, ↓reduceIte, hF, List.map_append, List.all_append]
          · exact ⟨hB, by simp [maxLen]; omega⟩
        · rw [if_neg c2] at h4
          by_cases c3 : q.1 < s.1
          · have m1 : min q.1 s.1 = q.1 := by omega
            by_cases c4 : q.2 > s.2
            · have m2 : max q.2 s.2 = q.2 := by omega
              rw [m1, m2] at h4
              (try ((try (revert K;refine bK ?_));refine' run (I e1 (I e5 (I hk1 (I (eq_false c1) (I (decide_eq_false c1) (I (eq_false c2) (I (decide_eq_false c2) (I (eq_true c3) (I (decide_eq_true c3) (I (eq_true c4) (decide_eq_true c4))))))))))) ?_;(repeat' first|exact True.intro|refine Lv.mk ?_ ?_|(refine oK ?_;intro K hK)|intro hq);all_goals refine Lf.mk ?_))
              refine ⟨⟨(i + 1, (q.1, q.2), A, B), hi, by simp only; omega, by simp only; omega, h4⟩, id, ?_, by show l.length - (i + 1) < l.length - i; omega⟩
              simp only [go_sem, ↓reduceIte, hF]
            · have m2 : max q.2 s.2 = s.2 := by omega
              rw [m1, m2] at h4
              (try ((try (revert K;refine bK ?_));refine' run (I e1 (I e5 (I hk1 (I (eq_false c1) (I (decide_eq_false c1) (I (eq_false c2) (I (decide_eq_false c2) (I (eq_true c3) (I (decide_eq_true c3) (I (eq_false c4) (decide_eq_false c4))))))))))) ?_;(repeat' first|exact True.intro|refine Lv.mk ?_ ?_|(refine oK ?_;intro K hK)|intro hq);all_goals refine Lf.mk ?_))
              refine ⟨⟨(i + 1, (q.1, s.2), A, B), hi, by simp only; omega, by simp only; omega, h4⟩, id, ?_, by show l.length - (i + 1) < l.length - i; omega⟩
              simp only [go_sem, ↓reduceIte, hF]
          · have m1 : min q.1 s.1 = s.1 := by omega
            by_cases c4 : q.2 > s.2
            · have m2 : max q.2 s.2 = q.2 := by omega
              rw [m1, m2] at h4
              (try ((try (revert K;refine bK ?_));refine' run (I e1 (I e5 (I hk1 (I (eq_false c1) (I (decide_eq_false c1) (I (eq_false c2) (I (decide_eq_false c2) (I (eq_false c3) (I (decide_eq_false c3) (I (eq_true c4) (decide_eq_true c4))))))))))) ?_;(repeat' first|exact True.intro|refine Lv.mk ?_ ?_|(refine oK ?_;intro K hK)|intro hq);all_goals refine Lf.mk ?_))
              refine ⟨⟨(i + 1, (s.1, q.2), A, B), hi, by simp only; omega, by simp only; omega, h4⟩, id, ?_, by show l.length - (i + 1) < l.length - i; omega⟩
              simp only [go_sem, ↓reduceIte, hF]
            · have m2 : max q.2 s.2 = s.2 := by omega
              rw [m1, m2] at h4
              (try ((try (revert K;refine bK ?_));refine' run (I e1 (I e5 (I hk1 (I (eq_false c1) (I (decide_eq_false c1) (I (eq_false c2) (I (decide_eq_false c2) (I (eq_false c3) (I (decide_eq_false c3) (I (eq_false c4) (decide_eq_false c4))))))))))) ?_;(repeat' first|exact True.intro|refine Lv.mk ?_ ?_|(refine oK ?_;intro K hK)|intro hq);all_goals refine Lf.mk ?_))
              refine ⟨⟨(i + 1, (s.1, s.2), A, B), hi, by simp only; omega, by simp only; omega, h4⟩, id, ?_, by show l.length - (i + 1) < l.length - i; omega⟩
              simp only [go_sem, ↓reduceIte, hF]
    · obtain rfl : i = l.length := by omega
      rw [List.drop_length, intoG] at h4
      have hA := rowP_len A
      have hB := rowP_len B
      subst h4
      have hBt : List.take (B.length * 2) (rowC prow B) = rowC prow B := List.take_of_length_le (by omega)
      (try ((try (revert K;refine bK ?_));refine' run (I hB hBt) ?_;(repeat' first|exact True.intro|refine Lv.mk ?_ ?_|(refine oK ?_;intro K hK)|intro hq);all_goals refine Lf.mk ?_))
      · have hz : rowC prow A ++ [int s.1, int s.2] ++ rowC prow B = ((A ++ [s] ++ B).map prow).flatten := by simp [rowC, prow]
        rw [hz]
        exact ⟨rows_len (F := prow) (fun _ => rfl) _, fzo_rows (F := prow) (k := 2) (fun _ => rfl) (fun _ => by simp [prow]) _ (by simp; omega)⟩
      · exact ⟨by omega, by simp [maxLen]; omega⟩
      · exact ⟨by omega, by simp [maxLen]; omega⟩

theorem joinL_yes {l : List (Int × Int)} {i : Nat} {p : Int × Int} (h : l[i]? = some p) (hp : has p.1 p.2 = true) : joinL (l.take (i + 1)) = intoG (joinL (l.take i)) p [] [] := by
  unfold joinL
  rw [hasL_yes h hp, List.foldl_append]
  rfl
theorem joinL_no {l : List (Int × Int)} {i : Nat} {p : Int × Int} (h : l[i]? = some p) (hp : has p.1 p.2 = false) : joinL (l.take (i + 1)) = joinL (l.take i) := by
  unfold joinL
  rw [hasL_no h hp]
theorem intoG_len : ∀ (l : Sps) (s : Int × Int) (A B : Sps), (intoG l s A B).length ≤ l.length + A.length + B.length + 1
  | [], s, A, B => by simp [intoG]; omega
  | p :: l, s, A, B => by
    unfold intoG
    split
    · have := intoG_len l s (A ++ [p]) B; simp at this ⊢; omega
    · split
      · have := intoG_len l s A (B ++ [p]); simp at this ⊢; omega
      · have := intoG_len l (min p.1 s.1, max p.2 s.2) A B; simp at this ⊢; omega
theorem joinL_len (l : Sps) : (joinL l).length ≤ l.length := by
  have h : ∀ (m R : Sps), (m.foldl (fun out s => intoG out s [] []) R).length ≤ m.length + R.length := by
    intro m
    induction m with
    | nil => intro R; simp
    | cons s m ih =>
      intro R
      have h1 := ih (intoG R s [] [])
      have h2 := intoG_len R s [] []
      simp at h1 h2 ⊢
      omega
  have h1 := h (hasL l) []
  have h2 : (hasL l).length ≤ l.length := List.length_filter_le _ _
  simp at h1
  unfold joinL
  omega

attribute [local go_sem] decide_false decide_true in
set_option maxHeartbeats 4000000 in
theorem rJoin_f (l : List (Int × Int)) (hl : l.length ≤ 100000) : Fun Tryz.prog 38 [prs l] (prs (joinL l)) := by
  refine fun_W mixed Tryz.func38 rfl (Nat.le_of_ble_eq_true rfl) (by kernel_rfl) fun cx hN hR hF hL => ?_; apply args_k; (case hA => (simp only [go_sem, ↓reduceIte]; rfl))
  (try ((try (revert K;refine bK ?_));refine' run trivial ?_;(repeat' first|exact True.intro|refine Lv.mk ?_ ?_|(refine oK ?_;intro K hK)|intro hq);all_goals refine Lf.mk ?_))
  refine loop_frz [] [(4, int 0), (3, prs []), (0, prs l)] [] rfl (by simp [go_sem]) trivial ?_
  refine loopW mixed (σ := {i : Nat // i ≤ l.length}) (fun q => ⟨[(4, int q.1), (3, prs (joinL (l.take q.1))), (0, prs l)], [], 4000⟩) (fun q => l.length - q.1) id ⟨0, Nat.zero_le _⟩ (by rw [hN]; kernel_rfl) ?_ ?_
  · simp only [go_sem, ↓reduceIte, hF]
    exact ⟨rfl, rfl⟩
  · rintro ⟨i, h1⟩
    by_cases hi : i < l.length
    · have hq : l[i]? = some l[i] := List.getElem?_eq_getElem hi
      have e1 : (l.map prow)[i]? = some (prow l[i]) := by rw [List.getElem?_map, hq]; rfl
      have e5 : IntKind.i64.wrap ((i : Int) + 1) = ((i + 1 : Nat) : Int) := by rw [swrap] <;> omega
      have hk1 : i < (l.map prow).length := by simpa using hi
      have hlen : (joinL (l.take i)).length ≤ 100000 := by have := joinL_len (l.take i); rw [List.length_take] at this; omega
      generalize l[i] = q at *
      cases hp : has q.1 q.2
      · have hm : (many q.1 q.2 > 0) = False := by simp [many, hp]
        have hn := joinL_no hq hp
        (repeat' first|((try (revert K;refine bK ?_));refine' run (I e1 (I e5 (I hk1 hm))) ?_;(repeat' first|exact True.intro|refine Lv.mk ?_ ?_|(refine oK ?_;intro K hK)|intro hq);all_goals refine Lf.mk ?_)|refine callZ cl37 (rMany_f _ _) ?_)
        refine ⟨⟨i + 1, hi⟩, id, ?_, by show l.length - (i + 1) < l.length - i; omega⟩
        simp only [hn]
        simp only [go_sem, ↓reduceIte, hF]
      · have hm : (many q.1 q.2 > 0) = True := eq_true (many_yes hp).2.2
        have hn := joinL_yes hq hp
        (repeat' first|((try (revert K;refine bK ?_));refine' run (I e1 (I e5 (I hk1 hm))) ?_;(repeat' first|exact True.intro|refine Lv.mk ?_ ?_|(refine oK ?_;intro K hK)|intro hq);all_goals refine Lf.mk ?_)|refine callZ cl37 (rMany_f _ _) ?_|refine callZ cl69 (into_f _ q hlen) ?_)
        refine ⟨⟨i + 1, hi⟩, id, ?_, by show l.length - (i + 1) < l.length - i; omega⟩
        simp only [hn]
        simp only [go_sem, ↓reduceIte, hF]
    · obtain rfl : i = l.length := by omega
      simp only [List.take_length]
      (try ((try (revert K;refine bK ?_));refine' run trivial ?_;(repeat' first|exact True.intro|refine Lv.mk ?_ ?_|(refine oK ?_;intro K hK)|intro hq);all_goals refine Lf.mk ?_))

theorem partsG_len (t : Int) : ∀ (ds : List Int) (a : Int), (partsG t a ds).length ≤ ds.length + 1
  | [], a => by simp [partsG]
  | d :: ds, a => by
    unfold partsG
    split
    · have := partsG_len t ds d; simp at this ⊢; omega
    · have := partsG_len t ds a; simp at this ⊢; omega

end Go.Proofs.YtkonljmmdifnaaaGreat.V
