/- slices.SortFunc at spans by their first days: the library's contract (the kit's), as a contract over plain data. Contracts: Join of span. slices.Compact at ints: the library's contract (the kit's), as a contract over plain data. Contracts: Parts of span. On which days another thing holds: known.Moved (chapter 13). The reference's Moved (chapter 13). Chapter 3's statements: what they say holds. Chapter 13's laws: what is looked at; what moved, and back, at the example. Chapter 13's laws: what holds; what moved; the days that moved. -/
import Derived.Test.YtkonljmmdifnaaaGreatG15
import Derived.Test.YtkonljmmdifnaaaGreatG7
import Derived.Shelf.SlSortCmp.NoneTotal
import Derived.Shelf.SlSortCmp.WholeK
import Derived.Lib.Small
import Derived.Lib.Walk
import Derived.Shelf.SlicesG.CompactI
set_option linter.unusedSimpArgs false
set_option linter.unusedVariables false
namespace Go.Proofs.YtkonljmmdifnaaaGreat.V
open Go.RowKit Go.Sort Go.Shelf Go.Lib
set_option maxRecDepth 100000

theorem isNaN_c (x : Int) (w : World) : Calls Tryz.prog 75 #[.int .i64 x] w fun e w' => e = .returned (.bool false) ∧ w' = w := by
  go_enter Tryz.func75, Tryz.ntmps75
  go_wp2
  go_ret
  exact ⟨by simp, rfl⟩
set_option maxHeartbeats 1000000 in
theorem compare_c (x y : Int) (w : World) : Calls Tryz.prog 44 #[.int .i64 x, .int .i64 y] w fun e w' => e = .returned (.int .i64 (Lib.compareInt x y)) ∧ w' = w := by
  go_enter Tryz.func44, Tryz.ntmps44
  go_wp2_with (go_at_call 75; refine (isNaN_c _ _).mono ?_; rintro e w' ⟨rfl, hw⟩; rw [hw])
  all_goals (go_ret; refine ⟨?_, rfl⟩; unfold Lib.compareInt; (repeat' split) <;> first | rfl | (exfalso; omega))

def encS (p : Int × Int) : List Value := [.int .i64 p.1, .int .i64 p.2]
def cfS (x y : Int × Int) : Int := Lib.compareInt x.1 y.1
theorem ltS (x y : Int × Int) : ltOf cfS x y = decide (x.1 < y.1) := by
  unfold ltOf cfS Lib.compareInt
  by_cases h1 : x.1 < y.1
  · simp [h1]
  · by_cases h2 : y.1 < x.1 <;> simp [h1, h2]
theorem swoS : SWO (ltOf cfS) where
  irrefl x := by rw [ltS]; simp
  trans x y z h1 h2 := by rw [ltS] at *; simp at *; omega
  ntrans x y z h1 h2 := by rw [ltS] at *; simp at *; omega

set_option maxHeartbeats 1000000 in
theorem cmpS_c (x y : Int × Int) (w : World) : Calls Tryz.prog 43 #[.agg #[.int .i64 x.1, .int .i64 x.2], .agg #[.int .i64 y.1, .int .i64 y.2]] w fun e w' => e = .returned (.int .i64 (cfS x y)) ∧ ∃ q os, w' = grow (w.drewN q) os := by
  have hcon := fun W' => compare_c x.1 y.1 W'
  unfold cfS
  generalize Lib.compareInt x.1 y.1 = r at hcon ⊢
  go_enter Tryz.func43, Tryz.ntmps43
  go_wp2_with (go_at_call 44; refine (hcon _).mono ?_; rintro e w' ⟨rfl, rfl⟩)
  go_ret
  exact ⟨rfl, 0, _, by rw [alloc_eq_grow, alloc_eq_grow, grow_grow]; rfl⟩

/-- What the library makes of it. -/
def sortS (l : Sps) : Sps := (pdq (ltOf cfS) l.toArray 0 l.length (Lib.bitLen l.length) true true).toList
theorem sortS_spec (l : Sps) : (sortS l).Perm l ∧ (sortS l).Pairwise fun p q => p.1 ≤ q.1 := by
  have h := pdq_sorts (ltOf cfS) swoS l.toArray 0 l.toArray.size (Lib.bitLen l.length) true true (Nat.zero_le _) (Nat.le_refl _) (Or.inl rfl)
  rw [List.size_toArray] at h
  unfold sortS
  generalize pdq (ltOf cfS) l.toArray 0 l.length (Lib.bitLen l.length) true true = d at *
  obtain ⟨⟨h1, -, h3⟩, h4⟩ := h
  have hs : d.size = l.length := by simpa using h1
  constructor
  · have e1 : d.extract 0 l.length = d := by rw [← hs]; simp
    have e2 : l.toArray.extract 0 l.length = l.toArray := by simp
    rw [e1, e2] at h3
    simpa using h3
  · rw [List.pairwise_iff_getElem]
    intro i j hi hj hij
    have hi' : i < d.size := by simpa using hi
    have hj' : j < d.size := by simpa using hj
    have := h4 i j (Nat.zero_le _) hij (by omega)
    rw [ltS, getElem!_pos d j hj', getElem!_pos d i hi'] at this
    simp at this ⊢
    omega

theorem rowP_at : ∀ (l : Sps) (j : Nat), (rowC prow l)[j]? = (l[j / 2]?).map fun p => if j % 2 = 0 then int p.1 else int p.2
  | [], j => by simp [rowC]
  | p :: l, j => by
    have hc : rowC prow (p :: l) = int p.1 :: int p.2 :: rowC prow l := by simp [rowC, prow]
    rw [hc]
    rcases j with _ | _ | j
    · simp
    · simp
    · have e1 : (j + 1 + 1) / 2 = j / 2 + 1 := by omega
      have e2 : (j + 1 + 1) % 2 = j % 2 := by omega
      rw [e1, e2]
      simpa using rowP_at l j
theorem flatS_at (l : Sps) (t : Nat) (h : t < l.length * 2) : (flatK encS 2 l.toArray)[t]! = if t % 2 = 0 then .int .i64 (l[t / 2]'(by omega)).1 else .int .i64 (l[t / 2]'(by omega)).2 := by
  rw [get_flatK _ _ _ _ (by simpa using h), getElem!_pos l.toArray (t / 2) (by simp; omega)]
  have : t % 2 = 0 ∨ t % 2 = 1 := by omega
  rcases this with h | h <;> simp [h, encS]

theorem sortSp_f (l : Sps) (hl : l.length < 4611686018427387904) : FunB Tryz.prog 42 [(0, ⟨23, rowC prow l⟩)] [.osl 0 2 0 l.length, .v (.func (.func 43) #[] #[])] (.tup []) [(0, some ⟨23, rowC prow (sortS l)⟩)] := by
  refine funB_row (enc := Value.int .i64) (rowP_len _) (by rw [rowP_len, (sortS_spec l).1.length_eq]) ?_ ?_
  · intro M ι w g cap c vs hh hn hm hck hcell hvs hrest
    obtain ⟨v0, rfl⟩ : ∃ v0, vs = #[v0] := by
      obtain ⟨L⟩ := vs
      rcases L with _ | ⟨v0, _ | ⟨v1, L⟩⟩ <;> simp at hvs
      exact ⟨v0, rfl⟩
    obtain rfl := (hrest 0 v0 _ rfl rfl).ofV
    have hH : HoldsK encS 2 w g 0 l.toArray := fun j hj => by
      have hj : j < l.length * 2 := by simpa using hj
      have hjc : j < c.size := by omega
      have hd : j / 2 < l.length := by omega
      have h1 := hcell j c[j] _ (Array.getElem?_eq_getElem hjc) (by rw [rowP_at, List.getElem?_eq_getElem hd]; rfl)
      have he : c[j] = if j % 2 = 0 then .int .i64 (l[j / 2]).1 else .int .i64 (l[j / 2]).2 := by
        split at h1
        · rename_i hz; rw [if_pos hz]; exact h1.ofV
        · rename_i hz; rw [if_neg hz]; exact h1.ofV
      rw [Nat.zero_add, flatS_at l j hj, id, ← he]
      refine ⟨?_, ?_⟩
      · simp only [World.cell?, hh]
        rw [Array.getElem?_eq_getElem hjc]; rfl
      · simp [World.frozen?, hh]
    have eg : ∀ args w, (callFunc 43 args).run Tryz.prog w = .ok (.enter 43 args) w := cl43
    have hc := AnyQ.slices_SortFunc_eq Tryz.sortSpan 2 (by intro w; kernel_rfl) (by intro w; kernel_rfl) encS (fun _ => rfl) (fun x v hv => by simp [encS] at hv; rcases hv with rfl | rfl <;> rfl) cfS swoS 43 #[] g 0 cap l.toArray w eg (fun _ _ _ _ x y => cmpS_c x y _) hH (Array.getElem?_eq_some_iff.1 hh).1 (by simpa using hl)
    rw [List.size_toArray] at hc
    refine Calls.mono (show Calls Tryz.prog 42 _ w _ from hc) ?_
    rintro e w' ⟨rfl, m, os, rfl⟩
    refine ⟨rfl, m, os, flatK encS 2 (sortS l).toArray, by simp [(sortS_spec l).1.length_eq], fun j y hy => ?_, ?_⟩
    · rw [rowP_at] at hy
      simp only [Option.map_eq_some_iff] at hy
      obtain ⟨z, hz, rfl⟩ := hy
      obtain ⟨hzl, hze⟩ := List.getElem?_eq_some_iff.1 hz
      have hj : j < (sortS l).length * 2 := by omega
      have hfl := flatS_at (sortS l) j hj
      rw [getElem!_pos _ _ (by simpa using hj), hze] at hfl
      refine ⟨_, Array.getElem?_eq_getElem (by simpa using hj), ?_⟩
      rw [hfl]
      split <;> exact ⟨rfl, rfl⟩
    · unfold sortWorldK putRowK sortS
      rfl
  · intro hn M ι w A cap vs hvs hrest
    obtain ⟨v0, rfl⟩ : ∃ v0, vs = #[v0] := by
      obtain ⟨L⟩ := vs
      rcases L with _ | ⟨v0, _ | ⟨v1, L⟩⟩ <;> simp at hvs
      exact ⟨v0, rfl⟩
    exact AnyF.slices_SortFunc_none Tryz.sortSpan A cap v0 w
end Go.Proofs.YtkonljmmdifnaaaGreat.V
set_option linter.unusedSimpArgs false
set_option linter.unusedVariables false
namespace Go.Proofs.YtkonljmmdifnaaaGreat.V
open Go.RowKit
set_option maxRecDepth 100000
attribute [local go_sem] Option.toList_some Option.toList_none

theorem sortS0_f : Fun Tryz.prog 42 [.v (.slice none 0 0), .v (.func (.func 43) #[] #[])] (.tup []) := by
  intro M w vs hM hsz hvs
  obtain ⟨v0, v1, rfl⟩ : ∃ v0 v1, vs = #[v0, v1] := by
    obtain ⟨L⟩ := vs
    rcases L with _ | ⟨v0, _ | ⟨v1, _ | ⟨v2, L⟩⟩⟩ <;> simp at hsz
    exact ⟨v0, v1, rfl⟩
  have hv := hvs 0 v0 _ rfl rfl
  cases hv
  refine Calls.mono (AnyF.slices_SortFunc_none Tryz.sortSpan none 0 v1 w) ?_
  rintro e w' ⟨rfl, rfl⟩
  exact ⟨.tuple #[], rfl, .tup rfl fun i x y h => by simp at h, Below.refl _ _⟩

theorem rowP_last (Q : Sps) (e : Int × Int) (v : Int) : List.take (Q.length * 2 + 1) (rowC prow (Q ++ [e])) ++ [int v] ++ List.drop (Q.length * 2 + 1 + 1) (rowC prow (Q ++ [e])) = rowC prow (Q ++ [(e.1, v)]) := by
  have hQ := rowP_len Q
  rw [rowP_snoc, rowP_snoc, List.take_append, List.drop_append, List.take_of_length_le (by omega), List.drop_of_length_le (by omega), hQ]
  simp [show Q.length * 2 + 1 + 1 - Q.length * 2 = 2 by omega, show Q.length * 2 + 1 - Q.length * 2 = 1 by omega]

attribute [local go_sem] Int.toNat_natCast List.length_nil decide_false decide_true in
set_option maxHeartbeats 4000000 in
theorem sJoin_f (l : List (Int × Int)) (hl : l.length ≤ 100000) : Fun Tryz.prog 20 [prs l] (prs (joinL l)) := by
  have hit := some_it l hl
  have hPl : (hasL l).length ≤ 100000 := Nat.le_trans (List.length_filter_le _ _) hl
  have hjn : joinL l = joinR (sortS (hasL l)) := (joinR_eq (sortS_spec _).1 (sortS_spec _).2).symm
  have hSl : (sortS (hasL l)).length = (hasL l).length := (sortS_spec _).1.length_eq
  have hS0 : hasL l = [] → sortS (hasL l) = [] := fun h => List.eq_nil_of_length_eq_zero (by rw [hSl, h]; rfl)
  rw [hjn]
  clear hjn
  generalize hasL l = P at *
  refine fun_C Tryz.func20 rfl (Nat.le_of_ble_eq_true rfl) fun cx hN hR hF hL => ?_; apply code_args; (case hA => (simp only [go_sem, ↓reduceIte]; rfl))
  (refine code_seq mixed (by rw [hN]; kernel_rfl) ?_)
  (repeat' first|((try (revert K;refine bK ?_));refine' run trivial ?_;(repeat' first|exact True.intro|refine Lv.mk ?_ ?_|(refine oK ?_;intro K hK)|intro hq);all_goals refine Lf.mk ?_)|refine rounds_s ?_)
  (refine code_seq mixed (by rw [hN]; kernel_rfl) ?_)
  (repeat' first|((try (revert K;refine bK ?_));refine' run trivial ?_;(repeat' first|exact True.intro|refine Lv.mk ?_ ?_|(refine oK ?_;intro K hK)|intro hq);all_goals refine Lf.mk ?_)|refine rounds_s ?_)
  refine code_seq2 ?_
  (refine code_seq mixed (by rw [hN]; kernel_rfl) ?_)
  (repeat' first|((try (revert K;refine bK ?_));refine' run trivial ?_;(repeat' first|exact True.intro|refine Lv.mk ?_ ?_|(refine oK ?_;intro K hK)|intro hq);all_goals refine Lf.mk ?_)|refine callZ cl41 (some_f l) ?_|refine rounds_s ?_)
  refine code_block ?_
  refine range_code mixed hR 3001 [(10, .fn (.func 72) [] [.pp [prs l]]), (3, .ptr 1000 0), (4, .v (.slice none 0 0))]
    (fun q : {k : Nat // k ≤ P.length} => ([(1000, some ⟨44, [outV 3001 2 (P.take q.1)]⟩), (3001, outB 23 prow (P.take q.1))], 4000)) (fun q => q.1) id ⟨0, Nat.zero_le _⟩
    (P.map spanA) hit cl72 ?_ rfl (fun b g h => by rw [hF] at h; cases h) (by simp [go_sem]) rfl (by simp) (by simp) span_rep (by rw [hN]; kernel_rfl) (by rw [hN]; kernel_rfl) (by rw [hN]; kernel_rfl) ?_ ?_
  · have o1 := outB_nil (t := 23) (F := prow) (l := P.take 0) rfl
    have o3 := outV_nil (b := 3001) (k := 2) (l := P.take 0) rfl
    simp only [o1, o3]
    simp only [go_sem, ↓reduceIte, hF]
  · rintro ⟨k, h0⟩ y hy cx1 hN1 hF1
    simp only at hy
    rw [List.getElem?_map] at hy
    obtain ⟨q, hq, rfl⟩ := Option.map_eq_some_iff.1 hy
    have hk := (List.getElem?_eq_some_iff.1 hq).1
    have htk : P.take (k + 1) = P.take k ++ [q] := by rw [List.take_add_one, hq]; rfl
    have hlen : (P.take k).length ≤ 100000 := by rw [List.length_take]; omega
    show W _ _ _ _ ⟨(11, .agg [int q.1, int q.2]) :: _, _, _⟩
    dsimp only
    generalize P.take k = O at *
    by_cases ho : O = []
    · simp only [outV_nil ho, outB_nil ho]
      (repeat' first|((try (revert K;refine bK ?_));refine' run trivial ?_;(repeat' first|exact True.intro|refine Lv.mk ?_ ?_|(refine oK ?_;intro K hK)|intro hq);all_goals refine Lf.mk ?_)|refine rounds_s ?_)
      intro cx2 hN2 hF2
      (repeat' first|((try (revert K;refine bK ?_));refine' run trivial ?_;(repeat' first|exact True.intro|refine Lv.mk ?_ ?_|(refine oK ?_;intro K hK)|intro hq);all_goals refine Lf.mk ?_)|refine rounds_s ?_)
      · refine ⟨⟨k + 1, hk⟩, nm1 3001 5024, rfl, ?_⟩
        subst ho
        simp only [htk, outV_snoc, outB_snoc]
        simp only [go_sem, ↓reduceIte, hF]
        exact fun b g h => by have := hF2 b g h; rw [if_neg (by omega)]; exact ⟨by omega, rfl⟩
      all_goals (simp [maxLen])
    · have hs1 : ((O.map prow).flatten).length = O.length * 2 := rows_count (F := prow) (k := 2) (fun _ => rfl) O
      simp only [outV_some ho, outB_some ho]
      (repeat' first|((try (revert K;refine bK ?_));refine' run trivial ?_;(repeat' first|exact True.intro|refine Lv.mk ?_ ?_|(refine oK ?_;intro K hK)|intro hq);all_goals refine Lf.mk ?_)|refine rounds_s ?_)
      intro cx2 hN2 hF2
      (repeat' first|((try (revert K;refine bK ?_));refine' run trivial ?_;(repeat' first|exact True.intro|refine Lv.mk ?_ ?_|(refine oK ?_;intro K hK)|intro hq);all_goals refine Lf.mk ?_)|refine rounds_s ?_)
      · refine ⟨⟨k + 1, hk⟩, nm1 3001 5024, rfl, ?_⟩
        simp only [htk, outV_snoc, outB_snoc]
        simp only [go_sem, ↓reduceIte, hF, List.map_append, List.all_append]
        exact fun b g h => by have := hF2 b g h; rw [if_neg (by omega)]; exact ⟨by omega, rfl⟩
      all_goals (simp [maxLen, hs1]; omega)
  · rintro ⟨k, h1⟩ hk
    simp only at hk
    obtain rfl : k = P.length := by simpa using hk
    simp only [List.take_length]
    by_cases ho : P = []
    · rw [hS0 ho]
      simp only [outV_nil ho, outB_nil ho]
      refine code_w mixed (by rw [hN]; kernel_rfl) ?_
      (repeat' first|((try (revert K;refine bK ?_));refine' run trivial ?_;(repeat' first|exact True.intro|refine Lv.mk ?_ ?_|(refine oK ?_;intro K hK)|intro hq);all_goals refine Lf.mk ?_)|refine callZ cl42 (sortS0_f) ?_|refine rounds_s ?_)
      refine loop_rounds mixed 1 (by rw [hN]; kernel_rfl) ?_
      (repeat' first|((try (revert K;refine bK ?_));refine' run trivial ?_;(repeat' first|exact True.intro|refine Lv.mk ?_ ?_|(refine oK ?_;intro K hK)|intro hq);all_goals refine Lf.mk ?_)|refine rounds_s ?_)
      all_goals rfl
    · have hpos : 0 < P.length := List.length_pos_iff.2 ho
      simp only [outV_some ho, outB_some ho]
      rw [show (P.map prow).flatten = rowC prow P from rfl]
      (refine code_seq mixed (by rw [hN]; kernel_rfl) ?_)
      (repeat' first|((try (revert K;refine bK ?_));refine' run trivial ?_;(repeat' first|exact True.intro|refine Lv.mk ?_ ?_|(refine oK ?_;intro K hK)|intro hq);all_goals refine Lf.mk ?_)|refine rounds_s ?_)
      (apply callB' [3001] cl42 (sortSp_f P (by omega)); (case h1 | h2 | h3 => (simp only [go_sem, ↓reduceIte]; try rfl)); (case hl | hs | hfp | hfr => (simp [go_sem]; done)))
      (repeat' first|((try (revert K;refine bK ?_));refine' run trivial ?_;(repeat' first|exact True.intro|refine Lv.mk ?_ ?_|(refine oK ?_;intro K hK)|intro hq);all_goals refine Lf.mk ?_)|refine rounds_s ?_)
      generalize sortS P = S at *
      rw [← hSl]
      (refine code_seq mixed (by rw [hN]; kernel_rfl) ?_)
      (repeat' first|((try (revert K;refine bK ?_));refine' run trivial ?_;(repeat' first|exact True.intro|refine Lv.mk ?_ ?_|(refine oK ?_;intro K hK)|intro hq);all_goals refine Lf.mk ?_)|refine rounds_s ?_)
      refine code_freeze [3001] [(18, prs S), (19, int S.length), (20, int 0), (4, .v (.slice none 0 0))] [] rfl ?_ trivial ?_
      · simp only [go_sem, ↓reduceIte]
        exact ⟨rows_len (F := prow) (fun _ => rfl) _, fzo_rows (F := prow) (k := 2) (fun _ => rfl) (fun _ => by simp [prow]) _ rfl⟩
      refine code_w mixed (by rw [hN]; kernel_rfl) ?_
      (repeat' first|((try (revert K;refine bK ?_));refine' run trivial ?_;(repeat' first|exact True.intro|refine Lv.mk ?_ ?_|(refine oK ?_;intro K hK)|intro hq);all_goals refine Lf.mk ?_)|refine rounds_s ?_)
      refine loop_nil 4 6001 2 23 rfl (Nat.le_of_ble_eq_true rfl) ?_
      refine loopW mixed (σ := {q : Nat × List (Int × Int) // q.1 ≤ S.length ∧ q.2.length ≤ q.1 ∧ (S.drop q.1).foldl stepR q.2.reverse = S.foldl stepR []})
        (fun q => ⟨[(20, int q.1.1), (4, .osl 6001 2 0 q.1.2.length), (18, prs S), (19, int S.length)], [(6001, some ⟨23, rowC prow q.1.2⟩)], 7000⟩) (fun q => S.length - q.1.1) id ⟨(0, []), by simp, by simp, rfl⟩ (by rw [hN]; kernel_rfl) ?_ ?_
      · simp only [go_sem, ↓reduceIte, hF]
        exact ⟨rfl, rfl⟩
      · rintro ⟨⟨i, O⟩, h1, h2, h3⟩
        simp only at h1 h2 h3
        by_cases hi : i < S.length
        · have hq : S[i]? = some S[i] := List.getElem?_eq_getElem hi
          have e1 : (S.map prow)[i]? = some (prow S[i]) := by rw [List.getElem?_map, hq]; rfl
          have e5 : IntKind.i64.wrap ((i : Int) + 1) = ((i + 1 : Nat) : Int) := by rw [swrap] <;> omega
          have hk1 : i < (S.map prow).length := by simpa using hi
          rw [List.drop_eq_getElem_cons hi, List.foldl_cons] at h3
          generalize S[i] = q at *
          rcases List.eq_nil_or_concat O with rfl | ⟨Q, e, hQe⟩
          · have hz : ((0 : Int) < ((0 : Nat) : Int)) = False := by simp
            have hr0 : rowC prow [] = [] := rfl
            (repeat' first|((try (revert K;refine bK ?_));refine' run (I e1 (I e5 (I hk1 (I hz hr0)))) ?_;(repeat' first|exact True.intro|refine Lv.mk ?_ ?_|(refine oK ?_;intro K hK)|intro hq);all_goals refine Lf.mk ?_)|refine rounds_s ?_)
            · refine ⟨⟨(i + 1, [q]), hi, by simp, h3⟩, nm1 6001 11024, ?_, by show S.length - (i + 1) < S.length - i; omega⟩
              simp only [go_sem, ↓reduceIte, hF]
              rfl
            · simp [maxLen]
          · rw [List.concat_eq_append] at hQe
            have hOl : (O.length : Int) = (Q.length : Int) + 1 := by rw [hQe, List.length_append, List.length_singleton]; omega
            have hg : ((0 : Int) < (O.length : Int)) = True := eq_true (by omega)
            have w1 : IntKind.i64.wrap ((O.length : Int) - 1) = (Q.length : Int) := by rw [swrap (by omega) (by omega)]; omega
            have w2 : ((Q.length : Int) < (O.length : Int)) = True := eq_true (by omega)
            have hc1 : (rowC prow O)[Q.length * 2 + 1]? = some (int e.2) := by
              rw [rowP_at, hQe, show (Q.length * 2 + 1) / 2 = Q.length by omega, show (Q.length * 2 + 1) % 2 = 1 by omega]
              simp
            have hro := rowP_len O
            have hne : (rowC prow O = []) = False := eq_false (by rw [← List.length_eq_zero_iff]; omega)
            by_cases c1 : q.1 ≤ e.2
            · have hs : stepR O.reverse q = (Q ++ [(e.1, max e.2 q.2)]).reverse := by rw [hQe]; simp [stepR, c1]
              have hla := rowP_last Q e (max e.2 q.2)
              rw [← hQe] at hla
              rw [hs] at h3
              (repeat' first|((try (revert K;refine bK ?_));refine' run (I e1 (I e5 (I hk1 (I w1 (I w2 (I hg (I hc1 (I hne (I (eq_true c1) (decide_eq_true c1)))))))))) ?_;(repeat' first|exact True.intro|refine Lv.mk ?_ ?_|(refine oK ?_;intro K hK)|intro hq);all_goals refine Lf.mk ?_)|refine rounds_s ?_)
              refine ⟨⟨(i + 1, Q ++ [(e.1, max e.2 q.2)]), hi, by rw [hQe] at h2; simp at h2 ⊢; omega, h3⟩, id, ?_, by show S.length - (i + 1) < S.length - i; omega⟩
              simp only [hla]
              simp only [go_sem, ↓reduceIte, hF]
              rw [hQe, List.length_append, List.length_singleton]
            · have hs : stepR O.reverse q = (O ++ [q]).reverse := by rw [hQe]; simp [stepR, c1]
              rw [hs] at h3
              (repeat' first|((try (revert K;refine bK ?_));refine' run (I e1 (I e5 (I hk1 (I w1 (I w2 (I hg (I hc1 (I hne (I (eq_false c1) (decide_eq_false c1)))))))))) ?_;(repeat' first|exact True.intro|refine Lv.mk ?_ ?_|(refine oK ?_;intro K hK)|intro hq);all_goals refine Lf.mk ?_)|refine rounds_s ?_)
              · refine ⟨⟨(i + 1, O ++ [q]), hi, by simp; omega, h3⟩, nm1 6001 11024, ?_, by show S.length - (i + 1) < S.length - i; omega⟩
                simp only [List.length_append, List.length_singleton, rowP_snoc]
                simp only [go_sem, ↓reduceIte, hF, List.map_append, List.all_append]
              · exact ⟨hro, by simp [maxLen]; omega⟩
        · obtain rfl : i = S.length := by omega
          rw [List.drop_length, List.foldl_nil] at h3
          have hj : joinR S = O := by rw [joinR, ← h3, List.reverse_reverse]
          subst hj
          (repeat' first|((try (revert K;refine bK ?_));refine' run trivial ?_;(repeat' first|exact True.intro|refine Lv.mk ?_ ?_|(refine oK ?_;intro K hK)|intro hq);all_goals refine Lf.mk ?_)|refine rounds_s ?_)
          refine code_w mixed (by rw [hN]; kernel_rfl) ?_
          (repeat' first|((try (revert K;refine bK ?_));refine' run trivial ?_;(repeat' first|exact True.intro|refine Lv.mk ?_ ?_|(refine oK ?_;intro K hK)|intro hq);all_goals refine Lf.mk ?_)|refine rounds_s ?_)
          exact ⟨rows_len (F := prow) (fun _ => rfl) _, fzo_rows (F := prow) (k := 2) (fun _ => rfl) (fun _ => by simp [prow]) _ rfl⟩
end Go.Proofs.YtkonljmmdifnaaaGreat.V
set_option linter.unusedSimpArgs false
set_option linter.unusedVariables false
namespace Go.Proofs
def Tryz.compactInt_ren : Go.Shelf.Ren := ⟨fun | 43 => 67 | n => n, fun | 0 => 0 | 3 => 3 | 4 => 4 | 22 => 65 | 23 => 3 | n => n, fun n => n⟩
theorem Tryz.compactInt : Go.Proofs.SlLaysN.n43 Tryz.prog Tryz.compactInt_ren := {
  mixed := by kernel_rfl
  f43 := ⟨Tryz.f67.name, by decide, Tryz.func67.trans (congrArg some (by kernel_rfl))⟩
  t0 := Tryz.underlying0
  a0 := Tryz.isAgg0
  z0 := Tryz.sizeOf0
  v0 := Tryz.zeroValue0
  t3 := Tryz.underlying3
  a3 := Tryz.isAgg3
  z3 := Tryz.sizeOf3
  v3 := Tryz.zeroValue3
  t4 := Tryz.underlying4
  a4 := Tryz.isAgg4
  z4 := Tryz.sizeOf4
  v4 := Tryz.zeroValue4
  t22 := Tryz.underlying65
  a22 := Tryz.isAgg65
  z22 := Tryz.sizeOf65
  v22 := Tryz.zeroValue65
  t23 := Tryz.underlying3
  a23 := Tryz.isAgg3
  z23 := Tryz.sizeOf3
  v23 := Tryz.zeroValue3
  i23 := by kernel_rfl }
end Go.Proofs
namespace Go.Proofs.YtkonljmmdifnaaaGreat.V
open Go.RowKit Go.Sort

/-- The same, where a beginning of the row is handed back. -/
theorem funB_rowO {P : Program} {f : FuncId} {α : Type} [Inhabited α] {enc : α → Value} {F : List AV} {F' : List AV} {t : TypeId} {k n m0 : Nat} {args : List AV} (hm0 : m0 ≤ n) (hF : F.length = n * k) (hF' : F'.length = n * k)
    (hc : ∀ (M : Nat → Prop) (ι : Nat → Option Nat) (w : World) (g cap : Nat) (c : Array Value) (vs : Array Value), w.heap[g]? = some (.cells c t (0, 0)) → n ≤ cap → cap ≤ maxLen → cap * k = c.size → (∀ (j : Nat) (v : Value) (y : AV), c[j]? = some v → F[j]? = some y → RepA ι M w v y) →
      vs.size = args.length → (∀ (i : Nat) (v : Value) (y : AV), vs[i]? = some v → args[i]? = some y → RepA ι M w v y) →
      Calls P f (#[.slice (some ⟨g, 0, none⟩) n cap] ++ vs) w fun e w' => e = .returned (.slice (some ⟨g, 0, none⟩) m0 cap) ∧ ∃ (m : Nat) (os : Array Obj) (d : Array Value), d.size = n * k ∧ (∀ (j : Nat) (y : AV), F'[j]? = some y → ∃ v, d[j]? = some v ∧ v.oneCell' = true ∧ y = .v v) ∧ w' = grow (putRow id (Sort.ahead w m) g 0 d) os)
    (h0 : n = 0 → ∀ (M : Nat → Prop) (ι : Nat → Option Nat) (w : World) (A : Option Addr) (cap : Nat) (vs : Array Value), vs.size = args.length → (∀ (i : Nat) (v : Value) (y : AV), vs[i]? = some v → args[i]? = some y → RepA ι M w v y) → Calls P f (#[.slice A 0 cap] ++ vs) w fun e w' => e = .returned (.slice A 0 cap) ∧ w' = w) :
    FunB P f [(0, ⟨t, F⟩)] (.osl 0 k 0 n :: args) (.osl 0 k 0 m0) [(0, some ⟨t, F'⟩)] := by
  intro M0 ι w vs hs hsz hv
  obtain ⟨v, us, rfl⟩ : ∃ v us, vs = #[v] ++ us := by
    refine ⟨vs[0]'(by rw [hsz]; simp), (vs.toList.drop 1).toArray, ?_⟩
    apply Array.ext'
    have : 0 < vs.toList.length := by simp [hsz]
    simp
    rcases hvl : vs.toList with _ | ⟨x, l⟩
    · simp [hvl] at this
    · have : vs[0]'(by rw [hsz]; simp) = x := by
        have h2 : vs.toList[0]? = some x := by rw [hvl]; rfl
        rw [Array.getElem?_toList] at h2
        exact (Array.getElem?_eq_some_iff.1 h2).2
      simp [this]
  have hus : us.size = args.length := by simp at hsz; omega
  have hrest : ∀ (i : Nat) (v : Value) (y : AV), us[i]? = some v → args[i]? = some y → RepA ι (Mof (bcx M0 ι [(0, ⟨t, F⟩)] w 0) ι (bget (lives [(0, ⟨t, F⟩)]))) w v y := fun i u y hu hy =>
    hv (i + 1) u y (by rw [Array.getElem?_append_right (by simp)]; exact hu) (by simpa using hy)
  have h1 := hv 0 v (.osl 0 k 0 n) (by rw [Array.getElem?_append_left (by simp)]; rfl) rfl
  have hbox : bget (lives [(0, (⟨t, F⟩ : Bx))]) 0 = some ⟨t, F⟩ := by simp [lives, bget, bput]
  have finish : ∀ (g : Nat) (c : Array Value) (m : Nat) (os : Array Obj) (d : Array Value), ι 0 = some g → w.heap[g]? = some (.cells c t (0, 0)) → n * k ≤ c.size → d.size = n * k → (∀ (j : Nat) (y : AV), F'[j]? = some y → ∃ v, d[j]? = some v ∧ v.oneCell' = true ∧ y = .v v) → ∀ cap, n ≤ cap → cap ≤ maxLen → cap * k = c.size →
      ∃ u ι', Ending.returned (.slice (some ⟨g, 0, none⟩) m0 cap) = Ending.returned u ∧ (∀ b, inl [(0, (⟨t, F⟩ : Bx))] b = true → ι' b = ι b) ∧ HSat (bcx M0 ι [(0, ⟨t, F⟩)] w 0) ι' (bget ([(0, some ⟨t, F'⟩)] ++ lives [(0, ⟨t, F⟩)])) (fun b => inl [(0, (⟨t, F⟩ : Bx))] b = true ∨ inl [(0, some (⟨t, F'⟩ : Bx))] b = true) (grow (putRow id (Sort.ahead w m) g 0 d) os) ∧ Oth w (grow (putRow id (Sort.ahead w m) g 0 d) os) ∧
        RepA ι' (Mof (bcx M0 ι [(0, ⟨t, F⟩)] w 0) ι' (bget ([(0, some ⟨t, F'⟩)] ++ lives [(0, ⟨t, F⟩)]))) (grow (putRow id (Sort.ahead w m) g 0 d) os) u (.osl 0 k 0 m0) := by
    intro g c m os d hg hh hck hd hdv cap hnc hmc hkc
    have s1 := step_below hs (below_ahead w m)
    have hh' : (Sort.ahead w m).heap[g]? = some (.cells c t (0, 0)) := hh
    have hps : (putCells id 0 d c).size = c.size := by simp [putCells]
    have s2 := step_row s1.h (bx := ⟨t, F⟩) (bx' := ⟨t, F'⟩) (c' := putCells id 0 d c) hbox hg hh' hps (by rw [hps]; simp only; omega) rfl (fun j v y hv hy => by
      obtain ⟨u, e1, e2, rfl⟩ := hdv j y hy
      have hj : j < d.size := (Array.getElem?_eq_some_iff.1 e1).1
      have : v = u := by
        simp only [putCells, Array.getElem?_mapIdx, Option.map_eq_some_iff] at hv
        obtain ⟨x, hx, rfl⟩ := hv
        rw [if_pos ⟨Nat.zero_le _, by omega⟩]
        simp only [Nat.sub_zero, id]
        rw [getElem!_pos d j hj]
        exact (Array.getElem?_eq_some_iff.1 e1).2
      subst this
      exact ⟨e2, .d (.v _)⟩)
    rw [← putRow_setRow hh] at s2
    have s3 := step_below s2.h (below_grow _ os)
    have hM : bget ([(0, some (⟨t, F'⟩ : Bx))] ++ lives [(0, ⟨t, F⟩)]) = bput (bget (lives [(0, (⟨t, F⟩ : Bx))])) [(0, some ⟨t, F'⟩)] := by
      funext b
      simp [bget, bput, lives]
    refine ⟨_, ι, rfl, fun _ _ => rfl, ?_, (s1.oth.trans s2.oth).trans s3.oth, by rw [hM]; exact s3.keep _ _ (s2.keep _ _ (s1.keep _ _ (.osl hg (Nat.le_trans hm0 hnc) hmc hh (by omega))))⟩
    rw [hM]
    refine s3.h.used_mono fun b hb => ?_
    rcases hb with hb | ⟨r, hb⟩
    · exact .inl hb
    · refine .inr ?_
      simp at hb
      simp [inl, hb.1]
  have nil : n = 0 → ∀ (A : Option Addr) (cap : Nat), v = .slice A 0 cap → Calls P f (#[v] ++ us) w fun e w' => ∃ u ι', e = .returned u ∧ (∀ b, inl [(0, (⟨t, F⟩ : Bx))] b = true → ι' b = ι b) ∧ HSat (bcx M0 ι [(0, ⟨t, F⟩)] w 0) ι' (bget ([(0, some ⟨t, F'⟩)] ++ lives [(0, ⟨t, F⟩)])) (fun b => inl [(0, (⟨t, F⟩ : Bx))] b = true ∨ inl [(0, some (⟨t, F'⟩ : Bx))] b = true) w' ∧ Oth w w' ∧
        RepA ι' (Mof (bcx M0 ι [(0, ⟨t, F⟩)] w 0) ι' (bget ([(0, some ⟨t, F'⟩)] ++ lives [(0, ⟨t, F⟩)]))) w' u (.osl 0 k 0 m0) := by
    rintro hn A cap rfl
    refine (h0 hn _ ι w A cap us hus hrest).mono ?_
    rintro e w' ⟨rfl, rfl⟩
    have hF0 : F = [] := List.eq_nil_of_length_eq_zero (by rw [hF, hn, Nat.zero_mul])
    have hF1 : F' = [] := List.eq_nil_of_length_eq_zero (by rw [hF', hn, Nat.zero_mul])
    have hM : bget ([(0, some (⟨t, F'⟩ : Bx))] ++ lives [(0, ⟨t, F⟩)]) = bget (lives [(0, (⟨t, F⟩ : Bx))]) := by
      funext b
      subst hF0 hF1
      by_cases hb : b = 0 <;> simp [bget, bput, lives, hb]
    refine ⟨_, ι, rfl, fun _ _ => rfl, ?_, Oth.refl _, by rw [hM, show m0 = n by omega]; exact h1⟩
    rw [hM]
    exact hs.used_mono fun b hb => .inl hb
  generalize hy : AV.osl 0 k 0 n = y at h1
  cases h1 with
  | osl h hn hm hh hsz' =>
    cases hy
    rename_i g cap c t'
    obtain ⟨g', e1, -, -, c', e4, e5, e6⟩ : ∃ g, ι 0 = some g ∧ ((bcx M0 ι [(0, ⟨t, F⟩)] w 0).base ≤ g ∨ (bcx M0 ι [(0, ⟨t, F⟩)] w 0).G g) ∧ ¬ (bcx M0 ι [(0, ⟨t, F⟩)] w 0).M0 g ∧ BoxRep ι (Mof (bcx M0 ι [(0, ⟨t, F⟩)] w 0) ι (bget (lives [(0, ⟨t, F⟩)]))) w g ⟨t, F⟩ := by
      rcases hs.own 0 _ hbox with ⟨-, h2⟩ | h2
      · rw [h] at h2; cases h2
      · exact h2
    rw [h] at e1
    cases e1
    rw [hh] at e4
    cases e4
    rw [Nat.zero_add] at hsz'
    refine (hc _ ι w g cap c us hh hn hm hsz' (fun j u y hu hy => (e6 j u y hu hy).2) hus hrest).mono ?_
    rintro e w' ⟨rfl, m, os, d, hd, hdv, rfl⟩
    exact finish g c m os d h hh (by rw [← hsz']; exact Nat.mul_le_mul_right k hn) hd hdv cap hn hm hsz'
  | osl0 A b k' o =>
    cases hy
    exact nil rfl A 0 rfl
  | d h => subst hy; cases h
  | _ => cases hy


abbrev cmpt (l : List Int) : List Int := Lib.compact l
theorem cmpt_mem (l : List Int) (x : Int) : x ∈ cmpt l ↔ x ∈ l := by
  unfold cmpt Lib.compact Lib.compactUpTo
  rw [List.mem_map]
  constructor
  · rintro ⟨j, hj, rfl⟩
    simp only [List.mem_filter, List.mem_range] at hj
    rw [getElem!_pos _ j (by simpa using hj.1)]
    simp
  · intro hx
    obtain ⟨i, hi, hie⟩ := List.getElem_of_mem hx
    induction i using Nat.strongRecOn with
    | ind i ih =>
      cases hk : Lib.keeps l.toArray i with
      | true => exact ⟨i, by simp [hi, hk], by rw [getElem!_pos _ i (by simpa using hi)]; simpa using hie⟩
      | false =>
        simp only [Lib.keeps, decide_eq_false_iff_not, not_or, Decidable.not_not, ne_eq] at hk
        obtain ⟨h1, h2⟩ := hk
        rw [getElem!_pos _ i (by simpa using hi), getElem!_pos _ (i - 1) (by simp; omega)] at h2
        refine ih (i - 1) (by omega) (by omega) ?_
        simp at h2
        rw [← h2, hie]
theorem cmpt_sorted {l : List Int} (h : l.Pairwise (· ≤ ·)) : (cmpt l).Pairwise (· ≤ ·) := by
  unfold cmpt Lib.compact Lib.compactUpTo
  rw [List.pairwise_map]
  refine (List.Pairwise.filter _ List.pairwise_lt_range).imp_of_mem ?_
  intro i j hi hj hij
  simp only [List.mem_filter, List.mem_range] at hi hj
  rw [getElem!_pos _ i (by simpa using hi.1), getElem!_pos _ j (by simpa using hj.1)]
  simp only [List.getElem_toArray]
  exact List.pairwise_iff_getElem.1 h i j hi.1 hj.1 hij
theorem cmpt_len (l : List Int) : (cmpt l).length ≤ l.length := by
  unfold cmpt Lib.compact Lib.compactUpTo
  rw [List.length_map]
  have := List.length_filter_le (Lib.keeps l.toArray) (List.range l.length)
  simpa using this

theorem compactI_f (l : List Int) (hl : l.length < 4611686018427387904) : FunB Tryz.prog 67 [(0, ⟨3, rowC irow l⟩)] [.osl 0 1 0 l.length] (.osl 0 1 0 (cmpt l).length) [(0, some ⟨3, rowC irow (cmpt l ++ List.replicate (l.length - (cmpt l).length) 0)⟩)] := by
  have hcl := cmpt_len l
  refine funB_rowO (enc := Value.int .i64) hcl (by rw [rowI_len, Nat.mul_one]) (by rw [rowI_len, Nat.mul_one, List.length_append, List.length_replicate]; omega) ?_ ?_
  · intro M ι w g cap c vs hh hn hm hck hcell hvs _
    obtain rfl : vs = #[] := Array.eq_empty_of_size_eq_zero (by simpa using hvs)
    have hH : Holds (Value.int .i64) w g 0 l.toArray := fun j hj => by
      have hj : j < l.length := by simpa using hj
      have hjc : j < c.size := by omega
      have := hcell j c[j] (int l[j]) (Array.getElem?_eq_getElem hjc) (rowI_some (List.getElem?_eq_getElem hj))
      have he := this.ofV
      have hg! : l.toArray[j]! = l[j] := by rw [getElem!_pos l.toArray j (by simpa using hj)]; simp
      rw [Nat.zero_add, hg!]
      refine ⟨?_, ?_⟩
      · simp only [World.cell?, hh]
        rw [Array.getElem?_eq_getElem hjc, he]; rfl
      · simp [World.frozen?, hh]
    have hc := AnyG.slices_Compact_int Tryz.compactInt g 0 cap l w hH (by omega) hn
    refine Calls.mono (show Calls Tryz.prog 67 _ w _ from hc) ?_
    rintro e w' ⟨rfl, m, rfl⟩
    generalize hL : cmpt l ++ List.replicate (l.length - (cmpt l).length) 0 = L
    have hLl : L.length = l.length := by rw [← hL, List.length_append, List.length_replicate]; omega
    refine ⟨rfl, m, #[], (L.map (Value.int .i64)).toArray, by simp [hLl], fun j y hy => ?_, ?_⟩
    · rw [rowI_at] at hy
      simp only [Option.map_eq_some_iff] at hy
      obtain ⟨z, hz, rfl⟩ := hy
      exact ⟨.int .i64 z, by simp [hz], rfl, rfl⟩
    · rw [show grow (putRow id («Sort».ahead w m) g 0 (L.map (Value.int .i64)).toArray) #[] = putRow id («Sort».ahead w m) g 0 (L.map (Value.int .i64)).toArray by simp [grow]; rfl]
      unfold putRow
      refine mapBlock_congr _ _ _ _ fun c' e fr _ => ?_
      unfold putCells
      apply Array.ext
      · simp
      · intro i h1 h2
        have hL' : Lib.compact l ++ List.replicate (l.length - (Lib.compact l).length) 0 = L := hL
        simp only [Array.getElem_mapIdx, List.size_toArray, List.length_map, Nat.zero_add, Nat.sub_zero, id, hL']
        by_cases hi : i < L.length
        · rw [if_pos ⟨Nat.zero_le _, hi⟩, if_pos ⟨Nat.zero_le _, hi⟩, getElem!_pos _ _ (by simpa using hi), getElem!_pos _ _ (by simpa using hi)]
          simp
        · rw [if_neg (fun h => hi h.2), if_neg (fun h => hi h.2)]
  · intro hn M ι w A cap vs hvs _
    obtain rfl : vs = #[] := Array.eq_empty_of_size_eq_zero (by simpa using hvs)
    exact AnyG.slices_Compact_int_empty Tryz.compactInt A cap w
end Go.Proofs.YtkonljmmdifnaaaGreat.V
set_option linter.unusedSimpArgs false
set_option linter.unusedVariables false
namespace Go.Proofs.YtkonljmmdifnaaaGreat.V
open Go.RowKit
set_option maxRecDepth 100000
attribute [local go_sem] Option.toList_some Option.toList_none

theorem clone_any (l : List Int) (f : Bool) (hl : l.length ≤ 100000) : FunB Tryz.prog 65 [] [.sl f 1 (l.map irow)] (.osl 0 1 0 l.length) [(0, some ⟨3, rowC irow l⟩)] := by
  refine funB_C 0 Tryz.func65 rfl (Nat.le_of_ble_eq_true rfl) (by simp [go_sem]) fun cx hN hR hF hL => ?_; apply code_argsB; (case hA => (simp only [go_sem, ↓reduceIte]; rfl)); (case hB => (simp only [go_sem, ↓reduceIte]; rfl))
  (refine code_seq mixed (by rw [hN]; kernel_rfl) ?_)
  (try ((try (revert K;refine bK ?_));refine' run trivial ?_;(repeat' first|exact True.intro|refine Lv.mk ?_ ?_|(refine oK ?_;intro K hK)|intro hq);all_goals refine Lf.mk ?_))
  refine code_seq2 ?_
  (refine code_seq mixed (by rw [hN]; kernel_rfl) ?_)
  (try ((try (revert K;refine bK ?_));refine' run trivial ?_;(repeat' first|exact True.intro|refine Lv.mk ?_ ?_|(refine oK ?_;intro K hK)|intro hq);all_goals refine Lf.mk ?_))
  refine code_bit rfl (fun hq => ?_) ?_
  · obtain rfl : l = [] := by simpa using hq
    (refine code_seq mixed (by rw [hN]; kernel_rfl) ?_)
    (try ((try (revert K;refine bK ?_));refine' run trivial ?_;(repeat' first|exact True.intro|refine Lv.mk ?_ ?_|(refine oK ?_;intro K hK)|intro hq);all_goals refine Lf.mk ?_))
    refine code_nil 2 3000 1 3 rfl (Nat.le_of_ble_eq_true rfl) ?_
    refine code_cut (nm1 0 3000) ⟨[(2, .osl 0 1 0 0)], [(0, some ⟨3, []⟩)], 1⟩ ?_ (code_w mixed (by rw [hN]; kernel_rfl) ?_)
    · simp only [go_sem, ↓reduceIte, hF]
      exact fun b g h => absurd (hF b g h) (by simp [inl])
    · (try ((try (revert K;refine bK ?_));refine' run trivial ?_;(repeat' first|exact True.intro|refine Lv.mk ?_ ?_|(refine oK ?_;intro K hK)|intro hq);all_goals refine Lf.mk ?_))
      rfl
  · refine code_w mixed (by rw [hN]; kernel_rfl) ?_
    (try ((try (revert K;refine bK ?_));refine' run trivial ?_;(repeat' first|exact True.intro|refine Lv.mk ?_ ?_|(refine oK ?_;intro K hK)|intro hq);all_goals refine Lf.mk ?_))
    (refine code_seq mixed (by rw [hN]; kernel_rfl) ?_)
    (try ((try (revert K;refine bK ?_));refine' run trivial ?_;(repeat' first|exact True.intro|refine Lv.mk ?_ ?_|(refine oK ?_;intro K hK)|intro hq);all_goals refine Lf.mk ?_))
    · refine code_cut (nm1 0 2016) ⟨[(2, .osl 0 1 0 l.length)], [(0, some ⟨3, rowC irow l⟩)], 1⟩ ?_ (code_w mixed (by rw [hN]; kernel_rfl) ?_)
      · simp only [go_sem, ↓reduceIte, hF]
        exact ⟨rfl, fun b g h => absurd (hF b g h) (by simp [inl])⟩
      · (try ((try (revert K;refine bK ?_));refine' run trivial ?_;(repeat' first|exact True.intro|refine Lv.mk ?_ ?_|(refine oK ?_;intro K hK)|intro hq);all_goals refine Lf.mk ?_))
    · simp [maxLen]; omega

theorem fzo_part {t : TypeId} {R : AV → AV → Prop} (l m : List Int) : fzo (some ⟨t, rowC irow (l ++ m)⟩) R 1 0 l.length (l.map irow) := by
  have hl := rowI_len l
  have ha : rowC irow (l ++ m) = rowC irow l ++ rowC irow m := by simp [rowC]
  refine ⟨by simp only; rw [rowI_len, List.length_append]; omega, .inl ⟨?_, fun r hr y hy => ?_⟩⟩
  · simp only
    rw [List.drop_zero, ha, List.take_left' (by omega)]
    rfl
  · obtain ⟨x, -, rfl⟩ := List.mem_map.1 hr
    simp [irow] at hy
    subst hy
    simp

set_option maxHeartbeats 4000000 in
theorem sParts_f (s : Int × Int) (l : List Int) (hl : l.length ≤ 100000) : Fun Tryz.prog 35 [.agg [int s.1, int s.2], ints l] (prs (partsL s l)) := by
  unfold partsL
  have hms : (msort l).length = l.length := List.length_mergeSort _
  have hsrt : (msort l).Pairwise (· ≤ ·) := by
    have := List.pairwise_mergeSort (le := fun x y : Int => decide (x ≤ y)) (fun a b c h1 h2 => by simp at h1 h2 ⊢; omega) (fun a b => by simp; omega) l
    exact this.imp (by simp)
  cases hp : has s.1 s.2
  · rw [if_neg (by simp)]
    have k1 := skept_f s.1 s.2
    rw [(k_no hp).1, (k_no hp).2] at k1
    refine fun_W mixed Tryz.func35 rfl (Nat.le_of_ble_eq_true rfl) (by kernel_rfl) fun cx hN hR hF hL => ?_; apply args_k; (case hA => (simp only [go_sem, ↓reduceIte]; rfl))
    (repeat' first|((try (revert K;refine bK ?_));refine' run trivial ?_;(repeat' first|exact True.intro|refine Lv.mk ?_ ?_|(refine oK ?_;intro K hK)|intro hq);all_goals refine Lf.mk ?_)|refine callZ cl39 (k1) ?_)
  · rw [if_pos rfl]
    have k1 := skept_f s.1 s.2
    rw [(k_yes hp).1, (k_yes hp).2] at k1
    have hp2 := has_iff.1 hp
    have hz : (s.1 = 0) = False := eq_false (by omega)
    have hpm : partsG s.2 s.1 (msort l) = partsG s.2 s.1 (cmpt (msort l)) := partsG_mem (l := []) hp2.2.1 hsrt (cmpt_sorted hsrt) fun x => (cmpt_mem _ x).symm
    rw [show (l.mergeSort fun x y => decide (x ≤ y)) = msort l from rfl, hpm]
    have hcl := cmpt_len (msort l)
    generalize hD : cmpt (msort l) = D at *
    refine fun_C Tryz.func35 rfl (Nat.le_of_ble_eq_true rfl) fun cx hN hR hF hL => ?_; apply code_args; (case hA => (simp only [go_sem, ↓reduceIte]; rfl))
    (refine code_seq mixed (by rw [hN]; kernel_rfl) ?_)
    (repeat' first|((try (revert K;refine bK ?_));refine' run trivial ?_;(repeat' first|exact True.intro|refine Lv.mk ?_ ?_|(refine oK ?_;intro K hK)|intro hq);all_goals refine Lf.mk ?_)|refine callZ cl39 (k1) ?_)
    (refine code_seq mixed (by rw [hN]; kernel_rfl) ?_)
    (repeat' first|((try (revert K;refine bK ?_));refine' run trivial ?_;(repeat' first|exact True.intro|refine Lv.mk ?_ ?_|(refine oK ?_;intro K hK)|intro hq);all_goals refine Lf.mk ?_)|refine callZ cl39 (k1) ?_)
    · exact absurd ‹[s.1, s.2] = [0, 0]› (by simp [hz])
    (refine code_seq mixed (by rw [hN]; kernel_rfl) ?_)
    (try ((try (revert K;refine bK ?_));refine' run trivial ?_;(repeat' first|exact True.intro|refine Lv.mk ?_ ?_|(refine oK ?_;intro K hK)|intro hq);all_goals refine Lf.mk ?_))
    (apply callB' [3008] cl65 (clone_any l false hl); (case h1 | h2 | h3 => (simp only [go_sem, ↓reduceIte]; try rfl)); (case hl | hs | hfp | hfr => (simp [go_sem]; done)))
    (try ((try (revert K;refine bK ?_));refine' run trivial ?_;(repeat' first|exact True.intro|refine Lv.mk ?_ ?_|(refine oK ?_;intro K hK)|intro hq);all_goals refine Lf.mk ?_))
    (refine code_seq mixed (by rw [hN]; kernel_rfl) ?_)
    (try ((try (revert K;refine bK ?_));refine' run trivial ?_;(repeat' first|exact True.intro|refine Lv.mk ?_ ?_|(refine oK ?_;intro K hK)|intro hq);all_goals refine Lf.mk ?_))
    (apply callB' [3008] cl66 (sortI_f l (by omega)); (case h1 | h2 | h3 => (simp only [go_sem, ↓reduceIte]; try rfl)); (case hl | hs | hfp | hfr => (simp [go_sem]; done)))
    (try ((try (revert K;refine bK ?_));refine' run trivial ?_;(repeat' first|exact True.intro|refine Lv.mk ?_ ?_|(refine oK ?_;intro K hK)|intro hq);all_goals refine Lf.mk ?_))
    (refine code_seq mixed (by rw [hN]; kernel_rfl) ?_)
    (try ((try (revert K;refine bK ?_));refine' run trivial ?_;(repeat' first|exact True.intro|refine Lv.mk ?_ ?_|(refine oK ?_;intro K hK)|intro hq);all_goals refine Lf.mk ?_))
    refine code_seq2 ?_
    have c := compactI_f (msort l) (by omega)
    rw [hms, hD] at c
    (refine code_seq mixed (by rw [hN]; kernel_rfl) ?_)
    (try ((try (revert K;refine bK ?_));refine' run trivial ?_;(repeat' first|exact True.intro|refine Lv.mk ?_ ?_|(refine oK ?_;intro K hK)|intro hq);all_goals refine Lf.mk ?_))
    (apply callB' [3008] cl67 (c); (case h1 | h2 | h3 => (simp only [go_sem, ↓reduceIte]; try rfl)); (case hl | hs | hfp | hfr => (simp [go_sem]; done)))
    (try ((try (revert K;refine bK ?_));refine' run trivial ?_;(repeat' first|exact True.intro|refine Lv.mk ?_ ?_|(refine oK ?_;intro K hK)|intro hq);all_goals refine Lf.mk ?_))
    refine code_block ?_
    refine code_freeze [3008] [(19, ints D), (20, int D.length), (21, int 0), (6, .v (.slice none 0 0)), (2, .ptr 0 0)] [(0, some ⟨23, [int s.1, int s.2]⟩)] rfl ?_ ?_ ?_
    · simp only [go_sem, ↓reduceIte]
      exact ⟨rows_len (F := irow) (fun _ => rfl) _, fzo_part D _⟩
    · simp only [go_sem, ↓reduceIte]
      all_goals trivial
    refine code_w mixed (by rw [hN]; kernel_rfl) ?_
    (try ((try (revert K;refine bK ?_));refine' run trivial ?_;(repeat' first|exact True.intro|refine Lv.mk ?_ ?_|(refine oK ?_;intro K hK)|intro hq);all_goals refine Lf.mk ?_))
    generalize hRr : partsG s.2 s.1 D = R
    refine loop_nil 6 7001 2 23 rfl (Nat.le_of_ble_eq_true rfl) ?_
    refine loopW mixed (σ := {q : Nat × Int × List (Int × Int) // q.1 ≤ D.length ∧ q.2.2.length ≤ q.1 ∧ q.2.2 ++ partsG s.2 q.2.1 (D.drop q.1) = R})
      (fun q => ⟨[(21, int q.1.1), (6, .osl 7001 2 0 q.1.2.2.length), (19, ints D), (20, int D.length), (2, .ptr 0 0)], [(0, some ⟨23, [int q.1.2.1, int s.2]⟩), (7001, some ⟨23, rowC prow q.1.2.2⟩)], 8000⟩) (fun q => D.length - q.1.1) id ⟨(0, s.1, []), by simp, by simp, by simpa using hRr⟩ (by rw [hN]; kernel_rfl) ?_ ?_
    · simp only [go_sem, ↓reduceIte, hF]
      exact ⟨rfl, rfl⟩
    · rintro ⟨⟨i, a, O⟩, h1, h2, h3⟩
      simp only at h1 h2 h3
      have hO := rowP_len O
      by_cases hi : i < D.length
      · have hq : D[i]? = some D[i] := List.getElem?_eq_getElem hi
        have e1 : (D.map irow)[i]? = some (irow D[i]) := by rw [List.getElem?_map, hq]; rfl
        have e5 : IntKind.i64.wrap ((i : Int) + 1) = ((i + 1 : Nat) : Int) := by rw [swrap] <;> omega
        have hk1 : i < (D.map irow).length := by simpa using hi
        rw [List.drop_eq_getElem_cons hi, partsG] at h3
        generalize D[i] = x at *
        by_cases c1 : a < x
        · by_cases c2 : x < s.2
          · rw [if_pos ⟨c1, c2⟩] at h3
            (try ((try (revert K;refine bK ?_));refine' run (I e1 (I e5 (I hk1 (I (@gt_iff_lt Int _) (I (eq_true c1) (I (decide_eq_true c1) (I (eq_true c2) (decide_eq_true c2)))))))) ?_;(repeat' first|exact True.intro|refine Lv.mk ?_ ?_|(refine oK ?_;intro K hK)|intro hq);all_goals refine Lf.mk ?_))
            · refine ⟨⟨(i + 1, x, O ++ [(a, x)]), hi, by simp; omega, by rw [List.append_assoc]; exact h3⟩, nm1 7001 11048, ?_, by show D.length - (i + 1) < D.length - i; omega⟩
              simp only [List.length_append, List.length_singleton, rowP_snoc]
              simp only [go_sem, ↓reduceIte, hF, List.map_append, List.all_append]
            · exact ⟨hO, by simp [maxLen]; omega⟩
          · rw [if_neg (fun h => c2 h.2)] at h3
            (try ((try (revert K;refine bK ?_));refine' run (I e1 (I e5 (I hk1 (I (@gt_iff_lt Int _) (I (eq_true c1) (I (decide_eq_true c1) (I (eq_false c2) (decide_eq_false c2)))))))) ?_;(repeat' first|exact True.intro|refine Lv.mk ?_ ?_|(refine oK ?_;intro K hK)|intro hq);all_goals refine Lf.mk ?_))
            refine ⟨⟨(i + 1, a, O), hi, by simp only; omega, h3⟩, id, ?_, by show D.length - (i + 1) < D.length - i; omega⟩
            simp only [go_sem, ↓reduceIte, hF]
        · rw [if_neg (fun h => c1 h.1)] at h3
          (try ((try (revert K;refine bK ?_));refine' run (I e1 (I e5 (I hk1 (I (@gt_iff_lt Int _) (I (eq_false c1) (decide_eq_false c1)))))) ?_;(repeat' first|exact True.intro|refine Lv.mk ?_ ?_|(refine oK ?_;intro K hK)|intro hq);all_goals refine Lf.mk ?_))
          refine ⟨⟨(i + 1, a, O), hi, by simp only; omega, h3⟩, id, ?_, by show D.length - (i + 1) < D.length - i; omega⟩
          simp only [go_sem, ↓reduceIte, hF]
      · obtain rfl : i = D.length := by omega
        rw [List.drop_length, partsG] at h3
        subst h3
        (try ((try (revert K;refine bK ?_));refine' run trivial ?_;(repeat' first|exact True.intro|refine Lv.mk ?_ ?_|(refine oK ?_;intro K hK)|intro hq);all_goals refine Lf.mk ?_))
        refine code_w mixed (by rw [hN]; kernel_rfl) ?_
        (try ((try (revert K;refine bK ?_));refine' run trivial ?_;(repeat' first|exact True.intro|refine Lv.mk ?_ ?_|(refine oK ?_;intro K hK)|intro hq);all_goals refine Lf.mk ?_))
        · have hz : rowC prow O ++ [int a, int s.2] = ((O ++ [(a, s.2)]).map prow).flatten := by simp [rowC, prow]
          rw [hz]
          exact ⟨rows_len (F := prow) (fun _ => rfl) _, fzo_rows (F := prow) (k := 2) (fun _ => rfl) (fun _ => by simp [prow]) _ (by simp)⟩
        · exact ⟨hO, by simp [maxLen]; omega⟩
end Go.Proofs.YtkonljmmdifnaaaGreat.V
set_option linter.unusedSimpArgs false
set_option linter.unusedVariables false
namespace Go.Proofs.YtkonljmmdifnaaaGreat.V
open Go.RowKit
set_option maxRecDepth 100000
attribute [local go_sem] Option.toList_some Option.toList_none Int.reduceEq Int.reduceNe

def mvE (h : History) (T : List Version) (a b : Int) : Int := if kE h T a = 0 then kE h T b else kE h T a
def mvL (h : History) (T : List Version) (a b : Int) : Sps := if mvE h T a b = 0 then joinL (outP (h.terms.from_, h.terms.to_) (kS h T a) (kS h T b)) else []
theorem mvE_ok {h : History} {T : List Version} {a b : Int} (he : mvE h T a b = 0) : kE h T a = 0 ∧ kE h T b = 0 := by
  unfold mvE at he
  split at he
  · rename_i h0; exact ⟨h0, he⟩
  · rename_i h0; exact absurd he h0
theorem kS_ne {h : History} {T : List Version} {b : Int} (he : kE h T b = 0) : kS h T b ≠ [] := by
  obtain ⟨-, h1, h2⟩ := kE_ok he
  obtain ⟨hr, v, -, hs⟩ := ofE_ok h1
  rw [h2, hs]
  intro e
  exact cutH_ne hr (List.map_eq_nil_iff.1 e)
set_option maxHeartbeats 16000000 in
theorem moved_f (h : History) (T : List Version) (a b : Int) (hs : Small h T) : Fun Tryz.prog 15 [.agg h.flat, .agg [vers T], int a, int b] (.tup [prs (mvL h T a b), int (mvE h T a b)]) := by
  have ka := knSl_f h T a hs
  have kb := knSl_f h T b hs
  have hla := kS_len (h := h) (T := T) (b := a)
  have hlb := kS_len (h := h) (T := T) (b := b)
  have hh := hs.1.1
  by_cases ha : kE h T a = 0
  · by_cases hb : kE h T b = 0
    · have hna := kS_ne ha
      have hE : mvE h T a b = 0 := by rw [mvE, if_pos ha]; exact hb
      rw [mvL, hE, if_pos rfl]
      rw [ha] at ka
      rw [hb] at kb
      generalize kS h T a = X at *
      generalize kS h T b = Y at *
      have hn : X.length + Y.length ≠ 0 := by have := List.length_pos_iff.2 hna; omega
      have kc := concatS_f X Y (by omega) (by omega) hn
      have kp := sParts_f (h.terms.from_, h.terms.to_) ((X ++ Y).map Sl.from_) (by simp; omega)
      have hPl : (partsL (h.terms.from_, h.terms.to_) ((X ++ Y).map Sl.from_)).length ≤ 10000 := by
        unfold partsL
        split
        · have h1 := partsG_len h.terms.to_ (((X ++ Y).map Sl.from_).mergeSort fun x y => decide (x ≤ y)) h.terms.from_
          rw [List.length_mergeSort, List.length_map, List.length_append] at h1
          show (partsG h.terms.to_ h.terms.from_ _).length ≤ 10000
          omega
        · simp
      have km := fun d => mlike_f X Y d (by omega) (by omega)
      rw [outP]
      have hZl : (X ++ Y).length = X.length + Y.length := List.length_append
      have hZn : ¬ X ++ Y = [] := by intro e; rw [e] at hZl; simp at hZl; omega
      rw [← hZl] at kc hn
      refine fun_W mixed Tryz.func15 rfl (Nat.le_of_ble_eq_true rfl) (by kernel_rfl) fun cx hN hR hF hL => ?_; apply args_k; (case hA => (simp only [go_sem, ↓reduceIte]; rfl))
      (repeat' first|((try (revert K;refine bK ?_));refine' run trivial ?_;(repeat' first|exact True.intro|refine Lv.mk ?_ ?_|(refine oK ?_;intro K hK)|intro hq);all_goals refine Lf.mk ?_)|refine callZ cl12 (ka) ?_|refine callZ cl12 (kb) ?_)
      (apply callB' [6016, 6028] cl31 (kc); (case h1 | h2 | h3 => (simp only [go_sem, ↓reduceIte]; try rfl)); (case hl | hs | hfp | hfr => (simp [go_sem]; done)))
      (try ((try (revert K;refine bK ?_));refine' run trivial ?_;(repeat' first|exact True.intro|refine Lv.mk ?_ ?_|(refine oK ?_;intro K hK)|intro hq);all_goals refine Lf.mk ?_))
      generalize X ++ Y = Z at *
      have hz0 : Z.length ≤ 3000 := by omega
      refine loop_nil 13 7001 1 3 rfl (Nat.le_of_ble_eq_true rfl) ?_
      refine loopW mixed (σ := {i : Nat // i ≤ Z.length}) (fun s => ⟨[(45, int s.1), (13, .osl 7001 1 0 s.1), (43, .osl 6028 9 0 Z.length), (44, int Z.length), (4, .ptr 0 0), (10, .ptr 1056 0), (12, .ptr 3056 0)],
        [(6028, some ⟨73, rowC Sl.flat Z⟩), (7001, some ⟨3, rowC irow ((Z.take s.1).map Sl.from_)⟩), (3056, some ⟨37, [slsA Y]⟩), (1056, some ⟨37, [slsA X]⟩), (0, some ⟨31, h.flat⟩)], 8000⟩) (fun s => Z.length - s.1) id ⟨0, Nat.zero_le _⟩ (by rw [hN]; kernel_rfl) ?_ ?_
      · simp only [go_sem, ↓reduceIte, hF, hZl.symm]
        exact ⟨rfl, rfl⟩
      · rintro ⟨i, h1⟩
        simp only at h1 ⊢
        by_cases hi : i < Z.length
        · have e2 : IntKind.i64.wrap ((i : Int) + 1) = ((i + 1 : Nat) : Int) := by rw [wrap_id] <;> omega
          have b0 : ((i : Int) < (Z.length : Int)) = True := eq_true (by omega)
          have e3 := rowS_at Z (List.getElem?_eq_getElem hi)
          have e5 := rowS_len Z
          have htk : rowC irow ((Z.take (i + 1)).map Sl.from_) = rowC irow ((Z.take i).map Sl.from_) ++ [int Z[i].from_] := by
            rw [List.take_succ_eq_append_getElem hi, List.map_append]; simp [rowC, irow]
          have hrl : (rowC irow ((Z.take i).map Sl.from_)).length = i := by rw [rowI_len]; simp; omega
          have e6 : (i * 9 + 9 ≤ Z.length * 9) = True := eq_true (by omega)
          have e7 : (rowC Sl.flat Z = []) = False := eq_false (by rw [← List.length_eq_zero_iff]; omega)
          generalize Z[i] = s at *
          (try ((try (revert K;refine bK ?_));refine' run (I b0 (I (decide_eq_true (of_eq_true b0)) (I e2 (I e3 (I e5 (I e6 e7)))))) ?_;(repeat' first|exact True.intro|refine Lv.mk ?_ ?_|(refine oK ?_;intro K hK)|intro hq);all_goals refine Lf.mk ?_))
          · refine ⟨⟨i + 1, hi⟩, nm1 7001 10040, ?_, by show Z.length - (i + 1) < Z.length - i; omega⟩
            simp only [htk]
            simp only [go_sem, ↓reduceIte, hF, List.map_append, List.all_append]
          · exact ⟨by omega, by simp [maxLen]; omega⟩
        · obtain rfl : i = Z.length := by omega
          have b9 : ((Z.length : Int) < (Z.length : Int)) = False := eq_false (by omega)
          rw [List.take_length]
          generalize hD : Z.map Sl.from_ = D at *
          have hDl : Z.length = D.length := by rw [← hD, List.length_map]
          rw [hDl] at b9 ⊢
          have hD0 : ¬ D.length = 0 := by omega
          have hDn : (rowC irow D = []) = False := eq_false (by rw [← List.length_eq_zero_iff, rowI_len]; exact hD0)
          have hfz : fzo (some ⟨3, rowC irow D⟩) (fz [(7001, some ⟨3, rowC irow D⟩)] 5) 1 0 D.length (D.map irow) := by
            have := fzo_part (t := 3) (R := fz [(7001, some ⟨3, rowC irow D⟩)] 5) D []
            simpa using this
          have hrl := rows_len (F := irow) (k := 1) (fun _ => rfl) D
          (try ((try (revert K;refine bK ?_));refine' run (I b9 (decide_eq_false (of_eq_false b9))) ?_;(repeat' first|exact True.intro|refine Lv.mk ?_ ?_|(refine oK ?_;intro K hK)|intro hq);all_goals refine Lf.mk ?_))
          (apply callF' [7001] cl35 (kp); (case hp | hl | hk => (simp only [go_sem, ↓reduceIte]; try rfl)); (try (case hfz => (first | (simp only [go_sem]; done) | (simp [go_sem, fzo]; done)))))
          · simp only [go_sem, ↓reduceIte]
            exact ⟨hrl, hfz⟩
          (try ((try (revert K;refine bK ?_));refine' run trivial ?_;(repeat' first|exact True.intro|refine Lv.mk ?_ ?_|(refine oK ?_;intro K hK)|intro hq);all_goals refine Lf.mk ?_))
          generalize partsL (h.terms.from_, h.terms.to_) D = P at *
          have kj := sJoin_f (P.filter fun p => !likeS X Y p.1) (Nat.le_trans (List.length_filter_le _ _) (by omega))
          refine loop_nil 17 12001 2 23 rfl (Nat.le_of_ble_eq_true rfl) ?_
          refine loopW mixed (σ := {i : Nat // i ≤ P.length}) (fun s => ⟨[(63, int s.1), (17, .osl 12001 2 0 ((P.take s.1).filter fun p => !likeS X Y p.1).length), (16, .fn (.func 32) [] [.ptr 1056 0, .ptr 3056 0]), (61, prs P), (62, int P.length)],
            [(12001, some ⟨23, rowC prow ((P.take s.1).filter fun p => !likeS X Y p.1)⟩), (3056, some ⟨37, [slsA Y]⟩), (1056, some ⟨37, [slsA X]⟩)], 13000⟩) (fun s => P.length - s.1) id ⟨0, Nat.zero_le _⟩ (by rw [hN]; kernel_rfl) ?_ ?_
          · simp only [go_sem, ↓reduceIte, hF]
            exact ⟨rfl, rfl⟩
          · rintro ⟨i, g1⟩
            simp only at g1 ⊢
            by_cases gi : i < P.length
            · have e2 : IntKind.i64.wrap ((i : Int) + 1) = ((i + 1 : Nat) : Int) := by rw [wrap_id] <;> omega
              have b0 : ((i : Int) < (P.length : Int)) = True := eq_true (by omega)
              have e1 : (P.map prow)[i]? = some (prow P[i]) := by rw [List.getElem?_map, List.getElem?_eq_getElem gi]; rfl
              have hyes := filt_yes (p := fun p => !likeS X Y p.1) gi
              have hno := filt_no (p := fun p => !likeS X Y p.1) gi
              have hOl : ((P.take i).filter fun p => !likeS X Y p.1).length ≤ i := Nat.le_trans (List.length_filter_le _ _) (by rw [List.length_take]; omega)
              have kmi := km P[i].1
              generalize P[i] = p at *
              generalize ((P.take i).filter fun p => !likeS X Y p.1) = O at *
              have hO := rowP_len O
              cases hb : likeS X Y p.1
              · have hy := hyes (by simp [hb])
                rw [hb] at kmi
                (try ((try (revert K;refine bK ?_));refine' run (I b0 (I (decide_eq_true (of_eq_true b0)) (I e1 e2))) ?_;(repeat' first|exact True.intro|refine Lv.mk ?_ ?_|(refine oK ?_;intro K hK)|intro hq);all_goals refine Lf.mk ?_))
                (apply callB' [1056, 3056] cl32 (kmi); (case h1 | h2 | h3 => (simp only [go_sem, ↓reduceIte]; try rfl)); (case hl | hs | hfp | hfr => (simp [go_sem]; done)))
                (try ((try (revert K;refine bK ?_));refine' run (I b0 (I (decide_eq_true (of_eq_true b0)) (I e1 e2))) ?_;(repeat' first|exact True.intro|refine Lv.mk ?_ ?_|(refine oK ?_;intro K hK)|intro hq);all_goals refine Lf.mk ?_))
                · refine ⟨⟨i + 1, gi⟩, nm1 12001 16024, ?_, by show P.length - (i + 1) < P.length - i; omega⟩
                  simp only [hy, List.length_append, List.length_singleton, rowP_snoc]
                  simp only [go_sem, ↓reduceIte, hF, List.map_append, List.all_append]
                · exact ⟨hO, by simp [maxLen]; omega⟩
              · have hy := hno (by simp [hb])
                rw [hb] at kmi
                (try ((try (revert K;refine bK ?_));refine' run (I b0 (I (decide_eq_true (of_eq_true b0)) (I e1 e2))) ?_;(repeat' first|exact True.intro|refine Lv.mk ?_ ?_|(refine oK ?_;intro K hK)|intro hq);all_goals refine Lf.mk ?_))
                (apply callB' [1056, 3056] cl32 (kmi); (case h1 | h2 | h3 => (simp only [go_sem, ↓reduceIte]; try rfl)); (case hl | hs | hfp | hfr => (simp [go_sem]; done)))
                (try ((try (revert K;refine bK ?_));refine' run (I b0 (I (decide_eq_true (of_eq_true b0)) (I e1 e2))) ?_;(repeat' first|exact True.intro|refine Lv.mk ?_ ?_|(refine oK ?_;intro K hK)|intro hq);all_goals refine Lf.mk ?_))
                refine ⟨⟨i + 1, gi⟩, id, ?_, by show P.length - (i + 1) < P.length - i; omega⟩
                simp only [hy]
                simp only [go_sem, ↓reduceIte, hF]
            · obtain rfl : i = P.length := by omega
              have b8 : ((P.length : Int) < (P.length : Int)) = False := eq_false (by omega)
              rw [List.take_length]
              generalize (P.filter fun p => !likeS X Y p.1) = O at *
              (try ((try (revert K;refine bK ?_));refine' run (I b8 (decide_eq_false (of_eq_false b8))) ?_;(repeat' first|exact True.intro|refine Lv.mk ?_ ?_|(refine oK ?_;intro K hK)|intro hq);all_goals refine Lf.mk ?_))
              (apply callF' [12001] cl20 (kj); (case hp | hl | hk => (simp only [go_sem, ↓reduceIte]; try rfl)); (try (case hfz => (first | (simp only [go_sem]; done) | (simp [go_sem, fzo]; done)))))
              · simp only [go_sem, ↓reduceIte]
                exact ⟨rows_len (F := prow) (fun _ => rfl) _, fzo_rows (F := prow) (k := 2) (fun _ => rfl) (fun _ => by simp [prow]) _ rfl⟩
              (try ((try (revert K;refine bK ?_));refine' run trivial ?_;(repeat' first|exact True.intro|refine Lv.mk ?_ ?_|(refine oK ?_;intro K hK)|intro hq);all_goals refine Lf.mk ?_))
    · have hE : mvE h T a b = kE h T b := by rw [mvE, if_pos ha]
      have hE2 : ¬ mvE h T a b = 0 := by rw [hE]; exact hb
      rw [mvL, if_neg hE2, hE]
      rw [ha] at ka
      refine fun_W mixed Tryz.func15 rfl (Nat.le_of_ble_eq_true rfl) (by kernel_rfl) fun cx hN hR hF hL => ?_; apply args_k; (case hA => (simp only [go_sem, ↓reduceIte]; rfl))
      (repeat' first|((try (revert K;refine bK ?_));refine' run (I (eq_false hb) (decide_eq_false hb)) ?_;(repeat' first|exact True.intro|refine Lv.mk ?_ ?_|(refine oK ?_;intro K hK)|intro hq);all_goals refine Lf.mk ?_)|refine callZ cl12 (ka) ?_|refine callZ cl12 (kb) ?_)
  · have hE : mvE h T a b = kE h T a := by rw [mvE, if_neg ha]
    have hE2 : ¬ mvE h T a b = 0 := by rw [hE]; exact ha
    rw [mvL, if_neg hE2, hE]
    refine fun_W mixed Tryz.func15 rfl (Nat.le_of_ble_eq_true rfl) (by kernel_rfl) fun cx hN hR hF hL => ?_; apply args_k; (case hA => (simp only [go_sem, ↓reduceIte]; rfl))
    (repeat' first|((try (revert K;refine bK ?_));refine' run (I (eq_false ha) (decide_eq_false ha)) ?_;(repeat' first|exact True.intro|refine Lv.mk ?_ ?_|(refine oK ?_;intro K hK)|intro hq);all_goals refine Lf.mk ?_)|refine callZ cl12 (ka) ?_)
end Go.Proofs.YtkonljmmdifnaaaGreat.V
set_option linter.unusedSimpArgs false
set_option linter.unusedVariables false
namespace Go.Proofs.YtkonljmmdifnaaaGreat.V
open Go.RowKit
set_option maxRecDepth 100000
attribute [local go_sem] Option.toList_some Option.toList_none Int.reduceEq Int.reduceNe

theorem mvL_ref {h : History} {T : List Version} {a b : Int} (he : mvE h T a b = 0) : mvL h T a b = joinL (outR (kS h T a) (kS h T b)) := by
  obtain ⟨ha, hb⟩ := mvE_ok he
  obtain ⟨-, ha1, ha2⟩ := kE_ok ha
  obtain ⟨-, hb1, hb2⟩ := kE_ok hb
  rw [mvL, if_pos he, ha2, hb2]
  exact out_one (g := knownH h a) (k := knownH h b) rfl ha1 hb1
def rowR (X Y : List Sl) (x : Sl) : Sps := Y.flatMap fun y => pairR X Y x y
theorem outR_rows (X Y : List Sl) : outR X Y = X.flatMap (rowR X Y) := rfl
theorem flat_next {α β : Type} (f : α → List β) {l : List α} {i : Nat} (hi : i < l.length) : (l.take (i + 1)).flatMap f = (l.take i).flatMap f ++ f l[i] := by
  rw [List.take_succ_eq_append_getElem hi, List.flatMap_append]; simp
theorem flat_bd {α β : Type} (f : α → List β) {m : Nat} (hf : ∀ x, (f x).length ≤ m) : ∀ l : List α, (l.flatMap f).length ≤ l.length * m
  | [] => by simp
  | x :: l => by
    have := flat_bd f hf l
    have := hf x
    rw [List.flatMap_cons, List.length_append, List.length_cons, Nat.add_mul]; omega
theorem pairR_len (X Y : List Sl) (x y : Sl) : (pairR X Y x y).length ≤ 1 := by rw [pairR]; split <;> simp
theorem rowR_len (X Y : List Sl) (x : Sl) : (rowR X Y x).length ≤ Y.length := by have := flat_bd (fun y => pairR X Y x y) (pairR_len X Y x) Y; unfold rowR; omega

set_option maxHeartbeats 16000000 in
theorem rMoved_f (h : History) (T : List Version) (a b : Int) (ho : h.ok) (hs : Small h T) (hsz : h.changes.length ≤ 200) : Fun Tryz.prog 16 [.agg h.flat, .agg [vers T], int a, int b] (.tup [prs (mvL h T a b), int (mvE h T a b)]) := by
  have ka := rKnSl_f h T a ho hs
  have kb := rKnSl_f h T b ho hs
  have hla := kS_len (h := h) (T := T) (b := a)
  have hlb := kS_len (h := h) (T := T) (b := b)
  by_cases ha : kE h T a = 0
  · by_cases hb : kE h T b = 0
    · have hE : mvE h T a b = 0 := by rw [mvE, if_pos ha]; exact hb
      rw [mvL_ref hE, hE]
      rw [ha] at ka
      rw [hb] at kb
      generalize kS h T a = X at *
      generalize kS h T b = Y at *
      have kA := fun d => rAlike_f X Y d (by omega) (by omega)
      have hbd : ∀ i, ((X.take i).flatMap (rowR X Y)).length ≤ 201 * 201 := fun i => by
        have h1 := flat_bd (rowR X Y) (m := 201) (fun x => Nat.le_trans (rowR_len X Y x) (by omega)) (X.take i)
        have h2 : (X.take i).length ≤ 201 := by rw [List.length_take]; omega
        exact Nat.le_trans h1 (Nat.mul_le_mul_right _ h2)
      have kj := rJoin_f (outR X Y) (by have := hbd X.length; rw [List.take_length] at this; rw [outR_rows]; omega)
      rw [outR_rows] at kj ⊢
      refine fun_W mixed Tryz.func16 rfl (Nat.le_of_ble_eq_true rfl) (by kernel_rfl) fun cx hN hR hF hL => ?_; apply args_k; (case hA => (simp only [go_sem, ↓reduceIte]; rfl))
      (repeat' first|((try (revert K;refine bK ?_));refine' run trivial ?_;(repeat' first|exact True.intro|refine Lv.mk ?_ ?_|(refine oK ?_;intro K hK)|intro hq);all_goals refine Lf.mk ?_)|refine callZ cl13 (ka) ?_|refine callZ cl13 (kb) ?_)
      refine loop_nil 14 7001 2 23 rfl (Nat.le_of_ble_eq_true rfl) ?_
      refine loopW mixed (σ := {i : Nat // i ≤ X.length}) (fun s => ⟨[(15, int s.1), (14, .osl 7001 2 0 ((X.take s.1).flatMap (rowR X Y)).length), (10, slsA X), (12, slsA Y)], [(7001, some ⟨23, rowC prow ((X.take s.1).flatMap (rowR X Y))⟩)], 8000⟩) (fun s => X.length - s.1) id ⟨0, Nat.zero_le _⟩ (by rw [hN]; kernel_rfl) ?_ ?_
      · simp only [List.take_zero, List.flatMap_nil]
        simp only [go_sem, ↓reduceIte, hF]
        exact ⟨rfl, rfl⟩
      · rintro ⟨i, h1⟩
        simp only at h1 ⊢
        by_cases hi : i < X.length
        · have e2 : IntKind.i64.wrap ((i : Int) + 1) = ((i + 1 : Nat) : Int) := by rw [wrap_id] <;> omega
          have b0 : ((i : Int) < (X.length : Int)) = True := eq_true (by omega)
          have e1 : (X.map Sl.flat)[i]? = some X[i].flat := by rw [List.getElem?_map, List.getElem?_eq_getElem hi]; rfl
          have hnx := flat_next (rowR X Y) hi
          have hb1 := hbd i
          generalize X[i] = x at *
          generalize (X.take i).flatMap (rowR X Y) = O at *
          (try ((try (revert K;refine bK ?_));refine' run (I b0 (I (decide_eq_true (of_eq_true b0)) (I e1 e2))) ?_;(repeat' first|exact True.intro|refine Lv.mk ?_ ?_|(refine oK ?_;intro K hK)|intro hq);all_goals refine Lf.mk ?_))
          refine loopW mixed (σ := {k : Nat // k ≤ Y.length}) (fun s => ⟨[(16, int s.1), (15, int i), (14, .osl 7001 2 0 (O ++ (Y.take s.1).flatMap fun y => pairR X Y x y).length), (10, slsA X), (12, slsA Y)], [(7001, some ⟨23, rowC prow (O ++ (Y.take s.1).flatMap fun y => pairR X Y x y)⟩)], 10000⟩) (fun s => Y.length - s.1) id ⟨0, Nat.zero_le _⟩ (by rw [hN]; kernel_rfl) ?_ ?_
          · have hO0 : (O ++ (Y.take 0).flatMap fun y => pairR X Y x y) = O := by simp
            simp only [hO0]
            simp only [go_sem, ↓reduceIte, hF]
            all_goals rfl
          · rintro ⟨k, g1⟩
            simp only at g1 ⊢
            by_cases gk : k < Y.length
            · have e3 : IntKind.i64.wrap ((k : Int) + 1) = ((k + 1 : Nat) : Int) := by rw [wrap_id] <;> omega
              have b1 : ((k : Int) < (Y.length : Int)) = True := eq_true (by omega)
              have e4 : (Y.map Sl.flat)[k]? = some Y[k].flat := by rw [List.getElem?_map, List.getElem?_eq_getElem gk]; rfl
              have hny := flat_next (fun y => pairR X Y x y) gk
              have hb2 : ((Y.take k).flatMap fun y => pairR X Y x y).length ≤ 201 := by
                have h1 := flat_bd (fun y => pairR X Y x y) (pairR_len X Y x) (Y.take k)
                rw [List.length_take] at h1; omega
              generalize Y[k] = y at *
              have hnext : (O ++ (Y.take (k + 1)).flatMap fun y => pairR X Y x y) = (O ++ (Y.take k).flatMap fun y => pairR X Y x y) ++ pairR X Y x y := by rw [hny, List.append_assoc]
              clear hny
              have hO2l : (O ++ (Y.take k).flatMap fun y => pairR X Y x y).length ≤ 201 * 201 + 201 := by rw [List.length_append]; omega
              generalize hO2 : (O ++ (Y.take k).flatMap fun y => pairR X Y x y) = O2 at *
              have hrl := rowP_len O2
              have kc := rCut_f x.from_ x.to_ y.from_ y.to_
              have kc : Fun Tryz.prog 36 [.agg [int x.from_, int x.to_], .agg [int y.from_, int y.to_]] (.agg [int (cutS x y).1, int (cutS x y).2]) := kc
              have km := rMany_f (cutS x y).1 (cutS x y).2
              have kAc := kA (cutS x y).1
              have hp : pairR X Y x y = if 0 < many (cutS x y).1 (cutS x y).2 ∧ alikeS X Y (cutS x y).1 = false then [cutS x y] else [] := rfl
              generalize pairR X Y x y = R at *
              generalize cutS x y = c at *
              by_cases hm : 0 < many c.1 c.2
              · have g0 : (many c.1 c.2 > 0) = True := eq_true hm
                cases hal : alikeS X Y c.1
                · rw [if_pos ⟨hm, hal⟩] at hp
                  rw [hal] at kAc
                  subst hp
                  (repeat' first|((try (revert K;refine bK ?_));refine' run (I b1 (I (decide_eq_true (of_eq_true b1)) (I e1 (I e3 (I e4 (I g0 (decide_eq_true (of_eq_true g0)))))))) ?_;(repeat' first|exact True.intro|refine Lv.mk ?_ ?_|(refine oK ?_;intro K hK)|intro hq);all_goals refine Lf.mk ?_)|refine callZ cl36 (kc) ?_|refine callZ cl37 (km) ?_|refine callZ cl19 (kAc) ?_)
                  · refine ⟨⟨k + 1, gk⟩, nm1 7001 13024, ?_, by show Y.length - (k + 1) < Y.length - k; omega⟩
                    simp only [hnext, List.length_append, List.length_singleton, rowP_snoc]
                    simp only [go_sem, ↓reduceIte, hF, List.map_append, List.all_append]
                  · exact ⟨hrl, by simp [maxLen]; omega⟩
                · rw [if_neg (by simp [hal])] at hp
                  rw [hal] at kAc
                  subst hp
                  (repeat' first|((try (revert K;refine bK ?_));refine' run (I b1 (I (decide_eq_true (of_eq_true b1)) (I e1 (I e3 (I e4 (I g0 (decide_eq_true (of_eq_true g0)))))))) ?_;(repeat' first|exact True.intro|refine Lv.mk ?_ ?_|(refine oK ?_;intro K hK)|intro hq);all_goals refine Lf.mk ?_)|refine callZ cl36 (kc) ?_|refine callZ cl37 (km) ?_|refine callZ cl19 (kAc) ?_)
                  refine ⟨⟨k + 1, gk⟩, id, ?_, by show Y.length - (k + 1) < Y.length - k; omega⟩
                  simp only [hnext, List.append_nil]
                  simp only [go_sem, ↓reduceIte, hF]
              · have g0 : (many c.1 c.2 > 0) = False := eq_false hm
                rw [if_neg (fun e => hm e.1)] at hp
                subst hp
                (repeat' first|((try (revert K;refine bK ?_));refine' run (I b1 (I (decide_eq_true (of_eq_true b1)) (I e1 (I e3 (I e4 (I g0 (decide_eq_false hm))))))) ?_;(repeat' first|exact True.intro|refine Lv.mk ?_ ?_|(refine oK ?_;intro K hK)|intro hq);all_goals refine Lf.mk ?_)|refine callZ cl36 (kc) ?_|refine callZ cl37 (km) ?_)
                refine ⟨⟨k + 1, gk⟩, id, ?_, by show Y.length - (k + 1) < Y.length - k; omega⟩
                simp only [hnext, List.append_nil]
                simp only [go_sem, ↓reduceIte, hF]
            · obtain rfl : k = Y.length := by omega
              have b9 : ((Y.length : Int) < (Y.length : Int)) = False := eq_false (by omega)
              rw [List.take_length]
              (try ((try (revert K;refine bK ?_));refine' run (I b9 (I (decide_eq_false (of_eq_false b9)) e2)) ?_;(repeat' first|exact True.intro|refine Lv.mk ?_ ?_|(refine oK ?_;intro K hK)|intro hq);all_goals refine Lf.mk ?_))
              refine ⟨⟨i + 1, hi⟩, id, ?_, by show X.length - (i + 1) < X.length - i; omega⟩
              simp only [hnx]
              simp only [go_sem, ↓reduceIte, hF]
              exact ⟨rfl, rfl⟩
        · obtain rfl : i = X.length := by omega
          have b9 : ((X.length : Int) < (X.length : Int)) = False := eq_false (by omega)
          rw [List.take_length]
          generalize X.flatMap (rowR X Y) = O at *
          (try ((try (revert K;refine bK ?_));refine' run (I b9 (decide_eq_false (of_eq_false b9))) ?_;(repeat' first|exact True.intro|refine Lv.mk ?_ ?_|(refine oK ?_;intro K hK)|intro hq);all_goals refine Lf.mk ?_))
          (apply callF' [7001] cl38 (kj); (case hp | hl | hk => (simp only [go_sem, ↓reduceIte]; try rfl)); (try (case hfz => (first | (simp only [go_sem]; done) | (simp [go_sem, fzo]; done)))))
          · simp only [go_sem, ↓reduceIte]
            exact ⟨rows_len (F := prow) (fun _ => rfl) _, fzo_rows (F := prow) (k := 2) (fun _ => rfl) (fun _ => by simp [prow]) _ rfl⟩
          (try ((try (revert K;refine bK ?_));refine' run trivial ?_;(repeat' first|exact True.intro|refine Lv.mk ?_ ?_|(refine oK ?_;intro K hK)|intro hq);all_goals refine Lf.mk ?_))
    · have hE : mvE h T a b = kE h T b := by rw [mvE, if_pos ha]
      have hE2 : ¬ mvE h T a b = 0 := by rw [hE]; exact hb
      rw [mvL, if_neg hE2, hE]
      rw [ha] at ka
      refine fun_W mixed Tryz.func16 rfl (Nat.le_of_ble_eq_true rfl) (by kernel_rfl) fun cx hN hR hF hL => ?_; apply args_k; (case hA => (simp only [go_sem, ↓reduceIte]; rfl))
      (repeat' first|((try (revert K;refine bK ?_));refine' run (I (eq_false hb) (decide_eq_false hb)) ?_;(repeat' first|exact True.intro|refine Lv.mk ?_ ?_|(refine oK ?_;intro K hK)|intro hq);all_goals refine Lf.mk ?_)|refine callZ cl13 (ka) ?_|refine callZ cl13 (kb) ?_)
  · have hE : mvE h T a b = kE h T a := by rw [mvE, if_neg ha]
    have hE2 : ¬ mvE h T a b = 0 := by rw [hE]; exact ha
    rw [mvL, if_neg hE2, hE]
    refine fun_W mixed Tryz.func16 rfl (Nat.le_of_ble_eq_true rfl) (by kernel_rfl) fun cx hN hR hF hL => ?_; apply args_k; (case hA => (simp only [go_sem, ↓reduceIte]; rfl))
    (repeat' first|((try (revert K;refine bK ?_));refine' run (I (eq_false ha) (decide_eq_false ha)) ?_;(repeat' first|exact True.intro|refine Lv.mk ?_ ?_|(refine oK ?_;intro K hK)|intro hq);all_goals refine Lf.mk ?_)|refine callZ cl13 (ka) ?_)
end Go.Proofs.YtkonljmmdifnaaaGreat.V
set_option linter.unusedSimpArgs false
set_option linter.unusedVariables false
namespace Go.Proofs.YtkonljmmdifnaaaGreat.V
open Go.RowKit
set_option maxRecDepth 100000
attribute [local go_sem] Option.toList_some Option.toList_none

theorem al_less : lessL 1 10 3 5 = [(1, 3), (5, 10)] := by decide
theorem al_join : joinL [(5, 7), (1, 3), (3, 4)] = [(1, 4), (5, 7)] := by decide
theorem al_parts : partsL (1, 10) [7, 3, 7, 1] = [(1, 3), (3, 7), (7, 10)] := by
  have h : partsL (1, 10) [7, 3, 7, 1] = partsG 10 1 (([7, 3, 7, 1] : List Int).mergeSort fun x y => decide (x ≤ y)) := rfl
  have hs : (([7, 3, 7, 1] : List Int).mergeSort fun x y => decide (x ≤ y)).Pairwise (· ≤ ·) := by
    have := List.pairwise_mergeSort (le := fun x y : Int => decide (x ≤ y)) (fun a b c h1 h2 => by simp at h1 h2 ⊢; omega) (fun a b => by simp; omega) [7, 3, 7, 1]
    exact this.imp (by simp)
  rw [h, partsG_mem (l := []) (es := [1, 3, 7]) (by omega) hs (by decide) (fun x => by rw [List.mem_mergeSort]; simp; omega)]
  decide

end Go.Proofs.YtkonljmmdifnaaaGreat.V
set_option linter.unusedSimpArgs false
set_option linter.unusedVariables false
namespace Go.Proofs.YtkonljmmdifnaaaGreat.V
open Go.RowKit
set_option maxRecDepth 100000
attribute [local go_sem] Option.toList_some Option.toList_none Int.reduceEq Int.reduceNe

def covK (c : Change) : Bool := decide ((c.covers.length : Int) ≤ 50)
def verK (v : Version) : Bool := decide ((v.age.length : Int) ≤ 200) && decide ((v.zone.length : Int) ≤ 200) && decide ((v.peril.length : Int) ≤ 200)
def fewK (h : History) (T : List Version) : Bool := (decide ((h.changes.length : Int) ≤ 60) && decide ((T.length : Int) ≤ 100) && decide ((h.terms.covers.length : Int) ≤ 50)) && (h.changes.all covK && T.all verK)
theorem fewK_is {h : History} {T : List Version} (hf : fewK h T = true) : Small h T ∧ h.changes.length ≤ 60 := by
  simp only [fewK, Bool.and_eq_true, decide_eq_true_eq, List.all_eq_true, covK, verK] at hf
  obtain ⟨⟨⟨h1, h2⟩, h3⟩, h4, h5⟩ := hf
  refine ⟨⟨⟨by omega, by omega, fun c hc => ?_⟩, by omega, fun v hv => ?_⟩, by omega⟩
  · have := h4 c hc; omega
  · have := h5 v hv; omega
set_option maxHeartbeats 8000000 in
theorem few12_f (h : History) (T : List Version) : Fun Tryz.prog 10 [.agg h.flat, .agg [vers T]] (bool (fewK h T)) := by
  by_cases a1 : (h.changes.length : Int) ≤ 60
  · have g1 : ((h.changes.length : Int) > 60) = False := eq_false (by omega)
    by_cases a2 : (T.length : Int) ≤ 100
    · have g2 : ((T.length : Int) > 100) = False := eq_false (by omega)
      by_cases a3 : (h.terms.covers.length : Int) ≤ 50
      · have g3 : ((h.terms.covers.length : Int) > 50) = False := eq_false (by omega)
        have hF : fewK h T = (h.changes.all covK && T.all verK) := by rw [fewK, decide_eq_true a1, decide_eq_true a2, decide_eq_true a3]; simp
        rw [hF]
        refine fun_W mixed Tryz.func10 rfl (Nat.le_of_ble_eq_true rfl) (by kernel_rfl) fun cx hN hR hF hL => ?_; apply args_k; (case hA => (simp only [go_sem, ↓reduceIte]; rfl))
        (try ((try (revert K;refine bK ?_));refine' run (I g1 (I g2 (I g3 (I (decide_eq_false (of_eq_false g1)) (I (decide_eq_false (of_eq_false g2)) (decide_eq_false (of_eq_false g3))))))) ?_;(repeat' first|exact True.intro|refine Lv.mk ?_ ?_|(refine oK ?_;intro K hK)|intro hq);all_goals refine Lf.mk ?_))
        refine loopW mixed (σ := {i : Nat // i ≤ h.changes.length ∧ h.changes.all covK = (h.changes.drop i).all covK}) (fun s => ⟨[(5, int s.1), (2, .ptr 0 0), (3, .ptr 8 0), (4, bool false)], [(0, some ⟨31, h.flat⟩), (8, some ⟨34, [vers T]⟩)], 3000⟩) (fun s => h.changes.length - s.1) id ⟨0, by omega, rfl⟩ (by rw [hN]; kernel_rfl) ?_ ?_
        · simp only [go_sem, ↓reduceIte, hF]
          all_goals rfl
        · rintro ⟨i, h1, h2⟩
          simp only at h1 h2 ⊢
          by_cases hi : i < h.changes.length
          · have e1 : (h.changes.map Change.flat)[i]? = some (h.changes[i].flat) := by rw [List.getElem?_map, List.getElem?_eq_getElem hi]; rfl
            have e2 : IntKind.i64.wrap ((i : Int) + 1) = ((i + 1 : Nat) : Int) := by rw [wrap_id] <;> omega
            have b0 : ((i : Int) < (h.changes.length : Int)) = True := eq_true (by omega)
            cases hb : covK h.changes[i]
            · rw [all_drop_no hi hb]
              have g4 : ((h.changes[i].covers.length : Int) > 50) = True := eq_true (by simp [covK] at hb; omega)
              generalize h.changes[i] = c at *
              (try ((try (revert K;refine bK ?_));refine' run (I b0 (I (decide_eq_true (of_eq_true b0)) (I e1 (I e2 (I g4 (decide_eq_true (of_eq_true g4))))))) ?_;(repeat' first|exact True.intro|refine Lv.mk ?_ ?_|(refine oK ?_;intro K hK)|intro hq);all_goals refine Lf.mk ?_))
            · rw [all_drop_yes hi hb] at h2
              have g4 : ((h.changes[i].covers.length : Int) > 50) = False := eq_false (by simp [covK] at hb; omega)
              generalize h.changes[i] = c at *
              (try ((try (revert K;refine bK ?_));refine' run (I b0 (I (decide_eq_true (of_eq_true b0)) (I e1 (I e2 (I g4 (decide_eq_false (of_eq_false g4))))))) ?_;(repeat' first|exact True.intro|refine Lv.mk ?_ ?_|(refine oK ?_;intro K hK)|intro hq);all_goals refine Lf.mk ?_))
              refine ⟨⟨i + 1, hi, h2⟩, id, ?_, by show h.changes.length - (i + 1) < h.changes.length - i; omega⟩
              simp only [go_sem, ↓reduceIte, hF]
          · obtain rfl : i = h.changes.length := by omega
            have b9 : ((h.changes.length : Int) < (h.changes.length : Int)) = False := eq_false (by omega)
            rw [List.drop_length] at h2
            rw [h2]
            (try ((try (revert K;refine bK ?_));refine' run (I b9 (decide_eq_false (of_eq_false b9))) ?_;(repeat' first|exact True.intro|refine Lv.mk ?_ ?_|(refine oK ?_;intro K hK)|intro hq);all_goals refine Lf.mk ?_))
            refine loopW mixed (σ := {i : Nat // i ≤ T.length ∧ T.all verK = (T.drop i).all verK}) (fun s => ⟨[(6, int s.1), (3, .ptr 8 0), (4, bool false)], [(8, some ⟨34, [vers T]⟩)], 5000⟩) (fun s => T.length - s.1) id ⟨0, by omega, rfl⟩ (by rw [hN]; kernel_rfl) ?_ ?_
            · simp only [go_sem, ↓reduceIte, hF]
              all_goals rfl
            · rintro ⟨i, g1, g2⟩
              simp only at g1 g2 ⊢
              by_cases hi : i < T.length
              · have e1 : (T.map Version.flat)[i]? = some (T[i].flat) := by rw [List.getElem?_map, List.getElem?_eq_getElem hi]; rfl
                have e2 : IntKind.i64.wrap ((i : Int) + 1) = ((i + 1 : Nat) : Int) := by rw [wrap_id] <;> omega
                have b0 : ((i : Int) < (T.length : Int)) = True := eq_true (by omega)
                cases hb : verK T[i]
                · rw [all_drop_no hi hb, Bool.and_false]
                  have hv : ¬ ((T[i].age.length : Int) ≤ 200 ∧ (T[i].zone.length : Int) ≤ 200 ∧ (T[i].peril.length : Int) ≤ 200) := fun e => by
                    rw [verK, decide_eq_true e.1, decide_eq_true e.2.1, decide_eq_true e.2.2] at hb
                    exact absurd hb (by simp)
                  generalize T[i] = v at *
                  by_cases p1 : (v.age.length : Int) > 200
                  · (try ((try (revert K;refine bK ?_));refine' run (I b0 (I (decide_eq_true (of_eq_true b0)) (I e1 (I e2 (I (eq_true p1) (decide_eq_true p1)))))) ?_;(repeat' first|exact True.intro|refine Lv.mk ?_ ?_|(refine oK ?_;intro K hK)|intro hq);all_goals refine Lf.mk ?_))
                  · by_cases p2 : (v.zone.length : Int) > 200
                    · (try ((try (revert K;refine bK ?_));refine' run (I b0 (I (decide_eq_true (of_eq_true b0)) (I e1 (I e2 (I (eq_false p1) (I (decide_eq_false p1) (I (eq_true p2) (decide_eq_true p2)))))))) ?_;(repeat' first|exact True.intro|refine Lv.mk ?_ ?_|(refine oK ?_;intro K hK)|intro hq);all_goals refine Lf.mk ?_))
                    · have p3 : (v.peril.length : Int) > 200 := by omega
                      (try ((try (revert K;refine bK ?_));refine' run (I b0 (I (decide_eq_true (of_eq_true b0)) (I e1 (I e2 (I (eq_false p1) (I (decide_eq_false p1) (I (eq_false p2) (I (decide_eq_false p2) (I (eq_true p3) (decide_eq_true p3)))))))))) ?_;(repeat' first|exact True.intro|refine Lv.mk ?_ ?_|(refine oK ?_;intro K hK)|intro hq);all_goals refine Lf.mk ?_))
                · rw [all_drop_yes hi hb] at g2
                  have hv : (v : Version) → v = T[i] → ((v.age.length : Int) > 200) = False ∧ ((v.zone.length : Int) > 200) = False ∧ ((v.peril.length : Int) > 200) = False := fun v hv => by
                    subst hv; simp [verK] at hb; simp; omega
                  obtain ⟨q1, q2, q3⟩ := hv _ rfl
                  generalize T[i] = v at *
                  (try ((try (revert K;refine bK ?_));refine' run (I b0 (I (decide_eq_true (of_eq_true b0)) (I e1 (I e2 (I q1 (I q2 (I q3 (I (decide_eq_false (of_eq_false q1)) (I (decide_eq_false (of_eq_false q2)) (decide_eq_false (of_eq_false q3))))))))))) ?_;(repeat' first|exact True.intro|refine Lv.mk ?_ ?_|(refine oK ?_;intro K hK)|intro hq);all_goals refine Lf.mk ?_))
                  refine ⟨⟨i + 1, hi, g2⟩, id, ?_, by show T.length - (i + 1) < T.length - i; omega⟩
                  simp only [go_sem, ↓reduceIte, hF]
              · obtain rfl : i = T.length := by omega
                have b9 : ((T.length : Int) < (T.length : Int)) = False := eq_false (by omega)
                rw [List.drop_length] at g2
                rw [g2]
                (try ((try (revert K;refine bK ?_));refine' run (I b9 (decide_eq_false (of_eq_false b9))) ?_;(repeat' first|exact True.intro|refine Lv.mk ?_ ?_|(refine oK ?_;intro K hK)|intro hq);all_goals refine Lf.mk ?_))
      · have g3 : ((h.terms.covers.length : Int) > 50) = True := eq_true (by omega)
        have hF : fewK h T = false := by rw [fewK, decide_eq_false a3]; simp
        rw [hF]
        refine fun_W mixed Tryz.func10 rfl (Nat.le_of_ble_eq_true rfl) (by kernel_rfl) fun cx hN hR hF hL => ?_; apply args_k; (case hA => (simp only [go_sem, ↓reduceIte]; rfl))
        (try ((try (revert K;refine bK ?_));refine' run (I g1 (I g2 (I g3 (I (decide_eq_false (of_eq_false g1)) (I (decide_eq_false (of_eq_false g2)) (decide_eq_true (of_eq_true g3))))))) ?_;(repeat' first|exact True.intro|refine Lv.mk ?_ ?_|(refine oK ?_;intro K hK)|intro hq);all_goals refine Lf.mk ?_))
    · have g2 : ((T.length : Int) > 100) = True := eq_true (by omega)
      have hF : fewK h T = false := by rw [fewK, decide_eq_false a2]; simp
      rw [hF]
      refine fun_W mixed Tryz.func10 rfl (Nat.le_of_ble_eq_true rfl) (by kernel_rfl) fun cx hN hR hF hL => ?_; apply args_k; (case hA => (simp only [go_sem, ↓reduceIte]; rfl))
      (try ((try (revert K;refine bK ?_));refine' run (I g1 (I g2 (I (decide_eq_false (of_eq_false g1)) (decide_eq_true (of_eq_true g2))))) ?_;(repeat' first|exact True.intro|refine Lv.mk ?_ ?_|(refine oK ?_;intro K hK)|intro hq);all_goals refine Lf.mk ?_))
  · have g1 : ((h.changes.length : Int) > 60) = True := eq_true (by omega)
    have hF : fewK h T = false := by rw [fewK, decide_eq_false a1]; simp
    rw [hF]
    refine fun_W mixed Tryz.func10 rfl (Nat.le_of_ble_eq_true rfl) (by kernel_rfl) fun cx hN hR hF hL => ?_; apply args_k; (case hA => (simp only [go_sem, ↓reduceIte]; rfl))
    (try ((try (revert K;refine bK ?_));refine' run (I g1 (decide_eq_true (of_eq_true g1))) ?_;(repeat' first|exact True.intro|refine Lv.mk ?_ ?_|(refine oK ?_;intro K hK)|intro hq);all_goals refine Lf.mk ?_))
/-- The example. -/
def exH : History := ⟨1, 1, ⟨1, 101, 0, 1000, 0, 0, [⟨1, 10, 10, 0, 10000⟩]⟩, [⟨60, 41, 3, 0, 0, 0, 0, [], 0⟩]⟩
def exT : List Version := [⟨1, 100, 100, 100, 100, [], [10000], [10000, 10000, 10000, 10000, 10000, 10000, 10000, 10000], 1⟩]
theorem ex1 : fewK exH exT = true := by decide +kernel
theorem ex2 : mvE exH exT 50 60 = 0 ∧ mvE exH exT 60 50 = 0 ∧ mvE exH exT 50 59 = 0 := by decide +kernel
theorem ex3 : mvL exH exT 50 60 = [(41, 101)] := by rw [mvL_ref ex2.1]; decide +kernel
theorem ex4 : mvL exH exT 60 50 = [(41, 101)] := by rw [mvL_ref ex2.2.1]; decide +kernel
theorem ex5 : mvL exH exT 50 59 = [] := by rw [mvL_ref ex2.2.2]; decide +kernel
theorem ex6 : kE exH exT 60 = 0 ∧ (kS exH exT 60).length = 2 := by decide +kernel
theorem plain13_f : Fun Tryz.prog 26 [] (.tup [.agg exH.flat, .agg [vers exT]]) := by
  refine fun_W mixed Tryz.func26 rfl (Nat.le_of_ble_eq_true rfl) (by kernel_rfl) fun cx hN hR hF hL => ?_; apply args_k; (case hA => (simp only [go_sem, ↓reduceIte]; rfl))
  (try ((try (revert K;refine bK ?_));refine' run trivial ?_;(repeat' first|exact True.intro|refine Lv.mk ?_ ?_|(refine oK ?_;intro K hK)|intro hq);all_goals refine Lf.mk ?_))
  simp [go_sem, fzo, exH, exT]
set_option maxHeartbeats 8000000 in
theorem alive13_f : Fun Tryz.prog 11 [] (bool true) := by
  have hsm := (fewK_is ex1).1
  have k1 := moved_f exH exT 50 60 hsm
  have k2 := moved_f exH exT 60 50 hsm
  have k3 := moved_f exH exT 50 59 hsm
  have k4 := knAt_f exH 59 (by decide) (by decide) (by decide)
  have k5 := knAt_f exH 0 (by decide) (by decide) (by decide)
  have k6 := knSl_f exH exT 60 hsm
  rw [ex3, ex2.1] at k1
  rw [ex4, ex2.2.1] at k2
  rw [ex5, ex2.2.2] at k3
  rw [show atH exH 59 = knownH exH 59 from rfl, show atE exH 59 = 0 from rfl] at k4
  rw [show atH exH 0 = zeroHist from rfl, show atE exH 0 = 7 from rfl] at k5
  rw [ex6.1] at k6
  have hl := ex6.2
  have kp := plain13_f
  generalize kS exH exT 60 = L at *
  have h9 : (knownH exH 59).changes.length = 0 := rfl
  generalize exT = T at *
  generalize knownH exH 59 = g at *
  generalize exH = h at *
  refine fun_W mixed Tryz.func11 rfl (Nat.le_of_ble_eq_true rfl) (by kernel_rfl) fun cx hN hR hF hL => ?_; apply args_k; (case hA => (simp only [go_sem, ↓reduceIte]; rfl))
  (repeat' first|((try (revert K;refine bK ?_));refine' run (I hl h9) ?_;(repeat' first|exact True.intro|refine Lv.mk ?_ ?_|(refine oK ?_;intro K hK)|intro hq);all_goals refine Lf.mk ?_)|refine callZ cl26 (kp) ?_|refine callZ cl15 (k1) ?_|refine callZ cl15 (k2) ?_|refine callZ cl15 (k3) ?_|refine callZ cl27 (k4) ?_|refine callZ cl27 (k5) ?_|refine callZ cl12 (k6) ?_|(with_reducible apply callFX [8016] cl17 (sSame_f [(41, 101)]);(case hy|hl|hk=>(simp only [go_sem, ↓reduceIte];try with_unfolding_all rfl));(case hz=>(with_unfolding_all simp [go_sem,fzo, hl, h9];done)))|refine callZ cl17 (sSame_f [(41, 101)]) ?_)
  rfl
end Go.Proofs.YtkonljmmdifnaaaGreat.V
set_option linter.unusedSimpArgs false
set_option linter.unusedVariables false
namespace Go.Proofs.YtkonljmmdifnaaaGreat.V
open Go.RowKit
set_option maxRecDepth 100000
attribute [local go_sem] Option.toList_some Option.toList_none Int.reduceEq Int.reduceNe Int.reduceToNat

theorem all12_same (a : List Sl) (ha : a.length ≤ 1000000) : Fun Tryz.prog 14 [slsA a, slsA a] (bool true) := by
  have := all12_f a a ha
  rwa [decide_eq_true rfl] at this
theorem knownSlicesLaw (h : History) (T : List Version) (b : Int) (ho : h.ok) : Fun Tryz.prog 3 [.agg h.flat, .agg [vers T], int b] (bool true) := by
  cases hf : fewK h T
  · have kf := few12_f h T
    rw [hf] at kf
    refine fun_W mixed Tryz.func3 rfl (Nat.le_of_ble_eq_true rfl) (by kernel_rfl) fun cx hN hR hF hL => ?_; apply args_k; (case hA => (simp only [go_sem, ↓reduceIte]; rfl))
    (repeat' first|((try (revert K;refine bK ?_));refine' run trivial ?_;(repeat' first|exact True.intro|refine Lv.mk ?_ ?_|(refine oK ?_;intro K hK)|intro hq);all_goals refine Lf.mk ?_)|refine callZ cl10 (kf) ?_|refine callZ cl11 (alive13_f) ?_)
  · obtain ⟨hs, h60⟩ := fewK_is hf
    have kf := few12_f h T
    rw [hf] at kf
    have k1 := knSl_f h T b hs
    have k2 := rKnSl_f h T b ho hs
    have k3 := all12_same (kS h T b) (by have := kS_len (h := h) (T := T) (b := b); omega)
    generalize kS h T b = L at *
    generalize kE h T b = e at *
    refine fun_W mixed Tryz.func3 rfl (Nat.le_of_ble_eq_true rfl) (by kernel_rfl) fun cx hN hR hF hL => ?_; apply args_k; (case hA => (simp only [go_sem, ↓reduceIte]; rfl))
    (repeat' first|((try (revert K;refine bK ?_));refine' run trivial ?_;(repeat' first|exact True.intro|refine Lv.mk ?_ ?_|(refine oK ?_;intro K hK)|intro hq);all_goals refine Lf.mk ?_)|refine callZ cl10 (kf) ?_|refine callZ cl11 (alive13_f) ?_|refine callZ cl12 (k1) ?_|refine callZ cl13 (k2) ?_|refine callZ cl14 (k3) ?_)
    all_goals simp
theorem knownMovedLaw (h : History) (T : List Version) (a b : Int) (ho : h.ok) : Fun Tryz.prog 4 [.agg h.flat, .agg [vers T], .agg [int a, int b]] (bool true) := by
  cases hf : fewK h T
  · have kf := few12_f h T
    rw [hf] at kf
    refine fun_W mixed Tryz.func4 rfl (Nat.le_of_ble_eq_true rfl) (by kernel_rfl) fun cx hN hR hF hL => ?_; apply args_k; (case hA => (simp only [go_sem, ↓reduceIte]; rfl))
    (repeat' first|((try (revert K;refine bK ?_));refine' run trivial ?_;(repeat' first|exact True.intro|refine Lv.mk ?_ ?_|(refine oK ?_;intro K hK)|intro hq);all_goals refine Lf.mk ?_)|refine callZ cl10 (kf) ?_|refine callZ cl11 (alive13_f) ?_)
  · obtain ⟨hs, h60⟩ := fewK_is hf
    have kf := few12_f h T
    rw [hf] at kf
    have k1 := moved_f h T a b hs
    have k2 := rMoved_f h T a b ho hs (by omega)
    have k3 := sSame_f (mvL h T a b)
    generalize mvL h T a b = L at *
    generalize mvE h T a b = e at *
    refine fun_W mixed Tryz.func4 rfl (Nat.le_of_ble_eq_true rfl) (by kernel_rfl) fun cx hN hR hF hL => ?_; apply args_k; (case hA => (simp only [go_sem, ↓reduceIte]; rfl))
    (repeat' first|((try (revert K;refine bK ?_));refine' run trivial ?_;(repeat' first|exact True.intro|refine Lv.mk ?_ ?_|(refine oK ?_;intro K hK)|intro hq);all_goals refine Lf.mk ?_)|refine callZ cl10 (kf) ?_|refine callZ cl11 (alive13_f) ?_|refine callZ cl15 (k1) ?_|refine callZ cl16 (k2) ?_|refine callZ cl17 (k3) ?_)
    all_goals simp
end Go.Proofs.YtkonljmmdifnaaaGreat.V
