/- More rules at CodeW: loops whose rounds go piece by piece; a cut in the midst of a row of pieces. Contracts of span: Right, kept, Many, In, Cut, and the reference's. Spans joined, cut into parts: plain laws. Plain: what holds by what is known; where another thing holds. span's iterator: some. slices.Backward at versions, as an iterator. known.upto: what is known of a history's changes, as an iterator (chapter 13). -/
import Derived.Test.YtkonljmmdifnaaaGreatG6
import Derived.Test.YtkonljmmdifnaaaGreatG12
import Derived.Test.YtkonljmmdifnaaaGreatG13
import Derived.Test.YtkonljmmdifnaaaGreatG7
import Derived.RangeFuncNested
import Derived.RangeFuncBound
import Derived.RangeFuncCalls
import Derived.RangeFuncLeaves
import Derived.Shelf.Abstract
import Derived.Shelf.RegionOpen
import Derived.WalkKit
import Derived.OwnWalkIn
import Derived.TacticsInMore
import Derived.LoopNIn
import Derived.LoopIn
import Derived.Stop.RegionWithIn
set_option linter.unusedSimpArgs false
set_option linter.unusedVariables false
namespace Go.Proofs.YtkonljmmdifnaaaGreat.V
open Go.RowKit
variable {P : Program} {cx : Cx}

theorem loopC {σ : Type} {c : Code} {Q : Exit → LS → Prop} {A : LS} (I : σ → LS) (μ : σ → Nat) (r : Nat → Nat) (s₀ : σ) (h₀ : LCut cx r A (I s₀))
    (round : ∀ s, CodeW P cx c (lthen (fun A' => ∃ (s' : σ) (r' : Nat → Nat), LCut cx r' A' (I s') ∧ μ s' < μ s) Q) (I s)) : LoopW P cx c Q A := by
  refine awp_loop (fun s => (I s).toAS) μ _ r s₀ h₀.cut fun s => ?_
  refine AWp.mono (round s) ?_
  rintro e A' ⟨L, rfl, hL⟩
  cases e with
  | normal =>
    obtain ⟨s', r', h1, h2⟩ := hL
    exact ⟨s', _, r', h1.cut, h2⟩
  | _ => exact ⟨L, rfl, hL⟩

/-- The last of the pieces ahead of the cut. -/
theorem codeT_base (hm : P.follows .mixedOrders = true) {a b : Code} {Q : Exit → LS → Prop} (hok : bodyOK cx.N a = true) (S : LS → Prop) (h2 : ∀ A', S A' → CodeW P cx b Q A') : ∀ A, W P cx a (lthen S Q) A → CodeW P cx (.seq a b) Q A :=
  fun _ h => code_seqS hm hok S h h2
/-- A piece ahead of it. -/
theorem codeT_step (hm : P.follows .mixedOrders = true) {a X Y : Code} {Q : Exit → LS → Prop} {S : LS → Prop} (hok : bodyOK cx.N a = true) (h : ∀ A, W P cx X (lthen S Q) A → CodeW P cx Y Q A) : ∀ A, W P cx (.seq a X) (lthen S Q) A → CodeW P cx (.seq a Y) Q A := by
  intro A hw
  refine awp_seq (AWp.mono (W_sound hm a _ A hok hw) ?_)
  rintro e A' ⟨L, rfl, hL⟩
  cases e with
  | normal => exact h L hL
  | _ => exact ⟨L, rfl, hL⟩
theorem code_cut5 (hm : P.follows .mixedOrders = true) {a b c d e r : Code} {Q : Exit → LS → Prop} {A : LS} (S : LS → Prop) (h1 : bodyOK cx.N a = true) (h2 : bodyOK cx.N b = true) (h3 : bodyOK cx.N c = true) (h4 : bodyOK cx.N d = true) (h5 : bodyOK cx.N e = true)
    (hr : ∀ A', S A' → CodeW P cx r Q A') (h : W P cx (.seq a (.seq b (.seq c (.seq d e)))) (lthen S Q) A) : CodeW P cx (.seq a (.seq b (.seq c (.seq d (.seq e r))))) Q A :=
  codeT_step hm h1 (codeT_step hm h2 (codeT_step hm h3 (codeT_step hm h4 (codeT_base hm h5 S hr)))) A h
end Go.Proofs.YtkonljmmdifnaaaGreat.V
set_option linter.unusedSimpArgs false
set_option linter.unusedVariables false
namespace Go.Proofs.YtkonljmmdifnaaaGreat.V
open Go.RowKit
set_option maxRecDepth 100000
attribute [local go_sem] Option.toList_some Option.toList_none

theorem swrap {v : Int} (h1 : -9223372036854775808 ≤ v) (h2 : v ≤ 9223372036854775807) : IntKind.i64.wrap v = v := by
  unfold IntKind.wrap
  simp [IntKind.signed, IntKind.bits]
  omega

/-- It has days. -/
def has (a b : Int) : Bool := decide (1 ≤ a) && decide (a < b) && decide (b ≤ 292195)
def rgt (a b : Int) : Bool := decide (1 ≤ a) && decide (a ≤ b) && decide (b ≤ 292195)
theorem has_iff {a b : Int} : has a b = true ↔ 1 ≤ a ∧ a < b ∧ b ≤ 292195 := by simp [has, and_assoc]
theorem rgt_iff {a b : Int} : rgt a b = true ↔ 1 ≤ a ∧ a ≤ b ∧ b ≤ 292195 := by simp [rgt, and_assoc]
def kA (a b : Int) : Int := if has a b = true then a else 0
def kB (a b : Int) : Int := if has a b = true then b else 0
def many (a b : Int) : Int := if has a b = true then b - a else 0
def inS (a b d : Int) : Bool := has a b && decide (a ≤ d) && decide (d < b)
def cA (a b c d : Int) : Int := if (has a b && has c d && has (max a c) (min b d)) = true then max a c else 0
def cB (a b c d : Int) : Int := if (has a b && has c d && has (max a c) (min b d)) = true then min b d else 0

theorem sRight_f (a b : Int) : Fun Tryz.prog 70 [.agg [int a, int b]] (bool (rgt a b)) := by
  refine fun_W mixed Tryz.func70 rfl (Nat.le_of_ble_eq_true rfl) (by kernel_rfl) fun cx hN hR hF hL => ?_; apply args_k; (case hA => (simp only [go_sem, ↓reduceIte]; rfl))
  (try ((try (revert K;refine bK ?_));refine' run trivial ?_;(repeat' first|exact True.intro|refine Lv.mk ?_ ?_|(refine oK ?_;intro K hK)|intro hq);all_goals refine Lf.mk ?_))
  all_goals rfl
theorem rRight_f (a b : Int) : Fun Tryz.prog 68 [.agg [int a, int b]] (bool (rgt a b)) := by
  refine fun_W mixed Tryz.func68 rfl (Nat.le_of_ble_eq_true rfl) (by kernel_rfl) fun cx hN hR hF hL => ?_; apply args_k; (case hA => (simp only [go_sem, ↓reduceIte]; rfl))
  (try ((try (revert K;refine bK ?_));refine' run trivial ?_;(repeat' first|exact True.intro|refine Lv.mk ?_ ?_|(refine oK ?_;intro K hK)|intro hq);all_goals refine Lf.mk ?_))
  all_goals rfl
theorem skept_f (a b : Int) : Fun Tryz.prog 39 [.agg [int a, int b]] (.agg [int (kA a b), int (kB a b)]) := by
  have hh : (!rgt a b || (a == b)) = !has a b := by
    cases h : has a b
    · rw [Bool.eq_false_iff, ne_eq, has_iff] at h
      by_cases h2 : rgt a b = true
      · have h3 := rgt_iff.1 h2
        have : a = b := by omega
        simp [this]
      · have : rgt a b = false := by simpa using h2
        simp [this]
    · have h3 := has_iff.1 h
      have : rgt a b = true := by rw [rgt_iff]; omega
      have h4 : (a == b) = false := by rw [beq_eq_false_iff_ne]; omega
      simp [this, h4]
  unfold kA kB
  cases h : has a b
  · rw [h, Bool.not_false] at hh
    refine fun_W mixed Tryz.func39 rfl (Nat.le_of_ble_eq_true rfl) (by kernel_rfl) fun cx hN hR hF hL => ?_; apply args_k; (case hA => (simp only [go_sem, ↓reduceIte]; rfl))
    (repeat' first|((try (revert K;refine bK ?_));refine' run hh ?_;(repeat' first|exact True.intro|refine Lv.mk ?_ ?_|(refine oK ?_;intro K hK)|intro hq);all_goals refine Lf.mk ?_)|refine callZ cl70 (sRight_f _ _) ?_)
    all_goals (exfalso; simp_all)
  · rw [h, Bool.not_true] at hh
    refine fun_W mixed Tryz.func39 rfl (Nat.le_of_ble_eq_true rfl) (by kernel_rfl) fun cx hN hR hF hL => ?_; apply args_k; (case hA => (simp only [go_sem, ↓reduceIte]; rfl))
    (repeat' first|((try (revert K;refine bK ?_));refine' run hh ?_;(repeat' first|exact True.intro|refine Lv.mk ?_ ?_|(refine oK ?_;intro K hK)|intro hq);all_goals refine Lf.mk ?_)|refine callZ cl70 (sRight_f _ _) ?_)
    all_goals (exfalso; simp_all)
theorem many_b (a b : Int) : IntKind.i64.wrap (kB a b - kA a b) = many a b := by
  unfold kA kB many
  split
  · rename_i h
    rw [has_iff] at h
    rw [swrap] <;> omega
  · rfl
theorem sMany_f (a b : Int) : Fun Tryz.prog 21 [.agg [int a, int b]] (int (many a b)) := by
  have hm := many_b a b
  refine fun_W mixed Tryz.func21 rfl (Nat.le_of_ble_eq_true rfl) (by kernel_rfl) fun cx hN hR hF hL => ?_; apply args_k; (case hA => (simp only [go_sem, ↓reduceIte]; rfl))
  (repeat' first|((try (revert K;refine bK ?_));refine' run hm ?_;(repeat' first|exact True.intro|refine Lv.mk ?_ ?_|(refine oK ?_;intro K hK)|intro hq);all_goals refine Lf.mk ?_)|refine callZ cl39 (skept_f _ _) ?_)
theorem rMany_f (a b : Int) : Fun Tryz.prog 37 [.agg [int a, int b]] (int (many a b)) := by
  by_cases h : rgt a b = true
  · have hm : IntKind.i64.wrap (b - a) = many a b := by
      rw [rgt_iff] at h
      unfold many
      rw [swrap (by omega) (by omega)]
      split
      · rfl
      · rename_i h2
        rw [has_iff] at h2
        omega
    refine fun_W mixed Tryz.func37 rfl (Nat.le_of_ble_eq_true rfl) (by kernel_rfl) fun cx hN hR hF hL => ?_; apply args_k; (case hA => (simp only [go_sem, ↓reduceIte]; rfl))
    (repeat' first|((try (revert K;refine bK ?_));refine' run (I hm h) ?_;(repeat' first|exact True.intro|refine Lv.mk ?_ ?_|(refine oK ?_;intro K hK)|intro hq);all_goals refine Lf.mk ?_)|refine callZ cl68 (rRight_f _ _) ?_)
  · have h' : rgt a b = false := by simpa using h
    have hm : many a b = 0 := by
      unfold many
      rw [if_neg]
      intro h2
      rw [has_iff] at h2
      rw [rgt_iff] at h
      omega
    rw [hm]
    refine fun_W mixed Tryz.func37 rfl (Nat.le_of_ble_eq_true rfl) (by kernel_rfl) fun cx hN hR hF hL => ?_; apply args_k; (case hA => (simp only [go_sem, ↓reduceIte]; rfl))
    (repeat' first|((try (revert K;refine bK ?_));refine' run h' ?_;(repeat' first|exact True.intro|refine Lv.mk ?_ ?_|(refine oK ?_;intro K hK)|intro hq);all_goals refine Lf.mk ?_)|refine callZ cl68 (rRight_f _ _) ?_)
theorem sIn_f (a b d : Int) : Fun Tryz.prog 18 [.agg [int a, int b], int d] (bool (inS a b d)) := by
  have hh : (decide (d ≥ kA a b) && decide (d < kB a b)) = inS a b d := by
    unfold kA kB inS
    cases h : has a b
    · simp
    · simp
  refine fun_W mixed Tryz.func18 rfl (Nat.le_of_ble_eq_true rfl) (by kernel_rfl) fun cx hN hR hF hL => ?_; apply args_k; (case hA => (simp only [go_sem, ↓reduceIte]; rfl))
  (repeat' first|((try (revert K;refine bK ?_));refine' run hh ?_;(repeat' first|exact True.intro|refine Lv.mk ?_ ?_|(refine oK ?_;intro K hK)|intro hq);all_goals refine Lf.mk ?_)|refine callZ cl39 (skept_f _ _) ?_)
theorem rIn_f (a b d : Int) : Fun Tryz.prog 71 [.agg [int a, int b], int d] (bool (inS a b d)) := by
  have hh : (rgt a b && decide (a ≤ d) && decide (d < b)) = inS a b d := by
    unfold inS
    rw [Bool.eq_iff_iff]
    simp only [Bool.and_eq_true, rgt_iff, has_iff, decide_eq_true_eq]
    omega
  refine fun_W mixed Tryz.func71 rfl (Nat.le_of_ble_eq_true rfl) (by kernel_rfl) fun cx hN hR hF hL => ?_; apply args_k; (case hA => (simp only [go_sem, ↓reduceIte]; rfl))
  (repeat' first|((try (revert K;refine bK ?_));refine' run hh ?_;(repeat' first|exact True.intro|refine Lv.mk ?_ ?_|(refine oK ?_;intro K hK)|intro hq);all_goals refine Lf.mk ?_)|refine callZ cl68 (rRight_f _ _) ?_)
theorem k_no {a b : Int} (h : has a b = false) : kA a b = 0 ∧ kB a b = 0 := by simp [kA, kB, h]
theorem k_yes {a b : Int} (h : has a b = true) : kA a b = a ∧ kB a b = b := by simp [kA, kB, h]
theorem cut_ab (a b c d : Int) : kA (max (kA a b) (kA c d)) (min (kB a b) (kB c d)) = cA a b c d ∧ kB (max (kA a b) (kA c d)) (min (kB a b) (kB c d)) = cB a b c d := by
  unfold cA cB
  cases h1 : has a b
  · have : has (max (kA a b) (kA c d)) (min (kB a b) (kB c d)) = false := by
      rw [(k_no h1).1, (k_no h1).2, Bool.eq_false_iff, ne_eq, has_iff]; omega
    rw [(k_no this).1, (k_no this).2]
    simp
  · cases h2 : has c d
    · have : has (max (kA a b) (kA c d)) (min (kB a b) (kB c d)) = false := by
        rw [(k_no h2).1, (k_no h2).2, Bool.eq_false_iff, ne_eq, has_iff]; omega
      rw [(k_no this).1, (k_no this).2]
      simp
    · rw [(k_yes h1).1, (k_yes h1).2, (k_yes h2).1, (k_yes h2).2]
      unfold kA kB
      simp
theorem sCut_f (a b c d : Int) : Fun Tryz.prog 22 [.agg [int a, int b], .agg [int c, int d]] (.agg [int (cA a b c d), int (cB a b c d)]) := by
  have k1 := skept_f (max (kA a b) (kA c d)) (min (kB a b) (kB c d))
  rw [(cut_ab a b c d).1, (cut_ab a b c d).2] at k1
  refine fun_W mixed Tryz.func22 rfl (Nat.le_of_ble_eq_true rfl) (by kernel_rfl) fun cx hN hR hF hL => ?_; apply args_k; (case hA => (simp only [go_sem, ↓reduceIte]; rfl))
  (repeat' first|((try (revert K;refine bK ?_));refine' run trivial ?_;(repeat' first|exact True.intro|refine Lv.mk ?_ ?_|(refine oK ?_;intro K hK)|intro hq);all_goals refine Lf.mk ?_)|refine callZ cl39 (skept_f a b) ?_|refine callZ cl39 (skept_f c d) ?_|refine callZ cl39 (k1) ?_)
set_option maxHeartbeats 4000000 in
theorem rCut_f (a b c d : Int) : Fun Tryz.prog 36 [.agg [int a, int b], .agg [int c, int d]] (.agg [int (cA a b c d), int (cB a b c d)]) := by
  have hh : (!rgt a b || !rgt c d || (many (max a c) (min b d) == 0)) = !(has a b && has c d && has (max a c) (min b d)) := by
    rw [Bool.eq_iff_iff]
    simp only [Bool.or_eq_true, Bool.not_eq_true', Bool.eq_false_iff, ne_eq, rgt_iff, beq_iff_eq, Bool.and_eq_true, has_iff]
    unfold many
    split
    · rename_i h; rw [has_iff] at h; omega
    · rename_i h; rw [has_iff] at h; omega
  have hx : (if c > a then c else a) = max a c := by omega
  have hy : (if d < b then d else b) = min b d := by omega
  unfold cA cB
  cases hv : (has a b && has c d && has (max a c) (min b d))
  · rw [hv, Bool.not_false] at hh
    by_cases g1 : c > a
    · have m1 : max a c = c := by omega
      by_cases g2 : d < b
      · have m2 : min b d = d := by omega
        rw [m1, m2] at hh
        refine fun_W mixed Tryz.func36 rfl (Nat.le_of_ble_eq_true rfl) (by kernel_rfl) fun cx hN hR hF hL => ?_; apply args_k; (case hA => (simp only [go_sem, ↓reduceIte]; rfl))
        (repeat' first|((try (revert K;refine bK ?_));refine' run hh ?_;(repeat' first|exact True.intro|refine Lv.mk ?_ ?_|(refine oK ?_;intro K hK)|intro hq);all_goals refine Lf.mk ?_)|refine callZ cl68 (rRight_f _ _) ?_|refine callZ cl37 (rMany_f _ _) ?_)
        all_goals (exfalso; clear hv hx hy; simp_all)
      · have m2 : min b d = b := by omega
        rw [m1, m2] at hh
        refine fun_W mixed Tryz.func36 rfl (Nat.le_of_ble_eq_true rfl) (by kernel_rfl) fun cx hN hR hF hL => ?_; apply args_k; (case hA => (simp only [go_sem, ↓reduceIte]; rfl))
        (repeat' first|((try (revert K;refine bK ?_));refine' run hh ?_;(repeat' first|exact True.intro|refine Lv.mk ?_ ?_|(refine oK ?_;intro K hK)|intro hq);all_goals refine Lf.mk ?_)|refine callZ cl68 (rRight_f _ _) ?_|refine callZ cl37 (rMany_f _ _) ?_)
        all_goals (exfalso; clear hv hx hy; simp_all)
    · have m1 : max a c = a := by omega
      by_cases g2 : d < b
      · have m2 : min b d = d := by omega
        rw [m1, m2] at hh
        refine fun_W mixed Tryz.func36 rfl (Nat.le_of_ble_eq_true rfl) (by kernel_rfl) fun cx hN hR hF hL => ?_; apply args_k; (case hA => (simp only [go_sem, ↓reduceIte]; rfl))
        (repeat' first|((try (revert K;refine bK ?_));refine' run hh ?_;(repeat' first|exact True.intro|refine Lv.mk ?_ ?_|(refine oK ?_;intro K hK)|intro hq);all_goals refine Lf.mk ?_)|refine callZ cl68 (rRight_f _ _) ?_|refine callZ cl37 (rMany_f _ _) ?_)
        all_goals (exfalso; clear hv hx hy; simp_all)
      · have m2 : min b d = b := by omega
        rw [m1, m2] at hh
        refine fun_W mixed Tryz.func36 rfl (Nat.le_of_ble_eq_true rfl) (by kernel_rfl) fun cx hN hR hF hL => ?_; apply args_k; (case hA => (simp only [go_sem, ↓reduceIte]; rfl))
        (repeat' first|((try (revert K;refine bK ?_));refine' run hh ?_;(repeat' first|exact True.intro|refine Lv.mk ?_ ?_|(refine oK ?_;intro K hK)|intro hq);all_goals refine Lf.mk ?_)|refine callZ cl68 (rRight_f _ _) ?_|refine callZ cl37 (rMany_f _ _) ?_)
        all_goals (exfalso; clear hv hx hy; simp_all)
  · rw [hv, Bool.not_true] at hh
    simp only [if_true]
    by_cases g1 : c > a
    · have m1 : max a c = c := by omega
      by_cases g2 : d < b
      · have m2 : min b d = d := by omega
        rw [m1, m2] at hh ⊢
        refine fun_W mixed Tryz.func36 rfl (Nat.le_of_ble_eq_true rfl) (by kernel_rfl) fun cx hN hR hF hL => ?_; apply args_k; (case hA => (simp only [go_sem, ↓reduceIte]; rfl))
        (repeat' first|((try (revert K;refine bK ?_));refine' run hh ?_;(repeat' first|exact True.intro|refine Lv.mk ?_ ?_|(refine oK ?_;intro K hK)|intro hq);all_goals refine Lf.mk ?_)|refine callZ cl68 (rRight_f _ _) ?_|refine callZ cl37 (rMany_f _ _) ?_)
        all_goals (exfalso; clear hv hx hy; simp_all)
      · have m2 : min b d = b := by omega
        rw [m1, m2] at hh ⊢
        refine fun_W mixed Tryz.func36 rfl (Nat.le_of_ble_eq_true rfl) (by kernel_rfl) fun cx hN hR hF hL => ?_; apply args_k; (case hA => (simp only [go_sem, ↓reduceIte]; rfl))
        (repeat' first|((try (revert K;refine bK ?_));refine' run hh ?_;(repeat' first|exact True.intro|refine Lv.mk ?_ ?_|(refine oK ?_;intro K hK)|intro hq);all_goals refine Lf.mk ?_)|refine callZ cl68 (rRight_f _ _) ?_|refine callZ cl37 (rMany_f _ _) ?_)
        all_goals (exfalso; clear hv hx hy; simp_all)
    · have m1 : max a c = a := by omega
      by_cases g2 : d < b
      · have m2 : min b d = d := by omega
        rw [m1, m2] at hh ⊢
        refine fun_W mixed Tryz.func36 rfl (Nat.le_of_ble_eq_true rfl) (by kernel_rfl) fun cx hN hR hF hL => ?_; apply args_k; (case hA => (simp only [go_sem, ↓reduceIte]; rfl))
        (repeat' first|((try (revert K;refine bK ?_));refine' run hh ?_;(repeat' first|exact True.intro|refine Lv.mk ?_ ?_|(refine oK ?_;intro K hK)|intro hq);all_goals refine Lf.mk ?_)|refine callZ cl68 (rRight_f _ _) ?_|refine callZ cl37 (rMany_f _ _) ?_)
        all_goals (exfalso; clear hv hx hy; simp_all)
      · have m2 : min b d = b := by omega
        rw [m1, m2] at hh ⊢
        refine fun_W mixed Tryz.func36 rfl (Nat.le_of_ble_eq_true rfl) (by kernel_rfl) fun cx hN hR hF hL => ?_; apply args_k; (case hA => (simp only [go_sem, ↓reduceIte]; rfl))
        (repeat' first|((try (revert K;refine bK ?_));refine' run hh ?_;(repeat' first|exact True.intro|refine Lv.mk ?_ ?_|(refine oK ?_;intro K hK)|intro hq);all_goals refine Lf.mk ?_)|refine callZ cl68 (rRight_f _ _) ?_|refine callZ cl37 (rMany_f _ _) ?_)
        all_goals (exfalso; clear hv hx hy; simp_all)
attribute [local go_sem] bne_self_eq_false in
set_option maxHeartbeats 4000000 in
theorem sSame_f (l : List (Int × Int)) : Fun Tryz.prog 17 [prs l, prs l] (bool true) := by
  refine fun_W mixed Tryz.func17 rfl (Nat.le_of_ble_eq_true rfl) (by kernel_rfl) fun cx hN hR hF hL => ?_; apply args_k; (case hA => (simp only [go_sem, ↓reduceIte]; rfl))
  have hl : l.length ≤ 9223372036854775807 := by
    simp [maxLen] at hL
    omega
  (try ((try (revert K;refine bK ?_));refine' run trivial ?_;(repeat' first|exact True.intro|refine Lv.mk ?_ ?_|(refine oK ?_;intro K hK)|intro hq);all_goals refine Lf.mk ?_))
  refine loopW mixed (σ := {i : Nat // i ≤ l.length}) (fun q => ⟨[(5, int q.1), (0, prs l), (1, prs l)], [], 2009⟩) (fun q => l.length - q.1) id ⟨0, Nat.zero_le _⟩ (by rw [hN]; kernel_rfl) ?_ ?_
  · simp only [go_sem, ↓reduceIte, hF]
    rfl
  · rintro ⟨i, h1⟩
    by_cases hi : i < l.length
    · have hq : l[i]? = some l[i] := List.getElem?_eq_getElem hi
      have e1 : (l.map prow)[i]? = some (prow l[i]) := by rw [List.getElem?_map, hq]; rfl
      generalize l[i] = q at *
      have e5 : IntKind.i64.wrap ((i : Int) + 1) = ((i + 1 : Nat) : Int) := by rw [swrap] <;> omega
      have hk1 : i < (l.map prow).length := by simpa using hi
      (try ((try (revert K;refine bK ?_));refine' run (I e1 (I e5 hk1)) ?_;(repeat' first|exact True.intro|refine Lv.mk ?_ ?_|(refine oK ?_;intro K hK)|intro hq);all_goals refine Lf.mk ?_))
      refine ⟨⟨i + 1, hi⟩, id, ?_, by show l.length - (i + 1) < l.length - i; omega⟩
      simp only [go_sem, ↓reduceIte, hF]
    · (try ((try (revert K;refine bK ?_));refine' run trivial ?_;(repeat' first|exact True.intro|refine Lv.mk ?_ ?_|(refine oK ?_;intro K hK)|intro hq);all_goals refine Lf.mk ?_))
end Go.Proofs.YtkonljmmdifnaaaGreat.V
set_option linter.unusedSimpArgs false
set_option linter.unusedVariables false
namespace Go.Proofs.YtkonljmmdifnaaaGreat.V

abbrev Sps := List (Int × Int)

def inL (l : Sps) (d : Int) : Prop := ∃ p, p ∈ l ∧ p.1 ≤ d ∧ d < p.2
theorem inL_nil {d : Int} : ¬ inL [] d := by rintro ⟨p, h, -⟩; simp at h
theorem inL_cons {p : Int × Int} {l : Sps} {d : Int} : inL (p :: l) d ↔ (p.1 ≤ d ∧ d < p.2) ∨ inL l d := by
  constructor
  · rintro ⟨q, h, h1⟩
    rcases List.mem_cons.1 h with rfl | h
    · exact .inl h1
    · exact .inr ⟨q, h, h1⟩
  · rintro (h | ⟨q, h, h1⟩)
    · exact ⟨p, by simp, h⟩
    · exact ⟨q, by simp [h], h1⟩
theorem inL_app {a b : Sps} {d : Int} : inL (a ++ b) d ↔ inL a d ∨ inL b d := by
  constructor
  · rintro ⟨q, h, h1⟩
    rcases List.mem_append.1 h with h | h
    · exact .inl ⟨q, h, h1⟩
    · exact .inr ⟨q, h, h1⟩
  · rintro (⟨q, h, h1⟩ | ⟨q, h, h1⟩)
    · exact ⟨q, by simp [h], h1⟩
    · exact ⟨q, by simp [h], h1⟩
theorem inL_perm {a b : Sps} (h : ∀ p, p ∈ a ↔ p ∈ b) (d : Int) : inL a d ↔ inL b d :=
  ⟨fun ⟨q, hq, h1⟩ => ⟨q, (h q).1 hq, h1⟩, fun ⟨q, hq, h1⟩ => ⟨q, (h q).2 hq, h1⟩⟩

/-- Spans that have days, rise, and do not touch. -/
def Apt (l : Sps) : Prop := (∀ p, p ∈ l → p.1 < p.2) ∧ l.Pairwise fun p q => p.2 < q.1
theorem Apt.nil : Apt [] := ⟨by simp, .nil⟩
theorem Apt.cons {p : Int × Int} {l : Sps} : Apt (p :: l) ↔ p.1 < p.2 ∧ (∀ q, q ∈ l → p.2 < q.1) ∧ Apt l := by
  unfold Apt
  rw [List.pairwise_cons]
  constructor
  · rintro ⟨h1, h2, h3⟩
    exact ⟨h1 p (by simp), h2, fun q hq => h1 q (by simp [hq]), h3⟩
  · rintro ⟨h1, h2, h3, h4⟩
    refine ⟨fun q hq => ?_, h2, h4⟩
    rcases List.mem_cons.1 hq with rfl | hq
    · exact h1
    · exact h3 q hq
theorem apt_unique : ∀ {a b : Sps}, Apt a → Apt b → (∀ d, inL a d ↔ inL b d) → a = b
  | [], [], _, _, _ => rfl
  | [], q :: b, _, hb, h => by
    have := (Apt.cons.1 hb).1
    exact absurd ((h q.1).2 (inL_cons.2 (.inl ⟨Int.le_refl _, this⟩))) inL_nil
  | p :: a, [], ha, _, h => by
    have := (Apt.cons.1 ha).1
    exact absurd ((h p.1).1 (inL_cons.2 (.inl ⟨Int.le_refl _, this⟩))) inL_nil
  | p :: a, q :: b, ha, hb, h => by
    obtain ⟨ha1, ha2, ha3⟩ := Apt.cons.1 ha
    obtain ⟨hb1, hb2, hb3⟩ := Apt.cons.1 hb
    have la : ∀ d, inL a d → p.2 < d := fun d ⟨x, hx, h1, _⟩ => by have := ha2 x hx; omega
    have lb : ∀ d, inL b d → q.2 < d := fun d ⟨x, hx, h1, _⟩ => by have := hb2 x hx; omega
    have e1 : p.1 = q.1 := by
      have h1 := inL_cons.1 ((h p.1).1 (inL_cons.2 (.inl ⟨Int.le_refl _, ha1⟩)))
      have h2 := inL_cons.1 ((h q.1).2 (inL_cons.2 (.inl ⟨Int.le_refl _, hb1⟩)))
      rcases h1 with h1 | h1
      · rcases h2 with h2 | h2
        · omega
        · have := la _ h2; omega
      · have := lb _ h1
        rcases h2 with h2 | h2
        · omega
        · have := la _ h2; omega
    have e2 : p.2 = q.2 := by
      rcases Int.lt_trichotomy p.2 q.2 with hl | hl | hl
      · have h1 := inL_cons.1 ((h p.2).2 (inL_cons.2 (.inl ⟨by omega, hl⟩)))
        rcases h1 with h1 | h1
        · omega
        · have := la _ h1; omega
      · exact hl
      · have h1 := inL_cons.1 ((h q.2).1 (inL_cons.2 (.inl ⟨by omega, hl⟩)))
        rcases h1 with h1 | h1
        · omega
        · have := lb _ h1; omega
    have e : p = q := Prod.ext e1 e2
    subst e
    congr 1
    refine apt_unique ha3 hb3 fun d => ⟨fun hd => ?_, fun hd => ?_⟩
    · have h1 := la d hd
      rcases inL_cons.1 ((h d).1 (inL_cons.2 (.inr hd))) with h2 | h2
      · omega
      · exact h2
    · have h1 := lb d hd
      rcases inL_cons.1 ((h d).2 (inL_cons.2 (.inr hd))) with h2 | h2
      · omega
      · exact h2

/-- One more, behind: the last one first. -/
def stepR : Sps → Int × Int → Sps
  | [], s => [s]
  | e :: r, s => if s.1 ≤ e.2 then (e.1, max e.2 s.2) :: r else s :: e :: r
def joinR (l : Sps) : Sps := (l.foldl stepR []).reverse

/-- The same, the last one first. -/
def ApR (l : Sps) : Prop := Apt l.reverse
theorem ApR.cons {p : Int × Int} {l : Sps} : ApR (p :: l) ↔ p.1 < p.2 ∧ (∀ q, q ∈ l → q.2 < p.1) ∧ ApR l := by
  unfold ApR Apt
  rw [List.pairwise_reverse, List.pairwise_reverse, List.pairwise_cons]
  simp only [List.mem_reverse, List.mem_cons]
  constructor
  · rintro ⟨h1, h2, h3⟩
    exact ⟨h1 p (.inl rfl), h2, fun q hq => h1 q (.inr hq), h3⟩
  · rintro ⟨h1, h2, h3, h4⟩
    refine ⟨fun q hq => ?_, h2, h4⟩
    rcases hq with rfl | hq
    · exact h1
    · exact h3 q hq
theorem has_lt {p : Int × Int} (h : has p.1 p.2 = true) : p.1 < p.2 := (has_iff.1 h).2.1

theorem stepR_ok {R : Sps} {s : Int × Int} (hR : ApR R) (hh : ∀ p, p ∈ R → has p.1 p.2 = true) (hs : has s.1 s.2 = true) (hle : ∀ p, p ∈ R → p.1 ≤ s.1) :
    ApR (stepR R s) ∧ (∀ p, p ∈ stepR R s → has p.1 p.2 = true) ∧ (∀ p, p ∈ stepR R s → p.1 ≤ s.1) ∧ ∀ d, inL (stepR R s) d ↔ inL R d ∨ (s.1 ≤ d ∧ d < s.2) := by
  have hs2 := has_iff.1 hs
  cases R with
  | nil =>
    refine ⟨ApR.cons.2 ⟨hs2.2.1, by simp, Apt.nil⟩, by simp [stepR, hs], by simp [stepR], fun d => ?_⟩
    rw [stepR, inL_cons]
    have := inL_nil (d := d)
    simp [this]
  | cons e r =>
    obtain ⟨h1, h2, h3⟩ := ApR.cons.1 hR
    have he := hle e (by simp)
    have hb := has_iff.1 (hh e (by simp))
    simp only [stepR]
    split
    · rename_i hc
      refine ⟨ApR.cons.2 ⟨by simp only; omega, h2, h3⟩, fun p hp => ?_, fun p hp => ?_, fun d => ?_⟩
      · rcases List.mem_cons.1 hp with rfl | hp
        · rw [has_iff]; simp only; omega
        · exact hh p (by simp [hp])
      · rcases List.mem_cons.1 hp with rfl | hp
        · exact he
        · exact hle p (by simp [hp])
      · rw [inL_cons, inL_cons]
        by_cases hd : inL r d
        · simp [hd]
        · simp only [hd, or_false]; omega
    · rename_i hc
      refine ⟨ApR.cons.2 ⟨hs2.2.1, fun q hq => ?_, hR⟩, fun p hp => ?_, fun p hp => ?_, fun d => ?_⟩
      · rcases List.mem_cons.1 hq with rfl | hq
        · omega
        · have := h2 q hq; omega
      · rcases List.mem_cons.1 hp with rfl | hp
        · exact hs
        · exact hh p hp
      · rcases List.mem_cons.1 hp with rfl | hp
        · exact Int.le_refl _
        · exact hle p hp
      · rw [inL_cons]
        constructor
        · rintro (h | h)
          · exact .inr h
          · exact .inl h
        · rintro (h | h)
          · exact .inr h
          · exact .inl h

theorem foldR_ok : ∀ {l R : Sps}, ApR R → (∀ p, p ∈ R → has p.1 p.2 = true) → (∀ p, p ∈ l → has p.1 p.2 = true) → (∀ p, p ∈ R → ∀ q, q ∈ l → p.1 ≤ q.1) → l.Pairwise (fun p q => p.1 ≤ q.1) →
    ApR (l.foldl stepR R) ∧ (∀ p, p ∈ l.foldl stepR R → has p.1 p.2 = true) ∧ ∀ d, inL (l.foldl stepR R) d ↔ inL R d ∨ inL l d
  | [], R, h1, h2, _, _, _ => ⟨h1, h2, fun d => by have := inL_nil (d := d); simp [this]⟩
  | s :: l, R, h1, h2, h3, h4, h5 => by
    obtain ⟨g1, g2, g3, g4⟩ := stepR_ok h1 h2 (h3 s (by simp)) fun p hp => h4 p hp s (by simp)
    rw [List.pairwise_cons] at h5
    obtain ⟨k1, k2, k3⟩ := foldR_ok (l := l) (R := stepR R s) g1 g2 (fun p hp => h3 p (by simp [hp])) (fun p hp q hq => by have := g3 p hp; have := h5.1 q hq; omega) h5.2
    refine ⟨k1, k2, fun d => ?_⟩
    rw [List.foldl_cons, k3, g4, inL_cons, or_assoc]

theorem joinR_ok {l : Sps} (h1 : ∀ p, p ∈ l → has p.1 p.2 = true) (h2 : l.Pairwise fun p q => p.1 ≤ q.1) : Apt (joinR l) ∧ (∀ p, p ∈ joinR l → has p.1 p.2 = true) ∧ ∀ d, inL (joinR l) d ↔ inL l d := by
  obtain ⟨k1, k2, k3⟩ := foldR_ok (l := l) (R := []) Apt.nil (by simp) h1 (by simp) h2
  refine ⟨k1, fun p hp => k2 p (by simpa [joinR] using hp), fun d => ?_⟩
  rw [joinR, inL_perm (b := l.foldl stepR []) (by simp), k3]
  have := inL_nil (d := d)
  simp [this]

/-- The reference's: into spans that rise and are apart. -/
def intoG : Sps → Int × Int → Sps → Sps → Sps
  | [], s, A, B => A ++ [s] ++ B
  | p :: l, s, A, B => if p.2 < s.1 then intoG l s (A ++ [p]) B else if s.2 < p.1 then intoG l s A (B ++ [p]) else intoG l (min p.1 s.1, max p.2 s.2) A B

theorem apt_app {a b : Sps} : Apt (a ++ b) ↔ Apt a ∧ Apt b ∧ ∀ p, p ∈ a → ∀ q, q ∈ b → p.2 < q.1 := by
  unfold Apt
  rw [List.pairwise_append]
  simp only [List.mem_append]
  constructor
  · rintro ⟨h1, h2, h3, h4⟩
    exact ⟨⟨fun p hp => h1 p (.inl hp), h2⟩, ⟨fun p hp => h1 p (.inr hp), h3⟩, h4⟩
  · rintro ⟨⟨h1, h2⟩, ⟨h3, h4⟩, h5⟩
    exact ⟨fun p hp => hp.elim (h1 p) (h3 p), h2, h4, h5⟩
theorem apt_one {p : Int × Int} : Apt [p] ↔ p.1 < p.2 := by simp [Apt]

theorem intoG_ok : ∀ {l : Sps} {s : Int × Int} {A B : Sps}, Apt l → has s.1 s.2 = true → Apt A → Apt B → (∀ p, p ∈ l → has p.1 p.2 = true) → (∀ p, p ∈ A → has p.1 p.2 = true) → (∀ p, p ∈ B → has p.1 p.2 = true) →
    (∀ a, a ∈ A → a.2 < s.1 ∧ ∀ p, p ∈ l → a.2 < p.1) → (∀ b, b ∈ B → s.2 < b.1 ∧ ∀ p, p ∈ l → b.2 < p.1) →
    Apt (intoG l s A B) ∧ (∀ p, p ∈ intoG l s A B → has p.1 p.2 = true) ∧ ∀ d, inL (intoG l s A B) d ↔ inL A d ∨ (s.1 ≤ d ∧ d < s.2) ∨ inL B d ∨ inL l d
  | [], s, A, B, hl, hs, hA, hB, bl, bA, bB, xA, xB => by
    have hs2 := has_lt hs
    refine ⟨?_, fun p hp => ?_, fun d => ?_⟩
    · rw [intoG, apt_app, apt_app, apt_one]
      refine ⟨⟨hA, hs2, fun p hp q hq => ?_⟩, hB, fun p hp q hq => ?_⟩
      · simp at hq; subst hq; exact (xA p hp).1
      · have := (xB q hq).1
        rcases List.mem_append.1 hp with hp | hp
        · have := (xA p hp).1; omega
        · simp at hp; subst hp; exact this
    · simp only [intoG, List.mem_append, List.mem_singleton] at hp
      rcases hp with (hp | rfl) | hp
      · exact bA p hp
      · exact hs
      · exact bB p hp
    · rw [intoG, inL_app, inL_app, inL_cons]
      have := inL_nil (d := d)
      simp [this, or_assoc]
  | p :: l, s, A, B, hl, hs, hA, hB, bl, bA, bB, xA, xB => by
    have hs2 := has_iff.1 hs
    obtain ⟨l1, l2, l3⟩ := Apt.cons.1 hl
    have hp2 := has_iff.1 (bl p (by simp))
    have bl' : ∀ q, q ∈ l → has q.1 q.2 = true := fun q hq => bl q (by simp [hq])
    unfold intoG
    split
    · rename_i hc
      obtain ⟨k1, k2, k3⟩ := intoG_ok (l := l) (s := s) (A := A ++ [p]) (B := B) l3 hs (apt_app.2 ⟨hA, apt_one.2 l1, fun a ha q hq => by simp at hq; subst hq; exact (xA a ha).2 q (by simp)⟩) hB bl'
        (fun q hq => by rcases List.mem_append.1 hq with hq | hq; exact bA q hq; (simp at hq; subst hq; exact bl q (by simp))) bB
        (fun a ha => by
          rcases List.mem_append.1 ha with ha | ha
          · exact ⟨(xA a ha).1, fun q hq => (xA a ha).2 q (by simp [hq])⟩
          · simp at ha; subst ha; exact ⟨hc, l2⟩)
        (fun b hb => ⟨(xB b hb).1, fun q hq => (xB b hb).2 q (by simp [hq])⟩)
      refine ⟨k1, k2, fun d => ?_⟩
      rw [k3, inL_app, inL_cons, inL_cons]
      have := inL_nil (d := d)
      simp only [this, or_false]
      grind
    · split
      · rename_i hc1 hc
        obtain ⟨k1, k2, k3⟩ := intoG_ok (l := l) (s := s) (A := A) (B := B ++ [p]) l3 hs hA (apt_app.2 ⟨hB, apt_one.2 l1, fun b hb q hq => by simp at hq; subst hq; exact (xB b hb).2 q (by simp)⟩) bl' bA
          (fun q hq => by rcases List.mem_append.1 hq with hq | hq; exact bB q hq; (simp at hq; subst hq; exact bl q (by simp)))
          (fun a ha => ⟨(xA a ha).1, fun q hq => (xA a ha).2 q (by simp [hq])⟩)
          (fun b hb => by
            rcases List.mem_append.1 hb with hb | hb
            · exact ⟨(xB b hb).1, fun q hq => (xB b hb).2 q (by simp [hq])⟩
            · simp at hb; subst hb; exact ⟨hc, l2⟩)
        refine ⟨k1, k2, fun d => ?_⟩
        rw [k3, inL_app, inL_cons, inL_cons]
        have := inL_nil (d := d)
        simp only [this, or_false]
        grind
      · rename_i hc1 hc2
        obtain ⟨k1, k2, k3⟩ := intoG_ok (l := l) (s := (min p.1 s.1, max p.2 s.2)) (A := A) (B := B) l3 (by rw [has_iff]; simp only; omega) hA hB bl' bA bB
          (fun a ha => ⟨by have h1 := (xA a ha).1; have h2 := (xA a ha).2 p (by simp); simp only; omega, fun q hq => (xA a ha).2 q (by simp [hq])⟩)
          (fun b hb => ⟨by have h1 := (xB b hb).1; have h2 := (xB b hb).2 p (by simp); have h3 := has_lt (bB b hb); simp only; omega, fun q hq => (xB b hb).2 q (by simp [hq])⟩)
        refine ⟨k1, k2, fun d => ?_⟩
        rw [k3, inL_cons]
        have : (min p.1 s.1 ≤ d ∧ d < max p.2 s.2) ↔ (p.1 ≤ d ∧ d < p.2) ∨ (s.1 ≤ d ∧ d < s.2) := by omega
        simp only [this]
        grind

/-- Those that have days. -/
def hasL (l : List (Int × Int)) : List (Int × Int) := l.filter fun p => has p.1 p.2
theorem hasL_mem {l : Sps} {p : Int × Int} : p ∈ hasL l ↔ p ∈ l ∧ has p.1 p.2 = true := by simp [hasL]

/-- Joined, as the reference does. -/
def joinL (l : Sps) : Sps := (hasL l).foldl (fun out s => intoG out s [] []) []

theorem foldG_ok : ∀ {l R : Sps}, Apt R → (∀ p, p ∈ R → has p.1 p.2 = true) → (∀ p, p ∈ l → has p.1 p.2 = true) →
    Apt (l.foldl (fun out s => intoG out s [] []) R) ∧ (∀ p, p ∈ l.foldl (fun out s => intoG out s [] []) R → has p.1 p.2 = true) ∧ ∀ d, inL (l.foldl (fun out s => intoG out s [] []) R) d ↔ inL R d ∨ inL l d
  | [], R, h1, h2, _ => ⟨h1, h2, fun d => by have := inL_nil (d := d); simp [this]⟩
  | s :: l, R, h1, h2, h3 => by
    obtain ⟨g1, g2, g3⟩ := intoG_ok (l := R) (s := s) (A := []) (B := []) h1 (h3 s (by simp)) Apt.nil Apt.nil h2 (by simp) (by simp) (by simp) (by simp)
    obtain ⟨k1, k2, k3⟩ := foldG_ok (l := l) g1 g2 fun p hp => h3 p (by simp [hp])
    refine ⟨k1, k2, fun d => ?_⟩
    rw [List.foldl_cons, k3, g3, inL_cons]
    have := inL_nil (d := d)
    simp only [this, false_or]
    grind

theorem joinL_ok (l : Sps) : Apt (joinL l) ∧ (∀ p, p ∈ joinL l → has p.1 p.2 = true) ∧ ∀ d, inL (joinL l) d ↔ inL (hasL l) d := by
  obtain ⟨k1, k2, k3⟩ := foldG_ok (l := hasL l) (R := []) Apt.nil (by simp) fun p hp => (hasL_mem.1 hp).2
  refine ⟨k1, k2, fun d => ?_⟩
  have h := k3 d
  have := inL_nil (d := d)
  simp only [this, false_or] at h
  exact h

/-- Sorted by their first days, in any way, and joined: the reference's. -/
theorem joinR_eq {l s : Sps} (hp : s.Perm (hasL l)) (hs : s.Pairwise fun p q => p.1 ≤ q.1) : joinR s = joinL l := by
  obtain ⟨a1, a2, a3⟩ := joinR_ok (l := s) (fun p h => (hasL_mem.1 (hp.mem_iff.1 h)).2) hs
  obtain ⟨b1, b2, b3⟩ := joinL_ok l
  refine apt_unique a1 b1 fun d => ?_
  rw [a3, b3, inL_perm fun p => hp.mem_iff]

/-- What the days are tells how they are joined. -/
theorem joinL_eq {a b : Sps} (h : ∀ d, inL (hasL a) d ↔ inL (hasL b) d) : joinL a = joinL b := by
  obtain ⟨a1, a2, a3⟩ := joinL_ok a
  obtain ⟨b1, b2, b3⟩ := joinL_ok b
  exact apt_unique a1 b1 fun d => by rw [a3, b3, h]

theorem hasL_all {l : Sps} (h : ∀ p, p ∈ l → has p.1 p.2 = true) : hasL l = l := List.filter_eq_self.2 h
theorem joinL_twice (l : Sps) : joinL (joinL l) = joinL l := by
  obtain ⟨a1, a2, a3⟩ := joinL_ok l
  refine joinL_eq fun d => ?_
  rw [hasL_all a2, a3]

/-- The parts of a span, by rising days. -/
def partsG (t : Int) : Int → List Int → Sps
  | a, [] => [(a, t)]
  | a, d :: ds => if a < d ∧ d < t then (a, d) :: partsG t d ds else partsG t a ds
def nextP (a t : Int) (l : List Int) : Int := l.foldl (fun n x => if x > a ∧ x < n then x else n) t

theorem nextP_spec {a : Int} : ∀ {l : List Int} {t : Int}, a < t → a < nextP a t l ∧ nextP a t l ≤ t ∧ (nextP a t l = t ∨ nextP a t l ∈ l) ∧ ∀ x, x ∈ l → a < x → nextP a t l ≤ x
  | [], t, h => ⟨h, Int.le_refl _, .inl rfl, by simp⟩
  | y :: l, t, h => by
    simp only [nextP, List.foldl_cons]
    split
    · rename_i hc
      obtain ⟨h1, h2, h3, h4⟩ := nextP_spec (l := l) (t := y) hc.1
      simp only [nextP] at h1 h2 h3 h4
      refine ⟨h1, by omega, .inr ?_, fun x hx hax => ?_⟩
      · rcases h3 with h3 | h3
        · rw [h3]; simp
        · exact List.mem_cons_of_mem _ h3
      · rcases List.mem_cons.1 hx with rfl | hx
        · exact h2
        · exact h4 x hx hax
    · rename_i hc
      obtain ⟨h1, h2, h3, h4⟩ := nextP_spec (l := l) (t := t) h
      simp only [nextP] at h1 h2 h3 h4
      refine ⟨h1, h2, ?_, fun x hx hax => ?_⟩
      · rcases h3 with h3 | h3
        · exact .inl h3
        · exact .inr (List.mem_cons_of_mem _ h3)
      · rcases List.mem_cons.1 hx with rfl | hx
        · have : ¬ (x > a ∧ x < t) := hc
          omega
        · exact h4 x hx hax

/-- The first part, and those behind it. -/
theorem partsG_next {t : Int} (l : List Int) : ∀ {ds : List Int} {a : Int}, a < t → ds.Pairwise (· ≤ ·) → (∀ x, a < x → x < t → (x ∈ l ↔ x ∈ ds)) →
    partsG t a ds = (a, nextP a t l) :: if nextP a t l < t then partsG t (nextP a t l) ds else []
  | [], a, h, _, hm => by
    obtain ⟨h1, h2, h3, h4⟩ := nextP_spec (l := l) h
    have : nextP a t l = t := by
      rcases h3 with h3 | h3
      · exact h3
      · rcases Int.lt_or_eq_of_le h2 with h5 | h5
        · exact absurd ((hm _ h1 h5).1 h3) (by simp)
        · exact h5
    rw [this]
    simp [partsG]
  | d :: ds, a, h, hs, hm => by
    obtain ⟨h1, h2, h3, h4⟩ := nextP_spec (l := l) h
    rw [List.pairwise_cons] at hs
    rw [partsG]
    split
    · rename_i hc
      have hd : d ∈ l := (hm d hc.1 hc.2).2 (by simp)
      have h5 := h4 d hd hc.1
      have hn : nextP a t l = d := by
        rcases h3 with h3 | h3
        · omega
        · have := (hm _ h1 (by omega)).1 h3
          rcases List.mem_cons.1 this with h6 | h6
          · exact h6
          · have := hs.1 _ h6; omega
      rw [hn, if_pos hc.2]
      congr 1
      rw [partsG, if_neg (by omega)]
    · rename_i hc
      have hm' : ∀ x, a < x → x < t → (x ∈ l ↔ x ∈ ds) := fun x hx1 hx2 => by
        rw [hm x hx1 hx2, List.mem_cons]
        exact ⟨fun h => h.resolve_left (by omega), .inr⟩
      rw [partsG_next l h hs.2 hm']
      congr 1
      split
      · rw [partsG, if_neg (by omega)]
      · rfl

theorem partsG_has {t : Int} (ht : t ≤ 292195) : ∀ {ds : List Int} {a : Int}, 1 ≤ a → a < t → ∀ p, p ∈ partsG t a ds → has p.1 p.2 = true
  | [], a, h1, h2, p, hp => by simp [partsG] at hp; subst hp; rw [has_iff]; exact ⟨h1, h2, ht⟩
  | d :: ds, a, h1, h2, p, hp => by
    rw [partsG] at hp
    split at hp
    · rcases List.mem_cons.1 hp with rfl | hp
      · rw [has_iff]; simp only; omega
      · exact partsG_has ht (by omega) (by omega) p hp
    · exact partsG_has ht h1 h2 p hp
theorem partsG_in {t : Int} : ∀ {ds : List Int} {a : Int}, a < t → ∀ x, inL (partsG t a ds) x ↔ a ≤ x ∧ x < t
  | [], a, h, x => by
    rw [partsG, inL_cons]
    have := inL_nil (d := x)
    simp [this]
  | d :: ds, a, h, x => by
    rw [partsG]
    split
    · rename_i hc
      rw [inL_cons, partsG_in hc.2]
      simp only
      omega
    · exact partsG_in h x
def sumM (l : Sps) : Int := (l.map fun p => many p.1 p.2).sum
theorem partsG_sum {t : Int} (ht : t ≤ 292195) : ∀ {ds : List Int} {a : Int}, 1 ≤ a → a < t → sumM (partsG t a ds) = t - a
  | [], a, h1, h2 => by
    have : has a t = true := by rw [has_iff]; omega
    simp [sumM, partsG, many, this]
  | d :: ds, a, h1, h2 => by
    rw [partsG]
    split
    · rename_i hc
      have h := partsG_sum ht (ds := ds) (a := d) (by omega) hc.2
      have : has a d = true := by rw [has_iff]; omega
      simp only [sumM, List.map_cons, List.sum_cons, many, this, if_true] at h ⊢
      omega
    · exact partsG_sum ht h1 h2
/-- What a span is cut into. -/
def partsL (s : Int × Int) (l : List Int) : Sps := if has s.1 s.2 = true then partsG s.2 s.1 (l.mergeSort fun x y => decide (x ≤ y)) else []
theorem partsL_join (s : Int × Int) (l : List Int) : joinL (partsL s l) = joinL [s] := by
  refine joinL_eq fun d => ?_
  unfold partsL
  split
  · rename_i h
    have h2 := has_iff.1 h
    rw [hasL_all (partsG_has h2.2.2 h2.1 h2.2.1), partsG_in h2.2.1, hasL_all (by simpa using h), inL_cons]
    have := inL_nil (d := d)
    simp [this]
  · rename_i h
    have : hasL [s] = [] := by simp [hasL, h]
    rw [this]
    rfl
theorem partsL_sum (s : Int × Int) (l : List Int) : sumM (partsL s l) = many s.1 s.2 := by
  unfold partsL many
  split
  · rename_i h
    have h2 := has_iff.1 h
    rw [partsG_sum h2.2.2 h2.1 h2.2.1]
  · rfl
/-- Days that are twice there, one behind the other, make no other parts. -/
theorem partsG_mem {t : Int} {l ds es : List Int} {a : Int} (h : a < t) (h1 : ds.Pairwise (· ≤ ·)) (h2 : es.Pairwise (· ≤ ·)) (hm : ∀ x, x ∈ ds ↔ x ∈ es) : partsG t a ds = partsG t a es := by
  generalize hn : (t - a).toNat = n
  induction n using Nat.strongRecOn generalizing a with
  | ind n ih =>
    rw [partsG_next ds h h1 (fun _ _ _ => Iff.rfl), partsG_next ds h h2 (fun x _ _ => hm x)]
    obtain ⟨k1, k2, -, -⟩ := nextP_spec (l := ds) h
    congr 1
    split
    · rename_i hc
      exact ih (t - nextP a t ds).toNat (by omega) hc rfl
    · rfl
end Go.Proofs.YtkonljmmdifnaaaGreat.V
set_option linter.unusedSimpArgs false
set_option linter.unusedVariables false
namespace Go.Proofs.YtkonljmmdifnaaaGreat.V
set_option maxRecDepth 100000

theorem chO_eq (h : History) : chO h (orderL h) = isort ltD h.changes := by
  have e : chO h (orderL h) = ((orderL h).map fun x => h.changes[x.toNat]?).filterMap id := by rw [chO, List.filterMap_map]; rfl
  rw [e, orderL_map, List.filterMap_map]
  simp
/-- What is known on a day. -/
def knownH (h : History) (b : Int) : History := ⟨h.id, h.booked, h.terms, h.changes.filter fun c => decide (c.booked ≤ b)⟩
/-- What holds on a day. -/
def fAt (h : History) (d : Int) : St := stAt (initSt h.terms) (isort ltD h.changes) d
theorem fAt_eq (h : History) (d : Int) : fAt h d = (isort ltD (h.changes.filter fun c => decide (c.day ≤ d))).foldl doSt (initSt h.terms) := by
  rw [fAt, stAt, isort_filter sw_ltD]
/-- Nothing that was booked between counts by then. -/
theorem fAt_same {h : History} {a b d : Int} (hab : a ≤ b) (hn : ∀ c, c ∈ h.changes → a < c.booked → c.booked ≤ b → d < c.day) : fAt (knownH h a) d = fAt (knownH h b) d := by
  rw [fAt_eq, fAt_eq]
  have e : (knownH h a).changes.filter (fun c => decide (c.day ≤ d)) = (knownH h b).changes.filter fun c => decide (c.day ≤ d) := by
    simp only [knownH, List.filter_filter]
    refine List.filter_congr fun c hc => ?_
    have := hn c hc
    rw [Bool.eq_iff_iff]
    simp only [Bool.and_eq_true, decide_eq_true_eq]
    omega
  rw [e]; rfl

theorem spanIn_iff {a b d : Int} : spanIn a b d = true ↔ has a b = true ∧ a ≤ d ∧ d < b := by
  rw [has_iff]
  simp only [spanIn, keptFrom, keptTo, spanRight, Bool.and_eq_true, decide_eq_true_eq, Bool.not_eq_true', decide_eq_false_iff_not]
  split <;> omega
theorem right_span {t : Terms} (h : t.right = true) : has t.from_ t.to_ = true := by
  simp only [Terms.right, Bool.and_eq_true, manyRight, spanMany, keptFrom, keptTo, spanRight, decide_eq_true_eq, Bool.not_eq_true', decide_eq_false_iff_not] at h
  rw [has_iff]
  obtain ⟨⟨⟨h1, h2, h3⟩, h4⟩, h5⟩ := h
  split at h2 <;> omega
theorem histR_iff {h : History} : histR h = true ↔ h.terms.right = true ∧ (h.changes.length : Int) ≤ 2000 ∧ ∀ c, c ∈ h.changes → c.right = true ∧ spanIn h.terms.from_ h.terms.to_ c.day = true := by
  simp only [histR, Bool.and_eq_true, decide_eq_true_eq, List.all_eq_true, inDay, and_assoc]

theorem cutH_srt (h : History) : (isort ltD h.changes).Pairwise fun c d => c.day ≤ d.day :=
  (isort_srt sw_ltD h.changes).imp fun hl => by simpa [ltD] using hl
theorem cutH_in {h : History} (hr : histR h = true) : ∀ c, c ∈ isort ltD h.changes → h.terms.from_ ≤ c.day ∧ c.day < h.terms.to_ := fun c hc => by
  have := (spanIn_iff.1 ((histR_iff.1 hr).2.2 c (isort_mem.1 hc)).2).2
  exact this
theorem cutH_parted {h : History} (hr : histR h = true) : Parted (fAt h) h.terms.from_ h.terms.to_ (cutH h) := by
  have hs := has_iff.1 (right_span (histR_iff.1 hr).1)
  rw [cutH, chO_eq]
  exact cut_parted hs.2.1 (cutH_srt h) (cutH_in hr)
theorem cutH_ref {h : History} (hr : histR h = true) : cutH h = refG (fAt h) [] h.terms.from_ (fAt h h.terms.from_) ((isort ltD h.changes).map Change.day) h.terms.to_ := by
  have hs := has_iff.1 (right_span (histR_iff.1 hr).1)
  rw [cutH, chO_eq]
  exact cut_ref hs.2.1 (cutH_srt h) (cutH_in hr)
theorem cutH_ne {h : History} (hr : histR h = true) : cutH h ≠ [] := by
  intro e
  have hs := has_iff.1 (right_span (histR_iff.1 hr).1)
  have := cutH_parted hr
  rw [e] at this
  have : h.terms.from_ = h.terms.to_ := this
  omega

/-! ### Slices by days -/

theorem parted_mem {f : Int → St} : ∀ {L : List Sl} {a b : Int}, Parted f a b L → ∀ s, s ∈ L → a ≤ s.from_ ∧ s.from_ < s.to_ ∧ s.to_ ≤ b ∧ s.yearly = 0 ∧ ∀ d, s.from_ ≤ d → d < s.to_ → f d = s.st
  | [], _, _, _, s, hs => by simp at hs
  | u :: L, a, b, h, s, hs => by
    obtain ⟨h1, h3, h4, h5, h6, h7⟩ := h
    have hle := parted_le h6
    rcases List.mem_cons.1 hs with rfl | hs
    · exact ⟨by omega, by omega, hle, h4, fun d hd => h5 d (by omega)⟩
    · obtain ⟨g1, g2, g3, g4, g5⟩ := parted_mem h6 s hs
      exact ⟨by omega, g2, g3, g4, g5⟩
theorem parted_some {f : Int → St} : ∀ {L : List Sl} {a b d : Int}, Parted f a b L → 1 ≤ a → b ≤ 292195 → a ≤ d → d < b → ∃ s, s ∈ L ∧ slAt L d = some s ∧ s.from_ ≤ d ∧ d < s.to_
  | [], a, b, d, h, _, _, h1, h2 => by have : a = b := h; omega
  | u :: L, a, b, d, h, ha, hb, h1, h2 => by
    obtain ⟨g1, g3, g4, g5, g6, g7⟩ := h
    have hle := parted_le g6
    by_cases hd : d < u.to_
    · refine ⟨u, by simp, ?_, by omega, hd⟩
      rw [slAt, List.find?_cons, spanIn_iff.2 ⟨has_iff.2 ⟨by omega, by omega, by omega⟩, by omega, hd⟩]
    · obtain ⟨s, k1, k2, k3, k4⟩ := parted_some g6 (by omega) hb (by omega) h2
      refine ⟨s, by simp [k1], ?_, k3, k4⟩
      have : spanIn u.from_ u.to_ d = false := by rw [Bool.eq_false_iff, Ne, spanIn_iff]; omega
      rw [slAt, List.find?_cons, this]
      exact k2
theorem parted_none {f : Int → St} {L : List Sl} {a b d : Int} (h : Parted f a b L) (hd : ¬ (a ≤ d ∧ d < b)) : slAt L d = none := by
  rw [slAt, List.find?_eq_none]
  intro s hs
  have := parted_mem h s hs
  rw [spanIn_iff]
  omega
theorem parted_const {f : Int → St} : ∀ {L : List Sl} {a b p d : Int}, Parted f a b L → a ≤ p → p ≤ d → d < b → (∀ s, s ∈ L → ¬ (p < s.from_ ∧ s.from_ ≤ d)) → f d = f p
  | [], a, b, p, d, h, h1, h2, h3, _ => by have : a = b := h; omega
  | u :: L, a, b, p, d, h, h1, h2, h3, hn => by
    obtain ⟨g1, g3, g4, g5, g6, g7⟩ := h
    by_cases hp : p < u.to_
    · by_cases hd : d < u.to_
      · rw [g5 d (by omega) hd, g5 p h1 hp]
      · exfalso
        rcases L with _ | ⟨v, L⟩
        · have : u.to_ = b := g6; omega
        · have := g6.1
          exact hn v (by simp) (by omega)
    · exact parted_const g6 (by omega) h2 h3 fun s hs => hn s (by simp [hs])

/-- What one holding costs a year. -/
def prY (v : Version) (s : St) : Int := if s.on = true then (yearP v s.rk s.rv s.ra s.rz s.covers).1 else 0
def errY (v : Version) (s : St) : Int := if s.on = true then (yearP v s.rk s.rv s.ra s.rz s.covers).2 else 0
def setY (v : Version) (s : Sl) : Sl := ⟨s.from_, s.to_, s.st, prY v s.st⟩
/-- The first error. -/
def yearsE (v : Version) : List Sl → Int
  | [] => 0
  | s :: l => if errY v s.st = 0 then yearsE v l else errY v s.st
/-- A policy's slices, or why there are none. -/
def ofE (h : History) (vs : List Version) : Int := if histR h = true then (match verAt vs h.terms.from_ with | some v => yearsE v (cutH h) | none => 7) else 1
def ofS (h : History) (vs : List Version) : List Sl := if ofE h vs = 0 then (match verAt vs h.terms.from_ with | some v => (cutH h).map (setY v) | none => []) else []
theorem ofE_ok {h : History} {vs : List Version} (he : ofE h vs = 0) : histR h = true ∧ ∃ v, verAt vs h.terms.from_ = some v ∧ ofS h vs = (cutH h).map (setY v) := by
  have h0 := he
  unfold ofE at he
  split at he
  · rename_i hr
    split at he
    · rename_i v hv
      exact ⟨hr, v, hv, by rw [ofS, if_pos h0, hv]⟩
    · exact absurd he (by decide)
  · exact absurd he (by decide)
theorem ofS_no {h : History} {vs : List Version} (he : ofE h vs ≠ 0) : ofS h vs = [] := by rw [ofS, if_neg he]

theorem slAt_setY (v : Version) (L : List Sl) (d : Int) : slAt (L.map (setY v)) d = (slAt L d).map (setY v) := by
  rw [slAt, List.find?_map]; rfl
/-- A slice without its span; none: the zero slice. -/
def zSl (s : Sl) : Sl := ⟨0, 0, s.st, s.yearly⟩
def zO : Option Sl → Sl
  | some s => zSl s
  | none => ⟨0, 0, ⟨false, 0, 0, 0, 0, []⟩, 0⟩
def likeS (X Y : List Sl) (d : Int) : Bool := decide (zO (slAt X d) = zO (slAt Y d))
def alikeS (X Y : List Sl) (d : Int) : Bool := decide ((slAt X d).isSome = (slAt Y d).isSome) && decide (zO (slAt X d) = zO (slAt Y d))

theorem ofS_at {h : History} {vs : List Version} (he : ofE h vs = 0) {v : Version} (hv : verAt vs h.terms.from_ = some v) {d : Int} (h1 : h.terms.from_ ≤ d) (h2 : d < h.terms.to_) : (slAt (ofS h vs) d).isSome = true ∧ zO (slAt (ofS h vs) d) = ⟨0, 0, fAt h d, prY v (fAt h d)⟩ := by
  obtain ⟨hr, v', hv', hs⟩ := ofE_ok he
  rw [hv] at hv'
  cases hv'
  have hsp := has_iff.1 (right_span (histR_iff.1 hr).1)
  obtain ⟨s, k1, k2, k3, k4⟩ := parted_some (cutH_parted hr) hsp.1 hsp.2.2 h1 h2
  have k5 := (parted_mem (cutH_parted hr) s k1).2.2.2.2 d k3 k4
  rw [hs, slAt_setY, k2]
  refine ⟨rfl, ?_⟩
  rw [k5]; rfl
theorem ofS_out {h : History} {vs : List Version} {d : Int} (hd : ¬ (h.terms.from_ ≤ d ∧ d < h.terms.to_)) : slAt (ofS h vs) d = none := by
  by_cases he : ofE h vs = 0
  · obtain ⟨hr, v, hv, hs⟩ := ofE_ok he
    rw [hs, slAt_setY, parted_none (cutH_parted hr) hd]; rfl
  · rw [ofS_no he]; rfl

/-! ### Where another thing holds: of two histories of the same terms -/

section
variable {g k : History} {vs : List Version}
def unlike (g k : History) (d : Int) : Prop := (g.terms.from_ ≤ d ∧ d < g.terms.to_) ∧ fAt g d ≠ fAt k d

theorem like_iff (ht : g.terms = k.terms) (hg : ofE g vs = 0) (hk : ofE k vs = 0) {d : Int} (hd : g.terms.from_ ≤ d ∧ d < g.terms.to_) : likeS (ofS g vs) (ofS k vs) d = true ↔ fAt g d = fAt k d := by
  obtain ⟨hr, v, hv, hs⟩ := ofE_ok hg
  have a1 := ofS_at hg hv hd.1 hd.2
  have a2 := ofS_at hk (by rw [← ht]; exact hv) (by rw [← ht]; exact hd.1) (by rw [← ht]; exact hd.2)
  rw [likeS, a1.2, a2.2, decide_eq_true_eq]
  constructor
  · intro e; injection e
  · intro e; rw [e]
theorem alike_like (ht : g.terms = k.terms) (hg : ofE g vs = 0) (hk : ofE k vs = 0) (d : Int) : alikeS (ofS g vs) (ofS k vs) d = likeS (ofS g vs) (ofS k vs) d := by
  unfold alikeS likeS
  by_cases hd : g.terms.from_ ≤ d ∧ d < g.terms.to_
  · obtain ⟨hr, v, hv, hs⟩ := ofE_ok hg
    have a1 := ofS_at hg hv hd.1 hd.2
    have a2 := ofS_at hk (by rw [← ht]; exact hv) (by rw [← ht]; exact hd.1) (by rw [← ht]; exact hd.2)
    rw [a1.1, a2.1]; simp
  · rw [ofS_out hd, ofS_out (by rw [← ht]; exact hd)]; simp
theorem alike_iff (ht : g.terms = k.terms) (hg : ofE g vs = 0) (hk : ofE k vs = 0) (d : Int) : alikeS (ofS g vs) (ofS k vs) d = false ↔ unlike g k d := by
  rw [alike_like ht hg hk]
  by_cases hd : g.terms.from_ ≤ d ∧ d < g.terms.to_
  · rw [← Bool.not_eq_true, like_iff ht hg hk hd]
    exact ⟨fun h => ⟨hd, h⟩, fun h => h.2⟩
  · have : likeS (ofS g vs) (ofS k vs) d = true := by unfold likeS; rw [ofS_out hd, ofS_out (by rw [← ht]; exact hd)]; simp
    rw [this]
    exact ⟨fun h => by simp at h, fun h => absurd h.1 hd⟩

/-- The program's way: by all days on which slices begin. -/
def outP (s : Int × Int) (X Y : List Sl) : Sps := (partsL s ((X ++ Y).map Sl.from_)).filter fun p => !likeS X Y p.1
/-- The reference's: by pairs of slices. -/
def cutS (x y : Sl) : Int × Int := (cA x.from_ x.to_ y.from_ y.to_, cB x.from_ x.to_ y.from_ y.to_)
def pairR (X Y : List Sl) (x y : Sl) : Sps := if 0 < many (cutS x y).1 (cutS x y).2 ∧ alikeS X Y (cutS x y).1 = false then [cutS x y] else []
def outR (X Y : List Sl) : Sps := X.flatMap fun x => Y.flatMap fun y => pairR X Y x y

theorem ms_srt (l : List Int) : (l.mergeSort fun x y => decide (x ≤ y)).Pairwise fun p q => p ≤ q := by
  have := List.pairwise_mergeSort (le := fun x y : Int => decide (x ≤ y)) (fun a b c h1 h2 => by simp at h1 h2 ⊢; omega) (fun a b => by simp; omega) l
  exact this.imp fun h => by simpa using h
theorem partsG_bd {t : Int} : ∀ {ds : List Int} {a : Int}, a < t → ∀ p, p ∈ partsG t a ds → a ≤ p.1 ∧ p.1 < p.2 ∧ p.2 ≤ t
  | [], a, h, p, hp => by simp [partsG] at hp; subst hp; exact ⟨Int.le_refl _, h, Int.le_refl _⟩
  | d :: ds, a, h, p, hp => by
    rw [partsG] at hp
    split at hp
    · rename_i hc
      rcases List.mem_cons.1 hp with rfl | hp
      · exact ⟨Int.le_refl _, hc.1, Int.le_of_lt hc.2⟩
      · have := partsG_bd hc.2 p hp; omega
    · exact partsG_bd h p hp
theorem partsG_no {t : Int} : ∀ {ds : List Int} {a : Int}, a < t → ds.Pairwise (· ≤ ·) → ∀ p, p ∈ partsG t a ds → ∀ x, x ∈ ds → ¬ (p.1 < x ∧ x < p.2)
  | [], a, h, _, p, hp, x, hx => by simp at hx
  | d :: ds, a, h, hs, p, hp, x, hx => by
    rw [List.pairwise_cons] at hs
    rw [partsG] at hp
    split at hp
    · rename_i hc
      rcases List.mem_cons.1 hp with rfl | hp
      · rcases List.mem_cons.1 hx with rfl | hx
        · simp only; omega
        · have := hs.1 x hx; simp only; omega
      · have := partsG_bd hc.2 p hp
        rcases List.mem_cons.1 hx with rfl | hx
        · omega
        · exact partsG_no hc.2 hs.2 p hp x hx
    · have := partsG_bd h p hp
      rcases List.mem_cons.1 hx with rfl | hx
      · omega
      · exact partsG_no h hs.2 p hp x hx

theorem outP_in (ht : g.terms = k.terms) (hg : ofE g vs = 0) (hk : ofE k vs = 0) (d : Int) : inL (hasL (outP (g.terms.from_, g.terms.to_) (ofS g vs) (ofS k vs))) d ↔ unlike g k d := by
  obtain ⟨hr, v, hv, hs⟩ := ofE_ok hg
  obtain ⟨hr2, v2, hv2, hs2⟩ := ofE_ok hk
  have hsp := right_span (histR_iff.1 hr).1
  have hs3 := has_iff.1 hsp
  have e : partsL (g.terms.from_, g.terms.to_) ((ofS g vs ++ ofS k vs).map Sl.from_) = partsG g.terms.to_ g.terms.from_ (((ofS g vs ++ ofS k vs).map Sl.from_).mergeSort fun x y => decide (x ≤ y)) := if_pos hsp
  have hsame : ∀ p, p ∈ partsL (g.terms.from_, g.terms.to_) ((ofS g vs ++ ofS k vs).map Sl.from_) → (g.terms.from_ ≤ p.1 ∧ p.2 ≤ g.terms.to_) ∧ has p.1 p.2 = true ∧ ∀ x, p.1 ≤ x → x < p.2 → fAt g x = fAt g p.1 ∧ fAt k x = fAt k p.1 := by
    intro p hp
    rw [e] at hp
    have b := partsG_bd hs3.2.1 p hp
    have nn := partsG_no hs3.2.1 (ms_srt _) p hp
    refine ⟨⟨b.1, b.2.2⟩, has_iff.2 ⟨by omega, b.2.1, by omega⟩, fun x hx1 hx2 => ⟨?_, ?_⟩⟩
    · refine parted_const (cutH_parted hr) b.1 hx1 (by omega) fun s hq hc => nn s.from_ ?_ (by omega)
      rw [List.mem_mergeSort, List.mem_map]
      exact ⟨setY v s, by rw [hs]; exact List.mem_append_left _ (List.mem_map.2 ⟨s, hq, rfl⟩), rfl⟩
    · refine parted_const (cutH_parted hr2) (by rw [← ht]; exact b.1) hx1 (by rw [← ht]; omega) fun s hq hc => nn s.from_ ?_ (by omega)
      rw [List.mem_mergeSort, List.mem_map]
      exact ⟨setY v2 s, by rw [hs2]; exact List.mem_append_right _ (List.mem_map.2 ⟨s, hq, rfl⟩), rfl⟩
  have hin := partsL_join (g.terms.from_, g.terms.to_) ((ofS g vs ++ ofS k vs).map Sl.from_)
  constructor
  · rintro ⟨p, hp, h1, h2⟩
    have hp := (hasL_mem.1 hp).1
    rw [outP, List.mem_filter] at hp
    obtain ⟨⟨b1, b2⟩, b3, b4⟩ := hsame p hp.1
    have b5 := has_iff.1 b3
    have hl : ¬ (likeS (ofS g vs) (ofS k vs) p.1 = true) := by have := hp.2; simpa using this
    rw [like_iff ht hg hk ⟨b1, by omega⟩] at hl
    refine ⟨⟨by omega, by omega⟩, ?_⟩
    rw [(b4 d h1 h2).1, (b4 d h1 h2).2]
    exact hl
  · rintro ⟨hd, hne⟩
    have : inL (partsL (g.terms.from_, g.terms.to_) ((ofS g vs ++ ofS k vs).map Sl.from_)) d := by rw [e, partsG_in hs3.2.1]; exact hd
    obtain ⟨p, hp, h1, h2⟩ := this
    obtain ⟨⟨b1, b2⟩, b3, b4⟩ := hsame p hp
    have b5 := has_iff.1 b3
    refine ⟨p, hasL_mem.2 ⟨?_, b3⟩, h1, h2⟩
    rw [outP, List.mem_filter]
    refine ⟨hp, ?_⟩
    rw [Bool.not_eq_true', ← Bool.not_eq_true, like_iff ht hg hk ⟨b1, by omega⟩, ← (b4 d h1 h2).1, ← (b4 d h1 h2).2]
    exact hne
theorem cut_has {x y : Sl} (h : 0 < many (cutS x y).1 (cutS x y).2) : has x.from_ x.to_ = true ∧ has y.from_ y.to_ = true ∧ cutS x y = (max x.from_ y.from_, min x.to_ y.to_) ∧ has (cutS x y).1 (cutS x y).2 = true := by
  have hh : has (cutS x y).1 (cutS x y).2 = true := by
    cases hb : has (cutS x y).1 (cutS x y).2
    · unfold many at h; rw [hb] at h; simp at h
    · rfl
  refine ⟨?_, ?_, ?_, hh⟩ <;>
  · simp only [cutS, cA, cB] at hh ⊢
    split at hh
    · rename_i hc
      simp only [Bool.and_eq_true] at hc
      simp [hc]
    · exact absurd hh (by decide)
theorem outR_in (ht : g.terms = k.terms) (hg : ofE g vs = 0) (hk : ofE k vs = 0) (d : Int) : inL (hasL (outR (ofS g vs) (ofS k vs))) d ↔ unlike g k d := by
  obtain ⟨hr, v, hv, hs⟩ := ofE_ok hg
  obtain ⟨hr2, v2, hv2, hs2⟩ := ofE_ok hk
  have hsp := has_iff.1 (right_span (histR_iff.1 hr).1)
  have m1 : ∀ x, x ∈ ofS g vs → (g.terms.from_ ≤ x.from_ ∧ x.to_ ≤ g.terms.to_) ∧ ∀ q, x.from_ ≤ q → q < x.to_ → fAt g q = x.st := fun x hx => by
    rw [hs] at hx
    obtain ⟨s, hq, rfl⟩ := List.mem_map.1 hx
    obtain ⟨q1, q2, q3, q4, q5⟩ := parted_mem (cutH_parted hr) s hq
    exact ⟨⟨q1, q3⟩, q5⟩
  have m2 : ∀ x, x ∈ ofS k vs → ∀ q, x.from_ ≤ q → q < x.to_ → fAt k q = x.st := fun x hx => by
    rw [hs2] at hx
    obtain ⟨s, hq, rfl⟩ := List.mem_map.1 hx
    exact (parted_mem (cutH_parted hr2) s hq).2.2.2.2
  constructor
  · rintro ⟨p, hp, h1, h2⟩
    have hp := (hasL_mem.1 hp).1
    rw [outR, List.mem_flatMap] at hp
    obtain ⟨x, hx, hp⟩ := hp
    rw [List.mem_flatMap] at hp
    obtain ⟨y, hy, hp⟩ := hp
    rw [pairR] at hp
    split at hp
    · rename_i hc
      simp at hp
      obtain ⟨-, -, c3, c4⟩ := cut_has hc.1
      have h3 := (alike_iff ht hg hk _).1 hc.2
      rw [← hp] at h3 c3
      subst c3
      obtain ⟨⟨b1, b2⟩, b3⟩ := m1 x hx
      have b4 := m2 y hy
      simp only at h1 h2 h3
      refine ⟨⟨by omega, by omega⟩, ?_⟩
      have h4 := h3.2
      rw [b3 d (by omega) (by omega), b4 d (by omega) (by omega)]
      rwa [b3 _ (by omega) (by omega), b4 _ (by omega) (by omega)] at h4
    · simp at hp
  · rintro ⟨hd, hne⟩
    obtain ⟨s, k1, -, k3, k4⟩ := parted_some (cutH_parted hr) hsp.1 hsp.2.2 hd.1 hd.2
    obtain ⟨u, l1, -, l3, l4⟩ := parted_some (cutH_parted hr2) (by rw [← ht]; exact hsp.1) (by rw [← ht]; exact hsp.2.2) (by rw [← ht]; exact hd.1) (by rw [← ht]; exact hd.2)
    have sx : setY v s ∈ ofS g vs := by rw [hs]; exact List.mem_map.2 ⟨s, k1, rfl⟩
    have uy : setY v2 u ∈ ofS k vs := by rw [hs2]; exact List.mem_map.2 ⟨u, l1, rfl⟩
    have p1 := parted_mem (cutH_parted hr) s k1
    have p2 := parted_mem (cutH_parted hr2) u l1
    rw [← ht] at p2
    have c3 : cutS (setY v s) (setY v2 u) = (max s.from_ u.from_, min s.to_ u.to_) := by
      have q1 : has s.from_ s.to_ = true := has_iff.2 (by omega)
      have q2 : has u.from_ u.to_ = true := has_iff.2 (by omega)
      have q3 : has (max s.from_ u.from_) (min s.to_ u.to_) = true := has_iff.2 (by omega)
      simp [cutS, cA, cB, setY, q1, q2, q3]
    have hh : has (max s.from_ u.from_) (min s.to_ u.to_) = true := has_iff.2 (by omega)
    refine ⟨cutS (setY v s) (setY v2 u), hasL_mem.2 ⟨?_, by rw [c3]; exact hh⟩, by rw [c3]; simp only; omega, by rw [c3]; simp only; omega⟩
    rw [outR, List.mem_flatMap]
    refine ⟨_, sx, ?_⟩
    rw [List.mem_flatMap]
    refine ⟨_, uy, ?_⟩
    rw [pairR, if_pos]
    · simp
    · have hl := (alike_iff ht hg hk (max s.from_ u.from_)).2 ⟨by omega, by
        rw [(m1 _ sx).2 (max s.from_ u.from_) (show s.from_ ≤ _ by omega) (show _ < s.to_ by omega), m2 _ uy (max s.from_ u.from_) (show u.from_ ≤ _ by omega) (show _ < u.to_ by omega)]
        rw [(m1 _ sx).2 d k3 k4, m2 _ uy d l3 l4] at hne
        exact hne⟩
      rw [c3]
      refine ⟨?_, hl⟩
      simp only [many, hh, if_true]
      omega
/-- Both ways are one. -/
theorem out_one (ht : g.terms = k.terms) (hg : ofE g vs = 0) (hk : ofE k vs = 0) : joinL (outP (g.terms.from_, g.terms.to_) (ofS g vs) (ofS k vs)) = joinL (outR (ofS g vs) (ofS k vs)) :=
  joinL_eq fun d => (outP_in ht hg hk d).trans (outR_in ht hg hk d).symm
theorem moved_in (ht : g.terms = k.terms) (hg : ofE g vs = 0) (hk : ofE k vs = 0) (d : Int) : inL (joinL (outR (ofS g vs) (ofS k vs))) d ↔ unlike g k d := ((joinL_ok _).2.2 d).trans (outR_in ht hg hk d)
end
end Go.Proofs.YtkonljmmdifnaaaGreat.V
set_option linter.unusedSimpArgs false
set_option linter.unusedVariables false
namespace Go.Proofs.YtkonljmmdifnaaaGreat.V
open Go.RowKit Go.Shelf
attribute [local go_sem] Oper.semAt_some
set_option maxRecDepth 100000

theorem neqSpan (x0 x1 y0 y1 : Int) (w : World) :
    (binOp .neq 23 (.agg #[.int .i64 x0, .int .i64 x1]) (.agg #[.int .i64 y0, .int .i64 y1])).run Tryz.prog w = .ok (.bool (!decide (x0 = y0 ∧ x1 = y1))) w := by
  have hS : Tryz.prog.underlying 23 = some (.struct (Tryz.prog.fieldsOf 23)) := by kernel_rfl
  have hp : Tryz.prog.stoodInHeld 23 = false := by kernel_rfl
  rw [run_neq_struct, show (10000 : Nat) = 9999 + 1 from rfl, run_equalIn_agg w 9999 23 _ _ hS hp]
  simp only [Program.fieldsOf, Tryz.underlying23]
  go_simp
  by_cases h0 : x0 = y0 <;> by_cases h1 : x1 = y1 <;> simp [h0, h1]

theorem yieldS_any {m m' : Nat} {l : Nat} {args : Array Value} {W : World} {R : Ending → World → Prop} (h : YieldAt (fen none) m Tryz.prog l args W R) : YieldAt (fen none) m' Tryz.prog l args W R := by
  obtain ⟨fn, tmps, assign, body, hy, hR⟩ := h
  exact ⟨fn, tmps, assign, body, hy, round_any hR⟩

theorem repS_int {M : Nat → Prop} {W : World} {u : Value} {n : Int} (h : RepD M W u (int n)) : u = .int .i64 n := by cases h; rfl

theorem pp_one {M : Nat → Prop} {W : World} {u : Value} {x : AV} (h : RepD M W u (.pp [x])) : ∃ (g o : Nat) (X : Value), u = .pointer (some ⟨g, o, none⟩) ∧ ¬ M g ∧ g < W.heap.size ∧ W.cell? ⟨g, o, none⟩ = some X ∧ RepD M W X x := by
  cases h with
  | pp z hM hg hl hx => exact ⟨_, _, z 0, rfl, hM, hg, (hl 0 (by simp)).1, hx 0 x rfl⟩

theorem prs_cells {M : Nat → Prop} {W : World} {u : Value} {a : List (Int × Int)} (h : RepD M W u (prs a)) : ∃ (A : Option Addr) (cap : Nat), u = .slice A a.length cap ∧ (a ≠ [] → ∃ b o : Nat, A = some ⟨b, o, none⟩ ∧ ¬ M b ∧ b < W.heap.size ∧
    ∀ (i : Nat) (x : Int × Int), a[i]? = some x → W.cell? ⟨b, o + i * 2, none⟩ = some (.int .i64 x.1) ∧ W.cell? ⟨b, o + i * 2 + 1, none⟩ = some (.int .i64 x.2)) := by
  cases h with
  | sl b o z hn hc hm hf hk hA hl hx =>
    refine ⟨_, _, by rw [hn, List.length_map], fun hne => ?_⟩
    obtain ⟨h1, h2, h3⟩ := hA (by simpa using hne)
    refine ⟨b, o, h1, h2, h3, fun i x hi => ?_⟩
    have hil : i < (a.map prow).length := by have := (List.getElem?_eq_some_iff.1 hi).1; simpa using this
    obtain ⟨c1, -⟩ := hl i 0 hil (by omega)
    obtain ⟨c2, -⟩ := hl i 1 hil (by omega)
    have d1 := repS_int (hx i (prow x) 0 (int x.1) (by simp [hi]) rfl)
    have d2 := repS_int (hx i (prow x) 1 (int x.2) (by simp [hi]) rfl)
    rw [Nat.add_zero] at c1
    exact ⟨by rw [c1, d1], by rw [c2, d2]⟩

theorem kept_calls (x y : Int) {W : World} : Calls Tryz.prog 39 #[.agg #[.int .i64 x, .int .i64 y]] W fun e w' => e = .returned (.agg #[.int .i64 (kA x y), .int .i64 (kB x y)]) ∧ Below W.heap.size W w' := by
  refine (skept_f x y (fun _ => False) W #[.agg #[.int .i64 x, .int .i64 y]] (fun _ h => h.elim) rfl fun i u z hu hz => ?_).mono ?_
  · rcases i with _ | i
    · simp at hu hz; subst hu hz
      refine .agg rfl fun j p q hp hq => ?_
      rcases j with _ | _ | j
      · simp at hp hq; subst hp hq; exact .v _
      · simp at hp hq; subst hp hq; exact .v _
      · simp at hp
    · simp at hu
  · rintro e w' ⟨u, rfl, hu, hb⟩
    refine ⟨?_, hb⟩
    cases hu with
    | agg hn hi =>
      rename_i vs
      congr 1
      congr 1
      have hn2 : vs.size = 2 := hn
      apply Array.ext
      · simpa using hn2
      · intro j h1 h2
        have h3 : j < 2 := by omega
        rcases j with _ | _ | j
        · exact repS_int (hi 0 vs[0] _ (by simp) rfl)
        · exact repS_int (hi 1 vs[1] _ (by simp) rfl)
        · omega

theorem fenS_round (r : Option Nat) : (fen r).round = r := rfl
theorem fenS_fn (r : Option Nat) (f : FuncId) : (fen r).fn f = True := rfl
theorem fenS_depth (r : Option Nat) : (fen r).depth = none := rfl
attribute [local go_sem] fenS_round fenS_fn fenS_depth

def spanV (p : Int × Int) : Array Value := #[.agg #[.int .i64 p.1, .int .i64 p.2]]
theorem hasL_yes {l : List (Int × Int)} {i : Nat} {p : Int × Int} (h : l[i]? = some p) (hp : has p.1 p.2 = true) : hasL (l.take (i + 1)) = hasL (l.take i) ++ [p] := by
  rw [List.take_add_one, h, hasL, List.filter_append]
  simp [hp, hasL]
theorem hasL_no {l : List (Int × Int)} {i : Nat} {p : Int × Int} (h : l[i]? = some p) (hp : has p.1 p.2 = false) : hasL (l.take (i + 1)) = hasL (l.take i) := by
  rw [List.take_add_one, h, hasL, List.filter_append]
  simp [hp, hasL]
theorem hasL_at {l : List (Int × Int)} {i : Nat} {p : Int × Int} (h : l[i]? = some p) (hp : has p.1 p.2 = true) : (hasL l)[(hasL (l.take i)).length]? = some p := by
  have hi := (List.getElem?_eq_some_iff.1 h).1
  have e : hasL l = hasL (l.take i) ++ (p :: hasL (l.drop (i + 1))) := by
    conv => lhs; rw [← List.take_append_drop i l, hasL, List.filter_append, List.drop_eq_getElem_cons hi]
    have : l[i] = p := (List.getElem?_eq_some_iff.1 h).2
    rw [this, List.filter_cons_of_pos (by simpa using hp)]
    rfl
  rw [e, List.getElem?_append_right (Nat.le_refl _), Nat.sub_self]
  rfl

set_option maxHeartbeats 2000000 in
theorem some_in (n : Nat) (a : List (Int × Int)) (hl : a.length ≤ 100000)
    (l gf of cap : Nat) (A : Option Addr) (J : Nat → World → Prop) (Jx : World → Prop) (W : World)
    (hc : ∀ k wr, J k wr → wr.cell? ⟨gf, of, none⟩ = some (.slice A a.length cap))
    (hJ : ∀ k W1 W2, J k W1 → Below W1.heap.size W1 W2 → J k W2)
    (hA : a ≠ [] → ∃ b o, A = some ⟨b, o, none⟩ ∧ ∀ k wr, J k wr → ∀ (i : Nat) (x : Int × Int), a[i]? = some x → wr.cell? ⟨b, o + i * 2, none⟩ = some (.int .i64 x.1) ∧ wr.cell? ⟨b, o + i * 2 + 1, none⟩ = some (.int .i64 x.2))
    (hY : ∀ k W1 x m, J k W1 → ((hasL a).map spanV)[k]? = some x → YieldAt (fen none) m Tryz.prog l x W1 fun e W' => (e = .returned (.bool true) ∧ J (k + 1) W') ∨ (e = .returned (.bool false) ∧ Jx W')) (h0 : J 0 W) :
    CallsIn (fen none) n Tryz.prog 72 #[.func (.yield l) #[] #[], .pointer (some ⟨gf, of, none⟩)] W fun e W' => (∃ v, e = .returned v) ∧ (J ((hasL a).map spanV).length W' ∨ Jx W') := by
  refine callsIn_of_wp Tryz.func72 rfl trivial ?_ rfl
  simp only [Tryz.ntmps72, List.size_toArray, List.length_cons, List.length_nil, Nat.reduceAdd, Nat.reduceSub, Array.replicate_succ, Array.replicate_zero, List.push_toArray, List.append_toArray, List.nil_append, List.cons_append]
  have c1 := hc 0 W h0
  gi_wp2
  gi_loopw [7] (fun x wr => ∃ (i : Nat), x = .int .i64 i ∧ i ≤ a.length ∧ J (hasL (a.take i)).length wr) (fun x _ => a.length - (intOf x).toNat)
  case atStart =>
    exact ⟨0, rfl, Nat.zero_le _, h0⟩
  case round =>
    obtain ⟨i, rfl, hi, hj⟩ := hrel
    by_cases hi2 : i < a.length
    · obtain ⟨b, o, rfl, hcell⟩ := hA (by intro e; rw [e] at hi2; simp at hi2)
      have hq : a[i]? = some a[i] := List.getElem?_eq_getElem hi2
      obtain ⟨hc1, hc2⟩ := hcell _ wr hj i a[i] hq
      generalize a[i] = p at *
      have hw : IntKind.i64.wrap ((i : Int) + 1) = ((i + 1 : Nat) : Int) := by rw [swrap] <;> omega
      cases hp : has p.1 p.2
      · have kc := fun W => kept_calls p.1 p.2 (W := W)
        rw [(k_no hp).1, (k_no hp).2] at kc
        have hno := hasL_no hq hp
        gi_wp2_with (gi_at_call 39; refine fen_calls.2 ?_; refine (kc _).mono ?_; rintro e w3 ⟨rfl, hb3⟩; have q0 : w3.cell? ⟨wr.heap.size, 0, none⟩ = some (.int .i64 p.1) := (hb3.cell (p := ⟨wr.heap.size, 0, none⟩) (by simp)).trans (by simp); have q1 : w3.cell? ⟨wr.heap.size, 1, none⟩ = some (.int .i64 p.2) := (hb3.cell (p := ⟨wr.heap.size, 1, none⟩) (by simp)).trans (by simp); have f0 : w3.frozen? ⟨wr.heap.size, 0, none⟩ = false := (hb3.frozen (p := ⟨wr.heap.size, 0, none⟩) (by simp)).trans (by simp); have f1 : w3.frozen? ⟨wr.heap.size, 1, none⟩ = false := (hb3.frozen (p := ⟨wr.heap.size, 1, none⟩) (by simp)).trans (by simp); have hj4 : J (hasL (a.take i)).length ((w3.setCell ⟨wr.heap.size, 0, none⟩ (.int .i64 0)).setCell ⟨wr.heap.size, 1, none⟩ (.int .i64 0)) := hJ _ wr _ hj (((((Below.refl wr.heap.size wr).alloc (Nat.le_refl _) _).trans (hb3.mono (by simp))).setCell (Nat.le_refl _) _).setCell (Nat.le_refl _) _))
        all_goals exact ⟨⟨i + 1, by simp, by omega, by rw [hno]; exact hj4⟩, by simp [intOf]; omega⟩
      · have kc := fun W => kept_calls p.1 p.2 (W := W)
        rw [(k_yes hp).1, (k_yes hp).2] at kc
        have hyes := hasL_yes hq hp
        have hk : ((hasL a).map spanV)[(hasL (a.take i)).length]? = some (spanV p) := by rw [List.getElem?_map, hasL_at hq hp]; rfl
        have hz : (p.1 = 0 ∧ p.2 = 0) = False := eq_false (by rw [has_iff] at hp; omega)
        gi_wp2_with (gi_at_call 39; refine fen_calls.2 ?_; refine (kc _).mono ?_; rintro e w3 ⟨rfl, hb3⟩; have q0 : w3.cell? ⟨wr.heap.size, 0, none⟩ = some (.int .i64 p.1) := (hb3.cell (p := ⟨wr.heap.size, 0, none⟩) (by simp)).trans (by simp); have q1 : w3.cell? ⟨wr.heap.size, 1, none⟩ = some (.int .i64 p.2) := (hb3.cell (p := ⟨wr.heap.size, 1, none⟩) (by simp)).trans (by simp); have f0 : w3.frozen? ⟨wr.heap.size, 0, none⟩ = false := (hb3.frozen (p := ⟨wr.heap.size, 0, none⟩) (by simp)).trans (by simp); have f1 : w3.frozen? ⟨wr.heap.size, 1, none⟩ = false := (hb3.frozen (p := ⟨wr.heap.size, 1, none⟩) (by simp)).trans (by simp); have hj4 : J (hasL (a.take i)).length ((w3.setCell ⟨wr.heap.size, 0, none⟩ (.int .i64 p.1)).setCell ⟨wr.heap.size, 1, none⟩ (.int .i64 p.2)) := hJ _ wr _ hj (((((Below.refl wr.heap.size wr).alloc (Nat.le_refl _) _).trans (hb3.mono (by simp))).setCell (Nat.le_refl _) _).setCell (Nat.le_refl _) _); obtain ⟨fn, tmps, assign, body, hy, hR⟩ := hY _ _ _ (n - 1) hj4 hk; dsimp only [spanV] at hy)
        all_goals try (exfalso; rw [has_iff] at hp; omega)
        · refine hR.mono ?_
          rintro e W3 (⟨rfl, hJ3⟩ | ⟨rfl, hJx3⟩)
          · gi_wp2
            exact ⟨⟨i + 1, by simp, by omega, by rw [hyes, List.length_append]; exact hJ3⟩, by simp [intOf]; omega⟩
          · gi_wp2
            refine bodyPost_ret (results_none rfl _ _ _) rfl ?_
            exact ⟨⟨_, rfl⟩, .inr hJx3⟩
    · have hi3 : i = a.length := by omega
      subst hi3
      have Hj := hj
      rw [List.take_length] at Hj
      gi_wp2
      go_end0
      exact ⟨⟨_, rfl⟩, .inl (by rw [List.length_map]; exact Hj)⟩

theorem some_it (a : List (Int × Int)) (hl : a.length ≤ 100000) : Iter Tryz.prog 72 [.pp [prs a]] ((hasL a).map spanV) := by
  intro lb l J Jx W M hlb hM hrep hJ hJx hK hY h0
  obtain ⟨u0, rfl⟩ : ∃ u0, lb = #[u0] := by
    obtain ⟨L⟩ := lb
    rcases L with _ | ⟨u0, _ | ⟨u1, L⟩⟩ <;> simp at hlb
    exact ⟨u0, rfl⟩
  obtain ⟨gf, of, F0, rfl, mf, zf, cf0, rf0⟩ := pp_one (hrep 0 u0 _ rfl rfl)
  obtain ⟨A, cap, rfl, hA⟩ := prs_cells rf0
  have hc : ∀ {k : Nat} {wr : World}, J k wr → ∀ g j, g < W.heap.size → ¬ M g → wr.cell? ⟨g, j, none⟩ = W.cell? ⟨g, j, none⟩ := fun hj g j hg hn => World.cell?_of_block ((hK _ _ hj).2 g hg hn)
  refine some_in 8 a hl l gf of cap A J Jx W (fun k wr hj => (hc hj _ _ zf mf).trans cf0) hJ (fun hne => ?_) (fun k W1 x m hj hx => yieldS_any (hY k W1 x hj hx)) h0
  obtain ⟨b, o, e1, e2, e3, e4⟩ := hA hne
  exact ⟨b, o, e1, fun k wr hj i x hx => ⟨(hc hj _ _ e3 e2).trans (e4 i x hx).1, (hc hj _ _ e3 e2).trans (e4 i x hx).2⟩⟩
end Go.Proofs.YtkonljmmdifnaaaGreat.V
set_option linter.unusedSimpArgs false
set_option linter.unusedVariables false
namespace Go.Proofs.YtkonljmmdifnaaaGreat.V
open Go.RowKit Go.Shelf
attribute [local go_sem] Oper.semAt_some
set_option maxRecDepth 100000
attribute [local go_sem] fenS_round fenS_fn fenS_depth

def verV (x : Nat → Nat → Value) (i : Nat) : Array Value := #[.int .i64 i, .agg #[x i 0, x i 1, x i 2, x i 3, x i 4, x i 5, x i 6, x i 7, x i 8]]
set_option maxHeartbeats 2000000 in
theorem backV_in (n N : Nat) (hl : N ≤ 100000) (x : Nat → Nat → Value)
    (l gf of cap : Nat) (A : Option Addr) (J : Nat → World → Prop) (Jx : World → Prop) (W : World)
    (hc : ∀ k wr, J k wr → wr.cell? ⟨gf, of, none⟩ = some (.slice A N cap))
    (hJ : ∀ k W1 W2, J k W1 → Below W1.heap.size W1 W2 → J k W2)
    (hA : 0 < N → ∃ b o, A = some ⟨b, o, none⟩ ∧ ∀ k wr, J k wr → ∀ (i j : Nat), i < N → j < 9 → wr.cell? ⟨b, o + i * 9 + j, none⟩ = some (x i j))
    (hY : ∀ k W1 i m, J k W1 → k + i + 1 = N → YieldAt (fen none) m Tryz.prog l (verV x i) W1 fun e W' => (e = .returned (.bool true) ∧ J (k + 1) W') ∨ (e = .returned (.bool false) ∧ Jx W')) (h0 : J 0 W) :
    CallsIn (fen none) n Tryz.prog 118 #[.func (.yield l) #[] #[], .pointer (some ⟨gf, of, none⟩)] W fun e W' => (∃ v, e = .returned v) ∧ (J N W' ∨ Jx W') := by
  refine callsIn_of_wp Tryz.func118 rfl trivial ?_ rfl
  simp only [Tryz.ntmps118, List.size_toArray, List.length_cons, List.length_nil, Nat.reduceAdd, Nat.reduceSub, Array.replicate_succ, Array.replicate_zero, List.push_toArray, List.append_toArray, List.nil_append, List.cons_append]
  have c1 := hc 0 W h0
  have w0 : IntKind.i64.wrap ((N : Int) - 1) = (N : Int) - 1 := swrap (by omega) (by omega)
  gi_wp2
  gi_loopw [3] (fun x wr => ∃ (i : Nat), x = .int .i64 ((i : Int) - 1) ∧ i ≤ N ∧ J (N - i) wr) (fun x _ => (intOf x + 1).toNat)
  case atStart =>
    exact ⟨N, rfl, Nat.le_refl _, by rw [Nat.sub_self]; exact h0⟩
  case round =>
    obtain ⟨i, rfl, hi, hj⟩ := hrel
    rcases i with _ | i
    · have c0 : ((0 : Int) ≤ ((0 : Nat) : Int) - 1) = False := by simp
      gi_wp2
      go_end0
      exact ⟨⟨_, rfl⟩, .inl (by rw [Nat.sub_zero] at hj; exact hj)⟩
    · obtain ⟨b, o, rfl, hcell⟩ := hA (by omega)
      have e0 : (((i + 1 : Nat) : Int) - 1) = (i : Int) := by omega
      have w1 : IntKind.i64.wrap ((i : Int) - 1) = (i : Int) - 1 := swrap (by omega) (by omega)
      have c2 := hc _ wr hj
      have q0 := hcell _ wr hj i 0 (by omega) (by omega)
      have q1 := hcell _ wr hj i 1 (by omega) (by omega)
      have q2 := hcell _ wr hj i 2 (by omega) (by omega)
      have q3 := hcell _ wr hj i 3 (by omega) (by omega)
      have q4 := hcell _ wr hj i 4 (by omega) (by omega)
      have q5 := hcell _ wr hj i 5 (by omega) (by omega)
      have q6 := hcell _ wr hj i 6 (by omega) (by omega)
      have q7 := hcell _ wr hj i 7 (by omega) (by omega)
      have q8 := hcell _ wr hj i 8 (by omega) (by omega)
      rw [Nat.add_zero] at q0
      obtain ⟨fn, tmps, assign, body, hy, hR⟩ := hY _ _ i (n - 1) hj (by omega)
      dsimp only [verV] at hy
      rw [e0]
      have hi2 : i < N := by omega
      gi_wp2
      refine hR.mono ?_
      rintro e W3 (⟨rfl, hJ3⟩ | ⟨rfl, hJx3⟩)
      · gi_wp2
        exact ⟨⟨i, by simp, by omega, by rw [show N - i = N - (i + 1) + 1 by omega]; exact hJ3⟩, by simp [intOf]⟩
      · gi_wp2
        refine bodyPost_ret (results_none rfl _ _ _) rfl ?_
        exact ⟨⟨_, rfl⟩, .inr hJx3⟩
/-- The rows from the last one to the first one, with their places. -/
def backR {α : Type} (F : α → List AV) (l : List α) : List (List AV) := l.zipIdx.reverse.map fun p => [int p.2, .agg (F p.1)]
theorem backR_len {α : Type} (F : α → List AV) (l : List α) : (backR F l).length = l.length := by simp [backR]
theorem backR_at {α : Type} (F : α → List AV) (l : List α) {k i : Nat} (h : k + i + 1 = l.length) : (backR F l)[k]? = some [int i, .agg (F (l[i]'(by omega)))] := by
  rw [backR, List.getElem?_map, List.getElem?_reverse (by simp; omega), List.length_zipIdx, show l.length - 1 - k = i by omega, List.getElem?_zipIdx, List.getElem?_eq_getElem (by omega)]
  simp
theorem backV_it (L : List Version) (f : Bool) (hN : L.length ≤ 100000) : IterY Tryz.prog 118 [.pp [.sl f 9 (L.map Version.flat)]] (backR Version.flat L) := by
  intro lb l J Jx W M hlb hM hrep hJ hJx hK hY h0
  obtain ⟨u0, rfl⟩ : ∃ u0, lb = #[u0] := by
    obtain ⟨L⟩ := lb
    rcases L with _ | ⟨u0, _ | ⟨u1, L⟩⟩ <;> simp at hlb
    exact ⟨u0, rfl⟩
  obtain ⟨gf, of, F0, rfl, mf, zf, cf0, rf0⟩ := pp_one (hrep 0 u0 _ rfl rfl)
  have hc : ∀ {k : Nat} {wr : World}, J k wr → ∀ g j, g < W.heap.size → ¬ M g → wr.cell? ⟨g, j, none⟩ = W.cell? ⟨g, j, none⟩ := fun hj g j hg hn => World.cell?_of_block ((hK _ _ hj).2 g hg hn)
  cases rf0 with
  | sl b o z hn hcap hm hf hk hA hl hx =>
    rename_i A n cap
    rw [List.length_map] at hn
    subst hn
    rw [backR_len]
    refine backV_in 8 L.length hN z l gf of cap A J Jx W (fun k wr hj => (hc hj _ _ zf mf).trans cf0) hJ (fun hne => ?_) (fun k W1 i m hj hi => yieldS_any (m := 9) (hY k W1 W1 (verV z i) _ hj (.refl _ _) (backR_at _ _ hi) rfl fun j v a hv ha ι => .d ?_)) h0
    · obtain ⟨h1, h2, h3⟩ := hA (by intro h; rw [List.map_eq_nil_iff] at h; rw [h] at hne; simp at hne)
      exact ⟨b, o, h1, fun k wr hj i j hi hj9 => (hc hj _ _ h3 h2).trans (hl i j (by simpa using hi) hj9).1⟩
    · have hi2 : i < L.length := by omega
      rcases j with _ | _ | j
      · simp [verV] at hv ha
        subst hv ha
        exact .v _
      · simp [verV] at hv ha
        subst hv ha
        refine .agg rfl fun j u y hu hy => ?_
        have hu2 : u = z i j ∧ j < 9 := by
          rcases j with _ | _ | _ | _ | _ | _ | _ | _ | _ | j <;> simp at hu <;> exact ⟨hu.symm, by omega⟩
        obtain ⟨rfl, hj9⟩ := hu2
        have hq := hx i (L[i].flat) j y (by rw [List.getElem?_map, List.getElem?_eq_getElem hi2]; rfl) hy
        exact hq.keep (fun g hg hM => hM.elim id fun h => absurd hg (by omega)) (hK _ _ hj).1 (fun g hg hn => (hK _ _ hj).2 g hg hn)
      · simp [verV] at hv
end Go.Proofs.YtkonljmmdifnaaaGreat.V
set_option linter.unusedSimpArgs false
set_option linter.unusedVariables false
namespace Go.Proofs.YtkonljmmdifnaaaGreat.V
open Go.RowKit Go.Shelf Go.Deep
attribute [local go_sem] Oper.semAt_some
set_option maxRecDepth 100000
attribute [local go_sem] fenS_round fenS_fn fenS_depth

def knB (b : Int) (c : Change) : Bool := decide (c.booked ≤ b)
def knN (h : History) (b : Int) (i : Nat) : Nat := ((h.changes.take i).filter (knB b)).length
theorem knN_yes {h : History} {b : Int} {i : Nat} (hi : i < h.changes.length) (hb : h.changes[i].booked ≤ b) : knN h b (i + 1) = knN h b i + 1 := by
  rw [knN, filt_yes hi (by simpa [knB] using hb), List.length_append]; rfl
theorem knN_no {h : History} {b : Int} {i : Nat} (hi : i < h.changes.length) (hb : ¬ h.changes[i].booked ≤ b) : knN h b (i + 1) = knN h b i := by
  rw [knN, filt_no hi (by simpa [knB] using hb)]; rfl
theorem knN_at {h : History} {b : Int} {i : Nat} (hi : i < h.changes.length) (hb : h.changes[i].booked ≤ b) : (h.changes.filter (knB b))[knN h b i]? = some h.changes[i] := by
  have e : h.changes.filter (knB b) = (h.changes.take i).filter (knB b) ++ (h.changes[i] :: (h.changes.drop (i + 1)).filter (knB b)) := by
    conv => lhs; rw [← List.take_append_drop i h.changes, List.filter_append, List.drop_eq_getElem_cons hi]
    rw [List.filter_cons_of_pos (by simpa [knB] using hb)]
  rw [e, knN, List.getElem?_append_right (Nat.le_refl _), Nat.sub_self]
  rfl
theorem upto_rep {M : Nat → Prop} {a n : Nat} {w : World} {c : Change} {A : Option Addr} {m k : Nat} (h : RepD (fun g => M g ∨ (a ≤ g ∧ g < n) ∨ g = n) w (.slice A m k) (covs c.covers)) :
    ∀ (i : Nat) (v : Value) (y : AV), (#[.agg #[.int .i64 c.booked, .int .i64 c.day, .int .i64 c.kind, .int .i64 c.rk, .int .i64 c.rv, .int .i64 c.ra, .int .i64 c.rz, .slice A m k, .int .i64 c.way]] : Array Value)[i]? = some v → [AV.agg c.flat][i]? = some y →
      ∀ ι, RepA ι (fun g => M g ∨ (a ≤ g ∧ g < n)) (w.setCell ⟨n, 7, none⟩ (.slice A m k)) v y := by
  intro i v y hi hy ι
  rcases i with _ | i
  · simp at hi hy
    subst hi hy
    refine .d (.agg rfl fun j x z hx hz => ?_)
    rcases j with _ | _ | _ | _ | _ | _ | _ | _ | _ | j <;> simp [Change.flat] at hx hz <;> subst hx hz
    · exact .v _
    · exact .v _
    · exact .v _
    · exact .v _
    · exact .v _
    · exact .v _
    · exact .v _
    · exact h.keep (fun g _ hg => hg.elim .inl fun q => .inr (.inl q)) (by simp [World.setCell]) fun g _ hn => blk_setCell_other w _ _ g fun e => hn (.inr (.inr e))
    · exact .v _
  · simp at hi
set_option maxHeartbeats 4000000 in
theorem upto_it (h : History) (b : Int) (hl : h.changes.length ≤ 100000) (hcc : ∀ c, c ∈ h.changes → c.covers.length ≤ 100000) : IterY Tryz.prog 88 [.pp h.flat, .pp [int b]] ((h.changes.filter (knB b)).map fun c => [.agg c.flat]) := by
  intro lb l J Jx W M hlb hM hrep hJ hJx hK hY h0
  obtain ⟨u0, u1, rfl⟩ : ∃ u0 u1, lb = #[u0, u1] := by
    obtain ⟨L⟩ := lb
    rcases L with _ | ⟨u0, _ | ⟨u1, _ | ⟨u2, L⟩⟩⟩ <;> simp at hlb
    exact ⟨u0, u1, rfl⟩
  obtain ⟨gb, ob, F1, rfl, mb, zb, cf1, rf1⟩ := pp_one (hrep 1 u1 _ rfl rfl)
  obtain rfl := repS_int rf1
  have hc : ∀ {k : Nat} {wr : World}, J k wr → ∀ g j, g < W.heap.size → ¬ M g → wr.cell? ⟨g, j, none⟩ = W.cell? ⟨g, j, none⟩ := fun hj g j hg hn => World.cell?_of_block ((hK _ _ hj).2 g hg hn)
  have r0 := hrep 0 u0 _ rfl rfl
  cases r0 with
  | pp z hMg hg hcl hcx =>
    rename_i gf of
    have q9 := (hcl 9 (by simp [History.flat])).1
    have rf0 := hcx 9 (chgs h.changes) rfl
    clear hcl hcx hrep
    generalize z 9 = Z at q9 rf0
    cases rf0 with
    | sl bk o x hn hcap hm hf hk hA hx2 hx =>
      rename_i A n cap
      rw [List.length_map] at hn
      subst hn
      have hJ9 : ∀ k wr, J k wr → wr.cell? ⟨gf, of + 9, none⟩ = some (.slice A h.changes.length cap) := fun k wr hj => (hc hj _ _ hg hMg).trans q9
      have hJb : ∀ k wr, J k wr → wr.cell? ⟨gb, ob, none⟩ = some (.int .i64 b) := fun k wr hj => (hc hj _ _ zb mb).trans cf1
      refine callsIn_of_wp Tryz.func88 rfl trivial ?_ rfl
      simp only [Tryz.ntmps88, List.size_toArray, List.length_cons, List.length_nil, Nat.reduceAdd, Nat.reduceSub, Array.replicate_succ, Array.replicate_zero, List.push_toArray, List.append_toArray, List.nil_append, List.cons_append]
      have c1 := hJ9 0 W h0
      gi_wp2
      gi_loopw [9] (fun x wr => ∃ (i : Nat), x = .int .i64 i ∧ i ≤ h.changes.length ∧ J (knN h b i) wr) (fun x _ => h.changes.length - (intOf x).toNat)
      case atStart =>
        exact ⟨0, rfl, Nat.zero_le _, h0⟩
      case round =>
        obtain ⟨i, rfl, hi, hj⟩ := hrel
        by_cases hi2 : i < h.changes.length
        · obtain ⟨h1, h2, h3⟩ := hA (by intro e; rw [List.map_eq_nil_iff] at e; rw [e] at hi2; simp at hi2)
          subst h1
          obtain ⟨e0, e1⟩ : (∃ c, h.changes[i]? = some c) ∧ True := ⟨⟨_, List.getElem?_eq_getElem hi2⟩, trivial⟩
          have hc0 := (hc hj bk (o + i * 9 + 0) h3 h2).trans (hx2 i 0 (by simpa using hi2) (by omega)).1
          have hc1 := (hc hj bk (o + i * 9 + 1) h3 h2).trans (hx2 i 1 (by simpa using hi2) (by omega)).1
          have hc2 := (hc hj bk (o + i * 9 + 2) h3 h2).trans (hx2 i 2 (by simpa using hi2) (by omega)).1
          have hc3 := (hc hj bk (o + i * 9 + 3) h3 h2).trans (hx2 i 3 (by simpa using hi2) (by omega)).1
          have hc4 := (hc hj bk (o + i * 9 + 4) h3 h2).trans (hx2 i 4 (by simpa using hi2) (by omega)).1
          have hc5 := (hc hj bk (o + i * 9 + 5) h3 h2).trans (hx2 i 5 (by simpa using hi2) (by omega)).1
          have hc6 := (hc hj bk (o + i * 9 + 6) h3 h2).trans (hx2 i 6 (by simpa using hi2) (by omega)).1
          have hc7 := (hc hj bk (o + i * 9 + 7) h3 h2).trans (hx2 i 7 (by simpa using hi2) (by omega)).1
          have hc8 := (hc hj bk (o + i * 9 + 8) h3 h2).trans (hx2 i 8 (by simpa using hi2) (by omega)).1
          have hrow : (h.changes.map Change.flat)[i]? = some h.changes[i].flat := by rw [List.getElem?_map, List.getElem?_eq_getElem hi2]; rfl
          have hv0 := repS_int (hx i _ 0 (int h.changes[i].booked) hrow rfl)
          have hv7 := hx i _ 7 (covs h.changes[i].covers) hrow rfl
          have hw : IntKind.i64.wrap ((i : Int) + 1) = ((i + 1 : Nat) : Int) := by rw [wrap_id] <;> omega
          rw [Nat.add_zero, hv0] at hc0
          rw [repS_int (hx i _ 1 (int h.changes[i].day) hrow rfl)] at hc1
          rw [repS_int (hx i _ 2 (int h.changes[i].kind) hrow rfl)] at hc2
          rw [repS_int (hx i _ 3 (int h.changes[i].rk) hrow rfl)] at hc3
          rw [repS_int (hx i _ 4 (int h.changes[i].rv) hrow rfl)] at hc4
          rw [repS_int (hx i _ 5 (int h.changes[i].ra) hrow rfl)] at hc5
          rw [repS_int (hx i _ 6 (int h.changes[i].rz) hrow rfl)] at hc6
          rw [repS_int (hx i _ 8 (int h.changes[i].way) hrow rfl)] at hc8
          have hsl : ∃ (A7 : Option Addr) (n7 c7 : Nat), x i 7 = .slice A7 n7 c7 := by
            generalize x i 7 = y7 at hv7
            cases hv7
            exact ⟨_, _, _, rfl⟩
          obtain ⟨A7, n7, c7, hsl⟩ := hsl
          rw [hsl] at hc7 hv7
          have hci := hcc _ (List.getElem_mem hi2)
          have hyes := knN_yes (b := b) hi2
          have hat := knN_at (b := b) hi2
          have hno := knN_no (b := b) hi2
          generalize h.changes[i] = c at *
          have hsz := (hK _ _ hj).1
          have hb1 : ∀ O, (wr.alloc O).cell? ⟨gb, ob, none⟩ = some (.int .i64 b) := fun O => (((Below.refl wr.heap.size wr).alloc (Nat.le_refl _) O).cell (p := ⟨gb, ob, none⟩) (Nat.lt_of_lt_of_le zb hsz)).trans (hJb _ _ hj)
          by_cases hb : c.booked ≤ b
          · have hg1 : (c.booked > b) = False := eq_false (by omega)
            have hyes := hyes hb
            have hat := hat hb
            have hbl : ∀ O g, g < wr.heap.size → (wr.alloc O).heap[g]? = wr.heap[g]? := fun O g hg => ((Below.refl wr.heap.size wr).alloc (Nat.le_refl _) O).block g hg
            have hM2 : ∀ O g, (M g ∨ (W.heap.size ≤ g ∧ g < wr.heap.size) ∨ g = wr.heap.size) → g < (wr.alloc O).heap.size := fun O g hg => by
              have : (wr.alloc O).heap.size = wr.heap.size + 1 := by simp
              rcases hg with hg | hg | hg
              · have := hM g hg; omega
              · omega
              · omega
            have hv7' : ∀ O, RepD (fun g => M g ∨ (W.heap.size ≤ g ∧ g < wr.heap.size) ∨ g = wr.heap.size) (wr.alloc O) (.slice A7 n7 c7) (covs c.covers) := fun O => hv7.keep (fun g hg hg2 => by
                rcases hg2 with hg2 | hg2 | hg2
                · exact hg2
                · omega
                · omega) (by simp; omega) fun g hg hn => (hbl O g (by omega)).trans ((hK _ _ hj).2 g hg hn)
            have kc := fun O => clone_f c.covers false hci _ (wr.alloc O) #[.slice A7 n7 c7] (hM2 O) rfl fun k v y hk hy => by
              rcases k with _ | k
              · simp at hk hy; subst hk hy; exact hv7' O
              · simp at hk
            have slOf : ∀ {N : Nat → Prop} {w : World} {u : Value}, RepD N w u (covs c.covers) → ∃ (A8 : Option Addr) (n8 c8 : Nat), u = .slice A8 n8 c8 := fun h => by cases h; exact ⟨_, _, _, rfl⟩
            have hat2 : ((h.changes.filter (knB b)).map fun c => [AV.agg c.flat])[knN h b i]? = some [.agg c.flat] := by rw [List.getElem?_map, hat]; rfl
            gi_wp2_with (gi_at_call 49; refine fen_calls.2 ?_; refine (kc _).mono ?_; rintro e w3 ⟨u, rfl, hu, hb3⟩; obtain ⟨A8, n8, c8, rfl⟩ := slOf hu; have q0 : w3.cell? ⟨wr.heap.size, 0, none⟩ = some (.int .i64 c.booked) := (hb3.cell (p := ⟨wr.heap.size, 0, none⟩) (by simp)).trans (by simp); have q1 : w3.cell? ⟨wr.heap.size, 1, none⟩ = some (.int .i64 c.day) := (hb3.cell (p := ⟨wr.heap.size, 1, none⟩) (by simp)).trans (by simp); have q2 : w3.cell? ⟨wr.heap.size, 2, none⟩ = some (.int .i64 c.kind) := (hb3.cell (p := ⟨wr.heap.size, 2, none⟩) (by simp)).trans (by simp); have q3 : w3.cell? ⟨wr.heap.size, 3, none⟩ = some (.int .i64 c.rk) := (hb3.cell (p := ⟨wr.heap.size, 3, none⟩) (by simp)).trans (by simp); have q4 : w3.cell? ⟨wr.heap.size, 4, none⟩ = some (.int .i64 c.rv) := (hb3.cell (p := ⟨wr.heap.size, 4, none⟩) (by simp)).trans (by simp); have q5 : w3.cell? ⟨wr.heap.size, 5, none⟩ = some (.int .i64 c.ra) := (hb3.cell (p := ⟨wr.heap.size, 5, none⟩) (by simp)).trans (by simp); have q6 : w3.cell? ⟨wr.heap.size, 6, none⟩ = some (.int .i64 c.rz) := (hb3.cell (p := ⟨wr.heap.size, 6, none⟩) (by simp)).trans (by simp); have q7 : w3.cell? ⟨wr.heap.size, 7, none⟩ = some (.slice A7 n7 c7) := (hb3.cell (p := ⟨wr.heap.size, 7, none⟩) (by simp)).trans (by simp); have q8 : w3.cell? ⟨wr.heap.size, 8, none⟩ = some (.int .i64 c.way) := (hb3.cell (p := ⟨wr.heap.size, 8, none⟩) (by simp)).trans (by simp); have f7 : w3.frozen? ⟨wr.heap.size, 7, none⟩ = false := (hb3.frozen (p := ⟨wr.heap.size, 7, none⟩) (by simp)).trans (by simp); have hb4 : Below wr.heap.size wr (w3.setCell ⟨wr.heap.size, 7, none⟩ (.slice A8 n8 c8)) := ((((Below.refl wr.heap.size wr).alloc (Nat.le_refl _) _).trans (hb3.mono (by simp))).setCell (Nat.le_refl _) _); obtain ⟨fn, tmps, assign, body, hy, hR⟩ := yieldS_any (m' := 7) (hY _ wr _ #[.agg #[.int .i64 c.booked, .int .i64 c.day, .int .i64 c.kind, .int .i64 c.rk, .int .i64 c.rv, .int .i64 c.ra, .int .i64 c.rz, .slice A8 n8 c8, .int .i64 c.way]] [.agg c.flat] hj hb4 hat2 rfl (upto_rep hu)))
            refine hR.mono ?_
            rintro e W3 (⟨rfl, hJ3⟩ | ⟨rfl, hJx3⟩)
            · gi_wp2
              exact ⟨⟨i + 1, by simp, by omega, by rw [hyes]; exact hJ3⟩, by simp [intOf]; omega⟩
            · gi_wp2
              refine bodyPost_ret (results_none rfl _ _ _) rfl ?_
              exact ⟨⟨_, rfl⟩, .inr hJx3⟩
          · have hg1 : (c.booked > b) = True := eq_true (by omega)
            have hno := hno hb
            gi_wp2
            exact ⟨⟨i + 1, by simp, by omega, by rw [hno]; exact hJ _ _ _ hj ((Below.refl _ _).alloc (Nat.le_refl _) _)⟩, by simp [intOf]; omega⟩
        · have hi3 : i = h.changes.length := by omega
          subst hi3
          have Hj := hj
          have hw : knN h b h.changes.length = ((h.changes.filter (knB b)).map fun c => [AV.agg c.flat]).length := by rw [knN, List.take_length, List.length_map]
          rw [hw] at Hj
          gi_wp2
          go_end0
          exact ⟨⟨_, rfl⟩, .inl Hj⟩
end Go.Proofs.YtkonljmmdifnaaaGreat.V
