/- Contracts of chapter 20: At; few files; files that are the same. Contracts of chapter 20: steps that are the same; awake. Laws of chapter 20: Tells. Contracts of the reference of chapter 19: next, total. Contracts of the references of chapters 18 and 19: sum, Stand, Put, made, Right. Contracts of the reference of chapter 19: Paid. Contracts of the reference of chapter 19: Of. -/
import Derived.Test.YtjplhfmakghabaaGreatG11
import Derived.Test.YtjplhfmakghabaaGreatG13
set_option linter.unusedSimpArgs false
set_option linter.unusedVariables false
namespace Go.Proofs.YtjplhfmakghabaaGreat.V
open Go.RowKit
set_option maxRecDepth 100000
attribute [local go_sem] Option.toList_some Option.toList_none

def atP (c : Cover) (l : List File) (d : Int) : Pos := if checkE c l = 0 ∧ checkE c (knownR l d) = 0 then sumP (ofL c (knownR l d)) else zeroP
def atE (c : Cover) (l : List File) (d : Int) : Int := if checkE c l = 0 then checkE c (knownR l d) else checkE c l
set_option maxHeartbeats 4000000 in
theorem resAt_f (c : Cover) (l : List File) (d : Int) (hc : c.ok) (hl : l.length ≤ 100000) (ha : ∀ f, f ∈ l → f.acts.length ≤ 100000) : Fun Tryz.prog 9 [.agg c.flat, filesA l, int d] (.tup [.agg (atP c l d).flat, int (atE c l d)]) := by
  have k1 := sum_f c l hc hl
  have k2 := known_f l d hl ha
  have k3 := sum_f c (knownR l d) hc (Nat.le_trans (knownR_len l d) hl)
  unfold atP atE
  generalize knownR l d = m at *
  generalize sumP (ofL c l) = p at *
  generalize sumP (ofL c m) = q at *
  generalize checkE c l = e1 at *
  generalize checkE c m = e2 at *
  obtain ⟨p1, p2, p3, p4, p5, p6⟩ := p
  obtain ⟨q1, q2, q3, q4, q5, q6⟩ := q
  by_cases h1 : e1 = 0
  · by_cases h2 : e2 = 0
    · rw [if_pos ⟨h1, h2⟩, if_pos h1]
      subst h1 h2
      refine fun_W mixed Tryz.func9 rfl (Nat.le_of_ble_eq_true rfl) (by kernel_rfl) fun cx hN hR hF hL => ?_; apply args_k; (case hA => (simp only [go_sem, ↓reduceIte]; rfl))
      (repeat' first|((try (revert K;refine bK ?_));refine' run trivial ?_;(repeat' first|exact True.intro|refine Lv.mk ?_ ?_|(refine oK ?_;intro K hK)|intro hq);all_goals refine Lf.mk ?_)|refine callZ cl12 (k2) ?_|refine callZ cl10 (k3) ?_|refine callZ cl10 (k1) ?_)
    · rw [if_neg (fun h => h2 h.2), if_pos h1]
      subst h1
      refine fun_W mixed Tryz.func9 rfl (Nat.le_of_ble_eq_true rfl) (by kernel_rfl) fun cx hN hR hF hL => ?_; apply args_k; (case hA => (simp only [go_sem, ↓reduceIte]; rfl))
      (repeat' first|((try (revert K;refine bK ?_));refine' run (I (eq_false h2) (decide_eq_false h2)) ?_;(repeat' first|exact True.intro|refine Lv.mk ?_ ?_|(refine oK ?_;intro K hK)|intro hq);all_goals refine Lf.mk ?_)|refine callZ cl12 (k2) ?_|refine callZ cl10 (k3) ?_|refine callZ cl10 (k1) ?_)
      exact ⟨rfl, rfl, rfl, rfl, rfl, rfl⟩
  · rw [if_neg (fun h => h1 h.1), if_neg h1]
    refine fun_W mixed Tryz.func9 rfl (Nat.le_of_ble_eq_true rfl) (by kernel_rfl) fun cx hN hR hF hL => ?_; apply args_k; (case hA => (simp only [go_sem, ↓reduceIte]; rfl))
    (repeat' first|((try (revert K;refine bK ?_));refine' run (I (eq_false h1) (decide_eq_false h1)) ?_;(repeat' first|exact True.intro|refine Lv.mk ?_ ?_|(refine oK ?_;intro K hK)|intro hq);all_goals refine Lf.mk ?_)|refine callZ cl12 (k2) ?_|refine callZ cl10 (k3) ?_|refine callZ cl10 (k1) ?_)
    exact ⟨rfl, rfl, rfl, rfl, rfl, rfl⟩
/-! ### Few files -/
def few20 (l : List File) : Bool := decide (l.length ≤ 20) && l.all fun f => decide (f.acts.length ≤ 40)
theorem few20_f (l : List File) : Fun Tryz.prog 5 [filesA l] (bool (few20 l)) := by
  by_cases h : (l.length : Int) > 20
  · have h2 : ¬ l.length ≤ 20 := by omega
    refine fun_W mixed Tryz.func5 rfl (Nat.le_of_ble_eq_true rfl) (by kernel_rfl) fun cx hN hR hF hL => ?_; apply args_k; (case hA => (simp only [go_sem, ↓reduceIte]; rfl))
    (try ((try (revert K;refine bK ?_));refine' run (I (eq_true h) (decide_eq_true h)) ?_;(repeat' first|exact True.intro|refine Lv.mk ?_ ?_|(refine oK ?_;intro K hK)|intro hq);all_goals refine Lf.mk ?_))
    simp [few20, h2]
  · have h2 : l.length ≤ 20 := by omega
    have hfe : few20 l = l.all fun f => decide (f.acts.length ≤ 40) := by simp [few20, h2]
    rw [hfe]
    generalize hr : (l.all fun f => decide (f.acts.length ≤ 40)) = r
    refine fun_W mixed Tryz.func5 rfl (Nat.le_of_ble_eq_true rfl) (by kernel_rfl) fun cx hN hR hF hL => ?_; apply args_k; (case hA => (simp only [go_sem, ↓reduceIte]; rfl))
    (try ((try (revert K;refine bK ?_));refine' run (I (eq_false h) (decide_eq_false h)) ?_;(repeat' first|exact True.intro|refine Lv.mk ?_ ?_|(refine oK ?_;intro K hK)|intro hq);all_goals refine Lf.mk ?_))
    refine loopW mixed (σ := {i : Nat // i ≤ l.length ∧ (l.drop i).all (fun f => decide (f.acts.length ≤ 40)) = r}) (fun s => ⟨[(3, int s.1), (0, filesA l)], [], 3000⟩) (fun s => l.length - s.1) id ⟨0, by omega, hr⟩ (by rw [hN]; kernel_rfl) ?_ ?_
    · simp only [go_sem, ↓reduceIte, hF]
      rfl
    · rintro ⟨i, g1, g2⟩
      by_cases gi : i < l.length
      · have e0 : l[i]? = some l[i] := List.getElem?_eq_getElem gi
        have e1 : (l.map File.flat)[i]? = some l[i].flat := by rw [List.getElem?_map, e0]; rfl
        have e2 : IntKind.i64.wrap ((i : Int) + 1) = ((i + 1 : Nat) : Int) := by rw [wrap_id] <;> omega
        have hk1 : i < (l.map File.flat).length := by simpa using gi
        rw [List.drop_eq_getElem_cons gi, List.all_cons] at g2
        generalize l[i] = f at *
        by_cases hf : (f.acts.length : Int) > 40
        · rw [decide_eq_false (by omega), Bool.false_and] at g2
          subst g2
          (try ((try (revert K;refine bK ?_));refine' run (I e1 (I e2 (I hk1 (I (eq_true hf) (decide_eq_true hf))))) ?_;(repeat' first|exact True.intro|refine Lv.mk ?_ ?_|(refine oK ?_;intro K hK)|intro hq);all_goals refine Lf.mk ?_))
        · rw [decide_eq_true (by omega), Bool.true_and] at g2
          (try ((try (revert K;refine bK ?_));refine' run (I e1 (I e2 (I hk1 (I (eq_false hf) (decide_eq_false hf))))) ?_;(repeat' first|exact True.intro|refine Lv.mk ?_ ?_|(refine oK ?_;intro K hK)|intro hq);all_goals refine Lf.mk ?_))
          refine ⟨⟨i + 1, gi, g2⟩, id, ?_, by show l.length - (i + 1) < l.length - i; omega⟩
          simp only [go_sem, ↓reduceIte, hF]
      · obtain rfl : i = l.length := by omega
        rw [List.drop_length] at g2
        subst g2
        (try ((try (revert K;refine bK ?_));refine' run trivial ?_;(repeat' first|exact True.intro|refine Lv.mk ?_ ?_|(refine oK ?_;intro K hK)|intro hq);all_goals refine Lf.mk ?_))
theorem few20_is {l : List File} (h : few20 l = true) : l.length ≤ 20 ∧ ∀ f, f ∈ l → f.acts.length ≤ 40 := by
  rw [few20, Bool.and_eq_true, decide_eq_true_eq, List.all_eq_true] at h
  exact ⟨h.1, fun f hf => by simpa using h.2 f hf⟩
end Go.Proofs.YtjplhfmakghabaaGreat.V
namespace Go.Proofs.YtjplhfmakghabaaGreat.V
open Go.RowKit
set_option maxRecDepth 100000
attribute [local go_sem] Option.toList_some Option.toList_none

theorem same4_f (a v : List Int) : Fun Tryz.prog 8 [.agg [ints a, ints v], .agg [ints a, ints v]] (bool true) := by
  refine fun_W mixed Tryz.func8 rfl (Nat.le_of_ble_eq_true rfl) (by kernel_rfl) fun cx hN hR hF hL => ?_; apply args_k; (case hA => (simp only [go_sem, ↓reduceIte]; rfl))
  have hl : a.length ≤ 9223372036854775807 ∧ v.length ≤ 9223372036854775807 := by
    simp [maxLen] at hL
    omega
  obtain ⟨hl1, hl2⟩ := hl
  (try ((try (revert K;refine bK ?_));refine' run trivial ?_;(repeat' first|exact True.intro|refine Lv.mk ?_ ?_|(refine oK ?_;intro K hK)|intro hq);all_goals refine Lf.mk ?_))
  refine loopW mixed (σ := {i : Nat // i ≤ a.length}) (fun s => ⟨[(5, int s.1), (2, .ptr 0 0), (3, .ptr 8 0)], [(0, some ⟨29, [ints a, ints v]⟩), (8, some ⟨29, [ints a, ints v]⟩)], 3000⟩) (fun s => a.length - s.1) id ⟨0, Nat.zero_le _⟩ (by rw [hN]; kernel_rfl) ?_ ?_
  · simp only [go_sem, ↓reduceIte, hF]
    rfl
  · rintro ⟨i, h1⟩
    by_cases hi : i < a.length
    · have e1 : a[i]? = some a[i] := List.getElem?_eq_getElem hi
      have e3 : IntKind.i64.wrap ((i : Int) + 1) = ((i + 1 : Nat) : Int) := by rw [wrap_id] <;> omega
      generalize a[i] = z at *
      (try ((try (revert K;refine bK ?_));refine' run (I e1 e3) ?_;(repeat' first|exact True.intro|refine Lv.mk ?_ ?_|(refine oK ?_;intro K hK)|intro hq);all_goals refine Lf.mk ?_))
      refine ⟨⟨i + 1, by omega⟩, id, ?_, by show a.length - (i + 1) < a.length - i; omega⟩
      simp only [go_sem, ↓reduceIte, hF]
    · (try ((try (revert K;refine bK ?_));refine' run trivial ?_;(repeat' first|exact True.intro|refine Lv.mk ?_ ?_|(refine oK ?_;intro K hK)|intro hq);all_goals refine Lf.mk ?_))
      refine loopW mixed (σ := {i : Nat // i ≤ v.length}) (fun s => ⟨[(6, int s.1), (2, .ptr 0 0), (3, .ptr 8 0)], [(0, some ⟨29, [ints a, ints v]⟩), (8, some ⟨29, [ints a, ints v]⟩)], 6000⟩) (fun s => v.length - s.1) id ⟨0, Nat.zero_le _⟩ (by rw [hN]; kernel_rfl) ?_ ?_
      · simp only [go_sem, ↓reduceIte, hF]
        rfl
      · rintro ⟨i, h1⟩
        by_cases hi : i < v.length
        · have e1 : v[i]? = some v[i] := List.getElem?_eq_getElem hi
          have e3 : IntKind.i64.wrap ((i : Int) + 1) = ((i + 1 : Nat) : Int) := by rw [wrap_id] <;> omega
          generalize v[i] = z at *
          (try ((try (revert K;refine bK ?_));refine' run (I e1 e3) ?_;(repeat' first|exact True.intro|refine Lv.mk ?_ ?_|(refine oK ?_;intro K hK)|intro hq);all_goals refine Lf.mk ?_))
          refine ⟨⟨i + 1, by omega⟩, id, ?_, by show v.length - (i + 1) < v.length - i; omega⟩
          simp only [go_sem, ↓reduceIte, hF]
        · (try ((try (revert K;refine bK ?_));refine' run trivial ?_;(repeat' first|exact True.intro|refine Lv.mk ?_ ?_|(refine oK ?_;intro K hK)|intro hq);all_goals refine Lf.mk ?_))

def cW : Cover := ⟨1, 1000, 1000, 0, 10000⟩
def fW : File := ⟨⟨1, 1, 1, 5, 10, 0⟩, [⟨10, 1, 500⟩, ⟨20, 2, 200⟩]⟩
theorem cW_ok : cW.ok := by
  unfold cW Cover.ok Int64
  simp only
  omega
theorem days_W : daysL [fW] = [10, 20] := by
  have h : uniq (daysS [fW]) = [10, 20] := by decide +kernel
  rw [daysL, h]
  exact List.mergeSort_of_pairwise (by decide)
theorem cv_W : cvE cW [fW] = 0 ∧ cvO Pos.paid cW [fW] = [(20, 200)] ∧ cvO Pos.reserve cW [fW] = [(10, 500), (20, 300)] := by
  have h0 : checkE cW [fW] = 0 := by decide +kernel
  have h1 : cvE cW [fW] = 0 := by rw [cvE, if_pos h0, days_W]; rfl
  refine ⟨h1, ?_, ?_⟩
  · rw [cvO, if_pos h1, days_W]; decide +kernel
  · rw [cvO, if_pos h1, days_W]; decide +kernel
theorem at_W : atP cW [fW] 15 = ⟨500, 0, 0, 0, 500, true⟩ ∧ atE cW [fW] 15 = 0 := by decide +kernel
attribute [local go_sem] Int.toNat_zero in
set_option maxHeartbeats 4000000 in
theorem awake_f : Fun Tryz.prog 4 [] (bool true) := by
  have o1 := curves_f cW [fW] cW_ok (by simp)
  have o2 := resAt_f cW [fW] 15 cW_ok (by simp) (by simp [fW])
  rw [cv_W.1, cv_W.2.1, cv_W.2.2] at o1
  rw [at_W.1, at_W.2] at o2
  rw [show stepA [(20, 200)] = .agg [ints [20], ints [200]] from rfl, show stepA [(10, 500), (20, 300)] = .agg [ints [10, 20], ints [500, 300]] from rfl] at o1
  simp only [fW, cW] at o1 o2
  have o3 := same4_f [20] [200]
  have o4 := same4_f [10, 20] [500, 300]
  refine fun_C Tryz.func4 rfl (Nat.le_of_ble_eq_true rfl) fun cx hN hR hF hL => ?_; apply code_args; (case hA => (simp only [go_sem, ↓reduceIte]; rfl))
  (refine code_seq mixed (by rw [hN]; kernel_rfl) ?_)
  (try ((try (revert K;refine bK ?_));refine' run trivial ?_;(repeat' first|exact True.intro|refine Lv.mk ?_ ?_|(refine oK ?_;intro K hK)|intro hq);all_goals refine Lf.mk ?_))
  (refine code_seq mixed (by rw [hN]; kernel_rfl) ?_)
  (try ((try (revert K;refine bK ?_));refine' run trivial ?_;(repeat' first|exact True.intro|refine Lv.mk ?_ ?_|(refine oK ?_;intro K hK)|intro hq);all_goals refine Lf.mk ?_))
  (refine code_seq mixed (by rw [hN]; kernel_rfl) ?_)
  (try ((try (revert K;refine bK ?_));refine' run trivial ?_;(repeat' first|exact True.intro|refine Lv.mk ?_ ?_|(refine oK ?_;intro K hK)|intro hq);all_goals refine Lf.mk ?_))
  refine code_freeze [2024] [(1, .ptr 1008 0), (2, .ptr 2040 0)] [(2040, some ⟨41, fW.flat⟩), (1008, some ⟨23, cW.flat⟩)] rfl ?_ ?_ ?_
  · simp only [go_sem, ↓reduceIte, hF]
  · simp [go_sem, fW, cW, fzo, Act.flat]
  · refine code_w mixed (by rw [hN]; kernel_rfl) ?_
    simp only [fW, cW]
    (repeat' first|((try (revert K;refine bK ?_));refine' run trivial ?_;(repeat' first|exact True.intro|refine Lv.mk ?_ ?_|(refine oK ?_;intro K hK)|intro hq);all_goals refine Lf.mk ?_)|(with_reducible apply callFX [3016] cl6 (o1);(case hy|hl|hk=>(simp only [go_sem, ↓reduceIte];try with_unfolding_all rfl));(case hz=>(with_unfolding_all simp [go_sem,fzo, Int.toNat_zero];done)))|(with_reducible apply callFX [4016] cl9 (o2);(case hy|hl|hk=>(simp only [go_sem, ↓reduceIte];try with_unfolding_all rfl));(case hz=>(with_unfolding_all simp [go_sem,fzo, Int.toNat_zero];done)))|(with_reducible apply callFX [5144, 5152] cl8 (o3);(case hy|hl|hk=>(simp only [go_sem, ↓reduceIte];try with_unfolding_all rfl));(case hz=>(with_unfolding_all simp [go_sem,fzo, Int.toNat_zero];done)))|(with_reducible apply callFX [5200, 5208] cl8 (o4);(case hy|hl|hk=>(simp only [go_sem, ↓reduceIte];try with_unfolding_all rfl));(case hz=>(with_unfolding_all simp [go_sem,fzo, Int.toNat_zero];done))))
    all_goals trace_state
end Go.Proofs.YtjplhfmakghabaaGreat.V
namespace Go.Proofs.YtjplhfmakghabaaGreat.V
open Go.RowKit
set_option maxRecDepth 100000
attribute [local go_sem] Option.toList_some Option.toList_none

end Go.Proofs.YtjplhfmakghabaaGreat.V
set_option linter.unusedSimpArgs false
set_option linter.unusedVariables false
namespace Go.Proofs.YtjplhfmakghabaaGreat.V
open Go.RowKit
set_option maxRecDepth 100000
attribute [local go_sem] Option.toList_some Option.toList_none

def lenAt (l : List File) (k : Nat) : Nat := match l[k]? with | some f => f.acts.length | none => 0
def bkAt (l : List File) (cn : Nat → Nat) (k : Nat) : Int := match l[k]? with | some f => (match f.acts[cn k]? with | some a => a.booked | none => 0) | none => 0
/-- The file whose act is the next one, of the first i. -/
def nextI (l : List File) (cn : Nat → Nat) : Nat → Int
  | 0 => -1
  | i + 1 => if cn i < lenAt l i ∧ (nextI l cn i < 0 ∨ bkAt l cn i < bkAt l cn (nextI l cn i).toNat) then (i : Int) else nextI l cn i
theorem nextI_is (l : List File) (cn : Nat → Nat) : ∀ i, (nextI l cn i = -1 ∧ ∀ k, k < i → ¬ cn k < lenAt l k) ∨ ∃ b : Nat, b < i ∧ nextI l cn i = (b : Int) ∧ cn b < lenAt l b ∧ ∀ k, k < i → cn k < lenAt l k → bkAt l cn b < bkAt l cn k ∨ (bkAt l cn b = bkAt l cn k ∧ b ≤ k)
  | 0 => .inl ⟨rfl, fun k hk => absurd hk (Nat.not_lt_zero k)⟩
  | i + 1 => by
    rw [nextI]
    rcases nextI_is l cn i with ⟨h1, h2⟩ | ⟨b, h1, h2, h3, h4⟩
    · rw [h1]
      by_cases hr : cn i < lenAt l i
      · rw [if_pos ⟨hr, .inl (by omega)⟩]
        refine .inr ⟨i, by omega, rfl, hr, fun k hk hrk => ?_⟩
        rcases (by omega : k < i ∨ k = i) with hk | rfl
        · exact absurd hrk (h2 k hk)
        · exact .inr ⟨rfl, Nat.le_refl _⟩
      · rw [if_neg (fun h => hr h.1)]
        refine .inl ⟨rfl, fun k hk => ?_⟩
        rcases (by omega : k < i ∨ k = i) with hk | rfl
        · exact h2 k hk
        · exact hr
    · rw [h2]
      simp only [Int.toNat_natCast]
      by_cases hr : cn i < lenAt l i ∧ ((b : Int) < 0 ∨ bkAt l cn i < bkAt l cn b)
      · rw [if_pos hr]
        refine .inr ⟨i, by omega, rfl, hr.1, fun k hk hrk => ?_⟩
        rcases (by omega : k < i ∨ k = i) with hk | rfl
        · have := h4 k hk hrk
          left; omega
        · exact .inr ⟨rfl, Nat.le_refl _⟩
      · rw [if_neg hr]
        refine .inr ⟨b, by omega, rfl, h3, fun k hk hrk => ?_⟩
        rcases (by omega : k < i ∨ k = i) with hk | rfl
        · exact h4 k hk hrk
        · have : ¬ bkAt l cn k < bkAt l cn b := fun h => hr ⟨hrk, .inr h⟩
          rcases (by omega : bkAt l cn b < bkAt l cn k ∨ bkAt l cn b = bkAt l cn k) with h | h
          · exact .inl h
          · exact .inr ⟨h, by omega⟩
def cnL (cn : Nat → Nat) (n : Nat) : List Int := (List.range n).map fun k => (cn k : Int)
theorem cnL_get {cn : Nat → Nat} {n k : Nat} (h : k < n) : (cnL cn n)[k]? = some (cn k : Int) := by simp [cnL, h]
theorem cnL_len (cn : Nat → Nat) (n : Nat) : (cnL cn n).length = n := by simp [cnL]
attribute [local go_sem] Int.reduceLT Int.reduceNeg in
set_option maxHeartbeats 4000000 in
theorem next_f (l : List File) (cn : Nat → Nat) : Fun Tryz.prog 36 [filesA l, ints (cnL cn l.length)] (int (nextI l cn l.length)) := by
  refine fun_W mixed Tryz.func36 rfl (Nat.le_of_ble_eq_true rfl) (by kernel_rfl) fun cx hN hR hF hL => ?_; apply args_k; (case hA => (simp only [go_sem, ↓reduceIte]; rfl))
  have hl : l.length ≤ 9223372036854775807 := by
    simp [maxLen] at hL
    omega
  have hcl := cnL_len cn l.length
  (try ((try (revert K;refine bK ?_));refine' run trivial ?_;(repeat' first|exact True.intro|refine Lv.mk ?_ ?_|(refine oK ?_;intro K hK)|intro hq);all_goals refine Lf.mk ?_))
  refine loopW mixed (σ := {i : Nat // i ≤ l.length}) (fun s => ⟨[(6, int s.1), (5, int (nextI l cn s.1)), (0, filesA l), (1, ints (cnL cn l.length))], [], 4000⟩) (fun s => l.length - s.1) id ⟨0, by omega⟩ (by rw [hN]; kernel_rfl) ?_ ?_
  · simp only [go_sem, ↓reduceIte, hF]
    exact ⟨rfl, rfl⟩
  · rintro ⟨i, h1⟩
    by_cases hi : i < l.length
    · have e0 : l[i]? = some l[i] := List.getElem?_eq_getElem hi
      have e1 : (l.map File.flat)[i]? = some l[i].flat := by rw [List.getElem?_map, e0]; rfl
      have e2 : IntKind.i64.wrap ((i : Int) + 1) = ((i + 1 : Nat) : Int) := by rw [wrap_id] <;> omega
      have hk1 : i < (l.map File.flat).length := by simpa using hi
      have e3 : ((cnL cn l.length).map irow)[i]? = some (irow (cn i : Int)) := by rw [List.getElem?_map, cnL_get hi]; rfl
      have hk2 : i < ((cnL cn l.length).map irow).length := by simpa [hcl] using hi
      have hla : lenAt l i = l[i].acts.length := by rw [lenAt, e0]
      have hb := nextI_is l cn i
      have hnx : nextI l cn (i + 1) = if cn i < lenAt l i ∧ (nextI l cn i < 0 ∨ bkAt l cn i < bkAt l cn (nextI l cn i).toNat) then (i : Int) else nextI l cn i := rfl
      by_cases hr : cn i < lenAt l i
      · have hr2 : cn i < l[i].acts.length := by omega
        have a0 : l[i].acts[cn i]? = some l[i].acts[cn i] := List.getElem?_eq_getElem hr2
        have a1 : (l[i].acts.map Act.flat)[cn i]? = some l[i].acts[cn i].flat := by rw [List.getElem?_map, a0]; rfl
        have a2 : cn i < (l[i].acts.map Act.flat).length := by simpa using hr2
        have a3 : bkAt l cn i = l[i].acts[cn i].booked := by rw [bkAt, e0]; simp only [a0]
        have hr3 : ((cn i : Int) < (l[i].acts.length : Int)) = True := eq_true (by omega)
        rcases hb with ⟨hb, _⟩ | ⟨b, b1, b2, b3, _⟩
        · rw [if_pos ⟨hr, .inl (by omega)⟩] at hnx
          rw [hb] at *
          generalize l[i].acts[cn i] = a at *
          generalize l[i] = f at *
          (try ((try (revert K;refine bK ?_));refine' run (I e1 (I e2 (I hk1 (I e3 (I hk2 (I hr3 (I (decide_eq_true (of_eq_true hr3)) (I a1 a2)))))))) ?_;(repeat' first|exact True.intro|refine Lv.mk ?_ ?_|(refine oK ?_;intro K hK)|intro hq);all_goals refine Lf.mk ?_))
          refine ⟨⟨i + 1, hi⟩, id, ?_, by show l.length - (i + 1) < l.length - i; omega⟩
          simp only [hnx]
          simp only [go_sem, ↓reduceIte, hF]
        · have hbl : b < l.length := by omega
          have f0 : l[b]? = some l[b] := List.getElem?_eq_getElem hbl
          have f1 : (l.map File.flat)[b]? = some l[b].flat := by rw [List.getElem?_map, f0]; rfl
          have hk3 : b < (l.map File.flat).length := by simpa using hbl
          have f3 : ((cnL cn l.length).map irow)[b]? = some (irow (cn b : Int)) := by rw [List.getElem?_map, cnL_get hbl]; rfl
          have hk4 : b < ((cnL cn l.length).map irow).length := by simpa [hcl] using hbl
          have hlb : lenAt l b = l[b].acts.length := by rw [lenAt, f0]
          have hr4 : cn b < l[b].acts.length := by omega
          have g0 : l[b].acts[cn b]? = some l[b].acts[cn b] := List.getElem?_eq_getElem hr4
          have g1 : (l[b].acts.map Act.flat)[cn b]? = some l[b].acts[cn b].flat := by rw [List.getElem?_map, g0]; rfl
          have g2 : cn b < (l[b].acts.map Act.flat).length := by simpa using hr4
          have g3 : bkAt l cn b = l[b].acts[cn b].booked := by rw [bkAt, f0]; simp only [g0]
          have hb0 : ((b : Int) < 0) = False := eq_false (by omega)
          rw [b2, Int.toNat_natCast, a3, g3] at hnx
          generalize l[i].acts[cn i] = a at *
          generalize l[b].acts[cn b] = d at *
          generalize l[i] = f at *
          generalize l[b] = g at *
          (try ((try (revert K;refine bK ?_));refine' run (I e1 (I e2 (I hk1 (I e3 (I hk2 (I hr3 (I (decide_eq_true (of_eq_true hr3)) (I a1 (I a2 (I f1 (I hk3 (I f3 (I hk4 (I g1 (I g2 (I b2 (I hb0 (decide_eq_false (of_eq_false hb0))))))))))))))))))) ?_;(repeat' first|exact True.intro|refine Lv.mk ?_ ?_|(refine oK ?_;intro K hK)|intro hq);all_goals refine Lf.mk ?_))
          · rw [if_pos ⟨hr, .inr hq⟩] at hnx
            refine ⟨⟨i + 1, hi⟩, id, ?_, by show l.length - (i + 1) < l.length - i; omega⟩
            simp only [hnx]
            simp only [go_sem, ↓reduceIte, hF]
          · rw [if_neg (by omega), ← b2] at hnx
            refine ⟨⟨i + 1, hi⟩, id, ?_, by show l.length - (i + 1) < l.length - i; omega⟩
            simp only [hnx]
            simp only [go_sem, ↓reduceIte, hF]
      · rw [if_neg (fun h => hr h.1)] at hnx
        have hr3 : ((cn i : Int) < (l[i].acts.length : Int)) = False := eq_false (by omega)
        generalize l[i] = f at *
        (try ((try (revert K;refine bK ?_));refine' run (I e1 (I e2 (I hk1 (I e3 (I hk2 (I hr3 (decide_eq_false (of_eq_false hr3)))))))) ?_;(repeat' first|exact True.intro|refine Lv.mk ?_ ?_|(refine oK ?_;intro K hK)|intro hq);all_goals refine Lf.mk ?_))
        refine ⟨⟨i + 1, hi⟩, id, ?_, by show l.length - (i + 1) < l.length - i; omega⟩
        simp only [hnx]
        simp only [go_sem, ↓reduceIte, hF]
    · obtain rfl : i = l.length := by omega
      (try ((try (revert K;refine bK ?_));refine' run trivial ?_;(repeat' first|exact True.intro|refine Lv.mk ?_ ?_|(refine oK ?_;intro K hK)|intro hq);all_goals refine Lf.mk ?_))
def totW (l : List Int) : Int := l.foldl (fun s x => IntKind.i64.wrap (s + x)) 0
theorem totW_take {l : List Int} {i : Nat} {x : Int} (h : l[i]? = some x) : totW (l.take (i + 1)) = IntKind.i64.wrap (totW (l.take i) + x) := by
  rw [List.take_add_one, h]
  simp [totW]
theorem total_f (l : List Int) : Fun Tryz.prog 37 [ints l] (int (totW l)) := by
  refine fun_W mixed Tryz.func37 rfl (Nat.le_of_ble_eq_true rfl) (by kernel_rfl) fun cx hN hR hF hL => ?_; apply args_k; (case hA => (simp only [go_sem, ↓reduceIte]; rfl))
  have hl : l.length ≤ 9223372036854775807 := by
    simp [maxLen] at hL
    omega
  (try ((try (revert K;refine bK ?_));refine' run trivial ?_;(repeat' first|exact True.intro|refine Lv.mk ?_ ?_|(refine oK ?_;intro K hK)|intro hq);all_goals refine Lf.mk ?_))
  refine loopW mixed (σ := {i : Nat // i ≤ l.length}) (fun s => ⟨[(4, int s.1), (3, int (totW (l.take s.1))), (0, ints l)], [], 4000⟩) (fun s => l.length - s.1) id ⟨0, by omega⟩ (by rw [hN]; kernel_rfl) ?_ ?_
  · simp only [go_sem, ↓reduceIte, hF]
    exact ⟨rfl, rfl⟩
  · rintro ⟨i, h1⟩
    by_cases hi : i < l.length
    · have e0 : l[i]? = some l[i] := List.getElem?_eq_getElem hi
      have e1 : (l.map irow)[i]? = some (irow l[i]) := by rw [List.getElem?_map, e0]; rfl
      have e2 : IntKind.i64.wrap ((i : Int) + 1) = ((i + 1 : Nat) : Int) := by rw [wrap_id] <;> omega
      have hk1 : i < (l.map irow).length := by simpa using hi
      have hs := totW_take e0
      generalize l[i] = x at *
      (try ((try (revert K;refine bK ?_));refine' run (I e1 (I e2 hk1)) ?_;(repeat' first|exact True.intro|refine Lv.mk ?_ ?_|(refine oK ?_;intro K hK)|intro hq);all_goals refine Lf.mk ?_))
      refine ⟨⟨i + 1, hi⟩, id, ?_, by show l.length - (i + 1) < l.length - i; omega⟩
      simp only [hs]
      simp only [go_sem, ↓reduceIte, hF]
    · obtain rfl : i = l.length := by omega
      simp only [List.take_length]
      (try ((try (revert K;refine bK ?_));refine' run trivial ?_;(repeat' first|exact True.intro|refine Lv.mk ?_ ?_|(refine oK ?_;intro K hK)|intro hq);all_goals refine Lf.mk ?_))
/-- How many of a file's acts were taken. -/
def cntE (E : List Stp) (k : Nat) : Nat := (E.filter fun s => decide (s.file = (k : Int))).length
/-- What is left of a file's acts. -/
theorem left_k {l : List File} (hs : ∀ f, f ∈ l → f.acts.Pairwise fun a b => a.booked ≤ b.booked) (m : Nat) {k : Nat} {f : File} (hk : l[k]? = some f) :
    ((ordL l).drop m).filter (fun s => decide (s.file = (k : Int))) = (f.acts.drop (cntE ((ordL l).take m) k)).map (Stp.mk (k : Int)) := by
  have h := ordL_fileK hs k
  rw [fileK, hk] at h
  simp only at h
  have h2 : (ordL l).filter (fun s => decide (s.file = (k : Int))) = ((ordL l).take m).filter (fun s => decide (s.file = (k : Int))) ++ ((ordL l).drop m).filter (fun s => decide (s.file = (k : Int))) := by
    rw [← List.filter_append, List.take_append_drop]
  rw [h] at h2
  rw [List.map_drop, h2, cntE, List.drop_left]
theorem lenAt_some {l : List File} {k : Nat} {f : File} (h : l[k]? = some f) : lenAt l k = f.acts.length := by rw [lenAt, h]
/-- The head of what is left of a file's acts. -/
theorem head_k {l : List File} (hs : ∀ f, f ∈ l → f.acts.Pairwise fun a b => a.booked ≤ b.booked) (m : Nat) {k : Nat} {f : File} (hk : l[k]? = some f) {y : Stp} {Y : List Stp}
    (hy : ((ordL l).drop m).filter (fun s => decide (s.file = (k : Int))) = y :: Y) : f.acts[cntE ((ordL l).take m) k]? = some y.act ∧ cntE ((ordL l).take m) k < lenAt l k ∧ bkAt l (cntE ((ordL l).take m)) k = y.act.booked ∧ y.file = (k : Int) := by
  rw [left_k hs m hk] at hy
  have h0 : f.acts[cntE ((ordL l).take m) k]? = some y.act := by
    rcases hd : f.acts.drop (cntE ((ordL l).take m) k) with _ | ⟨a, r⟩
    · rw [hd] at hy; simp at hy
    · rw [hd, List.map_cons, List.cons.injEq] at hy
      have h1 : (f.acts.drop (cntE ((ordL l).take m) k))[0]? = some a := by rw [hd]; rfl
      rw [List.getElem?_drop, Nat.add_zero] at h1
      rw [h1, ← hy.1]
  refine ⟨h0, ?_, ?_, ?_⟩
  · rw [lenAt_some hk]
    exact (List.getElem?_eq_some_iff.1 h0).1
  · rw [bkAt, hk]
    simp only [h0]
  · rcases hd : f.acts.drop (cntE ((ordL l).take m) k) with _ | ⟨a, r⟩
    · rw [hd] at hy; simp at hy
    · rw [hd, List.map_cons, List.cons.injEq] at hy
      rw [← hy.1]
theorem rem_k {l : List File} (hs : ∀ f, f ∈ l → f.acts.Pairwise fun a b => a.booked ≤ b.booked) (m : Nat) {k : Nat} (hr : cntE ((ordL l).take m) k < lenAt l k) :
    ∃ (f : File) (y : Stp) (Y : List Stp), l[k]? = some f ∧ ((ordL l).drop m).filter (fun s => decide (s.file = (k : Int))) = y :: Y := by
  rcases hk : l[k]? with _ | f
  · rw [lenAt, hk] at hr
    exact absurd hr (Nat.not_lt_zero _)
  · rw [lenAt_some hk] at hr
    refine ⟨f, ?_⟩
    rw [left_k hs m hk]
    rcases hd : f.acts.drop (cntE ((ordL l).take m) k) with _ | ⟨a, r⟩
    · rw [List.drop_eq_nil_iff] at hd
      omega
    · exact ⟨_, _, rfl, List.map_cons ..⟩
/-- The next act is the next one of the order. -/
theorem next_at {l : List File} (hs : ∀ f, f ∈ l → f.acts.Pairwise fun a b => a.booked ≤ b.booked) {m : Nat} {x : Stp} (hx : (ordL l)[m]? = some x) :
    ∃ (k : Nat) (f : File), x.file = (k : Int) ∧ l[k]? = some f ∧ nextI l (cntE ((ordL l).take m)) l.length = (k : Int) ∧ f.acts[cntE ((ordL l).take m) k]? = some x.act := by
  have hm := (List.getElem?_eq_some_iff.1 hx).1
  have hD : (ordL l).drop m = x :: (ordL l).drop (m + 1) := by rw [List.drop_eq_getElem_cons hm, (List.getElem?_eq_some_iff.1 hx).2]
  obtain ⟨k, f, h1, h2, h3⟩ := stepsL_mem (ordL_mem.1 (List.mem_of_getElem? hx))
  rw [Nat.zero_add] at h2
  have hF : ((ordL l).drop m).filter (fun s => decide (s.file = (k : Int))) = x :: ((ordL l).drop (m + 1)).filter (fun s => decide (s.file = (k : Int))) := by
    rw [hD, List.filter_cons_of_pos (by simp [h2])]
  obtain ⟨p1, p2, p3, p4⟩ := head_k hs m h1 hF
  have hkl := (List.getElem?_eq_some_iff.1 h1).1
  refine ⟨k, f, h2, h1, ?_, p1⟩
  have hsrt : Srt ltT ((ordL l).drop m) := (ordL_srt l).sublist (List.drop_sublist m _)
  have hmin : ∀ j, cntE ((ordL l).take m) j < lenAt l j → ¬ (bkAt l (cntE ((ordL l).take m)) j < x.act.booked) ∧ ¬ (bkAt l (cntE ((ordL l).take m)) j = x.act.booked ∧ j < k) := by
    intro j hj
    obtain ⟨g, y, Y, g1, g2⟩ := rem_k hs m hj
    obtain ⟨q1, q2, q3, q4⟩ := head_k hs m g1 g2
    have hyD : y ∈ (ordL l).drop m := by
      have : y ∈ ((ordL l).drop m).filter (fun s => decide (s.file = (j : Int))) := by rw [g2]; simp
      exact (List.mem_filter.1 this).1
    rw [hD, List.mem_cons] at hyD
    rw [hD] at hsrt
    have hlt : ltT y x = false := by
      rcases hyD with rfl | hyD
      · simp [ltT]
      · exact (List.pairwise_cons.1 hsrt).1 y hyD
    rw [q3]
    simp only [ltT, q4, h2, Bool.or_eq_false_iff, Bool.and_eq_false_iff, decide_eq_false_iff_not] at hlt
    obtain ⟨t1, t2⟩ := hlt
    refine ⟨t1, fun t => ?_⟩
    rcases t2 with t2 | t2
    · exact t2 t.1
    · omega
  rcases nextI_is l (cntE ((ordL l).take m)) l.length with ⟨_, n2⟩ | ⟨b, b1, b2, b3, b4⟩
  · exact absurd p2 (n2 k hkl)
  · have c1 := b4 k hkl p2
    have c2 := hmin b b3
    rw [p3] at c1
    rw [b2]
    omega
theorem next_end (l : List File) (hs : ∀ f, f ∈ l → f.acts.Pairwise fun a b => a.booked ≤ b.booked) : nextI l (cntE (ordL l)) l.length = -1 := by
  rcases nextI_is l (cntE (ordL l)) l.length with ⟨n1, _⟩ | ⟨b, b1, b2, b3, b4⟩
  · exact n1
  · have h := rem_k hs (ordL l).length (k := b) (by rw [List.take_length]; exact b3)
    obtain ⟨f, y, Y, _, h⟩ := h
    rw [List.drop_length] at h
    simp at h
theorem cnt_snoc (E : List Stp) (x : Stp) {k : Nat} (hx : x.file = (k : Int)) (n : Nat) : cnL (cntE (E ++ [x])) n = (cnL (cntE E) n).set k ((cntE E k : Int) + 1) := by
  apply List.ext_getElem?
  intro j
  rw [List.getElem?_set]
  by_cases hj : j < n
  · rw [cnL_get hj]
    have hc : cntE (E ++ [x]) j = cntE E j + if k = j then 1 else 0 := by
      unfold cntE
      rw [List.filter_append, List.length_append]
      by_cases h : k = j
      · subst h; simp [hx]
      · rw [if_neg h, List.filter_cons_of_neg (by rw [hx]; simp; omega)]
        simp
    by_cases h : k = j
    · subst h
      rw [if_pos rfl, cnL_len, if_pos hj, hc, if_pos rfl]
      rfl
    · rw [if_neg h, cnL_get hj, hc, if_neg h]
      rfl
  · have h1 : (cnL (cntE (E ++ [x])) n)[j]? = none := List.getElem?_eq_none (by rw [cnL_len]; omega)
    have h2 : (cnL (cntE E) n)[j]? = none := List.getElem?_eq_none (by rw [cnL_len]; omega)
    rw [h1, h2, cnL_len]
    split
    · rw [if_neg (by omega)]
    · rfl
theorem cnt_nil (n : Nat) : cnL (cntE []) n = List.replicate n 0 := by
  apply List.ext_getElem?
  intro j
  by_cases hj : j < n
  · rw [cnL_get hj]; simp [cntE, hj]
  · rw [List.getElem?_eq_none (by rw [cnL_len]; omega), List.getElem?_eq_none (by simp; omega)]

theorem totW_sum : ∀ (l : List Int) (s : Int), 0 ≤ s → (∀ x, x ∈ l → 0 ≤ x) → s + l.sum ≤ 9000000000000000000 → l.foldl (fun s x => IntKind.i64.wrap (s + x)) s = s + l.sum ∧ 0 ≤ l.sum
  | [], s, _, _, _ => by simp
  | x :: l, s, h0, h1, h2 => by
    have hx := h1 x (by simp)
    have h3 : ∀ (l : List Int), (∀ x, x ∈ l → 0 ≤ x) → 0 ≤ l.sum := by
      intro l
      induction l with
      | nil => intro _; simp
      | cons y l ih =>
        intro h
        have a1 := h y (by simp)
        have a2 := ih fun z hz => h z (by simp [hz])
        simp; omega
    have h4 := h3 l fun z hz => h1 z (by simp [hz])
    rw [List.sum_cons] at h2 ⊢
    have w : IntKind.i64.wrap (s + x) = s + x := by rw [wrap_id] <;> omega
    rw [List.foldl_cons, w]
    have := totW_sum l (s + x) (by omega) (fun z hz => h1 z (by simp [hz])) (by omega)
    exact ⟨by rw [this.1]; omega, by omega⟩
theorem tot_all {c : Cover} (hr : c.rightB = true) {n m : Nat} {s : PS} (h : PB c n m s) (hs : s.paid.sum = s.all) : totW s.paid = s.all := by
  have hc := cvRight_iff.1 hr
  have ha := h.al
  have := (totW_sum s.paid 0 (Int.le_refl _) (fun x hx => (h.pd x hx).1) (by omega)).1
  rw [totW, this]
  omega
end Go.Proofs.YtjplhfmakghabaaGreat.V
namespace Go.Proofs.YtjplhfmakghabaaGreat.V
open Go.RowKit
set_option maxRecDepth 100000
attribute [local go_sem] Option.toList_some Option.toList_none

def sumW (k : Int) (l : List Act) : Int := l.foldl (fun s a => if a.kind = k then IntKind.i64.wrap (s + a.amt) else s) 0
theorem sumW_snoc (k : Int) (l : List Act) (a : Act) : sumW k (l ++ [a]) = if a.kind = k then IntKind.i64.wrap (sumW k l + a.amt) else sumW k l := by simp [sumW]
theorem sumW_take {k : Int} {l : List Act} {i : Nat} {a : Act} (h : l[i]? = some a) : sumW k (l.take (i + 1)) = if a.kind = k then IntKind.i64.wrap (sumW k (l.take i) + a.amt) else sumW k (l.take i) := by
  rw [List.take_add_one, h]
  exact sumW_snoc k _ a
theorem stand_take {l : List Act} {i : Nat} {a : Act} (h : l[i]? = some a) : standS (l.take (i + 1)) = stOne (standS (l.take i)) a := by
  rw [List.take_add_one, h]
  exact standS_snoc _ a
theorem stand_sums (l : List Act) : ∀ i, i ≤ l.length → (standS (l.take i)).shown = sumW 2 (l.take i) ∧ (standS (l.take i)).back = sumW 3 (l.take i) := by
  intro i
  induction i with
  | zero => intro _; exact ⟨rfl, rfl⟩
  | succ i ih =>
    intro hi
    have e0 : l[i]? = some l[i] := List.getElem?_eq_getElem hi
    obtain ⟨h1, h2⟩ := ih (by omega)
    rw [stand_take e0, sumW_take e0, sumW_take e0, ← h1, ← h2]
    generalize l[i] = a
    unfold stOne
    constructor <;> (repeat' split) <;> first | rfl | omega
theorem rSum_f (f : File) (k : Int) (hl : f.acts.length ≤ 100000) : Fun Tryz.prog 38 [.agg f.flat, int k] (int (sumW k f.acts)) := by
  obtain ⟨c, l⟩ := f
  simp only at hl ⊢
  refine fun_W mixed Tryz.func38 rfl (Nat.le_of_ble_eq_true rfl) (by kernel_rfl) fun cx hN hR hF hL => ?_; apply args_k; (case hA => (simp only [go_sem, ↓reduceIte]; rfl))
  (try ((try (revert K;refine bK ?_));refine' run trivial ?_;(repeat' first|exact True.intro|refine Lv.mk ?_ ?_|(refine oK ?_;intro K hK)|intro hq);all_goals refine Lf.mk ?_))
  refine loopW mixed (σ := {i : Nat // i ≤ l.length}) (fun s => ⟨[(6, int s.1), (5, int (sumW k (l.take s.1))), (1, int k), (2, .ptr 0 0)], [(0, some ⟨41, (⟨c, l⟩ : File).flat⟩)], 3000⟩) (fun s => l.length - s.1) id ⟨0, by omega⟩ (by rw [hN]; kernel_rfl) ?_ ?_
  · simp only [go_sem, ↓reduceIte, hF]
    exact ⟨rfl, rfl⟩
  · rintro ⟨i, h1⟩
    by_cases hi : i < l.length
    · have e0 : l[i]? = some l[i] := List.getElem?_eq_getElem hi
      have e1 : (l.map Act.flat)[i]? = some l[i].flat := by rw [List.getElem?_map, e0]; rfl
      have e2 : IntKind.i64.wrap ((i : Int) + 1) = ((i + 1 : Nat) : Int) := by rw [wrap_id] <;> omega
      have hk1 : i < (l.map Act.flat).length := by simpa using hi
      have hs := sumW_take (k := k) e0
      generalize l[i] = a at *
      by_cases hk : a.kind = k
      · rw [if_pos hk] at hs
        (try ((try (revert K;refine bK ?_));refine' run (I e1 (I e2 (I hk1 (I (eq_true hk) (decide_eq_true hk))))) ?_;(repeat' first|exact True.intro|refine Lv.mk ?_ ?_|(refine oK ?_;intro K hK)|intro hq);all_goals refine Lf.mk ?_))
        refine ⟨⟨i + 1, hi⟩, id, ?_, by show l.length - (i + 1) < l.length - i; omega⟩
        simp only [hs]
        simp only [go_sem, ↓reduceIte, hF]
      · rw [if_neg hk] at hs
        (try ((try (revert K;refine bK ?_));refine' run (I e1 (I e2 (I hk1 (I (eq_false hk) (decide_eq_false hk))))) ?_;(repeat' first|exact True.intro|refine Lv.mk ?_ ?_|(refine oK ?_;intro K hK)|intro hq);all_goals refine Lf.mk ?_))
        refine ⟨⟨i + 1, hi⟩, id, ?_, by show l.length - (i + 1) < l.length - i; omega⟩
        simp only [hs]
        simp only [go_sem, ↓reduceIte, hF]
    · obtain rfl : i = l.length := by omega
      simp only [List.take_length]
      (try ((try (revert K;refine bK ?_));refine' run trivial ?_;(repeat' first|exact True.intro|refine Lv.mk ?_ ?_|(refine oK ?_;intro K hK)|intro hq);all_goals refine Lf.mk ?_))
attribute [local go_sem] Int.reduceEq in
set_option maxHeartbeats 4000000 in
theorem rStand_f (f : File) (hl : f.acts.length ≤ 100000) : Fun Tryz.prog 22 [.agg f.flat] (.agg (standP f.acts).flat) := by
  have hs2 := rSum_f f 2 hl
  have hs3 := rSum_f f 3 hl
  obtain ⟨c, l⟩ := f
  simp only at hl hs2 hs3 ⊢
  refine fun_W mixed Tryz.func22 rfl (Nat.le_of_ble_eq_true rfl) (by kernel_rfl) fun cx hN hR hF hL => ?_; apply args_k; (case hA => (simp only [go_sem, ↓reduceIte]; rfl))
  (repeat' first|((try (revert K;refine bK ?_));refine' run trivial ?_;(repeat' first|exact True.intro|refine Lv.mk ?_ ?_|(refine oK ?_;intro K hK)|intro hq);all_goals refine Lf.mk ?_)|refine callZ cl38 (hs2) ?_|refine callZ cl38 (hs3) ?_)
  refine loopW mixed (σ := {i : Nat // i ≤ l.length}) (fun s => ⟨[(4, int s.1), (3, .ptr 1040 0), (1, .ptr 0 0), (2, .ptr 8 0)], [(1040, some ⟨43, [int (standS (l.take s.1)).gross, int (sumW 2 l), int 0, int (sumW 3 l), int 0, bool (standS (l.take s.1)).opn]⟩), (8, some ⟨43, [int 0, int 0, int 0, int 0, int 0, bool false]⟩), (0, some ⟨41, (⟨c, l⟩ : File).flat⟩)], 3000⟩) (fun s => l.length - s.1) id ⟨0, by omega⟩ (by rw [hN]; kernel_rfl) ?_ ?_
  · simp only [go_sem, ↓reduceIte, hF]
    exact ⟨rfl, rfl⟩
  · rintro ⟨i, h1⟩
    by_cases hi : i < l.length
    · have e0 : l[i]? = some l[i] := List.getElem?_eq_getElem hi
      have e1 : (l.map Act.flat)[i]? = some l[i].flat := by rw [List.getElem?_map, e0]; rfl
      have e2 : IntKind.i64.wrap ((i : Int) + 1) = ((i + 1 : Nat) : Int) := by rw [wrap_id] <;> omega
      have hk1 : i < (l.map Act.flat).length := by simpa using hi
      have hs := stand_take e0
      generalize l[i] = a at *
      obtain ⟨bk, kd, am⟩ := a
      by_cases k1 : kd = 1
      · subst k1
        rw [stOne_1] at hs
        (try ((try (revert K;refine bK ?_));refine' run (I e1 (I e2 hk1)) ?_;(repeat' first|exact True.intro|refine Lv.mk ?_ ?_|(refine oK ?_;intro K hK)|intro hq);all_goals refine Lf.mk ?_))
        refine ⟨⟨i + 1, hi⟩, id, ?_, by show l.length - (i + 1) < l.length - i; omega⟩
        simp only [hs]
        simp only [go_sem, ↓reduceIte, hF]
      · by_cases k4 : kd = 4
        · subst k4
          rw [stOne_4] at hs
          (try ((try (revert K;refine bK ?_));refine' run (I e1 (I e2 hk1)) ?_;(repeat' first|exact True.intro|refine Lv.mk ?_ ?_|(refine oK ?_;intro K hK)|intro hq);all_goals refine Lf.mk ?_))
          refine ⟨⟨i + 1, hi⟩, id, ?_, by show l.length - (i + 1) < l.length - i; omega⟩
          simp only [hs]
          simp only [go_sem, ↓reduceIte, hF]
        · by_cases k5 : kd = 5
          · subst k5
            rw [stOne_5] at hs
            (try ((try (revert K;refine bK ?_));refine' run (I e1 (I e2 hk1)) ?_;(repeat' first|exact True.intro|refine Lv.mk ?_ ?_|(refine oK ?_;intro K hK)|intro hq);all_goals refine Lf.mk ?_))
            refine ⟨⟨i + 1, hi⟩, id, ?_, by show l.length - (i + 1) < l.length - i; omega⟩
            simp only [hs]
            simp only [go_sem, ↓reduceIte, hF]
          · have hg : (standS (l.take (i + 1))).gross = (standS (l.take i)).gross := by
              rw [hs]; unfold stOne; simp only; rw [if_neg k1]; (repeat' split) <;> rfl
            have ho : (standS (l.take (i + 1))).opn = (standS (l.take i)).opn := by
              rw [hs]; unfold stOne; simp only; rw [if_neg k1, if_neg k4, if_neg k5]; (repeat' split) <;> rfl
            (try ((try (revert K;refine bK ?_));refine' run (I e1 (I e2 (I hk1 (I (eq_false k1) (I (decide_eq_false k1) (I (eq_false k4) (I (decide_eq_false k4) (I (eq_false k5) (decide_eq_false k5))))))))) ?_;(repeat' first|exact True.intro|refine Lv.mk ?_ ?_|(refine oK ?_;intro K hK)|intro hq);all_goals refine Lf.mk ?_))
            refine ⟨⟨i + 1, hi⟩, id, ?_, by show l.length - (i + 1) < l.length - i; omega⟩
            simp only [hg, ho]
            simp only [go_sem, ↓reduceIte, hF]
    · obtain rfl : i = l.length := by omega
      have hsm := stand_sums l l.length (Nat.le_refl _)
      simp only [List.take_length] at hsm ⊢
      rw [← hsm.1, ← hsm.2]
      (try ((try (revert K;refine bK ?_));refine' run trivial ?_;(repeat' first|exact True.intro|refine Lv.mk ?_ ?_|(refine oK ?_;intro K hK)|intro hq);all_goals refine Lf.mk ?_))
      · exact ⟨(Int.max_eq_right (Int.le_of_lt hq)).symm, rfl, rfl, rfl, rfl, rfl⟩
      · exact ⟨(Int.max_eq_left hq).symm, rfl, rfl, rfl, rfl, rfl⟩

/-- Over which bound an act would lead, in the reference's words. -/
theorem over_ref {s : St} {a : Act} (h1 : 0 ≤ s.shown ∧ s.shown ≤ 1000000000000000) (h2 : 0 ≤ s.back ∧ s.back ≤ 1000000000000000) (hr : a.rightB = true) :
    overA s a = ((decide (a.kind = 2) && decide (1000000000000000 < IntKind.i64.wrap (s.shown + a.amt))) || (decide (a.kind = 3) && decide (1000000000000000 < IntKind.i64.wrap (s.back + a.amt)))) := by
  have ha := Act.right_iff.1 hr
  have hk : (if a.kind = 4 ∨ a.kind = 5 then (0 : Int) else 1000000000000000) ≤ 1000000000000000 := by split <;> omega
  have w1 : IntKind.i64.wrap (s.shown + a.amt) = s.shown + a.amt := by rw [wrap_id] <;> omega
  have w2 : IntKind.i64.wrap (s.back + a.amt) = s.back + a.amt := by rw [wrap_id] <;> omega
  have w3 : IntKind.i64.wrap (1000000000000000 - s.shown) = 1000000000000000 - s.shown := by rw [wrap_id] <;> omega
  have w4 : IntKind.i64.wrap (1000000000000000 - s.back) = 1000000000000000 - s.back := by rw [wrap_id] <;> omega
  unfold overA
  rw [w1, w2, w3, w4]
  have d1 : decide (a.amt > 1000000000000000 - s.shown) = decide (1000000000000000 < s.shown + a.amt) := by rw [decide_eq_decide]; omega
  have d2 : decide (a.amt > 1000000000000000 - s.back) = decide (1000000000000000 < s.back + a.amt) := by rw [decide_eq_decide]; omega
  rw [d1, d2]
theorem opn_ref {o : Bool} {k : Prop} [Decidable k] (h : (o = false ∨ ¬k) ∧ (o = true ∨ k)) : ¬ (o = decide k) := by
  cases o <;> by_cases h2 : k <;> simp_all
theorem opn_ref2 {o : Bool} {k : Prop} [Decidable k] (h : o = true ∧ k ∨ o = false ∧ ¬k) : o = decide k := by
  cases o <;> by_cases h2 : k <;> simp_all
set_option maxHeartbeats 4000000 in
theorem rPut_f (f : File) (a : Act) (hg : Good f.claim f.acts) : Fun Tryz.prog 83 [.agg f.flat, .agg a.flat] (.tup [.agg (putF f a).flat, int (putE f a)]) := by
  have hgl := hg.len
  have hst := rStand_f f (by omega)
  have hlc : (f.acts.map Act.flat).flatten.length = f.acts.length * 3 := rows_count act_len _
  have hov := over_ref (a := a) hg.shown hg.back
  have hlb : lastB f = match f.acts.getLast? with | some b => b.booked | none => f.claim.booked := rfl
  rcases List.eq_nil_or_concat f.acts with h | ⟨p, x, h⟩
  · have hlb2 : lastB f = f.claim.booked := by rw [hlb, h]; rfl
    have h0 : ((f.acts.length : Int) > 0) = False := eq_false (by rw [h]; simp)
    refine fun_W mixed Tryz.func83 rfl (Nat.le_of_ble_eq_true rfl) (by kernel_rfl) fun cx hN hR hF hL => ?_; apply args_k; (case hA => (simp only [go_sem, ↓reduceIte]; rfl))
    (repeat' first|((try (revert K;refine bK ?_));refine' run h0 ?_;(repeat' first|exact True.intro|refine Lv.mk ?_ ?_|(refine oK ?_;intro K hK)|intro hq);all_goals refine Lf.mk ?_)|refine callZ cl92 (refAct_f a) ?_|refine callZ cl22 (hst) ?_)
    · have e : putE f a = 1 := by
        unfold putE
        (repeat' split) <;> first | rfl | omega | (simp_all [standP]; done) | (simp_all [standP]; omega)
      rw [put_1 e (by omega), e]
      simp [zeroF]
    · have e : putE f a = 2 := by
        unfold putE
        (repeat' split) <;> first | rfl | omega | (simp_all [standP]; done) | (simp_all [standP]; omega)
      rw [put_1 e (by omega), e]
      simp [zeroF]
    · have e : putE f a = 4 := by
        unfold putE
        (repeat' split) <;> first | rfl | omega | (simp_all [standP]; done) | (simp_all [standP]; omega)
      rw [put_1 e (by omega), e]
      simp [zeroF]
    · have e : putE f a = 10 := by
        unfold putE
        rw [if_neg (by simp_all), if_neg (by omega), if_neg (by omega), if_pos (opn_ref2 (by assumption))]
      rw [put_1 e (by omega), e]
      simp [zeroF]
    · have e : putE f a = 5 := by
        have h5 : overA (standS f.acts) a = true := by rw [hov (by assumption)]; simpa [standP] using hq
        unfold putE
        rw [if_neg (by simp_all), if_neg (by omega), if_neg (by omega), if_neg (opn_ref (by assumption)), if_pos h5]
      rw [put_1 e (by omega), e]
      simp [zeroF]
    · have e : putE f a = 0 := by
        have h5 : ¬ overA (standS f.acts) a = true := by
          rw [hov (by assumption)]
          obtain ⟨h1, h2⟩ := hq
          simp only [Bool.or_eq_true, Bool.and_eq_true, decide_eq_true_eq, not_or, not_and]
          exact ⟨fun h => by rcases h1 with h1 | h1; · exact absurd h h1
                             · exact Int.not_lt.2 h1, fun h => by rcases h2 with h2 | h2; · exact absurd h h2
                                                                  · exact Int.not_lt.2 h2⟩
        unfold putE
        rw [if_neg (by simp_all), if_neg (by omega), if_neg (by omega), if_neg (opn_ref (by assumption)), if_neg h5]
      rw [put_0 e, e]
      exact ⟨⟨rfl, rfl, rfl, rfl, rfl, rfl, ⟨by simp, rows_len act_len _⟩, fzo_snoc f.acts a rfl⟩, rfl⟩
    · exact ⟨hlc, by simp [maxLen]; omega⟩
    · simp [maxLen]; omega
    · exact fun h _ => h
    · exact fun h _ => h
  · rw [List.concat_eq_append] at h
    have hlen : (f.acts.length : Int) = (p.length : Int) + 1 := by rw [h, List.length_append, List.length_singleton]; omega
    have h0 : ((f.acts.length : Int) > 0) = True := eq_true (by omega)
    have w1 : IntKind.i64.wrap ((f.acts.length : Int) - 1) = (p.length : Int) := by rw [wrap_id] <;> omega
    have e1 : (f.acts.map Act.flat)[p.length]? = some x.flat := by rw [h]; simp
    have hk : p.length < (f.acts.map Act.flat).length := by rw [h]; simp
    have w2 : ((p.length : Int) < (f.acts.length : Int)) = True := eq_true (by omega)
    have hr : f.acts.getLast? = some x := by rw [h]; simp
    have hlb2 : lastB f = x.booked := by rw [hlb, hr]
    refine fun_W mixed Tryz.func83 rfl (Nat.le_of_ble_eq_true rfl) (by kernel_rfl) fun cx hN hR hF hL => ?_; apply args_k; (case hA => (simp only [go_sem, ↓reduceIte]; rfl))
    (repeat' first|((try (revert K;refine bK ?_));refine' run (I h0 (I w1 (I e1 (I hk w2)))) ?_;(repeat' first|exact True.intro|refine Lv.mk ?_ ?_|(refine oK ?_;intro K hK)|intro hq);all_goals refine Lf.mk ?_)|refine callZ cl92 (refAct_f a) ?_|refine callZ cl22 (hst) ?_)
    · have e : putE f a = 1 := by
        unfold putE
        (repeat' split) <;> first | rfl | omega | (simp_all [standP]; done) | (simp_all [standP]; omega)
      rw [put_1 e (by omega), e]
      simp [zeroF]
    · have e : putE f a = 2 := by
        unfold putE
        (repeat' split) <;> first | rfl | omega | (simp_all [standP]; done) | (simp_all [standP]; omega)
      rw [put_1 e (by omega), e]
      simp [zeroF]
    · have e : putE f a = 4 := by
        unfold putE
        (repeat' split) <;> first | rfl | omega | (simp_all [standP]; done) | (simp_all [standP]; omega)
      rw [put_1 e (by omega), e]
      simp [zeroF]
    · have e : putE f a = 10 := by
        unfold putE
        rw [if_neg (by simp_all), if_neg (by omega), if_neg (by omega), if_pos (opn_ref2 (by assumption))]
      rw [put_1 e (by omega), e]
      simp [zeroF]
    · have e : putE f a = 5 := by
        have h5 : overA (standS f.acts) a = true := by rw [hov (by assumption)]; simpa [standP] using hq
        unfold putE
        rw [if_neg (by simp_all), if_neg (by omega), if_neg (by omega), if_neg (opn_ref (by assumption)), if_pos h5]
      rw [put_1 e (by omega), e]
      simp [zeroF]
    · have e : putE f a = 0 := by
        have h5 : ¬ overA (standS f.acts) a = true := by
          rw [hov (by assumption)]
          obtain ⟨h1, h2⟩ := hq
          simp only [Bool.or_eq_true, Bool.and_eq_true, decide_eq_true_eq, not_or, not_and]
          exact ⟨fun h => by rcases h1 with h1 | h1; · exact absurd h h1
                             · exact Int.not_lt.2 h1, fun h => by rcases h2 with h2 | h2; · exact absurd h h2
                                                                  · exact Int.not_lt.2 h2⟩
        unfold putE
        rw [if_neg (by simp_all), if_neg (by omega), if_neg (by omega), if_neg (opn_ref (by assumption)), if_neg h5]
      rw [put_0 e, e]
      exact ⟨⟨rfl, rfl, rfl, rfl, rfl, rfl, ⟨by simp, rows_len act_len _⟩, fzo_snoc f.acts a rfl⟩, rfl⟩
    · exact ⟨hlc, by simp [maxLen]; omega⟩
    · simp [maxLen]; omega
    · exact fun h _ => h
    · exact fun h _ => h
set_option maxHeartbeats 4000000 in
theorem rMade_f (f : File) : Fun Tryz.prog 63 [.agg f.flat] (bool f.made) := by
  obtain ⟨c, l⟩ := f
  refine fun_W mixed Tryz.func63 rfl (Nat.le_of_ble_eq_true rfl) (by kernel_rfl) fun cx hN hR hF hL => ?_; apply args_k; (case hA => (simp only [go_sem, ↓reduceIte]; rfl))
  have hl : l.length ≤ 9223372036854775807 := by
    simp [maxLen, File.flat] at hL
    omega
  (repeat' first|((try (revert K;refine bK ?_));refine' run trivial ?_;(repeat' first|exact True.intro|refine Lv.mk ?_ ?_|(refine oK ?_;intro K hK)|intro hq);all_goals refine Lf.mk ?_)|refine callZ cl82 (rOpen_f c) ?_)
  refine loopW mixed (σ := {i : Nat // i ≤ l.length ∧ madeL c [] (l.take i) = true}) (fun s => ⟨[(4, int s.1), (3, .ptr 1024 0), (1, .ptr 0 0)], [(1024, some ⟨41, (⟨c, l.take s.1⟩ : File).flat⟩), (0, some ⟨41, (⟨c, l⟩ : File).flat⟩)], 3000⟩) (fun s => l.length - s.1) id ⟨0, by omega, rfl⟩ (by rw [hN]; kernel_rfl) ?_ ?_
  · simp only [go_sem, ↓reduceIte, hF]
    exact ⟨rfl, rfl⟩
  · rintro ⟨i, h1, hm⟩
    by_cases hi : i < l.length
    · have hq2 : l[i]? = some l[i] := List.getElem?_eq_getElem hi
      have e1 : (l.map Act.flat)[i]? = some l[i].flat := by rw [List.getElem?_map, hq2]; rfl
      have e5 : IntKind.i64.wrap ((i : Int) + 1) = ((i + 1 : Nat) : Int) := by rw [wrap_id] <;> omega
      have hk1 : i < (l.map Act.flat).length := by simpa using hi
      have hn := made_next hq2 hm
      generalize l[i] = a at *
      have hp := rPut_f ⟨c, l.take i⟩ a (made_good (f := ⟨c, l.take i⟩) hm)
      by_cases h0 : putE ⟨c, l.take i⟩ a = 0
      · have hn2 : madeL c [] (l.take (i + 1)) = true := by rw [hn, h0]; rfl
        have hg : l.take (i + 1) = l.take i ++ [a] := by rw [List.take_add_one, hq2]; rfl
        rw [put_0 h0, h0] at hp
        (repeat' first|((try (revert K;refine bK ?_));refine' run (I e1 (I e5 hk1)) ?_;(repeat' first|exact True.intro|refine Lv.mk ?_ ?_|(refine oK ?_;intro K hK)|intro hq);all_goals refine Lf.mk ?_)|refine callZ cl83 (hp) ?_)
        refine ⟨⟨i + 1, hi, hn2⟩, id, ?_, by show l.length - (i + 1) < l.length - i; omega⟩
        simp only [hg]
        simp only [go_sem, ↓reduceIte, hF]
      · have hn2 : madeL c [] (l.take (i + 1)) = false := by rw [hn]; exact decide_eq_false h0
        have hn3 := made_not hn2
        (repeat' first|((try (revert K;refine bK ?_));refine' run (I e1 (I e5 (I hk1 (I (eq_false h0) (decide_eq_false h0))))) ?_;(repeat' first|exact True.intro|refine Lv.mk ?_ ?_|(refine oK ?_;intro K hK)|intro hq);all_goals refine Lf.mk ?_)|refine callZ cl83 (hp) ?_)
        exact hn3.symm
    · obtain rfl : i = l.length := by omega
      rw [List.take_length] at hm
      (try ((try (revert K;refine bK ?_));refine' run trivial ?_;(repeat' first|exact True.intro|refine Lv.mk ?_ ?_|(refine oK ?_;intro K hK)|intro hq);all_goals refine Lf.mk ?_))
      exact hm.symm
theorem rRight_f (c : Cover) (l : List File) : Fun Tryz.prog 34 [.agg c.flat, filesA l] (bool (adjRight c l)) := by
  refine fun_W mixed Tryz.func34 rfl (Nat.le_of_ble_eq_true rfl) (by kernel_rfl) fun cx hN hR hF hL => ?_; apply args_k; (case hA => (simp only [go_sem, ↓reduceIte]; rfl))
  have hl : l.length ≤ 9223372036854775807 := by
    simp [maxLen] at hL
    omega
  (try ((try (revert K;refine bK ?_));refine' run trivial ?_;(repeat' first|exact True.intro|refine Lv.mk ?_ ?_|(refine oK ?_;intro K hK)|intro hq);all_goals refine Lf.mk ?_))
  refine loopW mixed (σ := {i : Nat // i ≤ l.length ∧ (l.take i).all (okFile c.peril) = true}) (fun s => ⟨[(5, int s.1), (1, filesA l), (2, .ptr 0 0)], [(0, some ⟨23, c.flat⟩)], 2000⟩) (fun s => l.length - s.1) id ⟨0, by omega, rfl⟩ (by rw [hN]; kernel_rfl) ?_ ?_
  · simp only [go_sem, ↓reduceIte, hF]
    rfl
  · rintro ⟨i, h1, hm⟩
    by_cases hi : i < l.length
    · have e0 : l[i]? = some l[i] := List.getElem?_eq_getElem hi
      have e1 : (l.map File.flat)[i]? = some l[i].flat := by rw [List.getElem?_map, e0]; rfl
      have e2 : IntKind.i64.wrap ((i : Int) + 1) = ((i + 1 : Nat) : Int) := by rw [wrap_id] <;> omega
      have hk1 : i < (l.map File.flat).length := by simpa using hi
      have hn : (l.take (i + 1)).all (okFile c.peril) = okFile c.peril l[i] := by rw [List.take_succ_eq_append_getElem hi, List.all_append, hm]; simp
      have hmem : l[i] ∈ l := List.getElem_mem hi
      generalize l[i] = f at *
      have hf := rMade_f f
      have ho : okFile c.peril f = (f.claim.formedB && decide (f.claim.peril = c.peril) && f.made) := rfl
      (repeat' first|((try (revert K;refine bK ?_));refine' run (I e1 (I e2 hk1)) ?_;(repeat' first|exact True.intro|refine Lv.mk ?_ ?_|(refine oK ?_;intro K hK)|intro hq);all_goals refine Lf.mk ?_)|refine callZ cl62 (refFormed_f f.claim) ?_|refine callZ cl63 (hf) ?_)
      · have hb : okFile c.peril f = false := by rw [ho]; rcases hq with (h | h) | h <;> simp [h]
        have ha : l.all (okFile c.peril) = false := List.all_eq_false.2 ⟨f, hmem, by simp [hb]⟩
        rw [adjRight, ha, Bool.and_false]
      · refine ⟨⟨i + 1, hi, by rw [hn, ho]; simp [hq.1.1, hq.1.2, hq.2]⟩, id, ?_, by show l.length - (i + 1) < l.length - i; omega⟩
        simp only [go_sem, ↓reduceIte, hF]
    · obtain rfl : i = l.length := by omega
      rw [List.take_length] at hm
      have hA : adjRight c l = c.rightB := by rw [adjRight, hm, Bool.and_true]
      (repeat' first|((try (revert K;refine bK ?_));refine' run hA ?_;(repeat' first|exact True.intro|refine Lv.mk ?_ ?_|(refine oK ?_;intro K hK)|intro hq);all_goals refine Lf.mk ?_)|refine callZ cl39 (rCover_f c) ?_)
end Go.Proofs.YtjplhfmakghabaaGreat.V
set_option linter.unusedSimpArgs false
set_option linter.unusedVariables false
namespace Go.Proofs.YtjplhfmakghabaaGreat.V
open Go.RowKit
set_option maxRecDepth 100000
attribute [local go_sem] Option.toList_some Option.toList_none

theorem fz_ints {box : Boxes} {b n : Nat} {t : TypeId} {L : List Int} (d : Nat) (h : bget box b = some ⟨t, rowC irow L⟩) (hn : n = L.length) : fz box (d + 1) (.osl b 1 0 n) (ints L) := by
  rw [fz_osl, h]
  exact ⟨⟨rfl, rfl, by omega, by simp [hn], rows_len (F := irow) (fun _ => rfl) L⟩, fzo_rows (F := irow) (k := 1) (fun _ => rfl) (fun _ => by simp [irow]) L hn⟩
theorem fz_self {box : Boxes} (d : Nat) (f : Bool) (k : Nat) (l : List (List AV)) : fz box (d + 1) (.sl f k l) (.sl f k l) := by
  rw [fz]
  exact ⟨rfl, rfl, id⟩
attribute [local go_sem] Int.reduceEq Int.reduceNeg List.length_set in
set_option maxHeartbeats 8000000 in
theorem rPaid_f (c : Cover) (l : List File) (hc : c.ok) (hl : l.length ≤ 100000) : Fun Tryz.prog 21 [.agg c.flat, filesA l] (.tup [rowsA (paidR c l), int (checkE c l)]) := by
  by_cases har : adjRight c l = true
  · have hN0 := actsN_le l 2000 (right_len har)
    have hN1 : l.length * 2000 ≤ 100000 * 2000 := Nat.mul_le_mul_right _ hl
    have hW : IntKind.i64.wrap (actsN l : Int) = (actsN l : Int) := by rw [wrap_id] <;> omega
    have hac := acts_f l
    rw [hW] at hac
    by_cases hn : l.length ≤ 2000 ∧ actsN l ≤ 2000
    · have he : checkE c l = 0 := by rw [checkE, if_neg (by rw [har]; decide), if_neg (by omega)]
      have har0 : c.rightB = true := by
        rw [adjRight, Bool.and_eq_true] at har
        exact har.1
      have n1 : ((l.length : Int) > 2000) = False := eq_false (by omega)
      have n2 : ((actsN l : Int) > 2000) = False := eq_false (by omega)
      rcases Nat.eq_zero_or_pos l.length with h0 | h0
      · obtain rfl := List.length_eq_zero_iff.1 h0
        have hnx0 := next_f [] (cntE [])
        have hpr : paidR c [] = [] := by rw [paidR, if_pos he]; rfl
        rw [hpr, he]
        refine fun_W mixed Tryz.func21 rfl (Nat.le_of_ble_eq_true rfl) (by kernel_rfl) fun cx hN hR hF hL => ?_; apply args_k; (case hA => (simp only [go_sem, ↓reduceIte]; rfl))
        (repeat' first|((try (revert K;refine bK ?_));refine' run (I har (I n1 (I n2 (I (decide_eq_false (of_eq_false n1)) (decide_eq_false (of_eq_false n2)))))) ?_;(repeat' first|exact True.intro|refine Lv.mk ?_ ?_|(refine oK ?_;intro K hK)|intro hq);all_goals refine Lf.mk ?_)|refine callZ cl34 (rRight_f c []) ?_|refine callZ cl35 (hac) ?_|refine rounds_s ?_)
        (apply callL' [3016] cl36 (hnx0); (case hp | hl => (simp only [go_sem, ↓reduceIte]; try rfl)); (case hx => (simp [AV.flat0])); (try (case hfz => (first | (simp only [go_sem]; done) | (simp [go_sem, fzo]; done)))))
        · exact ⟨fz_self 5 _ _ _, fz_ints 5 rfl rfl, trivial⟩
        (repeat' first|((try (revert K;refine bK ?_));refine' run trivial ?_;(repeat' first|exact True.intro|refine Lv.mk ?_ ?_|(refine oK ?_;intro K hK)|intro hq);all_goals refine Lf.mk ?_)|refine rounds_s ?_)
        refine loop_rounds mixed 1 (by rw [hN]; kernel_rfl) ?_
        have hm1 : nextI [] (cntE []) 0 = -1 := rfl
        (repeat' first|((try (revert K;refine bK ?_));refine' run hm1 ?_;(repeat' first|exact True.intro|refine Lv.mk ?_ ?_|(refine oK ?_;intro K hK)|intro hq);all_goals refine Lf.mk ?_)|refine rounds_s ?_)
      · have hz0 := rowI_nz (l := List.replicate l.length (0 : Int)) (by simpa using h0)
        have hnx0 := next_f l (cntE [])
        rw [cnt_nil] at hnx0
        refine fun_W mixed Tryz.func21 rfl (Nat.le_of_ble_eq_true rfl) (by kernel_rfl) fun cx hN hR hF hL => ?_; apply args_k; (case hA => (simp only [go_sem, ↓reduceIte]; rfl))
        (repeat' first|((try (revert K;refine bK ?_));refine' run (I har (I n1 (I n2 (I (decide_eq_false (of_eq_false n1)) (decide_eq_false (of_eq_false n2)))))) ?_;(repeat' first|exact True.intro|refine Lv.mk ?_ ?_|(refine oK ?_;intro K hK)|intro hq);all_goals refine Lf.mk ?_)|refine callZ cl34 (rRight_f c l) ?_|refine callZ cl35 (hac) ?_|refine rounds_s ?_)
        rotate_left
        · simp [maxLen]; omega
        · simp [maxLen]; omega
        · simp [maxLen]; omega
        simp only [zerosR_int]
        (apply callL' [3016] cl36 (hnx0); (case hp | hl => (simp only [go_sem, ↓reduceIte]; try rfl)); (case hx => (simp [AV.flat0])); (try (case hfz => (first | (simp only [go_sem]; done) | (simp [go_sem, fzo]; done)))))
        · exact ⟨fz_self 5 _ _ _, fz_ints 5 rfl (by simp), trivial⟩
        (repeat' first|((try (revert K;refine bK ?_));refine' run trivial ?_;(repeat' first|exact True.intro|refine Lv.mk ?_ ?_|(refine oK ?_;intro K hK)|intro hq);all_goals refine Lf.mk ?_)|refine rounds_s ?_)
        refine loop_nil 9 8000 3 63 rfl (Nat.le_of_ble_eq_true rfl) ?_
        have hLn := ordL_len l
        have hmem := fun x (hx : x ∈ ordL l) => step_right har hx
        have hPB := payL_PB har0 l.length (L := ordL l) (fun x hx => by obtain ⟨k, _, _, _, h⟩ := hmem x hx; exact h)
        have hsum := payL_sum har
        have hsr := srt_of har
        have hnat := fun m x (hx : (ordL l)[m]? = some x) => next_at hsr hx
        have hend := next_end l hsr
        have hrp := rPays_f c
        generalize hLe : ordL l = L at *
        refine loopW mixed (σ := {m : Nat // m ≤ L.length}) (fun s => ⟨[(10, int (nextI l (cntE (L.take s.1)) l.length)), (9, .osl 8000 3 0 (payL c l.length (L.take s.1)).out.length), (8, .osl 5016 1 0 l.length), (7, .osl 4016 1 0 l.length), (6, .osl 3016 1 0 l.length), (2, .ptr 0 0), (1, filesA l)], [(8000, some ⟨63, rowC r3row (payL c l.length (L.take s.1)).out⟩), (5016, some ⟨3, rowC irow (payL c l.length (L.take s.1)).paid⟩), (4016, some ⟨3, rowC irow (payL c l.length (L.take s.1)).shown⟩), (3016, some ⟨3, rowC irow (cnL (cntE (L.take s.1)) l.length)⟩), (0, some ⟨23, c.flat⟩)], 8001⟩) (fun s => L.length - s.1) id ⟨0, by omega⟩ (by rw [hN]; kernel_rfl) ?_ ?_
        · simp only [go_sem, ↓reduceIte, hF]
          exact ⟨rfl, rfl, rfl, rfl, by rw [cnt_nil]⟩
        · rintro ⟨m, g1⟩
          by_cases gi : m < L.length
          · have e0 : L[m]? = some L[m] := List.getElem?_eq_getElem gi
            have hnx := payL_take (c := c) (n := l.length) e0
            have hP := hPB m g1
            have hS := hsum m g1
            have htk : L.take (m + 1) = L.take m ++ [L[m]] := List.take_succ_eq_append_getElem gi
            obtain ⟨k, f, t1, t2, t3, t4⟩ := hnat m _ e0
            obtain ⟨_, _, _, _, q4⟩ := hmem _ (List.getElem_mem gi)
            have hcn := cnt_snoc (L.take m) L[m] t1 l.length
            rw [← htk] at hcn
            have hnf := next_f l (cntE (L.take (m + 1)))
            generalize L[m] = x at *
            obtain ⟨xf, bk, kd, am⟩ := x
            simp only at t1 t4 q4
            subst t1
            have q1 : k < l.length := (List.getElem?_eq_some_iff.1 t2).1
            have gk := hP.get1 k
            have gp := hP.get2 k
            have gb := hP.al
            have gl1 := hP.l1
            have gl2 := hP.l2
            unfold payOne at hnx
            simp only [Int.toNat_natCast] at hnx
            have b1 : (l.map File.flat)[k]? = some f.flat := by rw [List.getElem?_map, t2]; rfl
            have b2 : k < (l.map File.flat).length := by simpa using q1
            have gl3 := cnL_len (cntE (L.take m)) l.length
            have b3 := rowI_some (cnL_get (cn := cntE (L.take m)) q1)
            have b4 : (f.acts.map Act.flat)[cntE (L.take m) k]? = some (Act.flat ⟨bk, kd, am⟩) := by rw [List.getElem?_map, t4]; rfl
            have b5 : cntE (L.take m) k < (f.acts.map Act.flat).length := by simpa using (List.getElem?_eq_some_iff.1 t4).1
            have hcb : cntE (L.take m) k ≤ m := Nat.le_trans (List.length_filter_le _ _) (by rw [List.length_take]; omega)
            have b6 : IntKind.i64.wrap ((cntE (L.take m) k : Int) + 1) = (cntE (L.take m) k : Int) + 1 := by rw [wrap_id] <;> omega
            have b7 := rowI_put (cnL (cntE (L.take m)) l.length) k ((cntE (L.take m) k : Int) + 1) (by omega)
            have z0 := rowI_nz (l := cnL (cntE (L.take m)) l.length) (by omega)
            have b8 : k < (cnL (cntE (L.take m)) l.length).length := by omega
            rw [← hcn] at b7
            have hcnt : 0 ≤ (cntE (L.take m) k : Int) ∧ (cntE (L.take m) k : Int) < (f.acts.length : Int) := by simp at b5; omega
            by_cases hk : kd = 2
            · subst hk
              rw [if_pos rfl] at hnx
              have htf := total_f (payL c l.length (L.take m)).paid
              rw [tot_all har0 hP hS] at htf
              generalize payL c l.length (L.take m) = s at *
              obtain ⟨sS, sP, sA, sO⟩ := s
              simp only at gl1 gl2 gk gp gb hnx htf
              have ou := hP.ou
              simp only at ou
              have r1 : sS[k]? = some (sS.getD k 0) := by rw [List.getD_eq_getElem?_getD, List.getElem?_eq_getElem (by omega)]; rfl
              have r2 : sP[k]? = some (sP.getD k 0) := by rw [List.getD_eq_getElem?_getD, List.getElem?_eq_getElem (by omega)]; rfl
              generalize sS.getD k 0 = sh at *
              generalize sP.getD k 0 = pk at *
              have m1 := rowI_some r1
              have m2 := rowI_some r2
              have hcv := cvRight_iff.1 har0
              have z1 := rowI_nz (l := sS) (by omega)
              have z2 := rowI_nz (l := sP) (by omega)
              have z3 := rowI_nz (l := sS.set k (sh + am)) (by rw [List.length_set]; omega)
              have w1 : IntKind.i64.wrap (sh + am) = sh + am := by rw [wrap_id] <;> omega
              have w2 : IntKind.i64.wrap (sA - pk) = sA - pk := by rw [wrap_id] <;> omega
              have hb1 := pays_bd (c := c) har0 (sh + am) (used := sA - pk) (by omega)
              have hb2 := worth0_bd (c := c) har0 (sh + am)
              have hpy := hrp (sh + am) (sA - pk) hc (by unfold Int64; omega) (by unfold Int64; omega)
              generalize pays c (sh + am) (sA - pk) = pw at *
              have w3 : IntKind.i64.wrap (pw - pk) = pw - pk := by rw [wrap_id] <;> omega
              have m3 : (sS.set k (sh + am))[k]? = some (sh + am) := by rw [List.getElem?_set_self (by omega)]
              have m4 := rowI_some m3
              have p1 := rowI_put sS k (sh + am) (by omega)
              have p2 := rowI_put sP k pw (by omega)
              have q5 : k < sS.length := by omega
              have q6 : k < sP.length := by omega
              by_cases hw : pw - pk ≤ 0
              · rw [if_pos hw] at hnx
                have hw2 : (pk < pw) = False := eq_false (by omega)
                (repeat' first|((try (revert K;refine bK ?_));refine' run (I t3 (I b1 (I b2 (I gl3 (I b3 (I b4 (I b5 (I b6 (I b7 (I b8 (I z0 (I m1 (I m2 (I w1 (I w2 (I m4 (I p1 (I q5 (I q6 (I z1 (I z2 (I z3 rowI_len)))))))))))))))))))))) ?_;(repeat' first|exact True.intro|refine Lv.mk ?_ ?_|(refine oK ?_;intro K hK)|intro hq);all_goals refine Lf.mk ?_)|refine rounds_s ?_)
                · (apply callL' [5016] cl37 (htf); (case hp | hl => (simp only [go_sem, ↓reduceIte]; try rfl)); (case hx => (simp [AV.flat0])); (try (case hfz => (first | (simp only [go_sem]; done) | (simp [go_sem, fzo]; done)))))
                  · exact ⟨fz_ints 5 rfl (by omega), trivial⟩
                  (repeat' first|((try (revert K;refine bK ?_));refine' run (I t3 (I m1 (I m2 (I w1 (I w2 (I m4 (I p1 (I q5 (I q6 (I z1 (I z2 (I z3 (I rowI_len (I hw2 (decide_eq_false (of_eq_false hw2)))))))))))))))) ?_;(repeat' first|exact True.intro|refine Lv.mk ?_ ?_|(refine oK ?_;intro K hK)|intro hq);all_goals refine Lf.mk ?_)|refine callZ cl23 (hpy) ?_|refine rounds_s ?_)
                  (apply callL' [3016] cl36 (hnf); (case hp | hl => (simp only [go_sem, ↓reduceIte]; try rfl)); (case hx => (simp [AV.flat0])); (try (case hfz => (first | (simp only [go_sem]; done) | (simp [go_sem, fzo]; done)))))
                  · exact ⟨fz_self 5 _ _ _, fz_ints 5 rfl (cnL_len _ _).symm, trivial⟩
                  (repeat' first|((try (revert K;refine bK ?_));refine' run trivial ?_;(repeat' first|exact True.intro|refine Lv.mk ?_ ?_|(refine oK ?_;intro K hK)|intro hq);all_goals refine Lf.mk ?_)|refine rounds_s ?_)
                  refine ⟨⟨m + 1, gi⟩, id, ?_, by show L.length - (m + 1) < L.length - m; omega⟩
                  simp only [hnx]
                  simp only [go_sem, ↓reduceIte, hF]
              · rw [if_neg hw] at hnx
                have hw2 : (pk < pw) = True := eq_true (by omega)
                (repeat' first|((try (revert K;refine bK ?_));refine' run (I t3 (I b1 (I b2 (I gl3 (I b3 (I b4 (I b5 (I b6 (I b7 (I b8 (I z0 (I m1 (I m2 (I w1 (I w2 (I m4 (I p1 (I q5 (I q6 (I z1 (I z2 (I z3 rowI_len)))))))))))))))))))))) ?_;(repeat' first|exact True.intro|refine Lv.mk ?_ ?_|(refine oK ?_;intro K hK)|intro hq);all_goals refine Lf.mk ?_)|refine rounds_s ?_)
                · (apply callL' [5016] cl37 (htf); (case hp | hl => (simp only [go_sem, ↓reduceIte]; try rfl)); (case hx => (simp [AV.flat0])); (try (case hfz => (first | (simp only [go_sem]; done) | (simp [go_sem, fzo]; done)))))
                  · exact ⟨fz_ints 5 rfl (by omega), trivial⟩
                  (repeat' first|((try (revert K;refine bK ?_));refine' run (I t3 (I m1 (I m2 (I w1 (I w2 (I w3 (I m4 (I p1 (I p2 (I q5 (I q6 (I z1 (I z2 (I z3 (I rowI_len (I hw2 (decide_eq_true (of_eq_true hw2)))))))))))))))))) ?_;(repeat' first|exact True.intro|refine Lv.mk ?_ ?_|(refine oK ?_;intro K hK)|intro hq);all_goals refine Lf.mk ?_)|refine callZ cl23 (hpy) ?_|refine rounds_s ?_)
                  rotate_left
                  · have hro : (rowC r3row sO).length = sO.length * 3 := rowC_len (F := r3row) (k := 3) (fun _ => rfl) sO
                    exact ⟨hro, by simp [maxLen]; omega⟩
                  (apply callL' [3016] cl36 (hnf); (case hp | hl => (simp only [go_sem, ↓reduceIte]; try rfl)); (case hx => (simp [AV.flat0])); (try (case hfz => (first | (simp only [go_sem]; done) | (simp [go_sem, fzo]; done)))))
                  · exact ⟨fz_self 5 _ _ _, fz_ints 5 rfl (cnL_len _ _).symm, trivial⟩
                  (repeat' first|((try (revert K;refine bK ?_));refine' run trivial ?_;(repeat' first|exact True.intro|refine Lv.mk ?_ ?_|(refine oK ?_;intro K hK)|intro hq);all_goals refine Lf.mk ?_)|refine rounds_s ?_)
                  refine ⟨⟨m + 1, gi⟩, nm1 8000 15097, ?_, by show L.length - (m + 1) < L.length - m; omega⟩
                  simp only [hnx, List.length_append, List.length_singleton, rowR_snoc]
                  simp only [go_sem, ↓reduceIte, hF, List.map_append, List.all_append]
            · rw [if_neg hk] at hnx
              (repeat' first|((try (revert K;refine bK ?_));refine' run (I t3 (I b1 (I b2 (I gl3 (I b3 (I b4 (I b5 (I b6 (I b7 (I b8 (I z0 (I hk rowI_len)))))))))))) ?_;(repeat' first|exact True.intro|refine Lv.mk ?_ ?_|(refine oK ?_;intro K hK)|intro hq);all_goals refine Lf.mk ?_)|refine rounds_s ?_)
              (apply callL' [3016] cl36 (hnf); (case hp | hl => (simp only [go_sem, ↓reduceIte]; try rfl)); (case hx => (simp [AV.flat0])); (try (case hfz => (first | (simp only [go_sem]; done) | (simp [go_sem, fzo]; done)))))
              · exact ⟨fz_self 5 _ _ _, fz_ints 5 rfl (cnL_len _ _).symm, trivial⟩
              (repeat' first|((try (revert K;refine bK ?_));refine' run trivial ?_;(repeat' first|exact True.intro|refine Lv.mk ?_ ?_|(refine oK ?_;intro K hK)|intro hq);all_goals refine Lf.mk ?_)|refine rounds_s ?_)
              refine ⟨⟨m + 1, gi⟩, id, ?_, by show L.length - (m + 1) < L.length - m; omega⟩
              simp only [hnx]
              simp only [go_sem, ↓reduceIte, hF]
          · obtain rfl : m = L.length := by omega
            simp only [List.take_length, hend]
            (repeat' first|((try (revert K;refine bK ?_));refine' run trivial ?_;(repeat' first|exact True.intro|refine Lv.mk ?_ ?_|(refine oK ?_;intro K hK)|intro hq);all_goals refine Lf.mk ?_)|refine rounds_s ?_)
            have hpr : paidR c l = (payL c l.length L).out := by rw [paidR, if_pos he, hLe]
            rw [hpr, he]
            exact ⟨⟨⟨rfl, rows_len (F := r3row) (fun _ => rfl) _⟩, fzo_rows (F := r3row) (k := 3) (fun _ => rfl) (fun _ => by simp [r3row]) _ rfl⟩, rfl⟩
    · have he : checkE c l = 2 := by rw [checkE, if_neg (by rw [har]; decide), if_pos (by omega)]
      have hp : paidR c l = [] := by rw [paidR, if_neg (by rw [he]; decide)]
      rw [he, hp]
      by_cases h5 : (l.length : Int) > 2000
      · refine fun_W mixed Tryz.func21 rfl (Nat.le_of_ble_eq_true rfl) (by kernel_rfl) fun cx hN hR hF hL => ?_; apply args_k; (case hA => (simp only [go_sem, ↓reduceIte]; rfl))
        (repeat' first|((try (revert K;refine bK ?_));refine' run (I har (I (eq_true h5) (decide_eq_true h5))) ?_;(repeat' first|exact True.intro|refine Lv.mk ?_ ?_|(refine oK ?_;intro K hK)|intro hq);all_goals refine Lf.mk ?_)|refine callZ cl34 (rRight_f c l) ?_|refine rounds_s ?_)
      · have h6 : (actsN l : Int) > 2000 := by omega
        refine fun_W mixed Tryz.func21 rfl (Nat.le_of_ble_eq_true rfl) (by kernel_rfl) fun cx hN hR hF hL => ?_; apply args_k; (case hA => (simp only [go_sem, ↓reduceIte]; rfl))
        (repeat' first|((try (revert K;refine bK ?_));refine' run (I har (I (eq_false h5) (I (decide_eq_false h5) (I (eq_true h6) (decide_eq_true h6))))) ?_;(repeat' first|exact True.intro|refine Lv.mk ?_ ?_|(refine oK ?_;intro K hK)|intro hq);all_goals refine Lf.mk ?_)|refine callZ cl34 (rRight_f c l) ?_|refine callZ cl35 (hac) ?_|refine rounds_s ?_)
  · simp only [Bool.not_eq_true] at har
    have he : checkE c l = 1 := by rw [checkE, if_pos har]
    have hp : paidR c l = [] := by rw [paidR, if_neg (by rw [he]; decide)]
    rw [he, hp]
    refine fun_W mixed Tryz.func21 rfl (Nat.le_of_ble_eq_true rfl) (by kernel_rfl) fun cx hN hR hF hL => ?_; apply args_k; (case hA => (simp only [go_sem, ↓reduceIte]; rfl))
    (repeat' first|((try (revert K;refine bK ?_));refine' run har ?_;(repeat' first|exact True.intro|refine Lv.mk ?_ ?_|(refine oK ?_;intro K hK)|intro hq);all_goals refine Lf.mk ?_)|refine callZ cl34 (rRight_f c l) ?_|refine rounds_s ?_)
end Go.Proofs.YtjplhfmakghabaaGreat.V
set_option linter.unusedSimpArgs false
set_option linter.unusedVariables false
namespace Go.Proofs.YtjplhfmakghabaaGreat.V
open Go.RowKit
set_option maxRecDepth 100000
attribute [local go_sem] Option.toList_some Option.toList_none

attribute [local go_sem] Int.reduceToNat Int.toNat_zero in
set_option maxHeartbeats 8000000 in
theorem rOf_f (c : Cover) (l : List File) (hc : c.ok) (hl : l.length ≤ 100000) : Fun Tryz.prog 14 [.agg c.flat, filesA l] (.tup [possA (ofL c l), int (checkE c l)]) := by
  have hpd := rPaid_f c l hc hl
  by_cases he : checkE c l = 0
  · have hof := ofL_eq he
    obtain ⟨har, hn, -⟩ := chk_right he
    have har0 : c.rightB = true := by rw [adjRight, Bool.and_eq_true] at har; exact har.1
    obtain ⟨hR1, hR2⟩ := rows_ok he
    have hAB := AB.all he (paidR c l).length (Nat.le_refl _)
    have hAm := amtS_bd (R := paidR c l) (fun r hr => by obtain ⟨_, _, _, h⟩ := hR2 r hr; exact h) (paidR c l).length (Nat.le_refl _)
    rw [List.take_length] at hAB hAm
    rw [posR_fold l fun r hr => by
      obtain ⟨k, h1, h2, _⟩ := hR2 r hr
      exact ⟨k, h1, h2⟩] at hAB
    have hbd := paid_bds (R := paidR c l) fun r hr => by obtain ⟨_, _, _, h, _⟩ := hR2 r hr; omega
    have hB0 := paidB_zero (R := paidR c l) fun r hr => by obtain ⟨_, _, h, _⟩ := hR2 r hr; omega
    have hB1 := paidB_all (R := paidR c l) (n := l.length) fun r hr => by obtain ⟨_, _, h, _⟩ := hR2 r hr; omega
    have hrs := fun p (hp : p ∈ posR (paidR c l) l) => posR_res hp
    rw [he] at hpd
    rcases Nat.eq_zero_or_pos l.length with h0 | h0
    · obtain rfl := List.length_eq_zero_iff.1 h0
      have hpr : paidR c [] = [] := by rw [paidR, if_pos he]; rfl
      have hof2 : ofL c [] = [] := by rw [hof, hpr]; rfl
      rw [hpr] at hpd
      rw [hof2, he]
      refine fun_W mixed Tryz.func14 rfl (Nat.le_of_ble_eq_true rfl) (by kernel_rfl) fun cx hN hR hF hL => ?_; apply args_k; (case hA => (simp only [go_sem, ↓reduceIte]; rfl))
      (repeat' first|((try (revert K;refine bK ?_));refine' run trivial ?_;(repeat' first|exact True.intro|refine Lv.mk ?_ ?_|(refine oK ?_;intro K hK)|intro hq);all_goals refine Lf.mk ?_)|refine callZ cl21 (hpd) ?_|refine rounds_s ?_)
      refine loop_rounds mixed 1 (by rw [hN]; kernel_rfl) ?_
      (repeat' first|((try (revert K;refine bK ?_));refine' run trivial ?_;(repeat' first|exact True.intro|refine Lv.mk ?_ ?_|(refine oK ?_;intro K hK)|intro hq);all_goals refine Lf.mk ?_)|refine rounds_s ?_)
      refine loop_rounds mixed 1 (by rw [hN]; kernel_rfl) ?_
      (repeat' first|((try (revert K;refine bK ?_));refine' run trivial ?_;(repeat' first|exact True.intro|refine Lv.mk ?_ ?_|(refine oK ?_;intro K hK)|intro hq);all_goals refine Lf.mk ?_)|refine rounds_s ?_)
    · have hgd := fun f (hf : f ∈ l) => right_good har hf
      generalize paidR c l = R at *
      refine fun_W mixed Tryz.func14 rfl (Nat.le_of_ble_eq_true rfl) (by kernel_rfl) fun cx hN hR hF hL => ?_; apply args_k; (case hA => (simp only [go_sem, ↓reduceIte]; rfl))
      (repeat' first|((try (revert K;refine bK ?_));refine' run trivial ?_;(repeat' first|exact True.intro|refine Lv.mk ?_ ?_|(refine oK ?_;intro K hK)|intro hq);all_goals refine Lf.mk ?_)|refine callZ cl21 (hpd) ?_|refine rounds_s ?_)
      refine loop_nil 8 7000 6 43 rfl (Nat.le_of_ble_eq_true rfl) ?_
      refine loopW mixed (σ := {i : Nat // i ≤ l.length}) (fun s => ⟨[(10, int s.1), (9, int (paidB R s.1)), (8, .osl 7000 6 0 s.1), (6, rowsA R), (1, filesA l), (2, .ptr 0 0)], [(7000, some ⟨43, rowC Pos.flat (posR R (l.take s.1))⟩), (0, some ⟨23, c.flat⟩)], 7001⟩) (fun s => l.length - s.1) id ⟨0, by omega⟩ (by rw [hN]; kernel_rfl) ?_ ?_
      · simp only [go_sem, ↓reduceIte, hF]
        exact ⟨⟨rfl, hB0.symm⟩, rfl⟩
      · rintro ⟨i, h1⟩
        by_cases hi : i < l.length
        · have e0 : l[i]? = some l[i] := List.getElem?_eq_getElem hi
          have e1 : (l.map File.flat)[i]? = some l[i].flat := by rw [List.getElem?_map, e0]; rfl
          have e2 : IntKind.i64.wrap ((i : Int) + 1) = ((i + 1 : Nat) : Int) := by rw [wrap_id] <;> omega
          have hk1 : i < (l.map File.flat).length := by simpa using hi
          have hsn := posR_snoc R e0
          have hg := hgd _ (List.getElem_mem hi)
          have hst := rStand_f l[i] (Nat.le_trans hg.len (by omega))
          have hln := rowO_len (posR R (l.take i))
          rw [posR_len, List.length_take, Nat.min_eq_left h1] at hln
          have hbi := hbd i
          generalize l[i] = f at *
          (repeat' first|((try (revert K;refine bK ?_));refine' run (I e1 (I e2 hk1)) ?_;(repeat' first|exact True.intro|refine Lv.mk ?_ ?_|(refine oK ?_;intro K hK)|intro hq);all_goals refine Lf.mk ?_)|refine callZ cl22 (hst) ?_|refine rounds_s ?_)
          refine loopW mixed (σ := {j : Nat // j ≤ R.length}) (fun t => ⟨[(12, int t.1), (9, int (paidB R i + paidK (R.take t.1) i)), (11, .ptr 8041 0), (10, int i), (8, .osl 7000 6 0 i), (6, rowsA R), (1, filesA l), (2, .ptr 0 0)], [(8041, some ⟨43, ({ standP f.acts with paid := paidK (R.take t.1) i } : Pos).flat⟩), (7000, some ⟨43, rowC Pos.flat (posR R (l.take i))⟩), (0, some ⟨23, c.flat⟩)], 10001⟩) (fun t => R.length - t.1) id ⟨0, by omega⟩ (by rw [hN]; kernel_rfl) ?_ ?_
          · simp only [go_sem, ↓reduceIte, hF]
            simp [paidK, standP]
          · rintro ⟨j, g1⟩
            by_cases gj : j < R.length
            · have f0 : R[j]? = some R[j] := List.getElem?_eq_getElem gj
              have f1 : (R.map r3row)[j]? = some (r3row R[j]) := by rw [List.getElem?_map, f0]; rfl
              have f2 : IntKind.i64.wrap ((j : Int) + 1) = ((j + 1 : Nat) : Int) := by rw [wrap_id] <;> omega
              have hk2 : j < (R.map r3row).length := by simpa using gj
              have hsj := paidK_snoc (R.take j) R[j] i
              rw [← List.take_succ_eq_append_getElem gj] at hsj
              have b1 := hbi j
              have b2 := hbi (j + 1)
              generalize R[j] = r at *
              obtain ⟨rk, rb, ra⟩ := r
              simp only at hsj
              by_cases hk : rk = (i : Int)
              · rw [if_pos hk] at hsj
                have w1 : IntKind.i64.wrap (paidK (R.take j) i + ra) = paidK (R.take j) i + ra := by rw [wrap_id] <;> omega
                have w2 : IntKind.i64.wrap (paidB R i + paidK (R.take j) i + ra) = paidB R i + (paidK (R.take j) i + ra) := by rw [wrap_id] <;> omega
                (repeat' first|((try (revert K;refine bK ?_));refine' run (I f1 (I f2 (I hk2 (I (eq_true hk) (I (decide_eq_true hk) (I w1 w2)))))) ?_;(repeat' first|exact True.intro|refine Lv.mk ?_ ?_|(refine oK ?_;intro K hK)|intro hq);all_goals refine Lf.mk ?_)|refine rounds_s ?_)
                refine ⟨⟨j + 1, gj⟩, id, ?_, by show R.length - (j + 1) < R.length - j; omega⟩
                simp only [hsj]
                simp only [go_sem, ↓reduceIte, hF]
              · rw [if_neg hk, Int.add_zero] at hsj
                (repeat' first|((try (revert K;refine bK ?_));refine' run (I f1 (I f2 (I hk2 (I (eq_false hk) (decide_eq_false hk))))) ?_;(repeat' first|exact True.intro|refine Lv.mk ?_ ?_|(refine oK ?_;intro K hK)|intro hq);all_goals refine Lf.mk ?_)|refine rounds_s ?_)
                refine ⟨⟨j + 1, gj⟩, id, ?_, by show R.length - (j + 1) < R.length - j; omega⟩
                simp only [hsj]
                simp only [go_sem, ↓reduceIte, hF]
            · obtain rfl : j = R.length := by omega
              have hpb : paidB R i + paidK R i = paidB R (i + 1) := (paidB_succ R i).symm
              simp only [List.take_length, hpb]
              (repeat' first|((try (revert K;refine bK ?_));refine' run e2 ?_;(repeat' first|exact True.intro|refine Lv.mk ?_ ?_|(refine oK ?_;intro K hK)|intro hq);all_goals refine Lf.mk ?_)|refine rounds_s ?_)
              · refine ⟨⟨i + 1, hi⟩, nm1 7000 11025, ?_, by show l.length - (i + 1) < l.length - i; omega⟩
                simp only [hsn, rowO_snoc]
                simp only [go_sem, ↓reduceIte, hF, List.map_append, List.all_append]
              · exact ⟨hln, by simp [maxLen]; omega⟩
        · obtain rfl : i = l.length := by omega
          simp only [List.take_length, hB1]
          have hPl := hAB.len
          have hpd0 := fun p (hp : p ∈ posR R l) => hAB.pd p hp
          have hpg := fun p (hp : p ∈ posR R l) => hAB.gr p hp
          have hub := uAt_bd (c := c) har0 (fun p hp => (hpd0 p hp).1) hAm.1
          generalize posR R l = P at *
          (repeat' first|((try (revert K;refine bK ?_));refine' run trivial ?_;(repeat' first|exact True.intro|refine Lv.mk ?_ ?_|(refine oK ?_;intro K hK)|intro hq);all_goals refine Lf.mk ?_)|refine rounds_s ?_)
          refine loopW mixed (σ := {i : Nat // i ≤ l.length}) (fun s => ⟨[(13, int s.1), (9, int (uAt c (amtS R) P s.1)), (8, .osl 7000 6 0 l.length), (2, .ptr 0 0)], [(7000, some ⟨43, rowC Pos.flat (heldI c (amtS R) P s.1)⟩), (0, some ⟨23, c.flat⟩)], 9001⟩) (fun s => l.length - s.1) id ⟨0, by omega⟩ (by rw [hN]; kernel_rfl) ?_ ?_
          · simp only [go_sem, ↓reduceIte, hF]
            exact ⟨⟨rfl, (uAt_zero _ _ _).symm⟩, by rw [heldI_zero]⟩
          · rintro ⟨i, i1⟩
            by_cases hi : i < l.length
            · have e0 : P[i]? = some P[i] := List.getElem?_eq_getElem (by omega)
              have hpm : P[i] ∈ P := List.getElem_mem _
              have b1 := heldI_at (c := c) (u := amtS R) e0
              have b2 := heldI_succ (c := c) (u := amtS R) e0
              have b3 := uAt_succ c P (amtS R) i _ e0
              have b4 := hub i (by omega)
              have b5 := heldI_len c (amtS R) P i
              have e2 : IntKind.i64.wrap ((i : Int) + 1) = ((i + 1 : Nat) : Int) := by rw [wrap_id] <;> omega
              generalize P[i] = p at *
              have q1 := hpd0 p hpm
              have q2 := hpg p hpm
              have q3 := hrs p hpm
              have b6 := heldOne_bd har0 (uAt c (amtS R) P i) p q1.1
              have hln := rowO_len (heldI c (amtS R) P i)
              have z1 := rowO_nz (l := heldI c (amtS R) P i) (by omega)
              rw [b5, hPl] at hln
              generalize uAt c (amtS R) P i = u at *
              obtain ⟨pg, ps, pd, pk, pr, po⟩ := p
              simp only at q1 q2 q3 e0
              subst q3
              have hcv := cvRight_iff.1 har0
              have w1 : IntKind.i64.wrap (u - pd) = u - pd := by rw [wrap_id] <;> omega
              have hpy := rPays_f c pg (u - pd) hc (by unfold Int64; omega) (by unfold Int64; omega)
              have hw := worth0_bd (c := c) har0 pg
              have hpb : 0 ≤ pays c pg (u - pd) ∧ pays c pg (u - pd) ≤ 1000000000000000 := by
                unfold pays
                split <;> omega
              have b7 : heldOne c u ⟨pg, ps, pd, pk, 0, po⟩ = if po then max 0 (pays c pg (u - pd) - pd) else 0 := rfl
              have b8 : heldP c u ⟨pg, ps, pd, pk, 0, po⟩ = ⟨pg, ps, pd, pk, if po then heldOne c u ⟨pg, ps, pd, pk, 0, po⟩ else 0, po⟩ := rfl
              have c0 : (rowC Pos.flat (heldI c (amtS R) P i))[i * 6 + 0]? = some (int pg) := rowO_cell b1 (by omega)
              have c1 : (rowC Pos.flat (heldI c (amtS R) P i))[i * 6 + 2]? = some (int pd) := rowO_cell b1 (by omega)
              have c5 : (rowC Pos.flat (heldI c (amtS R) P i))[i * 6 + 5]? = some (bool po) := rowO_cell b1 (by omega)
              rw [Nat.add_zero] at c0
              generalize pays c pg (u - pd) = pw at *
              have stay : heldOne c u ⟨pg, ps, pd, pk, 0, po⟩ = 0 → heldI c (amtS R) P (i + 1) = heldI c (amtS R) P i := by
                intro h
                rw [b2, b8, h, ite_self]
                apply List.ext_getElem?
                intro j
                rw [List.getElem?_set]
                split
                · rename_i h; subst h; rw [b1]; simp; omega
                · rfl
              cases po with
              | false =>
                simp only [Bool.false_eq_true, if_false] at b7
                have b9 := stay b7
                rw [b7, Int.add_zero] at b3
                (repeat' first|((try (revert K;refine bK ?_));refine' run (I e2 (I c0 (I c1 (I c5 (I hln (I z1 (I hi (I le6 w1)))))))) ?_;(repeat' first|exact True.intro|refine Lv.mk ?_ ?_|(refine oK ?_;intro K hK)|intro hq);all_goals refine Lf.mk ?_)|refine callZ cl23 (hpy) ?_|refine rounds_s ?_)
                refine ⟨⟨i + 1, hi⟩, id, ?_, by show l.length - (i + 1) < l.length - i; omega⟩
                simp only [b9, b3]
                simp only [go_sem, ↓reduceIte, hF]
              | true =>
                simp only [if_true] at b7 b8
                have w2 : IntKind.i64.wrap (pw - pd) = pw - pd := by rw [wrap_id] <;> omega
                by_cases hw2 : pw > pd
                · have b10 : heldOne c u ⟨pg, ps, pd, pk, 0, true⟩ = pw - pd := by rw [b7]; omega
                  rw [b10] at b3 b8
                  rw [b8] at b2
                  have w3 : IntKind.i64.wrap (u + (pw - pd)) = u + (pw - pd) := by rw [wrap_id] <;> omega
                  have c2 : List.take (i * 6 + 4) (rowC Pos.flat (heldI c (amtS R) P i)) ++ [int (pw - pd)] ++ List.drop (i * 6 + 4 + 1) (rowC Pos.flat (heldI c (amtS R) P i)) = rowC Pos.flat ((heldI c (amtS R) P i).set i ⟨pg, ps, pd, pk, pw - pd, true⟩) := rowO_put b1 (by omega) _ rfl
                  have c4 : (rowC Pos.flat ((heldI c (amtS R) P i).set i ⟨pg, ps, pd, pk, pw - pd, true⟩))[i * 6 + 4]? = some (int (pw - pd)) := rowO_cell (x := ⟨pg, ps, pd, pk, pw - pd, true⟩) (by rw [List.getElem?_set_self (by rw [b5, hPl]; exact hi)]) (by omega)
                  have hln2 := rowO_len ((heldI c (amtS R) P i).set i ⟨pg, ps, pd, pk, pw - pd, true⟩)
                  rw [List.length_set, b5, hPl] at hln2
                  have z2 := rowO_nz (l := (heldI c (amtS R) P i).set i ⟨pg, ps, pd, pk, pw - pd, true⟩) (by rw [List.length_set, b5, hPl]; omega)
                  (repeat' first|((try (revert K;refine bK ?_));refine' run (I e2 (I c0 (I c1 (I c5 (I c2 (I c4 (I hln (I hln2 (I z1 (I z2 (I hi (I le6 (I w1 (I w2 (I w3 (I (eq_true hw2) (decide_eq_true hw2))))))))))))))))) ?_;(repeat' first|exact True.intro|refine Lv.mk ?_ ?_|(refine oK ?_;intro K hK)|intro hq);all_goals refine Lf.mk ?_)|refine callZ cl23 (hpy) ?_|refine rounds_s ?_)
                  refine ⟨⟨i + 1, hi⟩, id, ?_, by show l.length - (i + 1) < l.length - i; omega⟩
                  simp only [b2, b3]
                  simp only [go_sem, ↓reduceIte, hF]
                · have b10 : heldOne c u ⟨pg, ps, pd, pk, 0, true⟩ = 0 := by rw [b7]; omega
                  have b9 := stay b10
                  rw [b10, Int.add_zero] at b3
                  (repeat' first|((try (revert K;refine bK ?_));refine' run (I e2 (I c0 (I c1 (I c5 (I hln (I z1 (I hi (I le6 (I w1 (I (eq_false hw2) (decide_eq_false hw2))))))))))) ?_;(repeat' first|exact True.intro|refine Lv.mk ?_ ?_|(refine oK ?_;intro K hK)|intro hq);all_goals refine Lf.mk ?_)|refine callZ cl23 (hpy) ?_|refine rounds_s ?_)
                  refine ⟨⟨i + 1, hi⟩, id, ?_, by show l.length - (i + 1) < l.length - i; omega⟩
                  simp only [b9, b3]
                  simp only [go_sem, ↓reduceIte, hF]
            · obtain rfl : i = l.length := by omega
              (repeat' first|((try (revert K;refine bK ?_));refine' run trivial ?_;(repeat' first|exact True.intro|refine Lv.mk ?_ ?_|(refine oK ?_;intro K hK)|intro hq);all_goals refine Lf.mk ?_)|refine rounds_s ?_)
              rw [hof, he]
              have hha := heldI_all c (amtS R) P
              rw [hPl] at hha
              rw [hha]
              have hhl : l.length = (heldL c (amtS R) P).length := by rw [heldL_len, hPl]
              exact ⟨⟨⟨hhl, rows_len pos_len _⟩, fzo_rows pos_len pos_data _ hhl⟩, rfl⟩
  · have hof : ofL c l = [] := by rw [ofL, if_neg he]
    have hp : paidR c l = [] := by rw [paidR, if_neg he]
    rw [hp] at hpd
    rw [hof]
    refine fun_W mixed Tryz.func14 rfl (Nat.le_of_ble_eq_true rfl) (by kernel_rfl) fun cx hN hR hF hL => ?_; apply args_k; (case hA => (simp only [go_sem, ↓reduceIte]; rfl))
    (repeat' first|((try (revert K;refine bK ?_));refine' run (I (eq_false he) (decide_eq_false he)) ?_;(repeat' first|exact True.intro|refine Lv.mk ?_ ?_|(refine oK ?_;intro K hK)|intro hq);all_goals refine Lf.mk ?_)|refine callZ cl21 (hpd) ?_|refine rounds_s ?_)
end Go.Proofs.YtjplhfmakghabaaGreat.V
