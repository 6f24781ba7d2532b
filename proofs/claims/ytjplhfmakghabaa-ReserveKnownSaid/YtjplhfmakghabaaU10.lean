/- Contracts of step: money, Right, the binary search, value, At. Curves as plain data: what they say on a day. -/
-- STEPS: new
import Derived.Test.YtjplhfmakghabaaU6
import Derived.Test.YtjplhfmakghabaaK2
set_option linter.unusedSimpArgs false
set_option linter.unusedVariables false
namespace Go.Proofs.Ytjplhfmakghabaa.V
open Go.RowKit
set_option maxRecDepth 100000
attribute [local go_sem] Option.toList_some Option.toList_none

theorem sisNaN_f (a : Int) : Fun Try.prog 101 [int a] (bool false) := by
  refine fun_W mixed Try.func101 rfl (Nat.le_of_ble_eq_true rfl) (by kernel_rfl) fun cx hN hR hF hL => ?_; apply args_k; (case hA => (simp only [go_sem, ↓reduceIte]; rfl))
  (with_reducible repeat' (first|exact trivial|(apply byE;simp only [go_sem, ↓reduceIte];try rfl)|apply Aa|apply As|apply Au|apply Av|apply Aj|apply At|apply Aw|apply Ab|apply Ac|apply Ad|apply Ae|apply Af|apply Ag|apply Ah|apply Ai|apply Ak|apply Al|((first|apply An|apply Ao);(case hs=>with_unfolding_all rfl))|apply Am|apply Ap|apply Aq|apply Ar|apply Ax|apply Ay|apply Az|apply Ba|apply Bb|apply Bc|apply Bd|apply Be|apply Ca|apply Cb|apply Cc|apply Cd|apply Ce|apply Cf|apply Cg|apply Ch|apply Ci|apply Bf|apply Cj|apply Ck|apply Cl|apply Cm|apply Cn|apply Co|apply Cp|(apply byR;with_unfolding_all rfl)|((first|apply byKt|apply byKs);kernel_rfl)|(apply byL;simp only [econs,List.map_cons,List.map_nil,List.cons_append,List.nil_append,OpS.nm,OpS.reads,OpS.turns,Nat.reduceAdd];try with_unfolding_all rfl)|(apply byG;intro hg;try simp only [hg])|(apply byQ;intro hq;try simp only [hqs] at hq;try (exfalso;omega))|(apply byI;intro K hK)|(apply byH;repeat (first|exact dst_z rfl|apply dst_s))|(apply byN;unfold NapOK;kernel_rfl)|(apply byD;first|(simp;done)|(simp [go_sem];done))|(refine hK _ _ ?_;clear hK;clear K)|omega|contradiction))

theorem money_f (v : Int) : Fun Try.prog 71 [int v] (bool (money v)) := by
  refine fun_W mixed Try.func71 rfl (Nat.le_of_ble_eq_true rfl) (by kernel_rfl) fun cx hN hR hF hL => ?_; apply args_k; (case hA => (simp only [go_sem, ↓reduceIte]; rfl))
  (with_reducible repeat' (first|exact trivial|(apply byE;simp only [go_sem, ↓reduceIte];try rfl)|apply Aa|apply As|apply Au|apply Av|apply Aj|apply At|apply Aw|apply Ab|apply Ac|apply Ad|apply Ae|apply Af|apply Ag|apply Ah|apply Ai|apply Ak|apply Al|((first|apply An|apply Ao);(case hs=>with_unfolding_all rfl))|apply Am|apply Ap|apply Aq|apply Ar|apply Ax|apply Ay|apply Az|apply Ba|apply Bb|apply Bc|apply Bd|apply Be|apply Ca|apply Cb|apply Cc|apply Cd|apply Ce|apply Cf|apply Cg|apply Ch|apply Ci|apply Bf|apply Cj|apply Ck|apply Cl|apply Cm|apply Cn|apply Co|apply Cp|(apply byR;with_unfolding_all rfl)|((first|apply byKt|apply byKs);kernel_rfl)|(apply byL;simp only [econs,List.map_cons,List.map_nil,List.cons_append,List.nil_append,OpS.nm,OpS.reads,OpS.turns,Nat.reduceAdd];try with_unfolding_all rfl)|(apply byG;intro hg;try simp only [hg])|(apply byQ;intro hq;try simp only [hqs] at hq;try (exfalso;omega))|(apply byI;intro K hK)|(apply byH;repeat (first|exact dst_z rfl|apply dst_s))|(apply byN;unfold NapOK;kernel_rfl)|(apply byD;first|(simp;done)|(simp [go_sem];done))|(refine hK _ _ ?_;clear hK;clear K)|omega|contradiction))
  all_goals rfl

def rightS (a v : List Int) : Bool := decide (a.length = v.length) && rightG 0 0 (a.zip v)

theorem zip_at {a v : List Int} (h : a.length = v.length) {i : Nat} (hi : i < a.length) : ∃ x y, a[i]? = some x ∧ v[i]? = some y ∧ (a.zip v)[i]? = some (x, y) ∧ (a.zip v).drop i = (x, y) :: (a.zip v).drop (i + 1) := by
  have hv : i < v.length := by omega
  have hz : i < (a.zip v).length := by simp; omega
  refine ⟨a[i], v[i], List.getElem?_eq_getElem hi, List.getElem?_eq_getElem hv, ?_, ?_⟩
  · rw [List.getElem?_eq_getElem hz]; simp
  · rw [List.drop_eq_getElem_cons hz]; simp

theorem right_f (a v : List Int) : Fun Try.prog 37 [.agg [ints a, ints v]] (bool (rightS a v)) := by
  by_cases h : a.length = v.length
  · refine fun_W mixed Try.func37 rfl (Nat.le_of_ble_eq_true rfl) (by kernel_rfl) fun cx hN hR hF hL => ?_; apply args_k; (case hA => (simp only [go_sem, ↓reduceIte]; rfl))
    have hl : a.length ≤ 9223372036854775807 := by
      simp [maxLen] at hL
      omega
    have hc : ((a.length : Int) = (v.length : Int)) = True := by simp [h]
    (with_reducible repeat' (first|exact trivial|(apply byE;simp only [go_sem, ↓reduceIte, hc];try rfl)|apply Aa|apply As|apply Au|apply Av|apply Aj|apply At|apply Aw|apply Ab|apply Ac|apply Ad|apply Ae|apply Af|apply Ag|apply Ah|apply Ai|apply Ak|apply Al|((first|apply An|apply Ao);(case hs=>with_unfolding_all rfl))|apply Am|apply Ap|apply Aq|apply Ar|apply Ax|apply Ay|apply Az|apply Ba|apply Bb|apply Bc|apply Bd|apply Be|apply Ca|apply Cb|apply Cc|apply Cd|apply Ce|apply Cf|apply Cg|apply Ch|apply Ci|apply Bf|apply Cj|apply Ck|apply Cl|apply Cm|apply Cn|apply Co|apply Cp|(apply byR;with_unfolding_all rfl)|((first|apply byKt|apply byKs);kernel_rfl)|(apply byL;simp only [econs,List.map_cons,List.map_nil,List.cons_append,List.nil_append,OpS.nm,OpS.reads,OpS.turns,Nat.reduceAdd];try with_unfolding_all rfl)|(apply byG;intro hg;try simp only [hg])|(apply byQ;intro hq;try simp only [hqs] at hq;try (exfalso;omega))|(apply byI;intro K hK)|(apply byH;repeat (first|exact dst_z rfl|apply dst_s))|(apply byN;unfold NapOK;kernel_rfl)|(apply byD;first|(simp;done)|(simp [go_sem];done))|(refine hK _ _ ?_;clear hK;clear K)|omega|contradiction))
    refine loopW mixed (σ := {p : Nat × Int × Int // p.1 ≤ a.length ∧ rightG 0 0 (a.zip v) = rightG p.2.1 p.2.2 ((a.zip v).drop p.1)}) (fun s => ⟨[(18, int s.1.1), (3, int s.1.2.1), (4, int s.1.2.2), (1, .ptr 0 0), (16, ints a), (17, int a.length)], [(0, some ⟨61, [ints a, ints v]⟩)], 3000⟩) (fun s => a.length - s.1.1) id ⟨(0, 0, 0), Nat.zero_le _, rfl⟩ (by rw [hN]; kernel_rfl) ?_ ?_
    · simp only [go_sem, ↓reduceIte, hF]
      rfl
    · rintro ⟨⟨i, d, w⟩, h1, h2⟩
      simp only at h1 h2
      by_cases hi : i < a.length
      · obtain ⟨x, y, e1, e2, -, e4⟩ := zip_at h hi
        have hiv : i < v.length := by omega
        have e3 : IntKind.i64.wrap ((i : Int) + 1) = ((i + 1 : Nat) : Int) := by rw [wrap_id] <;> omega
        rw [e4, rightG] at h2
        (with_reducible repeat' (first|exact trivial|(apply byE;simp only [go_sem, ↓reduceIte, e1, e2, e3, hiv];try rfl)|apply Aa|apply As|apply Au|apply Av|apply Aj|apply At|apply Aw|apply Ab|apply Ac|apply Ad|apply Ae|apply Af|apply Ag|apply Ah|apply Ai|apply Ak|apply Al|((first|apply An|apply Ao);(case hs=>with_unfolding_all rfl))|apply Am|apply Ap|apply Aq|apply Ar|apply Ax|apply Ay|apply Az|apply Ba|apply Bb|apply Bc|apply Bd|apply Be|apply Ca|apply Cb|apply Cc|apply Cd|apply Ce|apply Cf|apply Cg|apply Ch|apply Ci|apply Bf|apply Cj|apply Ck|apply Cl|apply Cm|apply Cn|apply Co|apply Cp|(apply byR;with_unfolding_all rfl)|((first|apply byKt|apply byKs);kernel_rfl)|(apply byL;simp only [econs,List.map_cons,List.map_nil,List.cons_append,List.nil_append,OpS.nm,OpS.reads,OpS.turns,Nat.reduceAdd];try with_unfolding_all rfl)|(apply byG;intro hg;try simp only [hg])|(apply byQ;intro hq;try simp only [hqs] at hq;try (exfalso;omega))|(apply byI;intro K hK)|(apply byH;repeat (first|exact dst_z rfl|apply dst_s))|(apply byN;unfold NapOK;kernel_rfl)|(apply byD;first|(simp;done)|(simp [go_sem];done))|(refine hK _ _ ?_;clear hK;clear K)|omega|(apply callX cl71 (money_f _);(case hl=>with_unfolding_all rfl))|contradiction))
        · symm
          rw [rightS, h2]
          simp only [Bool.and_eq_false_iff, decide_eq_false_iff_not]
          grind
        · refine ⟨⟨(i + 1, x, y), by show i + 1 ≤ _; omega, ?_⟩, id, ?_, by show a.length - (i + 1) < a.length - i; omega⟩
          · rw [h2]; simp [hq]
          · simp only [go_sem, ↓reduceIte, hF]
      · have : (a.zip v).drop i = [] := List.drop_eq_nil_of_le (by simp; omega)
        rw [this] at h2
        (with_reducible repeat' (first|exact trivial|(apply byE;simp only [go_sem, ↓reduceIte];try rfl)|apply Aa|apply As|apply Au|apply Av|apply Aj|apply At|apply Aw|apply Ab|apply Ac|apply Ad|apply Ae|apply Af|apply Ag|apply Ah|apply Ai|apply Ak|apply Al|((first|apply An|apply Ao);(case hs=>with_unfolding_all rfl))|apply Am|apply Ap|apply Aq|apply Ar|apply Ax|apply Ay|apply Az|apply Ba|apply Bb|apply Bc|apply Bd|apply Be|apply Ca|apply Cb|apply Cc|apply Cd|apply Ce|apply Cf|apply Cg|apply Ch|apply Ci|apply Bf|apply Cj|apply Ck|apply Cl|apply Cm|apply Cn|apply Co|apply Cp|(apply byR;with_unfolding_all rfl)|((first|apply byKt|apply byKs);kernel_rfl)|(apply byL;simp only [econs,List.map_cons,List.map_nil,List.cons_append,List.nil_append,OpS.nm,OpS.reads,OpS.turns,Nat.reduceAdd];try with_unfolding_all rfl)|(apply byG;intro hg;try simp only [hg])|(apply byQ;intro hq;try simp only [hqs] at hq;try (exfalso;omega))|(apply byI;intro K hK)|(apply byH;repeat (first|exact dst_z rfl|apply dst_s))|(apply byN;unfold NapOK;kernel_rfl)|(apply byD;first|(simp;done)|(simp [go_sem];done))|(refine hK _ _ ?_;clear hK;clear K)|omega|contradiction))
        simp [rightS, h, h2, rightG]
  · have hc : ((a.length : Int) = (v.length : Int)) = False := by simp; omega
    refine fun_W mixed Try.func37 rfl (Nat.le_of_ble_eq_true rfl) (by kernel_rfl) fun cx hN hR hF hL => ?_; apply args_k; (case hA => (simp only [go_sem, ↓reduceIte]; rfl))
    (with_reducible repeat' (first|exact trivial|(apply byE;simp only [go_sem, ↓reduceIte, hc];try rfl)|apply Aa|apply As|apply Au|apply Av|apply Aj|apply At|apply Aw|apply Ab|apply Ac|apply Ad|apply Ae|apply Af|apply Ag|apply Ah|apply Ai|apply Ak|apply Al|((first|apply An|apply Ao);(case hs=>with_unfolding_all rfl))|apply Am|apply Ap|apply Aq|apply Ar|apply Ax|apply Ay|apply Az|apply Ba|apply Bb|apply Bc|apply Bd|apply Be|apply Ca|apply Cb|apply Cc|apply Cd|apply Ce|apply Cf|apply Cg|apply Ch|apply Ci|apply Bf|apply Cj|apply Ck|apply Cl|apply Cm|apply Cn|apply Co|apply Cp|(apply byR;with_unfolding_all rfl)|((first|apply byKt|apply byKs);kernel_rfl)|(apply byL;simp only [econs,List.map_cons,List.map_nil,List.cons_append,List.nil_append,OpS.nm,OpS.reads,OpS.turns,Nat.reduceAdd];try with_unfolding_all rfl)|(apply byG;intro hg;try simp only [hg])|(apply byQ;intro hq;try simp only [hqs] at hq;try (exfalso;omega))|(apply byI;intro K hK)|(apply byH;repeat (first|exact dst_z rfl|apply dst_s))|(apply byN;unfold NapOK;kernel_rfl)|(apply byD;first|(simp;done)|(simp [go_sem];done))|(refine hK _ _ ?_;clear hK;clear K)|omega|contradiction))
    simp [rightS, h]

def lowI (l : List Int) (x : Int) : Nat := (l.takeWhile fun y => decide (y < x)).length

theorem lowI_eq {l : List Int} {x : Int} {i : Nat} (hi : i ≤ l.length) (h1 : ∀ k y, k < i → l[k]? = some y → y < x) (h2 : ∀ y, l[i]? = some y → ¬ y < x) : lowI l x = i := by
  induction l generalizing i with
  | nil => simp at hi; subst hi; rfl
  | cons z l ih =>
    rcases i with _ | i
    · have := h2 z rfl
      simp [lowI, this]
    · have hz := h1 0 z (by omega) rfl
      have := ih (i := i) (by simpa using hi) (fun k y hk hy => h1 (k + 1) y (by omega) (by simpa using hy)) (fun y hy => h2 y (by simpa using hy))
      unfold lowI at this ⊢
      rw [List.takeWhile_cons, if_pos (by simpa using hz), List.length_cons, this]

theorem wrap_u64 {n : Int} (h1 : 0 ≤ n) (h2 : n ≤ 18446744073709551615) : IntKind.u64.wrap n = n := by
  unfold IntKind.wrap
  simp [IntKind.bits, IntKind.signed]
  omega

set_option maxHeartbeats 1000000 in
theorem bsearch_f (l : List Int) (x : Int) (hs : l.Pairwise fun a b => a < b) (hl : l.length ≤ 100000) : Fun Try.prog 92 [ints l, int x] (.tup [int (lowI l x), bool (decide (l[lowI l x]? = some x))]) := by
  have hget := List.pairwise_iff_getElem.1 hs
  refine fun_W mixed Try.func92 rfl (Nat.le_of_ble_eq_true rfl) (by kernel_rfl) fun cx hN hR hF hL => ?_; apply args_k; (case hA => (simp only [go_sem, ↓reduceIte]; rfl))
  (with_reducible repeat' (first|exact trivial|(apply byE;simp only [go_sem, ↓reduceIte];try rfl)|apply Aa|apply As|apply Au|apply Av|apply Aj|apply At|apply Aw|apply Ab|apply Ac|apply Ad|apply Ae|apply Af|apply Ag|apply Ah|apply Ai|apply Ak|apply Al|((first|apply An|apply Ao);(case hs=>with_unfolding_all rfl))|apply Am|apply Ap|apply Aq|apply Ar|apply Ax|apply Ay|apply Az|apply Ba|apply Bb|apply Bc|apply Bd|apply Be|apply Ca|apply Cb|apply Cc|apply Cd|apply Ce|apply Cf|apply Cg|apply Ch|apply Ci|apply Bf|apply Cj|apply Ck|apply Cl|apply Cm|apply Cn|apply Co|apply Cp|(apply byR;with_unfolding_all rfl)|((first|apply byKt|apply byKs);kernel_rfl)|(apply byL;simp only [econs,List.map_cons,List.map_nil,List.cons_append,List.nil_append,OpS.nm,OpS.reads,OpS.turns,Nat.reduceAdd];try with_unfolding_all rfl)|(apply byG;intro hg;try simp only [hg])|(apply byQ;intro hq;try simp only [hqs] at hq;try (exfalso;omega))|(apply byI;intro K hK)|(apply byH;repeat (first|exact dst_z rfl|apply dst_s))|(apply byN;unfold NapOK;kernel_rfl)|(apply byD;first|(simp;done)|(simp [go_sem];done))|(refine hK _ _ ?_;clear hK;clear K)|omega|contradiction))
  refine loopW mixed (σ := {p : Nat × Nat // p.1 ≤ p.2 ∧ p.2 ≤ l.length ∧ (∀ k y, k < p.1 → l[k]? = some y → y < x) ∧ (∀ k y, p.2 ≤ k → l[k]? = some y → ¬ y < x)}) (fun s => ⟨[(7, int s.1.1), (8, int s.1.2), (0, ints l), (1, int x), (6, int l.length)], [], 3000⟩) (fun s => s.1.2 - s.1.1) id ⟨(0, l.length), Nat.zero_le _, Nat.le_refl _, fun k y hk => by omega, fun k y hk hy => by have := (List.getElem?_eq_some_iff.1 hy).1; simp only at hk; omega⟩ (by rw [hN]; kernel_rfl) ?_ ?_
  · simp only [go_sem, ↓reduceIte, hF]
    rfl
  · rintro ⟨⟨i, j⟩, h1, h2, h3, h4⟩
    simp only at h1 h2 h3 h4
    by_cases hij : i < j
    · have hm : (i + j) / 2 < l.length := by omega
      have e1 : l[(i + j) / 2]? = some l[(i + j) / 2] := List.getElem?_eq_getElem hm
      have w1 : IntKind.i64.wrap ((i : Int) + j) = ((i + j : Nat) : Int) := by rw [wrap_id] <;> omega
      have w2 : IntKind.u64.wrap ((i + j : Nat) : Int) = ((i + j : Nat) : Int) := wrap_u64 (by omega) (by omega)
      have w3 : Int.fdiv ((i + j : Nat) : Int) 2 = (((i + j) / 2 : Nat) : Int) := by rw [Int.fdiv_eq_ediv_of_nonneg _ (by omega)]; omega
      have w4 : IntKind.i64.wrap (((i + j) / 2 : Nat) : Int) = (((i + j) / 2 : Nat) : Int) := by rw [wrap_id] <;> omega
      have w5 : IntKind.i64.wrap ((((i + j) / 2 : Nat) : Int) + 1) = (((i + j) / 2 + 1 : Nat) : Int) := by rw [wrap_id] <;> omega
      have hgt : ∀ k y, l[k]? = some y → (k < (i + j) / 2 → y < l[(i + j) / 2]) ∧ ((i + j) / 2 < k → l[(i + j) / 2] < y) := fun k y hk => by
        obtain ⟨hk1, rfl⟩ := List.getElem?_eq_some_iff.1 hk
        exact ⟨fun h => hget k _ hk1 hm h, fun h => hget _ k hm hk1 h⟩
      generalize l[(i + j) / 2] = z at *
      (with_reducible repeat' (first|exact trivial|(apply byE;simp only [go_sem, ↓reduceIte, w1, w2, w3, w4, w5, e1];try rfl)|apply Aa|apply As|apply Au|apply Av|apply Aj|apply At|apply Aw|apply Ab|apply Ac|apply Ad|apply Ae|apply Af|apply Ag|apply Ah|apply Ai|apply Ak|apply Al|((first|apply An|apply Ao);(case hs=>with_unfolding_all rfl))|apply Am|apply Ap|apply Aq|apply Ar|apply Ax|apply Ay|apply Az|apply Ba|apply Bb|apply Bc|apply Bd|apply Be|apply Ca|apply Cb|apply Cc|apply Cd|apply Ce|apply Cf|apply Cg|apply Ch|apply Ci|apply Bf|apply Cj|apply Ck|apply Cl|apply Cm|apply Cn|apply Co|apply Cp|(apply byR;with_unfolding_all rfl)|((first|apply byKt|apply byKs);kernel_rfl)|(apply byL;simp only [econs,List.map_cons,List.map_nil,List.cons_append,List.nil_append,OpS.nm,OpS.reads,OpS.turns,Nat.reduceAdd];try with_unfolding_all rfl)|(apply byG;intro hg;try simp only [hg])|(apply byQ;intro hq;try simp only [hqs] at hq;try (exfalso;omega))|(apply byI;intro K hK)|(apply byH;repeat (first|exact dst_z rfl|apply dst_s))|(apply byN;unfold NapOK;kernel_rfl)|(apply byD;first|(simp;done)|(simp [go_sem];done))|(refine hK _ _ ?_;clear hK;clear K)|omega|(apply callX cl96 (less_f _ _);(case hl=>with_unfolding_all rfl))|contradiction))
      · refine ⟨⟨((i + j) / 2 + 1, j), by show (i + j) / 2 + 1 ≤ j; omega, h2, fun k y hk hy => ?_, h4⟩, id, ?_, by show j - ((i + j) / 2 + 1) < j - i; omega⟩
        · have hk : k < (i + j) / 2 + 1 := hk
          by_cases he : k = (i + j) / 2
          · subst he; rw [e1] at hy; cases hy; exact hq
          · have := (hgt k y hy).1 (by omega); omega
        · simp only [go_sem, ↓reduceIte, hF]
      · refine ⟨⟨(i, (i + j) / 2), by show i ≤ (i + j) / 2; omega, by show (i + j) / 2 ≤ _; omega, h3, fun k y hk hy => ?_⟩, id, ?_, by show (i + j) / 2 - i < j - i; omega⟩
        · have hk : (i + j) / 2 ≤ k := hk
          by_cases he : k = (i + j) / 2
          · subst he; rw [e1] at hy; cases hy; omega
          · have := (hgt k y hy).2 (by omega); omega
        · simp only [go_sem, ↓reduceIte, hF]
    · have : i = j := by omega
      subst this
      have hlow := lowI_eq h2 h3 fun y hy => h4 i y (Nat.le_refl _) hy
      by_cases hi : i < l.length
      · have e1 : l[i]? = some l[i] := List.getElem?_eq_getElem hi
        generalize l[i] = z at *
        have c1 : decide ((i : Int) < (l.length : Int)) = true := by simp; omega
        (with_reducible repeat' (first|exact trivial|(apply byE;simp only [go_sem, ↓reduceIte, e1, c1, hlow];try rfl)|apply Aa|apply As|apply Au|apply Av|apply Aj|apply At|apply Aw|apply Ab|apply Ac|apply Ad|apply Ae|apply Af|apply Ag|apply Ah|apply Ai|apply Ak|apply Al|((first|apply An|apply Ao);(case hs=>with_unfolding_all rfl))|apply Am|apply Ap|apply Aq|apply Ar|apply Ax|apply Ay|apply Az|apply Ba|apply Bb|apply Bc|apply Bd|apply Be|apply Ca|apply Cb|apply Cc|apply Cd|apply Ce|apply Cf|apply Cg|apply Ch|apply Ci|apply Bf|apply Cj|apply Ck|apply Cl|apply Cm|apply Cn|apply Co|apply Cp|(apply byR;with_unfolding_all rfl)|((first|apply byKt|apply byKs);kernel_rfl)|(apply byL;simp only [econs,List.map_cons,List.map_nil,List.cons_append,List.nil_append,OpS.nm,OpS.reads,OpS.turns,Nat.reduceAdd];try with_unfolding_all rfl)|(apply byG;intro hg;try simp only [hg])|(apply byQ;intro hq;try simp only [hqs] at hq;try (exfalso;omega))|(apply byI;intro K hK)|(apply byH;repeat (first|exact dst_z rfl|apply dst_s))|(apply byN;unfold NapOK;kernel_rfl)|(apply byD;first|(simp;done)|(simp [go_sem];done))|(refine hK _ _ ?_;clear hK;clear K)|omega|(apply callX cl101 (sisNaN_f _);(case hl=>with_unfolding_all rfl))|contradiction))
        simp
      · have c1 : decide ((i : Int) < (l.length : Int)) = false := by simp; omega
        have e1 : l[i]? = none := List.getElem?_eq_none (by omega)
        (with_reducible repeat' (first|exact trivial|(apply byE;simp only [go_sem, ↓reduceIte, c1, e1, hlow];try rfl)|apply Aa|apply As|apply Au|apply Av|apply Aj|apply At|apply Aw|apply Ab|apply Ac|apply Ad|apply Ae|apply Af|apply Ag|apply Ah|apply Ai|apply Ak|apply Al|((first|apply An|apply Ao);(case hs=>with_unfolding_all rfl))|apply Am|apply Ap|apply Aq|apply Ar|apply Ax|apply Ay|apply Az|apply Ba|apply Bb|apply Bc|apply Bd|apply Be|apply Ca|apply Cb|apply Cc|apply Cd|apply Ce|apply Cf|apply Cg|apply Ch|apply Ci|apply Bf|apply Cj|apply Ck|apply Cl|apply Cm|apply Cn|apply Co|apply Cp|(apply byR;with_unfolding_all rfl)|((first|apply byKt|apply byKs);kernel_rfl)|(apply byL;simp only [econs,List.map_cons,List.map_nil,List.cons_append,List.nil_append,OpS.nm,OpS.reads,OpS.turns,Nat.reduceAdd];try with_unfolding_all rfl)|(apply byG;intro hg;try simp only [hg])|(apply byQ;intro hq;try simp only [hqs] at hq;try (exfalso;omega))|(apply byI;intro K hK)|(apply byH;repeat (first|exact dst_z rfl|apply dst_s))|(apply byN;unfold NapOK;kernel_rfl)|(apply byD;first|(simp;done)|(simp [go_sem];done))|(refine hK _ _ ?_;clear hK;clear K)|omega|(apply callX cl101 (sisNaN_f _);(case hl=>with_unfolding_all rfl))|contradiction))

theorem lowI_spec (l : List Int) (x : Int) : lowI l x ≤ l.length ∧ (∀ k y, k < lowI l x → l[k]? = some y → y < x) ∧ ∀ y, l[lowI l x]? = some y → ¬ y < x := by
  induction l with
  | nil => simp [lowI]
  | cons z l ih =>
    obtain ⟨h1, h2, h3⟩ := ih
    by_cases hz : z < x
    · have : lowI (z :: l) x = lowI l x + 1 := by simp [lowI, hz]
      rw [this]
      refine ⟨by simpa using h1, fun k y hk hy => ?_, fun y hy => h3 y (by simpa using hy)⟩
      rcases k with _ | k
      · simp at hy; subst hy; exact hz
      · exact h2 k y (by omega) (by simpa using hy)
    · have : lowI (z :: l) x = 0 := by simp [lowI, hz]
      rw [this]
      exact ⟨Nat.zero_le _, fun k y hk => by omega, fun y hy => by simp at hy; subst hy; exact hz⟩

theorem zip_fst {a v : List Int} (h : a.length = v.length) : (a.zip v).map Prod.fst = a := by
  rw [List.map_fst_zip]; omega
theorem zip_lt {a v : List Int} (h : a.length = v.length) (hr : rightG 0 0 (a.zip v) = true) : a.Pairwise fun x y => x < y := by
  have := right_lt hr
  have h2 := this.map (S := fun x y : Int => x < y) Prod.fst (fun _ _ h => h)
  rwa [zip_fst h] at h2
theorem zip_mem {a v : List Int} {p : Int × Int} (hp : p ∈ a.zip v) : ∃ k : Nat, a[k]? = some p.1 ∧ v[k]? = some p.2 := by
  obtain ⟨k, hk, e⟩ := List.getElem_of_mem hp
  rw [List.length_zip] at hk
  refine ⟨k, ?_, ?_⟩
  · rw [List.getElem?_eq_getElem (by omega), ← e]; simp
  · rw [List.getElem?_eq_getElem (by omega), ← e]; simp
theorem mem_zip {a v : List Int} {k : Nat} {x y : Int} (h1 : a[k]? = some x) (h2 : v[k]? = some y) : (x, y) ∈ a.zip v := by
  obtain ⟨g1, rfl⟩ := List.getElem?_eq_some_iff.1 h1
  obtain ⟨g2, rfl⟩ := List.getElem?_eq_some_iff.1 h2
  have hk : k < (a.zip v).length := by rw [List.length_zip]; omega
  have := List.getElem_mem hk
  rwa [List.getElem_zip] at this

theorem val_low {a v : List Int} (h : a.length = v.length) (hr : rightG 0 0 (a.zip v) = true) (x : Int) :
    (∀ y, a[lowI a x]? = some x → v[lowI a x]? = some y → valG 0 (a.zip v) x = y) ∧ (a[lowI a x]? ≠ some x → (lowI a x = 0 → valG 0 (a.zip v) x = 0) ∧ ∀ m y, lowI a x = m + 1 → v[m]? = some y → valG 0 (a.zip v) x = y) := by
  obtain ⟨s1, s2, s3⟩ := lowI_spec a x
  have hlt := zip_lt h hr
  have hget := List.pairwise_iff_getElem.1 hlt
  refine ⟨fun y h1 h2 => valG_mem (right_lt hr) (x, y) (mem_zip h1 h2), fun hn => ?_⟩
  have hgt : ∀ k y, lowI a x ≤ k → a[k]? = some y → x < y := fun k y hk hy => by
    obtain ⟨hk1, hky⟩ := List.getElem?_eq_some_iff.1 hy
    have h0 : lowI a x < a.length := by omega
    have e0 : a[lowI a x]? = some a[lowI a x] := List.getElem?_eq_getElem h0
    have h1 := s3 _ e0
    have h2 : a[lowI a x] ≠ x := fun e => hn (by rw [e0, e])
    by_cases he : k = lowI a x
    · subst he; omega
    · have := hget (lowI a x) k h0 hk1 (by omega); omega
  refine ⟨fun h0 => valG_gt _ _ _ fun p hp => ?_, fun m y hm hy => ?_⟩
  · obtain ⟨k, hk1, -⟩ := zip_mem hp
    exact hgt k _ (by omega) hk1
  · have hml : m < a.length := by omega
    have e1 : a[m]? = some a[m] := List.getElem?_eq_getElem hml
    have h1 := s2 m _ (by omega) e1
    rw [← valG_steady (a.zip v) 0 a[m] x (by omega) fun p hp => ?_]
    · exact valG_mem (right_lt hr) (a[m], y) (mem_zip e1 hy)
    · obtain ⟨k, hk1, -⟩ := zip_mem hp
      rintro ⟨g1, g2⟩
      obtain ⟨hk2, hk3⟩ := List.getElem?_eq_some_iff.1 hk1
      by_cases hkm : k ≤ m
      · by_cases he : k = m
        · subst he; omega
        · have := hget k m hk2 hml (by omega); omega
      · have := hgt k _ (by omega) hk1; omega

theorem value_f (a v : List Int) (x : Int) (h : a.length = v.length) (hr : rightG 0 0 (a.zip v) = true) (hl : a.length ≤ 100000) : Fun Try.prog 72 [.agg [ints a, ints v], int x] (int (valG 0 (a.zip v) x)) := by
  obtain ⟨k1, k2⟩ := val_low h hr x
  obtain ⟨s1, -, -⟩ := lowI_spec a x
  have hlt := zip_lt h hr
  by_cases hc : a[lowI a x]? = some x
  · have hi : lowI a x < v.length := by rw [← h]; exact (List.getElem?_eq_some_iff.1 hc).1
    have e1 : v[lowI a x]? = some v[lowI a x] := List.getElem?_eq_getElem hi
    have e2 := k1 _ hc e1
    rw [e2]
    have c1 : decide ((lowI a x : Int) < 0) = false := by simp
    have c2 : decide (a[lowI a x]? = some x) = true := decide_eq_true hc
    refine fun_W mixed Try.func72 rfl (Nat.le_of_ble_eq_true rfl) (by kernel_rfl) fun cx hN hR hF hL => ?_; apply args_k; (case hA => (simp only [go_sem, ↓reduceIte]; rfl))
    (with_reducible repeat' (first|exact trivial|(apply byE;simp only [go_sem, ↓reduceIte, c1, c2, e1];try rfl)|apply Aa|apply As|apply Au|apply Av|apply Aj|apply At|apply Aw|apply Ab|apply Ac|apply Ad|apply Ae|apply Af|apply Ag|apply Ah|apply Ai|apply Ak|apply Al|((first|apply An|apply Ao);(case hs=>with_unfolding_all rfl))|apply Am|apply Ap|apply Aq|apply Ar|apply Ax|apply Ay|apply Az|apply Ba|apply Bb|apply Bc|apply Bd|apply Be|apply Ca|apply Cb|apply Cc|apply Cd|apply Ce|apply Cf|apply Cg|apply Ch|apply Ci|apply Bf|apply Cj|apply Ck|apply Cl|apply Cm|apply Cn|apply Co|apply Cp|(apply byR;with_unfolding_all rfl)|((first|apply byKt|apply byKs);kernel_rfl)|(apply byL;simp only [econs,List.map_cons,List.map_nil,List.cons_append,List.nil_append,OpS.nm,OpS.reads,OpS.turns,Nat.reduceAdd];try with_unfolding_all rfl)|(apply byG;intro hg;try simp only [hg])|(apply byQ;intro hq;try simp only [hqs] at hq;try (exfalso;omega))|(apply byI;intro K hK)|(apply byH;repeat (first|exact dst_z rfl|apply dst_s))|(apply byN;unfold NapOK;kernel_rfl)|(apply byD;first|(simp;done)|(simp [go_sem];done))|(refine hK _ _ ?_;clear hK;clear K)|omega|(apply callX cl92 (bsearch_f _ _ hlt hl);(case hl=>with_unfolding_all rfl))|contradiction))
  · obtain ⟨k3, k4⟩ := k2 hc
    have c2 : decide (a[lowI a x]? = some x) = false := decide_eq_false hc
    rcases hm : lowI a x with _ | m
    · rw [k3 hm]
      have c1 : decide (IntKind.i64.wrap ((0 : Nat) - 1 : Int) < 0) = true := rfl
      have c3 : (a[0]? = some x) = False := by rw [hm] at hc; simpa using hc
      refine fun_W mixed Try.func72 rfl (Nat.le_of_ble_eq_true rfl) (by kernel_rfl) fun cx hN hR hF hL => ?_; apply args_k; (case hA => (simp only [go_sem, ↓reduceIte]; rfl))
      (with_reducible repeat' (first|exact trivial|(apply byE;simp only [go_sem, ↓reduceIte, c1, c3, hm];try rfl)|apply Aa|apply As|apply Au|apply Av|apply Aj|apply At|apply Aw|apply Ab|apply Ac|apply Ad|apply Ae|apply Af|apply Ag|apply Ah|apply Ai|apply Ak|apply Al|((first|apply An|apply Ao);(case hs=>with_unfolding_all rfl))|apply Am|apply Ap|apply Aq|apply Ar|apply Ax|apply Ay|apply Az|apply Ba|apply Bb|apply Bc|apply Bd|apply Be|apply Ca|apply Cb|apply Cc|apply Cd|apply Ce|apply Cf|apply Cg|apply Ch|apply Ci|apply Bf|apply Cj|apply Ck|apply Cl|apply Cm|apply Cn|apply Co|apply Cp|(apply byR;with_unfolding_all rfl)|((first|apply byKt|apply byKs);kernel_rfl)|(apply byL;simp only [econs,List.map_cons,List.map_nil,List.cons_append,List.nil_append,OpS.nm,OpS.reads,OpS.turns,Nat.reduceAdd];try with_unfolding_all rfl)|(apply byG;intro hg;try simp only [hg])|(apply byQ;intro hq;try simp only [hqs] at hq;try (exfalso;omega))|(apply byI;intro K hK)|(apply byH;repeat (first|exact dst_z rfl|apply dst_s))|(apply byN;unfold NapOK;kernel_rfl)|(apply byD;first|(simp;done)|(simp [go_sem];done))|(refine hK _ _ ?_;clear hK;clear K)|omega|(apply callX cl92 (bsearch_f _ _ hlt hl);(case hl=>with_unfolding_all rfl))|contradiction))
    · have hi : m < v.length := by omega
      have e1 : v[m]? = some v[m] := List.getElem?_eq_getElem hi
      rw [k4 m _ hm e1]
      have c1 : IntKind.i64.wrap (((m + 1 : Nat) : Int) - 1) = (m : Int) := by rw [wrap_id] <;> omega
      have c3 : (a[m + 1]? = some x) = False := by rw [hm] at hc; simpa using hc
      have c4 : decide ((m : Int) < 0) = false := by simp
      refine fun_W mixed Try.func72 rfl (Nat.le_of_ble_eq_true rfl) (by kernel_rfl) fun cx hN hR hF hL => ?_; apply args_k; (case hA => (simp only [go_sem, ↓reduceIte]; rfl))
      (with_reducible repeat' (first|exact trivial|(apply byE;simp only [go_sem, ↓reduceIte, c1, c3, c4, hm, e1];try rfl)|apply Aa|apply As|apply Au|apply Av|apply Aj|apply At|apply Aw|apply Ab|apply Ac|apply Ad|apply Ae|apply Af|apply Ag|apply Ah|apply Ai|apply Ak|apply Al|((first|apply An|apply Ao);(case hs=>with_unfolding_all rfl))|apply Am|apply Ap|apply Aq|apply Ar|apply Ax|apply Ay|apply Az|apply Ba|apply Bb|apply Bc|apply Bd|apply Be|apply Ca|apply Cb|apply Cc|apply Cd|apply Ce|apply Cf|apply Cg|apply Ch|apply Ci|apply Bf|apply Cj|apply Ck|apply Cl|apply Cm|apply Cn|apply Co|apply Cp|(apply byR;with_unfolding_all rfl)|((first|apply byKt|apply byKs);kernel_rfl)|(apply byL;simp only [econs,List.map_cons,List.map_nil,List.cons_append,List.nil_append,OpS.nm,OpS.reads,OpS.turns,Nat.reduceAdd];try with_unfolding_all rfl)|(apply byG;intro hg;try simp only [hg])|(apply byQ;intro hq;try simp only [hqs] at hq;try (exfalso;omega))|(apply byI;intro K hK)|(apply byH;repeat (first|exact dst_z rfl|apply dst_s))|(apply byN;unfold NapOK;kernel_rfl)|(apply byD;first|(simp;done)|(simp [go_sem];done))|(refine hK _ _ ?_;clear hK;clear K)|omega|(apply callX cl92 (bsearch_f _ _ hlt hl);(case hl=>with_unfolding_all rfl))|contradiction))

theorem at_f (a v : List Int) (x : Int) (hl : a.length ≤ 100000) : Fun Try.prog 38 [.agg [ints a, ints v], int x] (int (if rightS a v = true then valG 0 (a.zip v) x else 0)) := by
  by_cases hr : rightS a v = true
  · have hr2 := hr
    simp only [rightS, Bool.and_eq_true, decide_eq_true_eq] at hr2
    rw [if_pos hr]
    refine fun_W mixed Try.func38 rfl (Nat.le_of_ble_eq_true rfl) (by kernel_rfl) fun cx hN hR hF hL => ?_; apply args_k; (case hA => (simp only [go_sem, ↓reduceIte]; rfl))
    (with_reducible repeat' (first|exact trivial|(apply byE;simp only [go_sem, ↓reduceIte, hr];try rfl)|apply Aa|apply As|apply Au|apply Av|apply Aj|apply At|apply Aw|apply Ab|apply Ac|apply Ad|apply Ae|apply Af|apply Ag|apply Ah|apply Ai|apply Ak|apply Al|((first|apply An|apply Ao);(case hs=>with_unfolding_all rfl))|apply Am|apply Ap|apply Aq|apply Ar|apply Ax|apply Ay|apply Az|apply Ba|apply Bb|apply Bc|apply Bd|apply Be|apply Ca|apply Cb|apply Cc|apply Cd|apply Ce|apply Cf|apply Cg|apply Ch|apply Ci|apply Bf|apply Cj|apply Ck|apply Cl|apply Cm|apply Cn|apply Co|apply Cp|(apply byR;with_unfolding_all rfl)|((first|apply byKt|apply byKs);kernel_rfl)|(apply byL;simp only [econs,List.map_cons,List.map_nil,List.cons_append,List.nil_append,OpS.nm,OpS.reads,OpS.turns,Nat.reduceAdd];try with_unfolding_all rfl)|(apply byG;intro hg;try simp only [hg])|(apply byQ;intro hq;try simp only [hqs] at hq;try (exfalso;omega))|(apply byI;intro K hK)|(apply byH;repeat (first|exact dst_z rfl|apply dst_s))|(apply byN;unfold NapOK;kernel_rfl)|(apply byD;first|(simp;done)|(simp [go_sem];done))|(refine hK _ _ ?_;clear hK;clear K)|omega|(apply callX cl37 (right_f _ _);(case hl=>with_unfolding_all rfl))|(apply callX cl72 (value_f _ _ _ hr2.1 hr2.2 hl);(case hl=>with_unfolding_all rfl))|contradiction))
  · rw [if_neg hr]
    have hr : rightS a v = false := by simpa using hr
    refine fun_W mixed Try.func38 rfl (Nat.le_of_ble_eq_true rfl) (by kernel_rfl) fun cx hN hR hF hL => ?_; apply args_k; (case hA => (simp only [go_sem, ↓reduceIte]; rfl))
    (with_reducible repeat' (first|exact trivial|(apply byE;simp only [go_sem, ↓reduceIte, hr];try rfl)|apply Aa|apply As|apply Au|apply Av|apply Aj|apply At|apply Aw|apply Ab|apply Ac|apply Ad|apply Ae|apply Af|apply Ag|apply Ah|apply Ai|apply Ak|apply Al|((first|apply An|apply Ao);(case hs=>with_unfolding_all rfl))|apply Am|apply Ap|apply Aq|apply Ar|apply Ax|apply Ay|apply Az|apply Ba|apply Bb|apply Bc|apply Bd|apply Be|apply Ca|apply Cb|apply Cc|apply Cd|apply Ce|apply Cf|apply Cg|apply Ch|apply Ci|apply Bf|apply Cj|apply Ck|apply Cl|apply Cm|apply Cn|apply Co|apply Cp|(apply byR;with_unfolding_all rfl)|((first|apply byKt|apply byKs);kernel_rfl)|(apply byL;simp only [econs,List.map_cons,List.map_nil,List.cons_append,List.nil_append,OpS.nm,OpS.reads,OpS.turns,Nat.reduceAdd];try with_unfolding_all rfl)|(apply byG;intro hg;try simp only [hg])|(apply byQ;intro hq;try simp only [hqs] at hq;try (exfalso;omega))|(apply byI;intro K hK)|(apply byH;repeat (first|exact dst_z rfl|apply dst_s))|(apply byN;unfold NapOK;kernel_rfl)|(apply byD;first|(simp;done)|(simp [go_sem];done))|(refine hK _ _ ?_;clear hK;clear K)|omega|(apply callX cl37 (right_f _ _);(case hl=>with_unfolding_all rfl))|contradiction))

end Go.Proofs.Ytjplhfmakghabaa.V
namespace Go.Proofs.Ytjplhfmakghabaa.V
set_option maxRecDepth 100000

theorem days_rise (l : List File) : (daysL l).Pairwise fun a b => a < b := by
  have tr : ∀ a b c : Int, decide (a ≤ b) = true → decide (b ≤ c) = true → decide (a ≤ c) = true := fun a b c h1 h2 => by simp only [decide_eq_true_eq] at *; omega
  have to : ∀ a b : Int, (decide (a ≤ b) || decide (b ≤ a)) = true := fun a b => by simp only [Bool.or_eq_true, decide_eq_true_eq]; omega
  have h1 := List.pairwise_mergeSort tr to (uniq (daysS l))
  have h2 : (daysL l).Nodup := (List.mergeSort_perm (uniq (daysS l)) _).nodup_iff.2 (uniq_nodup _)
  have h3 : (daysL l).Pairwise fun a b => decide (a ≤ b) = true := h1
  have h4 := h3.and h2
  refine h4.imp fun {a b} h => ?_
  have h5 := h.1
  simp only [decide_eq_true_eq] at h5
  have h6 : a ≠ b := h.2
  omega
theorem days_mem {l : List File} {x : Int} : x ∈ daysL l ↔ x ∈ daysS l := by
  rw [daysL, (List.mergeSort_perm (uniq (daysS l)) _).mem_iff, uniq_mem]
/-- What files come to on a day. -/
def valD (f : Pos → Int) (c : Cover) (l : List File) (d : Int) : Int := f (sumP (ofL c (knownR l d)))
theorem keepD_same {d x : Int} (hdx : d ≤ x) {L : List Act} (h : ∀ a, a ∈ L → ¬ (d < a.booked ∧ a.booked ≤ x)) : keepD x L = keepD d L := by
  refine List.filter_congr fun a ha => ?_
  have := h a ha
  exact decide_eq_decide.2 (by omega)
/-- Where nothing was booked between, the same is known. -/
theorem known_same {l : List File} {d x : Int} (hdx : d ≤ x) (h : ∀ y, y ∈ daysS l → ¬ (d < y ∧ y ≤ x)) : knownR l x = knownR l d := by
  unfold knownR
  have h1 : (l.filter fun f => decide (f.claim.booked ≤ x)) = l.filter fun f => decide (f.claim.booked ≤ d) := by
    refine List.filter_congr fun f hf => ?_
    have := h f.claim.booked (by
      unfold daysS
      exact List.mem_flatten.2 ⟨daysF f, List.mem_map.2 ⟨f, hf, rfl⟩, by simp [daysF]⟩)
    exact decide_eq_decide.2 (by omega)
  rw [h1]
  refine List.map_congr_left fun f hf => ?_
  have hf := (List.mem_filter.1 hf).1
  unfold File.at
  rw [keepD_same hdx fun a ha => h a.booked (by
    unfold daysS
    exact List.mem_flatten.2 ⟨daysF f, List.mem_map.2 ⟨f, hf, rfl⟩, by simp only [daysF, List.mem_cons]; exact .inr (List.mem_map.2 ⟨a, ha, rfl⟩)⟩)]
theorem known_none {l : List File} {x : Int} (h : ∀ f, f ∈ l → x < f.claim.booked) : knownR l x = [] := by
  unfold knownR
  have : (l.filter fun f => decide (f.claim.booked ≤ x)) = [] := by
    rw [List.filter_eq_nil_iff]
    intro f hf
    have := h f hf
    simp
    omega
  rw [this]
  rfl
theorem ofL_nil (c : Cover) : ofL c [] = [] := List.length_eq_zero_iff.1 (by have := ofL_le c []; simpa using this)
theorem curve_cmpr {f : Pos → Int} {c : Cover} {l : List File} : ∀ {D : List Int}, (∀ d, d ∈ D → d ≤ 292194) → curveO f c l D = cmpr 0 (D.map fun d => (d, valD f c l d)) := by
  intro D hD
  rw [cmpr_foldl, List.foldl_map, curveO]
  have key : ∀ (D : List Int) (O : List (Int × Int)), (∀ d, d ∈ D → d ≤ 292194) → D.foldl (fun O d => putO O d (f (sumP (ofL c (knownR l d))))) O = D.foldl (fun O d => withP O (d, valD f c l d)) O := by
    intro D
    induction D with
    | nil => intro O _; rfl
    | cons d D ih =>
      intro O h
      have hd := h d (by simp)
      rw [List.foldl_cons, List.foldl_cons]
      have e : putO O d (f (sumP (ofL c (knownR l d)))) = withP O (d, valD f c l d) := by
        have hl : lastO O = lastV O := by
          unfold lastO lastV
          cases O.getLast? <;> rfl
        unfold putO withP valD
        rw [hl]
        simp only
        by_cases hv : f (sumP (ofL c (knownR l d))) = lastV O
        · rw [if_pos hv, if_neg (fun h => h.1 hv)]
        · rw [if_neg hv, if_pos ⟨hv, hd⟩]
      rw [e]
      exact ih _ fun x hx => h x (by simp [hx])
  exact key D [] hD
/-- On each day the curve says what files came to. -/
theorem steps_val {V : Int → Int} {S : List Int} (hV : ∀ d x, d ≤ x → (∀ y, y ∈ S → ¬ (d < y ∧ y ≤ x)) → V x = V d) : ∀ (D : List Int) (d0 x : Int), (D.Pairwise fun a b => a < b) → (∀ d, d ∈ D → d0 < d) → (∀ y, y ∈ S → d0 < y → y ∈ D) → d0 ≤ x → valG (V d0) (D.map fun d => (d, V d)) x = V x
  | [], d0, x, _, _, h, hx => by
    show V d0 = V x
    exact (hV d0 x hx fun y hy hh => by have := h y hy hh.1; simp at this).symm
  | d :: D, d0, x, hp, h1, h2, hx => by
    rw [List.pairwise_cons] at hp
    have hd := h1 d (by simp)
    rw [List.map_cons, valG]
    by_cases hdx : d ≤ x
    · rw [if_pos hdx]
      refine steps_val hV D d x hp.2 hp.1 (fun y hy hyd => ?_) hdx
      have := h2 y hy (by omega)
      rcases List.mem_cons.1 this with rfl | h
      · omega
      · exact h
    · rw [if_neg hdx, valG_gt _ _ _ fun p hp' => ?_]
      · refine (hV d0 x hx fun y hy hh => ?_).symm
        have := h2 y hy hh.1
        rcases List.mem_cons.1 this with rfl | h
        · omega
        · have := hp.1 y h
          omega
      · obtain ⟨e, he, rfl⟩ := List.mem_map.1 hp'
        have := hp.1 e he
        simp only
        omega
theorem cv_ok {c : Cover} {l : List File} (h : cvE c l = 0) : checkE c l = 0 := by
  by_cases he : checkE c l = 0
  · exact he
  · rw [cvE, if_neg he] at h
    exact absurd h he
theorem cvE_le {c : Cover} {l : List File} (h : cvE c l = 0) : (daysL l).length ≤ 2000 := by
  rw [cvE, if_pos (cv_ok h)] at h
  by_cases h2 : 2000 < (daysL l).length
  · rw [if_pos h2] at h; cases h
  · omega
/-- What a curve is, and says. -/
theorem curve_at {f : Pos → Int} {c : Cover} {l : List File} (hf : ∀ p, 0 ≤ p.paid → 0 ≤ p.reserve → p.paid + p.reserve ≤ 1000000000000000 → 0 ≤ f p ∧ f p ≤ 1000000000000000) (h0 : f zeroP = 0) (he : cvE c l = 0) :
    rightG 0 0 (cvO f c l) = true ∧ (cvO f c l).length ≤ 2000 ∧ ∀ x, x ≤ 292194 → valG 0 (cvO f c l) x = valD f c l x := by
  have hc := cv_ok he
  have hin := days_in hc
  have hcm := curve_cmpr (f := f) (c := c) (l := l) (D := daysL l) fun d hd => (hin d (days_mem.1 hd)).2
  have hval : ∀ d, 0 ≤ valD f c l d ∧ valD f c l d ≤ 1000000000000000 := fun d => by
    have := sum_bd (check_known hc d)
    exact hf _ this.1 this.2.1 (by omega)
  have hr := days_rise l
  have hO : cvO f c l = cmpr 0 ((daysL l).map fun d => (d, valD f c l d)) := by rw [cvO, if_pos he, hcm]
  have hneg : ∀ x, x < 1 → valD f c l x = 0 := fun x hx => by
    unfold valD
    rw [known_none fun g hg => by
      have := (hin g.claim.booked (by unfold daysS; exact List.mem_flatten.2 ⟨daysF g, List.mem_map.2 ⟨g, hg, rfl⟩, by simp [daysF]⟩)).1
      omega, ofL_nil]
    exact h0
  refine ⟨?_, ?_, fun x hx => ?_⟩
  · rw [hO]
    refine cmpr_right (List.pairwise_map.2 (hr.imp fun h => .inl h)) (fun p hp => ?_) (fun p hp => ?_)
    · obtain ⟨d, hd, rfl⟩ := List.mem_map.1 hp
      have := (hin d (days_mem.1 hd)).1
      exact .inl (by simp only; omega)
    · obtain ⟨d, hd, rfl⟩ := List.mem_map.1 hp
      have := hval d
      rw [money_iff]
      simp only
      omega
  · have h1 := curveO_len f c l (daysL l) (daysL l).length (Nat.le_refl _)
    rw [List.take_length] at h1
    have h2 := cvE_le he
    rw [cvO, if_pos he]
    omega
  · rw [hO, cmpr_val (List.pairwise_map.2 (hr.imp fun h => Int.le_of_lt h)) hx]
    by_cases hx0 : 0 ≤ x
    · have h1 := steps_val (V := valD f c l) (S := daysS l) (fun d x hdx h => by unfold valD; rw [known_same hdx h]) (daysL l) 0 x hr (fun d hd => by have := (hin d (days_mem.1 hd)).1; omega) (fun y hy _ => days_mem.2 hy) hx0
      rw [hneg 0 (by omega)] at h1
      exact h1
    · rw [hneg x (by omega)]
      refine valG_gt _ _ _ fun p hp => ?_
      obtain ⟨d, hd, rfl⟩ := List.mem_map.1 hp
      have := (hin d (days_mem.1 hd)).1
      simp only
      omega
/-- The slices of a step. -/
theorem zip_steps (O : List (Int × Int)) : (daysO O).zip (valsO O) = O := by
  induction O with
  | nil => rfl
  | cons p O ih =>
    have h1 : daysO (p :: O) = p.1 :: daysO O := rfl
    have h2 : valsO (p :: O) = p.2 :: valsO O := rfl
    rw [h1, h2, List.zip_cons_cons, ih]
theorem rightS_of {O : List (Int × Int)} (h : rightG 0 0 O = true) : rightS (daysO O) (valsO O) = true := by
  rw [rightS, zip_steps, h, daysO_len, valsO_len]
  simp
theorem stepAt_f {O : List (Int × Int)} (h : rightG 0 0 O = true) (hl : O.length ≤ 2000) (x : Int) : Fun Try.prog 38 [stepA O, int x] (int (valG 0 O x)) := by
  have := at_f (daysO O) (valsO O) x (by rw [daysO_len]; omega)
  rw [rightS_of h, if_pos rfl, zip_steps] at this
  exact this
theorem stepRight_f {O : List (Int × Int)} (h : rightG 0 0 O = true) : Fun Try.prog 37 [stepA O] (bool true) := by
  have := right_f (daysO O) (valsO O)
  rw [rightS_of h] at this
  exact this
theorem paid_curve {c : Cover} {l : List File} (he : cvE c l = 0) : rightG 0 0 (cvO Pos.paid c l) = true ∧ (cvO Pos.paid c l).length ≤ 2000 ∧ ∀ x, x ≤ 292194 → valG 0 (cvO Pos.paid c l) x = valD Pos.paid c l x := curve_at (f := Pos.paid) (fun p h1 h2 h3 => ⟨h1, by omega⟩) rfl he
theorem held_curve {c : Cover} {l : List File} (he : cvE c l = 0) : rightG 0 0 (cvO Pos.reserve c l) = true ∧ (cvO Pos.reserve c l).length ≤ 2000 ∧ ∀ x, x ≤ 292194 → valG 0 (cvO Pos.reserve c l) x = valD Pos.reserve c l x := curve_at (f := Pos.reserve) (fun p h1 h2 h3 => ⟨h2, by omega⟩) rfl he
end Go.Proofs.Ytjplhfmakghabaa.V
