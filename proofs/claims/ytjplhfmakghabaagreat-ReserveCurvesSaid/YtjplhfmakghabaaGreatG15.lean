/- Law ReserveTells: the reference's At and Known; files that are the same. -/
import Derived.Test.YtjplhfmakghabaaGreatG14
set_option linter.unusedSimpArgs false
set_option linter.unusedVariables false
namespace Go.Proofs.YtjplhfmakghabaaGreat.V
open Go.RowKit
set_option maxRecDepth 100000
attribute [local go_sem] Option.toList_some Option.toList_none

def atX (K : List Act) : AV := if K = [] then .v (.slice none 0 0) else .osl 3000 3 0 K.length
def atB (K : List Act) : List (Nat × Option Bx) := if K = [] then [] else [(3000, some ⟨38, rowC Act.flat K⟩)]
theorem atX_nil : atX [] = .v (.slice none 0 0) := rfl
theorem atB_nil : atB [] = [] := rfl
theorem atX_some {K : List Act} (h : K ≠ []) : atX K = .osl 3000 3 0 K.length := if_neg h
theorem atB_some {K : List Act} (h : K ≠ []) : atB K = [(3000, some ⟨38, rowC Act.flat K⟩)] := if_neg h
set_option maxHeartbeats 4000000 in
theorem rAt_f (f : File) (d : Int) (hl : f.acts.length ≤ 100000) : Fun Tryz.prog 41 [.agg f.flat, int d] (.agg (f.at d).flat) := by
  obtain ⟨c, l⟩ := f
  simp only at hl
  refine fun_W mixed Tryz.func41 rfl (Nat.le_of_ble_eq_true rfl) (by kernel_rfl) fun cx hN hR hF hL => ?_; apply args_k; (case hA => (simp only [go_sem, ↓reduceIte]; rfl))
  (try ((try (revert K;refine bK ?_));refine' run trivial ?_;(repeat' first|exact True.intro|refine Lv.mk ?_ ?_|(refine oK ?_;intro K hK)|intro hq);all_goals refine Lf.mk ?_))
  refine loopW mixed (σ := {i : Nat // i ≤ l.length}) (fun s => ⟨[(6, int s.1), (1, int d), (2, .ptr 0 0), (4, .ptr 8 0), (5, .ptr 1024 0)], atB (keepD d (l.take s.1)) ++ [(1024, some ⟨41, [int c.id, int c.policy, int c.peril, int c.loss, int c.booked, int c.event, atX (keepD d (l.take s.1))]⟩), (0, some ⟨41, (File.mk c l).flat⟩), (8, some ⟨41, [int 0, int 0, int 0, int 0, int 0, int 0, .v (.slice none 0 0)]⟩)], 3001⟩) (fun s => l.length - s.1) id ⟨0, by omega⟩ (by rw [hN]; kernel_rfl) ?_ ?_
  · simp only [List.take_zero, show keepD d [] = [] from rfl, atX_nil, atB_nil, List.nil_append]
    simp only [go_sem, ↓reduceIte, hF]
    rfl
  · rintro ⟨i, h1⟩
    by_cases hi : i < l.length
    · have e0 : l[i]? = some l[i] := List.getElem?_eq_getElem hi
      have e1 : (l.map Act.flat)[i]? = some l[i].flat := by rw [List.getElem?_map, e0]; rfl
      have e2 : IntKind.i64.wrap ((i : Int) + 1) = ((i + 1 : Nat) : Int) := by rw [wrap_id] <;> omega
      have hk1 : i < (l.map Act.flat).length := by simpa using hi
      have hsn := keepD_snoc d e0
      have hle := keepD_le d (l.take i)
      rw [List.length_take, Nat.min_eq_left h1] at hle
      generalize hQ : keepD d (l.take i) = Q at *
      generalize l[i] = a at *
      simp only [hQ]
      by_cases hd : a.booked ≤ d
      · have hd2 : (a.booked ≤ d) = True := eq_true hd
        rw [if_pos hd] at hsn
        by_cases hn : Q = []
        · subst hn
          simp only [atX_nil, atB_nil, List.nil_append]
          (try ((try (revert K;refine bK ?_));refine' run (I e1 (I e2 (I hk1 (I hd2 (decide_eq_true hd))))) ?_;(repeat' first|exact True.intro|refine Lv.mk ?_ ?_|(refine oK ?_;intro K hK)|intro hq);all_goals refine Lf.mk ?_))
          · refine ⟨⟨i + 1, hi⟩, nm1 3000 5065, ?_, by show l.length - (i + 1) < l.length - i; omega⟩
            have hne : [a] ≠ [] := by simp
            have hrk : rowC Act.flat [a] = [int a.booked, int a.kind, int a.amt] := by simp [rowC, Act.flat]
            replace hsn : keepD d (l.take (i + 1)) = [a] := hsn
            simp only [hsn, atX_some hne, atB_some hne, hrk, List.cons_append, List.nil_append, List.length_append, List.length_singleton]
            simp only [go_sem, ↓reduceIte, hF, List.map_append, List.all_append]
          · simp [maxLen]
        · simp only [atX_some hn, atB_some hn, List.cons_append, List.nil_append]
          (try ((try (revert K;refine bK ?_));refine' run (I e1 (I e2 (I hk1 (I hd2 (decide_eq_true hd))))) ?_;(repeat' first|exact True.intro|refine Lv.mk ?_ ?_|(refine oK ?_;intro K hK)|intro hq);all_goals refine Lf.mk ?_))
          · refine ⟨⟨i + 1, hi⟩, nm1 3000 5065, ?_, by show l.length - (i + 1) < l.length - i; omega⟩
            have hne : Q ++ [a] ≠ [] := by simp
            have hrk : rowC Act.flat (Q ++ [a]) = rowC Act.flat Q ++ [int a.booked, int a.kind, int a.amt] := by simp [rowC, Act.flat]
            simp only [hsn, atX_some hne, atB_some hne, hrk, List.cons_append, List.nil_append, List.length_append, List.length_singleton]
            simp only [go_sem, ↓reduceIte, hF, List.map_append, List.all_append]
          · have hlq := rowK_len Q
            exact ⟨hlq, by simp [maxLen]; omega⟩
      · have hd2 : (a.booked ≤ d) = False := eq_false hd
        rw [if_neg hd, List.append_nil] at hsn
        by_cases hn : Q = []
        · subst hn
          simp only [atX_nil, atB_nil, List.nil_append]
          (try ((try (revert K;refine bK ?_));refine' run (I e1 (I e2 (I hk1 (I hd2 (decide_eq_false hd))))) ?_;(repeat' first|exact True.intro|refine Lv.mk ?_ ?_|(refine oK ?_;intro K hK)|intro hq);all_goals refine Lf.mk ?_))
          refine ⟨⟨i + 1, hi⟩, id, ?_, by show l.length - (i + 1) < l.length - i; omega⟩
          simp only [hsn, atX_nil, atB_nil, List.nil_append]
          simp only [go_sem, ↓reduceIte, hF]
        · simp only [atX_some hn, atB_some hn, List.cons_append, List.nil_append]
          (try ((try (revert K;refine bK ?_));refine' run (I e1 (I e2 (I hk1 (I hd2 (decide_eq_false hd))))) ?_;(repeat' first|exact True.intro|refine Lv.mk ?_ ?_|(refine oK ?_;intro K hK)|intro hq);all_goals refine Lf.mk ?_))
          refine ⟨⟨i + 1, hi⟩, id, ?_, by show l.length - (i + 1) < l.length - i; omega⟩
          simp only [hsn, atX_some hn, atB_some hn, List.cons_append, List.nil_append]
          simp only [go_sem, ↓reduceIte, hF]
    · obtain rfl : i = l.length := by omega
      have hla : keepD d (l.take l.length) = keepD d l := by rw [List.take_length]
      simp only [hla]
      by_cases hn : keepD d l = []
      · simp only [hn, atX_nil, atB_nil, List.nil_append]
        (try ((try (revert K;refine bK ?_));refine' run trivial ?_;(repeat' first|exact True.intro|refine Lv.mk ?_ ?_|(refine oK ?_;intro K hK)|intro hq);all_goals refine Lf.mk ?_))
        exact ⟨rfl, rfl, rfl, rfl, rfl, rfl, by show (keepD d l).map Act.flat = []; rw [hn]; rfl⟩
      · simp only [atX_some hn, atB_some hn, List.cons_append, List.nil_append]
        (try ((try (revert K;refine bK ?_));refine' run trivial ?_;(repeat' first|exact True.intro|refine Lv.mk ?_ ?_|(refine oK ?_;intro K hK)|intro hq);all_goals refine Lf.mk ?_))
        exact ⟨rfl, rfl, rfl, rfl, rfl, rfl, ⟨rfl, rows_len (F := Act.flat) (fun _ => rfl) _⟩, fzo_rows (F := Act.flat) (k := 3) (fun _ => rfl) (fun _ => by simp [Act.flat]) _ rfl⟩
end Go.Proofs.YtjplhfmakghabaaGreat.V
namespace Go.Proofs.YtjplhfmakghabaaGreat.V
open Go.RowKit
set_option maxRecDepth 100000
attribute [local go_sem] Option.toList_some Option.toList_none

set_option maxHeartbeats 4000000 in
theorem rKnown_f (l : List File) (d : Int) (hl : l.length ≤ 100000) (ha : ∀ f, f ∈ l → f.acts.length ≤ 100000) : Fun Tryz.prog 24 [filesA l, int d] (filesA (knownR l d)) := by
  refine fun_W mixed Tryz.func24 rfl (Nat.le_of_ble_eq_true rfl) (by kernel_rfl) fun cx hN hR hF hL => ?_; apply args_k; (case hA => (simp only [go_sem, ↓reduceIte]; rfl))
  (try ((try (revert K;refine bK ?_));refine' run trivial ?_;(repeat' first|exact True.intro|refine Lv.mk ?_ ?_|(refine oK ?_;intro K hK)|intro hq);all_goals refine Lf.mk ?_))
  refine loop_nil 5 3000 7 41 rfl (Nat.le_of_ble_eq_true rfl) ?_
  refine loopW mixed (σ := {i : Nat // i ≤ l.length}) (fun s => ⟨[(6, int s.1), (5, .osl 3000 7 0 (knownR (l.take s.1) d).length), (0, filesA l), (1, int d)], [(3000, some ⟨41, rowC File.flat (knownR (l.take s.1) d)⟩)], 3001⟩) (fun s => l.length - s.1) id ⟨0, by omega⟩ (by rw [hN]; kernel_rfl) ?_ ?_
  · simp only [go_sem, ↓reduceIte, hF]
    exact ⟨⟨rfl, rfl⟩, rfl⟩
  · rintro ⟨i, g1⟩
    by_cases gi : i < l.length
    · have e0 : l[i]? = some l[i] := List.getElem?_eq_getElem gi
      have e1 : (l.map File.flat)[i]? = some l[i].flat := by rw [List.getElem?_map, e0]; rfl
      have e2 : IntKind.i64.wrap ((i : Int) + 1) = ((i + 1 : Nat) : Int) := by rw [wrap_id] <;> omega
      have hk1 : i < (l.map File.flat).length := by simpa using gi
      have hsn := knownR_snoc d e0
      have hat := rAt_f l[i] d (ha _ (List.getElem_mem gi))
      have hkl := knownR_len (l.take i) d
      rw [List.length_take, Nat.min_eq_left g1] at hkl
      generalize knownR (l.take i) d = Q at *
      have hln := rowF_len Q
      generalize l[i] = f at *
      by_cases hd : f.claim.booked ≤ d
      · rw [if_pos hd] at hsn
        (repeat' first|((try (revert K;refine bK ?_));refine' run (I e1 (I e2 (I hk1 (I (eq_true hd) (decide_eq_true hd))))) ?_;(repeat' first|exact True.intro|refine Lv.mk ?_ ?_|(refine oK ?_;intro K hK)|intro hq);all_goals refine Lf.mk ?_)|refine callZ cl41 (hat) ?_)
        · refine ⟨⟨i + 1, gi⟩, nm1 3000 5065, ?_, by show l.length - (i + 1) < l.length - i; omega⟩
          simp only [hsn, rowF_snoc, List.length_append, List.length_singleton]
          simp only [go_sem, ↓reduceIte, hF, List.map_append, List.all_append]
        · exact ⟨hln, by simp [maxLen]; omega⟩
      · rw [if_neg hd, List.append_nil] at hsn
        (try ((try (revert K;refine bK ?_));refine' run (I e1 (I e2 (I hk1 (I (eq_false hd) (decide_eq_false hd))))) ?_;(repeat' first|exact True.intro|refine Lv.mk ?_ ?_|(refine oK ?_;intro K hK)|intro hq);all_goals refine Lf.mk ?_))
        refine ⟨⟨i + 1, gi⟩, id, ?_, by show l.length - (i + 1) < l.length - i; omega⟩
        simp only [hsn]
        simp only [go_sem, ↓reduceIte, hF]
    · obtain rfl : i = l.length := by omega
      simp only [List.take_length]
      (try ((try (revert K;refine bK ?_));refine' run trivial ?_;(repeat' first|exact True.intro|refine Lv.mk ?_ ?_|(refine oK ?_;intro K hK)|intro hq);all_goals refine Lf.mk ?_))
      exact ⟨rows_len (F := File.flat) (fun _ => rfl) _, fzo_rows (F := File.flat) (k := 7) (fun _ => rfl) (fun _ => by simp [File.flat]) _ rfl⟩

set_option maxHeartbeats 4000000 in
theorem refAt_f (c : Cover) (l : List File) (d : Int) (hc : c.ok) (hl : l.length ≤ 100000) (ha : ∀ f, f ∈ l → f.acts.length ≤ 100000) : Fun Tryz.prog 16 [.agg c.flat, filesA l, int d] (.tup [.agg (atP c l d).flat, int (atE c l d)]) := by
  have hml := Nat.le_trans (knownR_len l d) hl
  have k1 := rOf_f c l hc hl
  have k2 := rKnown_f l d hl ha
  have k3 := rOf_f c (knownR l d) hc hml
  have k4 := rSumP_f (ofL c (knownR l d)) (Nat.le_trans (ofL_le _ _) hml)
  unfold atP atE
  generalize knownR l d = m at *
  generalize ofL c l = p at *
  generalize ofL c m = q at *
  generalize checkE c l = e1 at *
  generalize checkE c m = e2 at *
  generalize sumP q = s at *
  obtain ⟨q1, q2, q3, q4, q5, q6⟩ := s
  by_cases h1 : e1 = 0
  · by_cases h2 : e2 = 0
    · rw [if_pos ⟨h1, h2⟩, if_pos h1]
      subst h1 h2
      refine fun_W mixed Tryz.func16 rfl (Nat.le_of_ble_eq_true rfl) (by kernel_rfl) fun cx hN hR hF hL => ?_; apply args_k; (case hA => (simp only [go_sem, ↓reduceIte]; rfl))
      (repeat' first|((try (revert K;refine bK ?_));refine' run trivial ?_;(repeat' first|exact True.intro|refine Lv.mk ?_ ?_|(refine oK ?_;intro K hK)|intro hq);all_goals refine Lf.mk ?_)|refine callZ cl24 (k2) ?_|refine callZ cl14 (k3) ?_|refine callZ cl14 (k1) ?_|refine callZ cl25 (k4) ?_)
    · rw [if_neg (fun h => h2 h.2), if_pos h1]
      subst h1
      refine fun_W mixed Tryz.func16 rfl (Nat.le_of_ble_eq_true rfl) (by kernel_rfl) fun cx hN hR hF hL => ?_; apply args_k; (case hA => (simp only [go_sem, ↓reduceIte]; rfl))
      (repeat' first|((try (revert K;refine bK ?_));refine' run (I (eq_false h2) (decide_eq_false h2)) ?_;(repeat' first|exact True.intro|refine Lv.mk ?_ ?_|(refine oK ?_;intro K hK)|intro hq);all_goals refine Lf.mk ?_)|refine callZ cl24 (k2) ?_|refine callZ cl14 (k3) ?_|refine callZ cl14 (k1) ?_)
      exact ⟨rfl, rfl, rfl, rfl, rfl, rfl⟩
  · rw [if_neg (fun h => h1 h.1), if_neg h1]
    refine fun_W mixed Tryz.func16 rfl (Nat.le_of_ble_eq_true rfl) (by kernel_rfl) fun cx hN hR hF hL => ?_; apply args_k; (case hA => (simp only [go_sem, ↓reduceIte]; rfl))
    (repeat' first|((try (revert K;refine bK ?_));refine' run (I (eq_false h1) (decide_eq_false h1)) ?_;(repeat' first|exact True.intro|refine Lv.mk ?_ ?_|(refine oK ?_;intro K hK)|intro hq);all_goals refine Lf.mk ?_)|refine callZ cl24 (k2) ?_|refine callZ cl14 (k3) ?_|refine callZ cl14 (k1) ?_)
    exact ⟨rfl, rfl, rfl, rfl, rfl, rfl⟩

end Go.Proofs.YtjplhfmakghabaaGreat.V
