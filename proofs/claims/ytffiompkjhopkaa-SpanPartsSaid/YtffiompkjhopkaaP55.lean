/- slices.SortFunc at spans by their first days: the library's contract (the kit's), as a contract over plain data. -/
import Derived.Test.YtffiompkjhopkaaP54
import Derived.Test.YtffiompkjhopkaaQ1
import Derived.Shelf.SlSortCmp.NoneTotal
import Derived.Shelf.SlSortCmp.WholeK
import Derived.Lib.Small
import Derived.Lib.Walk
set_option linter.unusedSimpArgs false
set_option linter.unusedVariables false
namespace Go.Proofs.Ytffiompkjhopkaa.V
open Go.RowKit Go.Sort Go.Shelf Go.Lib
set_option maxRecDepth 100000

theorem isNaN_c (x : Int) (w : World) : Calls Try.prog 81 #[.int .i64 x] w fun e w' => e = .returned (.bool false) ∧ w' = w := by
  go_enter Try.func81, Try.ntmps81
  go_wp2
  go_ret
  exact ⟨by simp, rfl⟩
set_option maxHeartbeats 1000000 in
theorem compare_c (x y : Int) (w : World) : Calls Try.prog 71 #[.int .i64 x, .int .i64 y] w fun e w' => e = .returned (.int .i64 (Lib.compareInt x y)) ∧ w' = w := by
  go_enter Try.func71, Try.ntmps71
  go_wp2_with (go_at_call 81; refine (isNaN_c _ _).mono ?_; rintro e w' ⟨rfl, hw⟩; rw [hw])
  all_goals (go_ret; refine ⟨?_, rfl⟩; unfold Lib.compareInt; (repeat' split) <;> first | rfl | (exfalso; omega))

def encS (p : Int × Int) : List Value := [.int .i64 p.1, .int .i64 p.2]
def cfS (x y : Int × Int) : Int := Lib.compareInt x.1 y.1
theorem ltS (x y : Int × Int) : ltOf cfS x y = decide (x.1 < y.1) := by
  unfold ltOf cfS Lib.compareInt
  by_cases h1 : x.1 < y.1
  · simp [h1]
  · by_cases h2 : y.1 < x.1 <;> simp [h1, h2]
theorem swoS : SWO (ltOf cfS) where
  irrefl x := by rw [ltS]; simp
  trans x y z h1 h2 := by rw [ltS] at *; simp at *; omega
  ntrans x y z h1 h2 := by rw [ltS] at *; simp at *; omega

set_option maxHeartbeats 1000000 in
theorem cmpS_c (x y : Int × Int) (w : World) : Calls Try.prog 70 #[.agg #[.int .i64 x.1, .int .i64 x.2], .agg #[.int .i64 y.1, .int .i64 y.2]] w fun e w' => e = .returned (.int .i64 (cfS x y)) ∧ ∃ q os, w' = grow (w.drewN q) os := by
  have hcon := fun W' => compare_c x.1 y.1 W'
  unfold cfS
  generalize Lib.compareInt x.1 y.1 = r at hcon ⊢
  go_enter Try.func70, Try.ntmps70
  go_wp2_with (go_at_call 71; refine (hcon _).mono ?_; rintro e w' ⟨rfl, rfl⟩)
  go_ret
  exact ⟨rfl, 0, _, by rw [alloc_eq_grow, alloc_eq_grow, grow_grow]; rfl⟩

/-- What the library makes of it. -/
def sortS (l : Sps) : Sps := (pdq (ltOf cfS) l.toArray 0 l.length (Lib.bitLen l.length) true true).toList
theorem sortS_spec (l : Sps) : (sortS l).Perm l ∧ (sortS l).Pairwise fun p q => p.1 ≤ q.1 := by
  have h := pdq_sorts (ltOf cfS) swoS l.toArray 0 l.toArray.size (Lib.bitLen l.length) true true (Nat.zero_le _) (Nat.le_refl _) (Or.inl rfl)
  rw [List.size_toArray] at h
  unfold sortS
  generalize pdq (ltOf cfS) l.toArray 0 l.length (Lib.bitLen l.length) true true = d at *
  obtain ⟨⟨h1, -, h3⟩, h4⟩ := h
  have hs : d.size = l.length := by simpa using h1
  constructor
  · have e1 : d.extract 0 l.length = d := by rw [← hs]; simp
    have e2 : l.toArray.extract 0 l.length = l.toArray := by simp
    rw [e1, e2] at h3
    simpa using h3
  · rw [List.pairwise_iff_getElem]
    intro i j hi hj hij
    have hi' : i < d.size := by simpa using hi
    have hj' : j < d.size := by simpa using hj
    have := h4 i j (Nat.zero_le _) hij (by omega)
    rw [ltS, getElem!_pos d j hj', getElem!_pos d i hi'] at this
    simp at this ⊢
    omega

theorem rowP_at : ∀ (l : Sps) (j : Nat), (rowC prow l)[j]? = (l[j / 2]?).map fun p => if j % 2 = 0 then int p.1 else int p.2
  | [], j => by simp [rowC]
  | p :: l, j => by
    have hc : rowC prow (p :: l) = int p.1 :: int p.2 :: rowC prow l := by simp [rowC, prow]
    rw [hc]
    rcases j with _ | _ | j
    · simp
    · simp
    · have e1 : (j + 1 + 1) / 2 = j / 2 + 1 := by omega
      have e2 : (j + 1 + 1) % 2 = j % 2 := by omega
      rw [e1, e2]
      simpa using rowP_at l j
theorem flatS_at (l : Sps) (t : Nat) (h : t < l.length * 2) : (flatK encS 2 l.toArray)[t]! = if t % 2 = 0 then .int .i64 (l[t / 2]'(by omega)).1 else .int .i64 (l[t / 2]'(by omega)).2 := by
  rw [get_flatK _ _ _ _ (by simpa using h), getElem!_pos l.toArray (t / 2) (by simp; omega)]
  have : t % 2 = 0 ∨ t % 2 = 1 := by omega
  rcases this with h | h <;> simp [h, encS]

theorem sortSp_f (l : Sps) (hl : l.length < 4611686018427387904) : FunB Try.prog 69 [(0, ⟨30, rowC prow l⟩)] [.osl 0 2 0 l.length, .v (.func (.func 70) #[] #[])] (.tup []) [(0, some ⟨30, rowC prow (sortS l)⟩)] := by
  refine funB_row (enc := Value.int .i64) (rowP_len _) (by rw [rowP_len, (sortS_spec l).1.length_eq]) ?_ ?_
  · intro M ι w g cap c vs hh hn hm hck hcell hvs hrest
    obtain ⟨v0, rfl⟩ : ∃ v0, vs = #[v0] := by
      obtain ⟨L⟩ := vs
      rcases L with _ | ⟨v0, _ | ⟨v1, L⟩⟩ <;> simp at hvs
      exact ⟨v0, rfl⟩
    obtain rfl := (hrest 0 v0 _ rfl rfl).ofV
    have hH : HoldsK encS 2 w g 0 l.toArray := fun j hj => by
      have hj : j < l.length * 2 := by simpa using hj
      have hjc : j < c.size := by omega
      have hd : j / 2 < l.length := by omega
      have h1 := hcell j c[j] _ (Array.getElem?_eq_getElem hjc) (by rw [rowP_at, List.getElem?_eq_getElem hd]; rfl)
      have he : c[j] = if j % 2 = 0 then .int .i64 (l[j / 2]).1 else .int .i64 (l[j / 2]).2 := by
        split at h1
        · rename_i hz; rw [if_pos hz]; exact h1.ofV
        · rename_i hz; rw [if_neg hz]; exact h1.ofV
      rw [Nat.zero_add, flatS_at l j hj, id, ← he]
      refine ⟨?_, ?_⟩
      · simp only [World.cell?, hh]
        rw [Array.getElem?_eq_getElem hjc]; rfl
      · simp [World.frozen?, hh]
    have eg : ∀ args w, (callFunc 70 args).run Try.prog w = .ok (.enter 70 args) w := cl70
    have hc := AnyQ.slices_SortFunc_eq Try.sortSpan 2 (by intro w; kernel_rfl) (by intro w; kernel_rfl) encS (fun _ => rfl) (fun x v hv => by simp [encS] at hv; rcases hv with rfl | rfl <;> rfl) cfS swoS 70 #[] g 0 cap l.toArray w eg (fun _ _ _ _ x y => cmpS_c x y _) hH (Array.getElem?_eq_some_iff.1 hh).1 (by simpa using hl)
    rw [List.size_toArray] at hc
    refine Calls.mono (show Calls Try.prog 69 _ w _ from hc) ?_
    rintro e w' ⟨rfl, m, os, rfl⟩
    refine ⟨rfl, m, os, flatK encS 2 (sortS l).toArray, by simp [(sortS_spec l).1.length_eq], fun j y hy => ?_, ?_⟩
    · rw [rowP_at] at hy
      simp only [Option.map_eq_some_iff] at hy
      obtain ⟨z, hz, rfl⟩ := hy
      obtain ⟨hzl, hze⟩ := List.getElem?_eq_some_iff.1 hz
      have hj : j < (sortS l).length * 2 := by omega
      have hfl := flatS_at (sortS l) j hj
      rw [getElem!_pos _ _ (by simpa using hj), hze] at hfl
      refine ⟨_, Array.getElem?_eq_getElem (by simpa using hj), ?_⟩
      rw [hfl]
      split <;> exact ⟨rfl, rfl⟩
    · unfold sortWorldK putRowK sortS
      rfl
  · intro hn M ι w A cap vs hvs hrest
    obtain ⟨v0, rfl⟩ : ∃ v0, vs = #[v0] := by
      obtain ⟨L⟩ := vs
      rcases L with _ | ⟨v0, _ | ⟨v1, L⟩⟩ <;> simp at hvs
      exact ⟨v0, rfl⟩
    exact AnyF.slices_SortFunc_none Try.sortSpan A cap v0 w
end Go.Proofs.Ytffiompkjhopkaa.V
