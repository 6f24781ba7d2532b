/- slices.SortStableFunc: merging, as plain lists. -/
import Derived.Test.YtkagkiepicepeaaO3
set_option linter.unusedSimpArgs false
set_option linter.unusedVariables false
namespace Go.Proofs.Ytkagkiepicepeaa.V
set_option maxRecDepth 100000

section
variable {α : Type} {lt : α → α → Bool}

/-- A strict weak order. -/
structure SW (lt : α → α → Bool) : Prop where
  asym : ∀ x y, lt x y = true → lt y x = false
  ntr : ∀ x y z, lt y x = false → lt z y = false → lt z x = false

def Srt (lt : α → α → Bool) (l : List α) : Prop := l.Pairwise fun x y => lt y x = false

theorem SW.lt_of {x y z : α} (h : SW lt) (h1 : lt x y = true) (h2 : lt z y = false) : lt x z = true := by
  cases h3 : lt x z with
  | true => rfl
  | false => have := h.ntr y z x h2 h3; rw [h1] at this; cases this
theorem SW.of_lt {x y z : α} (h : SW lt) (h1 : lt y x = false) (h2 : lt y z = true) : lt x z = true := by
  cases h3 : lt x z with
  | true => rfl
  | false => have := h.ntr z x y h3 h1; rw [h2] at this; cases this

def mrg (lt : α → α → Bool) : List α → List α → List α
  | [], V => V
  | u :: U, [] => u :: U
  | u :: U, v :: V => if lt v u then v :: mrg lt (u :: U) V else u :: mrg lt U (v :: V)
termination_by U V => U.length + V.length

@[simp] theorem mrg_nil (V : List α) : mrg lt [] V = V := by unfold mrg; rfl
@[simp] theorem mrg_nil' (U : List α) : mrg lt U [] = U := by cases U <;> simp [mrg]
theorem mrg_cons (u v : α) (U V : List α) : mrg lt (u :: U) (v :: V) = if lt v u then v :: mrg lt (u :: U) V else u :: mrg lt U (v :: V) := by rw [mrg]

theorem mrg_split : ∀ (U1 V1 U2 V2 : List α), (∀ u, u ∈ U1 → ∀ v, v ∈ V2 → lt v u = false) → (∀ v, v ∈ V1 → ∀ u, u ∈ U2 → lt v u = true) → mrg lt (U1 ++ U2) (V1 ++ V2) = mrg lt U1 V1 ++ mrg lt U2 V2
  | [], [], U2, V2, _, _ => by simp
  | [], v :: V1, U2, V2, h1, h2 => by
    rcases U2 with _ | ⟨u, U2⟩
    · simp
    · have ih := mrg_split [] V1 (u :: U2) V2 (by simp) (fun x hx => h2 x (by simp [hx]))
      simp only [List.nil_append, List.cons_append, mrg_nil, mrg_cons] at ih ⊢
      rw [h2 v (by simp) u (by simp), if_pos rfl, ih]
  | u :: U1, [], U2, V2, h1, h2 => by
    rcases V2 with _ | ⟨v, V2⟩
    · simp
    · have ih := mrg_split U1 [] U2 (v :: V2) (fun x hx => h1 x (by simp [hx])) (by simp)
      simp only [List.nil_append, List.cons_append, mrg_nil', mrg_cons] at ih ⊢
      rw [h1 u (by simp) v (by simp), if_neg (by simp), ih]
  | u :: U1, v :: V1, U2, V2, h1, h2 => by
    simp only [List.cons_append, mrg_cons]
    split
    · have ih := mrg_split (u :: U1) V1 U2 V2 h1 (fun x hx => h2 x (by simp [hx]))
      simp only [List.cons_append] at ih
      rw [ih, List.cons_append]
    · have ih := mrg_split U1 (v :: V1) U2 V2 (fun x hx => h1 x (by simp [hx])) h2
      simp only [List.cons_append] at ih
      rw [ih, List.cons_append]
termination_by U1 V1 => U1.length + V1.length

theorem mrg_len : ∀ (U V : List α), (mrg lt U V).length = U.length + V.length
  | [], V => by simp
  | u :: U, [] => by simp
  | u :: U, v :: V => by
    rw [mrg_cons]
    split
    · rw [List.length_cons, mrg_len (u :: U) V]; simp; omega
    · rw [List.length_cons, mrg_len U (v :: V)]; simp; omega
termination_by U V => U.length + V.length

theorem mrg_mem {x : α} : ∀ (U V : List α), x ∈ mrg lt U V ↔ x ∈ U ∨ x ∈ V
  | [], V => by simp
  | u :: U, [] => by simp
  | u :: U, v :: V => by
    rw [mrg_cons]
    split
    · rw [List.mem_cons, mrg_mem (u :: U) V]; simp only [List.mem_cons]; grind
    · rw [List.mem_cons, mrg_mem U (v :: V)]; simp only [List.mem_cons]; grind
termination_by U V => U.length + V.length

theorem Srt.app {U V : List α} : Srt lt (U ++ V) ↔ Srt lt U ∧ Srt lt V ∧ ∀ u, u ∈ U → ∀ v, v ∈ V → lt v u = false := List.pairwise_append

theorem mrg_srt (h : SW lt) : ∀ (U V : List α), Srt lt U → Srt lt V → Srt lt (mrg lt U V)
  | [], V, _, hV => by simpa using hV
  | u :: U, [], hU, _ => by simpa using hU
  | u :: U, v :: V, hU, hV => by
    rw [mrg_cons]
    obtain ⟨a1, a2⟩ := List.pairwise_cons.1 hU
    obtain ⟨b1, b2⟩ := List.pairwise_cons.1 hV
    split
    · rename_i hc
      refine List.pairwise_cons.2 ⟨fun x hx => ?_, mrg_srt h (u :: U) V hU b2⟩
      rcases (mrg_mem _ _).1 hx with hx | hx
      · rcases List.mem_cons.1 hx with rfl | hx
        · exact h.asym _ _ hc
        · exact h.ntr _ _ _ (h.asym _ _ hc) (a1 x hx)
      · exact b1 x hx
    · rename_i hc
      have hc : lt v u = false := by simpa using hc
      refine List.pairwise_cons.2 ⟨fun x hx => ?_, mrg_srt h U (v :: V) a2 hV⟩
      rcases (mrg_mem _ _).1 hx with hx | hx
      · exact a1 x hx
      · rcases List.mem_cons.1 hx with rfl | hx
        · exact hc
        · exact h.ntr _ _ _ hc (b1 x hx)
termination_by U V => U.length + V.length

/-! ### Insertion sort -/

theorem srt_rev_insR (h : SW lt) (x : α) : ∀ (R : List α), Srt lt R.reverse → ∃ P Q, R.reverse = P ++ Q ∧ (insR lt x R).reverse = P ++ x :: Q ∧ (∀ p, p ∈ P → lt x p = false) ∧ ∀ q, q ∈ Q → lt x q = true
  | [], _ => ⟨[], [], rfl, rfl, by simp, by simp⟩
  | r :: R, hR => by
    rw [List.reverse_cons] at hR
    obtain ⟨h1, h2, h3⟩ := Srt.app.1 hR
    rw [insR]
    split
    · rename_i hc
      obtain ⟨P, Q, e1, e2, e3, e4⟩ := srt_rev_insR h x R h1
      refine ⟨P, Q ++ [r], by rw [List.reverse_cons, e1]; simp, by rw [List.reverse_cons, e2]; simp, e3, fun q hq => ?_⟩
      rcases List.mem_append.1 hq with hq | hq
      · exact e4 q hq
      · simp at hq; subst hq; exact hc
    · rename_i hc
      have hc : lt x r = false := by simpa using hc
      refine ⟨(r :: R).reverse, [], by simp, by simp, fun p hp => ?_, by simp⟩
      simp only [List.reverse_cons, List.mem_append, List.mem_singleton] at hp
      rcases hp with hp | rfl
      · exact h.ntr _ _ _ (h3 p hp r (by simp)) hc
      · exact hc

theorem isort_cut (h : SW lt) (S : List α) (x : α) (hS : Srt lt (isort lt S)) : ∃ P Q, isort lt S = P ++ Q ∧ isort lt (S ++ [x]) = P ++ x :: Q ∧ (∀ p, p ∈ P → lt x p = false) ∧ ∀ q, q ∈ Q → lt x q = true := by
  unfold isort at *
  rw [isortR_snoc]
  exact srt_rev_insR h x _ hS

theorem isort_srt (h : SW lt) (S : List α) : Srt lt (isort lt S) := by
  rcases List.eq_nil_or_concat S with rfl | ⟨S, x, rfl⟩
  · simp [isort, isortR, Srt]
  · have ih := isort_srt h S
    rw [List.concat_eq_append]
    obtain ⟨P, Q, e1, e2, e3, e4⟩ := isort_cut h S x ih
    rw [e1] at ih
    rw [e2]
    obtain ⟨h1, h2, h3⟩ := Srt.app.1 ih
    refine Srt.app.2 ⟨h1, List.pairwise_cons.2 ⟨fun q hq => h.asym _ _ (e4 q hq), h2⟩, fun u hu v hv => ?_⟩
    rcases List.mem_cons.1 hv with rfl | hv
    · exact e3 u hu
    · exact h3 u hu v hv
termination_by S.length
decreasing_by simp_all

/-- A sorted list falls in two, at any place. -/
theorem srt_cut (h : SW lt) (x : α) : ∀ (S : List α), Srt lt S → ∃ P Q, S = P ++ Q ∧ (∀ p, p ∈ P → lt x p = false) ∧ ∀ q, q ∈ Q → lt x q = true
  | [], _ => ⟨[], [], rfl, by simp, by simp⟩
  | s :: S, hS => by
    obtain ⟨h1, h2⟩ := List.pairwise_cons.1 hS
    cases hc : lt x s with
    | true =>
      refine ⟨[], s :: S, rfl, by simp, fun q hq => ?_⟩
      rcases List.mem_cons.1 hq with rfl | hq
      · exact hc
      · exact h.lt_of hc (h1 q hq)
    | false =>
      obtain ⟨P, Q, e1, e2, e3⟩ := srt_cut h x S h2
      refine ⟨s :: P, Q, by rw [e1]; rfl, fun p hp => ?_, e3⟩
      rcases List.mem_cons.1 hp with rfl | hp
      · exact hc
      · exact e2 p hp

/-- What is sorted stays as it is. -/
theorem cut_eq {P Q P' Q' : List α} {x : α} (h : P ++ Q = P' ++ Q') (h1 : ∀ p, p ∈ P → lt x p = false) (h2 : ∀ q, q ∈ Q → lt x q = true) (h3 : ∀ p, p ∈ P' → lt x p = false) (h4 : ∀ q, q ∈ Q' → lt x q = true) : P = P' ∧ Q = Q' := by
  induction P generalizing P' with
  | nil =>
    rcases P' with _ | ⟨p, P'⟩
    · exact ⟨rfl, h⟩
    · simp only [List.nil_append, List.cons_append] at h
      have := h2 p (by rw [h]; simp)
      rw [h3 p (by simp)] at this
      cases this
  | cons p P ih =>
    rcases P' with _ | ⟨p', P'⟩
    · simp only [List.nil_append, List.cons_append] at h
      have := h4 p (by rw [← h]; simp)
      rw [h1 p (by simp)] at this
      cases this
    · simp only [List.cons_append, List.cons.injEq] at h
      obtain ⟨rfl, h⟩ := h
      obtain ⟨e1, e2⟩ := ih h (fun q hq => h1 q (by simp [hq])) (fun q hq => h3 q (by simp [hq]))
      exact ⟨by rw [e1], e2⟩

theorem mrg_isort (h : SW lt) (A B : List α) : mrg lt (isort lt A) (isort lt B) = isort lt (A ++ B) := by
  rcases List.eq_nil_or_concat B with rfl | ⟨B, x, rfl⟩
  · simp [isort, isortR]
  · have ih := mrg_isort h A B
    rw [List.concat_eq_append, ← List.append_assoc]
    have hA := isort_srt h A
    obtain ⟨P, Q, e1, e2, e3, e4⟩ := isort_cut h B x (isort_srt h B)
    obtain ⟨P', Q', f1, f2, f3, f4⟩ := isort_cut h (A ++ B) x (isort_srt h _)
    obtain ⟨A1, A2, g1, g2, g3⟩ := srt_cut h x _ hA
    have c1 : ∀ u, u ∈ A1 → ∀ v, v ∈ Q → lt v u = false := fun u hu v hv => h.ntr _ _ _ (g2 u hu) (h.asym _ _ (e4 v hv))
    have c2 : ∀ v, v ∈ P → ∀ u, u ∈ A2 → lt v u = true := fun v hv u hu => h.of_lt (e3 v hv) (g3 u hu)
    have c3 : ∀ u, u ∈ A1 → ∀ v, v ∈ x :: Q → lt v u = false := fun u hu v hv => by
      rcases List.mem_cons.1 hv with rfl | hv
      · exact g2 u hu
      · exact c1 u hu v hv
    have hm : mrg lt A1 P ++ mrg lt A2 Q = P' ++ Q' := by rw [← mrg_split _ _ _ _ c1 c2, ← g1, ← e1, ih, f1]
    obtain ⟨k1, k2⟩ := cut_eq (lt := lt) (x := x) hm (fun p hp => by
      rcases (mrg_mem _ _).1 hp with hp | hp
      · exact g2 p hp
      · exact e3 p hp) (fun p hp => by
      rcases (mrg_mem _ _).1 hp with hp | hp
      · exact g3 p hp
      · exact e4 p hp) f3 f4
    rw [e2, f2, g1, mrg_split _ _ _ _ c3 c2, ← k1, ← k2]
    congr 1
    rcases A2 with _ | ⟨a, A2⟩
    · simp
    · rw [mrg_cons, g3 a (by simp), if_pos rfl]
termination_by B.length
decreasing_by simp_all

/-- Sorted piece by piece. -/
def blk (lt : α → α → Bool) (s : Nat) (l : List α) : List α := if h : l.length ≤ s ∨ s = 0 then isort lt l else isort lt (l.take s) ++ blk lt s (l.drop s)
termination_by l.length
decreasing_by simp; omega

theorem blk_le {s : Nat} {l : List α} (h : l.length ≤ s) : blk lt s l = isort lt l := by rw [blk, dif_pos (.inl h)]
theorem blk_app {s : Nat} {A R : List α} (hA : A.length = s) (hs : 0 < s) : blk lt s (A ++ R) = isort lt A ++ blk lt s R := by
  by_cases hR : R = []
  · subst hR
    rw [List.append_nil, blk_le (by omega), blk_le (by simp)]
    simp [isort, isortR]
  · have := List.length_pos_iff.2 hR
    rw [blk, dif_neg (by rw [List.length_append]; omega), List.take_append_of_le_length (by omega), List.take_of_length_le (by omega), List.drop_append_of_le_length (by omega), List.drop_eq_nil_of_le (by omega), List.nil_append]
theorem blk_len {s : Nat} (l : List α) : (blk lt s l).length = l.length := by
  rw [blk]
  split
  · exact isort_len _ _
  · rename_i h
    rw [List.length_append, isort_len, blk_len (l.drop s)]
    simp; omega
termination_by l.length
decreasing_by simp; omega
theorem blk_mem {s : Nat} {x : α} (l : List α) : x ∈ blk lt s l ↔ x ∈ l := by
  rw [blk]
  split
  · exact isort_mem
  · rename_i h
    rw [List.mem_append, isort_mem, blk_mem (l.drop s), ← List.mem_append, List.take_append_drop]
termination_by l.length
decreasing_by simp; omega
end
end Go.Proofs.Ytkagkiepicepeaa.V
