/- Stable sorting, as plain lists: exchanges, insertion, merging. -/
import Derived.Test.YtjplhfmakghabaaS3
set_option linter.unusedSimpArgs false
set_option linter.unusedVariables false
namespace Go.Proofs.Ytjplhfmakghabaa.V
set_option maxRecDepth 100000

open Go.RowKit
theorem wrap_id {n : Int} (h1 : -9223372036854775808 ≤ n) (h2 : n ≤ 9223372036854775807) : IntKind.i64.wrap n = n := by
  unfold IntKind.wrap
  simp [IntKind.bits, IntKind.signed]
  omega
theorem wrap_u {n : Int} (h1 : 0 ≤ n) (h2 : n ≤ 18446744073709551615) : IntKind.u64.wrap n = n := by
  unfold IntKind.wrap
  simp [IntKind.bits, IntKind.signed]
  omega
theorem half_n (n : Nat) : Int.fdiv (n : Int) 2 = ((n / 2 : Nat) : Int) := by
  rw [Int.fdiv_eq_ediv_of_nonneg _ (by decide)]
  rfl

/-- Two elements change places. -/
def swp {α : Type} (l : List α) (i j : Nat) : List α := match l[i]?, l[j]? with | some x, some y => (l.set i y).set j x | _, _ => l
theorem swp_len {α : Type} (l : List α) (i j : Nat) : (swp l i j).length = l.length := by
  unfold swp
  split <;> simp
theorem swp_seg {α : Type} (A B C : List α) (x y : α) (i j : Nat) (hi : i = A.length) (hj : j = A.length + 1 + B.length) : swp (A ++ x :: (B ++ y :: C)) i j = A ++ y :: (B ++ x :: C) := by
  subst hi hj
  have h1 : (A ++ x :: (B ++ y :: C))[A.length]? = some x := by simp
  have h2 : (A ++ x :: (B ++ y :: C))[A.length + 1 + B.length]? = some y := by
    rw [List.getElem?_append_right (by omega), show A.length + 1 + B.length - A.length = B.length + 1 by omega, List.getElem?_cons_succ, List.getElem?_append_right (by omega)]
    simp
  unfold swp
  simp only [h1, h2]
  rw [List.set_append_right _ _ (by omega), Nat.sub_self, List.set_cons_zero, List.set_append_right _ _ (by omega), show A.length + 1 + B.length - A.length = B.length + 1 by omega, List.set_cons_succ, List.set_append_right _ _ (by omega), Nat.sub_self, List.set_cons_zero]
def swapR {α : Type} (l : List α) (a b : Nat) : Nat → List α
  | 0 => l
  | i + 1 => swp (swapR l a b i) (a + i) (b + i)
theorem swapR_len {α : Type} (l : List α) (a b : Nat) : ∀ i, (swapR l a b i).length = l.length
  | 0 => rfl
  | i + 1 => by rw [swapR, swp_len, swapR_len l a b i]

theorem swapR_seg {α : Type} (l : List α) (a b : Nat) : ∀ (n : Nat) (X U V W Y : List α), l = X ++ (U ++ (V ++ (W ++ Y))) → U.length = n → W.length = n → a = X.length → b = X.length + U.length + V.length → swapR l a b n = X ++ (W ++ (V ++ (U ++ Y)))
  | 0, X, U, V, W, Y, hl, hu, hw, ha, hb => by
    obtain rfl : U = [] := List.eq_nil_of_length_eq_zero hu
    obtain rfl : W = [] := List.eq_nil_of_length_eq_zero hw
    simpa [swapR] using hl
  | n + 1, X, U, V, W, Y, hl, hu, hw, ha, hb => by
    rcases List.eq_nil_or_concat U with rfl | ⟨U, u, rfl⟩
    · simp at hu
    rcases List.eq_nil_or_concat W with rfl | ⟨W, w, rfl⟩
    · simp at hw
    simp only [List.concat_eq_append, List.length_append, List.length_singleton] at hu hw hb hl ⊢
    have ih := swapR_seg l a b n X U (u :: V) W (w :: Y) (by rw [hl]; simp) (by omega) (by omega) ha (by simp; omega)
    rw [swapR, ih]
    have := swp_seg (X ++ W) (V ++ U) Y u w (a + n) (b + n) (by simp; omega) (by simp; omega)
    simp only [List.append_assoc, List.cons_append, List.nil_append] at this ⊢
    exact this

theorem set_pair {α : Type} (A C : List α) (p x : α) (i j : Nat) (hi : i = A.length + 1) (hj : j = A.length) : ((A ++ p :: x :: C).set i p).set j x = A ++ x :: p :: C := by
  subst hi hj
  rw [List.set_append_right _ _ (by omega), show A.length + 1 - A.length = 1 by omega, List.set_cons_succ, List.set_cons_zero, List.set_append_right _ _ (by omega), Nat.sub_self, List.set_cons_zero]
theorem set_pair2 {α : Type} (A C : List α) (p x : α) (i j : Nat) (hi : i = A.length) (hj : j = A.length + 1) : ((A ++ p :: x :: C).set i x).set j p = A ++ x :: p :: C := by
  subst hi hj
  rw [List.set_append_right _ _ (by omega), Nat.sub_self, List.set_cons_zero, List.set_append_right _ _ (by omega), show A.length + 1 - A.length = 1 by omega, List.set_cons_succ, List.set_cons_zero]
theorem at_mid {α : Type} (A C : List α) (x : α) (i : Nat) (hi : i = A.length) : (A ++ x :: C)[i]? = some x := by
  subst hi; simp

/-- x is put among what lies behind, turned round. -/
def insR {α : Type} (lt : α → α → Bool) (x : α) : List α → List α
  | [] => [x]
  | p :: P => if lt x p then p :: insR lt x P else x :: p :: P
def isortR {α : Type} (lt : α → α → Bool) (S : List α) : List α := S.foldl (fun r x => insR lt x r) []
def isort {α : Type} (lt : α → α → Bool) (S : List α) : List α := (isortR lt S).reverse

theorem insR_len {α : Type} (lt : α → α → Bool) (x : α) : ∀ P, (insR lt x P).length = P.length + 1
  | [] => rfl
  | p :: P => by
    rw [insR]
    split
    · simp [insR_len lt x P]
    · simp
theorem isortR_snoc {α : Type} (lt : α → α → Bool) (S : List α) (x : α) : isortR lt (S ++ [x]) = insR lt x (isortR lt S) := by simp [isortR]
theorem isort_len {α : Type} (lt : α → α → Bool) (S : List α) : (isort lt S).length = S.length := by
  unfold isort
  rw [List.length_reverse]
  rcases List.eq_nil_or_concat S with rfl | ⟨S, x, rfl⟩
  · rfl
  · have ih := isort_len lt S
    unfold isort at ih
    rw [List.length_reverse] at ih
    rw [List.concat_eq_append, isortR_snoc, insR_len, ih]
    simp
termination_by S.length
decreasing_by simp_all

theorem insR_at {α : Type} {lt : α → α → Bool} {x : α} : ∀ (Q P : List α), (∀ q, q ∈ Q → lt x q = true) → (∀ p, P.head? = some p → lt x p = false) → insR lt x (Q ++ P) = Q ++ x :: P
  | [], [], _, _ => rfl
  | [], p :: P, _, h => by
    rw [List.nil_append, insR, h p rfl]
    rfl
  | q :: Q, P, hq, h => by
    rw [List.cons_append, insR, hq q (by simp), if_pos rfl, insR_at Q P (fun z hz => hq z (by simp [hz])) h, List.cons_append]

theorem isort_snoc {α : Type} {lt : α → α → Bool} {S P Q : List α} {x : α} (h : P ++ Q = isort lt S) (hq : ∀ q, q ∈ Q → lt x q = true) (hp : ∀ p, P.getLast? = some p → lt x p = false) : isort lt (S ++ [x]) = P ++ x :: Q := by
  unfold isort at h ⊢
  have h2 : isortR lt S = Q.reverse ++ P.reverse := by
    have := congrArg List.reverse h
    rw [List.reverse_reverse, List.reverse_append] at this
    exact this.symm
  rw [isortR_snoc, h2, insR_at _ _ (fun q hm => hq q (by simpa using hm)) (fun p hm => hp p (by simpa using hm))]
  simp

theorem isort_mem {α : Type} {lt : α → α → Bool} {S : List α} {y : α} : y ∈ isort lt S ↔ y ∈ S := by
  have ins : ∀ (x : α) (P : List α), y ∈ insR lt x P ↔ y = x ∨ y ∈ P := by
    intro x P
    induction P with
    | nil => simp [insR]
    | cons p P ih =>
      rw [insR]
      split
      · simp [ih]; grind
      · simp
  unfold isort
  rw [List.mem_reverse]
  unfold isortR
  have key : ∀ (S r : List α), y ∈ S.foldl (fun r x => insR lt x r) r ↔ y ∈ S ∨ y ∈ r := by
    intro S
    induction S with
    | nil => simp
    | cons s S ih => intro r; rw [List.foldl_cons, ih, ins]; simp; grind
  rw [key]; simp

section
variable {α : Type} {lt : α → α → Bool}

/-- A strict weak order. -/
structure SW (lt : α → α → Bool) : Prop where
  asym : ∀ x y, lt x y = true → lt y x = false
  ntr : ∀ x y z, lt y x = false → lt z y = false → lt z x = false

def Srt (lt : α → α → Bool) (l : List α) : Prop := l.Pairwise fun x y => lt y x = false

theorem SW.lt_of {x y z : α} (h : SW lt) (h1 : lt x y = true) (h2 : lt z y = false) : lt x z = true := by
  cases h3 : lt x z with
  | true => rfl
  | false => have := h.ntr y z x h2 h3; rw [h1] at this; cases this
theorem SW.of_lt {x y z : α} (h : SW lt) (h1 : lt y x = false) (h2 : lt y z = true) : lt x z = true := by
  cases h3 : lt x z with
  | true => rfl
  | false => have := h.ntr z x y h3 h1; rw [h2] at this; cases this

def mrg (lt : α → α → Bool) : List α → List α → List α
  | [], V => V
  | u :: U, [] => u :: U
  | u :: U, v :: V => if lt v u then v :: mrg lt (u :: U) V else u :: mrg lt U (v :: V)
termination_by U V => U.length + V.length

@[simp] theorem mrg_nil (V : List α) : mrg lt [] V = V := by unfold mrg; rfl
@[simp] theorem mrg_nil' (U : List α) : mrg lt U [] = U := by cases U <;> simp [mrg]
theorem mrg_cons (u v : α) (U V : List α) : mrg lt (u :: U) (v :: V) = if lt v u then v :: mrg lt (u :: U) V else u :: mrg lt U (v :: V) := by rw [mrg]

theorem mrg_split : ∀ (U1 V1 U2 V2 : List α), (∀ u, u ∈ U1 → ∀ v, v ∈ V2 → lt v u = false) → (∀ v, v ∈ V1 → ∀ u, u ∈ U2 → lt v u = true) → mrg lt (U1 ++ U2) (V1 ++ V2) = mrg lt U1 V1 ++ mrg lt U2 V2
  | [], [], U2, V2, _, _ => by simp
  | [], v :: V1, U2, V2, h1, h2 => by
    rcases U2 with _ | ⟨u, U2⟩
    · simp
    · have ih := mrg_split [] V1 (u :: U2) V2 (by simp) (fun x hx => h2 x (by simp [hx]))
      simp only [List.nil_append, List.cons_append, mrg_nil, mrg_cons] at ih ⊢
      rw [h2 v (by simp) u (by simp), if_pos rfl, ih]
  | u :: U1, [], U2, V2, h1, h2 => by
    rcases V2 with _ | ⟨v, V2⟩
    · simp
    · have ih := mrg_split U1 [] U2 (v :: V2) (fun x hx => h1 x (by simp [hx])) (by simp)
      simp only [List.nil_append, List.cons_append, mrg_nil', mrg_cons] at ih ⊢
      rw [h1 u (by simp) v (by simp), if_neg (by simp), ih]
  | u :: U1, v :: V1, U2, V2, h1, h2 => by
    simp only [List.cons_append, mrg_cons]
    split
    · have ih := mrg_split (u :: U1) V1 U2 V2 h1 (fun x hx => h2 x (by simp [hx]))
      simp only [List.cons_append] at ih
      rw [ih, List.cons_append]
    · have ih := mrg_split U1 (v :: V1) U2 V2 (fun x hx => h1 x (by simp [hx])) h2
      simp only [List.cons_append] at ih
      rw [ih, List.cons_append]
termination_by U1 V1 => U1.length + V1.length

theorem mrg_len : ∀ (U V : List α), (mrg lt U V).length = U.length + V.length
  | [], V => by simp
  | u :: U, [] => by simp
  | u :: U, v :: V => by
    rw [mrg_cons]
    split
    · rw [List.length_cons, mrg_len (u :: U) V]; simp; omega
    · rw [List.length_cons, mrg_len U (v :: V)]; simp; omega
termination_by U V => U.length + V.length

theorem mrg_mem {x : α} : ∀ (U V : List α), x ∈ mrg lt U V ↔ x ∈ U ∨ x ∈ V
  | [], V => by simp
  | u :: U, [] => by simp
  | u :: U, v :: V => by
    rw [mrg_cons]
    split
    · rw [List.mem_cons, mrg_mem (u :: U) V]; simp only [List.mem_cons]; grind
    · rw [List.mem_cons, mrg_mem U (v :: V)]; simp only [List.mem_cons]; grind
termination_by U V => U.length + V.length

theorem Srt.app {U V : List α} : Srt lt (U ++ V) ↔ Srt lt U ∧ Srt lt V ∧ ∀ u, u ∈ U → ∀ v, v ∈ V → lt v u = false := List.pairwise_append

theorem mrg_srt (h : SW lt) : ∀ (U V : List α), Srt lt U → Srt lt V → Srt lt (mrg lt U V)
  | [], V, _, hV => by simpa using hV
  | u :: U, [], hU, _ => by simpa using hU
  | u :: U, v :: V, hU, hV => by
    rw [mrg_cons]
    obtain ⟨a1, a2⟩ := List.pairwise_cons.1 hU
    obtain ⟨b1, b2⟩ := List.pairwise_cons.1 hV
    split
    · rename_i hc
      refine List.pairwise_cons.2 ⟨fun x hx => ?_, mrg_srt h (u :: U) V hU b2⟩
      rcases (mrg_mem _ _).1 hx with hx | hx
      · rcases List.mem_cons.1 hx with rfl | hx
        · exact h.asym _ _ hc
        · exact h.ntr _ _ _ (h.asym _ _ hc) (a1 x hx)
      · exact b1 x hx
    · rename_i hc
      have hc : lt v u = false := by simpa using hc
      refine List.pairwise_cons.2 ⟨fun x hx => ?_, mrg_srt h U (v :: V) a2 hV⟩
      rcases (mrg_mem _ _).1 hx with hx | hx
      · exact a1 x hx
      · rcases List.mem_cons.1 hx with rfl | hx
        · exact hc
        · exact h.ntr _ _ _ hc (b1 x hx)
termination_by U V => U.length + V.length

/-! ### Insertion sort -/

theorem srt_rev_insR (h : SW lt) (x : α) : ∀ (R : List α), Srt lt R.reverse → ∃ P Q, R.reverse = P ++ Q ∧ (insR lt x R).reverse = P ++ x :: Q ∧ (∀ p, p ∈ P → lt x p = false) ∧ ∀ q, q ∈ Q → lt x q = true
  | [], _ => ⟨[], [], rfl, rfl, by simp, by simp⟩
  | r :: R, hR => by
    rw [List.reverse_cons] at hR
    obtain ⟨h1, h2, h3⟩ := Srt.app.1 hR
    rw [insR]
    split
    · rename_i hc
      obtain ⟨P, Q, e1, e2, e3, e4⟩ := srt_rev_insR h x R h1
      refine ⟨P, Q ++ [r], by rw [List.reverse_cons, e1]; simp, by rw [List.reverse_cons, e2]; simp, e3, fun q hq => ?_⟩
      rcases List.mem_append.1 hq with hq | hq
      · exact e4 q hq
      · simp at hq; subst hq; exact hc
    · rename_i hc
      have hc : lt x r = false := by simpa using hc
      refine ⟨(r :: R).reverse, [], by simp, by simp, fun p hp => ?_, by simp⟩
      simp only [List.reverse_cons, List.mem_append, List.mem_singleton] at hp
      rcases hp with hp | rfl
      · exact h.ntr _ _ _ (h3 p hp r (by simp)) hc
      · exact hc

theorem isort_cut (h : SW lt) (S : List α) (x : α) (hS : Srt lt (isort lt S)) : ∃ P Q, isort lt S = P ++ Q ∧ isort lt (S ++ [x]) = P ++ x :: Q ∧ (∀ p, p ∈ P → lt x p = false) ∧ ∀ q, q ∈ Q → lt x q = true := by
  unfold isort at *
  rw [isortR_snoc]
  exact srt_rev_insR h x _ hS

theorem isort_srt (h : SW lt) (S : List α) : Srt lt (isort lt S) := by
  rcases List.eq_nil_or_concat S with rfl | ⟨S, x, rfl⟩
  · simp [isort, isortR, Srt]
  · have ih := isort_srt h S
    rw [List.concat_eq_append]
    obtain ⟨P, Q, e1, e2, e3, e4⟩ := isort_cut h S x ih
    rw [e1] at ih
    rw [e2]
    obtain ⟨h1, h2, h3⟩ := Srt.app.1 ih
    refine Srt.app.2 ⟨h1, List.pairwise_cons.2 ⟨fun q hq => h.asym _ _ (e4 q hq), h2⟩, fun u hu v hv => ?_⟩
    rcases List.mem_cons.1 hv with rfl | hv
    · exact e3 u hu
    · exact h3 u hu v hv
termination_by S.length
decreasing_by simp_all

/-- A sorted list falls in two, at any place. -/
theorem srt_cut (h : SW lt) (x : α) : ∀ (S : List α), Srt lt S → ∃ P Q, S = P ++ Q ∧ (∀ p, p ∈ P → lt x p = false) ∧ ∀ q, q ∈ Q → lt x q = true
  | [], _ => ⟨[], [], rfl, by simp, by simp⟩
  | s :: S, hS => by
    obtain ⟨h1, h2⟩ := List.pairwise_cons.1 hS
    cases hc : lt x s with
    | true =>
      refine ⟨[], s :: S, rfl, by simp, fun q hq => ?_⟩
      rcases List.mem_cons.1 hq with rfl | hq
      · exact hc
      · exact h.lt_of hc (h1 q hq)
    | false =>
      obtain ⟨P, Q, e1, e2, e3⟩ := srt_cut h x S h2
      refine ⟨s :: P, Q, by rw [e1]; rfl, fun p hp => ?_, e3⟩
      rcases List.mem_cons.1 hp with rfl | hp
      · exact hc
      · exact e2 p hp

/-- What is sorted stays as it is. -/
theorem cut_eq {P Q P' Q' : List α} {x : α} (h : P ++ Q = P' ++ Q') (h1 : ∀ p, p ∈ P → lt x p = false) (h2 : ∀ q, q ∈ Q → lt x q = true) (h3 : ∀ p, p ∈ P' → lt x p = false) (h4 : ∀ q, q ∈ Q' → lt x q = true) : P = P' ∧ Q = Q' := by
  induction P generalizing P' with
  | nil =>
    rcases P' with _ | ⟨p, P'⟩
    · exact ⟨rfl, h⟩
    · simp only [List.nil_append, List.cons_append] at h
      have := h2 p (by rw [h]; simp)
      rw [h3 p (by simp)] at this
      cases this
  | cons p P ih =>
    rcases P' with _ | ⟨p', P'⟩
    · simp only [List.nil_append, List.cons_append] at h
      have := h4 p (by rw [← h]; simp)
      rw [h1 p (by simp)] at this
      cases this
    · simp only [List.cons_append, List.cons.injEq] at h
      obtain ⟨rfl, h⟩ := h
      obtain ⟨e1, e2⟩ := ih h (fun q hq => h1 q (by simp [hq])) (fun q hq => h3 q (by simp [hq]))
      exact ⟨by rw [e1], e2⟩

theorem mrg_isort (h : SW lt) (A B : List α) : mrg lt (isort lt A) (isort lt B) = isort lt (A ++ B) := by
  rcases List.eq_nil_or_concat B with rfl | ⟨B, x, rfl⟩
  · simp [isort, isortR]
  · have ih := mrg_isort h A B
    rw [List.concat_eq_append, ← List.append_assoc]
    have hA := isort_srt h A
    obtain ⟨P, Q, e1, e2, e3, e4⟩ := isort_cut h B x (isort_srt h B)
    obtain ⟨P', Q', f1, f2, f3, f4⟩ := isort_cut h (A ++ B) x (isort_srt h _)
    obtain ⟨A1, A2, g1, g2, g3⟩ := srt_cut h x _ hA
    have c1 : ∀ u, u ∈ A1 → ∀ v, v ∈ Q → lt v u = false := fun u hu v hv => h.ntr _ _ _ (g2 u hu) (h.asym _ _ (e4 v hv))
    have c2 : ∀ v, v ∈ P → ∀ u, u ∈ A2 → lt v u = true := fun v hv u hu => h.of_lt (e3 v hv) (g3 u hu)
    have c3 : ∀ u, u ∈ A1 → ∀ v, v ∈ x :: Q → lt v u = false := fun u hu v hv => by
      rcases List.mem_cons.1 hv with rfl | hv
      · exact g2 u hu
      · exact c1 u hu v hv
    have hm : mrg lt A1 P ++ mrg lt A2 Q = P' ++ Q' := by rw [← mrg_split _ _ _ _ c1 c2, ← g1, ← e1, ih, f1]
    obtain ⟨k1, k2⟩ := cut_eq (lt := lt) (x := x) hm (fun p hp => by
      rcases (mrg_mem _ _).1 hp with hp | hp
      · exact g2 p hp
      · exact e3 p hp) (fun p hp => by
      rcases (mrg_mem _ _).1 hp with hp | hp
      · exact g3 p hp
      · exact e4 p hp) f3 f4
    rw [e2, f2, g1, mrg_split _ _ _ _ c3 c2, ← k1, ← k2]
    congr 1
    rcases A2 with _ | ⟨a, A2⟩
    · simp
    · rw [mrg_cons, g3 a (by simp), if_pos rfl]
termination_by B.length
decreasing_by simp_all

/-- Sorted piece by piece. -/
def blk (lt : α → α → Bool) (s : Nat) (l : List α) : List α := if h : l.length ≤ s ∨ s = 0 then isort lt l else isort lt (l.take s) ++ blk lt s (l.drop s)
termination_by l.length
decreasing_by simp; omega

theorem blk_le {s : Nat} {l : List α} (h : l.length ≤ s) : blk lt s l = isort lt l := by rw [blk, dif_pos (.inl h)]
theorem blk_app {s : Nat} {A R : List α} (hA : A.length = s) (hs : 0 < s) : blk lt s (A ++ R) = isort lt A ++ blk lt s R := by
  by_cases hR : R = []
  · subst hR
    rw [List.append_nil, blk_le (by omega), blk_le (by simp)]
    simp [isort, isortR]
  · have := List.length_pos_iff.2 hR
    rw [blk, dif_neg (by rw [List.length_append]; omega), List.take_append_of_le_length (by omega), List.take_of_length_le (by omega), List.drop_append_of_le_length (by omega), List.drop_eq_nil_of_le (by omega), List.nil_append]
theorem blk_len {s : Nat} (l : List α) : (blk lt s l).length = l.length := by
  rw [blk]
  split
  · exact isort_len _ _
  · rename_i h
    rw [List.length_append, isort_len, blk_len (l.drop s)]
    simp; omega
termination_by l.length
decreasing_by simp; omega
theorem blk_mem {s : Nat} {x : α} (l : List α) : x ∈ blk lt s l ↔ x ∈ l := by
  rw [blk]
  split
  · exact isort_mem
  · rename_i h
    rw [List.mem_append, isort_mem, blk_mem (l.drop s), ← List.mem_append, List.take_append_drop]
termination_by l.length
decreasing_by simp; omega
end
theorem mrg_one {α : Type} {lt : α → α → Bool} {u : α} {V1 V2 : List α} (h1 : ∀ v, v ∈ V1 → lt v u = true) (h2 : ∀ v, v ∈ V2 → lt v u = false) : mrg lt [u] (V1 ++ V2) = V1 ++ u :: V2 := by
  have := mrg_split (lt := lt) [] V1 [u] V2 (by simp) (fun v hv x hx => by simp at hx; subst hx; exact h1 v hv)
  simp only [List.nil_append, mrg_nil] at this
  rw [this]
  rcases V2 with _ | ⟨v, V2⟩
  · simp
  · rw [mrg_cons, h2 v (by simp)]
    simp
theorem mrg_last {α : Type} {lt : α → α → Bool} {v : α} {U1 U2 : List α} (h1 : ∀ u, u ∈ U1 → lt v u = false) (h2 : ∀ u, u ∈ U2 → lt v u = true) : mrg lt (U1 ++ U2) [v] = U1 ++ v :: U2 := by
  have := mrg_split (lt := lt) U1 [] U2 [v] (fun u hu x hx => by simp at hx; subst hx; exact h1 u hu) (by simp)
  simp only [List.nil_append, mrg_nil'] at this
  rw [this]
  rcases U2 with _ | ⟨u, U2⟩
  · simp
  · rw [mrg_cons, h2 u (by simp)]
    simp

theorem at_in {α : Type} {X V Y : List α} {k i : Nat} {v : α} (h : V[k]? = some v) (hi : i = X.length + k) : (X ++ (V ++ Y))[i]? = some v := by
  subst hi
  have := (List.getElem?_eq_some_iff.1 h).1
  rw [List.getElem?_append_right (by omega), show X.length + k - X.length = k by omega, List.getElem?_append_left this, h]

theorem srt_at {α : Type} {lt : α → α → Bool} (hS : SW lt) {V : List α} (h : Srt lt V) {i j : Nat} {x y : α} (hi : V[i]? = some x) (hj : V[j]? = some y) (hij : i ≤ j) : lt y x = false := by
  rcases Nat.lt_or_eq_of_le hij with hij | rfl
  · obtain ⟨a, rfl⟩ := List.getElem?_eq_some_iff.1 hi
    obtain ⟨b, rfl⟩ := List.getElem?_eq_some_iff.1 hj
    exact List.pairwise_iff_getElem.1 h i j _ _ hij
  · rw [hi] at hj
    injection hj with hj
    subst hj
    cases hc : lt x x with
    | false => rfl
    | true => have := hS.asym _ _ hc; rw [hc] at this; cases this
theorem srt_le {α : Type} {lt : α → α → Bool} (hS : SW lt) {V : List α} (h : Srt lt V) {i j : Nat} {x y u : α} (hi : V[i]? = some x) (hj : V[j]? = some y) (hij : i ≤ j) (hx : lt x u = false) : lt y u = false := hS.ntr _ _ _ hx (srt_at hS h hi hj hij)
theorem srt_lt {α : Type} {lt : α → α → Bool} (hS : SW lt) {V : List α} (h : Srt lt V) {i j : Nat} {x y u : α} (hi : V[i]? = some x) (hj : V[j]? = some y) (hij : i ≤ j) (hy : lt y u = true) : lt x u = true := hS.of_lt (srt_at hS h hi hj hij) hy

theorem halves {α : Type} {lt : α → α → Bool} (hS : SW lt) {U V U1 U2 V1 V2 : List α} (sU : Srt lt U) (sV : Srt lt V) (hU : U = U1 ++ U2) (hV : V = V1 ++ V2)
    (h1 : 0 < U1.length → 0 < V2.length → ∀ x y, U[U1.length - 1]? = some x → V[V1.length]? = some y → lt y x = false)
    (h2 : 0 < V1.length → 0 < U2.length → ∀ x y, U[U1.length]? = some x → V[V1.length - 1]? = some y → lt y x = true) :
    mrg lt U V = mrg lt U1 V1 ++ mrg lt U2 V2 := by
  subst hU hV
  refine mrg_split _ _ _ _ (fun u hu v hv => ?_) (fun v hv u hu => ?_)
  · have l1 := List.length_pos_of_mem hu
    have l2 := List.length_pos_of_mem hv
    obtain ⟨i, hi, rfl⟩ := List.mem_iff_getElem.1 hu
    obtain ⟨j, hj, rfl⟩ := List.mem_iff_getElem.1 hv
    have e1 : (U1 ++ U2)[U1.length - 1]? = some (U1[U1.length - 1]'(by omega)) := by rw [List.getElem?_append_left (by omega), List.getElem?_eq_getElem]
    have e2 : (V1 ++ V2)[V1.length]? = some (V2[0]'(by omega)) := by rw [List.getElem?_append_right (by omega), Nat.sub_self, List.getElem?_eq_getElem]
    have e3 : (U1 ++ U2)[i]? = some U1[i] := by rw [List.getElem?_append_left hi, List.getElem?_eq_getElem]
    have e4 : (V1 ++ V2)[V1.length + j]? = some V2[j] := by rw [List.getElem?_append_right (by omega), Nat.add_sub_cancel_left, List.getElem?_eq_getElem]
    have k1 := h1 l1 l2 _ _ e1 e2
    exact hS.ntr _ _ _ (srt_at hS sU e3 e1 (by omega)) (hS.ntr _ _ _ k1 (srt_at hS sV e2 e4 (by omega)))
  · have l1 := List.length_pos_of_mem hu
    have l2 := List.length_pos_of_mem hv
    obtain ⟨i, hi, rfl⟩ := List.mem_iff_getElem.1 hu
    obtain ⟨j, hj, rfl⟩ := List.mem_iff_getElem.1 hv
    have e1 : (U1 ++ U2)[U1.length]? = some (U2[0]'(by omega)) := by rw [List.getElem?_append_right (by omega), Nat.sub_self, List.getElem?_eq_getElem]
    have e2 : (V1 ++ V2)[V1.length - 1]? = some (V1[V1.length - 1]'(by omega)) := by rw [List.getElem?_append_left (by omega), List.getElem?_eq_getElem]
    have e3 : (U1 ++ U2)[U1.length + i]? = some U2[i] := by rw [List.getElem?_append_right (by omega), Nat.add_sub_cancel_left, List.getElem?_eq_getElem]
    have e4 : (V1 ++ V2)[j]? = some V1[j] := by rw [List.getElem?_append_left hj, List.getElem?_eq_getElem]
    have k1 := h2 l2 l1 _ _ e1 e2
    exact hS.lt_of (hS.of_lt (srt_at hS sV e4 e2 (by omega)) k1) (srt_at hS sU e1 e3 (by omega))

/-- Put by. -/
def Hid (p : Prop) : Prop := p
end Go.Proofs.Ytjplhfmakghabaa.V
