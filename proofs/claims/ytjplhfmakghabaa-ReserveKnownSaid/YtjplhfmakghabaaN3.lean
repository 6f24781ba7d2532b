/- The order of acts: what tells it; a part of the files, and a beginning of the days. -/
import Derived.Test.YtjplhfmakghabaaN2
set_option linter.unusedSimpArgs false
set_option linter.unusedVariables false
namespace Go.Proofs.Ytjplhfmakghabaa.V
set_option maxRecDepth 100000

section
variable {α : Type} {lt : α → α → Bool}

theorem insR_front {x : α} : ∀ (P : List α), (∀ h, h ∈ P → lt x h = false) → insR lt x P = x :: P
  | [], _ => rfl
  | p :: P, h => by rw [insR, h p (by simp), if_neg (by simp)]
theorem isortR_srt (h : SW lt) (S : List α) : (isortR lt S).Pairwise fun a b => lt a b = false := by
  have := isort_srt h S
  unfold isort Srt at this
  rwa [List.pairwise_reverse] at this
theorem insR_filter (h : SW lt) (p : α → Bool) (x : α) : ∀ (R : List α), R.Pairwise (fun a b => lt a b = false) → (insR lt x R).filter p = if p x = true then insR lt x (R.filter p) else R.filter p
  | [], _ => by
    cases hp : p x <;> simp [insR, hp]
  | q :: R, hR => by
    rw [List.pairwise_cons] at hR
    have ih := insR_filter h p x R hR.2
    rw [insR]
    cases hl : lt x q
    · rw [if_neg (by simp)]
      cases hp : p x
      · simp [hp]
      · rw [if_pos rfl, List.filter_cons_of_pos hp]
        refine (insR_front _ fun y hy => ?_).symm
        have hy := List.mem_filter.1 hy
        rcases List.mem_cons.1 hy.1 with rfl | hy1
        · exact hl
        · exact h.ntr y q x (hR.1 y hy1) hl
    · rw [if_pos rfl]
      cases hq : p q
      · rw [List.filter_cons_of_neg (by simp [hq]), List.filter_cons_of_neg (by simp [hq])]
        exact ih
      · rw [List.filter_cons_of_pos hq, List.filter_cons_of_pos hq, ih]
        cases hp : p x
        · simp
        · simp only [if_true]
          rw [insR, hl, if_pos rfl]
theorem isort_filter (h : SW lt) (p : α → Bool) (S : List α) : (isort lt S).filter p = isort lt (S.filter p) := by
  have key : ∀ n (S : List α), S.length = n → (isortR lt S).filter p = isortR lt (S.filter p) := by
    intro n
    induction n with
    | zero => intro S hS; obtain rfl := List.eq_nil_of_length_eq_zero hS; rfl
    | succ n ih =>
      intro S hS
      rcases List.eq_nil_or_concat S with rfl | ⟨S, x, rfl⟩
      · rfl
      · rw [List.concat_eq_append] at *
        have hS' : S.length = n := by simp at hS; exact hS
        rw [isortR_snoc, insR_filter h p x _ (isortR_srt h S), ih S hS', List.filter_append]
        cases hp : p x
        · simp [hp]
        · simp only [if_true, List.filter_cons_of_pos hp, List.filter_nil]
          rw [isortR_snoc]
  unfold isort
  rw [List.filter_reverse, key _ S rfl]
theorem isort_id (h : SW lt) {S : List α} (hS : Srt lt S) : isort lt S = S := by
  have key : ∀ n (S : List α), S.length = n → Srt lt S → isortR lt S = S.reverse := by
    intro n
    induction n with
    | zero => intro S hn _; obtain rfl := List.eq_nil_of_length_eq_zero hn; rfl
    | succ n ih =>
      intro S hn hS
      rcases List.eq_nil_or_concat S with rfl | ⟨S, x, rfl⟩
      · rfl
      · rw [List.concat_eq_append] at *
        have hS2 := List.pairwise_append.1 hS
        rw [isortR_snoc, ih S (by simp at hn; exact hn) hS2.1, insR_front _ fun y hy => hS2.2.2 y (by simpa using hy) x (by simp)]
        simp
  unfold isort
  rw [key _ S rfl hS, List.reverse_reverse]
end

/-- Sorted rows of steps are told by their files' parts. -/
theorem srt_unique : ∀ {A B : List Stp}, Srt ltT A → Srt ltT B → (∀ k : Int, A.filter (fun s => decide (s.file = k)) = B.filter fun s => decide (s.file = k)) → A = B
  | [], [], _, _, _ => rfl
  | [], y :: B, _, _, h => by have := h y.file; simp at this
  | x :: A, [], _, _, h => by have := h x.file; simp at this
  | x :: A, y :: B, sA, sB, h => by
    have sA2 := List.pairwise_cons.1 sA
    have sB2 := List.pairwise_cons.1 sB
    by_cases he : x.file = y.file
    · have h1 := h x.file
      rw [List.filter_cons_of_pos (by simp), List.filter_cons_of_pos (by simp [he])] at h1
      injection h1 with h1 h2
      subst h1
      congr 1
      refine srt_unique sA2.2 sB2.2 fun k => ?_
      have h3 := h k
      by_cases hk : x.file = k
      · subst hk; exact h2
      · rwa [List.filter_cons_of_neg (by simpa using hk), List.filter_cons_of_neg (by simpa using hk)] at h3
    · exfalso
      have hx : x ∈ B := by
        have h1 := h x.file
        rw [List.filter_cons_of_pos (by simp)] at h1
        have : x ∈ (y :: B).filter fun s => decide (s.file = x.file) := by rw [← h1]; simp
        have := (List.mem_filter.1 this).1
        rcases List.mem_cons.1 this with rfl | h
        · exact absurd rfl he
        · exact h
      have hy : y ∈ A := by
        have h1 := h y.file
        rw [List.filter_cons_of_pos (l := B) (by simp)] at h1
        have : y ∈ (x :: A).filter fun s => decide (s.file = y.file) := by rw [h1]; simp
        have := (List.mem_filter.1 this).1
        rcases List.mem_cons.1 this with rfl | h
        · exact absurd rfl he
        · exact h
      have l1 := sA2.1 y hy
      have l2 := sB2.1 x hx
      simp only [ltT, Bool.or_eq_false_iff, Bool.and_eq_false_iff, decide_eq_false_iff_not] at l1 l2
      omega

/-- One file's part. -/
def fileK (l : List File) (k : Nat) : List Stp := match l[k]? with | some f => f.acts.map fun a => ⟨k, a⟩ | none => []
theorem stepsL_filter (l : List File) (k : Nat) : ∀ b, (stepsL b l).filter (fun s => decide (s.file = ((b + k : Nat) : Int))) = match l[k]? with | some f => f.acts.map fun a => ⟨((b + k : Nat) : Int), a⟩ | none => [] := by
  induction l generalizing k with
  | nil => intro b; simp [stepsL]
  | cons f l ih =>
    intro b
    rw [stepsL, List.filter_append]
    rcases k with _ | k
    · have h1 : (f.acts.map fun a => (⟨b, a⟩ : Stp)).filter (fun s => decide (s.file = ((b + 0 : Nat) : Int))) = f.acts.map fun a => ⟨b, a⟩ := by
        rw [List.filter_eq_self]
        intro s hs
        obtain ⟨a, -, rfl⟩ := List.mem_map.1 hs
        simp
      have h2 : (stepsL (b + 1) l).filter (fun s => decide (s.file = ((b + 0 : Nat) : Int))) = [] := by
        rw [List.filter_eq_nil_iff]
        intro s hs
        obtain ⟨i, g, -, h, -⟩ := stepsL_mem hs
        simp [h]
        omega
      rw [h1, h2]
      simp
    · have h1 : (f.acts.map fun a => (⟨b, a⟩ : Stp)).filter (fun s => decide (s.file = ((b + (k + 1) : Nat) : Int))) = [] := by
        rw [List.filter_eq_nil_iff]
        intro s hs
        obtain ⟨a, -, rfl⟩ := List.mem_map.1 hs
        simp
        omega
      have := ih k (b + 1)
      rw [h1, List.nil_append, show b + (k + 1) = b + 1 + k by omega, this]
      simp
theorem stepsL_fileK (l : List File) (k : Nat) : (stepsL 0 l).filter (fun s => decide (s.file = (k : Int))) = fileK l k := by
  have := stepsL_filter l k 0
  simpa [fileK] using this
theorem stepsL_neg (l : List File) {k : Int} (h : k < 0) : (stepsL 0 l).filter (fun s => decide (s.file = k)) = [] := by
  rw [List.filter_eq_nil_iff]
  intro s hs
  obtain ⟨i, g, -, h2, -⟩ := stepsL_mem hs
  simp [h2]
  omega
theorem fileK_srt {l : List File} (hs : ∀ f, f ∈ l → f.acts.Pairwise fun a b => a.booked ≤ b.booked) (k : Nat) : Srt ltT (fileK l k) := by
  unfold fileK Srt
  cases h : l[k]? with
  | none => exact .nil
  | some f =>
    simp only
    rw [List.pairwise_map]
    refine (hs f (List.mem_of_getElem? h)).imp fun {a b} hab => ?_
    simp only [ltT, Bool.or_eq_false_iff, Bool.and_eq_false_iff, decide_eq_false_iff_not]
    omega
theorem ordL_fileK {l : List File} (hs : ∀ f, f ∈ l → f.acts.Pairwise fun a b => a.booked ≤ b.booked) (k : Nat) : (ordL l).filter (fun s => decide (s.file = (k : Int))) = fileK l k := by
  unfold ordL
  rw [isort_filter sw_ltT, stepsL_fileK, isort_id sw_ltT (fileK_srt hs k)]
theorem ordL_srt (l : List File) : Srt ltT (ordL l) := isort_srt sw_ltT _
theorem ordL_mem {l : List File} {s : Stp} : s ∈ ordL l ↔ s ∈ stepsL 0 l := isort_mem
theorem ordL_len (l : List File) : (ordL l).length = actsN l := by rw [ordL, isort_len, stepsL_len]
/-- What is sorted, and has of each file its acts, is the order. -/
theorem ordL_eq {l : List File} (hs : ∀ f, f ∈ l → f.acts.Pairwise fun a b => a.booked ≤ b.booked) {E : List Stp} (sE : Srt ltT E) (hn : ∀ s, s ∈ E → 0 ≤ s.file) (hE : ∀ k : Nat, E.filter (fun s => decide (s.file = (k : Int))) = fileK l k) : E = ordL l := by
  refine srt_unique sE (ordL_srt l) fun k => ?_
  by_cases hk : 0 ≤ k
  · obtain ⟨n, rfl⟩ : ∃ n : Nat, k = n := ⟨k.toNat, by omega⟩
    rw [hE, ordL_fileK hs]
  · have h1 : E.filter (fun s => decide (s.file = k)) = [] := by
      rw [List.filter_eq_nil_iff]
      intro s hs'
      have := hn s hs'
      simp
      omega
    have h2 : (ordL l).filter (fun s => decide (s.file = k)) = [] := by
      unfold ordL
      rw [isort_filter sw_ltT, stepsL_neg l (by omega)]
      rfl
    rw [h1, h2]
/-- The days rise. -/
theorem srt_booked {E : List Stp} (h : Srt ltT E) : E.Pairwise fun a b => a.act.booked ≤ b.act.booked := by
  refine h.imp fun {a b} hab => ?_
  simp only [ltT, Bool.or_eq_false_iff, Bool.and_eq_false_iff, decide_eq_false_iff_not] at hab
  omega
/-- What is booked up to a day is a beginning. -/
theorem booked_cut (d : Int) : ∀ {E : List Stp}, E.Pairwise (fun a b => a.act.booked ≤ b.act.booked) → ∃ F, E = E.filter (fun s => decide (s.act.booked ≤ d)) ++ F ∧ ∀ s, s ∈ F → d < s.act.booked
  | [], _ => ⟨[], rfl, by simp⟩
  | x :: E, h => by
    have h2 := List.pairwise_cons.1 h
    by_cases hx : x.act.booked ≤ d
    · obtain ⟨F, h3, h4⟩ := booked_cut d h2.2
      refine ⟨F, ?_, h4⟩
      rw [List.filter_cons_of_pos (by simpa using hx), List.cons_append, ← h3]
    · refine ⟨x :: E, ?_, fun s hs => ?_⟩
      · have : (x :: E).filter (fun s => decide (s.act.booked ≤ d)) = [] := by
          rw [List.filter_eq_nil_iff]
          intro s hs
          rcases List.mem_cons.1 hs with rfl | hs
          · simpa using hx
          · have := h2.1 s hs; simp; omega
        rw [this]; rfl
      · rcases List.mem_cons.1 hs with rfl | hs
        · omega
        · have := h2.1 s hs; omega
/-- What may be said of what is paid behind m acts. -/
structure PB (c : Cover) (n m : Nat) (s : PS) : Prop where
  l1 : s.shown.length = n
  l2 : s.paid.length = n
  sh : ∀ x, x ∈ s.shown → 0 ≤ x ∧ x ≤ m * 1000000000000000
  pd : ∀ x, x ∈ s.paid → 0 ≤ x ∧ x ≤ 1000000000000000
  al : 0 ≤ s.all ∧ s.all ≤ c.agg
  ou : s.out.length ≤ m
theorem getD_mem {l : List Int} {P : Int → Prop} (h0 : P 0) (h : ∀ x, x ∈ l → P x) (k : Nat) : P (l.getD k 0) := by
  rw [List.getD_eq_getElem?_getD]
  rcases hq : l[k]? with _ | x
  · simpa using h0
  · simpa using h x (List.mem_of_getElem? hq)
theorem PB.get1 {c : Cover} {n m : Nat} {s : PS} (h : PB c n m s) (k : Nat) : 0 ≤ s.shown.getD k 0 ∧ s.shown.getD k 0 ≤ m * 1000000000000000 := getD_mem (P := fun x => 0 ≤ x ∧ x ≤ m * 1000000000000000) (by omega) h.sh k
theorem PB.get2 {c : Cover} {n m : Nat} {s : PS} (h : PB c n m s) (k : Nat) : 0 ≤ s.paid.getD k 0 ∧ s.paid.getD k 0 ≤ 1000000000000000 := getD_mem (P := fun x => 0 ≤ x ∧ x ≤ 1000000000000000) (by omega) h.pd k
theorem PB.zero {c : Cover} (hr : c.rightB = true) (n : Nat) : PB c n 0 (ps0 n) := by
  have hc := cvRight_iff.1 hr
  refine ⟨by simp [ps0], by simp [ps0], fun x hx => ?_, fun x hx => ?_, ⟨Int.le_refl _, ?_⟩, by simp [ps0]⟩
  · have := List.eq_of_mem_replicate hx; omega
  · have := List.eq_of_mem_replicate hx; omega
  · show 0 ≤ c.agg
    omega
theorem PB.step {c : Cover} {n m : Nat} {s : PS} (hr : c.rightB = true) (h : PB c n m s) (x : Stp) (hx : 0 ≤ x.act.amt ∧ x.act.amt ≤ 1000000000000000) : PB c n (m + 1) (payOne c s x) := by
  have hc := cvRight_iff.1 hr
  have g1 := h.get1 x.file.toNat
  have g2 := h.get2 x.file.toNat
  have ha := h.al
  have hb := pays_bd (c := c) hr (s.shown.getD x.file.toNat 0 + x.act.amt) (used := s.all - s.paid.getD x.file.toNat 0) (by omega)
  have hw := worth0_bd (c := c) hr (s.shown.getD x.file.toNat 0 + x.act.amt)
  have ho := h.ou
  have hsh : ∀ y, y ∈ s.shown.set x.file.toNat (s.shown.getD x.file.toNat 0 + x.act.amt) → 0 ≤ y ∧ y ≤ ((m + 1 : Nat) : Int) * 1000000000000000 := by
    intro y hy
    rcases List.mem_or_eq_of_mem_set hy with hy | rfl
    · have := h.sh y hy; omega
    · omega
  unfold payOne
  simp only
  split
  · split
    · exact ⟨by simp [h.l1], h.l2, hsh, h.pd, h.al, by simp only; omega⟩
    · refine ⟨by simp [h.l1], by simp [h.l2], hsh, fun y hy => ?_, by simp only; omega, by simp; omega⟩
      rcases List.mem_or_eq_of_mem_set hy with hy | rfl
      · exact h.pd y hy
      · omega
  · refine ⟨h.l1, h.l2, fun y hy => ?_, h.pd, h.al, by omega⟩
    have := h.sh y hy
    omega
theorem payL_take {c : Cover} {n : Nat} {L : List Stp} {i : Nat} {x : Stp} (h : L[i]? = some x) : payL c n (L.take (i + 1)) = payOne c (payL c n (L.take i)) x := by
  rw [List.take_add_one, h]
  exact payL_snoc c n _ x
theorem payL_PB {c : Cover} (hr : c.rightB = true) (n : Nat) {L : List Stp} (hL : ∀ x, x ∈ L → 0 ≤ x.act.amt ∧ x.act.amt ≤ 1000000000000000) : ∀ i, i ≤ L.length → PB c n i (payL c n (L.take i)) := by
  intro i
  induction i with
  | zero => intro _; exact PB.zero hr n
  | succ i ih =>
    intro hi
    have e0 : L[i]? = some L[i] := List.getElem?_eq_getElem hi
    rw [payL_take e0]
    exact (ih (by omega)).step hr _ (hL _ (List.getElem_mem hi))
/-- The acts of right files. -/
theorem step_right {c : Cover} {l : List File} (h : adjRight c l = true) {x : Stp} (hx : x ∈ ordL l) : ∃ k : Nat, k < l.length ∧ x.file = (k : Int) ∧ x.act.rightB = true ∧ 0 ≤ x.act.amt ∧ x.act.amt ≤ 1000000000000000 := by
  obtain ⟨i, f, h1, h2, h3⟩ := stepsL_mem (ordL_mem.1 hx)
  have hi := (List.getElem?_eq_some_iff.1 h1).1
  rw [adjRight, Bool.and_eq_true, List.all_eq_true] at h
  have hf := h.2 f (List.mem_of_getElem? h1)
  rw [okFile, Bool.and_eq_true] at hf
  have ha := (made_good hf.2).right _ h3
  have ha2 := Act.right_iff.1 ha
  have hk : (if x.act.kind = 4 ∨ x.act.kind = 5 then (0 : Int) else 1000000000000000) ≤ 1000000000000000 := by split <;> omega
  exact ⟨i, hi, by simpa using h2, ha, by omega, by omega⟩
end Go.Proofs.Ytjplhfmakghabaa.V
