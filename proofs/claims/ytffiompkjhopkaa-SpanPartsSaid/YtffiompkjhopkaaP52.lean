/- Spans joined, cut into parts: plain laws. -/
import Derived.Test.YtffiompkjhopkaaP50
set_option linter.unusedSimpArgs false
set_option linter.unusedVariables false
namespace Go.Proofs.Ytffiompkjhopkaa.V

abbrev Sps := List (Int × Int)

def inL (l : Sps) (d : Int) : Prop := ∃ p, p ∈ l ∧ p.1 ≤ d ∧ d < p.2
theorem inL_nil {d : Int} : ¬ inL [] d := by rintro ⟨p, h, -⟩; simp at h
theorem inL_cons {p : Int × Int} {l : Sps} {d : Int} : inL (p :: l) d ↔ (p.1 ≤ d ∧ d < p.2) ∨ inL l d := by
  constructor
  · rintro ⟨q, h, h1⟩
    rcases List.mem_cons.1 h with rfl | h
    · exact .inl h1
    · exact .inr ⟨q, h, h1⟩
  · rintro (h | ⟨q, h, h1⟩)
    · exact ⟨p, by simp, h⟩
    · exact ⟨q, by simp [h], h1⟩
theorem inL_app {a b : Sps} {d : Int} : inL (a ++ b) d ↔ inL a d ∨ inL b d := by
  constructor
  · rintro ⟨q, h, h1⟩
    rcases List.mem_append.1 h with h | h
    · exact .inl ⟨q, h, h1⟩
    · exact .inr ⟨q, h, h1⟩
  · rintro (⟨q, h, h1⟩ | ⟨q, h, h1⟩)
    · exact ⟨q, by simp [h], h1⟩
    · exact ⟨q, by simp [h], h1⟩
theorem inL_perm {a b : Sps} (h : ∀ p, p ∈ a ↔ p ∈ b) (d : Int) : inL a d ↔ inL b d :=
  ⟨fun ⟨q, hq, h1⟩ => ⟨q, (h q).1 hq, h1⟩, fun ⟨q, hq, h1⟩ => ⟨q, (h q).2 hq, h1⟩⟩

/-- Spans that have days, rise, and do not touch. -/
def Apt (l : Sps) : Prop := (∀ p, p ∈ l → p.1 < p.2) ∧ l.Pairwise fun p q => p.2 < q.1
theorem Apt.nil : Apt [] := ⟨by simp, .nil⟩
theorem Apt.cons {p : Int × Int} {l : Sps} : Apt (p :: l) ↔ p.1 < p.2 ∧ (∀ q, q ∈ l → p.2 < q.1) ∧ Apt l := by
  unfold Apt
  rw [List.pairwise_cons]
  constructor
  · rintro ⟨h1, h2, h3⟩
    exact ⟨h1 p (by simp), h2, fun q hq => h1 q (by simp [hq]), h3⟩
  · rintro ⟨h1, h2, h3, h4⟩
    refine ⟨fun q hq => ?_, h2, h4⟩
    rcases List.mem_cons.1 hq with rfl | hq
    · exact h1
    · exact h3 q hq
theorem apt_unique : ∀ {a b : Sps}, Apt a → Apt b → (∀ d, inL a d ↔ inL b d) → a = b
  | [], [], _, _, _ => rfl
  | [], q :: b, _, hb, h => by
    have := (Apt.cons.1 hb).1
    exact absurd ((h q.1).2 (inL_cons.2 (.inl ⟨Int.le_refl _, this⟩))) inL_nil
  | p :: a, [], ha, _, h => by
    have := (Apt.cons.1 ha).1
    exact absurd ((h p.1).1 (inL_cons.2 (.inl ⟨Int.le_refl _, this⟩))) inL_nil
  | p :: a, q :: b, ha, hb, h => by
    obtain ⟨ha1, ha2, ha3⟩ := Apt.cons.1 ha
    obtain ⟨hb1, hb2, hb3⟩ := Apt.cons.1 hb
    have la : ∀ d, inL a d → p.2 < d := fun d ⟨x, hx, h1, _⟩ => by have := ha2 x hx; omega
    have lb : ∀ d, inL b d → q.2 < d := fun d ⟨x, hx, h1, _⟩ => by have := hb2 x hx; omega
    have e1 : p.1 = q.1 := by
      have h1 := inL_cons.1 ((h p.1).1 (inL_cons.2 (.inl ⟨Int.le_refl _, ha1⟩)))
      have h2 := inL_cons.1 ((h q.1).2 (inL_cons.2 (.inl ⟨Int.le_refl _, hb1⟩)))
      rcases h1 with h1 | h1
      · rcases h2 with h2 | h2
        · omega
        · have := la _ h2; omega
      · have := lb _ h1
        rcases h2 with h2 | h2
        · omega
        · have := la _ h2; omega
    have e2 : p.2 = q.2 := by
      rcases Int.lt_trichotomy p.2 q.2 with hl | hl | hl
      · have h1 := inL_cons.1 ((h p.2).2 (inL_cons.2 (.inl ⟨by omega, hl⟩)))
        rcases h1 with h1 | h1
        · omega
        · have := la _ h1; omega
      · exact hl
      · have h1 := inL_cons.1 ((h q.2).1 (inL_cons.2 (.inl ⟨by omega, hl⟩)))
        rcases h1 with h1 | h1
        · omega
        · have := lb _ h1; omega
    have e : p = q := Prod.ext e1 e2
    subst e
    congr 1
    refine apt_unique ha3 hb3 fun d => ⟨fun hd => ?_, fun hd => ?_⟩
    · have h1 := la d hd
      rcases inL_cons.1 ((h d).1 (inL_cons.2 (.inr hd))) with h2 | h2
      · omega
      · exact h2
    · have h1 := lb d hd
      rcases inL_cons.1 ((h d).2 (inL_cons.2 (.inr hd))) with h2 | h2
      · omega
      · exact h2

/-- One more, behind: the last one first. -/
def stepR : Sps → Int × Int → Sps
  | [], s => [s]
  | e :: r, s => if s.1 ≤ e.2 then (e.1, max e.2 s.2) :: r else s :: e :: r
def joinR (l : Sps) : Sps := (l.foldl stepR []).reverse

/-- The same, the last one first. -/
def ApR (l : Sps) : Prop := Apt l.reverse
theorem ApR.cons {p : Int × Int} {l : Sps} : ApR (p :: l) ↔ p.1 < p.2 ∧ (∀ q, q ∈ l → q.2 < p.1) ∧ ApR l := by
  unfold ApR Apt
  rw [List.pairwise_reverse, List.pairwise_reverse, List.pairwise_cons]
  simp only [List.mem_reverse, List.mem_cons]
  constructor
  · rintro ⟨h1, h2, h3⟩
    exact ⟨h1 p (.inl rfl), h2, fun q hq => h1 q (.inr hq), h3⟩
  · rintro ⟨h1, h2, h3, h4⟩
    refine ⟨fun q hq => ?_, h2, h4⟩
    rcases hq with rfl | hq
    · exact h1
    · exact h3 q hq
theorem has_lt {p : Int × Int} (h : has p.1 p.2 = true) : p.1 < p.2 := (has_iff.1 h).2.1

theorem stepR_ok {R : Sps} {s : Int × Int} (hR : ApR R) (hh : ∀ p, p ∈ R → has p.1 p.2 = true) (hs : has s.1 s.2 = true) (hle : ∀ p, p ∈ R → p.1 ≤ s.1) :
    ApR (stepR R s) ∧ (∀ p, p ∈ stepR R s → has p.1 p.2 = true) ∧ (∀ p, p ∈ stepR R s → p.1 ≤ s.1) ∧ ∀ d, inL (stepR R s) d ↔ inL R d ∨ (s.1 ≤ d ∧ d < s.2) := by
  have hs2 := has_iff.1 hs
  cases R with
  | nil =>
    refine ⟨ApR.cons.2 ⟨hs2.2.1, by simp, Apt.nil⟩, by simp [stepR, hs], by simp [stepR], fun d => ?_⟩
    rw [stepR, inL_cons]
    have := inL_nil (d := d)
    simp [this]
  | cons e r =>
    obtain ⟨h1, h2, h3⟩ := ApR.cons.1 hR
    have he := hle e (by simp)
    have hb := has_iff.1 (hh e (by simp))
    simp only [stepR]
    split
    · rename_i hc
      refine ⟨ApR.cons.2 ⟨by simp only; omega, h2, h3⟩, fun p hp => ?_, fun p hp => ?_, fun d => ?_⟩
      · rcases List.mem_cons.1 hp with rfl | hp
        · rw [has_iff]; simp only; omega
        · exact hh p (by simp [hp])
      · rcases List.mem_cons.1 hp with rfl | hp
        · exact he
        · exact hle p (by simp [hp])
      · rw [inL_cons, inL_cons]
        by_cases hd : inL r d
        · simp [hd]
        · simp only [hd, or_false]; omega
    · rename_i hc
      refine ⟨ApR.cons.2 ⟨hs2.2.1, fun q hq => ?_, hR⟩, fun p hp => ?_, fun p hp => ?_, fun d => ?_⟩
      · rcases List.mem_cons.1 hq with rfl | hq
        · omega
        · have := h2 q hq; omega
      · rcases List.mem_cons.1 hp with rfl | hp
        · exact hs
        · exact hh p hp
      · rcases List.mem_cons.1 hp with rfl | hp
        · exact Int.le_refl _
        · exact hle p hp
      · rw [inL_cons]
        constructor
        · rintro (h | h)
          · exact .inr h
          · exact .inl h
        · rintro (h | h)
          · exact .inr h
          · exact .inl h

theorem foldR_ok : ∀ {l R : Sps}, ApR R → (∀ p, p ∈ R → has p.1 p.2 = true) → (∀ p, p ∈ l → has p.1 p.2 = true) → (∀ p, p ∈ R → ∀ q, q ∈ l → p.1 ≤ q.1) → l.Pairwise (fun p q => p.1 ≤ q.1) →
    ApR (l.foldl stepR R) ∧ (∀ p, p ∈ l.foldl stepR R → has p.1 p.2 = true) ∧ ∀ d, inL (l.foldl stepR R) d ↔ inL R d ∨ inL l d
  | [], R, h1, h2, _, _, _ => ⟨h1, h2, fun d => by have := inL_nil (d := d); simp [this]⟩
  | s :: l, R, h1, h2, h3, h4, h5 => by
    obtain ⟨g1, g2, g3, g4⟩ := stepR_ok h1 h2 (h3 s (by simp)) fun p hp => h4 p hp s (by simp)
    rw [List.pairwise_cons] at h5
    obtain ⟨k1, k2, k3⟩ := foldR_ok (l := l) (R := stepR R s) g1 g2 (fun p hp => h3 p (by simp [hp])) (fun p hp q hq => by have := g3 p hp; have := h5.1 q hq; omega) h5.2
    refine ⟨k1, k2, fun d => ?_⟩
    rw [List.foldl_cons, k3, g4, inL_cons, or_assoc]

theorem joinR_ok {l : Sps} (h1 : ∀ p, p ∈ l → has p.1 p.2 = true) (h2 : l.Pairwise fun p q => p.1 ≤ q.1) : Apt (joinR l) ∧ (∀ p, p ∈ joinR l → has p.1 p.2 = true) ∧ ∀ d, inL (joinR l) d ↔ inL l d := by
  obtain ⟨k1, k2, k3⟩ := foldR_ok (l := l) (R := []) Apt.nil (by simp) h1 (by simp) h2
  refine ⟨k1, fun p hp => k2 p (by simpa [joinR] using hp), fun d => ?_⟩
  rw [joinR, inL_perm (b := l.foldl stepR []) (by simp), k3]
  have := inL_nil (d := d)
  simp [this]

/-- The reference's: into spans that rise and are apart. -/
def intoG : Sps → Int × Int → Sps → Sps → Sps
  | [], s, A, B => A ++ [s] ++ B
  | p :: l, s, A, B => if p.2 < s.1 then intoG l s (A ++ [p]) B else if s.2 < p.1 then intoG l s A (B ++ [p]) else intoG l (min p.1 s.1, max p.2 s.2) A B

theorem apt_app {a b : Sps} : Apt (a ++ b) ↔ Apt a ∧ Apt b ∧ ∀ p, p ∈ a → ∀ q, q ∈ b → p.2 < q.1 := by
  unfold Apt
  rw [List.pairwise_append]
  simp only [List.mem_append]
  constructor
  · rintro ⟨h1, h2, h3, h4⟩
    exact ⟨⟨fun p hp => h1 p (.inl hp), h2⟩, ⟨fun p hp => h1 p (.inr hp), h3⟩, h4⟩
  · rintro ⟨⟨h1, h2⟩, ⟨h3, h4⟩, h5⟩
    exact ⟨fun p hp => hp.elim (h1 p) (h3 p), h2, h4, h5⟩
theorem apt_one {p : Int × Int} : Apt [p] ↔ p.1 < p.2 := by simp [Apt]

theorem intoG_ok : ∀ {l : Sps} {s : Int × Int} {A B : Sps}, Apt l → has s.1 s.2 = true → Apt A → Apt B → (∀ p, p ∈ l → has p.1 p.2 = true) → (∀ p, p ∈ A → has p.1 p.2 = true) → (∀ p, p ∈ B → has p.1 p.2 = true) →
    (∀ a, a ∈ A → a.2 < s.1 ∧ ∀ p, p ∈ l → a.2 < p.1) → (∀ b, b ∈ B → s.2 < b.1 ∧ ∀ p, p ∈ l → b.2 < p.1) →
    Apt (intoG l s A B) ∧ (∀ p, p ∈ intoG l s A B → has p.1 p.2 = true) ∧ ∀ d, inL (intoG l s A B) d ↔ inL A d ∨ (s.1 ≤ d ∧ d < s.2) ∨ inL B d ∨ inL l d
  | [], s, A, B, hl, hs, hA, hB, bl, bA, bB, xA, xB => by
    have hs2 := has_lt hs
    refine ⟨?_, fun p hp => ?_, fun d => ?_⟩
    · rw [intoG, apt_app, apt_app, apt_one]
      refine ⟨⟨hA, hs2, fun p hp q hq => ?_⟩, hB, fun p hp q hq => ?_⟩
      · simp at hq; subst hq; exact (xA p hp).1
      · have := (xB q hq).1
        rcases List.mem_append.1 hp with hp | hp
        · have := (xA p hp).1; omega
        · simp at hp; subst hp; exact this
    · simp only [intoG, List.mem_append, List.mem_singleton] at hp
      rcases hp with (hp | rfl) | hp
      · exact bA p hp
      · exact hs
      · exact bB p hp
    · rw [intoG, inL_app, inL_app, inL_cons]
      have := inL_nil (d := d)
      simp [this, or_assoc]
  | p :: l, s, A, B, hl, hs, hA, hB, bl, bA, bB, xA, xB => by
    have hs2 := has_iff.1 hs
    obtain ⟨l1, l2, l3⟩ := Apt.cons.1 hl
    have hp2 := has_iff.1 (bl p (by simp))
    have bl' : ∀ q, q ∈ l → has q.1 q.2 = true := fun q hq => bl q (by simp [hq])
    unfold intoG
    split
    · rename_i hc
      obtain ⟨k1, k2, k3⟩ := intoG_ok (l := l) (s := s) (A := A ++ [p]) (B := B) l3 hs (apt_app.2 ⟨hA, apt_one.2 l1, fun a ha q hq => by simp at hq; subst hq; exact (xA a ha).2 q (by simp)⟩) hB bl'
        (fun q hq => by rcases List.mem_append.1 hq with hq | hq; exact bA q hq; (simp at hq; subst hq; exact bl q (by simp))) bB
        (fun a ha => by
          rcases List.mem_append.1 ha with ha | ha
          · exact ⟨(xA a ha).1, fun q hq => (xA a ha).2 q (by simp [hq])⟩
          · simp at ha; subst ha; exact ⟨hc, l2⟩)
        (fun b hb => ⟨(xB b hb).1, fun q hq => (xB b hb).2 q (by simp [hq])⟩)
      refine ⟨k1, k2, fun d => ?_⟩
      rw [k3, inL_app, inL_cons, inL_cons]
      have := inL_nil (d := d)
      simp only [this, or_false]
      grind
    · split
      · rename_i hc1 hc
        obtain ⟨k1, k2, k3⟩ := intoG_ok (l := l) (s := s) (A := A) (B := B ++ [p]) l3 hs hA (apt_app.2 ⟨hB, apt_one.2 l1, fun b hb q hq => by simp at hq; subst hq; exact (xB b hb).2 q (by simp)⟩) bl' bA
          (fun q hq => by rcases List.mem_append.1 hq with hq | hq; exact bB q hq; (simp at hq; subst hq; exact bl q (by simp)))
          (fun a ha => ⟨(xA a ha).1, fun q hq => (xA a ha).2 q (by simp [hq])⟩)
          (fun b hb => by
            rcases List.mem_append.1 hb with hb | hb
            · exact ⟨(xB b hb).1, fun q hq => (xB b hb).2 q (by simp [hq])⟩
            · simp at hb; subst hb; exact ⟨hc, l2⟩)
        refine ⟨k1, k2, fun d => ?_⟩
        rw [k3, inL_app, inL_cons, inL_cons]
        have := inL_nil (d := d)
        simp only [this, or_false]
        grind
      · rename_i hc1 hc2
        obtain ⟨k1, k2, k3⟩ := intoG_ok (l := l) (s := (min p.1 s.1, max p.2 s.2)) (A := A) (B := B) l3 (by rw [has_iff]; simp only; omega) hA hB bl' bA bB
          (fun a ha => ⟨by have h1 := (xA a ha).1; have h2 := (xA a ha).2 p (by simp); simp only; omega, fun q hq => (xA a ha).2 q (by simp [hq])⟩)
          (fun b hb => ⟨by have h1 := (xB b hb).1; have h2 := (xB b hb).2 p (by simp); have h3 := has_lt (bB b hb); simp only; omega, fun q hq => (xB b hb).2 q (by simp [hq])⟩)
        refine ⟨k1, k2, fun d => ?_⟩
        rw [k3, inL_cons]
        have : (min p.1 s.1 ≤ d ∧ d < max p.2 s.2) ↔ (p.1 ≤ d ∧ d < p.2) ∨ (s.1 ≤ d ∧ d < s.2) := by omega
        simp only [this]
        grind

/-- Those that have days. -/
def hasL (l : List (Int × Int)) : List (Int × Int) := l.filter fun p => has p.1 p.2
theorem hasL_mem {l : Sps} {p : Int × Int} : p ∈ hasL l ↔ p ∈ l ∧ has p.1 p.2 = true := by simp [hasL]

/-- Joined, as the reference does. -/
def joinL (l : Sps) : Sps := (hasL l).foldl (fun out s => intoG out s [] []) []

theorem foldG_ok : ∀ {l R : Sps}, Apt R → (∀ p, p ∈ R → has p.1 p.2 = true) → (∀ p, p ∈ l → has p.1 p.2 = true) →
    Apt (l.foldl (fun out s => intoG out s [] []) R) ∧ (∀ p, p ∈ l.foldl (fun out s => intoG out s [] []) R → has p.1 p.2 = true) ∧ ∀ d, inL (l.foldl (fun out s => intoG out s [] []) R) d ↔ inL R d ∨ inL l d
  | [], R, h1, h2, _ => ⟨h1, h2, fun d => by have := inL_nil (d := d); simp [this]⟩
  | s :: l, R, h1, h2, h3 => by
    obtain ⟨g1, g2, g3⟩ := intoG_ok (l := R) (s := s) (A := []) (B := []) h1 (h3 s (by simp)) Apt.nil Apt.nil h2 (by simp) (by simp) (by simp) (by simp)
    obtain ⟨k1, k2, k3⟩ := foldG_ok (l := l) g1 g2 fun p hp => h3 p (by simp [hp])
    refine ⟨k1, k2, fun d => ?_⟩
    rw [List.foldl_cons, k3, g3, inL_cons]
    have := inL_nil (d := d)
    simp only [this, false_or]
    grind

theorem joinL_ok (l : Sps) : Apt (joinL l) ∧ (∀ p, p ∈ joinL l → has p.1 p.2 = true) ∧ ∀ d, inL (joinL l) d ↔ inL (hasL l) d := by
  obtain ⟨k1, k2, k3⟩ := foldG_ok (l := hasL l) (R := []) Apt.nil (by simp) fun p hp => (hasL_mem.1 hp).2
  refine ⟨k1, k2, fun d => ?_⟩
  have h := k3 d
  have := inL_nil (d := d)
  simp only [this, false_or] at h
  exact h

/-- Sorted by their first days, in any way, and joined: the reference's. -/
theorem joinR_eq {l s : Sps} (hp : s.Perm (hasL l)) (hs : s.Pairwise fun p q => p.1 ≤ q.1) : joinR s = joinL l := by
  obtain ⟨a1, a2, a3⟩ := joinR_ok (l := s) (fun p h => (hasL_mem.1 (hp.mem_iff.1 h)).2) hs
  obtain ⟨b1, b2, b3⟩ := joinL_ok l
  refine apt_unique a1 b1 fun d => ?_
  rw [a3, b3, inL_perm fun p => hp.mem_iff]

/-- What the days are tells how they are joined. -/
theorem joinL_eq {a b : Sps} (h : ∀ d, inL (hasL a) d ↔ inL (hasL b) d) : joinL a = joinL b := by
  obtain ⟨a1, a2, a3⟩ := joinL_ok a
  obtain ⟨b1, b2, b3⟩ := joinL_ok b
  exact apt_unique a1 b1 fun d => by rw [a3, b3, h]

theorem hasL_all {l : Sps} (h : ∀ p, p ∈ l → has p.1 p.2 = true) : hasL l = l := List.filter_eq_self.2 h
theorem joinL_twice (l : Sps) : joinL (joinL l) = joinL l := by
  obtain ⟨a1, a2, a3⟩ := joinL_ok l
  refine joinL_eq fun d => ?_
  rw [hasL_all a2, a3]

/-- The parts of a span, by rising days. -/
def partsG (t : Int) : Int → List Int → Sps
  | a, [] => [(a, t)]
  | a, d :: ds => if a < d ∧ d < t then (a, d) :: partsG t d ds else partsG t a ds
def nextP (a t : Int) (l : List Int) : Int := l.foldl (fun n x => if x > a ∧ x < n then x else n) t

theorem nextP_spec {a : Int} : ∀ {l : List Int} {t : Int}, a < t → a < nextP a t l ∧ nextP a t l ≤ t ∧ (nextP a t l = t ∨ nextP a t l ∈ l) ∧ ∀ x, x ∈ l → a < x → nextP a t l ≤ x
  | [], t, h => ⟨h, Int.le_refl _, .inl rfl, by simp⟩
  | y :: l, t, h => by
    simp only [nextP, List.foldl_cons]
    split
    · rename_i hc
      obtain ⟨h1, h2, h3, h4⟩ := nextP_spec (l := l) (t := y) hc.1
      simp only [nextP] at h1 h2 h3 h4
      refine ⟨h1, by omega, .inr ?_, fun x hx hax => ?_⟩
      · rcases h3 with h3 | h3
        · rw [h3]; simp
        · exact List.mem_cons_of_mem _ h3
      · rcases List.mem_cons.1 hx with rfl | hx
        · exact h2
        · exact h4 x hx hax
    · rename_i hc
      obtain ⟨h1, h2, h3, h4⟩ := nextP_spec (l := l) (t := t) h
      simp only [nextP] at h1 h2 h3 h4
      refine ⟨h1, h2, ?_, fun x hx hax => ?_⟩
      · rcases h3 with h3 | h3
        · exact .inl h3
        · exact .inr (List.mem_cons_of_mem _ h3)
      · rcases List.mem_cons.1 hx with rfl | hx
        · have : ¬ (x > a ∧ x < t) := hc
          omega
        · exact h4 x hx hax

/-- The first part, and those behind it. -/
theorem partsG_next {t : Int} (l : List Int) : ∀ {ds : List Int} {a : Int}, a < t → ds.Pairwise (· ≤ ·) → (∀ x, a < x → x < t → (x ∈ l ↔ x ∈ ds)) →
    partsG t a ds = (a, nextP a t l) :: if nextP a t l < t then partsG t (nextP a t l) ds else []
  | [], a, h, _, hm => by
    obtain ⟨h1, h2, h3, h4⟩ := nextP_spec (l := l) h
    have : nextP a t l = t := by
      rcases h3 with h3 | h3
      · exact h3
      · rcases Int.lt_or_eq_of_le h2 with h5 | h5
        · exact absurd ((hm _ h1 h5).1 h3) (by simp)
        · exact h5
    rw [this]
    simp [partsG]
  | d :: ds, a, h, hs, hm => by
    obtain ⟨h1, h2, h3, h4⟩ := nextP_spec (l := l) h
    rw [List.pairwise_cons] at hs
    rw [partsG]
    split
    · rename_i hc
      have hd : d ∈ l := (hm d hc.1 hc.2).2 (by simp)
      have h5 := h4 d hd hc.1
      have hn : nextP a t l = d := by
        rcases h3 with h3 | h3
        · omega
        · have := (hm _ h1 (by omega)).1 h3
          rcases List.mem_cons.1 this with h6 | h6
          · exact h6
          · have := hs.1 _ h6; omega
      rw [hn, if_pos hc.2]
      congr 1
      rw [partsG, if_neg (by omega)]
    · rename_i hc
      have hm' : ∀ x, a < x → x < t → (x ∈ l ↔ x ∈ ds) := fun x hx1 hx2 => by
        rw [hm x hx1 hx2, List.mem_cons]
        exact ⟨fun h => h.resolve_left (by omega), .inr⟩
      rw [partsG_next l h hs.2 hm']
      congr 1
      split
      · rw [partsG, if_neg (by omega)]
      · rfl

theorem partsG_has {t : Int} (ht : t ≤ 292195) : ∀ {ds : List Int} {a : Int}, 1 ≤ a → a < t → ∀ p, p ∈ partsG t a ds → has p.1 p.2 = true
  | [], a, h1, h2, p, hp => by simp [partsG] at hp; subst hp; rw [has_iff]; exact ⟨h1, h2, ht⟩
  | d :: ds, a, h1, h2, p, hp => by
    rw [partsG] at hp
    split at hp
    · rcases List.mem_cons.1 hp with rfl | hp
      · rw [has_iff]; simp only; omega
      · exact partsG_has ht (by omega) (by omega) p hp
    · exact partsG_has ht h1 h2 p hp
theorem partsG_in {t : Int} : ∀ {ds : List Int} {a : Int}, a < t → ∀ x, inL (partsG t a ds) x ↔ a ≤ x ∧ x < t
  | [], a, h, x => by
    rw [partsG, inL_cons]
    have := inL_nil (d := x)
    simp [this]
  | d :: ds, a, h, x => by
    rw [partsG]
    split
    · rename_i hc
      rw [inL_cons, partsG_in hc.2]
      simp only
      omega
    · exact partsG_in h x
def sumM (l : Sps) : Int := (l.map fun p => many p.1 p.2).sum
theorem partsG_sum {t : Int} (ht : t ≤ 292195) : ∀ {ds : List Int} {a : Int}, 1 ≤ a → a < t → sumM (partsG t a ds) = t - a
  | [], a, h1, h2 => by
    have : has a t = true := by rw [has_iff]; omega
    simp [sumM, partsG, many, this]
  | d :: ds, a, h1, h2 => by
    rw [partsG]
    split
    · rename_i hc
      have h := partsG_sum ht (ds := ds) (a := d) (by omega) hc.2
      have : has a d = true := by rw [has_iff]; omega
      simp only [sumM, List.map_cons, List.sum_cons, many, this, if_true] at h ⊢
      omega
    · exact partsG_sum ht h1 h2
/-- What a span is cut into. -/
def partsL (s : Int × Int) (l : List Int) : Sps := if has s.1 s.2 = true then partsG s.2 s.1 (l.mergeSort fun x y => decide (x ≤ y)) else []
theorem partsL_join (s : Int × Int) (l : List Int) : joinL (partsL s l) = joinL [s] := by
  refine joinL_eq fun d => ?_
  unfold partsL
  split
  · rename_i h
    have h2 := has_iff.1 h
    rw [hasL_all (partsG_has h2.2.2 h2.1 h2.2.1), partsG_in h2.2.1, hasL_all (by simpa using h), inL_cons]
    have := inL_nil (d := d)
    simp [this]
  · rename_i h
    have : hasL [s] = [] := by simp [hasL, h]
    rw [this]
    rfl
theorem partsL_sum (s : Int × Int) (l : List Int) : sumM (partsL s l) = many s.1 s.2 := by
  unfold partsL many
  split
  · rename_i h
    have h2 := has_iff.1 h
    rw [partsG_sum h2.2.2 h2.1 h2.2.1]
  · rfl
/-- Days that are twice there, one behind the other, make no other parts. -/
theorem partsG_mem {t : Int} {l ds es : List Int} {a : Int} (h : a < t) (h1 : ds.Pairwise (· ≤ ·)) (h2 : es.Pairwise (· ≤ ·)) (hm : ∀ x, x ∈ ds ↔ x ∈ es) : partsG t a ds = partsG t a es := by
  generalize hn : (t - a).toNat = n
  induction n using Nat.strongRecOn generalizing a with
  | ind n ih =>
    rw [partsG_next ds h h1 (fun _ _ _ => Iff.rfl), partsG_next ds h h2 (fun x _ _ => hm x)]
    obtain ⟨k1, k2, -, -⟩ := nextP_spec (l := ds) h
    congr 1
    split
    · rename_i hc
      exact ih (t - nextP a t ds).toNat (by omega) hc rfl
    · rfl
end Go.Proofs.Ytffiompkjhopkaa.V
