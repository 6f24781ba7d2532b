/- Plain laws on lists of covers: without one, with one twice, turned round. -/
import Derived.Test.YthmjjogmgjagmaaP1
namespace Go.Proofs.Ythmjjogmgjagmaa
open Go.RowKit

theorem coversFrom_iff (l : List Cover) (z : Int) : coversFrom z l = true ↔ (∀ c, c ∈ l → z < c.peril ∧ c.right = true) ∧ l.Pairwise (fun a b => a.peril < b.peril) := by
  induction l generalizing z with
  | nil => simp [coversFrom]
  | cons a r ih =>
    simp only [coversFrom, Bool.and_eq_true, decide_eq_true_eq, ih, List.pairwise_cons, List.mem_cons]
    constructor
    · rintro ⟨⟨h1, h2⟩, h3, h4⟩
      refine ⟨?_, fun c hc => (h3 c hc).1, h4⟩
      rintro c (rfl | hc)
      · exact ⟨h1, h2⟩
      · have := h3 c hc
        exact ⟨by omega, this.2⟩
    · rintro ⟨h1, h2, h3⟩
      exact ⟨h1 a (.inl rfl), fun c hc => ⟨h2 c hc, (h1 c (.inr hc)).2⟩, h3⟩

theorem covers_fewer {l : List Cover} {k : Nat} (h : coversRight l = true) (hk : k < l.length) : coversRight (l.take k ++ l.drop (k + 1)) = decide (1 < l.length) := by
  simp only [coversRight, Bool.and_eq_true, decide_eq_true_eq, coversFrom_iff] at h
  obtain ⟨⟨⟨h1, h2⟩, h3⟩, h4⟩ := h
  have hs : (l.take k ++ l.drop (k + 1)).Sublist l := by
    have := List.eraseIdx_sublist l k
    rwa [List.eraseIdx_eq_take_drop_succ] at this
  have hf : coversFrom (-1) (l.take k ++ l.drop (k + 1)) = true := (coversFrom_iff _ _).2 ⟨fun c hc => h1 c (hs.subset hc), h2.sublist hs⟩
  have hl : (l.take k ++ l.drop (k + 1)).length = l.length - 1 := by simp; omega
  rw [Bool.eq_iff_iff]
  simp only [coversRight, hf, hl, Bool.true_and, Bool.and_eq_true, decide_eq_true_eq]
  omega

theorem covers_twice {l : List Cover} {k : Nat} {c : Cover} (hc : l[k]? = some c) : coversRight (l.take k ++ [c] ++ l.drop k) = false := by
  rw [Bool.eq_false_iff]
  intro h
  simp only [coversRight, Bool.and_eq_true, decide_eq_true_eq, coversFrom_iff] at h
  obtain ⟨⟨⟨-, h2⟩, -⟩, -⟩ := h
  rw [drop_get hc, List.pairwise_append] at h2
  have := h2.2.2 c (by simp) c (by simp)
  omega

theorem covers_turned {l : List Cover} (h : coversRight l = true) : coversRight l.reverse = decide (l.length = 1) := by
  have h' := h
  simp only [coversRight, Bool.and_eq_true, decide_eq_true_eq, coversFrom_iff] at h
  obtain ⟨⟨⟨h1, h2⟩, h3⟩, h4⟩ := h
  rcases l with _ | ⟨a, _ | ⟨b, r⟩⟩
  · simp at h3
  · simpa using h'
  · rw [show decide ((a :: b :: r).length = 1) = false by simp, Bool.eq_false_iff]
    intro hr
    simp only [coversRight, Bool.and_eq_true, decide_eq_true_eq, coversFrom_iff, List.pairwise_reverse] at hr
    have e1 := (List.pairwise_cons.1 h2).1 b (by simp)
    have e2 := (List.pairwise_cons.1 hr.1.1.2).1 b (by simp)
    omega

end Go.Proofs.Ythmjjogmgjagmaa
