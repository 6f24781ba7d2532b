/- Plain laws on lists of covers: perils rise; each is found by its peril, nothing else is. -/
import Derived.Test.YthmjjogmgjagmaaD1
import Derived.Test.YthmjjogmgjagmaaO
namespace Go.Proofs.Ythmjjogmgjagmaa
open Go.RowKit

theorem coversFrom_mem {l : List Cover} {z : Int} (h : coversFrom z l = true) : ∀ c, c ∈ l → z < c.peril ∧ c.right = true := by
  induction l generalizing z with
  | nil => intro c hc; simp at hc
  | cons a r ih =>
    simp only [coversFrom, Bool.and_eq_true, decide_eq_true_eq] at h
    intro c hc
    rcases List.mem_cons.1 hc with rfl | hc
    · exact h.1
    · have := ih h.2 c hc
      exact ⟨by omega, this.2⟩

theorem find_true {l : List Cover} {p : Int} {c : Cover} (h : findCover l p = (c, true)) : c ∈ l ∧ c.peril = p := by
  induction l with
  | nil => simp [findCover] at h
  | cons a r ih =>
    unfold findCover at h
    split at h
    · rename_i hp
      have : a = c := by simpa using h
      subst this
      exact ⟨by simp, by simpa using hp⟩
    · have := ih h
      exact ⟨List.mem_cons_of_mem _ this.1, this.2⟩

theorem find_rising {l : List Cover} {z : Int} (h : coversFrom z l = true) : ∀ c, c ∈ l → findCover l c.peril = (c, true) := by
  induction l generalizing z with
  | nil => intro c hc; simp at hc
  | cons a r ih =>
    simp only [coversFrom, Bool.and_eq_true, decide_eq_true_eq] at h
    intro c hc
    rcases List.mem_cons.1 hc with rfl | hc
    · simp [findCover]
    · have h1 := coversFrom_mem h.2 c hc
      have hne : (a.peril == c.peril) = false := by simp; omega
      simp only [findCover, hne]
      exact ih h.2 c hc

def under (l : List Cover) (p : Int) : Nat := l.countP fun c => decide (c.peril < p)

theorem under_le (l : List Cover) (p : Int) : under l p ≤ l.length := List.countP_le_length

theorem under_none {l : List Cover} {z p : Int} (h : coversFrom z l = true) (hp : p ≤ z + 1) : under l p = 0 := by
  unfold under
  rw [List.countP_eq_zero]
  intro c hc
  have := (coversFrom_mem h c hc).1
  simp
  omega

theorem under_all {l : List Cover} {p : Int} (h : ∀ c, c ∈ l → c.peril < p) : under l p = l.length := by
  unfold under
  rw [List.countP_eq_length]
  intro c hc
  simpa using h c hc

theorem under_succ {l : List Cover} {z p : Int} (h : coversFrom z l = true) : under l (p + 1) = under l p + (if (findCover l p).2 then 1 else 0) := by
  induction l generalizing z with
  | nil => simp [under, findCover]
  | cons a r ih =>
    simp only [coversFrom, Bool.and_eq_true, decide_eq_true_eq] at h
    by_cases hp : a.peril = p
    · have e1 : under r (p + 1) = 0 := under_none h.2 (by omega)
      have e2 : under r p = 0 := under_none h.2 (by omega)
      unfold under at e1 e2 ⊢
      rw [List.countP_cons, List.countP_cons, e1, e2]
      simp [findCover, hp]; omega
    · have hne : (a.peril == p) = false := by simpa using hp
      have hi := ih h.2
      unfold under at hi ⊢
      rw [List.countP_cons, List.countP_cons, hi]
      simp only [findCover, hne]
      by_cases h1 : a.peril < p
      · have h2 : a.peril < p + 1 := by omega
        simp [h1, h2]; omega
      · have h2 : ¬ a.peril < p + 1 := by omega
        simp [h1, h2]

theorem covers_wf {w : World} {B : Nat} {A : Option Addr} {l : List Cover} (h : RowsAt w B 5 isCover A l) : ∀ c, c ∈ l → c.wf := by
  intro c hc
  obtain ⟨i, hi⟩ := List.getElem?_of_mem hc
  obtain ⟨b, off, -, -, hr⟩ := covers_at h (by cases l <;> simp_all)
  exact (hr i c hi).1

theorem right_peril {c : Cover} (h : c.right = true) : 0 ≤ c.peril ∧ c.peril < 8 := by
  simp only [Cover.right, coverRight, decide_eq_true_eq] at h
  omega

end Go.Proofs.Ythmjjogmgjagmaa
