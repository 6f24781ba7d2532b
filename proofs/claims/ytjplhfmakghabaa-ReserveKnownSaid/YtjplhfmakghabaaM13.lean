/- What was known on a day (plain). -/
import Derived.Test.YtjplhfmakghabaaM2
import Derived.Test.YtjplhfmakghabaaM8
set_option linter.unusedSimpArgs false
set_option linter.unusedVariables false
namespace Go.Proofs.Ytjplhfmakghabaa.V
set_option maxRecDepth 100000

def knownL (l : List File) (d : Int) : List File := l.map fun f => f.at d
/-- What is booked up to a day is a beginning. -/
theorem acts_cut (d : Int) : ∀ {E : List Act}, E.Pairwise (fun a b => a.booked ≤ b.booked) → ∃ F, E = keepD d E ++ F ∧ ∀ s, s ∈ F → d < s.booked
  | [], _ => ⟨[], rfl, by simp⟩
  | x :: E, h => by
    have h2 := List.pairwise_cons.1 h
    by_cases hx : x.booked ≤ d
    · obtain ⟨F, h3, h4⟩ := acts_cut d h2.2
      refine ⟨F, ?_, h4⟩
      unfold keepD at *
      rw [List.filter_cons_of_pos (by simpa using hx), List.cons_append, ← h3]
    · refine ⟨x :: E, ?_, fun s hs => ?_⟩
      · have : keepD d (x :: E) = [] := by
          unfold keepD
          rw [List.filter_eq_nil_iff]
          intro s hs
          rcases List.mem_cons.1 hs with rfl | hs
          · simpa using hx
          · have := h2.1 s hs; simp; omega
        rw [this]; rfl
      · rcases List.mem_cons.1 hs with rfl | hs
        · omega
        · have := h2.1 s hs; omega
theorem made_at {f : File} (h : f.made = true) (d : Int) : (f.at d).made = true := by
  obtain ⟨F, h1, -⟩ := acts_cut d (made_good h).srt
  unfold File.made at h ⊢
  rw [h1, madeL_app, Bool.and_eq_true] at h
  exact h.1
theorem right_at {c : Cover} {l : List File} (h : adjRight c l = true) (d : Int) : adjRight c (knownL l d) = true := by
  rw [adjRight, Bool.and_eq_true, List.all_eq_true] at h ⊢
  refine ⟨h.1, fun g hg => ?_⟩
  obtain ⟨f, hf, rfl⟩ := List.mem_map.1 hg
  have h1 := h.2 f hf
  rw [okFile, Bool.and_eq_true] at h1 ⊢
  exact ⟨h1.1, made_at h1.2 d⟩
theorem acts_at (l : List File) (d : Int) : actsN (knownL l d) ≤ actsN l := by
  induction l with
  | nil => exact Nat.le_refl _
  | cons f l ih =>
    have h1 : actsN (knownL (f :: l) d) = (keepD d f.acts).length + actsN (knownL l d) := by simp [actsN, knownL, File.at]
    have h2 : actsN (f :: l) = f.acts.length + actsN l := by simp [actsN]
    have h3 := keepD_le d f.acts
    omega
theorem known_len (l : List File) (d : Int) : (knownL l d).length = l.length := by simp [knownL]
theorem check_at {c : Cover} {l : List File} (he : checkE c l = 0) (d : Int) : checkE c (knownL l d) = 0 := by
  obtain ⟨har, h1, h2⟩ := chk_right he
  have h3 := acts_at l d
  rw [checkE, if_neg (by rw [right_at har d]; decide), if_neg (by rw [known_len]; omega)]
theorem steps_at (d : Int) : ∀ (l : List File) (k : Nat), stepsL k (knownL l d) = (stepsL k l).filter fun s => decide (s.act.booked ≤ d)
  | [], _ => rfl
  | f :: l, k => by
    have h1 : stepsL k (knownL (f :: l) d) = (keepD d f.acts).map (fun a => (⟨k, a⟩ : Stp)) ++ stepsL (k + 1) (knownL l d) := rfl
    rw [h1, steps_at d l, stepsL, List.filter_append]
    congr 1
    rw [List.filter_map]
    rfl
theorem ord_at (l : List File) (d : Int) : ordL (knownL l d) = (ordL l).filter fun s => decide (s.act.booked ≤ d) := by
  unfold ordL
  rw [steps_at, isort_filter sw_ltT]
theorem pay_more (c : Cover) : ∀ (F : List Stp) (s : PS), ∃ G, (F.foldl (payOne c) s).out = s.out ++ G ∧ ∀ r, r ∈ G → ∃ x, x ∈ F ∧ r.2.1 = x.act.booked
  | [], s => ⟨[], by simp, by simp⟩
  | x :: F, s => by
    obtain ⟨G, h1, h2⟩ := pay_more c F (payOne c s x)
    have h3 : (payOne c s x).out = s.out ∨ ∃ k v, (payOne c s x).out = s.out ++ [(k, x.act.booked, v)] := by
      unfold payOne
      simp only
      split
      · split
        · exact .inl rfl
        · exact .inr ⟨_, _, rfl⟩
      · exact .inl rfl
    rw [List.foldl_cons, h1]
    rcases h3 with h3 | ⟨k, v, h3⟩
    · refine ⟨G, by rw [h3], fun r hr => ?_⟩
      obtain ⟨y, hy, he⟩ := h2 r hr
      exact ⟨y, by simp [hy], he⟩
    · refine ⟨(k, x.act.booked, v) :: G, by rw [h3]; simp, fun r hr => ?_⟩
      rcases List.mem_cons.1 hr with rfl | hr
      · exact ⟨x, by simp, rfl⟩
      · obtain ⟨y, hy, he⟩ := h2 r hr
        exact ⟨y, by simp [hy], he⟩
/-- What was paid up to a day. -/
theorem paid_at {c : Cover} {l : List File} (he : checkE c l = 0) (d : Int) : paidR c (knownL l d) = (paidR c l).filter fun r => decide (r.2.1 ≤ d) := by
  obtain ⟨har, _⟩ := chk_right he
  rw [paidR, if_pos (check_at he d), paidR, if_pos he, known_len, ord_at]
  obtain ⟨F, h1, h2⟩ := booked_cut d (srt_booked (ordL_srt l))
  have hI := payL_PI (right_at har d) (ordL (knownL l d)).length (Nat.le_refl _)
  rw [List.take_length, known_len, ord_at] at hI
  have hEd : ∀ s, s ∈ (ordL l).filter (fun s => decide (s.act.booked ≤ d)) → s.act.booked ≤ d := fun s hs => by simpa using (List.mem_filter.1 hs).2
  obtain ⟨E, hE⟩ : ∃ E, E = (ordL l).filter fun s => decide (s.act.booked ≤ d) := ⟨_, rfl⟩
  rw [← hE] at h1 hI hEd ⊢
  clear hE
  rw [h1]
  have hp : payL c l.length (E ++ F) = F.foldl (payOne c) (payL c l.length E) := by rw [payL, List.foldl_append]; rfl
  obtain ⟨G, g1, g2⟩ := pay_more c F (payL c l.length E)
  rw [hp, g1, List.filter_append]
  have e1 : (payL c l.length E).out.filter (fun r => decide (r.2.1 ≤ d)) = (payL c l.length E).out := by
    rw [List.filter_eq_self]
    intro r hr
    have h3 := hI.dy.subset (List.mem_map.2 ⟨r, hr, rfl⟩)
    obtain ⟨x, hx, h4⟩ := List.mem_map.1 h3
    have := hEd x hx
    simp
    omega
  have e2 : G.filter (fun r => decide (r.2.1 ≤ d)) = [] := by
    rw [List.filter_eq_nil_iff]
    intro r hr
    obtain ⟨x, hx, h4⟩ := g2 r hr
    have := h2 x hx
    simp
    omega
  rw [e1, e2, List.append_nil]
end Go.Proofs.Ytjplhfmakghabaa.V
