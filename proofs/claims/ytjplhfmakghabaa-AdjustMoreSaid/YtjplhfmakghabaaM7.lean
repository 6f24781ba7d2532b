/- One file alone (plain). -/
import Derived.Test.YtjplhfmakghabaaM2
set_option linter.unusedSimpArgs false
set_option linter.unusedVariables false
namespace Go.Proofs.Ytjplhfmakghabaa.V
set_option maxRecDepth 100000

theorem worth0_zero {c : Cover} (hr : c.rightB = true) : worth0 c 0 = 0 := by
  have h := cvRight_iff.1 hr
  have := worth0_bd hr 0
  omega
theorem one_paid {c : Cover} (hr : c.rightB = true) : ∀ (L : List Stp), (∀ x, x ∈ L → x.file = 0 ∧ 0 ≤ x.act.amt) →
    ∃ sh pd out, payL c 1 L = ⟨[sh], [pd], pd, out⟩ ∧ 0 ≤ sh ∧ pd = worth0 c sh := by
  intro L
  have key : ∀ n (L : List Stp), L.length = n → (∀ x, x ∈ L → x.file = 0 ∧ 0 ≤ x.act.amt) → ∃ sh pd out, payL c 1 L = ⟨[sh], [pd], pd, out⟩ ∧ 0 ≤ sh ∧ pd = worth0 c sh := by
    intro n
    induction n with
    | zero =>
      intro L hn _
      obtain rfl := List.eq_nil_of_length_eq_zero hn
      exact ⟨0, 0, [], rfl, Int.le_refl _, (worth0_zero hr).symm⟩
    | succ n ih =>
      intro L hn h
      rcases List.eq_nil_or_concat L with rfl | ⟨L, x, rfl⟩
      · simp at hn
      · rw [List.concat_eq_append] at *
        obtain ⟨sh, pd, out, h1, h2, h3⟩ := ih L (by simp at hn; exact hn) fun y hy => h y (by simp [hy])
        obtain ⟨x1, x2⟩ := h x (by simp)
        rw [payL_snoc, h1]
        unfold payOne
        rw [x1]
        by_cases hk : x.act.kind = 2
        · rw [if_pos hk]
          simp only [Int.toNat_zero, List.getD_cons_zero, Int.sub_self, List.set_cons_zero]
          rw [pays_zero hr (by omega)]
          have hm := worth0_mono hr (a := sh) (b := sh + x.act.amt) (by omega)
          split
          · exact ⟨_, _, _, rfl, by omega, by omega⟩
          · exact ⟨_, _, _, by congr 1; omega, by omega, rfl⟩
        · rw [if_neg hk]
          exact ⟨sh, pd, out, rfl, h2, h3⟩
  exact key L.length L rfl
/-- How one file alone stands. -/
theorem one_of {c : Cover} {f : File} (he : checkE c [f] = 0) :
    ofL c [f] = [{ standP f.acts with paid := worth0 c (standP f.acts).shown, reserve := if (standP f.acts).opn then worth0 c (standP f.acts).gross - worth0 c (standP f.acts).shown else 0 }]
      ∧ c.rightB = true ∧ 0 ≤ (standP f.acts).shown ∧ (standP f.acts).shown ≤ (standP f.acts).gross ∧ (standP f.acts).gross ≤ 1000000000000000 := by
  obtain ⟨har, _⟩ := chk_right he
  have hr : c.rightB = true := by rw [adjRight, Bool.and_eq_true] at har; exact har.1
  have hf : ([f] : List File)[0]? = some f := rfl
  have hp := paid_file he hf
  obtain ⟨sh, pd, out, h1, h2, h3⟩ := one_paid hr (ordL [f]) fun x hx => by
    obtain ⟨k, k1, k2, _, k3, _⟩ := step_right har hx
    simp at k1
    subst k1
    exact ⟨k2, k3⟩
  have hI := payL_PI har (ordL [f]).length (Nat.le_refl _)
  rw [List.take_length] at hI
  have hg := right_good har (List.mem_of_getElem? hf)
  have q1 := hI.sh 0 (by simp)
  have q3 := hI.ro 0 (by simp)
  have h4 : shK (ordL [f]) 0 = sumK 2 f.acts := by
    rw [shK, ordL_fileK (srt_of har), fileK, hf]
    simp only [List.map_map]
    congr 1
    exact List.map_id _
  rw [h4, ← hg.shownE] at q1
  simp only [List.length_singleton] at q1 q3
  rw [h1] at q1 q3
  simp only [List.getD_cons_zero] at q1 q3
  have hpk : paidK (paidR c [f]) 0 = worth0 c (standP f.acts).shown := by
    rw [paidR, if_pos he, List.length_singleton, h1]
    simp only
    rw [q3, h3, q1]
    rfl
  have hal : amtS (paidR c [f]) = paidK (paidR c [f]) 0 := by
    have b1 := paidB_all (R := paidR c [f]) (n := 1) fun r hm => by
      obtain ⟨k, k0, k1, _⟩ := (rows_ok he).2 r hm
      simp at k0
      omega
    have b2 := paidB_succ (paidR c [f]) 0
    have b3 := paidB_zero (R := paidR c [f]) fun r hm => by
      obtain ⟨k, k0, k1, _⟩ := (rows_ok he).2 r hm
      omega
    rw [← b1, b2, b3]
    omega
  obtain ⟨r, t1, t2, t3, t4, t5⟩ := of_file he hf
  have hn := ofL_len he
  have hu : uAt c (amtS (paidR c [f])) (posR (paidR c [f]) [f]) 0 = amtS (paidR c [f]) := by
    cases posR (paidR c [f]) [f] <;> rfl
  rw [hu, hal] at t5
  have hm := worth0_mono hr hp.2.2.1
  refine ⟨?_, hr, hp.2.2.2.1, hp.2.2.1, hp.2.2.2.2⟩
  apply List.ext_getElem?
  intro i
  rcases i with _ | i
  · rw [t1]
    simp only [List.getElem?_cons_zero]
    have hrr : r = if (standP f.acts).opn then worth0 c (standP f.acts).gross - worth0 c (standP f.acts).shown else 0 := by
      rw [t5]
      unfold heldOne
      simp only [Int.sub_self]
      split
      · rw [pays_zero hr (by omega), hpk]
        omega
      · rfl
    rw [hrr, hpk]
  · rw [List.getElem?_eq_none (by rw [hn]; simp), List.getElem?_eq_none (by simp)]
end Go.Proofs.Ytjplhfmakghabaa.V
