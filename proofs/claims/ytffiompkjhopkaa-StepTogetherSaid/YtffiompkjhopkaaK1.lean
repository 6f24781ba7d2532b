/- Steps as plain data: right ones, their values, and that the values tell the step. -/
import Derived.Test.YtffiompkjhopkaaV1
set_option linter.unusedSimpArgs false
set_option linter.unusedVariables false
namespace Go.Proofs.Ytffiompkjhopkaa.V

abbrev Pts := List (Int × Int)
def money (v : Int) : Bool := decide (-4000000000000000000 ≤ v) && decide (v ≤ 4000000000000000000)
theorem money_iff {v : Int} : money v = true ↔ -4000000000000000000 ≤ v ∧ v ≤ 4000000000000000000 := by simp [money]

def rightG : Int → Int → Pts → Bool
  | _, _, [] => true
  | d0, v0, p :: l => decide (d0 < p.1) && decide (p.1 ≤ 292194) && decide (p.2 ≠ v0) && money p.2 && rightG p.1 p.2 l
def valG : Int → Pts → Int → Int
  | a, [], _ => a
  | a, p :: l, x => valG (if p.1 ≤ x then p.2 else a) l x
def cmpr : Int → Pts → Pts
  | _, [] => []
  | a, p :: l => if p.2 ≠ a ∧ p.1 ≤ 292194 then p :: cmpr p.2 l else cmpr a l

theorem rightG_cons {d0 v0 : Int} {p : Int × Int} {l : Pts} : rightG d0 v0 (p :: l) = true ↔ d0 < p.1 ∧ p.1 ≤ 292194 ∧ p.2 ≠ v0 ∧ money p.2 = true ∧ rightG p.1 p.2 l = true := by
  simp [rightG, and_assoc]

theorem right_mem : ∀ {l : Pts} {d0 v0 : Int}, rightG d0 v0 l = true → ∀ p, p ∈ l → d0 < p.1 ∧ p.1 ≤ 292194 ∧ money p.2 = true
  | [], _, _, _, p, hp => by simp at hp
  | q :: l, d0, v0, h, p, hp => by
    obtain ⟨h1, h2, h3, h4, h5⟩ := rightG_cons.1 h
    rcases List.mem_cons.1 hp with rfl | hp
    · exact ⟨h1, h2, h4⟩
    · have := right_mem h5 p hp
      exact ⟨by omega, this.2⟩

theorem right_lt : ∀ {l : Pts} {d0 v0 : Int}, rightG d0 v0 l = true → l.Pairwise fun p q => p.1 < q.1
  | [], _, _, _ => .nil
  | q :: l, d0, v0, h => by
    obtain ⟨h1, h2, h3, h4, h5⟩ := rightG_cons.1 h
    exact .cons (fun p hp => (right_mem h5 p hp).1) (right_lt h5)

theorem valG_app : ∀ (l m : Pts) (a x : Int), valG a (l ++ m) x = valG (valG a l x) m x
  | [], _, _, _ => rfl
  | p :: l, m, a, x => by rw [List.cons_append, valG, valG, valG_app l m]

theorem valG_gt : ∀ (l : Pts) (a x : Int), (∀ p, p ∈ l → x < p.1) → valG a l x = a
  | [], _, _, _ => rfl
  | p :: l, a, x, h => by
    have := h p (by simp)
    rw [valG, if_neg (by omega)]
    exact valG_gt l a x fun q hq => h q (by simp [hq])

theorem valG_steady : ∀ (l : Pts) (a x y : Int), x ≤ y → (∀ p, p ∈ l → ¬ (x < p.1 ∧ p.1 ≤ y)) → valG a l x = valG a l y
  | [], _, _, _, _, _ => rfl
  | p :: l, a, x, y, hxy, h => by
    have h0 := h p (by simp)
    rw [valG, valG, valG_steady l _ x y hxy fun q hq => h q (by simp [hq])]
    congr 1
    by_cases h1 : p.1 ≤ x
    · rw [if_pos h1, if_pos (by omega)]
    · rw [if_neg h1, if_neg (by omega)]

theorem valG_mem : ∀ {l : Pts} {a : Int}, (l.Pairwise fun p q => p.1 < q.1) → ∀ p, p ∈ l → valG a l p.1 = p.2
  | [], _, _, p, hp => by simp at hp
  | q :: l, a, h, p, hp => by
    rw [List.pairwise_cons] at h
    rcases List.mem_cons.1 hp with rfl | hp
    · rw [valG, if_pos (Int.le_refl _)]
      exact valG_gt l _ _ h.1
    · rw [valG, valG_mem h.2 p hp]

theorem valG_money : ∀ (l : Pts) (a x : Int), money a = true → (∀ p, p ∈ l → money p.2 = true) → money (valG a l x) = true
  | [], _, _, h, _ => h
  | p :: l, a, x, h, hl => by
    rw [valG]
    refine valG_money l _ x ?_ fun q hq => hl q (by simp [hq])
    split
    · exact hl p (by simp)
    · exact h

theorem cmpr_sub : ∀ {l : Pts} {a : Int} {p : Int × Int}, p ∈ cmpr a l → p ∈ l
  | [], _, _, h => h
  | q :: l, a, p, h => by
    rw [cmpr] at h
    split at h
    · rcases List.mem_cons.1 h with rfl | h
      · simp
      · exact List.mem_cons_of_mem _ (cmpr_sub h)
    · exact List.mem_cons_of_mem _ (cmpr_sub h)

theorem cmpr_right : ∀ {l : Pts} {d0 v0 : Int}, (l.Pairwise fun p q => p.1 < q.1 ∨ p = q) → (∀ p, p ∈ l → d0 < p.1 ∨ p = (d0, v0)) → (∀ p, p ∈ l → money p.2 = true) → rightG d0 v0 (cmpr v0 l) = true
  | [], _, _, _, _, _ => rfl
  | p :: l, d0, v0, hl, h1, h2 => by
    rw [List.pairwise_cons] at hl
    rw [cmpr]
    split
    · rename_i hk
      refine rightG_cons.2 ⟨?_, hk.2, hk.1, h2 p (by simp), cmpr_right hl.2 (fun q hq => ?_) fun q hq => h2 q (by simp [hq])⟩
      · rcases h1 p (by simp) with h | h
        · exact h
        · exact absurd (by rw [h]) hk.1
      · rcases hl.1 q hq with h | h
        · exact .inl h
        · exact .inr h.symm
    · exact cmpr_right hl.2 (fun q hq => h1 q (by simp [hq])) fun q hq => h2 q (by simp [hq])

theorem cmpr_val : ∀ {l : Pts} {a x : Int}, (l.Pairwise fun p q => p.1 ≤ q.1) → x ≤ 292194 → valG a (cmpr a l) x = valG a l x
  | [], _, _, _, _ => rfl
  | p :: l, a, x, hl, hx => by
    rw [List.pairwise_cons] at hl
    rw [cmpr, valG]
    split
    · rw [valG]
      by_cases h : p.1 ≤ x
      · rw [if_pos h, cmpr_val hl.2 hx]
      · rw [if_neg h, valG_gt _ _ _ fun q hq => ?_, valG_gt _ _ _ fun q hq => ?_]
        · have := hl.1 q hq; omega
        · have := hl.1 q (cmpr_sub hq); omega
    · rename_i hk
      rw [cmpr_val hl.2 hx]
      congr 1
      by_cases h : p.1 ≤ x
      · rw [if_pos h]
        by_cases h2 : p.2 = a
        · exact h2.symm
        · exact absurd ⟨h2, by omega⟩ hk
      · rw [if_neg h]

theorem cmpr_self : ∀ {l : Pts} {d0 v0 : Int}, rightG d0 v0 l = true → cmpr v0 l = l
  | [], _, _, _ => rfl
  | p :: l, d0, v0, h => by
    obtain ⟨h1, h2, h3, h4, h5⟩ := rightG_cons.1 h
    rw [cmpr, if_pos ⟨h3, h2⟩, cmpr_self h5]

/-- The values on all days tell a right step. -/
theorem right_uniq : ∀ {l m : Pts} {d0 v0 : Int}, rightG d0 v0 l = true → rightG d0 v0 m = true → (∀ x, d0 < x → x ≤ 292194 → valG v0 l x = valG v0 m x) → l = m
  | [], [], _, _, _, _, _ => rfl
  | [], q :: m, d0, v0, _, h, e => by
    obtain ⟨h1, h2, h3, h4, h5⟩ := rightG_cons.1 h
    have := e q.1 h1 h2
    rw [valG_mem (right_lt h) q (by simp)] at this
    exact absurd this.symm h3
  | p :: l, [], d0, v0, h, _, e => by
    obtain ⟨h1, h2, h3, h4, h5⟩ := rightG_cons.1 h
    have := e p.1 h1 h2
    rw [valG_mem (right_lt h) p (by simp)] at this
    exact absurd this h3
  | p :: l, q :: m, d0, v0, h, k, e => by
    obtain ⟨h1, h2, h3, h4, h5⟩ := rightG_cons.1 h
    obtain ⟨k1, k2, k3, k4, k5⟩ := rightG_cons.1 k
    have hpq : p.1 = q.1 := by
      rcases Int.lt_trichotomy p.1 q.1 with hlt | heq | hlt
      · have := e p.1 h1 h2
        rw [valG_mem (right_lt h) p (by simp), valG_gt (q :: m) v0 p.1 fun r hr => ?_] at this
        · exact absurd this h3
        · rcases List.mem_cons.1 hr with rfl | hr
          · exact hlt
          · have := (right_mem k5 r hr).1; omega
      · exact heq
      · have := e q.1 k1 k2
        rw [valG_mem (right_lt k) q (by simp), valG_gt (p :: l) v0 q.1 fun r hr => ?_] at this
        · exact absurd this.symm k3
        · rcases List.mem_cons.1 hr with rfl | hr
          · exact hlt
          · have := (right_mem h5 r hr).1; omega
    have hv : p.2 = q.2 := by
      have := e p.1 h1 h2
      rw [valG_mem (right_lt h) p (by simp), hpq, valG_mem (right_lt k) q (by simp)] at this
      exact this
    have hp : p = q := Prod.ext hpq hv
    subst hp
    congr 1
    refine right_uniq h5 k5 fun x hx hx2 => ?_
    have := e x (by omega) hx2
    rwa [valG, valG, if_pos (by omega)] at this

/-! ### Out of values on some days -/

def ptsOf (g : Int → Int) (ds : List Int) : Pts := ds.map fun d => (d, g d)

theorem pts_val (g : Int → Int) (x : Int) : ∀ (ds : List Int) (a : Int), (ds.Pairwise fun p q => p ≤ q) → (∀ d, d ∈ ds → d ≤ x → (∀ e, e ∈ ds → ¬ (d < e ∧ e ≤ x)) → g d = g x) →
    (∃ d, d ∈ ds ∧ d ≤ x) → valG a (ptsOf g ds) x = g x := by
  have main : ∀ (ds : List Int) (a : Int), (ds.Pairwise fun p q => p ≤ q) → (∀ d, d ∈ ds → d ≤ x → (∀ e, e ∈ ds → ¬ (d < e ∧ e ≤ x)) → g d = g x) →
      ((∃ d, d ∈ ds ∧ d ≤ x) ∧ valG a (ptsOf g ds) x = g x) ∨ ((∀ d, d ∈ ds → x < d) ∧ valG a (ptsOf g ds) x = a) := by
    intro ds
    induction ds with
    | nil => intro a _ _; exact .inr ⟨by simp, rfl⟩
    | cons d ds ih =>
      intro a hp h
      rw [List.pairwise_cons] at hp
      have hs : ∀ e, e ∈ ds → e ≤ x → (∀ e', e' ∈ ds → ¬ (e < e' ∧ e' ≤ x)) → g e = g x := fun e he hex hn => h e (by simp [he]) hex fun e' he' => by
        rcases List.mem_cons.1 he' with rfl | he'
        · have := hp.1 e he; omega
        · exact hn e' he'
      show _ ∨ (_ ∧ valG (if d ≤ x then g d else a) (ptsOf g ds) x = a)
      by_cases hd : d ≤ x
      · refine .inl ⟨⟨d, by simp, hd⟩, ?_⟩
        show valG (if d ≤ x then g d else a) (ptsOf g ds) x = g x
        rw [if_pos hd]
        rcases ih (g d) hp.2 hs with ⟨-, h1⟩ | ⟨h1, h2⟩
        · exact h1
        · rw [h2]
          refine h d (by simp) hd fun e he => ?_
          rcases List.mem_cons.1 he with rfl | he
          · omega
          · have := h1 e he; omega
      · refine .inr ⟨fun e he => ?_, ?_⟩
        · rcases List.mem_cons.1 he with rfl | he
          · omega
          · have := hp.1 e he; omega
        · rw [if_neg hd]
          exact valG_gt _ _ _ fun q hq => by
            obtain ⟨e, he, rfl⟩ := List.mem_map.1 hq
            have := hp.1 e he
            show x < e
            omega
  intro ds a hp h hx
  obtain ⟨d, hd, hdx⟩ := hx
  rcases main ds a hp h with ⟨-, h1⟩ | ⟨h1, -⟩
  · exact h1
  · have := h1 d hd; omega

theorem pts_lin {g : Int → Int} {ds : List Int} (hp : ds.Pairwise fun p q => p ≤ q) : (ptsOf g ds).Pairwise fun p q => p.1 < q.1 ∨ p = q := by
  refine List.Pairwise.map _ ?_ hp
  intro a b hab
  by_cases h : a = b
  · subst h; exact .inr rfl
  · exact .inl (by show a < b; omega)

/-- The step that has the values g, which change on the days ds at most. -/
theorem built {g : Int → Int} {ds : List Int} (hp : ds.Pairwise fun p q => p ≤ q) (h1 : ∀ d, d ∈ ds → 0 < d) (hm : ∀ d, d ∈ ds → money (g d) = true) :
    rightG 0 0 (cmpr 0 (ptsOf g ds)) = true :=
  cmpr_right (pts_lin hp) (fun p hp => by obtain ⟨d, hd, rfl⟩ := List.mem_map.1 hp; exact .inl (h1 d hd)) fun p hp => by obtain ⟨d, hd, rfl⟩ := List.mem_map.1 hp; exact hm d hd

theorem built_val {g : Int → Int} {ds : List Int} {x : Int} (hp : ds.Pairwise fun p q => p ≤ q) (hx : x ≤ 292194)
    (h : ∀ d, d ∈ ds → d ≤ x → (∀ e, e ∈ ds → ¬ (d < e ∧ e ≤ x)) → g d = g x) (h0 : (∀ d, d ∈ ds → x < d) → g x = 0) : valG 0 (cmpr 0 (ptsOf g ds)) x = g x := by
  rw [cmpr_val _ hx]
  · by_cases hc : ∃ d, d ∈ ds ∧ d ≤ x
    · exact pts_val g x ds 0 hp h hc
    · have hc' : ∀ d, d ∈ ds → x < d := fun d hd => by
        by_cases hdx : d ≤ x
        · exact absurd ⟨d, hd, hdx⟩ hc
        · omega
      rw [h0 hc']
      exact valG_gt _ _ _ fun q hq => by obtain ⟨e, he, rfl⟩ := List.mem_map.1 hq; exact hc' e he
  · exact (pts_lin hp).imp fun h => by (rcases h with h | h); (· omega); (subst h; omega)

/-- A value on some days. -/
def setG (f : Pts) (a b v x : Int) : Int := if a ≤ x ∧ x < b then v else valG 0 f x

def setL (f : Pts) (a b v : Int) : Pts := cmpr 0 (ptsOf (setG f a b v) ((f.map Prod.fst ++ [a, b]).mergeSort fun x y => decide (x ≤ y)))

theorem sorted_ms (l : List Int) : (l.mergeSort fun x y => decide (x ≤ y)).Pairwise fun p q => p ≤ q := by
  have := List.pairwise_mergeSort (le := fun x y : Int => decide (x ≤ y)) (fun a b c => by simp; omega) (fun a b => by simp; omega) l
  exact this.imp fun h => by simpa using h

theorem setL_right {f : Pts} {a b v : Int} (hf : rightG 0 0 f = true) (ha : 1 ≤ a) (hab : a < b) (hv : money v = true) : rightG 0 0 (setL f a b v) = true := by
  refine built (sorted_ms _) (fun d hd => ?_) fun d _ => ?_
  · rw [List.mem_mergeSort] at hd
    simp only [List.mem_append, List.mem_map, List.mem_cons, List.not_mem_nil, or_false] at hd
    rcases hd with ⟨p, hp, rfl⟩ | rfl | rfl
    · exact (right_mem hf p hp).1
    · omega
    · omega
  · unfold setG
    split
    · exact hv
    · exact valG_money f 0 d rfl fun p hp => (right_mem hf p hp).2.2

theorem setL_val {f : Pts} {a b v x : Int} (hf : rightG 0 0 f = true) (hab : a < b) (hx : x ≤ 292194) : valG 0 (setL f a b v) x = setG f a b v x := by
  refine built_val (sorted_ms _) hx (fun d hd hdx hn => ?_) fun hn => ?_
  · have ha := hn a (by simp)
    have hb := hn b (by simp)
    have hfd : valG 0 f d = valG 0 f x := valG_steady f 0 d x hdx fun p hp => hn p.1 (by simp; exact .inl ⟨p.2, hp⟩)
    unfold setG
    by_cases h1 : a ≤ d ∧ d < b
    · rw [if_pos h1, if_pos (by omega)]
    · rw [if_neg h1, if_neg (by omega)]
      exact hfd
  · have ha := hn a (by simp)
    unfold setG
    rw [if_neg (by omega)]
    exact valG_gt f 0 x fun p hp => hn p.1 (by simp; exact .inl ⟨p.2, hp⟩)

/-- What the document's answer goes through. -/
def setP (f : Pts) (a b v : Int) : Pts := f.filter (fun p => decide (p.1 < a)) ++ ((a, v) :: (b, valG 0 f b) :: f.filter fun p => decide (b < p.1))

theorem setP_pts {f : Pts} {a b v : Int} (hf : rightG 0 0 f = true) (hab : a < b) : setP f a b v = ptsOf (setG f a b v) ((setP f a b v).map Prod.fst) := by
  unfold ptsOf
  rw [List.map_map]
  conv => lhs; rw [← List.map_id (setP f a b v)]
  refine List.map_congr_left fun p hp => ?_
  simp only [setP, List.mem_append, List.mem_filter, List.mem_cons, decide_eq_true_eq] at hp
  have key : ∀ p : Int × Int, p ∈ f → ¬ (a ≤ p.1 ∧ p.1 < b) → p = (p.1, setG f a b v p.1) := fun p hp hn => by
    rw [setG, if_neg hn, valG_mem (right_lt hf) p hp]
  show p = (p.1, setG f a b v p.1)
  rcases hp with ⟨h1, h2⟩ | rfl | rfl | ⟨h1, h2⟩
  · exact key p h1 (by omega)
  · show (a, v) = (a, setG f a b v a)
    rw [setG, if_pos (by omega)]
  · show (b, valG 0 f b) = (b, setG f a b v b)
    rw [setG, if_neg (by omega)]
  · exact key p h1 (by omega)

theorem setP_sorted {f : Pts} {a b v : Int} (hf : rightG 0 0 f = true) (hab : a < b) : ((setP f a b v).map Prod.fst).Pairwise fun p q => p ≤ q := by
  refine List.Pairwise.map _ (R := fun p q : Int × Int => p.1 < q.1) (fun p q h => by omega) ?_
  have h1 := (right_lt hf).filter (fun p => decide (p.1 < a))
  have h2 := (right_lt hf).filter (fun p => decide (b < p.1))
  unfold setP
  refine List.pairwise_append.2 ⟨h1, List.pairwise_cons.2 ⟨?_, List.pairwise_cons.2 ⟨?_, h2⟩⟩, ?_⟩
  · intro q hq
    rcases List.mem_cons.1 hq with rfl | hq
    · exact hab
    · have := (List.mem_filter.1 hq).2
      simp only [decide_eq_true_eq] at this
      show a < q.1
      omega
  · intro q hq
    have := (List.mem_filter.1 hq).2
    simp only [decide_eq_true_eq] at this
    exact this
  · intro p hp q hq
    have hp := (List.mem_filter.1 hp).2
    simp only [decide_eq_true_eq] at hp
    rcases List.mem_cons.1 hq with rfl | hq
    · exact hp
    rcases List.mem_cons.1 hq with rfl | hq
    · show p.1 < b
      omega
    · have := (List.mem_filter.1 hq).2
      simp only [decide_eq_true_eq] at this
      omega

theorem setP_eq {f : Pts} {a b v : Int} (hf : rightG 0 0 f = true) (ha : 1 ≤ a) (hab : a < b) (hv : money v = true) : cmpr 0 (setP f a b v) = setL f a b v := by
  have hs := setP_sorted (v := v) hf hab
  have hp := setP_pts (v := v) hf hab
  have hmem : ∀ p, p ∈ f → ¬ (a ≤ p.1 ∧ p.1 ≤ b) → p.1 ∈ (setP f a b v).map Prod.fst := fun p hp hn => by
    refine List.mem_map.2 ⟨p, ?_, rfl⟩
    simp only [setP, List.mem_append, List.mem_filter, List.mem_cons, decide_eq_true_eq]
    by_cases h1 : p.1 < a
    · exact .inl ⟨hp, h1⟩
    · exact .inr (.inr (.inr ⟨hp, by omega⟩))
  have ma : a ∈ (setP f a b v).map Prod.fst := by simp [setP]
  have mb : b ∈ (setP f a b v).map Prod.fst := by simp [setP]
  refine right_uniq ?_ (setL_right hf ha hab hv) fun x h0 hx => ?_
  · rw [hp]
    refine built hs (fun d hd => ?_) fun d _ => ?_
    · obtain ⟨p, hp, rfl⟩ := List.mem_map.1 hd
      simp only [setP, List.mem_append, List.mem_filter, List.mem_cons, decide_eq_true_eq] at hp
      rcases hp with ⟨h1, h2⟩ | rfl | rfl | ⟨h1, h2⟩
      · exact (right_mem hf p h1).1
      · show 0 < a; omega
      · show 0 < b; omega
      · exact (right_mem hf p h1).1
    · unfold setG
      split
      · exact hv
      · exact valG_money f 0 d rfl fun p hp => (right_mem hf p hp).2.2
  · rw [setL_val hf hab hx, hp]
    refine built_val hs hx (fun d hd hdx hn => ?_) fun hn => ?_
    · have ha := hn a ma
      have hb := hn b mb
      unfold setG
      by_cases h1 : a ≤ d ∧ d < b
      · rw [if_pos h1, if_pos (by omega)]
      · rw [if_neg h1, if_neg (by omega)]
        refine valG_steady f 0 d x hdx fun p hp hpx => ?_
        by_cases h2 : a ≤ p.1 ∧ p.1 ≤ b
        · omega
        · exact hn p.1 (hmem p hp h2) hpx
    · have ha := hn a ma
      unfold setG
      rw [if_neg (by omega)]
      refine valG_gt f 0 x fun p hp => ?_
      by_cases h2 : a ≤ p.1 ∧ p.1 ≤ b
      · omega
      · exact hn p.1 (hmem p hp h2)
end Go.Proofs.Ytffiompkjhopkaa.V
