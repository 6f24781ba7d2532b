/- Steps as plain data: right ones, their values, and that the values tell the step. Steps as plain data: two together, pieces, sums. -/
import Derived.Test.YtjplhfmakghabaaV1
set_option linter.unusedSimpArgs false
set_option linter.unusedVariables false
namespace Go.Proofs.Ytjplhfmakghabaa.V

abbrev Pts := List (Int × Int)
def money (v : Int) : Bool := decide (-4000000000000000000 ≤ v) && decide (v ≤ 4000000000000000000)
theorem money_iff {v : Int} : money v = true ↔ -4000000000000000000 ≤ v ∧ v ≤ 4000000000000000000 := by simp [money]

def rightG : Int → Int → Pts → Bool
  | _, _, [] => true
  | d0, v0, p :: l => decide (d0 < p.1) && decide (p.1 ≤ 292194) && decide (p.2 ≠ v0) && money p.2 && rightG p.1 p.2 l
def valG : Int → Pts → Int → Int
  | a, [], _ => a
  | a, p :: l, x => valG (if p.1 ≤ x then p.2 else a) l x
def cmpr : Int → Pts → Pts
  | _, [] => []
  | a, p :: l => if p.2 ≠ a ∧ p.1 ≤ 292194 then p :: cmpr p.2 l else cmpr a l

theorem rightG_cons {d0 v0 : Int} {p : Int × Int} {l : Pts} : rightG d0 v0 (p :: l) = true ↔ d0 < p.1 ∧ p.1 ≤ 292194 ∧ p.2 ≠ v0 ∧ money p.2 = true ∧ rightG p.1 p.2 l = true := by
  simp [rightG, and_assoc]

theorem right_mem : ∀ {l : Pts} {d0 v0 : Int}, rightG d0 v0 l = true → ∀ p, p ∈ l → d0 < p.1 ∧ p.1 ≤ 292194 ∧ money p.2 = true
  | [], _, _, _, p, hp => by simp at hp
  | q :: l, d0, v0, h, p, hp => by
    obtain ⟨h1, h2, h3, h4, h5⟩ := rightG_cons.1 h
    rcases List.mem_cons.1 hp with rfl | hp
    · exact ⟨h1, h2, h4⟩
    · have := right_mem h5 p hp
      exact ⟨by omega, this.2⟩

theorem right_lt : ∀ {l : Pts} {d0 v0 : Int}, rightG d0 v0 l = true → l.Pairwise fun p q => p.1 < q.1
  | [], _, _, _ => .nil
  | q :: l, d0, v0, h => by
    obtain ⟨h1, h2, h3, h4, h5⟩ := rightG_cons.1 h
    exact .cons (fun p hp => (right_mem h5 p hp).1) (right_lt h5)

theorem valG_app : ∀ (l m : Pts) (a x : Int), valG a (l ++ m) x = valG (valG a l x) m x
  | [], _, _, _ => rfl
  | p :: l, m, a, x => by rw [List.cons_append, valG, valG, valG_app l m]

theorem valG_gt : ∀ (l : Pts) (a x : Int), (∀ p, p ∈ l → x < p.1) → valG a l x = a
  | [], _, _, _ => rfl
  | p :: l, a, x, h => by
    have := h p (by simp)
    rw [valG, if_neg (by omega)]
    exact valG_gt l a x fun q hq => h q (by simp [hq])

theorem valG_steady : ∀ (l : Pts) (a x y : Int), x ≤ y → (∀ p, p ∈ l → ¬ (x < p.1 ∧ p.1 ≤ y)) → valG a l x = valG a l y
  | [], _, _, _, _, _ => rfl
  | p :: l, a, x, y, hxy, h => by
    have h0 := h p (by simp)
    rw [valG, valG, valG_steady l _ x y hxy fun q hq => h q (by simp [hq])]
    congr 1
    by_cases h1 : p.1 ≤ x
    · rw [if_pos h1, if_pos (by omega)]
    · rw [if_neg h1, if_neg (by omega)]

theorem valG_mem : ∀ {l : Pts} {a : Int}, (l.Pairwise fun p q => p.1 < q.1) → ∀ p, p ∈ l → valG a l p.1 = p.2
  | [], _, _, p, hp => by simp at hp
  | q :: l, a, h, p, hp => by
    rw [List.pairwise_cons] at h
    rcases List.mem_cons.1 hp with rfl | hp
    · rw [valG, if_pos (Int.le_refl _)]
      exact valG_gt l _ _ h.1
    · rw [valG, valG_mem h.2 p hp]

theorem valG_money : ∀ (l : Pts) (a x : Int), money a = true → (∀ p, p ∈ l → money p.2 = true) → money (valG a l x) = true
  | [], _, _, h, _ => h
  | p :: l, a, x, h, hl => by
    rw [valG]
    refine valG_money l _ x ?_ fun q hq => hl q (by simp [hq])
    split
    · exact hl p (by simp)
    · exact h

theorem cmpr_sub : ∀ {l : Pts} {a : Int} {p : Int × Int}, p ∈ cmpr a l → p ∈ l
  | [], _, _, h => h
  | q :: l, a, p, h => by
    rw [cmpr] at h
    split at h
    · rcases List.mem_cons.1 h with rfl | h
      · simp
      · exact List.mem_cons_of_mem _ (cmpr_sub h)
    · exact List.mem_cons_of_mem _ (cmpr_sub h)

theorem cmpr_right : ∀ {l : Pts} {d0 v0 : Int}, (l.Pairwise fun p q => p.1 < q.1 ∨ p = q) → (∀ p, p ∈ l → d0 < p.1 ∨ p = (d0, v0)) → (∀ p, p ∈ l → money p.2 = true) → rightG d0 v0 (cmpr v0 l) = true
  | [], _, _, _, _, _ => rfl
  | p :: l, d0, v0, hl, h1, h2 => by
    rw [List.pairwise_cons] at hl
    rw [cmpr]
    split
    · rename_i hk
      refine rightG_cons.2 ⟨?_, hk.2, hk.1, h2 p (by simp), cmpr_right hl.2 (fun q hq => ?_) fun q hq => h2 q (by simp [hq])⟩
      · rcases h1 p (by simp) with h | h
        · exact h
        · exact absurd (by rw [h]) hk.1
      · rcases hl.1 q hq with h | h
        · exact .inl h
        · exact .inr h.symm
    · exact cmpr_right hl.2 (fun q hq => h1 q (by simp [hq])) fun q hq => h2 q (by simp [hq])

theorem cmpr_val : ∀ {l : Pts} {a x : Int}, (l.Pairwise fun p q => p.1 ≤ q.1) → x ≤ 292194 → valG a (cmpr a l) x = valG a l x
  | [], _, _, _, _ => rfl
  | p :: l, a, x, hl, hx => by
    rw [List.pairwise_cons] at hl
    rw [cmpr, valG]
    split
    · rw [valG]
      by_cases h : p.1 ≤ x
      · rw [if_pos h, cmpr_val hl.2 hx]
      · rw [if_neg h, valG_gt _ _ _ fun q hq => ?_, valG_gt _ _ _ fun q hq => ?_]
        · have := hl.1 q hq; omega
        · have := hl.1 q (cmpr_sub hq); omega
    · rename_i hk
      rw [cmpr_val hl.2 hx]
      congr 1
      by_cases h : p.1 ≤ x
      · rw [if_pos h]
        by_cases h2 : p.2 = a
        · exact h2.symm
        · exact absurd ⟨h2, by omega⟩ hk
      · rw [if_neg h]

theorem cmpr_self : ∀ {l : Pts} {d0 v0 : Int}, rightG d0 v0 l = true → cmpr v0 l = l
  | [], _, _, _ => rfl
  | p :: l, d0, v0, h => by
    obtain ⟨h1, h2, h3, h4, h5⟩ := rightG_cons.1 h
    rw [cmpr, if_pos ⟨h3, h2⟩, cmpr_self h5]

/-- The values on all days tell a right step. -/
theorem right_uniq : ∀ {l m : Pts} {d0 v0 : Int}, rightG d0 v0 l = true → rightG d0 v0 m = true → (∀ x, d0 < x → x ≤ 292194 → valG v0 l x = valG v0 m x) → l = m
  | [], [], _, _, _, _, _ => rfl
  | [], q :: m, d0, v0, _, h, e => by
    obtain ⟨h1, h2, h3, h4, h5⟩ := rightG_cons.1 h
    have := e q.1 h1 h2
    rw [valG_mem (right_lt h) q (by simp)] at this
    exact absurd this.symm h3
  | p :: l, [], d0, v0, h, _, e => by
    obtain ⟨h1, h2, h3, h4, h5⟩ := rightG_cons.1 h
    have := e p.1 h1 h2
    rw [valG_mem (right_lt h) p (by simp)] at this
    exact absurd this h3
  | p :: l, q :: m, d0, v0, h, k, e => by
    obtain ⟨h1, h2, h3, h4, h5⟩ := rightG_cons.1 h
    obtain ⟨k1, k2, k3, k4, k5⟩ := rightG_cons.1 k
    have hpq : p.1 = q.1 := by
      rcases Int.lt_trichotomy p.1 q.1 with hlt | heq | hlt
      · have := e p.1 h1 h2
        rw [valG_mem (right_lt h) p (by simp), valG_gt (q :: m) v0 p.1 fun r hr => ?_] at this
        · exact absurd this h3
        · rcases List.mem_cons.1 hr with rfl | hr
          · exact hlt
          · have := (right_mem k5 r hr).1; omega
      · exact heq
      · have := e q.1 k1 k2
        rw [valG_mem (right_lt k) q (by simp), valG_gt (p :: l) v0 q.1 fun r hr => ?_] at this
        · exact absurd this.symm k3
        · rcases List.mem_cons.1 hr with rfl | hr
          · exact hlt
          · have := (right_mem h5 r hr).1; omega
    have hv : p.2 = q.2 := by
      have := e p.1 h1 h2
      rw [valG_mem (right_lt h) p (by simp), hpq, valG_mem (right_lt k) q (by simp)] at this
      exact this
    have hp : p = q := Prod.ext hpq hv
    subst hp
    congr 1
    refine right_uniq h5 k5 fun x hx hx2 => ?_
    have := e x (by omega) hx2
    rwa [valG, valG, if_pos (by omega)] at this

/-! ### Out of values on some days -/

def ptsOf (g : Int → Int) (ds : List Int) : Pts := ds.map fun d => (d, g d)

theorem pts_val (g : Int → Int) (x : Int) : ∀ (ds : List Int) (a : Int), (ds.Pairwise fun p q => p ≤ q) → (∀ d, d ∈ ds → d ≤ x → (∀ e, e ∈ ds → ¬ (d < e ∧ e ≤ x)) → g d = g x) →
    (∃ d, d ∈ ds ∧ d ≤ x) → valG a (ptsOf g ds) x = g x := by
  have main : ∀ (ds : List Int) (a : Int), (ds.Pairwise fun p q => p ≤ q) → (∀ d, d ∈ ds → d ≤ x → (∀ e, e ∈ ds → ¬ (d < e ∧ e ≤ x)) → g d = g x) →
      ((∃ d, d ∈ ds ∧ d ≤ x) ∧ valG a (ptsOf g ds) x = g x) ∨ ((∀ d, d ∈ ds → x < d) ∧ valG a (ptsOf g ds) x = a) := by
    intro ds
    induction ds with
    | nil => intro a _ _; exact .inr ⟨by simp, rfl⟩
    | cons d ds ih =>
      intro a hp h
      rw [List.pairwise_cons] at hp
      have hs : ∀ e, e ∈ ds → e ≤ x → (∀ e', e' ∈ ds → ¬ (e < e' ∧ e' ≤ x)) → g e = g x := fun e he hex hn => h e (by simp [he]) hex fun e' he' => by
        rcases List.mem_cons.1 he' with rfl | he'
        · have := hp.1 e he; omega
        · exact hn e' he'
      show _ ∨ (_ ∧ valG (if d ≤ x then g d else a) (ptsOf g ds) x = a)
      by_cases hd : d ≤ x
      · refine .inl ⟨⟨d, by simp, hd⟩, ?_⟩
        show valG (if d ≤ x then g d else a) (ptsOf g ds) x = g x
        rw [if_pos hd]
        rcases ih (g d) hp.2 hs with ⟨-, h1⟩ | ⟨h1, h2⟩
        · exact h1
        · rw [h2]
          refine h d (by simp) hd fun e he => ?_
          rcases List.mem_cons.1 he with rfl | he
          · omega
          · have := h1 e he; omega
      · refine .inr ⟨fun e he => ?_, ?_⟩
        · rcases List.mem_cons.1 he with rfl | he
          · omega
          · have := hp.1 e he; omega
        · rw [if_neg hd]
          exact valG_gt _ _ _ fun q hq => by
            obtain ⟨e, he, rfl⟩ := List.mem_map.1 hq
            have := hp.1 e he
            show x < e
            omega
  intro ds a hp h hx
  obtain ⟨d, hd, hdx⟩ := hx
  rcases main ds a hp h with ⟨-, h1⟩ | ⟨h1, -⟩
  · exact h1
  · have := h1 d hd; omega

theorem pts_lin {g : Int → Int} {ds : List Int} (hp : ds.Pairwise fun p q => p ≤ q) : (ptsOf g ds).Pairwise fun p q => p.1 < q.1 ∨ p = q := by
  refine List.Pairwise.map _ ?_ hp
  intro a b hab
  by_cases h : a = b
  · subst h; exact .inr rfl
  · exact .inl (by show a < b; omega)

/-- The step that has the values g, which change on the days ds at most. -/
theorem built {g : Int → Int} {ds : List Int} (hp : ds.Pairwise fun p q => p ≤ q) (h1 : ∀ d, d ∈ ds → 0 < d) (hm : ∀ d, d ∈ ds → money (g d) = true) :
    rightG 0 0 (cmpr 0 (ptsOf g ds)) = true :=
  cmpr_right (pts_lin hp) (fun p hp => by obtain ⟨d, hd, rfl⟩ := List.mem_map.1 hp; exact .inl (h1 d hd)) fun p hp => by obtain ⟨d, hd, rfl⟩ := List.mem_map.1 hp; exact hm d hd

theorem built_val {g : Int → Int} {ds : List Int} {x : Int} (hp : ds.Pairwise fun p q => p ≤ q) (hx : x ≤ 292194)
    (h : ∀ d, d ∈ ds → d ≤ x → (∀ e, e ∈ ds → ¬ (d < e ∧ e ≤ x)) → g d = g x) (h0 : (∀ d, d ∈ ds → x < d) → g x = 0) : valG 0 (cmpr 0 (ptsOf g ds)) x = g x := by
  rw [cmpr_val _ hx]
  · by_cases hc : ∃ d, d ∈ ds ∧ d ≤ x
    · exact pts_val g x ds 0 hp h hc
    · have hc' : ∀ d, d ∈ ds → x < d := fun d hd => by
        by_cases hdx : d ≤ x
        · exact absurd ⟨d, hd, hdx⟩ hc
        · omega
      rw [h0 hc']
      exact valG_gt _ _ _ fun q hq => by obtain ⟨e, he, rfl⟩ := List.mem_map.1 hq; exact hc' e he
  · exact (pts_lin hp).imp fun h => by (rcases h with h | h); (· omega); (subst h; omega)

/-- A value on some days. -/
def setG (f : Pts) (a b v x : Int) : Int := if a ≤ x ∧ x < b then v else valG 0 f x

def setL (f : Pts) (a b v : Int) : Pts := cmpr 0 (ptsOf (setG f a b v) ((f.map Prod.fst ++ [a, b]).mergeSort fun x y => decide (x ≤ y)))

theorem sorted_ms (l : List Int) : (l.mergeSort fun x y => decide (x ≤ y)).Pairwise fun p q => p ≤ q := by
  have := List.pairwise_mergeSort (le := fun x y : Int => decide (x ≤ y)) (fun a b c => by simp; omega) (fun a b => by simp; omega) l
  exact this.imp fun h => by simpa using h

theorem setL_right {f : Pts} {a b v : Int} (hf : rightG 0 0 f = true) (ha : 1 ≤ a) (hab : a < b) (hv : money v = true) : rightG 0 0 (setL f a b v) = true := by
  refine built (sorted_ms _) (fun d hd => ?_) fun d _ => ?_
  · rw [List.mem_mergeSort] at hd
    simp only [List.mem_append, List.mem_map, List.mem_cons, List.not_mem_nil, or_false] at hd
    rcases hd with ⟨p, hp, rfl⟩ | rfl | rfl
    · exact (right_mem hf p hp).1
    · omega
    · omega
  · unfold setG
    split
    · exact hv
    · exact valG_money f 0 d rfl fun p hp => (right_mem hf p hp).2.2

theorem setL_val {f : Pts} {a b v x : Int} (hf : rightG 0 0 f = true) (hab : a < b) (hx : x ≤ 292194) : valG 0 (setL f a b v) x = setG f a b v x := by
  refine built_val (sorted_ms _) hx (fun d hd hdx hn => ?_) fun hn => ?_
  · have ha := hn a (by simp)
    have hb := hn b (by simp)
    have hfd : valG 0 f d = valG 0 f x := valG_steady f 0 d x hdx fun p hp => hn p.1 (by simp; exact .inl ⟨p.2, hp⟩)
    unfold setG
    by_cases h1 : a ≤ d ∧ d < b
    · rw [if_pos h1, if_pos (by omega)]
    · rw [if_neg h1, if_neg (by omega)]
      exact hfd
  · have ha := hn a (by simp)
    unfold setG
    rw [if_neg (by omega)]
    exact valG_gt f 0 x fun p hp => hn p.1 (by simp; exact .inl ⟨p.2, hp⟩)

/-- What the document's answer goes through. -/
def setP (f : Pts) (a b v : Int) : Pts := f.filter (fun p => decide (p.1 < a)) ++ ((a, v) :: (b, valG 0 f b) :: f.filter fun p => decide (b < p.1))

theorem setP_pts {f : Pts} {a b v : Int} (hf : rightG 0 0 f = true) (hab : a < b) : setP f a b v = ptsOf (setG f a b v) ((setP f a b v).map Prod.fst) := by
  unfold ptsOf
  rw [List.map_map]
  conv => lhs; rw [← List.map_id (setP f a b v)]
  refine List.map_congr_left fun p hp => ?_
  simp only [setP, List.mem_append, List.mem_filter, List.mem_cons, decide_eq_true_eq] at hp
  have key : ∀ p : Int × Int, p ∈ f → ¬ (a ≤ p.1 ∧ p.1 < b) → p = (p.1, setG f a b v p.1) := fun p hp hn => by
    rw [setG, if_neg hn, valG_mem (right_lt hf) p hp]
  show p = (p.1, setG f a b v p.1)
  rcases hp with ⟨h1, h2⟩ | rfl | rfl | ⟨h1, h2⟩
  · exact key p h1 (by omega)
  · show (a, v) = (a, setG f a b v a)
    rw [setG, if_pos (by omega)]
  · show (b, valG 0 f b) = (b, setG f a b v b)
    rw [setG, if_neg (by omega)]
  · exact key p h1 (by omega)

theorem setP_sorted {f : Pts} {a b v : Int} (hf : rightG 0 0 f = true) (hab : a < b) : ((setP f a b v).map Prod.fst).Pairwise fun p q => p ≤ q := by
  refine List.Pairwise.map _ (R := fun p q : Int × Int => p.1 < q.1) (fun p q h => by omega) ?_
  have h1 := (right_lt hf).filter (fun p => decide (p.1 < a))
  have h2 := (right_lt hf).filter (fun p => decide (b < p.1))
  unfold setP
  refine List.pairwise_append.2 ⟨h1, List.pairwise_cons.2 ⟨?_, List.pairwise_cons.2 ⟨?_, h2⟩⟩, ?_⟩
  · intro q hq
    rcases List.mem_cons.1 hq with rfl | hq
    · exact hab
    · have := (List.mem_filter.1 hq).2
      simp only [decide_eq_true_eq] at this
      show a < q.1
      omega
  · intro q hq
    have := (List.mem_filter.1 hq).2
    simp only [decide_eq_true_eq] at this
    exact this
  · intro p hp q hq
    have hp := (List.mem_filter.1 hp).2
    simp only [decide_eq_true_eq] at hp
    rcases List.mem_cons.1 hq with rfl | hq
    · exact hp
    rcases List.mem_cons.1 hq with rfl | hq
    · show p.1 < b
      omega
    · have := (List.mem_filter.1 hq).2
      simp only [decide_eq_true_eq] at this
      omega

theorem setP_eq {f : Pts} {a b v : Int} (hf : rightG 0 0 f = true) (ha : 1 ≤ a) (hab : a < b) (hv : money v = true) : cmpr 0 (setP f a b v) = setL f a b v := by
  have hs := setP_sorted (v := v) hf hab
  have hp := setP_pts (v := v) hf hab
  have hmem : ∀ p, p ∈ f → ¬ (a ≤ p.1 ∧ p.1 ≤ b) → p.1 ∈ (setP f a b v).map Prod.fst := fun p hp hn => by
    refine List.mem_map.2 ⟨p, ?_, rfl⟩
    simp only [setP, List.mem_append, List.mem_filter, List.mem_cons, decide_eq_true_eq]
    by_cases h1 : p.1 < a
    · exact .inl ⟨hp, h1⟩
    · exact .inr (.inr (.inr ⟨hp, by omega⟩))
  have ma : a ∈ (setP f a b v).map Prod.fst := by simp [setP]
  have mb : b ∈ (setP f a b v).map Prod.fst := by simp [setP]
  refine right_uniq ?_ (setL_right hf ha hab hv) fun x h0 hx => ?_
  · rw [hp]
    refine built hs (fun d hd => ?_) fun d _ => ?_
    · obtain ⟨p, hp, rfl⟩ := List.mem_map.1 hd
      simp only [setP, List.mem_append, List.mem_filter, List.mem_cons, decide_eq_true_eq] at hp
      rcases hp with ⟨h1, h2⟩ | rfl | rfl | ⟨h1, h2⟩
      · exact (right_mem hf p h1).1
      · show 0 < a; omega
      · show 0 < b; omega
      · exact (right_mem hf p h1).1
    · unfold setG
      split
      · exact hv
      · exact valG_money f 0 d rfl fun p hp => (right_mem hf p hp).2.2
  · rw [setL_val hf hab hx, hp]
    refine built_val hs hx (fun d hd hdx hn => ?_) fun hn => ?_
    · have ha := hn a ma
      have hb := hn b mb
      unfold setG
      by_cases h1 : a ≤ d ∧ d < b
      · rw [if_pos h1, if_pos (by omega)]
      · rw [if_neg h1, if_neg (by omega)]
        refine valG_steady f 0 d x hdx fun p hp hpx => ?_
        by_cases h2 : a ≤ p.1 ∧ p.1 ≤ b
        · omega
        · exact hn p.1 (hmem p hp h2) hpx
    · have ha := hn a ma
      unfold setG
      rw [if_neg (by omega)]
      refine valG_gt f 0 x fun p hp => ?_
      by_cases h2 : a ≤ p.1 ∧ p.1 ≤ b
      · omega
      · exact hn p.1 (hmem p hp h2)
end Go.Proofs.Ytjplhfmakghabaa.V
namespace Go.Proofs.Ytjplhfmakghabaa.V

def lastV (l : Pts) : Int := (l.getLast?.map Prod.snd).getD 0
def withP (out : Pts) (p : Int × Int) : Pts := if p.2 ≠ lastV out ∧ p.1 ≤ 292194 then out ++ [p] else out

theorem lastV_snoc (l : Pts) (p : Int × Int) : lastV (l ++ [p]) = p.2 := by simp [lastV]

theorem foldl_with : ∀ (l out : Pts), l.foldl withP out = out ++ cmpr (lastV out) l
  | [], out => by simp [cmpr]
  | p :: l, out => by
    rw [List.foldl_cons, foldl_with l, cmpr, withP]
    split
    · rw [lastV_snoc, List.append_assoc]; rfl
    · rfl

theorem cmpr_foldl (l : Pts) : cmpr 0 l = l.foldl withP [] := by rw [foldl_with]; rfl
theorem cmpr_snoc (l : Pts) (p : Int × Int) : cmpr 0 (l ++ [p]) = withP (cmpr 0 l) p := by rw [cmpr_foldl, cmpr_foldl, List.foldl_append]; rfl
theorem cmpr_app (l m : Pts) : cmpr 0 (l ++ m) = m.foldl withP (cmpr 0 l) := by rw [cmpr_foldl, cmpr_foldl, List.foldl_append]
theorem cmpr_take {l : Pts} {i : Nat} {p : Int × Int} (h : l[i]? = some p) : cmpr 0 (l.take (i + 1)) = withP (cmpr 0 (l.take i)) p := by
  rw [List.take_add_one, h, ← cmpr_snoc]; rfl

/-! ### Two together -/

def mg : Pts → Pts → Int → Int → Pts
  | [], [], _, _ => []
  | p :: l, [], _, b => (p.1, p.2 + b) :: mg l [] p.2 b
  | [], q :: m, a, _ => (q.1, a + q.2) :: mg [] m a q.2
  | p :: l, q :: m, a, b => if p.1 < q.1 then (p.1, p.2 + b) :: mg l (q :: m) p.2 b else if q.1 < p.1 then (q.1, a + q.2) :: mg (p :: l) m a q.2 else (p.1, p.2 + q.2) :: mg l m p.2 q.2
termination_by l m => l.length + m.length

theorem mg_mem : ∀ (l m : Pts) (a b : Int), (∀ r, r ∈ mg l m a b → r.1 ∈ l.map Prod.fst ∨ r.1 ∈ m.map Prod.fst) ∧ (∀ d, d ∈ l.map Prod.fst ∨ d ∈ m.map Prod.fst → d ∈ (mg l m a b).map Prod.fst) := by
  intro l m a b
  induction l, m, a, b using mg.induct with
  | case1 => simp [mg]
  | case2 p l a b ih =>
    rw [mg]
    refine ⟨fun r hr => ?_, fun d hd => ?_⟩
    · rcases List.mem_cons.1 hr with rfl | hr
      · simp
      · have := ih.1 r hr; simp at this ⊢; grind
    · have := ih.2 d
      simp at this hd ⊢; rcases hd with rfl | ⟨y, hy⟩
      · simp
      · exact .inr (this y hy)
  | case3 q m a b ih =>
    rw [mg]
    refine ⟨fun r hr => ?_, fun d hd => ?_⟩
    · rcases List.mem_cons.1 hr with rfl | hr
      · simp
      · have := ih.1 r hr; simp at this ⊢; grind
    · have := ih.2 d
      simp at this hd ⊢; rcases hd with rfl | ⟨y, hy⟩
      · simp
      · exact .inr (this y hy)
  | case4 p l q m a b h ih =>
    rw [mg, if_pos h]
    refine ⟨fun r hr => ?_, fun d hd => ?_⟩
    · rcases List.mem_cons.1 hr with rfl | hr
      · simp
      · have := ih.1 r hr; simp only [List.map_cons, List.mem_cons] at this ⊢; grind
    · have := ih.2 d
      simp only [List.map_cons, List.mem_cons] at this hd ⊢; grind
  | case5 p l q m a b h h2 ih =>
    rw [mg, if_neg h, if_pos h2]
    refine ⟨fun r hr => ?_, fun d hd => ?_⟩
    · rcases List.mem_cons.1 hr with rfl | hr
      · simp
      · have := ih.1 r hr; simp only [List.map_cons, List.mem_cons] at this ⊢; grind
    · have := ih.2 d
      simp only [List.map_cons, List.mem_cons] at this hd ⊢; grind
  | case6 p l q m a b h h2 ih =>
    rw [mg, if_neg h, if_neg h2]
    have hpq : q.1 = p.1 := by omega
    refine ⟨fun r hr => ?_, fun d hd => ?_⟩
    · rcases List.mem_cons.1 hr with rfl | hr
      · simp
      · have := ih.1 r hr; simp only [List.map_cons, List.mem_cons] at this ⊢; grind
    · have := ih.2 d
      simp only [List.map_cons, List.mem_cons, hpq] at this hd ⊢; grind

abbrev LtP (l : Pts) : Prop := l.Pairwise fun p q => p.1 < q.1

theorem LtP.gt {p : Int × Int} {l : Pts} (h : LtP (p :: l)) {d : Int} (hd : d ∈ l.map Prod.fst) : p.1 < d := by
  obtain ⟨q, hq, rfl⟩ := List.mem_map.1 hd
  exact (List.pairwise_cons.1 h).1 q hq
theorem LtP.tail {p : Int × Int} {l : Pts} (h : LtP (p :: l)) : LtP l := (List.pairwise_cons.1 h).2
theorem LtP.val {p : Int × Int} {l : Pts} (h : LtP (p :: l)) {a x : Int} (hx : x ≤ p.1) : valG a l x = a := valG_gt l a x fun q hq => by have := (List.pairwise_cons.1 h).1 q hq; omega

theorem mg_ok : ∀ (l m : Pts) (a b : Int), LtP l → LtP m → LtP (mg l m a b) ∧ ∀ x, valG (a + b) (mg l m a b) x = valG a l x + valG b m x := by
  intro l m a b
  induction l, m, a, b using mg.induct with
  | case1 a b => intro _ _; rw [mg]; exact ⟨.nil, fun _ => rfl⟩
  | case2 p l a b ih =>
    intro hl hm
    obtain ⟨i1, i2⟩ := ih hl.tail hm
    have hg : ∀ r, r ∈ mg l [] p.2 b → p.1 < r.1 := fun r hr => by
      rcases (mg_mem l [] p.2 b).1 r hr with h | h
      · exact hl.gt h
      · simp at h
    rw [mg]
    refine ⟨List.pairwise_cons.2 ⟨hg, i1⟩, fun x => ?_⟩
    show valG (if p.1 ≤ x then p.2 + b else a + b) _ x = valG (if p.1 ≤ x then p.2 else a) l x + b
    by_cases hx : p.1 ≤ x
    · rw [if_pos hx, if_pos hx, i2]; rfl
    · rw [if_neg hx, if_neg hx, valG_gt _ _ _ fun r hr => by have := hg r hr; omega, hl.val (by omega)]
  | case3 q m a b ih =>
    intro hl hm
    obtain ⟨i1, i2⟩ := ih hl hm.tail
    have hg : ∀ r, r ∈ mg [] m a q.2 → q.1 < r.1 := fun r hr => by
      rcases (mg_mem [] m a q.2).1 r hr with h | h
      · simp at h
      · exact hm.gt h
    rw [mg]
    refine ⟨List.pairwise_cons.2 ⟨hg, i1⟩, fun x => ?_⟩
    rw [valG, valG, valG]
    by_cases hx : q.1 ≤ x
    · rw [if_pos hx, if_pos hx, i2]; rfl
    · rw [if_neg hx, if_neg hx, valG_gt _ _ _ fun r hr => by have := hg r hr; omega, hm.val (by omega)]
  | case4 p l q m a b h ih =>
    intro hl hm
    obtain ⟨i1, i2⟩ := ih hl.tail hm
    have hg : ∀ r, r ∈ mg l (q :: m) p.2 b → p.1 < r.1 := fun r hr => by
      rcases (mg_mem l (q :: m) p.2 b).1 r hr with h' | h'
      · exact hl.gt h'
      · rcases List.mem_cons.1 h' with h' | h'
        · omega
        · have := hm.gt h'; omega
    rw [mg, if_pos h]
    refine ⟨List.pairwise_cons.2 ⟨hg, i1⟩, fun x => ?_⟩
    rw [valG, valG]
    by_cases hx : p.1 ≤ x
    · rw [if_pos hx, if_pos hx, i2]
    · rw [if_neg hx, if_neg hx, valG_gt _ _ _ fun r hr => by have := hg r hr; omega, hl.val (by omega), valG, if_neg (by omega), hm.val (by omega)]
  | case5 p l q m a b h h2 ih =>
    intro hl hm
    obtain ⟨i1, i2⟩ := ih hl hm.tail
    have hg : ∀ r, r ∈ mg (p :: l) m a q.2 → q.1 < r.1 := fun r hr => by
      rcases (mg_mem (p :: l) m a q.2).1 r hr with h' | h'
      · rcases List.mem_cons.1 h' with h' | h'
        · omega
        · have := hl.gt h'; omega
      · exact hm.gt h'
    rw [mg, if_neg h, if_pos h2]
    refine ⟨List.pairwise_cons.2 ⟨hg, i1⟩, fun x => ?_⟩
    show valG (if q.1 ≤ x then a + q.2 else a + b) _ x = valG a (p :: l) x + valG (if q.1 ≤ x then q.2 else b) m x
    by_cases hx : q.1 ≤ x
    · rw [if_pos hx, if_pos hx, i2]
    · rw [if_neg hx, if_neg hx, valG_gt _ _ _ fun r hr => by have := hg r hr; omega, hm.val (by omega), valG, if_neg (by omega), hl.val (by omega)]
  | case6 p l q m a b h h2 ih =>
    intro hl hm
    obtain ⟨i1, i2⟩ := ih hl.tail hm.tail
    have hg : ∀ r, r ∈ mg l m p.2 q.2 → p.1 < r.1 := fun r hr => by
      rcases (mg_mem l m p.2 q.2).1 r hr with h' | h'
      · exact hl.gt h'
      · have := hm.gt h'; omega
    rw [mg, if_neg h, if_neg h2]
    refine ⟨List.pairwise_cons.2 ⟨hg, i1⟩, fun x => ?_⟩
    rw [valG, valG, valG]
    by_cases hx : p.1 ≤ x
    · rw [if_pos hx, if_pos hx, if_pos (by omega), i2]
    · rw [if_neg hx, if_neg hx, if_neg (by omega), valG_gt _ _ _ fun r hr => by have := hg r hr; omega, hl.val (by omega), hm.val (by omega)]

def addG (f g : Pts) (x : Int) : Int := valG 0 f x + valG 0 g x
def addOK (f g : Pts) : Bool := (f.map Prod.fst ++ g.map Prod.fst).all fun d => money (addG f g d)
def addL (f g : Pts) : Pts := cmpr 0 (ptsOf (addG f g) ((f.map Prod.fst ++ g.map Prod.fst).mergeSort fun x y => decide (x ≤ y)))

theorem addOK_iff {f g : Pts} : addOK f g = true ↔ ∀ d, (d ∈ f.map Prod.fst ∨ d ∈ g.map Prod.fst) → money (addG f g d) = true := by
  simp only [addOK, List.all_eq_true, List.mem_append]

theorem addL_right {f g : Pts} (hf : rightG 0 0 f = true) (hg : rightG 0 0 g = true) (h : addOK f g = true) : rightG 0 0 (addL f g) = true := by
  rw [addOK_iff] at h
  refine built (sorted_ms _) (fun d hd => ?_) fun d hd => ?_
  · rw [List.mem_mergeSort, List.mem_append] at hd
    rcases hd with hd | hd
    · obtain ⟨p, hp, rfl⟩ := List.mem_map.1 hd; exact (right_mem hf p hp).1
    · obtain ⟨p, hp, rfl⟩ := List.mem_map.1 hd; exact (right_mem hg p hp).1
  · rw [List.mem_mergeSort, List.mem_append] at hd
    exact h d hd

theorem addL_val {f g : Pts} {x : Int} (hx : x ≤ 292194) : valG 0 (addL f g) x = addG f g x := by
  refine built_val (sorted_ms _) hx (fun d hd hdx hn => ?_) fun hn => ?_
  · unfold addG
    rw [valG_steady f 0 d x hdx fun p hp => hn p.1 (by simp; exact .inl ⟨p.2, hp⟩), valG_steady g 0 d x hdx fun p hp => hn p.1 (by simp; exact .inr ⟨p.2, hp⟩)]
  · unfold addG
    rw [valG_gt f 0 x fun p hp => hn p.1 (by simp; exact .inl ⟨p.2, hp⟩), valG_gt g 0 x fun p hp => hn p.1 (by simp; exact .inr ⟨p.2, hp⟩)]; rfl

theorem mg_pts {f g : Pts} (hf : LtP f) (hg : LtP g) : mg f g 0 0 = ptsOf (addG f g) ((mg f g 0 0).map Prod.fst) := by
  obtain ⟨h1, h2⟩ := mg_ok f g 0 0 hf hg
  unfold ptsOf
  rw [List.map_map]
  conv => lhs; rw [← List.map_id (mg f g 0 0)]
  refine List.map_congr_left fun p hp => ?_
  have := h2 p.1
  rw [show (0 : Int) + 0 = 0 from rfl, valG_mem h1 p hp] at this
  show p = (p.1, addG f g p.1)
  rw [addG, ← this]

theorem mg_addOK {f g : Pts} (hf : LtP f) (hg : LtP g) : ((mg f g 0 0).all fun p => money p.2) = addOK f g := by
  have hp := mg_pts hf hg
  obtain ⟨m1, m2⟩ := mg_mem f g 0 0
  rw [Bool.eq_iff_iff, List.all_eq_true, addOK_iff]
  constructor
  · intro h d hd
    obtain ⟨p, hp1, rfl⟩ := List.mem_map.1 (m2 d hd)
    have e := h p hp1
    rw [hp] at hp1
    obtain ⟨d', -, rfl⟩ := List.mem_map.1 hp1
    exact e
  · intro h p hp1
    have e := h p.1 (m1 p hp1)
    rw [hp] at hp1
    obtain ⟨d', -, rfl⟩ := List.mem_map.1 hp1
    exact e

theorem mg_eq {f g : Pts} (hf : rightG 0 0 f = true) (hg : rightG 0 0 g = true) (h : addOK f g = true) : cmpr 0 (mg f g 0 0) = addL f g := by
  have lf := right_lt hf
  have lg := right_lt hg
  have hp := mg_pts lf lg
  obtain ⟨m1, m2⟩ := mg_mem f g 0 0
  obtain ⟨k1, k2⟩ := mg_ok f g 0 0 lf lg
  refine right_uniq ?_ (addL_right hf hg h) fun x h0 hx => ?_
  · refine cmpr_right (k1.imp fun h => .inl h) (fun p hp => .inl ?_) fun p hp1 => ?_
    · rcases m1 p hp with h | h
      · obtain ⟨q, hq, e⟩ := List.mem_map.1 h; rw [← e]; exact (right_mem hf q hq).1
      · obtain ⟨q, hq, e⟩ := List.mem_map.1 h; rw [← e]; exact (right_mem hg q hq).1
    · have := mg_addOK lf lg
      rw [h, List.all_eq_true] at this
      exact this p hp1
  · rw [addL_val hx, cmpr_val (k1.imp fun h => by omega) hx]
    exact k2 x

theorem addL_comm {f g : Pts} (hf : rightG 0 0 f = true) (hg : rightG 0 0 g = true) : addOK f g = addOK g f ∧ (addOK f g = true → addL f g = addL g f) := by
  have hc : ∀ x, addG f g x = addG g f x := fun x => Int.add_comm _ _
  have h1 : addOK f g = addOK g f := by
    rw [Bool.eq_iff_iff, addOK_iff, addOK_iff]
    constructor
    · intro h d hd; rw [← hc]; exact h d hd.symm
    · intro h d hd; rw [hc]; exact h d hd.symm
  refine ⟨h1, fun h => right_uniq (addL_right hf hg h) (addL_right hg hf (h1 ▸ h)) fun x _ hx => ?_⟩
  rw [addL_val hx, addL_val hx, hc]

theorem addL_nil {f : Pts} (hf : rightG 0 0 f = true) : addOK f [] = true ∧ addL f [] = f := by
  have h0 : addOK f [] = true := addOK_iff.2 fun d hd => by
    unfold addG
    rw [show valG 0 [] d = 0 from rfl, Int.add_zero]
    exact valG_money f 0 d rfl fun p hp => (right_mem hf p hp).2.2
  refine ⟨h0, right_uniq (addL_right hf rfl h0) hf fun x _ hx => ?_⟩
  rw [addL_val hx]; exact Int.add_zero _

def neg (f : Pts) : Pts := f.map fun p => (p.1, -p.2)
theorem neg_val : ∀ (f : Pts) (a x : Int), valG (-a) (neg f) x = - valG a f x
  | [], _, _ => rfl
  | p :: f, a, x => by
    show valG (if p.1 ≤ x then -p.2 else -a) (neg f) x = - valG (if p.1 ≤ x then p.2 else a) f x
    rw [← neg_val f]
    congr 1
    split <;> rfl
theorem neg_right : ∀ {f : Pts} {d0 v0 : Int}, rightG d0 v0 f = true → rightG d0 (-v0) (neg f) = true
  | [], _, _, _ => rfl
  | p :: f, d0, v0, h => by
    obtain ⟨h1, h2, h3, h4, h5⟩ := rightG_cons.1 h
    refine rightG_cons.2 ⟨h1, h2, ?_, ?_, neg_right h5⟩
    · show -p.2 ≠ -v0; omega
    · rw [money_iff] at h4 ⊢; show _ ≤ -p.2 ∧ -p.2 ≤ _; omega

theorem addL_neg {f : Pts} (hf : rightG 0 0 f = true) : addOK f (neg f) = true ∧ addL f (neg f) = [] := by
  have hz : ∀ x, addG f (neg f) x = 0 := fun x => by
    unfold addG
    rw [show valG 0 (neg f) x = - valG 0 f x from neg_val f 0 x]; omega
  have h0 : addOK f (neg f) = true := addOK_iff.2 fun d hd => by rw [hz]; rfl
  refine ⟨h0, right_uniq (addL_right hf (neg_right hf) h0) (m := []) rfl fun x _ hx => ?_⟩
  rw [addL_val hx, hz]; rfl

/-! ### Pieces -/

def pcs (b : Int) : Int → Int → Pts → List (Int × Int × Int)
  | a, v, [] => [(a, b, v)]
  | a, v, p :: l => if a < p.1 ∧ p.1 < b then (a, p.1, v) :: pcs b p.1 p.2 l else pcs b a v l

/-- Pieces on end, on each of which h is one value, unlike its neighbour's. -/
def Cont (h : Int → Int) (b : Int) : Int → List (Int × Int × Int) → Prop
  | a, [] => a = b
  | a, q :: l => q.1 = a ∧ a < q.2.1 ∧ q.2.1 ≤ b ∧ (∀ x, a ≤ x → x < q.2.1 → h x = q.2.2) ∧ Cont h b q.2.1 l

theorem pcs_cont {h : Int → Int} {b : Int} : ∀ (l : Pts) (a v : Int), a < b → LtP l → (∀ p, p ∈ l → a < p.1) → (∀ x, a ≤ x → x < b → h x = valG v l x) → Cont h b a (pcs b a v l)
  | [], a, v, hab, _, _, hh => ⟨rfl, hab, Int.le_refl _, hh, rfl⟩
  | p :: l, a, v, hab, hl, hg, hh => by
    have h1 := hg p (by simp)
    rw [pcs]
    by_cases h2 : p.1 < b
    · rw [if_pos ⟨h1, h2⟩]
      refine ⟨rfl, h1, by show p.1 ≤ b; omega, fun x hx hxp => ?_, pcs_cont l p.1 p.2 h2 hl.tail (fun q hq => (List.pairwise_cons.1 hl).1 q hq) fun x hx hxb => ?_⟩
      · have hxp : x < p.1 := hxp
        rw [hh x hx (by omega), valG, if_neg (by omega), hl.val (by omega)]
      · rw [hh x (by omega) hxb, valG, if_pos hx]
    · rw [if_neg (by omega)]
      refine pcs_cont l a v hab hl.tail (fun q hq => hg q (by simp [hq])) fun x hx hxb => ?_
      rw [hh x hx hxb, valG, if_neg (by omega)]

theorem pcs_skip {b a v : Int} : ∀ (l : Pts), LtP l → pcs b a v l = pcs b a v (l.filter fun p => decide (a < p.1))
  | [], _ => rfl
  | p :: l, hl => by
    by_cases h : a < p.1
    · have : (p :: l).filter (fun p => decide (a < p.1)) = p :: l := by
        rw [List.filter_eq_self]
        intro q hq
        rcases List.mem_cons.1 hq with rfl | hq
        · simpa using h
        · have := (List.pairwise_cons.1 hl).1 q hq
          simp; omega
      rw [this]
    · rw [List.filter_cons_of_neg (by simpa using h), ← pcs_skip l hl.tail, pcs, if_neg (by omega)]

theorem val_cut (a : Int) : ∀ (l : Pts) (v x : Int), LtP l → a ≤ x → valG v l x = valG (valG v l a) (l.filter fun p => decide (a < p.1)) x
  | [], _, _, _, _ => rfl
  | p :: l, v, x, hl, hx => by
    by_cases h : a < p.1
    · have : (p :: l).filter (fun p => decide (a < p.1)) = p :: l := by
        rw [List.filter_eq_self]
        intro q hq
        rcases List.mem_cons.1 hq with rfl | hq
        · simpa using h
        · have := (List.pairwise_cons.1 hl).1 q hq
          simp; omega
      rw [this]
      congr 1
      rw [valG, if_neg (by omega), hl.val (by omega)]
    · rw [List.filter_cons_of_neg (by simpa using h), valG, val_cut a l _ x hl.tail hx, valG, if_pos (show p.1 ≤ x by omega), if_pos (show p.1 ≤ a by omega)]

def pieces (f : Pts) (a b : Int) : List (Int × Int × Int) := pcs b a (valG 0 f a) f

theorem pieces_cont {f : Pts} {a b : Int} (hf : LtP f) (hab : a < b) : Cont (valG 0 f) b a (pieces f a b) := by
  unfold pieces
  rw [pcs_skip f hf]
  refine pcs_cont _ a _ hab (hf.filter _) (fun p hp => by simpa using (List.mem_filter.1 hp).2) fun x hx _ => val_cut a f 0 x hf hx

/-- Each piece's value is unlike the one ahead. -/
def Apart : Int → List (Int × Int × Int) → Prop
  | _, [] => True
  | v, q :: l => q.2.2 ≠ v ∧ Apart q.2.2 l
theorem pcs_apart {b : Int} : ∀ (l : Pts) (a v d0 v0 : Int), rightG d0 v0 l = true → (∀ p, p ∈ l → a < p.1) → v = v0 → (∃ q m, pcs b a v l = q :: m ∧ q.2.2 = v ∧ Apart v m)
  | [], a, v, _, _, _, _, _ => ⟨(a, b, v), [], rfl, rfl, trivial⟩
  | p :: l, a, v, d0, v0, h, hg, e => by
    obtain ⟨h1, h2, h3, h4, h5⟩ := rightG_cons.1 h
    rw [pcs]
    by_cases hc : p.1 < b
    · obtain ⟨q, m, e1, e2, e3⟩ := pcs_apart (b := b) l p.1 p.2 p.1 p.2 h5 (fun q hq => (right_mem h5 q hq).1) rfl
      rw [if_pos ⟨hg p (by simp), hc⟩, e1]
      refine ⟨_, _, rfl, rfl, ?_, e2 ▸ e3⟩
      rw [e2, e]; exact h3
    · rw [if_neg (by omega)]
      have : pcs b a v l = [(a, b, v)] := by
        have hl : ∀ q, q ∈ l → b ≤ q.1 := fun q hq => by have := (right_mem h5 q hq).1; omega
        clear h h5 hg
        induction l with
        | nil => rfl
        | cons q l ih =>
          have := hl q (by simp)
          rw [pcs, if_neg (by omega)]
          exact ih fun q hq => hl q (by simp [hq])
      exact ⟨_, _, this, rfl, trivial⟩

theorem right_filter {a : Int} : ∀ {l : Pts} {d0 v0 : Int}, rightG d0 v0 l = true → ∃ d1, rightG d1 (valG v0 l a) (l.filter fun p => decide (a < p.1)) = true
  | [], _, _, _ => ⟨0, rfl⟩
  | p :: l, d0, v0, h => by
    obtain ⟨h1, h2, h3, h4, h5⟩ := rightG_cons.1 h
    by_cases hp : a < p.1
    · have : (p :: l).filter (fun p => decide (a < p.1)) = p :: l := by
        rw [List.filter_eq_self]
        intro q hq
        rcases List.mem_cons.1 hq with rfl | hq
        · simpa using hp
        · have := (right_mem h5 q hq).1
          simp; omega
      rw [this]
      refine ⟨d0, ?_⟩
      rw [valG_gt (p :: l) v0 a fun q hq => ?_]
      · exact h
      · rcases List.mem_cons.1 hq with rfl | hq
        · exact hp
        · have := (right_mem h5 q hq).1; omega
    · rw [List.filter_cons_of_neg (by simpa using hp), valG, if_pos (by omega)]
      exact right_filter h5

theorem pieces_apart {f : Pts} {a b : Int} (hf : rightG 0 0 f = true) : ∃ q m, pieces f a b = q :: m ∧ Apart q.2.2 m := by
  obtain ⟨d1, h1⟩ := right_filter (a := a) hf
  unfold pieces
  rw [pcs_skip f (right_lt hf)]
  obtain ⟨q, m, e1, e2, e3⟩ := pcs_apart (b := b) _ a (valG 0 f a) d1 _ h1 (fun p hp => by simpa using (List.mem_filter.1 hp).2) rfl
  exact ⟨q, m, e1, e2 ▸ e3⟩

/-! ### Sums -/

def iabs (v : Int) : Int := if v < 0 then -v else v

def sumA : Int → Int → List (Int × Int × Int) → Option Int
  | s, _, [] => some s
  | s, t, q :: l => if (4000000000000000000 - t) / (q.2.1 - q.1) < iabs q.2.2 then none else sumA (s + (q.2.1 - q.1) * q.2.2) (t + (q.2.1 - q.1) * iabs q.2.2) l

def tot (h : Int → Int) (a : Int) : Nat → Int
  | 0 => 0
  | n + 1 => tot h a n + h (a + n)

theorem tot_add (h : Int → Int) (a : Int) (n : Nat) : ∀ m : Nat, tot h a (n + m) = tot h a n + tot h (a + n) m
  | 0 => by simp [tot]
  | m + 1 => by
    rw [← Nat.add_assoc, tot, tot_add h a n m, tot]
    rw [show a + ((n + m : Nat) : Int) = a + n + m by omega]
    omega
theorem tot_const (h : Int → Int) (a v : Int) : ∀ (n : Nat), (∀ i : Nat, i < n → h (a + i) = v) → tot h a n = n * v
  | 0, _ => by simp [tot]
  | n + 1, hv => by
    rw [tot, tot_const h a v n fun i hi => hv i (by omega), hv n (by omega), Int.natCast_add, Int.add_mul]; simp
theorem tot_congr {h k : Int → Int} {a : Int} : ∀ (n : Nat), (∀ i : Nat, i < n → h (a + i) = k (a + i)) → tot h a n = tot k a n
  | 0, _ => rfl
  | n + 1, e => by rw [tot, tot, tot_congr n fun i hi => e i (by omega), e n (by omega)]
theorem tot_nonneg {h : Int → Int} {a : Int} (h0 : ∀ x, 0 ≤ h x) : ∀ n, 0 ≤ tot h a n
  | 0 => Int.le_refl _
  | n + 1 => by rw [tot]; have := tot_nonneg (a := a) h0 n; have := h0 (a + n); omega
theorem tot_abs {h : Int → Int} {a : Int} : ∀ n, - tot (fun x => iabs (h x)) a n ≤ tot h a n ∧ tot h a n ≤ tot (fun x => iabs (h x)) a n
  | 0 => by simp [tot]
  | n + 1 => by
    rw [tot, tot]
    have := tot_abs (h := h) (a := a) n
    have h1 : - iabs (h (a + n)) ≤ h (a + n) ∧ h (a + n) ≤ iabs (h (a + n)) := by unfold iabs; split <;> omega
    omega
theorem tot_sum {h k : Int → Int} {a : Int} : ∀ n, tot (fun x => h x + k x) a n = tot h a n + tot k a n
  | 0 => rfl
  | n + 1 => by rw [tot, tot, tot, tot_sum n]; omega

/-- The sum is told just if the values without their signs are not too great; it is then the sum over all days. -/
theorem sumA_cont {h : Int → Int} {b : Int} : ∀ (l : List (Int × Int × Int)) (a s t : Int), Cont h b a l → 0 ≤ t → t ≤ 4000000000000000000 →
    sumA s t l = if t + tot (fun x => iabs (h x)) a (b - a).toNat ≤ 4000000000000000000 then some (s + tot h a (b - a).toNat) else none
  | [], a, s, t, hc, h0, h1 => by
    have : a = b := hc
    subst this
    simp [sumA, tot, h1]
  | q :: l, a, s, t, hc, h0, h1 => by
    obtain ⟨c1, c2, c3, c4, c5⟩ := hc
    subst c1
    have hn : (b - q.1).toNat = (q.2.1 - q.1).toNat + (b - q.2.1).toNat := by omega
    have e1 : tot h q.1 (q.2.1 - q.1).toNat = (q.2.1 - q.1) * q.2.2 := by
      rw [tot_const h q.1 q.2.2 _ fun i hi => c4 _ (by omega) (by omega)]
      rw [Int.toNat_of_nonneg (by omega)]
    have e2 : tot (fun x => iabs (h x)) q.1 (q.2.1 - q.1).toNat = (q.2.1 - q.1) * iabs q.2.2 := by
      rw [tot_const (fun x => iabs (h x)) q.1 (iabs q.2.2) _ fun i hi => by show iabs (h _) = _; rw [c4 _ (by omega) (by omega)]]
      rw [Int.toNat_of_nonneg (by omega)]
    have hq : q.1 + ((q.2.1 - q.1).toNat : Int) = q.2.1 := by omega
    rw [hn, tot_add, tot_add, e1, e2, hq, sumA]
    have hpos : (0 : Int) < q.2.1 - q.1 := by omega
    have hd : (4000000000000000000 - t) / (q.2.1 - q.1) < iabs q.2.2 ↔ 4000000000000000000 - t < (q.2.1 - q.1) * iabs q.2.2 := by
      rw [← Int.not_le, ← Int.not_le, Int.le_ediv_iff_mul_le hpos, Int.mul_comm]
    have hab : 0 ≤ iabs q.2.2 := by unfold iabs; split <;> omega
    have hm : 0 ≤ (q.2.1 - q.1) * iabs q.2.2 := Int.mul_nonneg (by omega) hab
    have hr : 0 ≤ tot (fun x => iabs (h x)) q.2.1 (b - q.2.1).toNat := tot_nonneg (fun x => by show 0 ≤ iabs _; unfold iabs; split <;> omega) _
    by_cases hg : 4000000000000000000 - t < (q.2.1 - q.1) * iabs q.2.2
    · rw [if_pos (hd.2 hg), if_neg (by omega)]
    · rw [if_neg (fun hh => hg (hd.1 hh)), sumA_cont l q.2.1 _ _ c5 (by omega) (by omega), Int.add_assoc, Int.add_assoc]

def sumL (f : Pts) (a b : Int) : Option Int := sumA 0 0 (pieces f a b)
def absT (f : Pts) (a b : Int) : Int := tot (fun x => iabs (valG 0 f x)) a (b - a).toNat
def sumT (f : Pts) (a b : Int) : Int := tot (valG 0 f) a (b - a).toNat

theorem sumL_eq {f : Pts} {a b : Int} (hf : LtP f) (hab : a < b) : sumL f a b = if absT f a b ≤ 4000000000000000000 then some (sumT f a b) else none := by
  unfold sumL absT sumT
  rw [sumA_cont _ a 0 0 (pieces_cont hf hab) (by omega) (by omega), Int.zero_add, Int.zero_add]

theorem sumT_bound {f : Pts} {a b : Int} : - absT f a b ≤ sumT f a b ∧ sumT f a b ≤ absT f a b := tot_abs _
theorem absT_nonneg {f : Pts} {a b : Int} : 0 ≤ absT f a b := tot_nonneg (fun x => by show 0 ≤ iabs _; unfold iabs; split <;> omega) _
theorem sumT_cut {f : Pts} {a b c : Int} (h1 : a ≤ b) (h2 : b ≤ c) : sumT f a c = sumT f a b + sumT f b c ∧ absT f a c = absT f a b + absT f b c := by
  unfold sumT absT
  rw [show (c - a).toNat = (b - a).toNat + (c - b).toNat by omega, tot_add, tot_add, show a + ((b - a).toNat : Int) = b by omega]
  exact ⟨rfl, rfl⟩
theorem sumT_add {f g : Pts} {a b : Int} (hb : b ≤ 292195) : sumT (addL f g) a b = sumT f a b + sumT g a b := by
  unfold sumT
  rw [← tot_sum]
  refine tot_congr _ fun i hi => ?_
  rw [addL_val (by omega)]; rfl
end Go.Proofs.Ytjplhfmakghabaa.V
