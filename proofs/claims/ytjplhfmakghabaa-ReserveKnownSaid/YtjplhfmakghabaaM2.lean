/- The reference's positions, file by file (plain). What is paid, and held back, file by file (plain). -/
import Derived.Test.YtjplhfmakghabaaN17
set_option linter.unusedSimpArgs false
set_option linter.unusedVariables false
namespace Go.Proofs.Ytjplhfmakghabaa.V
set_option maxRecDepth 100000

/-- What rows pay to a file; to the files ahead of it. -/
def paidK (R : List (Int × Int × Int)) (k : Nat) : Int := (R.map fun r => if r.1 = (k : Int) then r.2.2 else 0).sum
def paidB (R : List (Int × Int × Int)) (k : Nat) : Int := (R.map fun r => if r.1 < (k : Int) then r.2.2 else 0).sum
theorem paidK_snoc (R : List (Int × Int × Int)) (r : Int × Int × Int) (k : Nat) : paidK (R ++ [r]) k = paidK R k + if r.1 = (k : Int) then r.2.2 else 0 := by simp [paidK]
theorem paidB_zero {R : List (Int × Int × Int)} (h : ∀ r, r ∈ R → 0 ≤ r.1) : paidB R 0 = 0 := by
  induction R with
  | nil => rfl
  | cons r R ih =>
    have h0 := h r (by simp)
    have := ih fun x hx => h x (by simp [hx])
    unfold paidB at *
    rw [List.map_cons, List.sum_cons, this, if_neg (by omega)]
    rfl
theorem paidB_succ (R : List (Int × Int × Int)) (k : Nat) : paidB R (k + 1) = paidB R k + paidK R k := by
  induction R with
  | nil => rfl
  | cons r R ih =>
    unfold paidB paidK at *
    rw [List.map_cons, List.sum_cons, List.map_cons, List.sum_cons, List.map_cons, List.sum_cons, ih]
    split <;> split <;> split <;> omega
theorem paidB_all {R : List (Int × Int × Int)} {n : Nat} (h : ∀ r, r ∈ R → r.1 < (n : Int)) : paidB R n = amtS R := by
  induction R with
  | nil => rfl
  | cons r R ih =>
    have h0 := h r (by simp)
    have := ih fun x hx => h x (by simp [hx])
    unfold paidB amtS at *
    rw [List.map_cons, List.sum_cons, this, if_pos h0, List.map_cons, List.sum_cons]
/-- All bounds at once. -/
theorem paid_bds : ∀ {R : List (Int × Int × Int)}, (∀ r, r ∈ R → 0 ≤ r.2.2) → ∀ k j, 0 ≤ paidB R k ∧ 0 ≤ paidK (R.take j) k ∧ paidK (R.take j) k ≤ paidK R k ∧ paidB R k + paidK R k ≤ amtS R
  | [], _, k, j => by simp [paidB, paidK, amtS]
  | r :: R, h, k, j => by
    have h0 := h r (by simp)
    have ih := fun j => paid_bds (R := R) (fun x hx => h x (by simp [hx])) k j
    unfold paidB paidK amtS at *
    simp only [List.map_cons, List.sum_cons]
    cases j with
    | zero =>
      have := ih 0
      have := ih R.length
      rw [List.take_length] at this
      simp only [List.take_zero, List.map_nil, List.sum_nil]
      split <;> split <;> omega
    | succ j =>
      have := ih j
      rw [List.take_succ_cons, List.map_cons, List.sum_cons]
      split <;> split <;> omega
/-- The positions with what rows pay. -/
def posR (R : List (Int × Int × Int)) (l : List File) : List Pos := l.mapIdx fun k f => { standP f.acts with paid := paidK R k }
theorem posR_len (R : List (Int × Int × Int)) (l : List File) : (posR R l).length = l.length := by simp [posR]
theorem posR_snoc (R : List (Int × Int × Int)) {l : List File} {k : Nat} {f : File} (h : l[k]? = some f) : posR R (l.take (k + 1)) = posR R (l.take k) ++ [{ standP f.acts with paid := paidK R k }] := by
  have hk := (List.getElem?_eq_some_iff.1 h).1
  rw [List.take_add_one, h]
  simp [posR, List.mapIdx_append, Nat.min_eq_left (Nat.le_of_lt hk)]
theorem posR_get {R : List (Int × Int × Int)} {l : List File} {k : Nat} {f : File} (h : l[k]? = some f) : (posR R l)[k]? = some { standP f.acts with paid := paidK R k } := by
  simp [posR, h]
theorem posR_nil (l : List File) : posR [] l = posL l := by
  apply List.ext_getElem?
  intro k
  rcases h : l[k]? with _ | f
  · simp [posR, posL, h]
  · rw [posR_get h]
    simp [posL, h, paidK, standP]
theorem posR_add (R : List (Int × Int × Int)) (l : List File) (r : Int × Int × Int) {k : Nat} (hk : k < l.length) (hr : r.1 = (k : Int)) : posR (R ++ [r]) l = addP (posR R l) r := by
  unfold addP
  rw [hr, Int.toNat_natCast]
  apply List.ext_getElem?
  intro j
  rw [List.getElem?_set]
  have hf : l[k]? = some l[k] := List.getElem?_eq_getElem hk
  split
  · rename_i h
    subst h
    rw [posR_get hf, if_pos (by rw [posR_len]; exact hk), List.getD_eq_getElem?_getD, posR_get hf, paidK_snoc, if_pos hr]
    rfl
  · rename_i h
    rcases h2 : l[j]? with _ | f
    · simp [posR, h2]
    · rw [posR_get h2, posR_get h2, paidK_snoc, if_neg (by omega), Int.add_zero]
theorem posR_fold (l : List File) {R : List (Int × Int × Int)} (h : ∀ r, r ∈ R → ∃ k : Nat, k < l.length ∧ r.1 = (k : Int)) : R.foldl addP (posL l) = posR R l := by
  have key : ∀ j, j ≤ R.length → (R.take j).foldl addP (posL l) = posR (R.take j) l := by
    intro j
    induction j with
    | zero => intro _; exact (posR_nil l).symm
    | succ j ih =>
      intro hj
      have e0 : R[j]? = some R[j] := List.getElem?_eq_getElem hj
      obtain ⟨k, h1, h2⟩ := h _ (List.getElem_mem hj)
      rw [List.take_add_one, e0, List.foldl_append, ih (by omega)]
      exact (posR_add _ l _ h1 h2).symm
  have := key R.length (Nat.le_refl _)
  rwa [List.take_length] at this
theorem posR_res {R : List (Int × Int × Int)} {l : List File} {p : Pos} (h : p ∈ posR R l) : p.reserve = 0 := by
  obtain ⟨k, hk⟩ := List.mem_iff_getElem?.1 h
  rcases h2 : l[k]? with _ | f
  · simp [posR, h2] at hk
  · rw [posR_get h2] at hk
    injection hk with hk
    subst hk
    rfl
end Go.Proofs.Ytjplhfmakghabaa.V
namespace Go.Proofs.Ytjplhfmakghabaa.V
set_option maxRecDepth 100000

theorem pays_zero {c : Cover} (hr : c.rightB = true) {x : Int} (hx : 0 ≤ x) : pays c x 0 = worth0 c x := by
  have h := cvRight_iff.1 hr
  have hb := worth0_bd hr x
  rw [pays, if_pos ⟨hr, hx, Int.le_refl _⟩]
  omega
/-- What was shown of a file. -/
def shK (L : List Stp) (k : Nat) : Int := sumK 2 ((L.filter fun s => decide (s.file = (k : Int))).map Stp.act)
theorem shK_snoc (L : List Stp) (x : Stp) (k : Nat) : shK (L ++ [x]) k = shK L k + if x.file = (k : Int) then (if x.act.kind = 2 then x.act.amt else 0) else 0 := by
  unfold shK
  rw [List.filter_append]
  by_cases hk : x.file = (k : Int)
  · rw [List.filter_cons_of_pos (by simpa using hk), List.filter_nil, List.map_append, List.map_singleton, sumK_snoc, if_pos hk]
  · rw [List.filter_cons_of_neg (by simpa using hk), List.filter_nil, List.append_nil, if_neg hk, Int.add_zero]
/-- What holds file by file, behind these acts. -/
structure PI (c : Cover) (n : Nat) (L : List Stp) (s : PS) : Prop where
  sh : ∀ k, k < n → s.shown.getD k 0 = shK L k
  wo : ∀ k, k < n → s.paid.getD k 0 ≤ worth0 c (s.shown.getD k 0)
  ro : ∀ k, k < n → paidK s.out k = s.paid.getD k 0
  dy : (s.out.map fun r => r.2.1).Sublist (L.map fun x => x.act.booked)
theorem getD_set {l : List Int} {k : Nat} (hk : k < l.length) (v : Int) (j : Nat) : (l.set k v).getD j 0 = if k = j then v else l.getD j 0 := by
  rw [List.getD_eq_getElem?_getD, List.getElem?_set, List.getD_eq_getElem?_getD]
  by_cases h : k = j
  · subst h
    rw [if_pos rfl, if_pos hk, if_pos rfl]
    rfl
  · rw [if_neg h, if_neg h]
theorem PI.zero {c : Cover} (hr : c.rightB = true) (n : Nat) : PI c n [] (ps0 n) := by
  have h0 : ∀ k, (List.replicate n (0 : Int)).getD k 0 = 0 := fun k => getD_mem (P := fun x => x = 0) rfl (fun x hx => List.eq_of_mem_replicate hx) k
  refine ⟨fun k _ => ?_, fun k _ => ?_, fun k _ => ?_, .slnil⟩
  · simp only [ps0]; rw [h0]; rfl
  · simp only [ps0]; rw [h0]; exact (worth0_bd hr 0).1
  · simp only [ps0]; rw [h0]; rfl
theorem PI.step {c : Cover} {n m : Nat} {L : List Stp} {s : PS} (hr : c.rightB = true) (h : PI c n L s) (hB : PB c n m s) (x : Stp) {k : Nat} (hk : k < n) (hx : x.file = (k : Int)) (ha : 0 ≤ x.act.amt) : PI c n (L ++ [x]) (payOne c s x) := by
  have g2 := hB.get2 k
  have gb := hB.al
  have hcv := cvRight_iff.1 hr
  have l1 := hB.l1
  have l2 := hB.l2
  have hb := pays_bd (c := c) hr (s.shown.getD k 0 + x.act.amt) (used := s.all - s.paid.getD k 0) (by omega)
  have hm := worth0_mono hr (a := s.shown.getD k 0) (b := s.shown.getD k 0 + x.act.amt) (by omega)
  have hL : (L.map fun x => x.act.booked).Sublist ((L ++ [x]).map fun x => x.act.booked) := by rw [List.map_append]; exact List.sublist_append_left ..
  unfold payOne
  rw [hx, Int.toNat_natCast]
  by_cases h2 : x.act.kind = 2
  · rw [if_pos h2]
    simp only
    by_cases hw : pays c (s.shown.getD k 0 + x.act.amt) (s.all - s.paid.getD k 0) - s.paid.getD k 0 ≤ 0
    · rw [if_pos hw]
      refine ⟨fun j hj => ?_, fun j hj => ?_, fun j hj => h.ro j hj, h.dy.trans hL⟩
      · have := h.sh j hj
        rw [getD_set (by omega), shK_snoc, hx]
        by_cases hkj : k = j
        · subst hkj; rw [if_pos rfl, if_pos rfl, if_pos h2, this]
        · rw [if_neg hkj, if_neg (by omega)]; omega
      · have := h.wo j hj
        show s.paid.getD j 0 ≤ worth0 c _
        rw [getD_set (by omega)]
        by_cases hkj : k = j
        · subst hkj; rw [if_pos rfl]; omega
        · rw [if_neg hkj]; exact this
    · rw [if_neg hw]
      refine ⟨fun j hj => ?_, fun j hj => ?_, fun j hj => ?_, ?_⟩
      · have := h.sh j hj
        rw [getD_set (by omega), shK_snoc, hx]
        by_cases hkj : k = j
        · subst hkj; rw [if_pos rfl, if_pos rfl, if_pos h2, this]
        · rw [if_neg hkj, if_neg (by omega)]; omega
      · have := h.wo j hj
        rw [getD_set (by omega), getD_set (by omega)]
        by_cases hkj : k = j
        · subst hkj; rw [if_pos rfl, if_pos rfl]; omega
        · rw [if_neg hkj, if_neg hkj]; exact this
      · have := h.ro j hj
        simp only
        rw [getD_set (by omega), paidK_snoc]
        simp only
        by_cases hkj : k = j
        · subst hkj; rw [if_pos rfl, if_pos rfl]; omega
        · rw [if_neg hkj, if_neg (by omega)]; omega
      · simp only
        rw [List.map_append, List.map_append]
        exact h.dy.append (List.Sublist.refl _)
  · rw [if_neg h2]
    refine ⟨fun j hj => ?_, fun j hj => h.wo j hj, fun j hj => h.ro j hj, h.dy.trans hL⟩
    rw [h.sh j hj, shK_snoc, if_neg h2]
    simp
theorem payL_PI {c : Cover} {l : List File} (h : adjRight c l = true) : ∀ i, i ≤ (ordL l).length → PI c l.length ((ordL l).take i) (payL c l.length ((ordL l).take i)) := by
  have hr : c.rightB = true := by rw [adjRight, Bool.and_eq_true] at h; exact h.1
  have hPB := payL_PB hr l.length (L := ordL l) fun x hx => by obtain ⟨_, _, _, _, h⟩ := step_right h hx; exact h
  intro i
  induction i with
  | zero => intro _; exact PI.zero hr _
  | succ i ih =>
    intro hi
    have e0 : (ordL l)[i]? = some (ordL l)[i] := List.getElem?_eq_getElem hi
    obtain ⟨k, h1, h2, _, h3, _⟩ := step_right h (List.getElem_mem hi)
    rw [payL_take e0, List.take_add_one, e0]
    exact (ih (by omega)).step hr (hPB i (by omega)) _ h1 h2 h3
theorem chk_right {c : Cover} {l : List File} (he : checkE c l = 0) : adjRight c l = true ∧ l.length ≤ 2000 ∧ actsN l ≤ 2000 := by
  have har : adjRight c l = true := by
    cases h : adjRight c l with
    | true => rfl
    | false => simp [checkE, h] at he
  refine ⟨har, ?_⟩
  unfold checkE at he
  split at he; · cases he
  split at he; · cases he
  omega
theorem right_good {c : Cover} {l : List File} (h : adjRight c l = true) {f : File} (hf : f ∈ l) : Good f.claim f.acts := by
  rw [adjRight, Bool.and_eq_true, List.all_eq_true] at h
  have := h.2 f hf
  rw [okFile, Bool.and_eq_true] at this
  exact made_good this.2
/-- What rows say, file by file. -/
theorem paid_file {c : Cover} {l : List File} (he : checkE c l = 0) {k : Nat} {f : File} (hf : l[k]? = some f) : 0 ≤ paidK (paidR c l) k ∧ paidK (paidR c l) k ≤ worth0 c (standP f.acts).shown ∧ (standP f.acts).shown ≤ (standP f.acts).gross ∧ 0 ≤ (standP f.acts).shown ∧ (standP f.acts).gross ≤ 1000000000000000 := by
  obtain ⟨har, _⟩ := chk_right he
  have hr : c.rightB = true := by rw [adjRight, Bool.and_eq_true] at har; exact har.1
  have hk := (List.getElem?_eq_some_iff.1 hf).1
  have hI := payL_PI har (ordL l).length (Nat.le_refl _)
  rw [List.take_length] at hI
  have hg := right_good har (List.mem_of_getElem? hf)
  have h1 := hI.sh k hk
  have h2 := hI.wo k hk
  have h3 := hI.ro k hk
  have h4 : shK (ordL l) k = sumK 2 f.acts := by
    rw [shK, ordL_fileK (srt_of har), fileK, hf]
    simp only [List.map_map]
    congr 1
    exact List.map_id _
  rw [h1, h4, ← hg.shownE] at h2
  rw [paidR, if_pos he, h3]
  have g1 := hg.shown
  have g2 := hg.gross
  have hPB := payL_PB hr l.length (L := ordL l) (fun x hx => by obtain ⟨_, _, _, _, h⟩ := step_right har hx; exact h) (ordL l).length (Nat.le_refl _)
  rw [List.take_length] at hPB
  have := hPB.get2 k
  simp only [standP]
  omega
theorem paid_all {c : Cover} {l : List File} (he : checkE c l = 0) : 0 ≤ amtS (paidR c l) ∧ amtS (paidR c l) ≤ c.agg := by
  obtain ⟨har, _⟩ := chk_right he
  have hr : c.rightB = true := by rw [adjRight, Bool.and_eq_true] at har; exact har.1
  have hPB := payL_PB hr l.length (L := ordL l) (fun x hx => by obtain ⟨_, _, _, _, h⟩ := step_right har hx; exact h) (ordL l).length (Nat.le_refl _)
  rw [List.take_length] at hPB
  have hs := payL_sum har (ordL l).length (Nat.le_refl _)
  rw [List.take_length] at hs
  have hI := payL_PI har (ordL l).length (Nat.le_refl _)
  rw [List.take_length] at hI
  have key : ∀ j, j ≤ l.length → paidB (payL c l.length (ordL l)).out j = ((payL c l.length (ordL l)).paid.take j).sum := by
    intro j
    induction j with
    | zero =>
      intro _
      rw [paidB_zero fun r hm => by
        obtain ⟨k, _, h, _⟩ := (rows_ok he).2 r (by rw [paidR, if_pos he]; exact hm)
        omega]
      rfl
    | succ j ih =>
      intro hj
      have hl := hPB.l2
      have e0 : (payL c l.length (ordL l)).paid[j]? = some ((payL c l.length (ordL l)).paid.getD j 0) := by rw [List.getD_eq_getElem?_getD, List.getElem?_eq_getElem (by omega)]; rfl
      rw [paidB_succ, ih (by omega), hI.ro j (by omega), List.take_add_one, e0]
      simp
  have h1 := key l.length (Nat.le_refl _)
  rw [List.take_of_length_le (by rw [hPB.l2]; omega), hs, paidB_all fun r hm => by
    obtain ⟨k, h0, h, _⟩ := (rows_ok he).2 r (by rw [paidR, if_pos he]; exact hm)
    omega] at h1
  rw [paidR, if_pos he, h1]
  exact hPB.al
/-- The days of rows rise. -/
theorem paid_days {c : Cover} {l : List File} (he : checkE c l = 0) : (paidR c l).Pairwise fun a b => a.2.1 ≤ b.2.1 := by
  obtain ⟨har, _⟩ := chk_right he
  have hI := payL_PI har (ordL l).length (Nat.le_refl _)
  rw [List.take_length] at hI
  have h1 : ((ordL l).map fun x => x.act.booked).Pairwise (· ≤ ·) := List.pairwise_map.2 (srt_booked (ordL_srt l))
  have := h1.sublist hI.dy
  rw [List.pairwise_map] at this
  rw [paidR, if_pos he]
  exact this

/-! ### Positions -/
theorem ofL_eq {c : Cover} {l : List File} (he : checkE c l = 0) : ofL c l = heldL c (amtS (paidR c l)) (posR (paidR c l) l) := by
  rw [ofL, if_pos he, posR_fold l fun r hr => by
    obtain ⟨k, h1, h2, _⟩ := (rows_ok he).2 r hr
    exact ⟨k, h1, h2⟩]
  rfl
theorem ofL_len {c : Cover} {l : List File} (he : checkE c l = 0) : (ofL c l).length = l.length := by rw [ofL_eq he, heldL_len, posR_len]
theorem heldOne_le {c : Cover} (hr : c.rightB = true) (u : Int) (p : Pos) (hu : u ≤ c.agg) (h0 : 0 ≤ p.paid) (h1 : p.paid ≤ worth0 c p.gross) : 0 ≤ heldOne c u p ∧ u + heldOne c u p ≤ c.agg ∧ p.paid + heldOne c u p ≤ worth0 c p.gross := by
  have hb := pays_bd (c := c) hr p.gross (used := u - p.paid) (by omega)
  unfold heldOne
  split <;> omega
theorem uAt_agg {c : Cover} (hr : c.rightB = true) : ∀ {P : List Pos} {u : Int}, (∀ p, p ∈ P → 0 ≤ p.paid ∧ p.paid ≤ worth0 c p.gross) → u ≤ c.agg → ∀ i, uAt c u P i ≤ c.agg
  | [], u, _, h, 0 => h
  | [], u, _, h, _ + 1 => h
  | _ :: _, u, _, h, 0 => h
  | p :: P, u, h1, h, i + 1 => by
    have := h1 p (by simp)
    exact uAt_agg hr (fun q hq => h1 q (by simp [hq])) (heldOne_le hr u p h this.1 this.2).2.1 i
/-- How a file stands. -/
theorem of_file {c : Cover} {l : List File} (he : checkE c l = 0) {k : Nat} {f : File} (hf : l[k]? = some f) :
    ∃ r : Int, (ofL c l)[k]? = some { standP f.acts with paid := paidK (paidR c l) k, reserve := r } ∧ 0 ≤ r ∧ paidK (paidR c l) k + r ≤ worth0 c (standP f.acts).gross ∧ ((standP f.acts).opn = false → r = 0)
      ∧ r = heldOne c (uAt c (amtS (paidR c l)) (posR (paidR c l) l) k) { standP f.acts with paid := paidK (paidR c l) k } := by
  obtain ⟨har, _⟩ := chk_right he
  have hr : c.rightB = true := by rw [adjRight, Bool.and_eq_true] at har; exact har.1
  have hp : ∀ p, p ∈ posR (paidR c l) l → 0 ≤ p.paid ∧ p.paid ≤ worth0 c p.gross := by
    intro p hp
    obtain ⟨j, hj⟩ := List.mem_iff_getElem?.1 hp
    rcases h2 : l[j]? with _ | g
    · simp [posR, h2] at hj
    · rw [posR_get h2] at hj
      injection hj with hj
      subst hj
      have h1 := paid_file he h2
      have h3 := worth0_mono hr h1.2.2.1
      simp only
      omega
  have h1 := heldL_at c _ (amtS (paidR c l)) k _ (posR_get (R := paidR c l) hf)
  have hu := uAt_agg hr hp (paid_all he).2 k
  have h2 := hp _ (List.mem_of_getElem? (posR_get (R := paidR c l) hf))
  have h3 := heldOne_le hr _ _ hu h2.1 h2.2
  refine ⟨_, ?_, h3.1, h3.2.2, fun ho => ?_, rfl⟩
  · rw [ofL_eq he, h1]
    unfold heldP
    congr 2
    split
    · rfl
    · rename_i ho
      unfold heldOne
      rw [if_neg ho]
      rfl
  · unfold heldOne
    simp only [ho]
    rfl
def sumPR (P : List Pos) : Int := (P.map fun p => p.paid + p.reserve).sum
theorem held_sum (c : Cover) : ∀ (P : List Pos) (u : Int), (∀ p, p ∈ P → p.reserve = 0) → sumPR (heldL c u P) + u = (P.map Pos.paid).sum + uAt c u P P.length
  | [], u, _ => by simp [heldL, sumPR, uAt]
  | p :: P, u, h => by
    have h0 := h p (by simp)
    have ih := held_sum c P (u + heldOne c u p) fun q hq => h q (by simp [hq])
    have h1 : sumPR (heldL c u (p :: P)) = p.paid + heldOne c u p + sumPR (heldL c (u + heldOne c u p) P) := by
      rw [heldL, sumPR, List.map_cons, List.sum_cons]
      simp only [sumPR]
      split
      · rfl
      · rename_i ho
        rw [h0]
        unfold heldOne
        rw [if_neg ho]
    rw [h1, List.map_cons, List.sum_cons, List.length_cons, uAt]
    omega
theorem posR_sum {R : List (Int × Int × Int)} {l : List File} (h : ∀ r, r ∈ R → 0 ≤ r.1) : ∀ j, j ≤ l.length → ((posR R (l.take j)).map Pos.paid).sum = paidB R j := by
  intro j
  induction j with
  | zero => intro _; rw [paidB_zero h]; simp [posR]
  | succ j ih =>
    intro hj
    rw [posR_snoc R (List.getElem?_eq_getElem hj), List.map_append, List.sum_append, ih (by omega), paidB_succ]
    simp
theorem of_sum {c : Cover} {l : List File} (he : checkE c l = 0) : sumPR (ofL c l) ≤ c.agg := by
  obtain ⟨har, _⟩ := chk_right he
  have hr : c.rightB = true := by rw [adjRight, Bool.and_eq_true] at har; exact har.1
  have hp : ∀ p, p ∈ posR (paidR c l) l → 0 ≤ p.paid ∧ p.paid ≤ worth0 c p.gross := by
    intro p hp
    obtain ⟨j, hj⟩ := List.mem_iff_getElem?.1 hp
    rcases h2 : l[j]? with _ | g
    · simp [posR, h2] at hj
    · rw [posR_get h2] at hj
      injection hj with hj
      subst hj
      have h1 := paid_file he h2
      have h3 := worth0_mono hr h1.2.2.1
      simp only
      omega
  have h1 := held_sum c (posR (paidR c l) l) (amtS (paidR c l)) fun p hp => posR_res hp
  have h2 := posR_sum (R := paidR c l) (l := l) (fun r hm => by
    obtain ⟨k, _, h, _⟩ := (rows_ok he).2 r hm
    omega) l.length (Nat.le_refl _)
  rw [List.take_length, paidB_all fun r hm => by
    obtain ⟨k, h0, h, _⟩ := (rows_ok he).2 r hm
    omega] at h2
  have h3 := uAt_agg hr hp (paid_all he).2 (posR (paidR c l) l).length
  rw [ofL_eq he]
  omega
end Go.Proofs.Ytjplhfmakghabaa.V
