/- What is paid never falls (plain): files of which nothing is known yet play no part. Law of chapter 20: Bounds. -/
-- STEPS: new
import Derived.Test.YtjplhfmakghabaaU8
import Derived.Test.YtjplhfmakghabaaU10
set_option linter.unusedSimpArgs false
set_option linter.unusedVariables false
namespace Go.Proofs.Ytjplhfmakghabaa.V
open Go.RowKit
set_option maxRecDepth 100000
attribute [local go_sem] Option.toList_some Option.toList_none

/-- A file put in at place m: the places of the others. -/
def shN (m k : Nat) : Nat := if k < m then k else k + 1
def shI (m : Nat) (k : Int) : Int := if k < (m : Int) then k else k + 1
def shS (m : Nat) (x : Stp) : Stp := ⟨shI m x.file, x.act⟩
theorem shI_nat (m k : Nat) : shI m (k : Int) = ((shN m k : Nat) : Int) := by
  unfold shI shN
  by_cases h : k < m
  · rw [if_pos (by omega), if_pos h]
  · rw [if_neg (by omega), if_neg h]
    omega
theorem shN_inj {m a b : Nat} (h : shN m a = shN m b) : a = b := by
  unfold shN at h
  split at h <;> split at h <;> omega
theorem steps_up {m : Nat} : ∀ (B : List File) (k : Nat), m ≤ k → stepsL (k + 1) B = (stepsL k B).map (shS m)
  | [], _, _ => rfl
  | f :: B, k, h => by
    rw [stepsL, stepsL, List.map_append, steps_up (m := m) B (k + 1) (Nat.le_succ_of_le h), List.map_map]
    congr 1
    refine List.map_congr_left fun a _ => ?_
    show (⟨((k + 1 : Nat) : Int), a⟩ : Stp) = ⟨shI m (k : Int), a⟩
    rw [shI_nat, shN, if_neg (by omega)]
theorem steps_in {f : File} (hf : f.acts = []) {B : List File} : ∀ (A : List File) (k : Nat), stepsL k (A ++ f :: B) = (stepsL k (A ++ B)).map (shS (k + A.length))
  | [], k => by
    rw [List.nil_append, List.nil_append, stepsL, hf, List.map_nil, List.nil_append]
    exact steps_up B k (Nat.le_refl _)
  | g :: A, k => by
    rw [List.cons_append, List.cons_append, stepsL, stepsL, List.map_append, steps_in hf A (k + 1), List.map_map]
    have e : k + 1 + A.length = k + (g :: A).length := by simp; omega
    rw [e]
    congr 1
    refine List.map_congr_left fun a _ => ?_
    show (⟨(k : Int), a⟩ : Stp) = ⟨shI _ (k : Int), a⟩
    rw [shI_nat, shN, if_pos (by simp)]
theorem lt_sh (m : Nat) (x y : Stp) : ltT (shS m x) (shS m y) = ltT x y := by
  have : decide (shI m x.file < shI m y.file) = decide (x.file < y.file) := by
    refine decide_eq_decide.2 ?_
    unfold shI
    split <;> split <;> omega
  show (decide (x.act.booked < y.act.booked) || (decide (x.act.booked = y.act.booked) && decide (shI m x.file < shI m y.file))) = _
  rw [this]
  rfl
theorem insR_map {α : Type} {lt : α → α → Bool} {φ : α → α} (h : ∀ x y, lt (φ x) (φ y) = lt x y) (x : α) : ∀ P, insR lt (φ x) (P.map φ) = (insR lt x P).map φ
  | [] => rfl
  | p :: P => by
    rw [List.map_cons, insR, insR, h]
    split
    · rw [insR_map h x P, List.map_cons]
    · rfl
theorem isort_map {α : Type} {lt : α → α → Bool} {φ : α → α} (h : ∀ x y, lt (φ x) (φ y) = lt x y) (S : List α) : isort lt (S.map φ) = (isort lt S).map φ := by
  have key : ∀ (S P : List α), (S.map φ).foldl (fun r x => insR lt x r) (P.map φ) = (S.foldl (fun r x => insR lt x r) P).map φ := by
    intro S
    induction S with
    | nil => intro P; rfl
    | cons x S ih =>
      intro P
      rw [List.map_cons, List.foldl_cons, List.foldl_cons, insR_map h, ih]
  have := key S []
  unfold isort isortR
  rw [List.map_nil] at this
  rw [this, List.map_reverse]
/-- Equal states of n + 1 files, and of these without that at place m. -/
structure Sim (m n : Nat) (s t : PS) : Prop where
  all : s.all = t.all
  sh : ∀ k, s.shown.getD (shN m k) 0 = t.shown.getD k 0
  pd : ∀ k, s.paid.getD (shN m k) 0 = t.paid.getD k 0
  amt : amtS s.out = amtS t.out
  l1 : s.shown.length = n + 1
  l2 : s.paid.length = n + 1
  l3 : t.shown.length = n
  l4 : t.paid.length = n
theorem amtS_snoc (R : List (Int × Int × Int)) (r : Int × Int × Int) : amtS (R ++ [r]) = amtS R + r.2.2 := by simp [amtS]
theorem Sim.step {c : Cover} {m n : Nat} {s t : PS} (h : Sim m n s t) {x : Stp} {k : Nat} (hk : k < n) (hx : x.file = (k : Int)) : Sim m n (payOne c s (shS m x)) (payOne c t x) := by
  have hkn : shN m k < n + 1 := by unfold shN; split <;> omega
  have e1 : (shS m x).file.toNat = shN m k := by
    show (shI m x.file).toNat = _
    rw [hx, shI_nat, Int.toNat_natCast]
  have e2 : x.file.toNat = k := by rw [hx, Int.toNat_natCast]
  have hset : ∀ {L M : List Int} (v : Int), L.length = n + 1 → M.length = n → (∀ j, L.getD (shN m j) 0 = M.getD j 0) → ∀ j, (L.set (shN m k) v).getD (shN m j) 0 = (M.set k v).getD j 0 := by
    intro L M v h1 h2 h3 j
    rw [getD_set (by omega), getD_set (by omega), h3]
    by_cases hj : k = j
    · rw [if_pos (by rw [hj]), if_pos hj]
    · rw [if_neg (fun h => hj (shN_inj h)), if_neg hj]
  unfold payOne
  show Sim m n (if x.act.kind = 2 then _ else s) (if x.act.kind = 2 then _ else t)
  by_cases hkd : x.act.kind = 2
  · rw [if_pos hkd, if_pos hkd]
    simp only [e1, e2]
    have ea : (shS m x).act = x.act := rfl
    rw [ea, h.sh, h.pd, h.all]
    by_cases hw : pays c (t.shown.getD k 0 + x.act.amt) (t.all - t.paid.getD k 0) - t.paid.getD k 0 ≤ 0
    · rw [if_pos hw, if_pos hw]
      exact ⟨rfl, hset _ h.l1 h.l3 h.sh, h.pd, h.amt, by rw [List.length_set, h.l1], h.l2, by rw [List.length_set, h.l3], h.l4⟩
    · rw [if_neg hw, if_neg hw]
      exact ⟨rfl, hset _ h.l1 h.l3 h.sh, hset _ h.l2 h.l4 h.pd, by rw [amtS_snoc, amtS_snoc, h.amt], by rw [List.length_set, h.l1], by rw [List.length_set, h.l2], by rw [List.length_set, h.l3], by rw [List.length_set, h.l4]⟩
  · rw [if_neg hkd, if_neg hkd]
    exact h
theorem Sim.all_steps {c : Cover} {m n : Nat} : ∀ {L : List Stp} {s t : PS}, Sim m n s t → (∀ x, x ∈ L → ∃ k : Nat, k < n ∧ x.file = (k : Int)) → Sim m n ((L.map (shS m)).foldl (payOne c) s) (L.foldl (payOne c) t)
  | [], _, _, h, _ => h
  | x :: L, s, t, h, hL => by
    obtain ⟨k, h1, h2⟩ := hL x (by simp)
    rw [List.map_cons, List.foldl_cons, List.foldl_cons]
    exact Sim.all_steps (h.step h1 h2) fun y hy => hL y (by simp [hy])
theorem zeros_getD (n k : Nat) : (List.replicate n (0 : Int)).getD k 0 = 0 := by
  rw [List.getD_eq_getElem?_getD, List.getElem?_replicate]
  split <;> rfl
theorem check_drop {c : Cover} {A B : List File} {f : File} (he : checkE c (A ++ f :: B) = 0) : checkE c (A ++ B) = 0 := by
  obtain ⟨har, h1, h2⟩ := chk_right he
  have hA : adjRight c (A ++ B) = true := by
    rw [adjRight, Bool.and_eq_true, List.all_eq_true] at har ⊢
    refine ⟨har.1, fun g hg => har.2 g ?_⟩
    simp only [List.mem_append, List.mem_cons] at hg ⊢
    rcases hg with h | h
    · exact .inl h
    · exact .inr (.inr h)
  have h3 : actsN (A ++ B) ≤ actsN (A ++ f :: B) := by simp [actsN]
  have h4 : (A ++ B).length ≤ (A ++ f :: B).length := by simp
  rw [checkE, if_neg (by rw [hA]; decide), if_neg (by omega)]
/-- A file without acts plays no part in what is paid. -/
theorem paid_drop {c : Cover} {A B : List File} {f : File} (hf : f.acts = []) (he : checkE c (A ++ f :: B) = 0) : amtS (paidR c (A ++ f :: B)) = amtS (paidR c (A ++ B)) := by
  have he2 := check_drop he
  obtain ⟨har, -⟩ := chk_right he2
  rw [paidR, if_pos he, paidR, if_pos he2]
  have hO : ordL (A ++ f :: B) = (ordL (A ++ B)).map (shS A.length) := by
    have := steps_in hf (B := B) A 0
    rw [Nat.zero_add] at this
    unfold ordL
    rw [this, isort_map (lt_sh A.length)]
  rw [hO]
  show amtS (payL c _ _).out = amtS (payL c _ _).out
  unfold payL
  refine (Sim.all_steps (c := c) (L := ordL (A ++ B)) (s := ps0 (A ++ f :: B).length) (t := ps0 (A ++ B).length) (m := A.length) (n := (A ++ B).length) ⟨rfl, fun k => ?_, fun k => ?_, rfl, ?_, ?_, ?_, ?_⟩ fun x hx => ?_).amt
  · show (List.replicate _ (0 : Int)).getD _ 0 = (List.replicate _ (0 : Int)).getD _ 0
    rw [zeros_getD, zeros_getD]
  · show (List.replicate _ (0 : Int)).getD _ 0 = (List.replicate _ (0 : Int)).getD _ 0
    rw [zeros_getD, zeros_getD]
  · simp [ps0]; omega
  · simp [ps0]; omega
  · simp [ps0]
  · simp [ps0]
  · obtain ⟨k, h1, h2, -⟩ := step_right har hx
    exact ⟨k, h1, h2⟩
theorem paid_filter {c : Cover} (p : File → Bool) : ∀ (B A : List File), (∀ f, f ∈ B → p f = false → f.acts = []) → checkE c (A ++ B) = 0 → amtS (paidR c (A ++ B)) = amtS (paidR c (A ++ B.filter p))
  | [], A, _, _ => rfl
  | f :: B, A, h, he => by
    cases hp : p f with
    | true =>
      rw [List.filter_cons_of_pos hp]
      have e : ∀ X, A ++ f :: X = (A ++ [f]) ++ X := fun X => by simp
      rw [e B] at he ⊢
      rw [e (B.filter p)]
      exact paid_filter p B (A ++ [f]) (fun g hg => h g (by simp [hg])) he
    | false =>
      rw [List.filter_cons_of_neg (by rw [hp]; decide), paid_drop (h f (by simp) hp) he]
      exact paid_filter p B A (fun g hg => h g (by simp [hg])) (check_drop he)
theorem held_paid (c : Cover) : ∀ (P : List Pos) (u : Int), (heldL c u P).map Pos.paid = P.map Pos.paid
  | [], _ => rfl
  | p :: P, u => by rw [heldL, List.map_cons, held_paid c P, List.map_cons]
/-- All that is paid. -/
theorem sum_paid {c : Cover} {l : List File} (he : checkE c l = 0) : (sumP (ofL c l)).paid = amtS (paidR c l) := by
  have hr : c.rightB = true := by have := (chk_right he).1; rw [adjRight, Bool.and_eq_true] at this; exact this.1
  have hcv := cvRight_iff.1 hr
  have h1 := of_sum he
  have h2 := (sumP_pr (ofL c l) zeroP (of_pr he) (Int.le_refl _) (Int.le_refl _) (by simp only [zeroP]; omega)).1
  have h3 := posR_sum (R := paidR c l) (l := l) (fun r hm => by
    obtain ⟨k, _, h, _⟩ := (rows_ok he).2 r hm
    omega) l.length (Nat.le_refl _)
  rw [List.take_length, paidB_all fun r hm => by
    obtain ⟨k, h0, h, _⟩ := (rows_ok he).2 r hm
    omega] at h3
  have h4 : ((ofL c l).map Pos.paid).sum = ((posR (paidR c l) l).map Pos.paid).sum := by rw [ofL_eq he, held_paid]
  have h5 : (sumP (ofL c l)).paid = ((ofL c l).foldl addPos zeroP).paid := rfl
  have h6 : zeroP.paid = 0 := rfl
  rw [h5, h2, h4, h3, h6]
  omega
theorem paid_known {c : Cover} {l : List File} (he : checkE c l = 0) (d : Int) : (sumP (ofL c (knownR l d))).paid = amtS ((paidR c l).filter fun r => decide (r.2.1 ≤ d)) := by
  rw [sum_paid (check_known he d), ← paid_at he d]
  have h1 : knownR l d = [] ++ (knownL l d).filter fun f => decide (f.claim.booked ≤ d) := by
    rw [List.nil_append, knownL, knownR, List.filter_map]
    rfl
  have h2 := paid_filter (c := c) (fun f => decide (f.claim.booked ≤ d)) (knownL l d) [] (fun f hf hd => by
    obtain ⟨g, hg, rfl⟩ := List.mem_map.1 hf
    have hG := right_good (chk_right he).1 hg
    have hd : ¬ g.claim.booked ≤ d := of_decide_eq_false hd
    refine List.filter_eq_nil_iff.2 fun a ha => ?_
    have := hG.first a ha
    simp
    omega) (by rw [List.nil_append]; exact check_at he d)
  rw [h1, ← h2, List.nil_append]
theorem amt_mono {R : List (Int × Int × Int)} (h : ∀ r, r ∈ R → 0 ≤ r.2.2) {d x : Int} (hdx : d ≤ x) : 0 ≤ amtS (R.filter fun r => decide (r.2.1 ≤ d)) ∧ amtS (R.filter fun r => decide (r.2.1 ≤ d)) ≤ amtS (R.filter fun r => decide (r.2.1 ≤ x)) := by
  induction R with
  | nil => exact ⟨Int.le_refl _, Int.le_refl _⟩
  | cons r R ih =>
    have h1 := h r (by simp)
    obtain ⟨h2, h3⟩ := ih fun q hq => h q (by simp [hq])
    have e : ∀ Q : List (Int × Int × Int), amtS (r :: Q) = r.2.2 + amtS Q := fun Q => by simp [amtS]
    by_cases hd : r.2.1 ≤ d
    · rw [List.filter_cons_of_pos (by simpa using hd), List.filter_cons_of_pos (by simp; omega), e, e]
      omega
    · rw [List.filter_cons_of_neg (by simpa using hd)]
      by_cases hx : r.2.1 ≤ x
      · rw [List.filter_cons_of_pos (by simpa using hx), e]
        omega
      · rw [List.filter_cons_of_neg (by simpa using hx)]
        omega
theorem paid_rises {c : Cover} {l : List File} (he : checkE c l = 0) {d x : Int} (hdx : d ≤ x) : valD Pos.paid c l d ≤ valD Pos.paid c l x := by
  unfold valD
  rw [paid_known he, paid_known he]
  exact (amt_mono (fun r hr => by obtain ⟨_, _, _, h, _⟩ := (rows_ok he).2 r hr; omega) hdx).2
/-- Behind the last day a step holds its last value. -/
theorem valG_behind {y : Int} : ∀ (l : List (Int × Int)) (v x : Int), (∀ p, p ∈ l → p.1 ≤ y) → y ≤ x → valG v l x = valG v l y
  | [], _, _, _, _ => rfl
  | p :: l, v, x, h, hx => by
    have := h p (by simp)
    rw [valG, valG, if_pos (by omega), if_pos this]
    exact valG_behind l _ x (fun q hq => h q (by simp [hq])) hx
theorem right_le : ∀ {l : List (Int × Int)} {d0 v0 : Int}, rightG d0 v0 l = true → ∀ p, p ∈ l → p.1 ≤ 292194
  | [], _, _, _ => by simp
  | q :: l, d0, v0, h => by
    rw [rightG, Bool.and_eq_true, Bool.and_eq_true, Bool.and_eq_true, Bool.and_eq_true, decide_eq_true_eq] at h
    intro p hp
    rcases List.mem_cons.1 hp with rfl | hp
    · simpa using h.1.1.1.2
    · exact right_le h.2 p hp
theorem val_any {f : Pos → Int} {c : Cover} {l : List File} (h1 : rightG 0 0 (cvO f c l) = true) (h2 : ∀ x, x ≤ 292194 → valG 0 (cvO f c l) x = valD f c l x) (x : Int) : valG 0 (cvO f c l) x = valD f c l (min x 292194) := by
  by_cases hx : x ≤ 292194
  · rw [h2 x hx, Int.min_eq_left hx]
  · rw [valG_behind _ _ x (right_le h1) (by omega), h2 _ (Int.le_refl _), Int.min_eq_right (by omega)]

set_option maxHeartbeats 4000000 in
theorem boundsLaw (c : Cover) (l : List File) (d x : Int) (hc : c.ok) : Fun Try.prog 12 [.agg c.flat, filesA l, int d, int x] (bool true) := by
  by_cases hf : few20 l = true
  · by_cases hdx : d > x
    · refine fun_W mixed Try.func12 rfl (Nat.le_of_ble_eq_true rfl) (by kernel_rfl) fun cx hN hR hF hL => ?_; apply args_k; (case hA => (simp only [go_sem, ↓reduceIte]; rfl))
      (with_reducible repeat' (first|exact trivial|(apply byE;simp only [go_sem, ↓reduceIte, hf, eq_true hdx, decide_eq_true hdx];try rfl)|apply Aa|apply As|apply Au|apply Av|apply Aj|apply At|apply Aw|apply Ab|apply Ac|apply Ad|apply Ae|apply Af|apply Ag|apply Ah|apply Ai|apply Ak|apply Al|((first|apply An|apply Ao);(case hs=>with_unfolding_all rfl))|apply Am|apply Ap|apply Aq|apply Ar|apply Ax|apply Ay|apply Az|apply Ba|apply Bb|apply Bc|apply Bd|apply Be|apply Ca|apply Cb|apply Cc|apply Cd|apply Ce|apply Cf|apply Cg|apply Ch|apply Ci|apply Bf|apply Cj|apply Ck|apply Cl|apply Cm|apply Cn|apply Co|apply Cp|(apply byR;with_unfolding_all rfl)|((first|apply byKt|apply byKs);kernel_rfl)|(apply byL;simp only [econs,List.map_cons,List.map_nil,List.cons_append,List.nil_append,OpS.nm,OpS.reads,OpS.turns,Nat.reduceAdd];try with_unfolding_all rfl)|(apply byG;intro hg;try simp only [hg])|(apply byQ;intro hq;try simp only [hqs] at hq;try (exfalso;omega))|(apply byI;intro K hK)|(apply byH;repeat (first|exact dst_z rfl|apply dst_s))|(apply byN;unfold NapOK;kernel_rfl)|(apply byD;first|(simp;done)|(simp [go_sem];done))|(refine hK _ _ ?_;clear hK;clear K)|omega|(apply callX cl29 (awake_f);(case hl=>with_unfolding_all rfl))|(apply callX cl30 (few20_f l);(case hl=>with_unfolding_all rfl))|contradiction))
    · obtain ⟨h1, h2⟩ := few20_is hf
      have k1 := curves_f c l hc (by omega)
      by_cases he : cvE c l = 0
      · obtain ⟨p1, p2, p3⟩ := paid_curve he
        obtain ⟨q1, q2, q3⟩ := held_curve he
        have hck := cv_ok he
        have s1 := stepAt_f p1 p2 d
        have s2 := stepAt_f p1 p2 x
        have s3 := stepAt_f q1 q2 x
        rw [val_any p1 p3] at s1 s2
        rw [val_any q1 q3] at s3
        rw [he] at k1
        have b1 := sum_bd (check_known hck (min d 292194))
        have b2 := sum_bd (check_known hck (min x 292194))
        have b3 := paid_rises hck (d := min d 292194) (x := min x 292194) (by omega)
        unfold valD at s1 s2 s3 b3
        generalize (sumP (ofL c (knownR l (min d 292194)))).paid = a at *
        generalize (sumP (ofL c (knownR l (min d 292194)))).reserve = g at *
        generalize (sumP (ofL c (knownR l (min x 292194)))).paid = b at *
        generalize (sumP (ofL c (knownR l (min x 292194)))).reserve = h at *
        generalize cvO Pos.paid c l = A at *
        generalize cvO Pos.reserve c l = B at *
        obtain ⟨c1, c2, c3, c4, c5⟩ := c
        simp only at b1 b2
        have g1 : (0 ≤ a) = True := eq_true b1.1
        have g2 : (a ≤ b) = True := eq_true b3
        have g3 : (h ≥ 0) = True := eq_true b2.2.1
        have g4 : (b ≤ c3) = True := eq_true (by omega)
        have gw : IntKind.i64.wrap (b + h) = b + h := by rw [wrap_id] <;> omega
        have g5 : (b + h ≤ c3) = True := eq_true b2.2.2.1
        refine fun_W mixed Try.func12 rfl (Nat.le_of_ble_eq_true rfl) (by kernel_rfl) fun cx hN hR hF hL => ?_; apply args_k; (case hA => (simp only [go_sem, ↓reduceIte]; rfl))
        (with_reducible repeat' (first|exact trivial|(apply byE;simp only [go_sem, ↓reduceIte, hf, eq_false hdx, decide_eq_false hdx, g1, g2, g3, g4, gw, g5];try rfl)|apply Aa|apply As|apply Au|apply Av|apply Aj|apply At|apply Aw|apply Ab|apply Ac|apply Ad|apply Ae|apply Af|apply Ag|apply Ah|apply Ai|apply Ak|apply Al|((first|apply An|apply Ao);(case hs=>with_unfolding_all rfl))|apply Am|apply Ap|apply Aq|apply Ar|apply Ax|apply Ay|apply Az|apply Ba|apply Bb|apply Bc|apply Bd|apply Be|apply Ca|apply Cb|apply Cc|apply Cd|apply Ce|apply Cf|apply Cg|apply Ch|apply Ci|apply Bf|apply Cj|apply Ck|apply Cl|apply Cm|apply Cn|apply Co|apply Cp|(apply byR;with_unfolding_all rfl)|((first|apply byKt|apply byKs);kernel_rfl)|(apply byL;simp only [econs,List.map_cons,List.map_nil,List.cons_append,List.nil_append,OpS.nm,OpS.reads,OpS.turns,Nat.reduceAdd];try with_unfolding_all rfl)|(apply byG;intro hg;try simp only [hg])|(apply byQ;intro hq;try simp only [hqs] at hq;try (exfalso;omega))|(apply byI;intro K hK)|(apply byH;repeat (first|exact dst_z rfl|apply dst_s))|(apply byN;unfold NapOK;kernel_rfl)|(apply byD;first|(simp;done)|(simp [go_sem];done))|(refine hK _ _ ?_;clear hK;clear K)|omega|(apply callX cl29 (awake_f);(case hl=>with_unfolding_all rfl))|(apply callX cl30 (few20_f l);(case hl=>with_unfolding_all rfl))|(apply callX cl36 (k1);(case hl=>with_unfolding_all rfl))|(apply callX cl38 (s1);(case hl=>with_unfolding_all rfl))|(apply callX cl38 (s2);(case hl=>with_unfolding_all rfl))|(apply callX cl38 (s3);(case hl=>with_unfolding_all rfl))|contradiction))
      · have hz : ∀ f, cvO f c l = [] := fun f => by rw [cvO, if_neg he]
        rw [hz, hz] at k1
        refine fun_W mixed Try.func12 rfl (Nat.le_of_ble_eq_true rfl) (by kernel_rfl) fun cx hN hR hF hL => ?_; apply args_k; (case hA => (simp only [go_sem, ↓reduceIte]; rfl))
        (with_reducible repeat' (first|exact trivial|(apply byE;simp only [go_sem, ↓reduceIte, hf, eq_false hdx, decide_eq_false hdx, eq_false he, decide_eq_false he];try rfl)|apply Aa|apply As|apply Au|apply Av|apply Aj|apply At|apply Aw|apply Ab|apply Ac|apply Ad|apply Ae|apply Af|apply Ag|apply Ah|apply Ai|apply Ak|apply Al|((first|apply An|apply Ao);(case hs=>with_unfolding_all rfl))|apply Am|apply Ap|apply Aq|apply Ar|apply Ax|apply Ay|apply Az|apply Ba|apply Bb|apply Bc|apply Bd|apply Be|apply Ca|apply Cb|apply Cc|apply Cd|apply Ce|apply Cf|apply Cg|apply Ch|apply Ci|apply Bf|apply Cj|apply Ck|apply Cl|apply Cm|apply Cn|apply Co|apply Cp|(apply byR;with_unfolding_all rfl)|((first|apply byKt|apply byKs);kernel_rfl)|(apply byL;simp only [econs,List.map_cons,List.map_nil,List.cons_append,List.nil_append,OpS.nm,OpS.reads,OpS.turns,Nat.reduceAdd];try with_unfolding_all rfl)|(apply byG;intro hg;try simp only [hg])|(apply byQ;intro hq;try simp only [hqs] at hq;try (exfalso;omega))|(apply byI;intro K hK)|(apply byH;repeat (first|exact dst_z rfl|apply dst_s))|(apply byN;unfold NapOK;kernel_rfl)|(apply byD;first|(simp;done)|(simp [go_sem];done))|(refine hK _ _ ?_;clear hK;clear K)|omega|(apply callX cl29 (awake_f);(case hl=>with_unfolding_all rfl))|(apply callX cl30 (few20_f l);(case hl=>with_unfolding_all rfl))|(apply callX cl36 (k1);(case hl=>with_unfolding_all rfl))|contradiction))
  · simp only [Bool.not_eq_true] at hf
    refine fun_W mixed Try.func12 rfl (Nat.le_of_ble_eq_true rfl) (by kernel_rfl) fun cx hN hR hF hL => ?_; apply args_k; (case hA => (simp only [go_sem, ↓reduceIte]; rfl))
    (with_reducible repeat' (first|exact trivial|(apply byE;simp only [go_sem, ↓reduceIte, hf];try rfl)|apply Aa|apply As|apply Au|apply Av|apply Aj|apply At|apply Aw|apply Ab|apply Ac|apply Ad|apply Ae|apply Af|apply Ag|apply Ah|apply Ai|apply Ak|apply Al|((first|apply An|apply Ao);(case hs=>with_unfolding_all rfl))|apply Am|apply Ap|apply Aq|apply Ar|apply Ax|apply Ay|apply Az|apply Ba|apply Bb|apply Bc|apply Bd|apply Be|apply Ca|apply Cb|apply Cc|apply Cd|apply Ce|apply Cf|apply Cg|apply Ch|apply Ci|apply Bf|apply Cj|apply Ck|apply Cl|apply Cm|apply Cn|apply Co|apply Cp|(apply byR;with_unfolding_all rfl)|((first|apply byKt|apply byKs);kernel_rfl)|(apply byL;simp only [econs,List.map_cons,List.map_nil,List.cons_append,List.nil_append,OpS.nm,OpS.reads,OpS.turns,Nat.reduceAdd];try with_unfolding_all rfl)|(apply byG;intro hg;try simp only [hg])|(apply byQ;intro hq;try simp only [hqs] at hq;try (exfalso;omega))|(apply byI;intro K hK)|(apply byH;repeat (first|exact dst_z rfl|apply dst_s))|(apply byN;unfold NapOK;kernel_rfl)|(apply byD;first|(simp;done)|(simp [go_sem];done))|(refine hK _ _ ?_;clear hK;clear K)|omega|(apply callX cl29 (awake_f);(case hl=>with_unfolding_all rfl))|(apply callX cl30 (few20_f l);(case hl=>with_unfolding_all rfl))|contradiction))
end Go.Proofs.Ytjplhfmakghabaa.V
