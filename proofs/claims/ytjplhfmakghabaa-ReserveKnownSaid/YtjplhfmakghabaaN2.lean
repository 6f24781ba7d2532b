/- Chapters 8, 18, 19 as plain data: covers, files, what they have paid. -/
import Derived.Test.YtjplhfmakghabaaY1
set_option linter.unusedSimpArgs false
set_option linter.unusedVariables false
namespace Go.Proofs.Ytjplhfmakghabaa.V
open Go.RowKit
set_option maxRecDepth 100000

abbrev actsA (l : List Act) : AV := .sl false 3 (l.map Act.flat)
structure File where
  claim : Claim
  acts : List Act
deriving DecidableEq
@[go_sem] def File.flat (f : File) : List AV := [int f.claim.id, int f.claim.policy, int f.claim.peril, int f.claim.loss, int f.claim.booked, int f.claim.event, actsA f.acts]
abbrev filesA (l : List File) : AV := .sl false 7 (l.map File.flat)
structure Pos where
  gross : Int
  shown : Int
  paid : Int
  back : Int
  reserve : Int
  opn : Bool
deriving DecidableEq
@[go_sem] def Pos.flat (p : Pos) : List AV := [int p.gross, int p.shown, int p.paid, int p.back, int p.reserve, bool p.opn]
abbrev possA (l : List Pos) : AV := .sl false 6 (l.map Pos.flat)

/-! ### Covers -/

/-- An amount by parts of 10000, half-even. -/
def bpE (m bp : Int) : Int :=
  let q := m * bp / 10000
  let r := m * bp % 10000
  if r > 10000 - r ∨ (r = 10000 - r ∧ q % 2 = 1) then q + 1 else q
theorem bpE_bd {m bp : Int} (h1 : 0 ≤ m) (h2 : 1 ≤ bp) (h3 : bp ≤ 10000) : 0 ≤ bpE m bp ∧ bpE m bp ≤ m := by
  have g1 : 0 ≤ m * bp := Int.mul_nonneg h1 (by omega)
  have g2 : m * bp ≤ m * 10000 := Int.mul_le_mul_of_nonneg_left h3 h1
  unfold bpE
  simp only
  generalize m * bp = x at *
  split <;> omega
theorem bpE_mono {m n bp : Int} (h : m ≤ n) (h2 : 1 ≤ bp) : bpE m bp ≤ bpE n bp := by
  have g2 : m * bp ≤ n * bp := Int.mul_le_mul_of_nonneg_right h (by omega)
  unfold bpE
  simp only
  generalize m * bp = x at *
  generalize n * bp = y at *
  split <;> split <;> omega
/-- The share of one cent more is one cent more at most. -/
theorem bpE_step {m d bp : Int} (h0 : 0 ≤ d) (h2 : 1 ≤ bp) (h3 : bp ≤ 10000) : bpE (m + d) bp ≤ bpE m bp + d := by
  have g1 : (m + d) * bp = m * bp + d * bp := Int.add_mul _ _ _
  rcases (by omega : bp = 10000 ∨ bp ≤ 9999) with rfl | h4
  · unfold bpE
    simp only
    split <;> split <;> omega
  · have g2 : d * bp ≤ d * 9999 := Int.mul_le_mul_of_nonneg_left h4 h0
    have g3 : 0 ≤ d * bp := Int.mul_nonneg h0 (by omega)
    unfold bpE
    simp only
    rw [g1]
    generalize m * bp = x at *
    generalize d * bp = y at *
    rcases (by omega : d = 0 ∨ 1 ≤ d) with rfl | h5
    · split <;> split <;> omega
    · split <;> split <;> omega

def cvRight (p l a d s : Int) : Bool := decide (0 ≤ p) && decide (p < 8) && decide (1 ≤ s) && decide (s ≤ 10000) && decide (0 ≤ d) && decide (d < l) && decide (l ≤ a) && decide (a ≤ 1000000000000000)
def Cover.rightB (c : Cover) : Bool := cvRight c.peril c.limit c.agg c.ded c.share
theorem cvRight_iff {p l a d s : Int} : cvRight p l a d s = true ↔ 0 ≤ p ∧ p < 8 ∧ 1 ≤ s ∧ s ≤ 10000 ∧ 0 ≤ d ∧ d < l ∧ l ≤ a ∧ a ≤ 1000000000000000 := by
  simp [cvRight, and_assoc]
/-- What a loss is worth by itself. -/
def worth0 (c : Cover) (loss : Int) : Int := bpE (max (min (loss - c.ded) c.limit) 0) c.share
def pays (c : Cover) (loss used : Int) : Int := if c.rightB = true ∧ 0 ≤ loss ∧ 0 ≤ used then max (min (worth0 c loss) (c.agg - used)) 0 else 0
theorem worth0_bd {c : Cover} (h : c.rightB = true) (loss : Int) : 0 ≤ worth0 c loss ∧ worth0 c loss ≤ max (min (loss - c.ded) c.limit) 0 := by
  have h2 := cvRight_iff.1 h
  exact bpE_bd (by omega) (by omega) (by omega)
theorem worth0_mono {c : Cover} (h : c.rightB = true) {a b : Int} (hab : a ≤ b) : worth0 c a ≤ worth0 c b := by
  have h2 := cvRight_iff.1 h
  exact bpE_mono (by omega) (by omega)
theorem worth0_step {c : Cover} (h : c.rightB = true) {a d : Int} (hd : 0 ≤ d) : worth0 c (a + d) ≤ worth0 c a + d := by
  have h2 := cvRight_iff.1 h
  unfold worth0
  have h3 : max (min (a + d - c.ded) c.limit) 0 ≤ max (min (a - c.ded) c.limit) 0 + d := by omega
  exact Int.le_trans (bpE_mono h3 (by omega)) (bpE_step hd (by omega) (by omega))
theorem pays_bd {c : Cover} (h : c.rightB = true) (loss : Int) {used : Int} (h2 : used ≤ c.agg) : 0 ≤ pays c loss used ∧ pays c loss used ≤ c.agg - used ∧ pays c loss used ≤ worth0 c loss := by
  have := worth0_bd h loss
  unfold pays
  split <;> omega

/-! ### Files -/

structure St where
  gross : Int
  shown : Int
  back : Int
  opn : Bool
deriving DecidableEq
def stOne (s : St) (a : Act) : St :=
  if a.kind = 1 then ⟨a.amt, s.shown, s.back, s.opn⟩ else if a.kind = 2 then ⟨s.gross, IntKind.i64.wrap (s.shown + a.amt), s.back, s.opn⟩
  else if a.kind = 3 then ⟨s.gross, s.shown, IntKind.i64.wrap (s.back + a.amt), s.opn⟩ else if a.kind = 4 then ⟨s.gross, s.shown, s.back, false⟩ else if a.kind = 5 then ⟨s.gross, s.shown, s.back, true⟩ else s
def standS (l : List Act) : St := l.foldl stOne ⟨0, 0, 0, true⟩
theorem standS_snoc (l : List Act) (a : Act) : standS (l ++ [a]) = stOne (standS l) a := by simp [standS]
def standP (l : List Act) : Pos := ⟨max (standS l).gross (standS l).shown, (standS l).shown, 0, (standS l).back, 0, (standS l).opn⟩

def inR (n a b : Int) : Bool := decide (a ≤ n) && decide (n ≤ b)
theorem inR_iff {n a b : Int} : inR n a b = true ↔ a ≤ n ∧ n ≤ b := by simp [inR]
def Claim.formedB (c : Claim) : Bool := (inR c.id 1 1000000000 && inR c.policy 1 1000000000 && inR c.event 0 1000000000) && (inR c.loss 1 292194 && inR c.booked 1 292194) && inR c.peril 0 7
def Act.rightB (a : Act) : Bool := inR a.booked 1 292194 && inR a.kind 1 5 && inR a.amt 0 (if a.kind = 4 ∨ a.kind = 5 then 0 else 1000000000000000)
def lastB (f : File) : Int := match f.acts.getLast? with | some a => a.booked | none => f.claim.booked
def overA (s : St) (a : Act) : Bool := (decide (a.kind = 2) && decide (a.amt > IntKind.i64.wrap (1000000000000000 - s.shown))) || (decide (a.kind = 3) && decide (a.amt > IntKind.i64.wrap (1000000000000000 - s.back)))
/-- Why an act is not put into a file; 0: it is. -/
def putE (f : File) (a : Act) : Int :=
  if a.rightB = false then 1 else if 2000 ≤ f.acts.length then 2 else if a.booked < lastB f then 4 else if (standS f.acts).opn = decide (a.kind = 5) then 10 else if overA (standS f.acts) a = true then 5 else 0
def madeL (c : Claim) : List Act → List Act → Bool
  | _, [] => true
  | p, a :: r => decide (putE ⟨c, p⟩ a = 0) && madeL c (p ++ [a]) r
def File.made (f : File) : Bool := madeL f.claim [] f.acts

/-- The amounts of a kind. -/
def sumK (k : Int) (p : List Act) : Int := (p.map fun a => if a.kind = k then a.amt else 0).sum
theorem sumK_snoc (k : Int) (p : List Act) (a : Act) : sumK k (p ++ [a]) = sumK k p + if a.kind = k then a.amt else 0 := by simp [sumK]
/-- A file that was made so. -/
structure Good (c : Claim) (p : List Act) : Prop where
  right : ∀ a, a ∈ p → a.rightB = true
  srt : p.Pairwise fun a b => a.booked ≤ b.booked
  first : ∀ a, a ∈ p → c.booked ≤ a.booked
  shown : 0 ≤ (standS p).shown ∧ (standS p).shown ≤ 1000000000000000
  back : 0 ≤ (standS p).back ∧ (standS p).back ≤ 1000000000000000
  gross : 0 ≤ (standS p).gross ∧ (standS p).gross ≤ 1000000000000000
  len : p.length ≤ 2000
  shownE : (standS p).shown = sumK 2 p
  backE : (standS p).back = sumK 3 p

theorem Act.right_iff {a : Act} : a.rightB = true ↔ 1 ≤ a.booked ∧ a.booked ≤ 292194 ∧ 1 ≤ a.kind ∧ a.kind ≤ 5 ∧ 0 ≤ a.amt ∧ a.amt ≤ (if a.kind = 4 ∨ a.kind = 5 then 0 else 1000000000000000) := by
  simp only [Act.rightB, Bool.and_eq_true, inR_iff]
  grind
theorem putE_ok {f : File} {a : Act} (h : putE f a = 0) : a.rightB = true ∧ f.acts.length < 2000 ∧ lastB f ≤ a.booked ∧ (standS f.acts).opn = !decide (a.kind = 5) ∧ overA (standS f.acts) a = false := by
  unfold putE at h
  split at h; · cases h
  split at h; · cases h
  split at h; · cases h
  split at h; · cases h
  split at h; · cases h
  rename_i h1 h2 h3 h4 h5
  refine ⟨by simpa using h1, by omega, by omega, ?_, by simpa using h5⟩
  cases h6 : (standS f.acts).opn <;> cases h7 : decide (a.kind = 5) <;> simp_all
theorem lastB_ge {c : Claim} {p : List Act} (h1 : p.Pairwise fun a b => a.booked ≤ b.booked) : ∀ a, a ∈ p → a.booked ≤ lastB ⟨c, p⟩ := by
  intro a ha
  rcases List.eq_nil_or_concat p with rfl | ⟨q, x, rfl⟩
  · simp at ha
  · rw [List.concat_eq_append] at *
    have hl : lastB ⟨c, q ++ [x]⟩ = x.booked := by simp [lastB]
    rw [hl]
    rw [List.pairwise_append] at h1
    rcases List.mem_append.1 ha with ha | ha
    · exact h1.2.2 a ha x (by simp)
    · simp at ha; subst ha; exact Int.le_refl _
theorem stOne_amt {s : St} {a : Act} (hr : a.rightB = true) (h1 : 0 ≤ s.shown ∧ s.shown ≤ 1000000000000000) (h2 : 0 ≤ s.back ∧ s.back ≤ 1000000000000000) (h3 : 0 ≤ s.gross ∧ s.gross ≤ 1000000000000000) (ho : overA s a = false) :
    (stOne s a).shown = s.shown + (if a.kind = 2 then a.amt else 0) ∧ (stOne s a).back = s.back + (if a.kind = 3 then a.amt else 0) ∧ (0 ≤ (stOne s a).shown ∧ (stOne s a).shown ≤ 1000000000000000) ∧ (0 ≤ (stOne s a).back ∧ (stOne s a).back ≤ 1000000000000000) ∧ 0 ≤ (stOne s a).gross ∧ (stOne s a).gross ≤ 1000000000000000 := by
  have h := Act.right_iff.1 hr
  have w1 : IntKind.i64.wrap (1000000000000000 - s.shown) = 1000000000000000 - s.shown := by rw [wrap_id] <;> omega
  have w2 : IntKind.i64.wrap (1000000000000000 - s.back) = 1000000000000000 - s.back := by rw [wrap_id] <;> omega
  have hm : a.amt ≤ 1000000000000000 := by
    have := h.2.2.2.2.2
    split at this <;> omega
  have w3 : IntKind.i64.wrap (s.shown + a.amt) = s.shown + a.amt := by rw [wrap_id] <;> omega
  have w4 : IntKind.i64.wrap (s.back + a.amt) = s.back + a.amt := by rw [wrap_id] <;> omega
  unfold overA at ho
  rw [w1, w2, Bool.or_eq_false_iff, Bool.and_eq_false_iff, Bool.and_eq_false_iff] at ho
  simp only [decide_eq_false_iff_not] at ho
  unfold stOne
  rw [w3, w4]
  by_cases k1 : a.kind = 1
  · simp only [k1, if_true]; simp; omega
  · by_cases k2 : a.kind = 2
    · simp only [k2]; simp; omega
    · by_cases k3 : a.kind = 3
      · simp only [k3]; simp; omega
      · simp only [k1, k2, k3, if_false, Int.add_zero]
        split
        · exact ⟨rfl, rfl, h1, h2, h3⟩
        · split
          · exact ⟨rfl, rfl, h1, h2, h3⟩
          · exact ⟨rfl, rfl, h1, h2, h3⟩
theorem Good.nil (c : Claim) : Good c [] := ⟨by simp, .nil, by simp, by simp [standS], by simp [standS], by simp [standS], by simp, by simp [standS, sumK], by simp [standS, sumK]⟩
theorem Good.snoc {c : Claim} {p : List Act} {a : Act} (h : Good c p) (ha : putE ⟨c, p⟩ a = 0) : Good c (p ++ [a]) := by
  obtain ⟨h1, h2, h3, h4, h5⟩ := putE_ok ha
  have hs := stOne_amt h1 h.shown h.back h.gross h5
  refine ⟨fun x hx => ?_, ?_, fun x hx => ?_, by rw [standS_snoc]; exact hs.2.2.1, by rw [standS_snoc]; exact hs.2.2.2.1, by rw [standS_snoc]; exact hs.2.2.2.2, by simp at h2 ⊢; omega, by rw [standS_snoc, sumK_snoc, hs.1, h.shownE], by rw [standS_snoc, sumK_snoc, hs.2.1, h.backE]⟩
  · rcases List.mem_append.1 hx with hx | hx
    · exact h.right x hx
    · simp at hx; subst hx; exact h1
  · rw [List.pairwise_append]
    exact ⟨h.srt, by simp, fun x hx y hy => by simp at hy; subst hy; exact Int.le_trans (lastB_ge h.srt x hx) h3⟩
  · rcases List.mem_append.1 hx with hx | hx
    · exact h.first x hx
    · simp at hx; subst hx
      rcases List.eq_nil_or_concat p with rfl | ⟨q, y, rfl⟩
      · simpa [lastB] using h3
      · rw [List.concat_eq_append] at *
        have hl : lastB ⟨c, q ++ [y]⟩ = y.booked := by simp [lastB]
        rw [hl] at h3
        exact Int.le_trans (h.first y (by simp)) h3
theorem madeL_good {c : Claim} : ∀ {r p : List Act}, Good c p → madeL c p r = true → Good c (p ++ r)
  | [], p, h, _ => by simpa using h
  | a :: r, p, h, hm => by
    rw [madeL, Bool.and_eq_true, decide_eq_true_eq] at hm
    have := madeL_good (h.snoc hm.1) hm.2
    simpa using this
theorem made_good {f : File} (h : f.made = true) : Good f.claim f.acts := by
  have := madeL_good (Good.nil f.claim) h
  simpa using this
theorem madeL_app {c : Claim} : ∀ {r s p : List Act}, madeL c p (r ++ s) = (madeL c p r && madeL c (p ++ r) s)
  | [], s, p => by simp [madeL]
  | a :: r, s, p => by simp [madeL, madeL_app (r := r) (s := s), Bool.and_assoc]
theorem made_put {f : File} {a : Act} (h : f.made = true) : (⟨f.claim, f.acts ++ [a]⟩ : File).made = decide (putE f a = 0) := by
  unfold File.made at h ⊢
  simp only
  rw [madeL_app, h]
  simp [madeL]

/-- Whether a file may be, of a cover's peril. -/
def okFile (p : Int) (f : File) : Bool := f.claim.formedB && decide (f.claim.peril = p) && f.made
def adjRight (c : Cover) (l : List File) : Bool := c.rightB && l.all (okFile c.peril)
def actsN (l : List File) : Nat := (l.map fun f => f.acts.length).sum
theorem actsN_snoc {l : List File} {i : Nat} {f : File} (h : l[i]? = some f) : actsN (l.take (i + 1)) = actsN (l.take i) + f.acts.length := by
  rw [List.take_add_one, h, actsN, List.map_append, List.sum_append]
  simp [actsN]
theorem actsN_take (l : List File) (i : Nat) : actsN (l.take i) ≤ actsN l := by
  have : actsN l = actsN (l.take i) + actsN (l.drop i) := by
    conv => lhs; rw [← List.take_append_drop i l]
    unfold actsN
    rw [List.map_append, List.sum_append]
  omega

/-! ### The order of acts -/

def stepsL (k : Nat) : List File → List Stp
  | [] => []
  | f :: l => f.acts.map (fun a => ⟨k, a⟩) ++ stepsL (k + 1) l
theorem stepsL_len (k : Nat) (l : List File) : (stepsL k l).length = actsN l := by
  induction l generalizing k with
  | nil => rfl
  | cons f l ih => simp [stepsL, ih, actsN]
theorem stepsL_app (k : Nat) (a b : List File) : stepsL k (a ++ b) = stepsL k a ++ stepsL (k + a.length) b := by
  induction a generalizing k with
  | nil => simp [stepsL]
  | cons f a ih => simp [stepsL, ih, Nat.add_assoc, Nat.add_comm 1]
theorem stepsL_mem {k : Nat} {l : List File} {s : Stp} (h : s ∈ stepsL k l) : ∃ i f, l[i]? = some f ∧ s.file = (k + i : Nat) ∧ s.act ∈ f.acts := by
  induction l generalizing k with
  | nil => simp [stepsL] at h
  | cons f l ih =>
    rw [stepsL, List.mem_append, List.mem_map] at h
    rcases h with ⟨a, ha, rfl⟩ | h
    · exact ⟨0, f, rfl, by simp, ha⟩
    · obtain ⟨i, g, h1, h2, h3⟩ := ih h
      exact ⟨i + 1, g, by simpa using h1, by rw [h2]; congr 1; omega, h3⟩
/-- The acts of all files in their order. -/
def ordL (l : List File) : List Stp := isort ltT (stepsL 0 l)

/-! ### What is paid -/

structure PS where
  shown : List Int
  paid : List Int
  all : Int
  out : List (Int × Int × Int)
def payOne (c : Cover) (s : PS) (x : Stp) : PS :=
  if x.act.kind = 2 then
    let k := x.file.toNat
    let sh := s.shown.getD k 0 + x.act.amt
    let pk := s.paid.getD k 0
    let w := pays c sh (s.all - pk)
    if w - pk ≤ 0 then ⟨s.shown.set k sh, s.paid, s.all, s.out⟩ else ⟨s.shown.set k sh, s.paid.set k w, s.all + (w - pk), s.out ++ [(x.file, x.act.booked, w - pk)]⟩
  else s
def ps0 (n : Nat) : PS := ⟨List.replicate n 0, List.replicate n 0, 0, []⟩
def payL (c : Cover) (n : Nat) (L : List Stp) : PS := L.foldl (payOne c) (ps0 n)
theorem payL_snoc (c : Cover) (n : Nat) (L : List Stp) (x : Stp) : payL c n (L ++ [x]) = payOne c (payL c n L) x := by simp [payL]
end Go.Proofs.Ytjplhfmakghabaa.V
