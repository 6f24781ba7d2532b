/- Plain: what moved, and back; changes in whatever order; one change more. Chapter 13's laws: changes in whatever order; what was known never changes. Chapter 13's laws: changes in whatever order they were booked. Arguments opened: what came in, as plain data. Arguments opened: more kinds of what comes in. -/
import Derived.Test.YtkonljmmdifnaaaGreatG16
import Derived.Test.YtkonljmmdifnaaaGreatG6
import Derived.ProofKit
import Derived.OpenShut
import Derived.ChangeOld
import Derived.Carry
import Derived.Deep.Slices
import Derived.Deep.Fields
import Derived.SizedLaws
set_option linter.unusedSimpArgs false
set_option linter.unusedVariables false
namespace Go.Proofs.YtkonljmmdifnaaaGreat.V
set_option maxRecDepth 100000

theorem anyIn_iff {l : Sps} {d : Int} (h : ∀ p, p ∈ l → has p.1 p.2 = true) : (l.any fun p => spanIn p.1 p.2 d) = true ↔ inL l d := by
  rw [List.any_eq_true]
  constructor
  · rintro ⟨p, hp, hd⟩
    exact ⟨p, hp, (spanIn_iff.1 hd).2⟩
  · rintro ⟨p, hp, hd⟩
    exact ⟨p, hp, spanIn_iff.2 ⟨h p hp, hd⟩⟩
section
variable {h : History} {T : List Version} {a b : Int}
theorem mv_ok (he : mvE h T a b = 0) : Apt (mvL h T a b) ∧ (∀ p, p ∈ mvL h T a b → has p.1 p.2 = true) ∧ ∀ d, inL (mvL h T a b) d ↔ unlike (knownH h a) (knownH h b) d := by
  obtain ⟨ha, hb⟩ := mvE_ok he
  obtain ⟨-, ha1, ha2⟩ := kE_ok ha
  obtain ⟨-, hb1, hb2⟩ := kE_ok hb
  rw [mvL_ref he]
  refine ⟨(joinL_ok _).1, (joinL_ok _).2.1, fun d => ?_⟩
  rw [ha2, hb2]
  exact moved_in (g := knownH h a) (k := knownH h b) rfl ha1 hb1 d
theorem mvL_no (he : mvE h T a b ≠ 0) : mvL h T a b = [] := by rw [mvL, if_neg he]
theorem unlike_sym {g k : History} (ht : g.terms = k.terms) (d : Int) : unlike g k d ↔ unlike k g d := by
  unfold unlike
  rw [ht]
  exact and_congr_right fun _ => ne_comm
theorem mvE_sym : mvE h T a b = 0 ↔ mvE h T b a = 0 := by
  constructor <;> intro he
  · obtain ⟨ha, hb⟩ := mvE_ok he; rw [mvE, if_pos hb]; exact ha
  · obtain ⟨ha, hb⟩ := mvE_ok he; rw [mvE, if_pos hb]; exact ha
theorem mvL_sym : mvL h T a b = mvL h T b a := by
  by_cases he : mvE h T a b = 0
  · have he2 := mvE_sym.1 he
    obtain ⟨a1, a2, a3⟩ := mv_ok he
    obtain ⟨b1, b2, b3⟩ := mv_ok he2
    exact apt_unique a1 b1 fun d => by rw [a3, b3]; exact unlike_sym (g := knownH h a) (k := knownH h b) rfl d
  · rw [mvL_no he, mvL_no fun e => he (mvE_sym.2 e)]
theorem apt_none {l : Sps} (h : Apt l) (hn : ∀ d, ¬ inL l d) : l = [] := by
  rcases l with _ | ⟨p, l⟩
  · rfl
  · have := (Apt.cons.1 h).1
    exact absurd (inL_cons.2 (.inl ⟨Int.le_refl _, this⟩)) (hn p.1)
theorem mvL_self : mvL h T a a = [] := by
  by_cases he : mvE h T a a = 0
  · obtain ⟨a1, a2, a3⟩ := mv_ok he
    refine apt_none a1 fun d hd => ?_
    exact ((a3 d).1 hd).2 rfl
  · exact mvL_no he
/-- What moved over a third day. -/
theorem mv_over {c : Int} (hab : mvE h T a b = 0) (hbc : mvE h T b c = 0) : mvE h T a c = 0 ∧ ∀ d, inL (mvL h T a c) d → inL (joinL (mvL h T a b ++ mvL h T b c)) d := by
  obtain ⟨ha, hb⟩ := mvE_ok hab
  obtain ⟨-, hc⟩ := mvE_ok hbc
  have hac : mvE h T a c = 0 := by rw [mvE, if_pos ha]; exact hc
  obtain ⟨a1, a2, a3⟩ := mv_ok hab
  obtain ⟨b1, b2, b3⟩ := mv_ok hbc
  obtain ⟨c1, c2, c3⟩ := mv_ok hac
  refine ⟨hac, fun d hd => ?_⟩
  have hall : hasL (mvL h T a b ++ mvL h T b c) = mvL h T a b ++ mvL h T b c := hasL_all fun p hp => (List.mem_append.1 hp).elim (a2 p) (b2 p)
  rw [(joinL_ok _).2.2 d, hall, inL_app, a3, b3]
  have hu := (c3 d).1 hd
  by_cases e : fAt (knownH h a) d = fAt (knownH h b) d
  · refine .inr ⟨hu.1, fun e2 => hu.2 (e.trans e2)⟩
  · exact .inl ⟨hu.1, e⟩
/-- Nothing moved ahead of the first day of what was booked between. -/
theorem mv_first (he : mvE h T a b = 0) (hab : a ≤ b) {f : Int} (hf : ∀ c, c ∈ h.changes → a < c.booked → c.booked ≤ b → f ≤ c.day) {p : Int × Int} {l : Sps} (hl : mvL h T a b = p :: l) : f ≤ p.1 := by
  obtain ⟨a1, a2, a3⟩ := mv_ok he
  have h1 := has_iff.1 (a2 p (by rw [hl]; simp))
  have hd : inL (mvL h T a b) p.1 := by rw [hl]; exact inL_cons.2 (.inl ⟨Int.le_refl _, h1.2.1⟩)
  rcases Int.lt_or_le p.1 f with hq | hq
  · exact absurd (fAt_same hab fun c hc h2 h3 => by have := hf c hc h2 h3; omega) ((a3 _).1 hd).2
  · exact hq
end

/-! ### How many days two spans share -/

def shareN (s u : Int × Int) : Int := many (cA s.1 s.2 u.1 u.2) (cB s.1 s.2 u.1 u.2)
theorem share_eq {a b : Int} {u : Int × Int} (ha : 1 ≤ a) (hb : b ≤ 292195) (hu : has u.1 u.2 = true) : shareN (a, b) u = if max a u.1 < min b u.2 then min b u.2 - max a u.1 else 0 := by
  have hu2 := has_iff.1 hu
  simp only [shareN, cA, cB, hu, Bool.and_true, Bool.and_eq_true]
  by_cases hc : max a u.1 < min b u.2
  · have h1 : has a b = true := has_iff.2 (by omega)
    have h2 : has (max a u.1) (min b u.2) = true := has_iff.2 (by omega)
    simp [h1, h2, many, hc]
  · have h2 : has (max a u.1) (min b u.2) = false := by rw [Bool.eq_false_iff, Ne, has_iff]; omega
    simp [h2, hc, many]
theorem share_bd (s u : Int × Int) : 0 ≤ shareN s u ∧ shareN s u ≤ 292195 := by
  unfold shareN many
  split
  · rename_i h; have := has_iff.1 h; omega
  · omega
theorem share_sum : ∀ {both : Sps}, Apt both → (∀ u, u ∈ both → has u.1 u.2 = true) → ∀ {a b : Int}, 1 ≤ a → a ≤ b → b ≤ 292195 → (∀ d, a ≤ d → d < b → inL both d) → (both.map (shareN (a, b))).sum = b - a
  | [], _, _, a, b, h1, h2, h3, hin => by
    rcases Int.lt_or_eq_of_le h2 with h | h
    · exact absurd (hin a (Int.le_refl _) h) inL_nil
    · simp; omega
  | u :: r, hA, hh, a, b, h1, h2, h3, hin => by
    obtain ⟨A1, A2, A3⟩ := Apt.cons.1 hA
    have hu := hh u (by simp)
    have hr : ∀ q, q ∈ r → has q.1 q.2 = true := fun q hq => hh q (by simp [hq])
    have e := share_eq (a := a) (b := b) h1 h3 hu
    have zero : (∀ q, q ∈ r → ¬ max a q.1 < min b q.2) → (r.map (shareN (a, b))).sum = 0 := fun hz => by
      have : ∀ (l : Sps), (∀ q, q ∈ l → q ∈ r) → (l.map (shareN (a, b))).sum = 0 := by
        intro l
        induction l with
        | nil => intro _; rfl
        | cons q l ih =>
          intro hq
          rw [List.map_cons, List.sum_cons, ih fun x hx => hq x (by simp [hx]), share_eq h1 h3 (hr q (hq q (by simp))), if_neg (hz q (hq q (by simp)))]
          rfl
      exact this r fun _ h => h
    rw [List.map_cons, List.sum_cons, e]
    rcases Int.lt_or_eq_of_le h2 with h | h
    · rcases inL_cons.1 (hin a (Int.le_refl _) h) with ⟨k1, k2⟩ | hk
      · have hb : b ≤ u.2 := by
          rcases Int.lt_or_le u.2 b with hq | hq
          · rcases inL_cons.1 (hin u.2 (by omega) hq) with ⟨-, k4⟩ | ⟨q, hq1, k3, k4⟩
            · omega
            · have := A2 q hq1; omega
          · exact hq
        rw [zero fun q hq => by have := A2 q hq; omega, if_pos (by omega)]
        omega
      · obtain ⟨q, hq1, k3, k4⟩ := hk
        have := A2 q hq1
        rw [if_neg (by omega), share_sum A3 hr h1 h2 h3 fun d hd1 hd2 => by
          rcases inL_cons.1 (hin d hd1 hd2) with ⟨-, k6⟩ | hk
          · omega
          · exact hk]
        omega
    · subst h
      rw [zero fun q _ => by omega, if_neg (by omega)]
      omega

/-! ### Changes booked in another order -/

/-- Without the day of booking. -/
def strip (c : Change) : Change := ⟨0, c.day, c.kind, c.rk, c.rv, c.ra, c.rz, c.covers, c.way⟩
def setB (c : Change) (b : Int) : Change := ⟨b, c.day, c.kind, c.rk, c.rv, c.ra, c.rz, c.covers, c.way⟩
theorem strip_setB (c : Change) (b : Int) : strip (setB c b) = strip c := rfl
theorem cutG_strip : ∀ {L : List Change} {out : List Sl} {a t : Int} {s : St}, cutG out a s (L.map strip) t = cutG out a s L t
  | [], _, _, _, _ => rfl
  | c :: L, out, a, t, s => by rw [List.map_cons, cutG, cutG, cutG_strip]; rfl
theorem isort_strip (L : List Change) : (isort ltD L).map strip = isort ltD (L.map strip) := isort_map _ fun _ _ _ _ => rfl
theorem cutH_strip {g k : History} (ht : g.terms = k.terms) (h : (isort ltD g.changes).map strip = (isort ltD k.changes).map strip) : cutH g = cutH k := by
  rw [cutH, cutH, chO_eq, chO_eq, ht, ← cutG_strip, h, cutG_strip]
theorem ofE_same {g k : History} {T : List Version} (ht : g.terms = k.terms) (hr : histR g = histR k) (hc : cutH g = cutH k) : ofE g T = ofE k T ∧ ofS g T = ofS k T := by
  have e : ofE g T = ofE k T := by rw [ofE, ofE, ht, hr, hc]
  exact ⟨e, by rw [ofS, ofS, e, ht, hc]⟩
/-- The changes from the k-th one on come first, each booked as the one that had its place. -/
def rot (L : List Change) (k : Nat) : List Change := L.drop k ++ L.take k
def reb : List Change → List Change → Nat → List Change
  | m :: M, l :: L, i + 1 => setB m l.booked :: reb M L i
  | M, _, _ => M
theorem rot_len (L : List Change) (k : Nat) : (rot L k).length = L.length := by rw [rot, List.length_append, List.length_drop, List.length_take]; omega
theorem reb_len : ∀ (M L : List Change) (i : Nat), (reb M L i).length = M.length
  | m :: M, l :: L, i + 1 => by rw [reb, List.length_cons, reb_len M L i, List.length_cons]
  | [], _, _ => by simp [reb]
  | m :: M, [], i => by simp [reb]
  | m :: M, l :: L, 0 => by simp [reb]
theorem reb_zero (M L : List Change) : reb M L 0 = M := by
  rcases M with _ | ⟨m, M⟩ <;> rcases L with _ | ⟨l, L⟩ <;> simp [reb]
theorem reb_at : ∀ {M L : List Change} {i : Nat} {c d : Change}, M[i]? = some c → L[i]? = some d → (reb M L i)[i]? = some c ∧ (reb M L i).set i (setB c d.booked) = reb M L (i + 1)
  | [], _, _, _, _, h, _ => by simp at h
  | m :: M, [], _, _, _, _, h => by simp at h
  | m :: M, l :: L, 0, c, d, h1, h2 => by
    simp at h1 h2
    subst h1 h2
    rw [reb_zero, reb, reb_zero]
    exact ⟨rfl, rfl⟩
  | m :: M, l :: L, i + 1, c, d, h1, h2 => by
    have h := reb_at (M := M) (L := L) (i := i) (by simpa using h1) (by simpa using h2)
    rw [reb]
    refine ⟨by simpa using h.1, ?_⟩
    rw [List.set_cons_succ, h.2, reb]
theorem reb_mem : ∀ {M L : List Change} {i : Nat} {c : Change}, c ∈ reb M L i → ∃ x, x ∈ M ∧ (c = x ∨ ∃ y, y ∈ L ∧ c = setB x y.booked)
  | m :: M, l :: L, i + 1, c, h => by
    rw [reb] at h
    rcases List.mem_cons.1 h with rfl | h
    · exact ⟨m, by simp, .inr ⟨l, by simp, rfl⟩⟩
    · obtain ⟨x, hx, hq⟩ := reb_mem h
      refine ⟨x, by simp [hx], hq.imp id ?_⟩
      rintro ⟨y, hy, e⟩
      exact ⟨y, by simp [hy], e⟩
  | [], _, _, c, h => by simp [reb] at h
  | m :: M, [], i, c, h => ⟨c, by simpa [reb] using h, .inl rfl⟩
  | m :: M, l :: L, 0, c, h => ⟨c, by simpa [reb] using h, .inl rfl⟩
theorem reb_strip : ∀ (M L : List Change) (i : Nat), (reb M L i).map strip = M.map strip
  | m :: M, l :: L, i + 1 => by rw [reb, List.map_cons, reb_strip M L i, List.map_cons, strip_setB]
  | [], _, _ => by simp [reb]
  | m :: M, [], i => by simp [reb]
  | m :: M, l :: L, 0 => by simp [reb]
theorem good_mem {t : Terms} : ∀ {l : List Change} {last : Int}, goodC t last l = true → (∀ c, c ∈ l → c.right = true ∧ spanIn t.from_ t.to_ c.day = true ∧ c.booked ≤ lastB last l) ∧ last ≤ lastB last l
  | [], last, _ => ⟨by simp, Int.le_refl _⟩
  | c :: l, last, h => by
    simp only [goodC, Bool.and_eq_true, Bool.not_eq_true', Bool.or_eq_false_iff, decide_eq_false_iff_not, Bool.not_eq_false'] at h
    obtain ⟨⟨⟨h1, h2⟩, h3⟩, h4⟩ := h
    obtain ⟨k1, k2⟩ := good_mem h4
    have e : lastB last (c :: l) = lastB c.booked l := by
      rcases List.eq_nil_or_concat l with rfl | ⟨m, x, rfl⟩
      · simp [lastB]
      · rw [List.concat_eq_append, lastB_snoc, ← List.cons_append, lastB_snoc]
    rw [e]
    refine ⟨fun x hx => ?_, by omega⟩
    rcases List.mem_cons.1 hx with rfl | hx
    · exact ⟨h2, h3, k2⟩
    · exact k1 x hx
theorem right_booked {c : Change} (h : c.right = true) : 1 ≤ c.booked ∧ c.booked ≤ 292194 := by
  simp only [Change.right, isDay, Bool.and_eq_true, decide_eq_true_eq] at h
  omega
theorem hist_right {h : History} (hk : histOk h = true) : histR h = true ∧ 1 ≤ h.booked ∧ h.booked ≤ 292194 := by
  simp only [histOk, Bool.and_eq_true, decide_eq_true_eq, bindOk, Bool.not_eq_true', Bool.or_eq_false_iff, decide_eq_false_iff_not, Bool.not_eq_false', isDay] at hk
  obtain ⟨⟨⟨⟨h1, h2⟩, h3⟩, h4⟩, h5⟩ := hk
  obtain ⟨k1, k2⟩ := good_mem h5
  refine ⟨histR_iff.2 ⟨h3, by omega, fun c hc => ⟨(k1 c hc).1, (k1 c hc).2.1⟩⟩, by omega, by omega⟩
theorem known_all {h : History} {b : Int} (hb : ∀ c, c ∈ h.changes → c.booked ≤ b) : knownH h b = h := by
  rw [knownH, List.filter_eq_self.2 fun c hc => by simpa using hb c hc]
theorem setB_right {c : Change} {b : Int} (hc : c.right = true) (h1 : 1 ≤ b) (h2 : b ≤ 292194) : (setB c b).right = true := by
  have e : kindRight (setB c b) = kindRight c := rfl
  simp only [Change.right, isDay, Bool.and_eq_true, decide_eq_true_eq] at hc ⊢
  rw [e]
  exact ⟨⟨⟨h1, h2⟩, hc.1.2⟩, hc.2⟩
/-- In whatever order they were booked. -/
theorem order_any {h : History} {T : List Version} {k : Nat} (hk : histOk h = true) (hd : h.changes.Pairwise fun c d => c.day ≠ d.day) :
    kE ⟨h.id, h.booked, h.terms, reb (rot h.changes k) h.changes h.changes.length⟩ T 292194 = kE h T 292194 ∧ kS ⟨h.id, h.booked, h.terms, reb (rot h.changes k) h.changes h.changes.length⟩ T 292194 = kS h T 292194 := by
  obtain ⟨hr, b1, b2⟩ := hist_right hk
  obtain ⟨r1, r2, r3⟩ := histR_iff.1 hr
  have hmem : ∀ c, c ∈ reb (rot h.changes k) h.changes h.changes.length → ∃ x b, x ∈ h.changes ∧ c = setB x b ∧ 1 ≤ b ∧ b ≤ 292194 := fun c hc => by
    obtain ⟨x, hx, hq⟩ := reb_mem hc
    have hx2 : x ∈ h.changes := by
      rcases List.mem_append.1 hx with hx | hx
      · exact List.mem_of_mem_drop hx
      · exact List.mem_of_mem_take hx
    rcases hq with rfl | ⟨y, hy, rfl⟩
    · have := right_booked (r3 _ hx2).1
      exact ⟨c, c.booked, hx2, rfl, this⟩
    · have := right_booked (r3 _ hy).1
      exact ⟨x, y.booked, hx2, rfl, this⟩
  have hx : histR ⟨h.id, h.booked, h.terms, reb (rot h.changes k) h.changes h.changes.length⟩ = true := by
    refine histR_iff.2 ⟨r1, ?_, fun c hc => ?_⟩
    · show ((reb (rot h.changes k) h.changes h.changes.length).length : Int) ≤ 2000
      rw [reb_len, rot_len]; exact r2
    · obtain ⟨x, b, hx, rfl, q1, q2⟩ := hmem c hc
      exact ⟨setB_right (r3 x hx).1 q1 q2, (r3 x hx).2⟩
  have hcut : cutH ⟨h.id, h.booked, h.terms, reb (rot h.changes k) h.changes h.changes.length⟩ = cutH h := by
    refine cutH_strip rfl ?_
    show (isort ltD (reb (rot h.changes k) h.changes h.changes.length)).map strip = _
    have e : isort ltD (rot h.changes k) = isort ltD h.changes := by
      have := isort_rot sw_ltD (h.changes.take k) (h.changes.drop k) (by
        rw [List.take_append_drop]
        exact hd.imp fun hne => by simp only [ltD, decide_eq_true_eq]; omega)
      rw [List.take_append_drop] at this
      exact this.symm
    rw [isort_strip, reb_strip, ← isort_strip, e]
  have e1 : knownH h 292194 = h := known_all fun c hc => (right_booked (r3 c hc).1).2
  have e2 : knownH ⟨h.id, h.booked, h.terms, reb (rot h.changes k) h.changes h.changes.length⟩ 292194 = ⟨h.id, h.booked, h.terms, reb (rot h.changes k) h.changes h.changes.length⟩ := known_all fun c hc => by
    obtain ⟨x, b, hx, rfl, q1, q2⟩ := hmem c hc
    exact q2
  obtain ⟨f1, f2⟩ := ofE_same (g := ⟨h.id, h.booked, h.terms, reb (rot h.changes k) h.changes h.changes.length⟩) (k := h) (T := T) rfl (hx.trans hr.symm) hcut
  rw [kE, kE, kS, kS, e1, e2, f1, f2]
  exact ⟨rfl, rfl⟩
/-- One change more, booked behind a day. -/
theorem never_put {h : History} {c : Change} {T : List Version} (hk : histOk h = true) (hp : putE h c = 0) :
    (1 ≤ c.booked ∧ c.booked ≤ 292194) ∧ (kE (putH h c) T (c.booked - 1) = kE h T (c.booked - 1) ∧ kS (putH h c) T (c.booked - 1) = kS h T (c.booked - 1)) ∧ kE (putH h c) T c.booked = ofE (putH h c) T ∧ kS (putH h c) T c.booked = ofS (putH h c) T := by
  rw [putH_yes hp]
  have hp2 : c.right = true ∧ ¬ c.booked < lastB h.booked h.changes := by
    unfold putE at hp
    split at hp
    · simp at hp
    · rename_i hq
      split at hp
      · simp at hp
      · rename_i hq2
        simp only [Bool.or_eq_true, not_or, Bool.not_eq_true', Bool.not_eq_false] at hq
        exact ⟨hq.1, hq2⟩
  simp only [histOk, Bool.and_eq_true] at hk
  obtain ⟨k1, k2⟩ := good_mem hk.2
  have e1 : knownH ⟨h.id, h.booked, h.terms, h.changes ++ [c]⟩ (c.booked - 1) = knownH h (c.booked - 1) := by
    simp only [knownH, List.filter_append]
    rw [show [c].filter (fun x => decide (x.booked ≤ c.booked - 1)) = [] by rw [List.filter_eq_nil_iff]; intro x hx; simp at hx; subst hx; simp; omega, List.append_nil]
  have e2 : knownH ⟨h.id, h.booked, h.terms, h.changes ++ [c]⟩ c.booked = ⟨h.id, h.booked, h.terms, h.changes ++ [c]⟩ := known_all fun x hx => by
    rcases List.mem_append.1 hx with hx | hx
    · have := (k1 x hx).2.2; omega
    · simp at hx; subst hx; exact Int.le_refl _
  refine ⟨right_booked hp2.1, ⟨by rw [kE, kE, e1], by rw [kS, kS, e1]⟩, ?_, ?_⟩
  · rw [kE, e2, if_neg (show ¬ c.booked < h.booked by omega)]
  · rw [kS, e2, if_neg (show ¬ c.booked < h.booked by omega)]
end Go.Proofs.YtkonljmmdifnaaaGreat.V
set_option linter.unusedSimpArgs false
set_option linter.unusedVariables false
namespace Go.Proofs.YtkonljmmdifnaaaGreat.V
open Go.RowKit
set_option maxRecDepth 100000
attribute [local go_sem] Option.toList_some Option.toList_none Int.reduceEq Int.reduceNe Int.reduceToNat

set_option maxHeartbeats 8000000 in
theorem knownNeverLaw (h : History) (T : List Version) (c : Change) (ho : h.ok) (hc : c.ok) : Fun Tryz.prog 9 [.agg h.flat, .agg [vers T], .agg c.flat] (bool true) := by
  cases hf : fewK h T
  · have kf := few12_f h T
    rw [hf] at kf
    refine fun_W mixed Tryz.func9 rfl (Nat.le_of_ble_eq_true rfl) (by kernel_rfl) fun cx hN hR hF hL => ?_; apply args_k; (case hA => (simp only [go_sem, ↓reduceIte]; rfl))
    (repeat' first|((try (revert K;refine bK ?_));refine' run trivial ?_;(repeat' first|exact True.intro|refine Lv.mk ?_ ?_|(refine oK ?_;intro K hK)|intro hq);all_goals refine Lf.mk ?_)|refine callZ cl10 (kf) ?_|refine callZ cl11 (alive13_f) ?_)
  · obtain ⟨hs, h60⟩ := fewK_is hf
    have kf := few12_f h T
    rw [hf] at kf
    by_cases hcl : (c.covers.length : Int) > 50
    · refine fun_W mixed Tryz.func9 rfl (Nat.le_of_ble_eq_true rfl) (by kernel_rfl) fun cx hN hR hF hL => ?_; apply args_k; (case hA => (simp only [go_sem, ↓reduceIte]; rfl))
      (repeat' first|((try (revert K;refine bK ?_));refine' run (I (eq_true hcl) (decide_eq_true hcl)) ?_;(repeat' first|exact True.intro|refine Lv.mk ?_ ?_|(refine oK ?_;intro K hK)|intro hq);all_goals refine Lf.mk ?_)|refine callZ cl10 (kf) ?_|refine callZ cl11 (alive13_f) ?_)
    · obtain ⟨⟨s1, s2, s3⟩, s4, s5⟩ := hs
      have kp := put_f h c (by omega) (by omega)
      have kh := history_f h (by omega)
      by_cases hp : putE h c = 0
      · cases hk : histOk h
        · rw [hk] at kh
          rw [hp] at kp
          generalize putH h c = x at *
          refine fun_W mixed Tryz.func9 rfl (Nat.le_of_ble_eq_true rfl) (by kernel_rfl) fun cx hN hR hF hL => ?_; apply args_k; (case hA => (simp only [go_sem, ↓reduceIte]; rfl))
          (repeat' first|((try (revert K;refine bK ?_));refine' run (I (eq_false hcl) (decide_eq_false hcl)) ?_;(repeat' first|exact True.intro|refine Lv.mk ?_ ?_|(refine oK ?_;intro K hK)|intro hq);all_goals refine Lf.mk ?_)|refine callZ cl10 (kf) ?_|refine callZ cl24 (kp) ?_|refine callZ cl23 (kh) ?_|refine callZ cl11 (alive13_f) ?_)
        · rw [hk] at kh
          obtain ⟨hb, ⟨e1, e2⟩, e3, e4⟩ := never_put (T := T) hk hp
          have hsx : Small (putH h c) T := by
            rw [putH_yes hp]
            refine ⟨⟨by show (h.changes ++ [c]).length ≤ 1000; simp; omega, s2, fun y hy => ?_⟩, s4, s5⟩
            rcases List.mem_append.1 hy with hy | hy
            · exact s3 y hy
            · simp at hy; subst hy; omega
          have hw : IntKind.i64.wrap (c.booked - 1) = c.booked - 1 := by rw [wrap_id] <;> omega
          have k1 := knSl_f h T (c.booked - 1) ⟨⟨s1, s2, s3⟩, s4, s5⟩
          have k2 := knSl_f (putH h c) T (c.booked - 1) hsx
          have k3 := knSl_f (putH h c) T c.booked hsx
          have k4 := slOf_f (putH h c) T (by have := hsx.1.1; omega) (by have := hsx.1.2.1; omega) (fun y hy => by have := hsx.1.2.2 y hy; omega) (by omega) (fun v hv => by have := s5 v hv; omega)
          rw [e1, e2] at k2
          rw [e3, e4] at k3
          have l1 := all12_same (kS h T (c.booked - 1)) (by have := kS_len (h := h) (T := T) (b := c.booked - 1); omega)
          have l2 := all12_same (ofS (putH h c) T) (by have := ofS_len (h := putH h c) (T := T); have := hsx.1.1; omega)
          rw [hp] at kp
          generalize kS h T (c.booked - 1) = A at *
          generalize kE h T (c.booked - 1) = ea at *
          generalize ofS (putH h c) T = B at *
          generalize ofE (putH h c) T = eb at *
          generalize putH h c = x at *
          refine fun_W mixed Tryz.func9 rfl (Nat.le_of_ble_eq_true rfl) (by kernel_rfl) fun cx hN hR hF hL => ?_; apply args_k; (case hA => (simp only [go_sem, ↓reduceIte]; rfl))
          (repeat' first|((try (revert K;refine bK ?_));refine' run (I (eq_false hcl) (I (decide_eq_false hcl) hw)) ?_;(repeat' first|exact True.intro|refine Lv.mk ?_ ?_|(refine oK ?_;intro K hK)|intro hq);all_goals refine Lf.mk ?_)|refine callZ cl10 (kf) ?_|refine callZ cl24 (kp) ?_|refine callZ cl23 (kh) ?_|refine callZ cl12 (k1) ?_|refine callZ cl12 (k2) ?_|refine callZ cl12 (k3) ?_|refine callZ cl25 (k4) ?_|refine callZ cl14 (l1) ?_|refine callZ cl14 (l2) ?_|refine callZ cl11 (alive13_f) ?_)
          all_goals simp
      · generalize putH h c = x at *
        generalize putE h c = e at *
        refine fun_W mixed Tryz.func9 rfl (Nat.le_of_ble_eq_true rfl) (by kernel_rfl) fun cx hN hR hF hL => ?_; apply args_k; (case hA => (simp only [go_sem, ↓reduceIte]; rfl))
        (repeat' first|((try (revert K;refine bK ?_));refine' run (I (eq_false hcl) (I (decide_eq_false hcl) (I (eq_false hp) (decide_eq_false hp)))) ?_;(repeat' first|exact True.intro|refine Lv.mk ?_ ?_|(refine oK ?_;intro K hK)|intro hq);all_goals refine Lf.mk ?_)|refine callZ cl10 (kf) ?_|refine callZ cl24 (kp) ?_|refine callZ cl23 (kh) ?_|refine callZ cl11 (alive13_f) ?_)
end Go.Proofs.YtkonljmmdifnaaaGreat.V
set_option linter.unusedSimpArgs false
set_option linter.unusedVariables false
namespace Go.Proofs.YtkonljmmdifnaaaGreat.V
open Go.RowKit
set_option maxRecDepth 100000
attribute [local go_sem] Option.toList_some Option.toList_none Int.reduceEq Int.reduceNe Int.reduceToNat

/-- No day twice, so far. -/
def apartD (L : List Change) : Prop := L.Pairwise fun c d => c.day ≠ d.day
theorem apart_next {L : List Change} {i : Nat} (hi : i < L.length) (h : apartD (L.take i)) (hn : ∀ x, x ∈ L.take i → L[i].day ≠ x.day) : apartD (L.take (i + 1)) := by
  rw [List.take_succ_eq_append_getElem hi, apartD, List.pairwise_append]
  exact ⟨h, by simp, fun x hx y hy => by simp at hy; subst hy; exact (hn x hx).symm⟩
theorem rowB_set (l : List Change) {i : Nat} {c : Change} (h : l[i]? = some c) (b : Int) : List.take (i * 9) (rowC Change.flat l) ++ [int b] ++ List.drop (i * 9 + 1) (rowC Change.flat l) = rowC Change.flat (l.set i (setB c b)) := by
  have hi := (List.getElem?_eq_some_iff.1 h).1
  rw [← rowC_set (F := Change.flat) (k := 9) (fun _ => rfl) l i _ hi]
  have e : List.drop (i * 9 + 1) (rowC Change.flat l) = List.drop 1 c.flat ++ List.drop (i * 9 + 9) (rowC Change.flat l) := by
    have h1 := rowC_at (F := Change.flat) (k := 9) (fun _ => rfl) l i c h
    rw [← h1, ← List.drop_drop, ← List.drop_drop (i := 9), List.drop_take]
    have h2 := List.take_append_drop 8 (List.drop 1 (List.drop (i * 9) (rowC Change.flat l)))
    rw [List.drop_drop] at h2
    simpa using h2.symm
  rw [e]
  simp [Change.flat, setB]
@[local go_sem] theorem rowG_ren (r : Nat → Nat) (l : List Change) : (rowC Change.flat l).map (AV.ren r) = rowC Change.flat l := rows_ren (fun x r => by simp [Change.flat]) r l
@[local go_sem] theorem rowG_nms (p : Nat → Bool) (l : List Change) : (rowC Change.flat l).all (AV.names p) = true := rows_nms (fun x p => by simp [Change.flat]) p l
attribute [local go_sem] Int.toNat_natCast in
set_option maxHeartbeats 16000000 in
theorem knownOrderLaw (h : History) (T : List Version) (w : Int) (ho : h.ok) (hw : Int64 w) : Fun Tryz.prog 8 [.agg h.flat, .agg [vers T], int w] (bool true) := by
  cases hf : fewK h T
  · have kf := few12_f h T
    rw [hf] at kf
    refine fun_W mixed Tryz.func8 rfl (Nat.le_of_ble_eq_true rfl) (by kernel_rfl) fun cx hN hR hF hL => ?_; apply args_k; (case hA => (simp only [go_sem, ↓reduceIte]; rfl))
    (repeat' first|((try (revert K;refine bK ?_));refine' run trivial ?_;(repeat' first|exact True.intro|refine Lv.mk ?_ ?_|(refine oK ?_;intro K hK)|intro hq);all_goals refine Lf.mk ?_)|refine callZ cl10 (kf) ?_|refine callZ cl11 (alive13_f) ?_)
  · obtain ⟨hs, h60⟩ := fewK_is hf
    have kf := few12_f h T
    rw [hf] at kf
    by_cases hn : (h.changes.length : Int) = 0
    · refine fun_W mixed Tryz.func8 rfl (Nat.le_of_ble_eq_true rfl) (by kernel_rfl) fun cx hN hR hF hL => ?_; apply args_k; (case hA => (simp only [go_sem, ↓reduceIte]; rfl))
      (repeat' first|((try (revert K;refine bK ?_));refine' run (I (eq_true hn) (decide_eq_true hn)) ?_;(repeat' first|exact True.intro|refine Lv.mk ?_ ?_|(refine oK ?_;intro K hK)|intro hq);all_goals refine Lf.mk ?_)|refine callZ cl10 (kf) ?_|refine callZ cl11 (alive13_f) ?_)
    · have kh := history_f h (by have := hs.1.2.1; omega)
      cases hk : histOk h
      · rw [hk] at kh
        refine fun_W mixed Tryz.func8 rfl (Nat.le_of_ble_eq_true rfl) (by kernel_rfl) fun cx hN hR hF hL => ?_; apply args_k; (case hA => (simp only [go_sem, ↓reduceIte]; rfl))
        (repeat' first|((try (revert K;refine bK ?_));refine' run (I (eq_false hn) (decide_eq_false hn)) ?_;(repeat' first|exact True.intro|refine Lv.mk ?_ ?_|(refine oK ?_;intro K hK)|intro hq);all_goals refine Lf.mk ?_)|refine callZ cl10 (kf) ?_|refine callZ cl23 (kh) ?_|refine callZ cl11 (alive13_f) ?_)
      · rw [hk] at kh
        refine fun_W mixed Tryz.func8 rfl (Nat.le_of_ble_eq_true rfl) (by kernel_rfl) fun cx hN hR hF hL => ?_; apply args_k; (case hA => (simp only [go_sem, ↓reduceIte]; rfl))
        (repeat' first|((try (revert K;refine bK ?_));refine' run (I (eq_false hn) (decide_eq_false hn)) ?_;(repeat' first|exact True.intro|refine Lv.mk ?_ ?_|(refine oK ?_;intro K hK)|intro hq);all_goals refine Lf.mk ?_)|refine callZ cl10 (kf) ?_|refine callZ cl23 (kh) ?_|refine callZ cl11 (alive13_f) ?_)
        refine loopW mixed (σ := {i : Nat // i ≤ h.changes.length ∧ apartD (h.changes.take i)}) (fun s => ⟨[(39, int s.1), (3, .ptr 0 0), (37, chgs h.changes), (38, int h.changes.length), (4, .ptr 8 0), (7, int h.changes.length), (2, int w), (6, bool false)], [(0, some ⟨31, h.flat⟩), (8, some ⟨34, [vers T]⟩)], 4000⟩) (fun s => h.changes.length - s.1) id ⟨0, Nat.zero_le _, .nil⟩ (by rw [hN]; kernel_rfl) ?_ ?_
        · simp only [go_sem, ↓reduceIte, hF]
          rfl
        · rintro ⟨i, g1, g2⟩
          simp only at g1 g2 ⊢
          by_cases hi : i < h.changes.length
          · have e1 : (h.changes.map Change.flat)[i]? = some (h.changes[i].flat) := by rw [List.getElem?_map, List.getElem?_eq_getElem hi]; rfl
            have e2 : IntKind.i64.wrap ((i : Int) + 1) = ((i + 1 : Nat) : Int) := by rw [wrap_id] <;> omega
            have b0 : ((i : Int) < (h.changes.length : Int)) = True := eq_true (by omega)
            have hnx := apart_next hi g2
            generalize hcc : h.changes[i] = c at *
            (try ((try (revert K;refine bK ?_));refine' run (I b0 (I (decide_eq_true (of_eq_true b0)) (I e1 e2))) ?_;(repeat' first|exact True.intro|refine Lv.mk ?_ ?_|(refine oK ?_;intro K hK)|intro hq);all_goals refine Lf.mk ?_))
            have hmin : min i h.changes.length = i := Nat.min_eq_left g1
            refine loopW mixed (σ := {j : Nat // j ≤ i ∧ ∀ x, x ∈ h.changes.take j → c.day ≠ x.day}) (fun s => ⟨[(49, int s.1), (47, .sl false 9 (List.take i (h.changes.map Change.flat))), (48, int i), (9, .ptr 5024 0), (39, int i), (3, .ptr 0 0), (37, chgs h.changes), (38, int h.changes.length), (4, .ptr 8 0), (7, int h.changes.length), (2, int w), (6, bool false)], [(5024, some ⟨54, c.flat⟩), (0, some ⟨31, h.flat⟩), (8, some ⟨34, [vers T]⟩)], 7000⟩) (fun s => i - s.1) id ⟨0, Nat.zero_le _, by simp⟩ (by rw [hN]; kernel_rfl) ?_ ?_
            · simp only [go_sem, ↓reduceIte, hF, hmin]
              rfl
            · rintro ⟨j, q1, q2⟩
              simp only at q1 q2 ⊢
              by_cases hj : j < i
              · have hjl : j < h.changes.length := by omega
                have e3 : (List.take i (h.changes.map Change.flat))[j]? = some h.changes[j].flat := by rw [List.getElem?_take, if_pos hj, List.getElem?_map, List.getElem?_eq_getElem hjl]; rfl
                have e4 : IntKind.i64.wrap ((j : Int) + 1) = ((j + 1 : Nat) : Int) := by rw [wrap_id] <;> omega
                have b1 : ((j : Int) < (i : Int)) = True := eq_true (by omega)
                have b2 : (j < (List.take i (h.changes.map Change.flat)).length) = True := eq_true (by simp; omega)
                have htk : h.changes.take (j + 1) = h.changes.take j ++ [h.changes[j]] := List.take_succ_eq_append_getElem hjl
                generalize h.changes[j] = d at *
                by_cases hq : c.day = d.day
                · (repeat' first|((try (revert K;refine bK ?_));refine' run (I b1 (I (decide_eq_true (of_eq_true b1)) (I b2 (I e3 (I e4 (I hmin (I (eq_true hq) (decide_eq_true hq)))))))) ?_;(repeat' first|exact True.intro|refine Lv.mk ?_ ?_|(refine oK ?_;intro K hK)|intro hq);all_goals refine Lf.mk ?_)|refine callZ cl11 (alive13_f) ?_)
                · (repeat' first|((try (revert K;refine bK ?_));refine' run (I b1 (I (decide_eq_true (of_eq_true b1)) (I b2 (I e3 (I e4 (I hmin (I (eq_false hq) (decide_eq_false hq)))))))) ?_;(repeat' first|exact True.intro|refine Lv.mk ?_ ?_|(refine oK ?_;intro K hK)|intro hq);all_goals refine Lf.mk ?_)|refine callZ cl11 (alive13_f) ?_)
                  refine ⟨⟨j + 1, hj, fun x hx => ?_⟩, id, ?_, by show i - (j + 1) < i - j; omega⟩
                  · rw [htk] at hx
                    rcases List.mem_append.1 hx with hx | hx
                    · exact q2 x hx
                    · simp at hx; subst hx; exact hq
                  · simp only [go_sem, ↓reduceIte, hF]
              · obtain rfl : j = i := by omega
                have b9 : ((j : Int) < (j : Int)) = False := eq_false (by omega)
                have hap := hnx q2
                (try ((try (revert K;refine bK ?_));refine' run (I b9 (I (decide_eq_false (of_eq_false b9)) e2)) ?_;(repeat' first|exact True.intro|refine Lv.mk ?_ ?_|(refine oK ?_;intro K hK)|intro hq);all_goals refine Lf.mk ?_))
                refine ⟨⟨j + 1, hi, hap⟩, id, ?_, by show h.changes.length - (j + 1) < h.changes.length - j; omega⟩
                simp only [go_sem, ↓reduceIte, hF]
          · obtain rfl : i = h.changes.length := by omega
            have b9 : ((h.changes.length : Int) < (h.changes.length : Int)) = False := eq_false (by omega)
            rw [List.take_length] at g2
            have hord := fun k => order_any (T := T) (k := k) hk g2
            have hmod := ib_rem .i64 w (h.changes.length : Int) hn
            have hr1 : Int.tmod w (h.changes.length : Int) < (h.changes.length : Int) := Int.tmod_lt_of_pos _ (by omega)
            have hr2 : -(h.changes.length : Int) < Int.tmod w (h.changes.length : Int) := by
              have h1 : Int.tmod (-w) (h.changes.length : Int) < (h.changes.length : Int) := Int.tmod_lt_of_pos _ (by omega)
              rw [Int.neg_tmod] at h1
              omega
            generalize Int.tmod w (h.changes.length : Int) = r at *
            have k1 := knSl_f h T 292194 hs
            by_cases hr : r < 0
            · obtain ⟨k, hk1, hk2⟩ : ∃ k : Nat, k ≤ h.changes.length ∧ r+(h.changes.length:Int) = (k : Int) := ⟨(r+(h.changes.length:Int)).toNat, by omega, by omega⟩
              have e5 : IntKind.i64.wrap (r + (h.changes.length : Int)) = r + (h.changes.length : Int) := by rw [wrap_id] <;> omega
              have c1 : ((k : Int) ≤ (h.changes.length : Int)) = True := eq_true (by omega)
              have c2 : (0 ≤ (k : Int)) = True := eq_true (by omega)
              have e6 : IntKind.i64.wrap (k : Int) = (k : Int) := by rw [wrap_id] <;> omega
              obtain ⟨o1, o2⟩ := hord k
              have hrc : rowC Change.flat (rot h.changes k) = ((h.changes.map Change.flat).drop k).flatten ++ ((h.changes.map Change.flat).take k).flatten := by simp [rowC, rot]
              (try ((try (revert K;refine bK ?_));refine' run (I b9 (I (decide_eq_false (of_eq_false b9)) (I hmod (I e5 (I (eq_true hr) (I (decide_eq_true hr) (I hk2 (I e6 (I c1 (I c2 (I (decide_eq_true (of_eq_true c1)) (decide_eq_true (of_eq_true c2))))))))))))) ?_;(repeat' first|exact True.intro|refine Lv.mk ?_ ?_|(refine oK ?_;intro K hK)|intro hq);all_goals refine Lf.mk ?_))
              · have hlk : h.changes.length - k + min k h.changes.length = h.changes.length := by omega
                have hml := rot_len h.changes k
                refine loopW mixed (σ := {i : Nat // i ≤ h.changes.length}) (fun s => ⟨[(85, int s.1), (3, .ptr 0 0), (13, .ptr 8008 0), (84, int h.changes.length), (4, .ptr 8 0), (6, bool false)],
                  [(8008, some ⟨31, [int h.id, int h.booked, int h.terms.from_, int h.terms.to_, int h.terms.kind, int h.terms.value, int h.terms.age, int h.terms.zone, covs h.terms.covers, .osl 9080 9 0 h.changes.length]⟩), (9080, some ⟨54, rowC Change.flat (reb (rot h.changes k) h.changes s.1)⟩), (0, some ⟨31, h.flat⟩), (8, some ⟨34, [vers T]⟩)], 11000⟩) (fun s => h.changes.length - s.1) id ⟨0, Nat.zero_le _⟩ (by rw [hN]; kernel_rfl) ?_ ?_
                · simp only [reb_zero]
                  simp only [go_sem, ↓reduceIte, hF, hlk, hrc.symm]
                  rfl
                · rintro ⟨i, g3⟩
                  simp only at g3 ⊢
                  by_cases hi : i < h.changes.length
                  · have f1 : h.changes[i]? = some h.changes[i] := List.getElem?_eq_getElem hi
                    have f2 : (rot h.changes k)[i]? = some ((rot h.changes k)[i]'(by omega)) := List.getElem?_eq_getElem (by omega)
                    have hbl := reb_len (rot h.changes k) h.changes i
                    obtain ⟨f3, f4⟩ := reb_at f2 f1
                    have f5 := rowB_set _ f3 h.changes[i].booked
                    rw [f4] at f5
                    have e1 : (h.changes.map Change.flat)[i]? = some (h.changes[i].flat) := by rw [List.getElem?_map, f1]; rfl
                    have e2 : IntKind.i64.wrap ((i : Int) + 1) = ((i + 1 : Nat) : Int) := by rw [wrap_id] <;> omega
                    have b0 : ((i : Int) < (h.changes.length : Int)) = True := eq_true (by omega)
                    have hrl : (rowC Change.flat (reb (rot h.changes k) h.changes i)).length = h.changes.length * 9 := by rw [rowC_len (F := Change.flat) (k := 9) (fun _ => rfl), hbl, hml]
                    have e7 : (rowC Change.flat (reb (rot h.changes k) h.changes i) = []) = False := eq_false (by rw [← List.length_eq_zero_iff]; omega)
                    generalize h.changes[i] = d at *
                    (try ((try (revert K;refine bK ?_));refine' run (I b0 (I (decide_eq_true (of_eq_true b0)) (I e1 (I e2 (I e7 hrl))))) ?_;(repeat' first|exact True.intro|refine Lv.mk ?_ ?_|(refine oK ?_;intro K hK)|intro hq);all_goals refine Lf.mk ?_))
                    refine ⟨⟨i + 1, hi⟩, id, ?_, by show h.changes.length - (i + 1) < h.changes.length - i; omega⟩
                    simp only [f5]
                    simp only [go_sem, ↓reduceIte, hF]
                  · obtain rfl : i = h.changes.length := by omega
                    have b9 : ((h.changes.length : Int) < (h.changes.length : Int)) = False := eq_false (by omega)
                    have hs2 : Small ⟨h.id, h.booked, h.terms, reb (rot h.changes k) h.changes h.changes.length⟩ T := by
                      refine ⟨⟨by show (reb (rot h.changes k) h.changes h.changes.length).length ≤ 1000; rw [reb_len, hml]; omega, hs.1.2.1, fun c hc => ?_⟩, hs.2⟩
                      obtain ⟨x, hx, hq⟩ := reb_mem hc
                      have hx2 : x ∈ h.changes := by
                        rcases List.mem_append.1 hx with hx | hx
                        · exact List.mem_of_mem_drop hx
                        · exact List.mem_of_mem_take hx
                      rcases hq with rfl | ⟨y, -, rfl⟩
                      · exact hs.1.2.2 c hx2
                      · exact hs.1.2.2 x hx2
                    have k2 := knSl_f ⟨h.id, h.booked, h.terms, reb (rot h.changes k) h.changes h.changes.length⟩ T 292194 hs2
                    have hbl := (reb_len (rot h.changes k) h.changes h.changes.length).trans hml
                    rw [o1, o2] at k2
                    have k3 := all12_same (kS h T 292194) (by have := kS_len (h := h) (T := T) (b := 292194); omega)
                    generalize kS h T 292194 = L at *
                    generalize kE h T 292194 = e at *
                    generalize reb (rot h.changes k) h.changes h.changes.length = M at *
                    (try ((try (revert K;refine bK ?_));refine' run (I b9 (decide_eq_false (of_eq_false b9))) ?_;(repeat' first|exact True.intro|refine Lv.mk ?_ ?_|(refine oK ?_;intro K hK)|intro hq);all_goals refine Lf.mk ?_))
                    (refine callW cl12 (k1) (by simp) ?_)
                    (try ((try (revert K;refine bK ?_));refine' run trivial ?_;(repeat' first|exact True.intro|refine Lv.mk ?_ ?_|(refine oK ?_;intro K hK)|intro hq);all_goals refine Lf.mk ?_))
                    (apply callF' [9080] cl12 (k2); (case hp | hl | hk => (simp only [go_sem, ↓reduceIte]; try rfl)); (try (case hfz => (first | (simp only [go_sem]; done) | (simp [go_sem, fzo]; done)))))
                    · rw [show h.changes.length = M.length from hbl.symm]
                      simp only [go_sem, ↓reduceIte]
                      exact ⟨rows_len (F := Change.flat) (fun _ => rfl) _, fzo_rows (F := Change.flat) (k := 9) (fun _ => rfl) Change.data _ rfl⟩
                    (repeat' first|((try (revert K;refine bK ?_));refine' run trivial ?_;(repeat' first|exact True.intro|refine Lv.mk ?_ ?_|(refine oK ?_;intro K hK)|intro hq);all_goals refine Lf.mk ?_)|refine callZ cl14 (k3) ?_|refine callZ cl11 (alive13_f) ?_)
                    all_goals simp
              · have hdl : ((h.changes.map Change.flat).drop k).flatten.length = (h.changes.length - k) * 9 := by
                  rw [← List.map_drop]
                  have := rows_count (F := Change.flat) (k := 9) (fun _ => rfl) (h.changes.drop k)
                  rwa [List.length_drop] at this
                exact ⟨hdl, by simp [maxLen]; omega, by omega⟩
              · simp [maxLen]; omega
            · obtain ⟨k, hk1, hk2⟩ : ∃ k : Nat, k ≤ h.changes.length ∧ r = (k : Int) := ⟨(r).toNat, by omega, by omega⟩
              have e5 : IntKind.i64.wrap (r + (h.changes.length : Int)) = r + (h.changes.length : Int) := by rw [wrap_id] <;> omega
              have c1 : ((k : Int) ≤ (h.changes.length : Int)) = True := eq_true (by omega)
              have c2 : (0 ≤ (k : Int)) = True := eq_true (by omega)
              have e6 : IntKind.i64.wrap (k : Int) = (k : Int) := by rw [wrap_id] <;> omega
              obtain ⟨o1, o2⟩ := hord k
              have hrc : rowC Change.flat (rot h.changes k) = ((h.changes.map Change.flat).drop k).flatten ++ ((h.changes.map Change.flat).take k).flatten := by simp [rowC, rot]
              (try ((try (revert K;refine bK ?_));refine' run (I b9 (I (decide_eq_false (of_eq_false b9)) (I hmod (I e5 (I (eq_false hr) (I (decide_eq_false hr) (I hk2 (I e6 (I c1 (I c2 (I (decide_eq_true (of_eq_true c1)) (decide_eq_true (of_eq_true c2))))))))))))) ?_;(repeat' first|exact True.intro|refine Lv.mk ?_ ?_|(refine oK ?_;intro K hK)|intro hq);all_goals refine Lf.mk ?_))
              · have hlk : h.changes.length - k + min k h.changes.length = h.changes.length := by omega
                have hml := rot_len h.changes k
                refine loopW mixed (σ := {i : Nat // i ≤ h.changes.length}) (fun s => ⟨[(85, int s.1), (3, .ptr 0 0), (13, .ptr 7008 0), (84, int h.changes.length), (4, .ptr 8 0), (6, bool false)],
                  [(7008, some ⟨31, [int h.id, int h.booked, int h.terms.from_, int h.terms.to_, int h.terms.kind, int h.terms.value, int h.terms.age, int h.terms.zone, covs h.terms.covers, .osl 8080 9 0 h.changes.length]⟩), (8080, some ⟨54, rowC Change.flat (reb (rot h.changes k) h.changes s.1)⟩), (0, some ⟨31, h.flat⟩), (8, some ⟨34, [vers T]⟩)], 10000⟩) (fun s => h.changes.length - s.1) id ⟨0, Nat.zero_le _⟩ (by rw [hN]; kernel_rfl) ?_ ?_
                · simp only [reb_zero]
                  simp only [go_sem, ↓reduceIte, hF, hlk, hrc.symm]
                  rfl
                · rintro ⟨i, g3⟩
                  simp only at g3 ⊢
                  by_cases hi : i < h.changes.length
                  · have f1 : h.changes[i]? = some h.changes[i] := List.getElem?_eq_getElem hi
                    have f2 : (rot h.changes k)[i]? = some ((rot h.changes k)[i]'(by omega)) := List.getElem?_eq_getElem (by omega)
                    have hbl := reb_len (rot h.changes k) h.changes i
                    obtain ⟨f3, f4⟩ := reb_at f2 f1
                    have f5 := rowB_set _ f3 h.changes[i].booked
                    rw [f4] at f5
                    have e1 : (h.changes.map Change.flat)[i]? = some (h.changes[i].flat) := by rw [List.getElem?_map, f1]; rfl
                    have e2 : IntKind.i64.wrap ((i : Int) + 1) = ((i + 1 : Nat) : Int) := by rw [wrap_id] <;> omega
                    have b0 : ((i : Int) < (h.changes.length : Int)) = True := eq_true (by omega)
                    have hrl : (rowC Change.flat (reb (rot h.changes k) h.changes i)).length = h.changes.length * 9 := by rw [rowC_len (F := Change.flat) (k := 9) (fun _ => rfl), hbl, hml]
                    have e7 : (rowC Change.flat (reb (rot h.changes k) h.changes i) = []) = False := eq_false (by rw [← List.length_eq_zero_iff]; omega)
                    generalize h.changes[i] = d at *
                    (try ((try (revert K;refine bK ?_));refine' run (I b0 (I (decide_eq_true (of_eq_true b0)) (I e1 (I e2 (I e7 hrl))))) ?_;(repeat' first|exact True.intro|refine Lv.mk ?_ ?_|(refine oK ?_;intro K hK)|intro hq);all_goals refine Lf.mk ?_))
                    refine ⟨⟨i + 1, hi⟩, id, ?_, by show h.changes.length - (i + 1) < h.changes.length - i; omega⟩
                    simp only [f5]
                    simp only [go_sem, ↓reduceIte, hF]
                  · obtain rfl : i = h.changes.length := by omega
                    have b9 : ((h.changes.length : Int) < (h.changes.length : Int)) = False := eq_false (by omega)
                    have hs2 : Small ⟨h.id, h.booked, h.terms, reb (rot h.changes k) h.changes h.changes.length⟩ T := by
                      refine ⟨⟨by show (reb (rot h.changes k) h.changes h.changes.length).length ≤ 1000; rw [reb_len, hml]; omega, hs.1.2.1, fun c hc => ?_⟩, hs.2⟩
                      obtain ⟨x, hx, hq⟩ := reb_mem hc
                      have hx2 : x ∈ h.changes := by
                        rcases List.mem_append.1 hx with hx | hx
                        · exact List.mem_of_mem_drop hx
                        · exact List.mem_of_mem_take hx
                      rcases hq with rfl | ⟨y, -, rfl⟩
                      · exact hs.1.2.2 c hx2
                      · exact hs.1.2.2 x hx2
                    have k2 := knSl_f ⟨h.id, h.booked, h.terms, reb (rot h.changes k) h.changes h.changes.length⟩ T 292194 hs2
                    have hbl := (reb_len (rot h.changes k) h.changes h.changes.length).trans hml
                    rw [o1, o2] at k2
                    have k3 := all12_same (kS h T 292194) (by have := kS_len (h := h) (T := T) (b := 292194); omega)
                    generalize kS h T 292194 = L at *
                    generalize kE h T 292194 = e at *
                    generalize reb (rot h.changes k) h.changes h.changes.length = M at *
                    (try ((try (revert K;refine bK ?_));refine' run (I b9 (decide_eq_false (of_eq_false b9))) ?_;(repeat' first|exact True.intro|refine Lv.mk ?_ ?_|(refine oK ?_;intro K hK)|intro hq);all_goals refine Lf.mk ?_))
                    (refine callW cl12 (k1) (by simp) ?_)
                    (try ((try (revert K;refine bK ?_));refine' run trivial ?_;(repeat' first|exact True.intro|refine Lv.mk ?_ ?_|(refine oK ?_;intro K hK)|intro hq);all_goals refine Lf.mk ?_))
                    (apply callF' [8080] cl12 (k2); (case hp | hl | hk => (simp only [go_sem, ↓reduceIte]; try rfl)); (try (case hfz => (first | (simp only [go_sem]; done) | (simp [go_sem, fzo]; done)))))
                    · rw [show h.changes.length = M.length from hbl.symm]
                      simp only [go_sem, ↓reduceIte]
                      exact ⟨rows_len (F := Change.flat) (fun _ => rfl) _, fzo_rows (F := Change.flat) (k := 9) (fun _ => rfl) Change.data _ rfl⟩
                    (repeat' first|((try (revert K;refine bK ?_));refine' run trivial ?_;(repeat' first|exact True.intro|refine Lv.mk ?_ ?_|(refine oK ?_;intro K hK)|intro hq);all_goals refine Lf.mk ?_)|refine callZ cl14 (k3) ?_|refine callZ cl11 (alive13_f) ?_)
                    all_goals simp
              · have hdl : ((h.changes.map Change.flat).drop k).flatten.length = (h.changes.length - k) * 9 := by
                  rw [← List.map_drop]
                  have := rows_count (F := Change.flat) (k := 9) (fun _ => rfl) (h.changes.drop k)
                  rwa [List.length_drop] at this
                exact ⟨hdl, by simp [maxLen]; omega, by omega⟩
              · simp [maxLen]; omega
end Go.Proofs.YtkonljmmdifnaaaGreat.V
set_option linter.unusedSimpArgs false
set_option linter.unusedVariables false
namespace Go.Proofs.YtkonljmmdifnaaaGreat.V
open Go.ChangeShapes Go.WideShapes Go.ChangeAt Go.RowKit Go.Deep

def Terms.fit (t : Terms) : Prop := t.covers.length ≤ 1000000000000000
def Change.fit (t : Change) : Prop := t.covers.length ≤ 1000000000000000
def History.fit (h : History) : Prop := h.terms.fit ∧ ∀ c, c ∈ h.changes → c.fit

theorem own : ownKnob Tryz.prog.godebug = none := by kernel_rfl
theorem laidOut : laidOutB Tryz.prog = true := by kernel_rfl

/-- What it holds is of the form's own reach. -/
def Fits {H : Type} (t : TypeId) (d : DataW H) : Prop := (d.weights Tryz.prog t).all (· ≤ reachBytes) = true

theorem Fits.part {H : Type} {ts : List TypeId} {ds : List (DataW H)} (h : (DataW.weightsEach Tryz.prog ts ds).all (· ≤ reachBytes) = true) {j : Nat} {t : TypeId} {d : DataW H} (ht : ts[j]? = some t) (hd : ds[j]? = some d) : Fits t d :=
  List.all_eq_true.2 fun n hn => List.all_eq_true.1 h n (DataW.weights_mem_each ht hd n hn)

theorem weightsAll_mem {H : Type} {e : TypeId} : ∀ {ds : List (DataW H)} {d : DataW H}, d ∈ ds → ∀ n ∈ d.weights Tryz.prog e, n ∈ DataW.weightsAll Tryz.prog e ds
  | d0 :: r, d, hd, n, hn => by
    simp only [DataW.weightsAll, List.mem_append]
    rcases List.mem_cons.1 hd with rfl | h
    · exact Or.inl hn
    · exact Or.inr (weightsAll_mem h n hn)

/-- These cells can be read at type t. -/
def Rd (W : World) (t : TypeId) (cs : List Value) : Prop := ∃ (H : Type) (enc : TypeId × Value → H) (fuel : Nat) (x : DataW H × List MemPlace), DataW.trod enc Tryz.prog W 0 (fun _ => true) true fuel t cs = some x ∧ Fits t x.1

theorem Rd.of {H : Type} {enc : TypeId × Value → H} {W : World} {t : TypeId} {v : Value} {d : DataW H} {p : List MemPlace} (h : DataW.Trod enc Tryz.prog W 0 (fun _ => true) true t v d p) (hs : Fits t d) : Rd W t v.cells.toList := by
  obtain ⟨fuel, hf⟩ := h
  exact ⟨H, enc, fuel, _, hf, hs⟩

theorem Rd.int {W : World} {t : TypeId} {k : IntKind} {cs : List Value} (ht : Tryz.prog.underlying t = some (.int k)) (h : Rd W t cs) : ∃ n, cs = [.int k n] ∧ (Lit.int k n).wf = true := by
  obtain ⟨H, enc, fuel, x, hf, -⟩ := h
  obtain ⟨n, hc, -, hw⟩ := DataW.trod_int ht hf
  exact ⟨n, hc, hw⟩

theorem Rd.struct {W : World} {t : TypeId} {fs : Array Field} {cs : List Value} (ht : Tryz.prog.underlying t = some (.struct fs)) (h : Rd W t cs) :
    cs.length = Tryz.prog.cellsOf t ∧ ∀ (i : Nat) (f : Field), fs[i]? = some f → Rd W f.type ((cs.drop f.offset).take (Tryz.prog.cellsOf f.type)) := by
  obtain ⟨H, enc, fuel, x, hf, hs⟩ := h
  obtain ⟨xs, n, -, hx, hl, hxl, hg⟩ := DataW.trod_struct ht hf
  refine ⟨hl, fun i f hi => ?_⟩
  have hi' : i < xs.length := by rw [hxl]; exact (Array.getElem?_eq_some_iff.1 hi).1
  refine ⟨H, enc, n, xs[i], (hg i f hi).trans (List.getElem?_eq_getElem hi'), ?_⟩
  subst hx
  have h2 : (DataW.weightsEach Tryz.prog (fs.toList.map (·.type)) (xs.map (·.1))).all (· ≤ reachBytes) = true := by simpa [Fits, DataW.weights, ht] using hs
  exact Fits.part h2 (j := i) (by simp [hi]) (by simp [List.getElem?_eq_getElem hi'])

/-- A slice that came in, element by element. -/
theorem Rd.rows {α : Type} {W : World} {t e : TypeId} {k : Nat} {R : List Value → α → Prop} {cs : List Value} (ht : Tryz.prog.underlying t = some (.slice e)) (hk : Tryz.prog.cellsOf e = k) (hk0 : 0 < k) (h : Rd W t cs)
    (hR : ∀ vs, vs.length = k → Rd W e vs → ∃ x, R vs x) :
    ∃ (A : Option Addr) (n cap : Nat) (l : List α), cs = [.slice A n cap] ∧ n = l.length ∧ n ≤ maxLen ∧ (l ≠ [] → ∃ b off, A = some ⟨b, off, none⟩ ∧ b < W.heap.size ∧ ∀ i y, l[i]? = some y → ∃ vs, R vs y ∧ vs.length = k ∧ ∀ j v, vs[j]? = some v → W.cell? ⟨b, off + i * k + j, none⟩ = some v) ∧ (n ≤ cap ∧ cap ≤ maxLen) ∧ n * Tryz.prog.bytesOf e ≤ reachBytes := by
  obtain ⟨H, enc, fuel, x, hf, hs⟩ := h
  rcases open_slice ht hf with ⟨hc, -⟩ | ⟨a, len, cap, m, n, D, Pl, hc, -, hlc, hcm, hm, hx, hi⟩
  · exact ⟨none, 0, 0, [], hc, rfl, Nat.zero_le _, fun h => absurd rfl h, ⟨Nat.le_refl _, Nat.zero_le _⟩, by simp⟩
  · rw [hk] at hi
    have hml : len ≤ m := by rw [hm]; split <;> omega
    have hbytes : len * Tryz.prog.bytesOf e ≤ reachBytes := by
      subst hx
      simp only [Fits, DataW.weights, ht, List.all_cons, Bool.and_eq_true, decide_eq_true_eq] at hs
      have h1 := hs.1
      simp only [List.length_map, List.length_range] at h1
      exact Nat.le_trans (Nat.mul_le_mul_right _ (by omega)) h1
    have hfit : ∀ i, i < len → Fits e (D i) := by
      intro i hil
      subst hx
      simp only [Fits, DataW.weights, ht, List.all_cons, Bool.and_eq_true, List.all_append] at hs
      exact List.all_eq_true.2 fun n hn => List.all_eq_true.1 hs.2.1 n (weightsAll_mem (List.mem_map.2 ⟨i, List.mem_range.2 hil, rfl⟩) n hn)
    have hi' : ∀ i, i < len → ∃ y vs, R vs y ∧ vs.length = k ∧ ∀ j v, vs[j]? = some v → W.cell? (a.add (i * k + j)) = some v := by
      intro i hil
      obtain ⟨cs', hcs, ht'⟩ := hi i (by rw [hm]; split <;> omega)
      obtain ⟨-, hl, hat⟩ := World.cells?_some hcs
      obtain ⟨y, hy⟩ := hR cs' hl ⟨H, enc, n, _, ht', hfit i hil⟩
      refine ⟨y, cs', hy, hl, fun j v hj => ?_⟩
      have hjl : j < cs'.length := (List.getElem?_eq_some_iff.1 hj).1
      have := hat j (by omega)
      rw [hj] at this
      rw [← this, ← add_add]
    have hl' : ∃ l : List α, l.length = len ∧ ∀ i y, l[i]? = some y → ∃ vs, R vs y ∧ vs.length = k ∧ ∀ j v, vs[j]? = some v → W.cell? (a.add (i * k + j)) = some v := by
      have H : ∀ m, m ≤ len → ∃ l : List α, l.length = m ∧ ∀ i y, l[i]? = some y → ∃ vs, R vs y ∧ vs.length = k ∧ ∀ j v, vs[j]? = some v → W.cell? (a.add (i * k + j)) = some v := by
        intro m
        induction m with
        | zero => exact fun _ => ⟨[], rfl, fun i y h => by simp at h⟩
        | succ m ih =>
          intro hml
          obtain ⟨l, hll, hl⟩ := ih (by omega)
          obtain ⟨y, hy⟩ := hi' m (by omega)
          refine ⟨l ++ [y], by simp [hll], fun i z hz => ?_⟩
          rcases Nat.lt_or_ge i l.length with hlt | hge
          · rw [List.getElem?_append_left hlt] at hz
            exact hl i z hz
          · rw [List.getElem?_append_right hge] at hz
            have hi0 : i - l.length = 0 := by
              rcases Nat.eq_zero_or_pos (i - l.length) with h | h
              · exact h
              · rw [List.getElem?_eq_none (by simp; omega)] at hz
                cases hz
            rw [hi0] at hz
            have : y = z := by simpa using hz
            subst this
            obtain rfl : i = m := by omega
            exact hy
      exact H len (Nat.le_refl _)
    obtain ⟨l, hll, hl⟩ := hl'
    refine ⟨some a, len, cap, l, hc, hll.symm, by omega, fun hne => ?_, ⟨hlc, hcm⟩, hbytes⟩
    have h0 : 0 < l.length := List.length_pos_iff.2 hne
    obtain ⟨vs, -, hvl, hv⟩ := hl 0 _ (List.getElem?_eq_getElem h0)
    obtain ⟨v0, hv0⟩ : ∃ v, vs[0]? = some v := ⟨_, List.getElem?_eq_getElem (by omega)⟩
    have hc0 := hv 0 v0 hv0
    have hsp : a.spot = none := by simpa [Addr.add] using World.cell?_spot hc0
    obtain ⟨b, off, sp⟩ := a
    simp only at hsp
    subst hsp
    refine ⟨b, off, rfl, ?_, fun i y hy => ?_⟩
    · have := World.block_lt_of_cell? W _ hc0
      simpa [Addr.add] using this
    · obtain ⟨vs, h1, h2, h3⟩ := hl i y hy
      refine ⟨vs, h1, h2, fun j v hj => ?_⟩
      have := h3 j v hj
      have e : (⟨b, off, none⟩ : Addr).add (i * k + j) = ⟨b, off + i * k + j, none⟩ := by
        unfold Addr.add
        split
        · simp_all
        · simp [Nat.add_assoc]
      rwa [e] at this

theorem cellsInt : Tryz.prog.cellsOf 3 = 1 := by kernel_rfl

/-- Field number i. -/
theorem Rd.field {W : World} {t : TypeId} {fs : Array Field} {vs : List Value} (ht : Tryz.prog.underlying t = some (.struct fs)) (h : Rd W t vs) (i : Nat) (f : Field) (hi : fs[i]? = some f) {t' : TypeId} {o k : Nat} (hty : f.type = t') (ho : f.offset = o)
    (hk : Tryz.prog.cellsOf t' = k) : Rd W t' ((vs.drop o).take k) := by
  subst hty ho hk
  exact (Rd.struct ht h).2 i f hi

/-- A struct (or a part of one) whose fields from number a on are ints, one cell each. -/
theorem Rd.field_int {W : World} {t : TypeId} {fs : Array Field} {vs : List Value} (ht : Tryz.prog.underlying t = some (.struct fs)) (h : Rd W t vs) (i : Nat) (f : Field) (hi : fs[i]? = some f) (hty : f.type = 3) {c : Value} (hc : vs[f.offset]? = some c) :
    ∃ n, c = .int .i64 n ∧ (Lit.int .i64 n).wf = true := by
  obtain ⟨-, hf⟩ := Rd.struct ht h
  have h1 := hf i f hi
  rw [hty, cellsInt] at h1
  obtain ⟨n, hn, hw⟩ := Rd.int Tryz.underlying3 h1
  refine ⟨n, ?_, hw⟩
  obtain ⟨ho, hc'⟩ := List.getElem?_eq_some_iff.1 hc
  rw [List.drop_eq_getElem_cons ho, List.take_succ_cons, List.take_zero] at hn
  rw [← hc']
  simpa using hn


/-- These values, cell by cell, are these data. -/
def RepL (W : World) (vs : List Value) (l : List AV) : Prop := vs.length = l.length ∧ ∀ (i : Nat) (v : Value) (y : AV), vs[i]? = some v → l[i]? = some y → v.oneCell' = true ∧ RepD (fun _ => False) W v y

/-- What reads at a type is data of a kind. -/
def Reads (t : TypeId) (k : Nat) {α : Type} (F : α → List AV) (ok : α → Prop) : Prop := ∀ (W : World) (vs : List Value), vs.length = k → Rd W t vs → ∃ x, ok x ∧ RepL W vs (F x)

theorem RepL.cons {W : World} {v : Value} {y : AV} {vs : List Value} {l : List AV} (h1 : v.oneCell' = true) (h2 : RepD (fun _ => False) W v y) (h : RepL W vs l) : RepL W (v :: vs) (y :: l) := by
  refine ⟨by simp [h.1], fun i u z hu hz => ?_⟩
  rcases i with _ | i
  · simp at hu hz; subst hu hz; exact ⟨h1, h2⟩
  · exact h.2 i u z (by simpa using hu) (by simpa using hz)
theorem RepL.nil {W : World} : RepL W [] [] := ⟨rfl, by simp⟩
theorem RepL.app {W : World} {us vs : List Value} {l m : List AV} (h : RepL W us l) (h2 : RepL W vs m) : RepL W (us ++ vs) (l ++ m) := by
  refine ⟨by simp [h.1, h2.1], fun i u z hu hz => ?_⟩
  by_cases hi : i < us.length
  · rw [List.getElem?_append_left hi] at hu
    rw [List.getElem?_append_left (by rw [← h.1]; exact hi)] at hz
    exact h.2 i u z hu hz
  · rw [List.getElem?_append_right (by omega)] at hu
    rw [List.getElem?_append_right (by rw [← h.1]; omega), ← h.1] at hz
    exact h2.2 _ u z hu hz

theorem int64_of {n : Int} (h : (Lit.int .i64 n).wf = true) : Int64 n := by
  simp [Lit.wf] at h
  unfold Int64
  revert h
  simp [IntKind.has, IntKind.min, IntKind.max, IntKind.signed, IntKind.bits]

theorem reads_int : Reads 3 1 (fun n : Int => [int n]) Int64 := by
  intro W vs hl h
  obtain ⟨n, rfl, hw⟩ := Rd.int Tryz.underlying3 h
  exact ⟨n, int64_of hw, RepL.cons rfl (.v _) .nil⟩

theorem reads_slice {α : Type} {t e : TypeId} {k : Nat} {F : α → List AV} {ok : α → Prop} (ht : Tryz.prog.underlying t = some (.slice e)) (hk : Tryz.prog.cellsOf e = k) (hk0 : 0 < k) (hF : ∀ x, (F x).length = k) (hR : Reads e k F ok) :
    Reads t 1 (fun l : List α => [AV.sl false k (l.map F)]) (fun l => (∀ x, x ∈ l → ok x) ∧ l.length * Tryz.prog.bytesOf e ≤ reachBytes) := by
  intro W vs hl h
  obtain ⟨A, n, cap, l, rfl, hn, hm, hr, ⟨hnc, hcm⟩, hby⟩ := Rd.rows (R := fun vs x => ok x ∧ RepL W vs (F x)) ht hk hk0 h (fun vs hv h => hR W vs hv h)
  have hok : ∀ x, x ∈ l → ok x := by
    intro x hx
    obtain ⟨i, hi⟩ := List.mem_iff_getElem?.1 hx
    obtain ⟨b, off, -, -, hb⟩ := hr (by rintro rfl; simp at hx)
    obtain ⟨vs, h1, -⟩ := hb i x hi
    exact h1.1
  refine ⟨l, ⟨hok, by rw [← hn]; exact hby⟩, RepL.cons rfl ?_ .nil⟩
  by_cases hne : l = []
  · subst hne
    exact .sl (b := 0) (off := 0) (x := fun _ _ => undef) (by simpa using hn) hnc hcm (by simp) (by simp) (by simp) (by simp) (by simp)
  · obtain ⟨b, off, rfl, hb, hc⟩ := hr hne
    have key : ∀ i, ∃ vs : List Value, ∀ x, l[i]? = some x → RepL W vs (F x) ∧ vs.length = k ∧ ∀ j v, vs[j]? = some v → W.cell? ⟨b, off + i * k + j, none⟩ = some v := by
      intro i
      cases hx : l[i]? with
      | none => exact ⟨[], by simp⟩
      | some x =>
        obtain ⟨vs, h1, h2, h3⟩ := hc i x hx
        exact ⟨vs, fun y hy => by injection hy with hy; subst hy; exact ⟨h1.2, h2, h3⟩⟩
    obtain ⟨cs, hcs⟩ := Classical.axiomOfChoice key
    refine .sl (b := b) (off := off) (x := fun i j => (cs i).getD j undef) (by simpa using hn) hnc hcm (by simp) ?_ (fun _ => ⟨rfl, fun h => h, hb⟩) ?_ ?_
    · intro r hr
      obtain ⟨x, -, rfl⟩ := List.mem_map.1 hr
      exact hF x
    · intro i j hi hj
      rw [List.length_map] at hi
      obtain ⟨h1, h2, h3⟩ := hcs i _ (List.getElem?_eq_getElem hi)
      have hjl : j < (cs i).length := by omega
      have e : (cs i).getD j undef = (cs i)[j] := by simp [List.getD, hjl]
      refine ⟨by rw [e]; exact h3 j _ (List.getElem?_eq_getElem hjl), ?_⟩
      rw [e]
      exact (h1.2 j _ _ (List.getElem?_eq_getElem hjl) (List.getElem?_eq_getElem (by rw [← h1.1]; exact hjl))).1
    · intro i row j y hrow hy
      rw [List.getElem?_map, Option.map_eq_some_iff] at hrow
      obtain ⟨x, hx, rfl⟩ := hrow
      obtain ⟨h1, h2, h3⟩ := hcs i x hx
      have hjl : j < (cs i).length := by rw [h1.1]; exact (List.getElem?_eq_some_iff.1 hy).1
      have e : (cs i).getD j undef = (cs i)[j] := by simp [List.getD, hjl]
      rw [e]
      exact (h1.2 j _ _ (List.getElem?_eq_getElem hjl) hy).2

theorem reads_cover : Reads 90 5 Cover.flat Cover.ok := by
  intro W vs hl h
  match vs, hl with
  | [c0, c1, c2, c3, c4], _ =>
    obtain ⟨x0, rfl, w0⟩ := Rd.field_int Tryz.underlying90 h 0 _ rfl rfl (c := c0) rfl
    obtain ⟨x1, rfl, w1⟩ := Rd.field_int Tryz.underlying90 h 1 _ rfl rfl (c := c1) rfl
    obtain ⟨x2, rfl, w2⟩ := Rd.field_int Tryz.underlying90 h 2 _ rfl rfl (c := c2) rfl
    obtain ⟨x3, rfl, w3⟩ := Rd.field_int Tryz.underlying90 h 3 _ rfl rfl (c := c3) rfl
    obtain ⟨x4, rfl, w4⟩ := Rd.field_int Tryz.underlying90 h 4 _ rfl rfl (c := c4) rfl
    exact ⟨⟨x0, x1, x2, x3, x4⟩, ⟨int64_of w0, int64_of w1, int64_of w2, int64_of w3, int64_of w4⟩, .cons rfl (.v _) (.cons rfl (.v _) (.cons rfl (.v _) (.cons rfl (.v _) (.cons rfl (.v _) .nil))))⟩

theorem Reads.weak {t : TypeId} {k : Nat} {α : Type} {F : α → List AV} {ok ok' : α → Prop} (h : Reads t k F ok) (hw : ∀ x, ok x → ok' x) : Reads t k F ok' := fun W vs hl hr => by
  obtain ⟨x, h1, h2⟩ := h W vs hl hr
  exact ⟨x, hw x h1, h2⟩

theorem bytesCover : Tryz.prog.bytesOf 90 = 40 := by kernel_rfl

theorem reads_covers : Reads 26 1 (fun l : List Cover => [covs l]) (fun l => (∀ x, x ∈ l → x.ok) ∧ l.length ≤ 1000000000000000) :=
  (reads_slice Tryz.underlying26 (by kernel_rfl) (by decide) Cover.len reads_cover).weak fun l h => ⟨h.1, by
    have h2 := h.2
    rw [bytesCover] at h2
    simp only [reachBytes] at h2
    omega⟩

/-- Two, or four, ints. -/
theorem reads_span : Reads 23 2 (fun p : Int × Int => [int p.1, int p.2]) (fun p => Int64 p.1 ∧ Int64 p.2) := by
  intro W vs hl h
  match vs, hl with
  | [c0, c1], _ =>
    obtain ⟨x0, rfl, w0⟩ := Rd.field_int Tryz.underlying23 h 0 _ rfl rfl (c := c0) rfl
    obtain ⟨x1, rfl, w1⟩ := Rd.field_int Tryz.underlying23 h 1 _ rfl rfl (c := c1) rfl
    exact ⟨⟨x0, x1⟩, ⟨int64_of w0, int64_of w1⟩, .cons rfl (.v _) (.cons rfl (.v _) .nil)⟩

theorem reads_risk : Reads 25 4 (fun p : Int × Int × Int × Int => [int p.1, int p.2.1, int p.2.2.1, int p.2.2.2]) (fun p => Int64 p.1 ∧ Int64 p.2.1 ∧ Int64 p.2.2.1 ∧ Int64 p.2.2.2) := by
  intro W vs hl h
  match vs, hl with
  | [c0, c1, c2, c3], _ =>
    obtain ⟨x0, rfl, w0⟩ := Rd.field_int Tryz.underlying25 h 0 _ rfl rfl (c := c0) rfl
    obtain ⟨x1, rfl, w1⟩ := Rd.field_int Tryz.underlying25 h 1 _ rfl rfl (c := c1) rfl
    obtain ⟨x2, rfl, w2⟩ := Rd.field_int Tryz.underlying25 h 2 _ rfl rfl (c := c2) rfl
    obtain ⟨x3, rfl, w3⟩ := Rd.field_int Tryz.underlying25 h 3 _ rfl rfl (c := c3) rfl
    exact ⟨⟨x0, x1, x2, x3⟩, ⟨int64_of w0, int64_of w1, int64_of w2, int64_of w3⟩, .cons rfl (.v _) (.cons rfl (.v _) (.cons rfl (.v _) (.cons rfl (.v _) .nil)))⟩

theorem cellsSpan : Tryz.prog.cellsOf 23 = 2 := by kernel_rfl
theorem cellsRisk : Tryz.prog.cellsOf 25 = 4 := by kernel_rfl
theorem cellsCovers : Tryz.prog.cellsOf 26 = 1 := by kernel_rfl

theorem reads_terms : Reads 28 7 Terms.flat (fun x => x.ok ∧ x.fit) := by
  intro W vs hl h
  match vs, hl with
  | [c0, c1, c2, c3, c4, c5, c6], _ =>
    have h0 := Rd.field Tryz.underlying28 h 0 _ rfl (o := 0) rfl rfl cellsSpan
    have h1 := Rd.field Tryz.underlying28 h 1 _ rfl (o := 2) rfl rfl cellsRisk
    have h2 := Rd.field Tryz.underlying28 h 2 _ rfl (o := 6) rfl rfl cellsCovers
    obtain ⟨⟨a, b⟩, ⟨o0, o1⟩, r0⟩ := reads_span W _ rfl h0
    obtain ⟨⟨c, d, ag, z⟩, ⟨o2, o3, o4, o5⟩, r1⟩ := reads_risk W _ rfl h1
    obtain ⟨l, ⟨o6, o7⟩, r2⟩ := reads_covers W _ rfl h2
    exact ⟨⟨a, b, c, d, ag, z, l⟩, ⟨⟨⟨o0, o1, o2, o3, o4, o5⟩, o6⟩, o7⟩, (r0.app r1).app r2⟩

theorem reads_change : Reads 54 9 Change.flat (fun x => x.ok ∧ x.fit) := by
  intro W vs hl h
  match vs, hl with
  | [c0, c1, c2, c3, c4, c5, c6, c7, c8], _ =>
    obtain ⟨x0, rfl, w0⟩ := Rd.field_int Tryz.underlying54 h 0 _ rfl rfl (c := c0) rfl
    obtain ⟨x1, rfl, w1⟩ := Rd.field_int Tryz.underlying54 h 1 _ rfl rfl (c := c1) rfl
    obtain ⟨x2, rfl, w2⟩ := Rd.field_int Tryz.underlying54 h 2 _ rfl rfl (c := c2) rfl
    have h1 := Rd.field Tryz.underlying54 h 3 _ rfl (o := 3) rfl rfl cellsRisk
    have h2 := Rd.field Tryz.underlying54 h 4 _ rfl (o := 7) rfl rfl cellsCovers
    obtain ⟨x8, rfl, w8⟩ := Rd.field_int Tryz.underlying54 h 5 _ rfl rfl (c := c8) rfl
    obtain ⟨⟨c, d, ag, z⟩, ⟨o2, o3, o4, o5⟩, r1⟩ := reads_risk W _ rfl h1
    obtain ⟨l, ⟨o6, o7⟩, r2⟩ := reads_covers W _ rfl h2
    exact ⟨⟨x0, x1, x2, c, d, ag, z, l, x8⟩, ⟨⟨⟨int64_of w0, int64_of w1, int64_of w2, o2, o3, o4, o5, int64_of w8⟩, o6⟩, o7⟩, .cons rfl (.v _) (.cons rfl (.v _) (.cons rfl (.v _) ((r1.app r2).app (.cons rfl (.v _) .nil))))⟩

theorem reads_changes : Reads 29 1 (fun l : List Change => [chgs l]) (fun l => ∀ x, x ∈ l → x.ok ∧ x.fit) :=
  (reads_slice Tryz.underlying29 (by kernel_rfl) (by decide) Change.len reads_change).weak fun l h => h.1

theorem cellsTerms : Tryz.prog.cellsOf 28 = 7 := by kernel_rfl
theorem cellsChanges : Tryz.prog.cellsOf 29 = 1 := by kernel_rfl

theorem reads_history : Reads 31 10 History.flat (fun x => x.ok ∧ x.fit) := by
  intro W vs hl h
  match vs, hl with
  | [c0, c1, c2, c3, c4, c5, c6, c7, c8, c9], _ =>
    obtain ⟨x0, rfl, w0⟩ := Rd.field_int Tryz.underlying31 h 0 _ rfl rfl (c := c0) rfl
    obtain ⟨x1, rfl, w1⟩ := Rd.field_int Tryz.underlying31 h 1 _ rfl rfl (c := c1) rfl
    have h1 := Rd.field Tryz.underlying31 h 2 _ rfl (o := 2) rfl rfl cellsTerms
    have h2 := Rd.field Tryz.underlying31 h 3 _ rfl (o := 9) rfl rfl cellsChanges
    obtain ⟨t, ⟨o2, o4⟩, r1⟩ := reads_terms W _ rfl h1
    obtain ⟨l, o3, r2⟩ := reads_changes W _ rfl h2
    exact ⟨⟨x0, x1, t, l⟩, ⟨⟨⟨int64_of w0, int64_of w1⟩, o2, fun c hc => (o3 c hc).1⟩, o4, fun c hc => (o3 c hc).2⟩, .cons rfl (.v _) (.cons rfl (.v _) (r1.app r2))⟩

/-- A struct that came in. -/
theorem RepL.agg {W : World} {vs : Array Value} {l : List AV} (h : RepL W vs.toList l) : RepD (fun _ => False) W (.agg vs) (.agg l) :=
  .agg (by rw [← h.1]; simp) fun i x y hx hy => (h.2 i x y (by simpa using hx) hy).2

/-- A law that answers true, called. -/
theorem Fun.calls {P : Program} {f : FuncId} {args : List AV} (h : Fun P f args (V.bool true)) {W : World} {vs : Array Value} (hv : RepL W vs.toList args ∨ (vs.size = args.length ∧ ∀ (i : Nat) (v : Value) (y : AV), vs[i]? = some v → args[i]? = some y → RepD (fun _ => False) W v y)) :
    Calls P f vs W fun e w' => e = .returned (.bool true) ∧ Below W.heap.size W w' := by
  refine (h (fun _ => False) W vs (fun _ h => h.elim) ?_ ?_).mono ?_
  · rcases hv with h | h
    · rw [← h.1]; simp
    · exact h.1
  · rcases hv with h | h
    · exact fun i v y hi hy => (h.2 i v y (by simpa using hi) hy).2
    · exact h.2
  · rintro e w' ⟨v, rfl, hv, hb⟩
    cases hv
    exact ⟨rfl, hb⟩
theorem Fun.calls1 {P : Program} {f : FuncId} {a : AV} (h : Fun P f [a] (V.bool true)) {W : World} {u : Value} (h0 : RepD (fun _ => False) W u a) : Calls P f #[u] W fun e w' => e = .returned (.bool true) ∧ Below W.heap.size W w' :=
  h.calls (.inr ⟨rfl, fun i v y hi hy => by rcases i with _ | i <;> simp at hi hy; subst hi hy; exact h0⟩)
theorem Fun.calls2 {P : Program} {f : FuncId} {a b : AV} (h : Fun P f [a, b] (V.bool true)) {W : World} {u v : Value} (h0 : RepD (fun _ => False) W u a) (h1 : RepD (fun _ => False) W v b) : Calls P f #[u, v] W fun e w' => e = .returned (.bool true) ∧ Below W.heap.size W w' :=
  h.calls (.inr ⟨rfl, fun i v y hi hy => by
    rcases i with _ | _ | i <;> simp at hi hy
    · subst hi hy; exact h0
    · subst hi hy; exact h1⟩)
theorem Fun.calls3 {P : Program} {f : FuncId} {a b c : AV} (h : Fun P f [a, b, c] (V.bool true)) {W : World} {u v z : Value} (h0 : RepD (fun _ => False) W u a) (h1 : RepD (fun _ => False) W v b) (h2 : RepD (fun _ => False) W z c) : Calls P f #[u, v, z] W fun e w' => e = .returned (.bool true) ∧ Below W.heap.size W w' :=
  h.calls (.inr ⟨rfl, fun i v y hi hy => by
    rcases i with _ | _ | _ | i <;> simp at hi hy
    · subst hi hy; exact h0
    · subst hi hy; exact h1
    · subst hi hy; exact h2⟩)
end Go.Proofs.YtkonljmmdifnaaaGreat.V
set_option linter.unusedSimpArgs false
set_option linter.unusedVariables false
namespace Go.Proofs.YtkonljmmdifnaaaGreat.V
open Go.ChangeShapes Go.WideShapes Go.ChangeAt Go.RowKit Go.Deep
set_option maxRecDepth 100000

def Version.fit (v : Version) : Prop := v.age.length ≤ 1000000000000000 ∧ v.zone.length ≤ 1000000000000000 ∧ v.peril.length ≤ 1000000000000000
/-- An array, element by element. -/
theorem Rd.array {W : World} {t e : TypeId} {n : Nat} {cs : List Value} (ht : Tryz.prog.underlying t = some (.array n e)) (h : Rd W t cs) :
    cs.length = Tryz.prog.cellsOf t ∧ ∀ i, i < n → Rd W e ((cs.drop (i * Tryz.prog.cellsOf e)).take (Tryz.prog.cellsOf e)) := by
  obtain ⟨H, enc, fuel, x, hf, hs⟩ := h
  obtain ⟨xs, m, -, hx, hl, hxl, hg⟩ := DataW.trod_array ht hf
  refine ⟨hl, fun i hi => ?_⟩
  have hi' : i < xs.length := by rw [hxl]; exact hi
  refine ⟨H, enc, m, xs[i], (hg i hi).trans (List.getElem?_eq_getElem hi'), ?_⟩
  subst hx
  simp only [Fits, DataW.weights, ht] at hs
  exact List.all_eq_true.2 fun k hk => List.all_eq_true.1 hs k (weightsAll_mem (List.mem_map.2 ⟨xs[i], List.getElem_mem hi', rfl⟩) k hk)

theorem okWide_array {P : Program} {w : World} {r : Reach} {base : Nat} {t e : TypeId} {v : Value} {n : Nat} (ht : P.underlying t = some (.array n e)) (h : Value.okWide P w r base t v) : ∃ cs, v = .agg cs ∧ cs.size = P.cellsOf t := by
  simp only [Value.okWide, ht] at h
  obtain ⟨cs, h1, h2, _⟩ := h
  exact ⟨cs, h1, h2⟩

theorem reads_arr2 : Reads 43 2 (fun p : Int × Int => [int p.1, int p.2]) (fun p => Int64 p.1 ∧ Int64 p.2) := by
  intro W vs hl h
  match vs, hl with
  | [c0, c1], _ =>
    obtain ⟨-, ha⟩ := Rd.array Tryz.underlying43 h
    have h0 := ha 0 (by decide)
    have h1 := ha 1 (by decide)
    rw [cellsInt] at h0 h1
    obtain ⟨x0, e0, w0⟩ := Rd.int Tryz.underlying3 h0
    obtain ⟨x1, e1, w1⟩ := Rd.int Tryz.underlying3 h1
    simp at e0 e1
    subst e0 e1
    exact ⟨(x0, x1), ⟨int64_of w0, int64_of w1⟩, .cons rfl (.v _) (.cons rfl (.v _) .nil)⟩

theorem reads_arr3 : Reads 49 3 (fun p : Int × Int × Int => [int p.1, int p.2.1, int p.2.2]) (fun p => Int64 p.1 ∧ Int64 p.2.1 ∧ Int64 p.2.2) := by
  intro W vs hl h
  match vs, hl with
  | [c0, c1, c2], _ =>
    obtain ⟨-, ha⟩ := Rd.array Tryz.underlying49 h
    have h0 := ha 0 (by decide)
    have h1 := ha 1 (by decide)
    have h2 := ha 2 (by decide)
    rw [cellsInt] at h0 h1 h2
    obtain ⟨x0, e0, w0⟩ := Rd.int Tryz.underlying3 h0
    obtain ⟨x1, e1, w1⟩ := Rd.int Tryz.underlying3 h1
    obtain ⟨x2, e2, w2⟩ := Rd.int Tryz.underlying3 h2
    simp at e0 e1 e2
    subst e0 e1 e2
    exact ⟨(x0, x1, x2), ⟨int64_of w0, int64_of w1, int64_of w2⟩, .cons rfl (.v _) (.cons rfl (.v _) (.cons rfl (.v _) .nil))⟩

theorem reads_arr4 : Reads 63 4 (fun p : Int × Int × Int × Int => [int p.1, int p.2.1, int p.2.2.1, int p.2.2.2]) (fun _ => True) := by
  intro W vs hl h
  match vs, hl with
  | [c0, c1, c2, c3], _ =>
    obtain ⟨-, ha⟩ := Rd.array Tryz.underlying63 h
    have h0 := ha 0 (by decide)
    have h1 := ha 1 (by decide)
    have h2 := ha 2 (by decide)
    have h3 := ha 3 (by decide)
    rw [cellsInt] at h0 h1 h2 h3
    obtain ⟨x0, e0, w0⟩ := Rd.int Tryz.underlying3 h0
    obtain ⟨x1, e1, w1⟩ := Rd.int Tryz.underlying3 h1
    obtain ⟨x2, e2, w2⟩ := Rd.int Tryz.underlying3 h2
    obtain ⟨x3, e3, w3⟩ := Rd.int Tryz.underlying3 h3
    simp at e0 e1 e2 e3
    subst e0 e1 e2 e3
    exact ⟨(x0, x1, x2, x3), trivial, .cons rfl (.v _) (.cons rfl (.v _) (.cons rfl (.v _) (.cons rfl (.v _) .nil)))⟩

theorem reads_band : Reads 150 2 Band.flat (fun _ => True) := by
  intro W vs hl h
  match vs, hl with
  | [c0, c1], _ =>
    obtain ⟨x0, rfl, w0⟩ := Rd.field_int Tryz.underlying150 h 0 _ rfl rfl (c := c0) rfl
    obtain ⟨x1, rfl, w1⟩ := Rd.field_int Tryz.underlying150 h 1 _ rfl rfl (c := c1) rfl
    exact ⟨⟨x0, x1⟩, trivial, (.cons rfl (.v _) (.cons rfl (.v _) .nil))⟩

theorem bytes_bands : Tryz.prog.bytesOf 150 = 16 := by kernel_rfl
theorem reads_bands : Reads 64 1 (fun l : List Band => [.sl false 2 (l.map Band.flat)]) (fun l => l.length ≤ 1000000000000000) :=
  (reads_slice Tryz.underlying64 (by kernel_rfl) (by decide) (fun b : Band => by rfl) reads_band).weak fun l h => by
    have h2 := h.2
    rw [bytes_bands] at h2
    simp only [reachBytes] at h2
    omega

theorem bytes_ints : Tryz.prog.bytesOf 3 = 8 := by kernel_rfl
theorem reads_ints : Reads 65 1 (fun l : List Int => [ints l]) (fun l => (∀ n, n ∈ l → Int64 n) ∧ l.length ≤ 1000000000000000) :=
  (reads_slice Tryz.underlying65 (by kernel_rfl) (by decide) (fun _ : Int => by rfl) reads_int).weak fun l h => ⟨h.1, by
    have h2 := h.2
    rw [bytes_ints] at h2
    simp only [reachBytes] at h2
    omega⟩

theorem cells_arr4 : Tryz.prog.cellsOf 63 = 4 := by kernel_rfl
theorem cells_bands : Tryz.prog.cellsOf 64 = 1 := by kernel_rfl
theorem cells_ints : Tryz.prog.cellsOf 65 = 1 := by kernel_rfl
theorem reads_version : Reads 67 9 Version.flat (fun x => x.fit) := by
  intro W vs hl h
  match vs, hl with
  | [c0, c1, c2, c3, c4, c5, c6, c7, c8], _ =>
    obtain ⟨x0, rfl, w0⟩ := Rd.field_int Tryz.underlying67 h 0 _ rfl rfl (c := c0) rfl
    have h1 := Rd.field Tryz.underlying67 h 1 _ rfl (o := 1) rfl rfl cells_arr4
    obtain ⟨⟨b0, b1, b2, b3⟩, -, r1⟩ := reads_arr4 W _ rfl h1
    have h2 := Rd.field Tryz.underlying67 h 2 _ rfl (o := 5) rfl rfl cells_bands
    obtain ⟨x2, o2, r2⟩ := reads_bands W _ rfl h2
    have h3 := Rd.field Tryz.underlying67 h 3 _ rfl (o := 6) rfl rfl cells_ints
    obtain ⟨x3, o3, r3⟩ := reads_ints W _ rfl h3
    have h4 := Rd.field Tryz.underlying67 h 4 _ rfl (o := 7) rfl rfl cells_ints
    obtain ⟨x4, o4, r4⟩ := reads_ints W _ rfl h4
    obtain ⟨x5, rfl, w5⟩ := Rd.field_int Tryz.underlying67 h 5 _ rfl rfl (c := c8) rfl
    exact ⟨⟨x0, b0, b1, b2, b3, x2, x3, x4, x5⟩, ⟨o2, o3.2, o4.2⟩, (.cons rfl (.v _) (r1.app (r2.app (r3.app (r4.app (.cons rfl (.v _) .nil))))))⟩

theorem reads_versions : Reads 32 1 (fun l : List Version => [vers l]) (fun l => ∀ v, v ∈ l → v.fit) :=
  (reads_slice Tryz.underlying32 (by kernel_rfl) (by decide) (fun v : Version => by rfl) reads_version).weak fun l h => h.1

theorem cells_versions : Tryz.prog.cellsOf 32 = 1 := by kernel_rfl
theorem reads_tariff : Reads 34 1 (fun l => [vers l]) (fun l => ∀ v, v ∈ l → v.fit) := by
  intro W vs hl h
  match vs, hl with
  | [c0], _ =>
    have h0 := Rd.field Tryz.underlying34 h 0 _ rfl (o := 0) rfl rfl cells_versions
    obtain ⟨x0, o0, r0⟩ := reads_versions W _ rfl h0
    exact ⟨x0, o0, r0⟩

end Go.Proofs.YtkonljmmdifnaaaGreat.V
