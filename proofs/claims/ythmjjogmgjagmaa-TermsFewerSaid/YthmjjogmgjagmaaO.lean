/- Arguments opened: what a slice, a struct, a slice of structs that came in reads as. -/
import Derived.Test.YthmjjogmgjagmaaE
import Derived.ProofKit
import Derived.OpenShut
import Derived.ChangeOld
import Derived.Carry
namespace Go.Proofs.Ythmjjogmgjagmaa
open Go.ChangeShapes Go.WideShapes Go.ChangeAt Go.RowKit Go.Deep

theorem own : ownKnob Try.prog.godebug = none := by kernel_rfl
theorem laidOut : laidOutB Try.prog = true := by kernel_rfl

/-- These cells can be read at type t. -/
def Rd (W : World) (t : TypeId) (cs : List Value) : Prop := ∃ (H : Type) (enc : TypeId × Value → H) (fuel : Nat) (x : DataW H × List MemPlace), DataW.trod enc Try.prog W 0 (fun _ => true) true fuel t cs = some x

theorem Rd.of {H : Type} {enc : TypeId × Value → H} {W : World} {t : TypeId} {v : Value} {d : DataW H} {p : List MemPlace} (h : DataW.Trod enc Try.prog W 0 (fun _ => true) true t v d p) : Rd W t v.cells.toList := by
  obtain ⟨fuel, hf⟩ := h
  exact ⟨H, enc, fuel, _, hf⟩

theorem Rd.int {W : World} {t : TypeId} {k : IntKind} {cs : List Value} (ht : Try.prog.underlying t = some (.int k)) (h : Rd W t cs) : ∃ n, cs = [.int k n] ∧ (Lit.int k n).wf = true := by
  obtain ⟨H, enc, fuel, x, hf⟩ := h
  obtain ⟨n, hc, -, hw⟩ := DataW.trod_int ht hf
  exact ⟨n, hc, hw⟩

theorem Rd.struct {W : World} {t : TypeId} {fs : Array Field} {cs : List Value} (ht : Try.prog.underlying t = some (.struct fs)) (h : Rd W t cs) :
    cs.length = Try.prog.cellsOf t ∧ ∀ (i : Nat) (f : Field), fs[i]? = some f → Rd W f.type ((cs.drop f.offset).take (Try.prog.cellsOf f.type)) := by
  obtain ⟨H, enc, fuel, x, hf⟩ := h
  obtain ⟨xs, n, -, -, hl, hxl, hg⟩ := DataW.trod_struct ht hf
  refine ⟨hl, fun i f hi => ?_⟩
  have hi' : i < xs.length := by rw [hxl]; exact (Array.getElem?_eq_some_iff.1 hi).1
  exact ⟨H, enc, n, xs[i], (hg i f hi).trans (List.getElem?_eq_getElem hi')⟩

/-- A slice that came in, element by element. -/
theorem Rd.rows {α : Type} {W : World} {t e : TypeId} {k : Nat} {R : List Value → α → Prop} {cs : List Value} (ht : Try.prog.underlying t = some (.slice e)) (hk : Try.prog.cellsOf e = k) (hk0 : 0 < k) (h : Rd W t cs)
    (hR : ∀ vs, vs.length = k → Rd W e vs → ∃ x, R vs x) :
    ∃ (A : Option Addr) (n cap : Nat) (l : List α), cs = [.slice A n cap] ∧ n = l.length ∧ n ≤ maxLen ∧ RowsAt W W.heap.size k R A l ∧ (n ≤ cap ∧ cap ≤ maxLen) := by
  obtain ⟨H, enc, fuel, x, hf⟩ := h
  rcases open_slice ht hf with ⟨hc, -⟩ | ⟨a, len, cap, m, n, D, Pl, hc, -, hlc, hcm, hm, -, hi⟩
  · exact ⟨none, 0, 0, [], hc, rfl, Nat.zero_le _, fun h => absurd rfl h, Nat.le_refl _, Nat.zero_le _⟩
  · rw [hk] at hi
    have hi' : ∀ i, i < len → ∃ y vs, R vs y ∧ vs.length = k ∧ ∀ j v, vs[j]? = some v → W.cell? (a.add (i * k + j)) = some v := by
      intro i hil
      obtain ⟨cs', hcs, ht'⟩ := hi i (by rw [hm]; split <;> omega)
      obtain ⟨-, hl, hat⟩ := World.cells?_some hcs
      obtain ⟨y, hy⟩ := hR cs' hl ⟨H, enc, n, _, ht'⟩
      refine ⟨y, cs', hy, hl, fun j v hj => ?_⟩
      have hjl : j < cs'.length := (List.getElem?_eq_some_iff.1 hj).1
      have := hat j (by omega)
      rw [hj] at this
      rw [← this, ← add_add]
    have hl' : ∃ l : List α, l.length = len ∧ ∀ i y, l[i]? = some y → ∃ vs, R vs y ∧ vs.length = k ∧ ∀ j v, vs[j]? = some v → W.cell? (a.add (i * k + j)) = some v := by
      have H : ∀ m, m ≤ len → ∃ l : List α, l.length = m ∧ ∀ i y, l[i]? = some y → ∃ vs, R vs y ∧ vs.length = k ∧ ∀ j v, vs[j]? = some v → W.cell? (a.add (i * k + j)) = some v := by
        intro m
        induction m with
        | zero => exact fun _ => ⟨[], rfl, fun i y h => by simp at h⟩
        | succ m ih =>
          intro hml
          obtain ⟨l, hll, hl⟩ := ih (by omega)
          obtain ⟨y, hy⟩ := hi' m (by omega)
          refine ⟨l ++ [y], by simp [hll], fun i z hz => ?_⟩
          rcases Nat.lt_or_ge i l.length with hlt | hge
          · rw [List.getElem?_append_left hlt] at hz
            exact hl i z hz
          · rw [List.getElem?_append_right hge] at hz
            have hi0 : i - l.length = 0 := by
              rcases Nat.eq_zero_or_pos (i - l.length) with h | h
              · exact h
              · rw [List.getElem?_eq_none (by simp; omega)] at hz
                cases hz
            rw [hi0] at hz
            have : y = z := by simpa using hz
            subst this
            obtain rfl : i = m := by omega
            exact hy
      exact H len (Nat.le_refl _)
    obtain ⟨l, hll, hl⟩ := hl'
    refine ⟨some a, len, cap, l, hc, hll.symm, by omega, fun hne => ?_, hlc, hcm⟩
    have h0 : 0 < l.length := List.length_pos_iff.2 hne
    obtain ⟨vs, -, hvl, hv⟩ := hl 0 _ (List.getElem?_eq_getElem h0)
    obtain ⟨v0, hv0⟩ : ∃ v, vs[0]? = some v := ⟨_, List.getElem?_eq_getElem (by omega)⟩
    have hc0 := hv 0 v0 hv0
    have hsp : a.spot = none := by simpa [Addr.add] using World.cell?_spot hc0
    obtain ⟨b, off, sp⟩ := a
    simp only at hsp
    subst hsp
    refine ⟨b, off, rfl, ?_, fun i y hy => ?_⟩
    · have := World.block_lt_of_cell? W _ hc0
      simpa [Addr.add] using this
    · obtain ⟨vs, h1, h2, h3⟩ := hl i y hy
      refine ⟨vs, h1, h2, fun j v hj => ?_⟩
      have := h3 j v hj
      have e : (⟨b, off, none⟩ : Addr).add (i * k + j) = ⟨b, off + i * k + j, none⟩ := by
        unfold Addr.add
        split
        · simp_all
        · simp [Nat.add_assoc]
      rwa [e] at this

theorem cellsInt : Try.prog.cellsOf 3 = 1 := by kernel_rfl

/-- Field number i. -/
theorem Rd.field {W : World} {t : TypeId} {fs : Array Field} {vs : List Value} (ht : Try.prog.underlying t = some (.struct fs)) (h : Rd W t vs) (i : Nat) (f : Field) (hi : fs[i]? = some f) {t' : TypeId} {o k : Nat} (hty : f.type = t') (ho : f.offset = o)
    (hk : Try.prog.cellsOf t' = k) : Rd W t' ((vs.drop o).take k) := by
  subst hty ho hk
  exact (Rd.struct ht h).2 i f hi

/-- A struct (or a part of one) whose fields from number a on are ints, one cell each. -/
theorem Rd.field_int {W : World} {t : TypeId} {fs : Array Field} {vs : List Value} (ht : Try.prog.underlying t = some (.struct fs)) (h : Rd W t vs) (i : Nat) (f : Field) (hi : fs[i]? = some f) (hty : f.type = 3) {c : Value} (hc : vs[f.offset]? = some c) :
    ∃ n, c = .int .i64 n ∧ (Lit.int .i64 n).wf = true := by
  obtain ⟨-, hf⟩ := Rd.struct ht h
  have h1 := hf i f hi
  rw [hty, cellsInt] at h1
  obtain ⟨n, hn, hw⟩ := Rd.int Try.underlying3 h1
  refine ⟨n, ?_, hw⟩
  obtain ⟨ho, hc'⟩ := List.getElem?_eq_some_iff.1 hc
  rw [List.drop_eq_getElem_cons ho, List.take_succ_cons, List.take_zero] at hn
  rw [← hc']
  simpa using hn

theorem Rd.cover {W : World} {vs : List Value} (hl : vs.length = 5) (h : Rd W 31 vs) : ∃ c : Cover, isCover vs c := by
  match vs, hl with
  | [c0, c1, c2, c3, c4], _ =>
    obtain ⟨x0, rfl, w0⟩ := Rd.field_int Try.underlying31 h 0 _ rfl rfl (c := c0) rfl
    obtain ⟨x1, rfl, w1⟩ := Rd.field_int Try.underlying31 h 1 _ rfl rfl (c := c1) rfl
    obtain ⟨x2, rfl, w2⟩ := Rd.field_int Try.underlying31 h 2 _ rfl rfl (c := c2) rfl
    obtain ⟨x3, rfl, w3⟩ := Rd.field_int Try.underlying31 h 3 _ rfl rfl (c := c3) rfl
    obtain ⟨x4, rfl, w4⟩ := Rd.field_int Try.underlying31 h 4 _ rfl rfl (c := c4) rfl
    exact ⟨⟨x0, x1, x2, x3, x4⟩, rfl, w0, w1, w2, w3, w4⟩

theorem Rd.covers {W : World} {cs : List Value} (h : Rd W 26 cs) : ∃ (A : Option Addr) (n cap : Nat) (l : List Cover), cs = [.slice A n cap] ∧ n = l.length ∧ n ≤ maxLen ∧ RowsAt W W.heap.size 5 isCover A l ∧ (n ≤ cap ∧ cap ≤ maxLen) :=
  Rd.rows Try.underlying26 (by kernel_rfl) (by decide) h fun _ hl h => Rd.cover hl h

theorem Rd.span {W : World} {vs : List Value} (hl : vs.length = 2) (h : Rd W 23 vs) : ∃ a b, vs = [.int .i64 a, .int .i64 b] ∧ (Lit.int .i64 a).wf = true ∧ (Lit.int .i64 b).wf = true := by
  match vs, hl with
  | [c0, c1], _ =>
    obtain ⟨x0, rfl, w0⟩ := Rd.field_int Try.underlying23 h 0 _ rfl rfl (c := c0) rfl
    obtain ⟨x1, rfl, w1⟩ := Rd.field_int Try.underlying23 h 1 _ rfl rfl (c := c1) rfl
    exact ⟨x0, x1, rfl, w0, w1⟩

theorem Rd.risk {W : World} {vs : List Value} (hl : vs.length = 4) (h : Rd W 25 vs) : ∃ a b c d, vs = [.int .i64 a, .int .i64 b, .int .i64 c, .int .i64 d] ∧ (Lit.int .i64 a).wf = true ∧ (Lit.int .i64 b).wf = true ∧ (Lit.int .i64 c).wf = true ∧ (Lit.int .i64 d).wf = true := by
  match vs, hl with
  | [c0, c1, c2, c3], _ =>
    obtain ⟨x0, rfl, w0⟩ := Rd.field_int Try.underlying25 h 0 _ rfl rfl (c := c0) rfl
    obtain ⟨x1, rfl, w1⟩ := Rd.field_int Try.underlying25 h 1 _ rfl rfl (c := c1) rfl
    obtain ⟨x2, rfl, w2⟩ := Rd.field_int Try.underlying25 h 2 _ rfl rfl (c := c2) rfl
    obtain ⟨x3, rfl, w3⟩ := Rd.field_int Try.underlying25 h 3 _ rfl rfl (c := c3) rfl
    exact ⟨x0, x1, x2, x3, rfl, w0, w1, w2, w3⟩

theorem cellsSpan : Try.prog.cellsOf 23 = 2 := by kernel_rfl
theorem cellsRisk : Try.prog.cellsOf 25 = 4 := by kernel_rfl
theorem cellsCovers : Try.prog.cellsOf 26 = 1 := by kernel_rfl

def Int64 (n : Int) : Prop := (Lit.int .i64 n).wf = true

theorem Rd.terms {W : World} {vs : List Value} (hl : vs.length = 7) (h : Rd W 28 vs) :
    ∃ a b c d ag z A n cap l, vs = [.int .i64 a, .int .i64 b, .int .i64 c, .int .i64 d, .int .i64 ag, .int .i64 z, .slice A n cap] ∧ n = l.length ∧ n ≤ maxLen ∧ RowsAt W W.heap.size 5 isCover A l ∧ (n ≤ cap ∧ cap ≤ maxLen) ∧
      Int64 a ∧ Int64 b ∧ Int64 c ∧ Int64 d ∧ Int64 ag ∧ Int64 z := by
  match vs, hl with
  | [c0, c1, c2, c3, c4, c5, c6], _ =>
    have h0 := Rd.field Try.underlying28 h 0 _ rfl (o := 0) rfl rfl cellsSpan
    have h1 := Rd.field Try.underlying28 h 1 _ rfl (o := 2) rfl rfl cellsRisk
    have h2 := Rd.field Try.underlying28 h 2 _ rfl (o := 6) rfl rfl cellsCovers
    obtain ⟨a, b, e0, wa, wb⟩ := Rd.span rfl h0
    obtain ⟨c, d, ag, z, e1, wc, wd, wag, wz⟩ := Rd.risk rfl h1
    obtain ⟨A, n, cap, l, e2, hn, hm, hr, hcp⟩ := Rd.covers h2
    simp at e0 e1 e2
    obtain ⟨rfl, rfl⟩ := e0
    obtain ⟨rfl, rfl, rfl, rfl⟩ := e1
    subst e2
    exact ⟨a, b, c, d, ag, z, A, n, cap, l, rfl, hn, hm, hr, hcp, wa, wb, wc, wd, wag, wz⟩

end Go.Proofs.Ythmjjogmgjagmaa
