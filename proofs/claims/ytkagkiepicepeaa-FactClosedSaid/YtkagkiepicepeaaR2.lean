/- Arguments opened: more kinds of what comes in. -/
import Derived.Test.YtkagkiepicepeaaR1
import Derived.Test.YtkagkiepicepeaaG29
set_option linter.unusedSimpArgs false
set_option linter.unusedVariables false
namespace Go.Proofs.Ytkagkiepicepeaa.V
open Go.ChangeShapes Go.WideShapes Go.ChangeAt Go.RowKit Go.Deep
set_option maxRecDepth 100000

/-- An array, element by element. -/
theorem Rd.array {W : World} {t e : TypeId} {n : Nat} {cs : List Value} (ht : Try.prog.underlying t = some (.array n e)) (h : Rd W t cs) :
    cs.length = Try.prog.cellsOf t ∧ ∀ i, i < n → Rd W e ((cs.drop (i * Try.prog.cellsOf e)).take (Try.prog.cellsOf e)) := by
  obtain ⟨H, enc, fuel, x, hf, hs⟩ := h
  obtain ⟨xs, m, -, hx, hl, hxl, hg⟩ := DataW.trod_array ht hf
  refine ⟨hl, fun i hi => ?_⟩
  have hi' : i < xs.length := by rw [hxl]; exact hi
  refine ⟨H, enc, m, xs[i], (hg i hi).trans (List.getElem?_eq_getElem hi'), ?_⟩
  subst hx
  simp only [Fits, DataW.weights, ht] at hs
  exact List.all_eq_true.2 fun k hk => List.all_eq_true.1 hs k (weightsAll_mem (List.mem_map.2 ⟨xs[i], List.getElem_mem hi', rfl⟩) k hk)

theorem okWide_array {P : Program} {w : World} {r : Reach} {base : Nat} {t e : TypeId} {v : Value} {n : Nat} (ht : P.underlying t = some (.array n e)) (h : Value.okWide P w r base t v) : ∃ cs, v = .agg cs ∧ cs.size = P.cellsOf t := by
  simp only [Value.okWide, ht] at h
  obtain ⟨cs, h1, h2, _⟩ := h
  exact ⟨cs, h1, h2⟩

theorem reads_arr2 : Reads 54 2 (fun p : Int × Int => [int p.1, int p.2]) (fun p => Int64 p.1 ∧ Int64 p.2) := by
  intro W vs hl h
  match vs, hl with
  | [c0, c1], _ =>
    obtain ⟨-, ha⟩ := Rd.array Try.underlying54 h
    have h0 := ha 0 (by decide)
    have h1 := ha 1 (by decide)
    rw [cellsInt] at h0 h1
    obtain ⟨x0, e0, w0⟩ := Rd.int Try.underlying3 h0
    obtain ⟨x1, e1, w1⟩ := Rd.int Try.underlying3 h1
    simp at e0 e1
    subst e0 e1
    exact ⟨(x0, x1), ⟨int64_of w0, int64_of w1⟩, .cons rfl (.v _) (.cons rfl (.v _) .nil)⟩

theorem reads_arr4 : Reads 78 4 (fun p : Int × Int × Int × Int => [int p.1, int p.2.1, int p.2.2.1, int p.2.2.2]) (fun _ => True) := by
  intro W vs hl h
  match vs, hl with
  | [c0, c1, c2, c3], _ =>
    obtain ⟨-, ha⟩ := Rd.array Try.underlying78 h
    have h0 := ha 0 (by decide)
    have h1 := ha 1 (by decide)
    have h2 := ha 2 (by decide)
    have h3 := ha 3 (by decide)
    rw [cellsInt] at h0 h1 h2 h3
    obtain ⟨x0, e0, w0⟩ := Rd.int Try.underlying3 h0
    obtain ⟨x1, e1, w1⟩ := Rd.int Try.underlying3 h1
    obtain ⟨x2, e2, w2⟩ := Rd.int Try.underlying3 h2
    obtain ⟨x3, e3, w3⟩ := Rd.int Try.underlying3 h3
    simp at e0 e1 e2 e3
    subst e0 e1 e2 e3
    exact ⟨(x0, x1, x2, x3), trivial, .cons rfl (.v _) (.cons rfl (.v _) (.cons rfl (.v _) (.cons rfl (.v _) .nil)))⟩

theorem reads_claim : Reads 38 6 Claim.flat (fun _ => True) := by
  intro W vs hl h
  match vs, hl with
  | [c0, c1, c2, c3, c4, c5], _ =>
    obtain ⟨x0, rfl, w0⟩ := Rd.field_int Try.underlying38 h 0 _ rfl rfl (c := c0) rfl
    obtain ⟨x1, rfl, w1⟩ := Rd.field_int Try.underlying38 h 1 _ rfl rfl (c := c1) rfl
    obtain ⟨x2, rfl, w2⟩ := Rd.field_int Try.underlying38 h 2 _ rfl rfl (c := c2) rfl
    obtain ⟨x3, rfl, w3⟩ := Rd.field_int Try.underlying38 h 3 _ rfl rfl (c := c3) rfl
    obtain ⟨x4, rfl, w4⟩ := Rd.field_int Try.underlying38 h 4 _ rfl rfl (c := c4) rfl
    obtain ⟨x5, rfl, w5⟩ := Rd.field_int Try.underlying38 h 5 _ rfl rfl (c := c5) rfl
    exact ⟨⟨x0, x1, x2, x3, x4, x5⟩, trivial, (.cons rfl (.v _) (.cons rfl (.v _) (.cons rfl (.v _) (.cons rfl (.v _) (.cons rfl (.v _) (.cons rfl (.v _) .nil))))))⟩

theorem reads_act : Reads 40 3 Act.flat (fun x => Int64 x.booked ∧ Int64 x.kind ∧ Int64 x.amt) := by
  intro W vs hl h
  match vs, hl with
  | [c0, c1, c2], _ =>
    obtain ⟨x0, rfl, w0⟩ := Rd.field_int Try.underlying40 h 0 _ rfl rfl (c := c0) rfl
    obtain ⟨x1, rfl, w1⟩ := Rd.field_int Try.underlying40 h 1 _ rfl rfl (c := c1) rfl
    obtain ⟨x2, rfl, w2⟩ := Rd.field_int Try.underlying40 h 2 _ rfl rfl (c := c2) rfl
    exact ⟨⟨x0, x1, x2⟩, ⟨int64_of w0, int64_of w1, int64_of w2⟩, (.cons rfl (.v _) (.cons rfl (.v _) (.cons rfl (.v _) .nil)))⟩

theorem reads_treaty : Reads 42 9 Treaty.flat (fun _ => True) := by
  intro W vs hl h
  match vs, hl with
  | [c0, c1, c2, c3, c4, c5, c6, c7, c8], _ =>
    obtain ⟨x0, rfl, w0⟩ := Rd.field_int Try.underlying42 h 0 _ rfl rfl (c := c0) rfl
    obtain ⟨x1, rfl, w1⟩ := Rd.field_int Try.underlying42 h 1 _ rfl rfl (c := c1) rfl
    have h2 := Rd.field Try.underlying42 h 2 _ rfl (o := 2) rfl rfl cellsSpan
    obtain ⟨⟨a, b⟩, _, r2⟩ := reads_span W _ rfl h2
    obtain ⟨x3, rfl, w3⟩ := Rd.field_int Try.underlying42 h 3 _ rfl rfl (c := c4) rfl
    obtain ⟨x4, rfl, w4⟩ := Rd.field_int Try.underlying42 h 4 _ rfl rfl (c := c5) rfl
    obtain ⟨x5, rfl, w5⟩ := Rd.field_int Try.underlying42 h 5 _ rfl rfl (c := c6) rfl
    obtain ⟨x6, rfl, w6⟩ := Rd.field_int Try.underlying42 h 6 _ rfl rfl (c := c7) rfl
    obtain ⟨x7, rfl, w7⟩ := Rd.field_int Try.underlying42 h 7 _ rfl rfl (c := c8) rfl
    exact ⟨⟨x0, x1, a, b, x3, x4, x5, x6, x7⟩, trivial, (.cons rfl (.v _) (.cons rfl (.v _) (r2.app (.cons rfl (.v _) (.cons rfl (.v _) (.cons rfl (.v _) (.cons rfl (.v _) (.cons rfl (.v _) .nil))))))))⟩

theorem cells_act : Try.prog.cellsOf 40 = 3 := by kernel_rfl
theorem cells_change : Try.prog.cellsOf 36 = 9 := by kernel_rfl
theorem cells_claim : Try.prog.cellsOf 38 = 6 := by kernel_rfl
theorem cells_treaty : Try.prog.cellsOf 42 = 9 := by kernel_rfl
theorem reads_fact : Reads 44 39 Fact.flat (fun x => x.ok ∧ x.fit) := by
  intro W vs hl h
  obtain ⟨c0, vs, rfl⟩ := List.exists_cons_of_length_pos (l := vs) (by omega)
  simp only [List.length_cons] at hl
  obtain ⟨c1, vs, rfl⟩ := List.exists_cons_of_length_pos (l := vs) (by omega)
  simp only [List.length_cons] at hl
  obtain ⟨c2, vs, rfl⟩ := List.exists_cons_of_length_pos (l := vs) (by omega)
  simp only [List.length_cons] at hl
  obtain ⟨c3, vs, rfl⟩ := List.exists_cons_of_length_pos (l := vs) (by omega)
  simp only [List.length_cons] at hl
  obtain ⟨c4, vs, rfl⟩ := List.exists_cons_of_length_pos (l := vs) (by omega)
  simp only [List.length_cons] at hl
  obtain ⟨c5, vs, rfl⟩ := List.exists_cons_of_length_pos (l := vs) (by omega)
  simp only [List.length_cons] at hl
  obtain ⟨c6, vs, rfl⟩ := List.exists_cons_of_length_pos (l := vs) (by omega)
  simp only [List.length_cons] at hl
  obtain ⟨c7, vs, rfl⟩ := List.exists_cons_of_length_pos (l := vs) (by omega)
  simp only [List.length_cons] at hl
  obtain ⟨c8, vs, rfl⟩ := List.exists_cons_of_length_pos (l := vs) (by omega)
  simp only [List.length_cons] at hl
  obtain ⟨c9, vs, rfl⟩ := List.exists_cons_of_length_pos (l := vs) (by omega)
  simp only [List.length_cons] at hl
  obtain ⟨c10, vs, rfl⟩ := List.exists_cons_of_length_pos (l := vs) (by omega)
  simp only [List.length_cons] at hl
  obtain ⟨c11, vs, rfl⟩ := List.exists_cons_of_length_pos (l := vs) (by omega)
  simp only [List.length_cons] at hl
  obtain ⟨c12, vs, rfl⟩ := List.exists_cons_of_length_pos (l := vs) (by omega)
  simp only [List.length_cons] at hl
  obtain ⟨c13, vs, rfl⟩ := List.exists_cons_of_length_pos (l := vs) (by omega)
  simp only [List.length_cons] at hl
  obtain ⟨c14, vs, rfl⟩ := List.exists_cons_of_length_pos (l := vs) (by omega)
  simp only [List.length_cons] at hl
  obtain ⟨c15, vs, rfl⟩ := List.exists_cons_of_length_pos (l := vs) (by omega)
  simp only [List.length_cons] at hl
  obtain ⟨c16, vs, rfl⟩ := List.exists_cons_of_length_pos (l := vs) (by omega)
  simp only [List.length_cons] at hl
  obtain ⟨c17, vs, rfl⟩ := List.exists_cons_of_length_pos (l := vs) (by omega)
  simp only [List.length_cons] at hl
  obtain ⟨c18, vs, rfl⟩ := List.exists_cons_of_length_pos (l := vs) (by omega)
  simp only [List.length_cons] at hl
  obtain ⟨c19, vs, rfl⟩ := List.exists_cons_of_length_pos (l := vs) (by omega)
  simp only [List.length_cons] at hl
  obtain ⟨c20, vs, rfl⟩ := List.exists_cons_of_length_pos (l := vs) (by omega)
  simp only [List.length_cons] at hl
  obtain ⟨c21, vs, rfl⟩ := List.exists_cons_of_length_pos (l := vs) (by omega)
  simp only [List.length_cons] at hl
  obtain ⟨c22, vs, rfl⟩ := List.exists_cons_of_length_pos (l := vs) (by omega)
  simp only [List.length_cons] at hl
  obtain ⟨c23, vs, rfl⟩ := List.exists_cons_of_length_pos (l := vs) (by omega)
  simp only [List.length_cons] at hl
  obtain ⟨c24, vs, rfl⟩ := List.exists_cons_of_length_pos (l := vs) (by omega)
  simp only [List.length_cons] at hl
  obtain ⟨c25, vs, rfl⟩ := List.exists_cons_of_length_pos (l := vs) (by omega)
  simp only [List.length_cons] at hl
  obtain ⟨c26, vs, rfl⟩ := List.exists_cons_of_length_pos (l := vs) (by omega)
  simp only [List.length_cons] at hl
  obtain ⟨c27, vs, rfl⟩ := List.exists_cons_of_length_pos (l := vs) (by omega)
  simp only [List.length_cons] at hl
  obtain ⟨c28, vs, rfl⟩ := List.exists_cons_of_length_pos (l := vs) (by omega)
  simp only [List.length_cons] at hl
  obtain ⟨c29, vs, rfl⟩ := List.exists_cons_of_length_pos (l := vs) (by omega)
  simp only [List.length_cons] at hl
  obtain ⟨c30, vs, rfl⟩ := List.exists_cons_of_length_pos (l := vs) (by omega)
  simp only [List.length_cons] at hl
  obtain ⟨c31, vs, rfl⟩ := List.exists_cons_of_length_pos (l := vs) (by omega)
  simp only [List.length_cons] at hl
  obtain ⟨c32, vs, rfl⟩ := List.exists_cons_of_length_pos (l := vs) (by omega)
  simp only [List.length_cons] at hl
  obtain ⟨c33, vs, rfl⟩ := List.exists_cons_of_length_pos (l := vs) (by omega)
  simp only [List.length_cons] at hl
  obtain ⟨c34, vs, rfl⟩ := List.exists_cons_of_length_pos (l := vs) (by omega)
  simp only [List.length_cons] at hl
  obtain ⟨c35, vs, rfl⟩ := List.exists_cons_of_length_pos (l := vs) (by omega)
  simp only [List.length_cons] at hl
  obtain ⟨c36, vs, rfl⟩ := List.exists_cons_of_length_pos (l := vs) (by omega)
  simp only [List.length_cons] at hl
  obtain ⟨c37, vs, rfl⟩ := List.exists_cons_of_length_pos (l := vs) (by omega)
  simp only [List.length_cons] at hl
  obtain ⟨c38, vs, rfl⟩ := List.exists_cons_of_length_pos (l := vs) (by omega)
  simp only [List.length_cons] at hl
  obtain rfl : vs = [] := List.eq_nil_of_length_eq_zero (by omega)
  · clear hl
    obtain ⟨x0, rfl, w0⟩ := Rd.field_int Try.underlying44 h 0 _ rfl rfl (c := c0) rfl
    obtain ⟨x1, rfl, w1⟩ := Rd.field_int Try.underlying44 h 1 _ rfl rfl (c := c1) rfl
    obtain ⟨x2, rfl, w2⟩ := Rd.field_int Try.underlying44 h 2 _ rfl rfl (c := c2) rfl
    obtain ⟨x3, rfl, w3⟩ := Rd.field_int Try.underlying44 h 3 _ rfl rfl (c := c3) rfl
    obtain ⟨x4, rfl, w4⟩ := Rd.field_int Try.underlying44 h 4 _ rfl rfl (c := c4) rfl
    have h5 := Rd.field Try.underlying44 h 5 _ rfl (o := 5) rfl rfl cellsTerms
    obtain ⟨x5, ⟨o5, f5⟩, r5⟩ := reads_terms W _ rfl h5
    have h6 := Rd.field Try.underlying44 h 6 _ rfl (o := 12) rfl rfl cells_change
    obtain ⟨x6, ⟨o6, f6⟩, r6⟩ := reads_change W _ rfl h6
    have h7 := Rd.field Try.underlying44 h 7 _ rfl (o := 21) rfl rfl cells_claim
    obtain ⟨x7, -, r7⟩ := reads_claim W _ rfl h7
    have h8 := Rd.field Try.underlying44 h 8 _ rfl (o := 27) rfl rfl cells_act
    obtain ⟨x8, -, r8⟩ := reads_act W _ rfl h8
    have h9 := Rd.field Try.underlying44 h 9 _ rfl (o := 30) rfl rfl cells_treaty
    obtain ⟨x9, -, r9⟩ := reads_treaty W _ rfl h9
    exact ⟨⟨x0, x1, x2, x3, x4, x5, x6, x7, x8, x9⟩, ⟨⟨o5, o6⟩, f5, f6⟩, (.cons rfl (.v _) (.cons rfl (.v _) (.cons rfl (.v _) (.cons rfl (.v _) (.cons rfl (.v _) (r5.app (r6.app (r7.app (r8.app r9)))))))))⟩

theorem reads_facts : Reads 25 1 (fun l : List Fact => [facts l]) (fun l => ∀ x, x ∈ l → x.ok ∧ x.fit) :=
  (reads_slice Try.underlying25 (by kernel_rfl) (by decide) Fact.len reads_fact).weak fun l h => h.1

theorem reads_band : Reads 138 2 Band.flat (fun _ => True) := by
  intro W vs hl h
  match vs, hl with
  | [c0, c1], _ =>
    obtain ⟨x0, rfl, w0⟩ := Rd.field_int Try.underlying138 h 0 _ rfl rfl (c := c0) rfl
    obtain ⟨x1, rfl, w1⟩ := Rd.field_int Try.underlying138 h 1 _ rfl rfl (c := c1) rfl
    exact ⟨⟨x0, x1⟩, trivial, (.cons rfl (.v _) (.cons rfl (.v _) .nil))⟩

theorem bytes_bands : Try.prog.bytesOf 138 = 16 := by kernel_rfl
theorem reads_bands : Reads 79 1 (fun l : List Band => [.sl false 2 (l.map Band.flat)]) (fun l => l.length ≤ 1000000000000000) :=
  (reads_slice Try.underlying79 (by kernel_rfl) (by decide) (fun b : Band => by rfl) reads_band).weak fun l h => by
    have h2 := h.2
    rw [bytes_bands] at h2
    simp only [reachBytes] at h2
    omega

theorem bytes_ints : Try.prog.bytesOf 3 = 8 := by kernel_rfl
theorem reads_ints : Reads 73 1 (fun l : List Int => [ints l]) (fun l => (∀ n, n ∈ l → Int64 n) ∧ l.length ≤ 1000000000000000) :=
  (reads_slice Try.underlying73 (by kernel_rfl) (by decide) (fun _ : Int => by rfl) reads_int).weak fun l h => ⟨h.1, by
    have h2 := h.2
    rw [bytes_ints] at h2
    simp only [reachBytes] at h2
    omega⟩

theorem cells_arr4 : Try.prog.cellsOf 78 = 4 := by kernel_rfl
theorem cells_bands : Try.prog.cellsOf 79 = 1 := by kernel_rfl
theorem cells_ints : Try.prog.cellsOf 73 = 1 := by kernel_rfl
theorem reads_version : Reads 81 9 Version.flat (fun x => x.fit) := by
  intro W vs hl h
  match vs, hl with
  | [c0, c1, c2, c3, c4, c5, c6, c7, c8], _ =>
    obtain ⟨x0, rfl, w0⟩ := Rd.field_int Try.underlying81 h 0 _ rfl rfl (c := c0) rfl
    have h1 := Rd.field Try.underlying81 h 1 _ rfl (o := 1) rfl rfl cells_arr4
    obtain ⟨⟨b0, b1, b2, b3⟩, -, r1⟩ := reads_arr4 W _ rfl h1
    have h2 := Rd.field Try.underlying81 h 2 _ rfl (o := 5) rfl rfl cells_bands
    obtain ⟨x2, o2, r2⟩ := reads_bands W _ rfl h2
    have h3 := Rd.field Try.underlying81 h 3 _ rfl (o := 6) rfl rfl cells_ints
    obtain ⟨x3, o3, r3⟩ := reads_ints W _ rfl h3
    have h4 := Rd.field Try.underlying81 h 4 _ rfl (o := 7) rfl rfl cells_ints
    obtain ⟨x4, o4, r4⟩ := reads_ints W _ rfl h4
    obtain ⟨x5, rfl, w5⟩ := Rd.field_int Try.underlying81 h 5 _ rfl rfl (c := c8) rfl
    exact ⟨⟨x0, b0, b1, b2, b3, x2, x3, x4, x5⟩, ⟨o2, o3.2, o4.2⟩, (.cons rfl (.v _) (r1.app (r2.app (r3.app (r4.app (.cons rfl (.v _) .nil))))))⟩

theorem reads_versions : Reads 22 1 (fun l : List Version => [vers l]) (fun l => ∀ v, v ∈ l → v.fit) :=
  (reads_slice Try.underlying22 (by kernel_rfl) (by decide) (fun v : Version => by rfl) reads_version).weak fun l h => h.1

theorem cells_versions : Try.prog.cellsOf 22 = 1 := by kernel_rfl
theorem reads_tariff : Reads 24 1 (fun l => [vers l]) (fun l => ∀ v, v ∈ l → v.fit) := by
  intro W vs hl h
  match vs, hl with
  | [c0], _ =>
    have h0 := Rd.field Try.underlying24 h 0 _ rfl (o := 0) rfl rfl cells_versions
    obtain ⟨x0, o0, r0⟩ := reads_versions W _ rfl h0
    exact ⟨x0, o0, r0⟩

theorem cells_facts : Try.prog.cellsOf 25 = 1 := by kernel_rfl
theorem cells_tariff : Try.prog.cellsOf 24 = 1 := by kernel_rfl
theorem reads_journal : Reads 27 2 Journal.flat (fun x => (∀ f, f ∈ x.facts → f.ok) ∧ x.fit) := by
  intro W vs hl h
  match vs, hl with
  | [c0, c1], _ =>
    have h0 := Rd.field Try.underlying27 h 0 _ rfl (o := 0) rfl rfl cells_tariff
    obtain ⟨x0, o0, r0⟩ := reads_tariff W _ rfl h0
    have h1 := Rd.field Try.underlying27 h 1 _ rfl (o := 1) rfl rfl cells_facts
    obtain ⟨x1, o1, r1⟩ := reads_facts W _ rfl h1
    exact ⟨⟨x0, x1⟩, ⟨fun f h => (o1 f h).1, fun f h => (o1 f h).2, o0⟩, (r0.app r1)⟩

end Go.Proofs.Ytkagkiepicepeaa.V
