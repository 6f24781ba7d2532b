/- Arguments opened: what came in, as plain data. -/
import Derived.Test.YtjplhfmakghabaaGreatG6
import Derived.Test.YtjplhfmakghabaaGreatG7
import Derived.ProofKit
import Derived.OpenShut
import Derived.ChangeOld
import Derived.Carry
import Derived.Deep.Slices
import Derived.Deep.Fields
import Derived.SizedLaws
set_option linter.unusedSimpArgs false
set_option linter.unusedVariables false
namespace Go.Proofs.YtjplhfmakghabaaGreat.V
open Go.ChangeShapes Go.WideShapes Go.ChangeAt Go.RowKit Go.Deep

theorem own : ownKnob Tryz.prog.godebug = none := by kernel_rfl
theorem laidOut : laidOutB Tryz.prog = true := by kernel_rfl

/-- What it holds is of the form's own reach. -/
def Fits {H : Type} (t : TypeId) (d : DataW H) : Prop := (d.weights Tryz.prog t).all (· ≤ reachBytes) = true

theorem Fits.part {H : Type} {ts : List TypeId} {ds : List (DataW H)} (h : (DataW.weightsEach Tryz.prog ts ds).all (· ≤ reachBytes) = true) {j : Nat} {t : TypeId} {d : DataW H} (ht : ts[j]? = some t) (hd : ds[j]? = some d) : Fits t d :=
  List.all_eq_true.2 fun n hn => List.all_eq_true.1 h n (DataW.weights_mem_each ht hd n hn)

theorem weightsAll_mem {H : Type} {e : TypeId} : ∀ {ds : List (DataW H)} {d : DataW H}, d ∈ ds → ∀ n ∈ d.weights Tryz.prog e, n ∈ DataW.weightsAll Tryz.prog e ds
  | d0 :: r, d, hd, n, hn => by
    simp only [DataW.weightsAll, List.mem_append]
    rcases List.mem_cons.1 hd with rfl | h
    · exact Or.inl hn
    · exact Or.inr (weightsAll_mem h n hn)

/-- These cells can be read at type t. -/
def Rd (W : World) (t : TypeId) (cs : List Value) : Prop := ∃ (H : Type) (enc : TypeId × Value → H) (fuel : Nat) (x : DataW H × List MemPlace), DataW.trod enc Tryz.prog W 0 (fun _ => true) true fuel t cs = some x ∧ Fits t x.1

theorem Rd.of {H : Type} {enc : TypeId × Value → H} {W : World} {t : TypeId} {v : Value} {d : DataW H} {p : List MemPlace} (h : DataW.Trod enc Tryz.prog W 0 (fun _ => true) true t v d p) (hs : Fits t d) : Rd W t v.cells.toList := by
  obtain ⟨fuel, hf⟩ := h
  exact ⟨H, enc, fuel, _, hf, hs⟩

theorem Rd.int {W : World} {t : TypeId} {k : IntKind} {cs : List Value} (ht : Tryz.prog.underlying t = some (.int k)) (h : Rd W t cs) : ∃ n, cs = [.int k n] ∧ (Lit.int k n).wf = true := by
  obtain ⟨H, enc, fuel, x, hf, -⟩ := h
  obtain ⟨n, hc, -, hw⟩ := DataW.trod_int ht hf
  exact ⟨n, hc, hw⟩

theorem Rd.struct {W : World} {t : TypeId} {fs : Array Field} {cs : List Value} (ht : Tryz.prog.underlying t = some (.struct fs)) (h : Rd W t cs) :
    cs.length = Tryz.prog.cellsOf t ∧ ∀ (i : Nat) (f : Field), fs[i]? = some f → Rd W f.type ((cs.drop f.offset).take (Tryz.prog.cellsOf f.type)) := by
  obtain ⟨H, enc, fuel, x, hf, hs⟩ := h
  obtain ⟨xs, n, -, hx, hl, hxl, hg⟩ := DataW.trod_struct ht hf
  refine ⟨hl, fun i f hi => ?_⟩
  have hi' : i < xs.length := by rw [hxl]; exact (Array.getElem?_eq_some_iff.1 hi).1
  refine ⟨H, enc, n, xs[i], (hg i f hi).trans (List.getElem?_eq_getElem hi'), ?_⟩
  subst hx
  have h2 : (DataW.weightsEach Tryz.prog (fs.toList.map (·.type)) (xs.map (·.1))).all (· ≤ reachBytes) = true := by simpa [Fits, DataW.weights, ht] using hs
  exact Fits.part h2 (j := i) (by simp [hi]) (by simp [List.getElem?_eq_getElem hi'])

/-- A slice that came in, element by element. -/
theorem Rd.rows {α : Type} {W : World} {t e : TypeId} {k : Nat} {R : List Value → α → Prop} {cs : List Value} (ht : Tryz.prog.underlying t = some (.slice e)) (hk : Tryz.prog.cellsOf e = k) (hk0 : 0 < k) (h : Rd W t cs)
    (hR : ∀ vs, vs.length = k → Rd W e vs → ∃ x, R vs x) :
    ∃ (A : Option Addr) (n cap : Nat) (l : List α), cs = [.slice A n cap] ∧ n = l.length ∧ n ≤ maxLen ∧ (l ≠ [] → ∃ b off, A = some ⟨b, off, none⟩ ∧ b < W.heap.size ∧ ∀ i y, l[i]? = some y → ∃ vs, R vs y ∧ vs.length = k ∧ ∀ j v, vs[j]? = some v → W.cell? ⟨b, off + i * k + j, none⟩ = some v) ∧ (n ≤ cap ∧ cap ≤ maxLen) ∧ n * Tryz.prog.bytesOf e ≤ reachBytes := by
  obtain ⟨H, enc, fuel, x, hf, hs⟩ := h
  rcases open_slice ht hf with ⟨hc, -⟩ | ⟨a, len, cap, m, n, D, Pl, hc, -, hlc, hcm, hm, hx, hi⟩
  · exact ⟨none, 0, 0, [], hc, rfl, Nat.zero_le _, fun h => absurd rfl h, ⟨Nat.le_refl _, Nat.zero_le _⟩, by simp⟩
  · rw [hk] at hi
    have hml : len ≤ m := by rw [hm]; split <;> omega
    have hbytes : len * Tryz.prog.bytesOf e ≤ reachBytes := by
      subst hx
      simp only [Fits, DataW.weights, ht, List.all_cons, Bool.and_eq_true, decide_eq_true_eq] at hs
      have h1 := hs.1
      simp only [List.length_map, List.length_range] at h1
      exact Nat.le_trans (Nat.mul_le_mul_right _ (by omega)) h1
    have hfit : ∀ i, i < len → Fits e (D i) := by
      intro i hil
      subst hx
      simp only [Fits, DataW.weights, ht, List.all_cons, Bool.and_eq_true, List.all_append] at hs
      exact List.all_eq_true.2 fun n hn => List.all_eq_true.1 hs.2.1 n (weightsAll_mem (List.mem_map.2 ⟨i, List.mem_range.2 hil, rfl⟩) n hn)
    have hi' : ∀ i, i < len → ∃ y vs, R vs y ∧ vs.length = k ∧ ∀ j v, vs[j]? = some v → W.cell? (a.add (i * k + j)) = some v := by
      intro i hil
      obtain ⟨cs', hcs, ht'⟩ := hi i (by rw [hm]; split <;> omega)
      obtain ⟨-, hl, hat⟩ := World.cells?_some hcs
      obtain ⟨y, hy⟩ := hR cs' hl ⟨H, enc, n, _, ht', hfit i hil⟩
      refine ⟨y, cs', hy, hl, fun j v hj => ?_⟩
      have hjl : j < cs'.length := (List.getElem?_eq_some_iff.1 hj).1
      have := hat j (by omega)
      rw [hj] at this
      rw [← this, ← add_add]
    have hl' : ∃ l : List α, l.length = len ∧ ∀ i y, l[i]? = some y → ∃ vs, R vs y ∧ vs.length = k ∧ ∀ j v, vs[j]? = some v → W.cell? (a.add (i * k + j)) = some v := by
      have H : ∀ m, m ≤ len → ∃ l : List α, l.length = m ∧ ∀ i y, l[i]? = some y → ∃ vs, R vs y ∧ vs.length = k ∧ ∀ j v, vs[j]? = some v → W.cell? (a.add (i * k + j)) = some v := by
        intro m
        induction m with
        | zero => exact fun _ => ⟨[], rfl, fun i y h => by simp at h⟩
        | succ m ih =>
          intro hml
          obtain ⟨l, hll, hl⟩ := ih (by omega)
          obtain ⟨y, hy⟩ := hi' m (by omega)
          refine ⟨l ++ [y], by simp [hll], fun i z hz => ?_⟩
          rcases Nat.lt_or_ge i l.length with hlt | hge
          · rw [List.getElem?_append_left hlt] at hz
            exact hl i z hz
          · rw [List.getElem?_append_right hge] at hz
            have hi0 : i - l.length = 0 := by
              rcases Nat.eq_zero_or_pos (i - l.length) with h | h
              · exact h
              · rw [List.getElem?_eq_none (by simp; omega)] at hz
                cases hz
            rw [hi0] at hz
            have : y = z := by simpa using hz
            subst this
            obtain rfl : i = m := by omega
            exact hy
      exact H len (Nat.le_refl _)
    obtain ⟨l, hll, hl⟩ := hl'
    refine ⟨some a, len, cap, l, hc, hll.symm, by omega, fun hne => ?_, ⟨hlc, hcm⟩, hbytes⟩
    have h0 : 0 < l.length := List.length_pos_iff.2 hne
    obtain ⟨vs, -, hvl, hv⟩ := hl 0 _ (List.getElem?_eq_getElem h0)
    obtain ⟨v0, hv0⟩ : ∃ v, vs[0]? = some v := ⟨_, List.getElem?_eq_getElem (by omega)⟩
    have hc0 := hv 0 v0 hv0
    have hsp : a.spot = none := by simpa [Addr.add] using World.cell?_spot hc0
    obtain ⟨b, off, sp⟩ := a
    simp only at hsp
    subst hsp
    refine ⟨b, off, rfl, ?_, fun i y hy => ?_⟩
    · have := World.block_lt_of_cell? W _ hc0
      simpa [Addr.add] using this
    · obtain ⟨vs, h1, h2, h3⟩ := hl i y hy
      refine ⟨vs, h1, h2, fun j v hj => ?_⟩
      have := h3 j v hj
      have e : (⟨b, off, none⟩ : Addr).add (i * k + j) = ⟨b, off + i * k + j, none⟩ := by
        unfold Addr.add
        split
        · simp_all
        · simp [Nat.add_assoc]
      rwa [e] at this

theorem cellsInt : Tryz.prog.cellsOf 3 = 1 := by kernel_rfl

/-- Field number i. -/
theorem Rd.field {W : World} {t : TypeId} {fs : Array Field} {vs : List Value} (ht : Tryz.prog.underlying t = some (.struct fs)) (h : Rd W t vs) (i : Nat) (f : Field) (hi : fs[i]? = some f) {t' : TypeId} {o k : Nat} (hty : f.type = t') (ho : f.offset = o)
    (hk : Tryz.prog.cellsOf t' = k) : Rd W t' ((vs.drop o).take k) := by
  subst hty ho hk
  exact (Rd.struct ht h).2 i f hi

/-- A struct (or a part of one) whose fields from number a on are ints, one cell each. -/
theorem Rd.field_int {W : World} {t : TypeId} {fs : Array Field} {vs : List Value} (ht : Tryz.prog.underlying t = some (.struct fs)) (h : Rd W t vs) (i : Nat) (f : Field) (hi : fs[i]? = some f) (hty : f.type = 3) {c : Value} (hc : vs[f.offset]? = some c) :
    ∃ n, c = .int .i64 n ∧ (Lit.int .i64 n).wf = true := by
  obtain ⟨-, hf⟩ := Rd.struct ht h
  have h1 := hf i f hi
  rw [hty, cellsInt] at h1
  obtain ⟨n, hn, hw⟩ := Rd.int Tryz.underlying3 h1
  refine ⟨n, ?_, hw⟩
  obtain ⟨ho, hc'⟩ := List.getElem?_eq_some_iff.1 hc
  rw [List.drop_eq_getElem_cons ho, List.take_succ_cons, List.take_zero] at hn
  rw [← hc']
  simpa using hn


/-- These values, cell by cell, are these data. -/
def RepL (W : World) (vs : List Value) (l : List AV) : Prop := vs.length = l.length ∧ ∀ (i : Nat) (v : Value) (y : AV), vs[i]? = some v → l[i]? = some y → v.oneCell' = true ∧ RepD (fun _ => False) W v y

/-- What reads at a type is data of a kind. -/
def Reads (t : TypeId) (k : Nat) {α : Type} (F : α → List AV) (ok : α → Prop) : Prop := ∀ (W : World) (vs : List Value), vs.length = k → Rd W t vs → ∃ x, ok x ∧ RepL W vs (F x)

theorem RepL.cons {W : World} {v : Value} {y : AV} {vs : List Value} {l : List AV} (h1 : v.oneCell' = true) (h2 : RepD (fun _ => False) W v y) (h : RepL W vs l) : RepL W (v :: vs) (y :: l) := by
  refine ⟨by simp [h.1], fun i u z hu hz => ?_⟩
  rcases i with _ | i
  · simp at hu hz; subst hu hz; exact ⟨h1, h2⟩
  · exact h.2 i u z (by simpa using hu) (by simpa using hz)
theorem RepL.nil {W : World} : RepL W [] [] := ⟨rfl, by simp⟩
theorem RepL.app {W : World} {us vs : List Value} {l m : List AV} (h : RepL W us l) (h2 : RepL W vs m) : RepL W (us ++ vs) (l ++ m) := by
  refine ⟨by simp [h.1, h2.1], fun i u z hu hz => ?_⟩
  by_cases hi : i < us.length
  · rw [List.getElem?_append_left hi] at hu
    rw [List.getElem?_append_left (by rw [← h.1]; exact hi)] at hz
    exact h.2 i u z hu hz
  · rw [List.getElem?_append_right (by omega)] at hu
    rw [List.getElem?_append_right (by rw [← h.1]; omega), ← h.1] at hz
    exact h2.2 _ u z hu hz

theorem int64_of {n : Int} (h : (Lit.int .i64 n).wf = true) : Int64 n := by
  simp [Lit.wf] at h
  unfold Int64
  revert h
  simp [IntKind.has, IntKind.min, IntKind.max, IntKind.signed, IntKind.bits]

theorem reads_int : Reads 3 1 (fun n : Int => [int n]) Int64 := by
  intro W vs hl h
  obtain ⟨n, rfl, hw⟩ := Rd.int Tryz.underlying3 h
  exact ⟨n, int64_of hw, RepL.cons rfl (.v _) .nil⟩

theorem reads_slice {α : Type} {t e : TypeId} {k : Nat} {F : α → List AV} {ok : α → Prop} (ht : Tryz.prog.underlying t = some (.slice e)) (hk : Tryz.prog.cellsOf e = k) (hk0 : 0 < k) (hF : ∀ x, (F x).length = k) (hR : Reads e k F ok) :
    Reads t 1 (fun l : List α => [AV.sl false k (l.map F)]) (fun l => (∀ x, x ∈ l → ok x) ∧ l.length * Tryz.prog.bytesOf e ≤ reachBytes) := by
  intro W vs hl h
  obtain ⟨A, n, cap, l, rfl, hn, hm, hr, ⟨hnc, hcm⟩, hby⟩ := Rd.rows (R := fun vs x => ok x ∧ RepL W vs (F x)) ht hk hk0 h (fun vs hv h => hR W vs hv h)
  have hok : ∀ x, x ∈ l → ok x := by
    intro x hx
    obtain ⟨i, hi⟩ := List.mem_iff_getElem?.1 hx
    obtain ⟨b, off, -, -, hb⟩ := hr (by rintro rfl; simp at hx)
    obtain ⟨vs, h1, -⟩ := hb i x hi
    exact h1.1
  refine ⟨l, ⟨hok, by rw [← hn]; exact hby⟩, RepL.cons rfl ?_ .nil⟩
  by_cases hne : l = []
  · subst hne
    exact .sl (b := 0) (off := 0) (x := fun _ _ => undef) (by simpa using hn) hnc hcm (by simp) (by simp) (by simp) (by simp) (by simp)
  · obtain ⟨b, off, rfl, hb, hc⟩ := hr hne
    have key : ∀ i, ∃ vs : List Value, ∀ x, l[i]? = some x → RepL W vs (F x) ∧ vs.length = k ∧ ∀ j v, vs[j]? = some v → W.cell? ⟨b, off + i * k + j, none⟩ = some v := by
      intro i
      cases hx : l[i]? with
      | none => exact ⟨[], by simp⟩
      | some x =>
        obtain ⟨vs, h1, h2, h3⟩ := hc i x hx
        exact ⟨vs, fun y hy => by injection hy with hy; subst hy; exact ⟨h1.2, h2, h3⟩⟩
    obtain ⟨cs, hcs⟩ := Classical.axiomOfChoice key
    refine .sl (b := b) (off := off) (x := fun i j => (cs i).getD j undef) (by simpa using hn) hnc hcm (by simp) ?_ (fun _ => ⟨rfl, fun h => h, hb⟩) ?_ ?_
    · intro r hr
      obtain ⟨x, -, rfl⟩ := List.mem_map.1 hr
      exact hF x
    · intro i j hi hj
      rw [List.length_map] at hi
      obtain ⟨h1, h2, h3⟩ := hcs i _ (List.getElem?_eq_getElem hi)
      have hjl : j < (cs i).length := by omega
      have e : (cs i).getD j undef = (cs i)[j] := by simp [List.getD, hjl]
      refine ⟨by rw [e]; exact h3 j _ (List.getElem?_eq_getElem hjl), ?_⟩
      rw [e]
      exact (h1.2 j _ _ (List.getElem?_eq_getElem hjl) (List.getElem?_eq_getElem (by rw [← h1.1]; exact hjl))).1
    · intro i row j y hrow hy
      rw [List.getElem?_map, Option.map_eq_some_iff] at hrow
      obtain ⟨x, hx, rfl⟩ := hrow
      obtain ⟨h1, h2, h3⟩ := hcs i x hx
      have hjl : j < (cs i).length := by rw [h1.1]; exact (List.getElem?_eq_some_iff.1 hy).1
      have e : (cs i).getD j undef = (cs i)[j] := by simp [List.getD, hjl]
      rw [e]
      exact (h1.2 j _ _ (List.getElem?_eq_getElem hjl) hy).2

theorem Reads.weak {t : TypeId} {k : Nat} {α : Type} {F : α → List AV} {ok ok' : α → Prop} (h : Reads t k F ok) (hw : ∀ x, ok x → ok' x) : Reads t k F ok' := fun W vs hl hr => by
  obtain ⟨x, h1, h2⟩ := h W vs hl hr
  exact ⟨x, hw x h1, h2⟩

theorem reads_cover : Reads 23 5 Cover.flat Cover.ok := by
  intro W vs hl h
  match vs, hl with
  | [c0, c1, c2, c3, c4], _ =>
    obtain ⟨x0, rfl, w0⟩ := Rd.field_int Tryz.underlying23 h 0 _ rfl rfl (c := c0) rfl
    obtain ⟨x1, rfl, w1⟩ := Rd.field_int Tryz.underlying23 h 1 _ rfl rfl (c := c1) rfl
    obtain ⟨x2, rfl, w2⟩ := Rd.field_int Tryz.underlying23 h 2 _ rfl rfl (c := c2) rfl
    obtain ⟨x3, rfl, w3⟩ := Rd.field_int Tryz.underlying23 h 3 _ rfl rfl (c := c3) rfl
    obtain ⟨x4, rfl, w4⟩ := Rd.field_int Tryz.underlying23 h 4 _ rfl rfl (c := c4) rfl
    exact ⟨⟨x0, x1, x2, x3, x4⟩, ⟨int64_of w0, int64_of w1, int64_of w2, int64_of w3, int64_of w4⟩, .cons rfl (.v _) (.cons rfl (.v _) (.cons rfl (.v _) (.cons rfl (.v _) (.cons rfl (.v _) .nil))))⟩

theorem reads_claim : Reads 36 6 Claim.flat (fun _ => True) := by
  intro W vs hl h
  match vs, hl with
  | [c0, c1, c2, c3, c4, c5], _ =>
    obtain ⟨x0, rfl, w0⟩ := Rd.field_int Tryz.underlying36 h 0 _ rfl rfl (c := c0) rfl
    obtain ⟨x1, rfl, w1⟩ := Rd.field_int Tryz.underlying36 h 1 _ rfl rfl (c := c1) rfl
    obtain ⟨x2, rfl, w2⟩ := Rd.field_int Tryz.underlying36 h 2 _ rfl rfl (c := c2) rfl
    obtain ⟨x3, rfl, w3⟩ := Rd.field_int Tryz.underlying36 h 3 _ rfl rfl (c := c3) rfl
    obtain ⟨x4, rfl, w4⟩ := Rd.field_int Tryz.underlying36 h 4 _ rfl rfl (c := c4) rfl
    obtain ⟨x5, rfl, w5⟩ := Rd.field_int Tryz.underlying36 h 5 _ rfl rfl (c := c5) rfl
    exact ⟨⟨x0, x1, x2, x3, x4, x5⟩, trivial, (.cons rfl (.v _) (.cons rfl (.v _) (.cons rfl (.v _) (.cons rfl (.v _) (.cons rfl (.v _) (.cons rfl (.v _) .nil))))))⟩

theorem reads_act : Reads 38 3 Act.flat (fun x => Int64 x.booked ∧ Int64 x.kind ∧ Int64 x.amt) := by
  intro W vs hl h
  match vs, hl with
  | [c0, c1, c2], _ =>
    obtain ⟨x0, rfl, w0⟩ := Rd.field_int Tryz.underlying38 h 0 _ rfl rfl (c := c0) rfl
    obtain ⟨x1, rfl, w1⟩ := Rd.field_int Tryz.underlying38 h 1 _ rfl rfl (c := c1) rfl
    obtain ⟨x2, rfl, w2⟩ := Rd.field_int Tryz.underlying38 h 2 _ rfl rfl (c := c2) rfl
    exact ⟨⟨x0, x1, x2⟩, ⟨int64_of w0, int64_of w1, int64_of w2⟩, (.cons rfl (.v _) (.cons rfl (.v _) (.cons rfl (.v _) .nil)))⟩

theorem reads_acts : Reads 39 1 (fun l : List Act => [actsA l]) (fun _ => True) :=
  (reads_slice Tryz.underlying39 (by kernel_rfl) (by decide) (fun _ : Act => by rfl) reads_act).weak fun _ _ => trivial
theorem cellsClaim : Tryz.prog.cellsOf 36 = 6 := by kernel_rfl
theorem cellsActs : Tryz.prog.cellsOf 39 = 1 := by kernel_rfl
theorem reads_file : Reads 41 7 File.flat (fun _ => True) := by
  intro W vs hl h
  match vs, hl with
  | [c0, c1, c2, c3, c4, c5, c6], _ =>
    have h1 := Rd.field Tryz.underlying41 h 0 _ rfl (o := 0) rfl rfl cellsClaim
    have h2 := Rd.field Tryz.underlying41 h 1 _ rfl (o := 6) rfl rfl cellsActs
    obtain ⟨x, -, r1⟩ := reads_claim W _ rfl h1
    obtain ⟨l, -, r2⟩ := reads_acts W _ rfl h2
    exact ⟨⟨x, l⟩, trivial, r1.app r2⟩
theorem reads_files : Reads 24 1 (fun l : List File => [filesA l]) (fun _ => True) :=
  (reads_slice Tryz.underlying24 (by kernel_rfl) (by decide) (fun _ : File => by rfl) reads_file).weak fun _ _ => trivial

/-- A struct that came in. -/
theorem RepL.agg {W : World} {vs : Array Value} {l : List AV} (h : RepL W vs.toList l) : RepD (fun _ => False) W (.agg vs) (.agg l) :=
  .agg (by rw [← h.1]; simp) fun i x y hx hy => (h.2 i x y (by simpa using hx) hy).2

/-- A law that answers true, called. -/
theorem Fun.calls {P : Program} {f : FuncId} {args : List AV} (h : Fun P f args (bool true)) {W : World} {vs : Array Value} (hv : RepL W vs.toList args ∨ (vs.size = args.length ∧ ∀ (i : Nat) (v : Value) (y : AV), vs[i]? = some v → args[i]? = some y → RepD (fun _ => False) W v y)) :
    Calls P f vs W fun e w' => e = .returned (.bool true) ∧ Below W.heap.size W w' := by
  refine (h (fun _ => False) W vs (fun _ h => h.elim) ?_ ?_).mono ?_
  · rcases hv with h | h
    · rw [← h.1]; simp
    · exact h.1
  · rcases hv with h | h
    · exact fun i v y hi hy => (h.2 i v y (by simpa using hi) hy).2
    · exact h.2
  · rintro e w' ⟨v, rfl, hv, hb⟩
    cases hv
    exact ⟨rfl, hb⟩
theorem Fun.calls1 {P : Program} {f : FuncId} {a : AV} (h : Fun P f [a] (bool true)) {W : World} {u : Value} (h0 : RepD (fun _ => False) W u a) : Calls P f #[u] W fun e w' => e = .returned (.bool true) ∧ Below W.heap.size W w' :=
  h.calls (.inr ⟨rfl, fun i v y hi hy => by rcases i with _ | i <;> simp at hi hy; subst hi hy; exact h0⟩)
theorem Fun.calls2 {P : Program} {f : FuncId} {a b : AV} (h : Fun P f [a, b] (bool true)) {W : World} {u v : Value} (h0 : RepD (fun _ => False) W u a) (h1 : RepD (fun _ => False) W v b) : Calls P f #[u, v] W fun e w' => e = .returned (.bool true) ∧ Below W.heap.size W w' :=
  h.calls (.inr ⟨rfl, fun i v y hi hy => by
    rcases i with _ | _ | i <;> simp at hi hy
    · subst hi hy; exact h0
    · subst hi hy; exact h1⟩)
theorem Fun.calls3 {P : Program} {f : FuncId} {a b c : AV} (h : Fun P f [a, b, c] (bool true)) {W : World} {u v z : Value} (h0 : RepD (fun _ => False) W u a) (h1 : RepD (fun _ => False) W v b) (h2 : RepD (fun _ => False) W z c) : Calls P f #[u, v, z] W fun e w' => e = .returned (.bool true) ∧ Below W.heap.size W w' :=
  h.calls (.inr ⟨rfl, fun i v y hi hy => by
    rcases i with _ | _ | _ | i <;> simp at hi hy
    · subst hi hy; exact h0
    · subst hi hy; exact h1
    · subst hi hy; exact h2⟩)
/-- Any number of arguments. -/
def RepDs (W : World) (vs : List Value) (l : List AV) : Prop := vs.length = l.length ∧ ∀ (i : Nat) (v : Value) (y : AV), vs[i]? = some v → l[i]? = some y → RepD (fun _ => False) W v y
theorem RepDs.nil {W : World} : RepDs W [] [] := ⟨rfl, by simp⟩
theorem RepDs.cons {W : World} {v : Value} {y : AV} {vs : List Value} {l : List AV} (h0 : RepD (fun _ => False) W v y) (h : RepDs W vs l) : RepDs W (v :: vs) (y :: l) := by
  refine ⟨by simp [h.1], fun i u z hu hz => ?_⟩
  rcases i with _ | i
  · simp at hu hz; subst hu hz; exact h0
  · exact h.2 i u z (by simpa using hu) (by simpa using hz)
theorem Fun.callsL {P : Program} {f : FuncId} {args : List AV} (h : Fun P f args (bool true)) {W : World} {vs : Array Value} (hv : RepDs W vs.toList args) : Calls P f vs W fun e w' => e = .returned (.bool true) ∧ Below W.heap.size W w' :=
  h.calls (.inr ⟨by rw [← hv.1]; simp, fun i v y hi hy => hv.2 i v y (by simpa using hi) hy⟩)
end Go.Proofs.YtjplhfmakghabaaGreat.V
