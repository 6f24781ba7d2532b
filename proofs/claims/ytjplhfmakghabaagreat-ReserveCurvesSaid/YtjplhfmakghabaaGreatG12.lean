/- reserve.days: the days on which something was booked (a walk by hand: a map, ranged over). reserve.days: its contract over plain data. What was known on a day (plain). -/
import Derived.Shelf.SlGeneric
import Derived.Shelf.SortG.Plain
import Derived.Shelf.SortG.SortNone
import Derived.Ground.SlgnProg
import Derived.Test.YtjplhfmakghabaaGreatProg
import Derived.Test.YtjplhfmakghabaaGreatG7
import Derived.Maps.RangeWalk
import Derived.Maps.Views
import Derived.Sort.OwnSortedInts
import Derived.OwnWalk
import Derived.Test.YtjplhfmakghabaaGreatG11
import Derived.Test.YtjplhfmakghabaaGreatG8
namespace Go.Proofs
open Go.Shelf
def Tryz.sortInt_ren : Go.Shelf.Ren := ⟨fun | 53 => 19 | 64 => 30 | 63 => 29 | 78 => 59 | 79 => 60 | 70 => 50 | 71 => 51 | 72 => 52 | 73 => 53 | 74 => 54 | 75 => 55 | 59 => 56 | 76 => 57 | 77 => 58 | 88 => 76 | 89 => 77 | 90 => 78 | 91 => 79 | 92 => 80 | 68 => 81 | 96 => 91 | n => n, fun | 22 => 27 | 23 => 3 | 3 => 3 | 51 => 68 | 0 => 0 | 67 => 101 | 69 => 103 | 4 => 4 | 61 => 93 | 60 => 92 | 44 => 98 | 5 => 5 | 9 => 9 | 75 => 117 | 79 => 121 | 83 => 131 | 84 => 132 | n => n, fun | n => n⟩
theorem Tryz.sortInt : Go.Proofs.SlLaysN.n53 Tryz.prog Tryz.sortInt_ren := {
  mixed := by kernel_rfl
  f53 := ⟨Tryz.f19.name, by decide, Tryz.func19.trans (congrArg some (by kernel_rfl))⟩
  f59 := ⟨Tryz.f56.name, by decide, Tryz.func56.trans (congrArg some (by kernel_rfl))⟩
  f63 := ⟨Tryz.f29.name, by decide, Tryz.func29.trans (congrArg some (by kernel_rfl))⟩
  f64 := Tryz.func30.trans (congrArg some (by kernel_rfl))
  f68 := ⟨Tryz.f81.name, by decide, Tryz.func81.trans (congrArg some (by kernel_rfl))⟩
  f70 := ⟨Tryz.f50.name, by decide, Tryz.func50.trans (congrArg some (by kernel_rfl))⟩
  f71 := ⟨Tryz.f51.name, by decide, Tryz.func51.trans (congrArg some (by kernel_rfl))⟩
  f72 := ⟨Tryz.f52.name, by decide, Tryz.func52.trans (congrArg some (by kernel_rfl))⟩
  f73 := ⟨Tryz.f53.name, by decide, Tryz.func53.trans (congrArg some (by kernel_rfl))⟩
  f74 := ⟨Tryz.f54.name, by decide, Tryz.func54.trans (congrArg some (by kernel_rfl))⟩
  f75 := ⟨Tryz.f55.name, by decide, Tryz.func55.trans (congrArg some (by kernel_rfl))⟩
  f76 := ⟨Tryz.f57.name, by decide, Tryz.func57.trans (congrArg some (by kernel_rfl))⟩
  f77 := ⟨Tryz.f58.name, by decide, Tryz.func58.trans (congrArg some (by kernel_rfl))⟩
  f78 := Tryz.func59.trans (congrArg some (by kernel_rfl))
  f79 := Tryz.func60.trans (congrArg some (by kernel_rfl))
  f88 := ⟨Tryz.f76.name, by decide, Tryz.func76.trans (congrArg some (by kernel_rfl))⟩
  f89 := Tryz.func77.trans (congrArg some (by kernel_rfl))
  f90 := Tryz.func78.trans (congrArg some (by kernel_rfl))
  f91 := ⟨Tryz.f79.name, by decide, Tryz.func79.trans (congrArg some (by kernel_rfl))⟩
  f92 := ⟨Tryz.f80.name, by decide, Tryz.func80.trans (congrArg some (by kernel_rfl))⟩
  f96 := ⟨Tryz.f91.name, by decide, Tryz.func91.trans (congrArg some (by kernel_rfl))⟩
  t0 := Tryz.underlying0
  a0 := Tryz.isAgg0
  z0 := Tryz.sizeOf0
  v0 := Tryz.zeroValue0
  t3 := Tryz.underlying3
  a3 := Tryz.isAgg3
  z3 := Tryz.sizeOf3
  v3 := Tryz.zeroValue3
  t4 := Tryz.underlying4
  a4 := Tryz.isAgg4
  z4 := Tryz.sizeOf4
  v4 := Tryz.zeroValue4
  t5 := Tryz.underlying5
  a5 := Tryz.isAgg5
  z5 := Tryz.sizeOf5
  v5 := Tryz.zeroValue5
  t9 := Tryz.underlying9
  a9 := Tryz.isAgg9
  z9 := Tryz.sizeOf9
  v9 := Tryz.zeroValue9
  t22 := Tryz.underlying27
  a22 := Tryz.isAgg27
  z22 := Tryz.sizeOf27
  v22 := Tryz.zeroValue27
  t23 := Tryz.underlying3
  a23 := Tryz.isAgg3
  z23 := Tryz.sizeOf3
  v23 := Tryz.zeroValue3
  t44 := Tryz.underlying98
  a44 := Tryz.isAgg98
  z44 := Tryz.sizeOf98
  v44 := Tryz.zeroValue98
  t51 := Tryz.underlying68
  a51 := Tryz.isAgg68
  z51 := Tryz.sizeOf68
  v51 := Tryz.zeroValue68
  t60 := Tryz.underlying92
  a60 := Tryz.isAgg92
  z60 := Tryz.sizeOf92
  v60 := Tryz.zeroValue92
  t61 := Tryz.underlying93
  a61 := Tryz.isAgg93
  z61 := Tryz.sizeOf93
  v61 := Tryz.zeroValue93
  t67 := Tryz.underlying101
  a67 := Tryz.isAgg101
  z67 := Tryz.sizeOf101
  v67 := Tryz.zeroValue101
  t69 := Tryz.underlying103
  a69 := Tryz.isAgg103
  z69 := Tryz.sizeOf103
  v69 := Tryz.zeroValue103
  t75 := Tryz.underlying117
  a75 := Tryz.isAgg117
  z75 := Tryz.sizeOf117
  v75 := Tryz.zeroValue117
  t79 := Tryz.underlying121
  a79 := Tryz.isAgg121
  z79 := Tryz.sizeOf121
  v79 := Tryz.zeroValue121
  t83 := Tryz.underlying131
  a83 := Tryz.isAgg131
  z83 := Tryz.sizeOf131
  v83 := Tryz.zeroValue131
  t84 := Tryz.underlying132
  a84 := Tryz.isAgg132
  z84 := Tryz.sizeOf132
  v84 := Tryz.zeroValue132 }
end Go.Proofs
set_option linter.unusedSimpArgs false
set_option linter.unusedVariables false
namespace Go.Proofs.YtjplhfmakghabaaGreat.V
open Go.RowKit Go.Maps Go.Sort

theorem repD_v {M : Nat → Prop} {w : World} {u x : Value} (h : RepD M w u (.v x)) : u = x := by cases h; rfl
/-- The cells of a file's row. -/
theorem cells_files {M : Nat → Prop} {w : World} {v : Value} {l : List File} (h : RepD M w v (filesA l)) : ∃ A cap, v = .slice A l.length cap ∧ l.length ≤ maxLen ∧ (0 < l.length → ∃ b off, A = some ⟨b, off, none⟩ ∧ b < w.heap.size ∧ ∀ i f, l[i]? = some f → ∃ v6, RepD M w v6 (actsA f.acts) ∧
    w.cell? ⟨b, off + i * 7, none⟩ = some (.int .i64 f.claim.id) ∧ w.cell? ⟨b, off + i * 7 + 1, none⟩ = some (.int .i64 f.claim.policy) ∧ w.cell? ⟨b, off + i * 7 + 2, none⟩ = some (.int .i64 f.claim.peril) ∧
    w.cell? ⟨b, off + i * 7 + 3, none⟩ = some (.int .i64 f.claim.loss) ∧ w.cell? ⟨b, off + i * 7 + 4, none⟩ = some (.int .i64 f.claim.booked) ∧ w.cell? ⟨b, off + i * 7 + 5, none⟩ = some (.int .i64 f.claim.event) ∧ w.cell? ⟨b, off + i * 7 + 6, none⟩ = some v6) := by
  cases h with
  | sl b off x hn hc hm hf hk hA hl hx =>
    rename_i A n cap
    simp only [List.length_map] at hn hl
    subst hn
    refine ⟨A, cap, rfl, by omega, fun h0 => ?_⟩
    obtain ⟨h1, h2, h3⟩ := hA (by intro h; rw [List.map_eq_nil_iff] at h; subst h; simp at h0)
    refine ⟨b, off, h1, h3, fun i f hi => ?_⟩
    have hil := (List.getElem?_eq_some_iff.1 hi).1
    have hr : (l.map File.flat)[i]? = some f.flat := by rw [List.getElem?_map, hi]; rfl
    have q := fun j y hj => hx i f.flat j y hr hj
    have c := fun j hj => (hl i j hil hj).1
    refine ⟨x i 6, q 6 _ rfl, ?_, ?_, ?_, ?_, ?_, ?_, c 6 (by omega)⟩
    · have := c 0 (by omega); rw [repD_v (q 0 _ rfl)] at this; exact this
    · have := c 1 (by omega); rw [repD_v (q 1 _ rfl)] at this; exact this
    · have := c 2 (by omega); rw [repD_v (q 2 _ rfl)] at this; exact this
    · have := c 3 (by omega); rw [repD_v (q 3 _ rfl)] at this; exact this
    · have := c 4 (by omega); rw [repD_v (q 4 _ rfl)] at this; exact this
    · have := c 5 (by omega); rw [repD_v (q 5 _ rfl)] at this; exact this
theorem cells_acts {M : Nat → Prop} {w : World} {v : Value} {l : List Act} (h : RepD M w v (actsA l)) : ∃ A cap, v = .slice A l.length cap ∧ l.length ≤ maxLen ∧ (0 < l.length → ∃ b off, A = some ⟨b, off, none⟩ ∧ b < w.heap.size ∧ ∀ i a, l[i]? = some a →
    w.cell? ⟨b, off + i * 3, none⟩ = some (.int .i64 a.booked) ∧ w.cell? ⟨b, off + i * 3 + 1, none⟩ = some (.int .i64 a.kind) ∧ w.cell? ⟨b, off + i * 3 + 2, none⟩ = some (.int .i64 a.amt)) := by
  cases h with
  | sl b off x hn hc hm hf hk hA hl hx =>
    rename_i A n cap
    simp only [List.length_map] at hn hl
    subst hn
    refine ⟨A, cap, rfl, by omega, fun h0 => ?_⟩
    obtain ⟨h1, h2, h3⟩ := hA (by intro h; rw [List.map_eq_nil_iff] at h; subst h; simp at h0)
    refine ⟨b, off, h1, h3, fun i f hi => ?_⟩
    have hil := (List.getElem?_eq_some_iff.1 hi).1
    have hr : (l.map Act.flat)[i]? = some f.flat := by rw [List.getElem?_map, hi]; rfl
    have q := fun j y hj => hx i f.flat j y hr hj
    have c := fun j hj => (hl i j hil hj).1
    refine ⟨?_, ?_, ?_⟩
    · have := c 0 (by omega); rw [repD_v (q 0 _ rfl)] at this; exact this
    · have := c 1 (by omega); rw [repD_v (q 1 _ rfl)] at this; exact this
    · have := c 2 (by omega); rw [repD_v (q 2 _ rfl)] at this; exact this

/-- The days of a file; of files. -/
def daysF (f : File) : List Int := f.claim.booked :: f.acts.map Act.booked
def daysS (l : List File) : List Int := (l.map daysF).flatten
theorem daysS_snoc {l : List File} {i : Nat} {f : File} (h : l[i]? = some f) : daysS (l.take (i + 1)) = daysS (l.take i) ++ daysF f := by
  rw [List.take_add_one, h, daysS, List.map_append, List.flatten_append]
  simp [daysS]
/-- A map has just these keys. -/
def KeyIs (D : DataW Unit) (S : List Int) : Prop := IsMap D ∧ ∀ x : Int, has D (.int .i64 x) = true ↔ x ∈ S
/-- Each key once. -/
def uniq : List Int → List Int
  | [] => []
  | x :: l => x :: (uniq l).filter fun y => decide (y ≠ x)
theorem uniq_mem {x : Int} : ∀ {l : List Int}, x ∈ uniq l ↔ x ∈ l
  | [] => Iff.rfl
  | y :: l => by
    rw [uniq, List.mem_cons, List.mem_filter, uniq_mem (l := l), List.mem_cons]
    simp only [decide_eq_true_eq]
    constructor
    · rintro (h | h)
      · exact .inl h
      · exact .inr h.1
    · rintro (h | h)
      · exact .inl h
      · by_cases e : x = y
        · exact .inl e
        · exact .inr ⟨h, e⟩
theorem uniq_nodup : ∀ (l : List Int), (uniq l).Nodup
  | [] => List.nodup_nil
  | y :: l => by
    rw [uniq, List.nodup_cons]
    refine ⟨by simp, (uniq_nodup l).sublist List.filter_sublist⟩
abbrev msrt (l : List Int) : List Int := l.mergeSort fun x y => decide (x ≤ y)
theorem msrt_perm {l l' : List Int} (h : l.Perm l') : msrt l = msrt l' := by
  have tr : ∀ a b c : Int, decide (a ≤ b) = true → decide (b ≤ c) = true → decide (a ≤ c) = true := fun a b c h1 h2 => by simp only [decide_eq_true_eq] at *; omega
  have to : ∀ a b : Int, (decide (a ≤ b) || decide (b ≤ a)) = true := fun a b => by simp only [Bool.or_eq_true, decide_eq_true_eq]; omega
  refine List.Perm.eq_of_pairwise (le := fun a b => decide (a ≤ b) = true) (fun a b _ _ h1 h2 => ?_) (List.pairwise_mergeSort tr to l) (List.pairwise_mergeSort tr to l') (((List.mergeSort_perm l _).trans h).trans (List.mergeSort_perm l' _).symm)
  simp only [decide_eq_true_eq] at h1 h2
  omega
/-- The days on which something was booked. -/
def daysL (l : List File) : List Int := msrt (uniq (daysS l))
/-- The keys met so far. -/
def CollI (D : DataW Unit) (left : Lit → Bool) (ss : List Int) : Prop := ss.Nodup ∧ ∀ x, x ∈ ss ↔ (has D (.int .i64 x) = true ∧ left (.int .i64 x) = false)
theorem CollI.start (D : DataW Unit) : CollI D (has D) [] := ⟨List.nodup_nil, fun x => by cases has D (.int .i64 x) <;> simp⟩
theorem CollI.step {D : DataW Unit} {left : Lit → Bool} {ss : List Int} (h : CollI D left ss) {x : Int} {y : DataW Unit} (hlk : left (.int .i64 x) = true) (hat : ∀ zd, D.atKey (.int .i64 x) zd = y) : CollI D (fun z => left z && !z.sameKey (.int .i64 x)) (ss ++ [x]) := by
  have hhas : has D (.int .i64 x) = true := has_true_of_atKey hat
  have hnew : x ∉ ss := fun hx => by have := ((h.2 x).1 hx).2; rw [hlk] at this; cases this
  refine ⟨List.nodup_append.2 ⟨h.1, by simp, fun a ha b hb => by simp at hb; subst hb; exact fun e => hnew (e ▸ ha)⟩, fun y => ?_⟩
  by_cases hy : y = x
  · subst hy; simp [hhas, Lit.sameKey]
  · simp [h.2 y, hy, Lit.sameKey]
theorem CollI.all {D : DataW Unit} {left : Lit → Bool} {ss S : List Int} (h : CollI D left ss) (hl : ∀ kl, left kl = false) (hk : ∀ x : Int, has D (.int .i64 x) = true ↔ x ∈ S) : msrt ss = msrt (uniq S) :=
  msrt_perm ((List.perm_ext_iff_of_nodup h.1 (uniq_nodup S)).2 fun x => by rw [h.2 x, hl, hk x, uniq_mem]; simp)
theorem size_le {P : Program} {k : TypeId} {R : Value → Option (DataW Unit × List MemPlace)} {w : World} {b n : Nat} {D : DataW Unit} (h : w.ownsMap P k R b n D) : Maps.size D ≤ n := by
  obtain ⟨es, clock, _, _, hs, rfl⟩ := h
  rw [size_eq, length_sorted]
  simpa using hs
theorem plainElem_bool_inv {P : Program} {e : TypeId} (he : P.underlying e = some .bool) {v : Value} {z : DataW Unit × List MemPlace} (h : plainElem P e v = some z) : ∃ c, v = .bool c := by
  unfold plainElem at h
  rw [he] at h
  cases v <;> simp at h
  exact ⟨_, rfl⟩
theorem KeyIs.nil : KeyIs (.map []) [] := ⟨⟨[], rfl⟩, fun x => by simp [has]⟩
theorem KeyIs.put {D : DataW Unit} {S : List Int} (h : KeyIs D S) (x : Int) (d : DataW Unit) : KeyIs (D.put (.int .i64 x) d) (S ++ [x]) := by
  refine ⟨?_, fun y => ?_⟩
  · obtain ⟨es, rfl⟩ := h.1
    exact ⟨_, rfl⟩
  · by_cases hy : y = x
    · subst hy
      rw [has_put_same h.1 (by simp [WideAt.IsKeyLit]) d]
      simp
    · rw [has_put_other (by intro e; injection e with _ e; exact hy e) d, h.2 y, List.mem_append]
      simp [hy]

/-- A slice of ints of the call's own, as plain data. -/
theorem ints_rep {M : Nat → Prop} {w : World} {base e : Nat} {g cap : Nat} {L : List Int} (h : w.ownsRow base e 1 (.slice (some ⟨g, 0, none⟩) L.length cap) L.length (L.map (Value.int .i64))) (hg : ¬ M g) : RepD M w (.slice (some ⟨g, 0, none⟩) L.length cap) (ints L) := by
  rcases h.2 with ⟨h1, -⟩ | ⟨g', cp, cur, hv, hbase, hbk, h1, h2, h3, h4⟩
  · cases h1
  · injection hv with e1 e2 e3
    injection e1 with e1
    injection e1 with e1
    subst e1 e3
    have hc : ∀ i, i < L.length → w.cell? ⟨g, i, none⟩ = some (.int .i64 (L.getD i 0)) := by
      intro i hi
      have h5 : (cur.toList.take (L.length * 1))[i]? = (L.map (Value.int .i64))[i]? := by rw [h4]
      rw [List.getElem?_take_of_lt (by omega), List.getElem?_map, List.getElem?_eq_getElem hi, Array.getElem?_toList] at h5
      simp only [World.cell?, hbk]
      rw [h5, List.getD_eq_getElem?_getD, List.getElem?_eq_getElem hi]
      rfl
    refine .sl g 0 (fun i _ => .int .i64 (L.getD i 0)) (by simp) h1 h2 (fun h => by cases h) ?_ (fun _ => ⟨rfl, hg, (Array.getElem?_eq_some_iff.1 hbk).1⟩) (fun i j hi hj => ?_) (fun i row j y hr hy => ?_)
    · intro row hrow
      obtain ⟨z, -, rfl⟩ := List.mem_map.1 hrow
      rfl
    · have hi' : i < L.length := by simpa using hi
      obtain rfl : j = 0 := by omega
      refine ⟨?_, rfl⟩
      have := hc i hi'
      simpa using this
    · rw [List.getElem?_map] at hr
      rcases hz : L[i]? with _ | z
      · rw [hz] at hr; cases hr
      · rw [hz] at hr
        injection hr with hr
        subst hr
        rcases j with _ | j
        · injection hy with hy
          subst hy
          rw [List.getD_eq_getElem?_getD, hz]
          exact .v _
        · cases hy
theorem ints_nil (M : Nat → Prop) (w : World) : RepD M w (.slice none 0 0) (ints []) :=
  .sl 0 0 (fun _ _ => undef) rfl (Nat.le_refl _) (by unfold maxLen; omega) (fun h => by cases h) (by simp) (fun h => absurd rfl h) (fun i j hi => absurd hi (Nat.not_lt_zero i)) (fun i row j y h => by simp at h)

set_option maxRecDepth 100000 in
set_option maxHeartbeats 1000000 in
theorem days_any {M : Nat → Prop} (l : List File) (v : Value) (w : World) (h : RepD M w v (filesA l)) (hN : (daysS l).length ≤ 1000000) (hI : ∀ x, x ∈ daysS l → Int64 x) (hM : ∀ g, M g → g < w.heap.size)
    (hs0 : ∀ w, Calls Tryz.prog 19 #[.slice none 0 0] w fun e w' => e = .returned (.tuple #[]) ∧ w' = w)
    (hs1 : ∀ (g cap : Nat) (zs : List Int) (w : World), Holds (Value.int .i64) w g 0 zs.toArray → g < w.heap.size → zs.length < 4611686018427387904 → Calls Tryz.prog 19 #[.slice (some ⟨g, 0, none⟩) zs.length cap] w fun e w' =>
      e = .returned (.tuple #[]) ∧ ∃ n os, w' = grow (putRow (Value.int .i64) (Sort.ahead w n) g 0 (msrt zs).toArray) os) :
    Calls Tryz.prog 11 #[v] w fun e w' => ∃ u, e = .returned u ∧ Below w.heap.size w w' ∧ RepD M w' u (ints (daysL l)) := by
  obtain ⟨A, cap, rfl, hlm, hl⟩ := cells_files h
  have HS0 := Lib.hid hs0
  have HS1 := Lib.hid hs1
  clear hs0 hs1 h
  have hmm := @run_makeMap Tryz.prog
  have law : Keyed Tryz.prog 3 := int_keyed Tryz.underlying3
  unfold maxLen at hlm
  go_enter Tryz.func11, Tryz.ntmps11
  go_wp2
  have hmx : (daysS l).length < 9223372036854775807 := by omega
  go_loopw [13] (fun i wr => ∃ (k : Nat) (D : DataW Unit), k ≤ l.length ∧ i = .int .i64 k ∧ wr.ownsMap Tryz.prog 3 (plainElem Tryz.prog 4) w.heap.size (daysS (l.take k)).length D ∧ KeyIs D (daysS (l.take k)) ∧ Below w.heap.size w wr) (fun i _ => l.length - (intOf i).toNat)
  case atStart => exact ⟨0, .map [], by omega, rfl, World.ownsMap_made _ _ _ _, KeyIs.nil, (Below.refl _ _).alloc (Nat.le_refl _) _⟩
  case round =>
    obtain ⟨k, D, hk, rfl, hown, hkey, hwr⟩ := hrel
    by_cases hlt : k < l.length
    · obtain ⟨b, off, rfl, hb, hc⟩ := hl (by omega)
      obtain ⟨f, hf⟩ : ∃ f, l[k]? = some f := ⟨_, List.getElem?_eq_getElem hlt⟩
      obtain ⟨v6, hv6, c0, c1, c2, c3, c4, c5, c6⟩ := hc k f hf
      obtain ⟨B, cap6, rfl, h6m, h6⟩ := cells_acts hv6
      have hsn := daysS_snoc hf
      have hz := hown.lt
      rw [← hwr.cell (p := ⟨b, _, none⟩) hb] at c0 c1 c2 c3 c4 c5 c6
      have hmem : ∀ x, x ∈ daysF f → Int64 x := fun x hx => hI x (by
        have : daysS (l.take (k + 1)) ⊆ daysS l := by
          unfold daysS
          intro y hy
          rw [List.mem_flatten] at hy ⊢
          obtain ⟨q, hq, hyq⟩ := hy
          obtain ⟨g, hg, rfl⟩ := List.mem_map.1 hq
          exact ⟨_, List.mem_map.2 ⟨g, List.mem_of_mem_take hg, rfl⟩, hyq⟩
        exact this (by rw [hsn]; exact List.mem_append.2 (.inr hx)))
      have hwx : (Lit.int .i64 f.claim.booked).wf = true := by
        have := hmem f.claim.booked (by simp [daysF])
        unfold Int64 at this
        simp [Lit.wf, IntKind.min, IntKind.max, IntKind.bits, IntKind.signed]
        omega
      have hlen : (daysS (l.take (k + 1))).length ≤ (daysS l).length := by
        have : daysS l = daysS (l.take (k + 1)) ++ daysS (l.drop (k + 1)) := by
          conv => lhs; rw [← List.take_append_drop (k + 1) l]
          rw [daysS, List.map_append, List.flatten_append]
          rfl
        rw [this, List.length_append]
        omega
      rw [hsn, List.length_append] at hlen
      have hdf : (daysF f).length = f.acts.length + 1 := by simp [daysF]
      clear hl hc
      obtain ⟨⟨id, policy, peril, loss, booked, event⟩, acts⟩ := f
      simp only at c0 c1 c2 c3 c4 c5 c6 hwx
      go_wp2_with (first
        | (at_mapUpdate; refine wpList_mapUpdate_own _ rfl _ _ _ 56 rfl 3 4 law Tryz.underlying56 _ w.heap.size _ _ rfl (hown.alloc _) (by unfold maxLen; omega) _ _ _ rfl rfl (keyOf_int_mk Tryz.underlying3 hwx) _ [] (plainElem_bool Tryz.underlying4 true) ?_; intro w2 hown2 hg2
           have d6 : w2.cell? ⟨wr.heap.size, 6, none⟩ = some (.slice B acts.length cap6) := by
             rw [World.cell?_of_block (hg2.block wr.heap.size (by simp) (by simp; omega))]
             simp [go_sem]
           go_frame)
        | go_in)
      have hb2 : Below w.heap.size w w2 := (hwr.alloc hwr.size _).grown hg2 (by simp; have := hwr.size; omega) (fun j hj => by cases hj; exact Nat.le_refl _)
      have hz2 := hown2.lt
      clear hg2 d6 hown hwr hz c0 c1 c2 c3 c4 c5 c6
      go_loopw [24] (fun i W => ∃ (j : Nat) (E : DataW Unit), j ≤ acts.length ∧ i = .int .i64 j ∧ W.ownsMap Tryz.prog 3 (plainElem Tryz.prog 4) w.heap.size ((daysS (l.take k)).length + 1 + j) E ∧ KeyIs E (daysS (l.take k) ++ [booked] ++ (acts.take j).map Act.booked) ∧ Below w.heap.size w W) (fun i _ => acts.length - (intOf i).toNat)
      case atStart => exact ⟨0, _, by omega, rfl, hown2, by simpa using hkey.put booked _, hb2⟩
      case round =>
        obtain ⟨j, E, hj, rfl, hown3, hkey3, hb3⟩ := hrel
        by_cases hjl : j < acts.length
        · obtain ⟨b6, off6, rfl, hb6, hc6⟩ := h6 (by omega)
          obtain ⟨a, ha⟩ : ∃ a, acts[j]? = some a := ⟨_, List.getElem?_eq_getElem hjl⟩
          obtain ⟨e0, e1, e2⟩ := hc6 j a ha
          rw [← hb3.cell (p := ⟨b6, _, none⟩) hb6] at e0 e1 e2
          have hwa : (Lit.int .i64 a.booked).wf = true := by
            have := hmem a.booked (by simp only [daysF, List.mem_cons]; exact .inr (List.mem_map.2 ⟨a, List.mem_of_getElem? ha, rfl⟩))
            unfold Int64 at this
            simp [Lit.wf, IntKind.min, IntKind.max, IntKind.bits, IntKind.signed]
            omega
          have hsn6 : (acts.take (j + 1)).map Act.booked = (acts.take j).map Act.booked ++ [a.booked] := by rw [List.take_add_one, ha]; simp
          clear h6 hc6
          obtain ⟨abk, akd, aam⟩ := a
          simp only at e0 e1 e2 hwa hsn6
          go_wp2_with (first
            | (at_mapUpdate; refine wpList_mapUpdate_own _ rfl _ _ _ 56 rfl 3 4 law Tryz.underlying56 _ w.heap.size _ _ rfl (hown3.alloc _) (by unfold maxLen; omega) _ _ _ rfl rfl (keyOf_int_mk Tryz.underlying3 hwa) _ [] (plainElem_bool Tryz.underlying4 true) ?_; intro w3 hown4 hg3; go_frame)
            | go_in)
          go_roundw
          case rel => exact ⟨j + 1, _, hjl, rfl, hown4, by rw [hsn6, ← List.append_assoc]; exact hkey3.put abk _, (hb3.alloc hb3.size _).grown hg3 (by simp; have := hb3.size; omega) (fun j hj => by cases hj; exact Nat.le_refl _)⟩
          case measure => simp [intOf]; omega
        · obtain rfl : j = acts.length := by omega
          rw [List.take_length] at hkey3
          go_wp2
          go_roundw
          case rel => exact ⟨k + 1, E, hlt, rfl, by rw [hsn, List.length_append, hdf]; simpa [Nat.add_assoc, Nat.add_comm 1] using hown3, by rw [hsn]; simpa [daysF] using hkey3, hb3⟩
          case measure => simp [intOf]; omega
    · obtain rfl : k = l.length := by omega
      rw [List.take_length] at hown hkey
      clear hl
      have hsz := size_le hown
      obtain ⟨i0, hi, hz0, hz1, hz2⟩ := info_parts (P := Tryz.prog) (e := 3) (z := .int .i64 0) (size := 1) (bytes := 8) (by kernel_rfl)
      have hmb := hown.lt
      go_wp2_with (first
        | (at_range; refine wpList_range_own _ rfl _ 56 rfl 3 4 law Tryz.underlying56 _ w.heap.size _ _ rfl hown ?_; intro w0 hrg0 hg0 hs0)
        | go_in)
      go_frame
      have hb0 : Below w.heap.size w w0 := hwr.grown hg0 hwr.size (fun j hj => by cases hj)
      clear hg0 hs0 hwr hown
      generalize wr.heap.size = r at hrg0 hmb ⊢
      go_loopw [8] (fun v W => ∃ (left : Lit → Bool) (cnt : Nat) (ss : List Int), W.ranges Tryz.prog 3 (plainElem Tryz.prog 4) w.heap.size r (daysS l).length D left cnt ∧ ss.length + cnt ≤ Maps.size D ∧
          W.ownsRow (w.heap.size + 1) 3 1 v ss.length (ss.map (Value.int .i64)) ∧ CollI D left ss ∧ Below w.heap.size w W) (fun _ W => W.rangeLeft w.heap.size r)
      case atStart =>
        exact ⟨_, _, [], hrg0, by simp, World.ownsRow_nil _ _ _ _, CollI.start D, hb0⟩
      case round =>
        obtain ⟨left, cnt, ss, hrg, hcs, hrow, hC, hnx⟩ := hrel
        go_wp2_with (first
          | (at_next; refine wpList_next_ranges _ rfl _ rfl 3 law (plainElem Tryz.prog 4) (Value.int .i64) (fun v : Value => v) (fun key kl hk => by obtain ⟨x, hx, _⟩ := Maps.keyOf_int_inv Tryz.underlying3 hk; exact ⟨x, hx⟩) (fun v y hv => ⟨v, rfl⟩) w.heap.size r _ _ _ _ rfl hrg ?_ ?_)
          | go_in)
        · intro hc0 hl0
          have hss := Lib.hid (hC.all hl0 hkey.2)
          have Hrow := Lib.hid hrow
          have Hnx := Lib.hid hnx
          have hsl : ss.length ≤ 1000000 := by omega
          clear hrg hcs hrow hC hnx hc0 hl0 hkey hsz hi hz0 hz1 hz2 hb0
          go_wp2_with fail
          rcases Hrow.out.2 with ⟨hnil, hn0⟩ | ⟨g, cp, cur, hv, hbase, hbk, h1, h2, h3, h4⟩
          · subst hnil
            obtain rfl : ss = [] := List.length_eq_zero_iff.1 hn0
            refine (HS0.out wr).mono ?_
            rintro e w' ⟨rfl, rfl⟩
            go_wp2_with fail
            go_ret
            refine ⟨_, rfl, Hnx.out, ?_⟩
            have : daysL l = [] := hss.out.symm.trans (by simp [msrt])
            rw [this]
            exact ints_nil M _
          · subst hv
            have hH : Holds (Value.int .i64) wr g 0 ss.toArray := holds_of_blockI hbk (by simpa using h4)
            have hgl : g < wr.heap.size := (Array.getElem?_eq_some_iff.1 hbk).1
            have hor := fun nn os => Lib.hid (ownsRow_sortedI (n := nn) (os := os) (ts := msrt ss) (ss := ss) (by simp) hbase hbk h1 h2 h3)
            refine (HS1.out g cp ss wr hH hgl (by omega)).mono ?_
            rintro e w' ⟨rfl, nn, os, rfl⟩
            have hor := hor nn os
            have hgr := Lib.hid (grownBy_sortedI (w := wr) (g := g) (n := nn) (os := os) (msrt ss).toArray)
            clear hH hgl h1 h2 h3 h4 hbk
            generalize grow (putRow (Value.int .i64) (Sort.ahead wr nn) g 0 (msrt ss).toArray) os = wz at hor hgr ⊢
            go_wp2_with fail
            go_ret
            refine ⟨_, rfl, Hnx.out.grown hgr.out Hnx.out.size (fun j hj => by cases hj; omega), ?_⟩
            have hdl : msrt ss = daysL l := hss.out
            have hor := hor.out
            rw [hdl] at hor
            have hll : (daysL l).length = ss.length := by rw [← hdl]; simp
            rw [← hll] at hor ⊢
            exact ints_rep hor (fun hg => by have := hM g hg; omega)
        · intro x c kl y yp w2 cnt2 hkx hlk hv hat hrg2 hlt2 hg2 hs2 hen
          obtain ⟨x', ex, rfl, _⟩ := Maps.keyOf_int_inv Tryz.underlying3 hkx
          injection ex with _ ex
          subst ex
          have hrow2 := hrow.kept hg2 (Or.inr (row_ne_iter hrow hrg).symm)
          have hw2 := hnx.grown hg2 hnx.size (fun j hj => by cases hj; omega)
          have hzq := hrg2.owns.lt
          clear hs2
          go_wp2_with (first
            | (at_builtin; refine wpList_append_own_at _ rfl _ _ 27 rfl (w.heap.size + 1) 3 i0 (.int .i64 0) 1 8 Tryz.underlying27 hi hz0 hz1 hz2 rfl (by decide) _ _ _ rfl (hrow2.alloc _) ⟨w2.heap.size, 0, none⟩ 1 1 [.int .i64 x] rfl rfl (cell_one_new _ _ _) (by simp [Value.oneCell']) (by unfold maxLen; omega) (by omega) (by simp; omega) ?_; intro v' w3 hown' hg3 hnil3 hblk3; go_frame)
            | go_in)
          have hrg3 := (hrg2.alloc _).kept hg3 (row_ne_low hrow2 (Nat.lt_succ_self _)) (row_ne_iter hrow2 hrg2)
          go_roundw
          case rel =>
            exact ⟨_, cnt2, ss ++ [x], hrg3, by simp; omega, by simpa using hown', hC.step hlk hat, (hw2.alloc (by omega) _).grown hg3 (by simp; omega) (fun j hj => by have := (hrow2.lt j hj).1; omega)⟩
          case measure => rw [hrg3.left_eq, hrg.left_eq]; exact hlt2
end Go.Proofs.YtjplhfmakghabaaGreat.V
namespace Go.Proofs.YtjplhfmakghabaaGreat.V
open Go.RowKit Go.Sort

theorem days_f (l : List File) (hN : (daysS l).length ≤ 1000000) (hI : ∀ x, x ∈ daysS l → Int64 x) : Fun Tryz.prog 11 [filesA l] (ints (daysL l)) := by
  intro M w vs hM hsz hv
  obtain ⟨v, rfl⟩ : ∃ v, vs = #[v] := by
    have h1 : vs.size = 1 := hsz
    exact ⟨vs[0], by apply Array.ext (by simp [h1]); intro i h2 h3; obtain rfl : i = 0 := by omega
                     rfl⟩
  have h := hv 0 v _ rfl rfl
  refine (days_any l v w h hN hI hM (fun w => AnyG.slices_Sort_int_none Tryz.sortInt none 0 w) (fun g cap zs w hH hg hz => AnyG.slices_Sort_int Tryz.sortInt g 0 cap zs w hH hg hz)).mono ?_
  rintro e w' ⟨u, rfl, hb, hr⟩
  exact ⟨u, rfl, hr, hb⟩
end Go.Proofs.YtjplhfmakghabaaGreat.V
set_option linter.unusedSimpArgs false
set_option linter.unusedVariables false
namespace Go.Proofs.YtjplhfmakghabaaGreat.V
set_option maxRecDepth 100000

def knownL (l : List File) (d : Int) : List File := l.map fun f => f.at d
/-- What is booked up to a day is a beginning. -/
theorem acts_cut (d : Int) : ∀ {E : List Act}, E.Pairwise (fun a b => a.booked ≤ b.booked) → ∃ F, E = keepD d E ++ F ∧ ∀ s, s ∈ F → d < s.booked
  | [], _ => ⟨[], rfl, by simp⟩
  | x :: E, h => by
    have h2 := List.pairwise_cons.1 h
    by_cases hx : x.booked ≤ d
    · obtain ⟨F, h3, h4⟩ := acts_cut d h2.2
      refine ⟨F, ?_, h4⟩
      unfold keepD at *
      rw [List.filter_cons_of_pos (by simpa using hx), List.cons_append, ← h3]
    · refine ⟨x :: E, ?_, fun s hs => ?_⟩
      · have : keepD d (x :: E) = [] := by
          unfold keepD
          rw [List.filter_eq_nil_iff]
          intro s hs
          rcases List.mem_cons.1 hs with rfl | hs
          · simpa using hx
          · have := h2.1 s hs; simp; omega
        rw [this]; rfl
      · rcases List.mem_cons.1 hs with rfl | hs
        · omega
        · have := h2.1 s hs; omega
theorem made_at {f : File} (h : f.made = true) (d : Int) : (f.at d).made = true := by
  obtain ⟨F, h1, -⟩ := acts_cut d (made_good h).srt
  unfold File.made at h ⊢
  rw [h1, madeL_app, Bool.and_eq_true] at h
  exact h.1
theorem right_at {c : Cover} {l : List File} (h : adjRight c l = true) (d : Int) : adjRight c (knownL l d) = true := by
  rw [adjRight, Bool.and_eq_true, List.all_eq_true] at h ⊢
  refine ⟨h.1, fun g hg => ?_⟩
  obtain ⟨f, hf, rfl⟩ := List.mem_map.1 hg
  have h1 := h.2 f hf
  rw [okFile, Bool.and_eq_true] at h1 ⊢
  exact ⟨h1.1, made_at h1.2 d⟩
theorem acts_at (l : List File) (d : Int) : actsN (knownL l d) ≤ actsN l := by
  induction l with
  | nil => exact Nat.le_refl _
  | cons f l ih =>
    have h1 : actsN (knownL (f :: l) d) = (keepD d f.acts).length + actsN (knownL l d) := by simp [actsN, knownL, File.at]
    have h2 : actsN (f :: l) = f.acts.length + actsN l := by simp [actsN]
    have h3 := keepD_le d f.acts
    omega
theorem known_len (l : List File) (d : Int) : (knownL l d).length = l.length := by simp [knownL]
theorem check_at {c : Cover} {l : List File} (he : checkE c l = 0) (d : Int) : checkE c (knownL l d) = 0 := by
  obtain ⟨har, h1, h2⟩ := chk_right he
  have h3 := acts_at l d
  rw [checkE, if_neg (by rw [right_at har d]; decide), if_neg (by rw [known_len]; omega)]
theorem steps_at (d : Int) : ∀ (l : List File) (k : Nat), stepsL k (knownL l d) = (stepsL k l).filter fun s => decide (s.act.booked ≤ d)
  | [], _ => rfl
  | f :: l, k => by
    have h1 : stepsL k (knownL (f :: l) d) = (keepD d f.acts).map (fun a => (⟨k, a⟩ : Stp)) ++ stepsL (k + 1) (knownL l d) := rfl
    rw [h1, steps_at d l, stepsL, List.filter_append]
    congr 1
    rw [List.filter_map]
    rfl
theorem ord_at (l : List File) (d : Int) : ordL (knownL l d) = (ordL l).filter fun s => decide (s.act.booked ≤ d) := by
  unfold ordL
  rw [steps_at, isort_filter sw_ltT]
theorem pay_more (c : Cover) : ∀ (F : List Stp) (s : PS), ∃ G, (F.foldl (payOne c) s).out = s.out ++ G ∧ ∀ r, r ∈ G → ∃ x, x ∈ F ∧ r.2.1 = x.act.booked
  | [], s => ⟨[], by simp, by simp⟩
  | x :: F, s => by
    obtain ⟨G, h1, h2⟩ := pay_more c F (payOne c s x)
    have h3 : (payOne c s x).out = s.out ∨ ∃ k v, (payOne c s x).out = s.out ++ [(k, x.act.booked, v)] := by
      unfold payOne
      simp only
      split
      · split
        · exact .inl rfl
        · exact .inr ⟨_, _, rfl⟩
      · exact .inl rfl
    rw [List.foldl_cons, h1]
    rcases h3 with h3 | ⟨k, v, h3⟩
    · refine ⟨G, by rw [h3], fun r hr => ?_⟩
      obtain ⟨y, hy, he⟩ := h2 r hr
      exact ⟨y, by simp [hy], he⟩
    · refine ⟨(k, x.act.booked, v) :: G, by rw [h3]; simp, fun r hr => ?_⟩
      rcases List.mem_cons.1 hr with rfl | hr
      · exact ⟨x, by simp, rfl⟩
      · obtain ⟨y, hy, he⟩ := h2 r hr
        exact ⟨y, by simp [hy], he⟩
/-- What was paid up to a day. -/
theorem paid_at {c : Cover} {l : List File} (he : checkE c l = 0) (d : Int) : paidR c (knownL l d) = (paidR c l).filter fun r => decide (r.2.1 ≤ d) := by
  obtain ⟨har, _⟩ := chk_right he
  rw [paidR, if_pos (check_at he d), paidR, if_pos he, known_len, ord_at]
  obtain ⟨F, h1, h2⟩ := booked_cut d (srt_booked (ordL_srt l))
  have hI := payL_PI (right_at har d) (ordL (knownL l d)).length (Nat.le_refl _)
  rw [List.take_length, known_len, ord_at] at hI
  have hEd : ∀ s, s ∈ (ordL l).filter (fun s => decide (s.act.booked ≤ d)) → s.act.booked ≤ d := fun s hs => by simpa using (List.mem_filter.1 hs).2
  obtain ⟨E, hE⟩ : ∃ E, E = (ordL l).filter fun s => decide (s.act.booked ≤ d) := ⟨_, rfl⟩
  rw [← hE] at h1 hI hEd ⊢
  clear hE
  rw [h1]
  have hp : payL c l.length (E ++ F) = F.foldl (payOne c) (payL c l.length E) := by rw [payL, List.foldl_append]; rfl
  obtain ⟨G, g1, g2⟩ := pay_more c F (payL c l.length E)
  rw [hp, g1, List.filter_append]
  have e1 : (payL c l.length E).out.filter (fun r => decide (r.2.1 ≤ d)) = (payL c l.length E).out := by
    rw [List.filter_eq_self]
    intro r hr
    have h3 := hI.dy.subset (List.mem_map.2 ⟨r, hr, rfl⟩)
    obtain ⟨x, hx, h4⟩ := List.mem_map.1 h3
    have := hEd x hx
    simp
    omega
  have e2 : G.filter (fun r => decide (r.2.1 ≤ d)) = [] := by
    rw [List.filter_eq_nil_iff]
    intro r hr
    obtain ⟨x, hx, h4⟩ := g2 r hr
    have := h2 x hx
    simp
    omega
  rw [e1, e2, List.append_nil]
end Go.Proofs.YtjplhfmakghabaaGreat.V
