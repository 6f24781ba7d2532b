/- Abstract values: what is known of a value in memory, as plain data; how they stand to values and worlds. -/
import Derived.Test.YtjplhfmakghabaaRows
import Derived.WalkKit
import Derived.WalkSpells
import Derived.WalkLawsBesides
import Derived.Deep.QuietTactic
import Derived.BigQuiet
import Derived.Lib.Hide
set_option linter.unusedSimpArgs false
set_option linter.unusedVariables false
namespace Go.Proofs.Ytjplhfmakghabaa.V
open Go.RowKit

/-- What is known of a value. -/
inductive AV where
  | v (x : Value)
  | sl (full : Bool) (k : Nat) (l : List (List AV))
  | any
  | ptr (b off : Nat)
  | pp (l : List AV)
  | osl (b k off n : Nat)
  | fn (f : Fn) (first caps : List AV)
  | agg (l : List AV)
  | tup (l : List AV)
  | iface (t : TypeId) (x : AV)
  | iff (c : Bool) (x : AV)
  | bit (p : Prop)
  | mp (es : Array MapEntry) (c : Nat)

abbrev int (n : Int) : AV := .v (.int .i64 n)
abbrev bool (b : Bool) : AV := .v (.bool b)

/-- Plain data in memory that nobody writes: outside the blocks of M. -/
inductive RepD (M : Nat → Prop) (w : World) : Value → AV → Prop
  | v (x : Value) : RepD M w x (.v x)
  | sl {A : Option Addr} {n cap : Nat} {full : Bool} {k : Nat} {l : List (List AV)} (b off : Nat) (x : Nat → Nat → Value) (hn : n = l.length) (hc : n ≤ cap) (hm : cap ≤ maxLen) (hf : full = true → cap = n)
      (hk : ∀ row, row ∈ l → row.length = k) (hA : l ≠ [] → A = some ⟨b, off, none⟩ ∧ ¬ M b ∧ b < w.heap.size)
      (hl : ∀ i j, i < l.length → j < k → w.cell? ⟨b, off + i * k + j, none⟩ = some (x i j) ∧ (x i j).oneCell' = true)
      (hx : ∀ (i : Nat) (row : List AV) (j : Nat) (y : AV), l[i]? = some row → row[j]? = some y → RepD M w (x i j) y) : RepD M w (.slice A n cap) (.sl full k l)
  | agg {vs : Array Value} {l : List AV} (hn : vs.size = l.length) (h : ∀ (i : Nat) (x : Value) (y : AV), vs[i]? = some x → l[i]? = some y → RepD M w x y) : RepD M w (.agg vs) (.agg l)
  | tup {vs : Array Value} {l : List AV} (hn : vs.size = l.length) (h : ∀ (i : Nat) (x : Value) (y : AV), vs[i]? = some x → l[i]? = some y → RepD M w x y) : RepD M w (.tuple vs) (.tup l)
  | pp {g off : Nat} {l : List AV} (x : Nat → Value) (hM : ¬ M g) (hg : g < w.heap.size) (hl : ∀ j, j < l.length → w.cell? ⟨g, off + j, none⟩ = some (x j) ∧ (x j).oneCell' = true)
      (hx : ∀ (j : Nat) (y : AV), l[j]? = some y → RepD M w (x j) y) : RepD M w (.pointer (some ⟨g, off, none⟩)) (.pp l)
  | fn {f : Fn} {fs cs : Array Value} {lf lc : List AV} (hf : fs.size = lf.length) (hc : cs.size = lc.length) (h1 : ∀ (i : Nat) (x : Value) (y : AV), fs[i]? = some x → lf[i]? = some y → RepD M w x y)
      (h2 : ∀ (i : Nat) (x : Value) (y : AV), cs[i]? = some x → lc[i]? = some y → RepD M w x y) : RepD M w (.func f fs cs) (.fn f lf lc)
  | mp {r c : Nat} {es : Array MapEntry} (hM : ¬ M r) (hr : w.heap[r]? = some (.map es c)) : RepD M w (.map (some r)) (.mp es c)

/-- Values, with what points into the call's own blocks: name b lies in block 'ι b'. -/
inductive RepA (ι : Nat → Option Nat) (M : Nat → Prop) (w : World) : Value → AV → Prop
  | d {v : Value} {a : AV} (h : RepD M w v a) : RepA ι M w v a
  | any (v : Value) : RepA ι M w v .any
  | ptr {b g off : Nat} (h : ι b = some g) : RepA ι M w (.pointer (some ⟨g, off, none⟩)) (.ptr b off)
  | osl {b g k off n cap : Nat} {c : Array Value} {t : TypeId} (h : ι b = some g) (hn : n ≤ cap) (hm : cap ≤ maxLen) (hh : w.heap[g]? = some (.cells c t (0, 0))) (hs : off + cap * k = c.size) :
      RepA ι M w (.slice (some ⟨g, off, none⟩) n cap) (.osl b k off n)
  | osl0 (A : Option Addr) (b k off : Nat) : RepA ι M w (.slice A 0 0) (.osl b k off 0)
  | fn {f : Fn} {fs cs : Array Value} {lf lc : List AV} (hf : fs.size = lf.length) (hc : cs.size = lc.length) (h1 : ∀ (i : Nat) (x : Value) (y : AV), fs[i]? = some x → lf[i]? = some y → RepA ι M w x y)
      (h2 : ∀ (i : Nat) (x : Value) (y : AV), cs[i]? = some x → lc[i]? = some y → RepA ι M w x y) : RepA ι M w (.func f fs cs) (.fn f lf lc)
  | agg {vs : Array Value} {l : List AV} (hn : vs.size = l.length) (h : ∀ (i : Nat) (x : Value) (y : AV), vs[i]? = some x → l[i]? = some y → RepA ι M w x y) : RepA ι M w (.agg vs) (.agg l)
  | tup {vs : Array Value} {l : List AV} (hn : vs.size = l.length) (h : ∀ (i : Nat) (x : Value) (y : AV), vs[i]? = some x → l[i]? = some y → RepA ι M w x y) : RepA ι M w (.tuple vs) (.tup l)
  | iface {t : TypeId} {v : Value} {a : AV} (h : RepA ι M w v a) : RepA ι M w (.iface t v) (.iface t a)
  | iffT {v : Value} {a : AV} (h : RepA ι M w v a) : RepA ι M w v (.iff true a)
  | iffF (a : AV) : RepA ι M w undef (.iff false a)
  | bit {b : Bool} {p : Prop} (h : b = true → p) : RepA ι M w (.bool b) (.bit p)

/-- How a world may go on: blocks of cells keep their sizes. -/
structure Evo (w w' : World) : Prop where
  size : w.heap.size ≤ w'.heap.size
  cells : ∀ (g : Nat) (c : Array Value) (t : TypeId), w.heap[g]? = some (Obj.cells c t (0, 0)) → ∃ c' : Array Value, w'.heap[g]? = some (.cells c' t (0, 0)) ∧ c'.size = c.size

theorem Evo.refl (w : World) : Evo w w := ⟨Nat.le_refl _, fun _ c _ h => ⟨c, h, rfl⟩⟩
theorem Evo.trans {a b c : World} (h : Evo a b) (k : Evo b c) : Evo a c :=
  ⟨Nat.le_trans h.size k.size, fun g x t hx => by
    obtain ⟨y, hy, hs⟩ := h.cells g x t hx
    obtain ⟨z, hz, hs'⟩ := k.cells g y t hy
    exact ⟨z, hz, hs'.trans hs⟩⟩

section
variable {M M' : Nat → Prop} {w w' : World} {ι ι' : Nat → Option Nat}

/-- What nobody writes stays. -/
theorem RepD.keep (hM : ∀ g, g < w.heap.size → M' g → M g) (hs : w.heap.size ≤ w'.heap.size) (hb : ∀ g, g < w.heap.size → ¬ M g → w'.heap[g]? = w.heap[g]?) {v : Value} {a : AV} (h : RepD M w v a) : RepD M' w' v a := by
  induction h with
  | v x => exact .v x
  | @sl A n cap full k l b off x hn hc hm hf hk hA hl hx ih =>
    refine .sl b off x hn hc hm hf hk (fun h => ?_) (fun i j hi hj => ?_) ih
    · obtain ⟨h1, h2, h3⟩ := hA h
      exact ⟨h1, fun h => h2 (hM _ h3 h), Nat.lt_of_lt_of_le h3 hs⟩
    · obtain ⟨h1, h2, h3⟩ := hA (by rintro rfl; simp at hi)
      rw [World.cell?_of_block (w := w) (hb b h3 h2)]
      exact hl i j hi hj
  | agg hn _ ih => exact .agg hn ih
  | tup hn _ ih => exact .tup hn ih
  | @pp g off l x hM' hg hl hx ih =>
    refine .pp x (fun h => hM' (hM _ hg h)) (Nat.lt_of_lt_of_le hg hs) (fun j hj => ?_) ih
    rw [World.cell?_of_block (w := w) (hb g hg hM')]
    exact hl j hj
  | fn hf hc _ _ ih1 ih2 => exact .fn hf hc ih1 ih2
  | @mp r c es hM' hr =>
    have hlt := (Array.getElem?_eq_some_iff.1 hr).1
    exact .mp (fun h => hM' (hM _ hlt h)) (by rw [hb r hlt hM']; exact hr)

theorem RepA.keep (hι : ∀ b g, ι b = some g → ι' b = some g) (hM : ∀ g, g < w.heap.size → M' g → M g) (he : Evo w w') (hb : ∀ g, g < w.heap.size → ¬ M g → w'.heap[g]? = w.heap[g]?) {v : Value} {a : AV} (h : RepA ι M w v a) : RepA ι' M' w' v a := by
  induction h with
  | d h => exact .d (h.keep hM he.size hb)
  | any v => exact .any v
  | ptr h => exact .ptr (hι _ _ h)
  | osl h hn hm hh hs =>
    obtain ⟨c', hc', hs'⟩ := he.cells _ _ _ hh
    exact .osl (hι _ _ h) hn hm hc' (hs.trans hs'.symm)
  | osl0 A b k o => exact .osl0 A b k o
  | fn hf hc _ _ ih1 ih2 => exact .fn hf hc ih1 ih2
  | agg hn _ ih => exact .agg hn ih
  | tup hn _ ih => exact .tup hn ih
  | iface _ ih => exact .iface ih
  | iffT _ ih => exact .iffT ih
  | iffF a => exact .iffF a
  | bit h => exact .bit h

/-- No pointer into the call's own blocks is in it. -/
def AV.isData : AV → Bool
  | .v _ => true
  | .sl .. => true
  | .agg l => l.attach.all fun ⟨x, _⟩ => x.isData
  | .tup l => l.attach.all fun ⟨x, _⟩ => x.isData
  | .pp _ => true
  | .mp .. => true
  | .fn _ l m => (l.attach.all fun ⟨x, _⟩ => x.isData) && m.attach.all fun ⟨x, _⟩ => x.isData
  | _ => false

@[simp] theorem isData_v (x : Value) : (AV.v x).isData = true := by simp [AV.isData]
@[simp] theorem isData_sl (f : Bool) (k : Nat) (l : List (List AV)) : (AV.sl f k l).isData = true := by simp [AV.isData]
@[simp] theorem isData_agg (l : List AV) : (AV.agg l).isData = l.all AV.isData := by
  rw [AV.isData]; simp [List.all_eq, List.attach]
@[simp] theorem isData_tup (l : List AV) : (AV.tup l).isData = l.all AV.isData := by
  rw [AV.isData]; simp [List.all_eq, List.attach]

@[simp] theorem isData_mp (es : Array MapEntry) (c : Nat) : (AV.mp es c).isData = true := by simp [AV.isData]
@[simp] theorem isData_pp (l : List AV) : (AV.pp l).isData = true := by simp [AV.isData]
@[simp] theorem isData_fn (f : Fn) (l m : List AV) : (AV.fn f l m).isData = (l.all AV.isData && m.all AV.isData) := by
  rw [AV.isData]; simp [List.all_eq, List.attach]

theorem RepA.toD {v : Value} {a : AV} (h : RepA ι M w v a) (ha : a.isData = true) : RepD M w v a := by
  induction h with
  | d h => exact h
  | agg hn _ ih =>
    rw [isData_agg, List.all_eq_true] at ha
    exact .agg hn fun i x y hx hy => ih i x y hx hy (ha _ (List.mem_of_getElem? hy))
  | tup hn _ ih =>
    rw [isData_tup, List.all_eq_true] at ha
    exact .tup hn fun i x y hx hy => ih i x y hx hy (ha _ (List.mem_of_getElem? hy))
  | fn hf hc _ _ ih1 ih2 =>
    rw [isData_fn, Bool.and_eq_true, List.all_eq_true, List.all_eq_true] at ha
    exact .fn hf hc (fun i x y hx hy => ih1 i x y hx hy (ha.1 _ (List.mem_of_getElem? hy))) (fun i x y hx hy => ih2 i x y hx hy (ha.2 _ (List.mem_of_getElem? hy)))
  | _ => simp [AV.isData] at ha

/-- The same with other names. -/
def AV.ren (r : Nat → Nat) : AV → AV
  | .ptr b o => .ptr (r b) o
  | .osl b k o n => .osl (r b) k o n
  | .fn f lf lc => .fn f (lf.attach.map fun ⟨x, _⟩ => x.ren r) (lc.attach.map fun ⟨x, _⟩ => x.ren r)
  | .agg l => .agg (l.attach.map fun ⟨x, _⟩ => x.ren r)
  | .tup l => .tup (l.attach.map fun ⟨x, _⟩ => x.ren r)
  | .iface t x => .iface t (x.ren r)
  | .iff c x => .iff c (x.ren r)
  | x => x

/-- Names that stand in it are names of f. -/
def AV.names (f : Nat → Bool) : AV → Bool
  | .ptr b _ => f b
  | .osl b .. => f b
  | .fn _ lf lc => (lf.attach.all fun ⟨x, _⟩ => x.names f) && (lc.attach.all fun ⟨x, _⟩ => x.names f)
  | .agg l => l.attach.all fun ⟨x, _⟩ => x.names f
  | .tup l => l.attach.all fun ⟨x, _⟩ => x.names f
  | .iface _ x => x.names f
  | .iff _ x => x.names f
  | _ => true

section
variable {r : Nat → Nat} {p : Nat → Bool}
@[simp] theorem ren_v (x : Value) : (AV.v x).ren r = .v x := by simp [AV.ren]
@[simp] theorem ren_mp (es : Array MapEntry) (c : Nat) : (AV.mp es c).ren r = .mp es c := by simp [AV.ren]
@[simp] theorem names_mp (es : Array MapEntry) (c : Nat) : (AV.mp es c).names p = true := by simp [AV.names]
@[simp] theorem ren_bit (p : Prop) : (AV.bit p).ren r = .bit p := by simp [AV.ren]
@[simp] theorem names_bit (q : Prop) : (AV.bit q).names p = true := by simp [AV.names]
@[simp] theorem ren_any : AV.any.ren r = .any := by simp [AV.ren]
@[simp] theorem ren_sl (f : Bool) (k : Nat) (l : List (List AV)) : (AV.sl f k l).ren r = .sl f k l := by simp [AV.ren]
@[simp] theorem ren_pp (l : List AV) : (AV.pp l).ren r = .pp l := by simp [AV.ren]
@[simp] theorem ren_ptr (b o : Nat) : (AV.ptr b o).ren r = .ptr (r b) o := by simp [AV.ren]
@[simp] theorem ren_osl (b k o m : Nat) : (AV.osl b k o m).ren r = .osl (r b) k o m := by simp [AV.ren]
@[simp] theorem ren_agg (l : List AV) : (AV.agg l).ren r = .agg (l.map (AV.ren r)) := by rw [AV.ren]; simp
@[simp] theorem ren_tup (l : List AV) : (AV.tup l).ren r = .tup (l.map (AV.ren r)) := by rw [AV.ren]; simp
@[simp] theorem ren_fn (f : Fn) (l m : List AV) : (AV.fn f l m).ren r = .fn f (l.map (AV.ren r)) (m.map (AV.ren r)) := by rw [AV.ren]; simp
@[simp] theorem ren_iface (t : TypeId) (x : AV) : (AV.iface t x).ren r = .iface t (x.ren r) := by simp [AV.ren]
@[simp] theorem ren_iff (c : Bool) (x : AV) : (AV.iff c x).ren r = .iff c (x.ren r) := by simp [AV.ren]
@[simp] theorem names_iff (c : Bool) (x : AV) : (AV.iff c x).names p = x.names p := by simp [AV.names]
@[simp] theorem names_v (x : Value) : (AV.v x).names p = true := by simp [AV.names]
@[simp] theorem names_any : AV.any.names p = true := by simp [AV.names]
@[simp] theorem names_sl (f : Bool) (k : Nat) (l : List (List AV)) : (AV.sl f k l).names p = true := by simp [AV.names]
@[simp] theorem names_pp (l : List AV) : (AV.pp l).names p = true := by simp [AV.names]
@[simp] theorem names_ptr (b o : Nat) : (AV.ptr b o).names p = p b := by simp [AV.names]
@[simp] theorem names_osl (b k o m : Nat) : (AV.osl b k o m).names p = p b := by simp [AV.names]
@[simp] theorem names_agg (l : List AV) : (AV.agg l).names p = l.all (AV.names p) := by
  rw [AV.names]; simp [List.all_eq, List.attach]
@[simp] theorem names_tup (l : List AV) : (AV.tup l).names p = l.all (AV.names p) := by
  rw [AV.names]; simp [List.all_eq, List.attach]
@[simp] theorem names_fn (f : Fn) (l m : List AV) : (AV.fn f l m).names p = (l.all (AV.names p) && m.all (AV.names p)) := by
  rw [AV.names]; simp [List.all_eq, List.attach]
@[simp] theorem names_iface (t : TypeId) (x : AV) : (AV.iface t x).names p = x.names p := by simp [AV.names]
end

/-- The blocks of names that are kept, under their new names. -/
def cutTo (p : Nat → Bool) (r : Nat → Nat) (ι : Nat → Option Nat) : Nat → Option Nat := fun b => if p b then ι (r b) else none

theorem map_inv {r : Nat → Nat} {vs : Array Value} {l l0 : List AV} (hn : vs.size = l.length) (he : l = l0.map (AV.ren r)) (ih : ∀ (i : Nat) (x : Value) (y : AV), vs[i]? = some x → l[i]? = some y → ∀ {a : AV}, y = a.ren r → a = y) : l0 = l := by
  apply List.ext_getElem?
  intro i
  by_cases hi : i < l.length
  · have h1 := List.getElem?_eq_getElem hi
    have h2 : l0[i]? = some (l0[i]'(by subst he; simpa using hi)) := List.getElem?_eq_getElem _
    have h3 : l[i] = (l0[i]'(by subst he; simpa using hi)).ren r := by subst he; simp
    rw [h1, h2]
    exact congrArg some (ih i _ _ (Array.getElem?_eq_getElem (by omega)) h1 h3)
  · have : l0.length = l.length := by subst he; simp
    rw [List.getElem?_eq_none (by omega), List.getElem?_eq_none (by omega)]

theorem RepD.ren_inv {r : Nat → Nat} {v : Value} {a' : AV} (h : RepD M w v a') : ∀ {a : AV}, a' = a.ren r → a = a' := by
  induction h with
  | v x => intro a he; cases a <;> simp at he; subst he; rfl
  | sl => intro a he; cases a <;> simp at he; obtain ⟨rfl, rfl, rfl⟩ := he; rfl
  | pp => intro a he; cases a <;> simp at he; subst he; rfl
  | mp => intro a he; cases a <;> simp at he; obtain ⟨rfl, rfl⟩ := he; rfl
  | agg hn _ ih => intro a he; cases a <;> simp at he; rw [map_inv hn he ih]
  | tup hn _ ih => intro a he; cases a <;> simp at he; rw [map_inv hn he ih]
  | fn hf hc _ _ ih1 ih2 => intro a he; cases a <;> simp at he; obtain ⟨rfl, h1, h2⟩ := he; rw [map_inv hf h1 ih1, map_inv hc h2 ih2]

theorem RepA.cut {p : Nat → Bool} {r : Nat → Nat} : ∀ {v : Value} {a a' : AV}, RepA ι M w v a' → a' = a.ren r → a.names p = true → RepA (cutTo p r ι) M w v a := by
  intro v a a' h
  induction h generalizing a with
  | @d v a' h => intro he _; rw [h.ren_inv he]; exact .d h
  | any v => intro he ha; cases a <;> simp at he; exact .any v
  | ptr h => intro he ha; cases a <;> simp at he; obtain ⟨rfl, rfl⟩ := he; simp at ha; exact .ptr (by simp [cutTo, ha, h])
  | osl h h1 h2 h3 h4 => intro he ha; cases a <;> simp at he; obtain ⟨rfl, rfl, rfl, rfl⟩ := he; simp at ha; exact .osl (by simp [cutTo, ha, h]) h1 h2 h3 h4
  | osl0 A b k o => intro he ha; cases a <;> simp at he; obtain ⟨rfl, rfl, rfl, rfl⟩ := he; exact .osl0 A _ _ _
  | fn hf hc _ _ ih1 ih2 =>
    intro he ha
    cases a <;> simp at he
    obtain ⟨rfl, rfl, rfl⟩ := he
    rw [names_fn, Bool.and_eq_true, List.all_eq_true, List.all_eq_true] at ha
    exact .fn (by simpa using hf) (by simpa using hc) (fun i x y hx hy => ih1 i x _ hx (by rw [List.getElem?_map, hy]; rfl) rfl (ha.1 _ (List.mem_of_getElem? hy))) (fun i x y hx hy => ih2 i x _ hx (by rw [List.getElem?_map, hy]; rfl) rfl (ha.2 _ (List.mem_of_getElem? hy)))
  | agg hn _ ih =>
    intro he ha
    cases a <;> simp at he
    subst he
    rw [names_agg, List.all_eq_true] at ha
    exact .agg (by simpa using hn) fun i x y hx hy => ih i x _ hx (by rw [List.getElem?_map, hy]; rfl) rfl (ha _ (List.mem_of_getElem? hy))
  | tup hn _ ih =>
    intro he ha
    cases a <;> simp at he
    subst he
    rw [names_tup, List.all_eq_true] at ha
    exact .tup (by simpa using hn) fun i x y hx hy => ih i x _ hx (by rw [List.getElem?_map, hy]; rfl) rfl (ha _ (List.mem_of_getElem? hy))
  | iface _ ih =>
    intro he ha
    cases a <;> simp at he
    obtain ⟨rfl, rfl⟩ := he
    rw [names_iface] at ha
    exact .iface (ih rfl ha)
  | iffT _ ih =>
    intro he ha
    cases a <;> simp at he
    obtain ⟨rfl, rfl⟩ := he
    rw [names_iff] at ha
    exact .iffT (ih rfl ha)
  | iffF a' =>
    intro he ha
    cases a <;> simp at he
    obtain ⟨rfl, rfl⟩ := he
    exact .iffF _
  | bit h => intro he ha; cases a <;> simp at he; exact .bit fun hb => he.1 (h hb)
end

end Go.Proofs.Ytjplhfmakghabaa.V
