/- Abstract values: what is known of a value in memory, as plain data; how they stand to values and worlds. Abstract states: what is known of temporaries and of the call's own blocks; the rules of the code's words. Operations on abstract states; regions in text order, and in every order that the edges allow. The operations: that each does to memory what it does to what is known of it. Operations that make, or write, blocks of the call's own. -/
import Derived.Test.YtkonljmmdifnaaaGreatRows
import Derived.WalkKit
import Derived.WalkSpells
import Derived.WalkLawsBesides
import Derived.Deep.QuietTactic
import Derived.BigQuiet
import Derived.Lib.Hide
import Derived.Sort.LoopGhostIn
import Derived.OrdersIn
import Derived.TacticsIn
import Derived.RangeFuncLeaves
import Derived.RangeFuncFrom
import Derived.Orders
import Derived.Still
set_option linter.unusedSimpArgs false
set_option linter.unusedVariables false
namespace Go.Proofs.YtkonljmmdifnaaaGreat.V
open Go.RowKit

/-- What is known of a value. -/
inductive AV where
  | v (x : Value)
  | sl (full : Bool) (k : Nat) (l : List (List AV))
  | any
  | ptr (b off : Nat)
  | pp (l : List AV)
  | osl (b k off n : Nat)
  | fn (f : Fn) (first caps : List AV)
  | agg (l : List AV)
  | tup (l : List AV)
  | iface (t : TypeId) (x : AV)
  | iff (c : Bool) (x : AV)
  | bit (p : Prop)
  | mp (es : Array MapEntry) (c : Nat)

abbrev int (n : Int) : AV := .v (.int .i64 n)
abbrev bool (b : Bool) : AV := .v (.bool b)

/-- Plain data in memory that nobody writes: outside the blocks of M. -/
inductive RepD (M : Nat → Prop) (w : World) : Value → AV → Prop
  | v (x : Value) : RepD M w x (.v x)
  | sl {A : Option Addr} {n cap : Nat} {full : Bool} {k : Nat} {l : List (List AV)} (b off : Nat) (x : Nat → Nat → Value) (hn : n = l.length) (hc : n ≤ cap) (hm : cap ≤ maxLen) (hf : full = true → cap = n)
      (hk : ∀ row, row ∈ l → row.length = k) (hA : l ≠ [] → A = some ⟨b, off, none⟩ ∧ ¬ M b ∧ b < w.heap.size)
      (hl : ∀ i j, i < l.length → j < k → w.cell? ⟨b, off + i * k + j, none⟩ = some (x i j) ∧ (x i j).oneCell' = true)
      (hx : ∀ (i : Nat) (row : List AV) (j : Nat) (y : AV), l[i]? = some row → row[j]? = some y → RepD M w (x i j) y) : RepD M w (.slice A n cap) (.sl full k l)
  | agg {vs : Array Value} {l : List AV} (hn : vs.size = l.length) (h : ∀ (i : Nat) (x : Value) (y : AV), vs[i]? = some x → l[i]? = some y → RepD M w x y) : RepD M w (.agg vs) (.agg l)
  | tup {vs : Array Value} {l : List AV} (hn : vs.size = l.length) (h : ∀ (i : Nat) (x : Value) (y : AV), vs[i]? = some x → l[i]? = some y → RepD M w x y) : RepD M w (.tuple vs) (.tup l)
  | pp {g off : Nat} {l : List AV} (x : Nat → Value) (hM : ¬ M g) (hg : g < w.heap.size) (hl : ∀ j, j < l.length → w.cell? ⟨g, off + j, none⟩ = some (x j) ∧ (x j).oneCell' = true)
      (hx : ∀ (j : Nat) (y : AV), l[j]? = some y → RepD M w (x j) y) : RepD M w (.pointer (some ⟨g, off, none⟩)) (.pp l)
  | fn {f : Fn} {fs cs : Array Value} {lf lc : List AV} (hf : fs.size = lf.length) (hc : cs.size = lc.length) (h1 : ∀ (i : Nat) (x : Value) (y : AV), fs[i]? = some x → lf[i]? = some y → RepD M w x y)
      (h2 : ∀ (i : Nat) (x : Value) (y : AV), cs[i]? = some x → lc[i]? = some y → RepD M w x y) : RepD M w (.func f fs cs) (.fn f lf lc)
  | mp {r c : Nat} {es : Array MapEntry} (hM : ¬ M r) (hr : w.heap[r]? = some (.map es c)) : RepD M w (.map (some r)) (.mp es c)

/-- Values, with what points into the call's own blocks: name b lies in block 'ι b'. -/
inductive RepA (ι : Nat → Option Nat) (M : Nat → Prop) (w : World) : Value → AV → Prop
  | d {v : Value} {a : AV} (h : RepD M w v a) : RepA ι M w v a
  | any (v : Value) : RepA ι M w v .any
  | ptr {b g off : Nat} (h : ι b = some g) : RepA ι M w (.pointer (some ⟨g, off, none⟩)) (.ptr b off)
  | osl {b g k off n cap : Nat} {c : Array Value} {t : TypeId} (h : ι b = some g) (hn : n ≤ cap) (hm : cap ≤ maxLen) (hh : w.heap[g]? = some (.cells c t (0, 0))) (hs : off + cap * k = c.size) :
      RepA ι M w (.slice (some ⟨g, off, none⟩) n cap) (.osl b k off n)
  | osl0 (A : Option Addr) (b k off : Nat) : RepA ι M w (.slice A 0 0) (.osl b k off 0)
  | fn {f : Fn} {fs cs : Array Value} {lf lc : List AV} (hf : fs.size = lf.length) (hc : cs.size = lc.length) (h1 : ∀ (i : Nat) (x : Value) (y : AV), fs[i]? = some x → lf[i]? = some y → RepA ι M w x y)
      (h2 : ∀ (i : Nat) (x : Value) (y : AV), cs[i]? = some x → lc[i]? = some y → RepA ι M w x y) : RepA ι M w (.func f fs cs) (.fn f lf lc)
  | agg {vs : Array Value} {l : List AV} (hn : vs.size = l.length) (h : ∀ (i : Nat) (x : Value) (y : AV), vs[i]? = some x → l[i]? = some y → RepA ι M w x y) : RepA ι M w (.agg vs) (.agg l)
  | tup {vs : Array Value} {l : List AV} (hn : vs.size = l.length) (h : ∀ (i : Nat) (x : Value) (y : AV), vs[i]? = some x → l[i]? = some y → RepA ι M w x y) : RepA ι M w (.tuple vs) (.tup l)
  | iface {t : TypeId} {v : Value} {a : AV} (h : RepA ι M w v a) : RepA ι M w (.iface t v) (.iface t a)
  | iffT {v : Value} {a : AV} (h : RepA ι M w v a) : RepA ι M w v (.iff true a)
  | iffF (a : AV) : RepA ι M w undef (.iff false a)
  | bit {b : Bool} {p : Prop} (h : b = true → p) : RepA ι M w (.bool b) (.bit p)

/-- How a world may go on: blocks of cells keep their sizes. -/
structure Evo (w w' : World) : Prop where
  size : w.heap.size ≤ w'.heap.size
  cells : ∀ (g : Nat) (c : Array Value) (t : TypeId), w.heap[g]? = some (Obj.cells c t (0, 0)) → ∃ c' : Array Value, w'.heap[g]? = some (.cells c' t (0, 0)) ∧ c'.size = c.size

theorem Evo.refl (w : World) : Evo w w := ⟨Nat.le_refl _, fun _ c _ h => ⟨c, h, rfl⟩⟩
theorem Evo.trans {a b c : World} (h : Evo a b) (k : Evo b c) : Evo a c :=
  ⟨Nat.le_trans h.size k.size, fun g x t hx => by
    obtain ⟨y, hy, hs⟩ := h.cells g x t hx
    obtain ⟨z, hz, hs'⟩ := k.cells g y t hy
    exact ⟨z, hz, hs'.trans hs⟩⟩

section
variable {M M' : Nat → Prop} {w w' : World} {ι ι' : Nat → Option Nat}

/-- What nobody writes stays. -/
theorem RepD.keep (hM : ∀ g, g < w.heap.size → M' g → M g) (hs : w.heap.size ≤ w'.heap.size) (hb : ∀ g, g < w.heap.size → ¬ M g → w'.heap[g]? = w.heap[g]?) {v : Value} {a : AV} (h : RepD M w v a) : RepD M' w' v a := by
  induction h with
  | v x => exact .v x
  | @sl A n cap full k l b off x hn hc hm hf hk hA hl hx ih =>
    refine .sl b off x hn hc hm hf hk (fun h => ?_) (fun i j hi hj => ?_) ih
    · obtain ⟨h1, h2, h3⟩ := hA h
      exact ⟨h1, fun h => h2 (hM _ h3 h), Nat.lt_of_lt_of_le h3 hs⟩
    · obtain ⟨h1, h2, h3⟩ := hA (by rintro rfl; simp at hi)
      rw [World.cell?_of_block (w := w) (hb b h3 h2)]
      exact hl i j hi hj
  | agg hn _ ih => exact .agg hn ih
  | tup hn _ ih => exact .tup hn ih
  | @pp g off l x hM' hg hl hx ih =>
    refine .pp x (fun h => hM' (hM _ hg h)) (Nat.lt_of_lt_of_le hg hs) (fun j hj => ?_) ih
    rw [World.cell?_of_block (w := w) (hb g hg hM')]
    exact hl j hj
  | fn hf hc _ _ ih1 ih2 => exact .fn hf hc ih1 ih2
  | @mp r c es hM' hr =>
    have hlt := (Array.getElem?_eq_some_iff.1 hr).1
    exact .mp (fun h => hM' (hM _ hlt h)) (by rw [hb r hlt hM']; exact hr)

theorem RepA.keep (hι : ∀ b g, ι b = some g → ι' b = some g) (hM : ∀ g, g < w.heap.size → M' g → M g) (he : Evo w w') (hb : ∀ g, g < w.heap.size → ¬ M g → w'.heap[g]? = w.heap[g]?) {v : Value} {a : AV} (h : RepA ι M w v a) : RepA ι' M' w' v a := by
  induction h with
  | d h => exact .d (h.keep hM he.size hb)
  | any v => exact .any v
  | ptr h => exact .ptr (hι _ _ h)
  | osl h hn hm hh hs =>
    obtain ⟨c', hc', hs'⟩ := he.cells _ _ _ hh
    exact .osl (hι _ _ h) hn hm hc' (hs.trans hs'.symm)
  | osl0 A b k o => exact .osl0 A b k o
  | fn hf hc _ _ ih1 ih2 => exact .fn hf hc ih1 ih2
  | agg hn _ ih => exact .agg hn ih
  | tup hn _ ih => exact .tup hn ih
  | iface _ ih => exact .iface ih
  | iffT _ ih => exact .iffT ih
  | iffF a => exact .iffF a
  | bit h => exact .bit h

/-- No pointer into the call's own blocks is in it. -/
def AV.isData : AV → Bool
  | .v _ => true
  | .sl .. => true
  | .agg l => l.attach.all fun ⟨x, _⟩ => x.isData
  | .tup l => l.attach.all fun ⟨x, _⟩ => x.isData
  | .pp _ => true
  | .mp .. => true
  | .fn _ l m => (l.attach.all fun ⟨x, _⟩ => x.isData) && m.attach.all fun ⟨x, _⟩ => x.isData
  | _ => false

@[simp] theorem isData_v (x : Value) : (AV.v x).isData = true := by simp [AV.isData]
@[simp] theorem isData_sl (f : Bool) (k : Nat) (l : List (List AV)) : (AV.sl f k l).isData = true := by simp [AV.isData]
@[simp] theorem isData_agg (l : List AV) : (AV.agg l).isData = l.all AV.isData := by
  rw [AV.isData]; simp [List.all_eq, List.attach]
@[simp] theorem isData_tup (l : List AV) : (AV.tup l).isData = l.all AV.isData := by
  rw [AV.isData]; simp [List.all_eq, List.attach]

@[simp] theorem isData_mp (es : Array MapEntry) (c : Nat) : (AV.mp es c).isData = true := by simp [AV.isData]
@[simp] theorem isData_pp (l : List AV) : (AV.pp l).isData = true := by simp [AV.isData]
@[simp] theorem isData_fn (f : Fn) (l m : List AV) : (AV.fn f l m).isData = (l.all AV.isData && m.all AV.isData) := by
  rw [AV.isData]; simp [List.all_eq, List.attach]

theorem RepA.toD {v : Value} {a : AV} (h : RepA ι M w v a) (ha : a.isData = true) : RepD M w v a := by
  induction h with
  | d h => exact h
  | agg hn _ ih =>
    rw [isData_agg, List.all_eq_true] at ha
    exact .agg hn fun i x y hx hy => ih i x y hx hy (ha _ (List.mem_of_getElem? hy))
  | tup hn _ ih =>
    rw [isData_tup, List.all_eq_true] at ha
    exact .tup hn fun i x y hx hy => ih i x y hx hy (ha _ (List.mem_of_getElem? hy))
  | fn hf hc _ _ ih1 ih2 =>
    rw [isData_fn, Bool.and_eq_true, List.all_eq_true, List.all_eq_true] at ha
    exact .fn hf hc (fun i x y hx hy => ih1 i x y hx hy (ha.1 _ (List.mem_of_getElem? hy))) (fun i x y hx hy => ih2 i x y hx hy (ha.2 _ (List.mem_of_getElem? hy)))
  | _ => simp [AV.isData] at ha

/-- The same with other names. -/
def AV.ren (r : Nat → Nat) : AV → AV
  | .ptr b o => .ptr (r b) o
  | .osl b k o n => .osl (r b) k o n
  | .fn f lf lc => .fn f (lf.attach.map fun ⟨x, _⟩ => x.ren r) (lc.attach.map fun ⟨x, _⟩ => x.ren r)
  | .agg l => .agg (l.attach.map fun ⟨x, _⟩ => x.ren r)
  | .tup l => .tup (l.attach.map fun ⟨x, _⟩ => x.ren r)
  | .iface t x => .iface t (x.ren r)
  | .iff c x => .iff c (x.ren r)
  | x => x

/-- Names that stand in it are names of f. -/
def AV.names (f : Nat → Bool) : AV → Bool
  | .ptr b _ => f b
  | .osl b .. => f b
  | .fn _ lf lc => (lf.attach.all fun ⟨x, _⟩ => x.names f) && (lc.attach.all fun ⟨x, _⟩ => x.names f)
  | .agg l => l.attach.all fun ⟨x, _⟩ => x.names f
  | .tup l => l.attach.all fun ⟨x, _⟩ => x.names f
  | .iface _ x => x.names f
  | .iff _ x => x.names f
  | _ => true

section
variable {r : Nat → Nat} {p : Nat → Bool}
@[simp] theorem ren_v (x : Value) : (AV.v x).ren r = .v x := by simp [AV.ren]
@[simp] theorem ren_mp (es : Array MapEntry) (c : Nat) : (AV.mp es c).ren r = .mp es c := by simp [AV.ren]
@[simp] theorem names_mp (es : Array MapEntry) (c : Nat) : (AV.mp es c).names p = true := by simp [AV.names]
@[simp] theorem ren_bit (p : Prop) : (AV.bit p).ren r = .bit p := by simp [AV.ren]
@[simp] theorem names_bit (q : Prop) : (AV.bit q).names p = true := by simp [AV.names]
@[simp] theorem ren_any : AV.any.ren r = .any := by simp [AV.ren]
@[simp] theorem ren_sl (f : Bool) (k : Nat) (l : List (List AV)) : (AV.sl f k l).ren r = .sl f k l := by simp [AV.ren]
@[simp] theorem ren_pp (l : List AV) : (AV.pp l).ren r = .pp l := by simp [AV.ren]
@[simp] theorem ren_ptr (b o : Nat) : (AV.ptr b o).ren r = .ptr (r b) o := by simp [AV.ren]
@[simp] theorem ren_osl (b k o m : Nat) : (AV.osl b k o m).ren r = .osl (r b) k o m := by simp [AV.ren]
@[simp] theorem ren_agg (l : List AV) : (AV.agg l).ren r = .agg (l.map (AV.ren r)) := by rw [AV.ren]; simp
@[simp] theorem ren_tup (l : List AV) : (AV.tup l).ren r = .tup (l.map (AV.ren r)) := by rw [AV.ren]; simp
@[simp] theorem ren_fn (f : Fn) (l m : List AV) : (AV.fn f l m).ren r = .fn f (l.map (AV.ren r)) (m.map (AV.ren r)) := by rw [AV.ren]; simp
@[simp] theorem ren_iface (t : TypeId) (x : AV) : (AV.iface t x).ren r = .iface t (x.ren r) := by simp [AV.ren]
@[simp] theorem ren_iff (c : Bool) (x : AV) : (AV.iff c x).ren r = .iff c (x.ren r) := by simp [AV.ren]
@[simp] theorem names_iff (c : Bool) (x : AV) : (AV.iff c x).names p = x.names p := by simp [AV.names]
@[simp] theorem names_v (x : Value) : (AV.v x).names p = true := by simp [AV.names]
@[simp] theorem names_any : AV.any.names p = true := by simp [AV.names]
@[simp] theorem names_sl (f : Bool) (k : Nat) (l : List (List AV)) : (AV.sl f k l).names p = true := by simp [AV.names]
@[simp] theorem names_pp (l : List AV) : (AV.pp l).names p = true := by simp [AV.names]
@[simp] theorem names_ptr (b o : Nat) : (AV.ptr b o).names p = p b := by simp [AV.names]
@[simp] theorem names_osl (b k o m : Nat) : (AV.osl b k o m).names p = p b := by simp [AV.names]
@[simp] theorem names_agg (l : List AV) : (AV.agg l).names p = l.all (AV.names p) := by
  rw [AV.names]; simp [List.all_eq, List.attach]
@[simp] theorem names_tup (l : List AV) : (AV.tup l).names p = l.all (AV.names p) := by
  rw [AV.names]; simp [List.all_eq, List.attach]
@[simp] theorem names_fn (f : Fn) (l m : List AV) : (AV.fn f l m).names p = (l.all (AV.names p) && m.all (AV.names p)) := by
  rw [AV.names]; simp [List.all_eq, List.attach]
@[simp] theorem names_iface (t : TypeId) (x : AV) : (AV.iface t x).names p = x.names p := by simp [AV.names]
end

/-- The blocks of names that are kept, under their new names. -/
def cutTo (p : Nat → Bool) (r : Nat → Nat) (ι : Nat → Option Nat) : Nat → Option Nat := fun b => if p b then ι (r b) else none

theorem map_inv {r : Nat → Nat} {vs : Array Value} {l l0 : List AV} (hn : vs.size = l.length) (he : l = l0.map (AV.ren r)) (ih : ∀ (i : Nat) (x : Value) (y : AV), vs[i]? = some x → l[i]? = some y → ∀ {a : AV}, y = a.ren r → a = y) : l0 = l := by
  apply List.ext_getElem?
  intro i
  by_cases hi : i < l.length
  · have h1 := List.getElem?_eq_getElem hi
    have h2 : l0[i]? = some (l0[i]'(by subst he; simpa using hi)) := List.getElem?_eq_getElem _
    have h3 : l[i] = (l0[i]'(by subst he; simpa using hi)).ren r := by subst he; simp
    rw [h1, h2]
    exact congrArg some (ih i _ _ (Array.getElem?_eq_getElem (by omega)) h1 h3)
  · have : l0.length = l.length := by subst he; simp
    rw [List.getElem?_eq_none (by omega), List.getElem?_eq_none (by omega)]

theorem RepD.ren_inv {r : Nat → Nat} {v : Value} {a' : AV} (h : RepD M w v a') : ∀ {a : AV}, a' = a.ren r → a = a' := by
  induction h with
  | v x => intro a he; cases a <;> simp at he; subst he; rfl
  | sl => intro a he; cases a <;> simp at he; obtain ⟨rfl, rfl, rfl⟩ := he; rfl
  | pp => intro a he; cases a <;> simp at he; subst he; rfl
  | mp => intro a he; cases a <;> simp at he; obtain ⟨rfl, rfl⟩ := he; rfl
  | agg hn _ ih => intro a he; cases a <;> simp at he; rw [map_inv hn he ih]
  | tup hn _ ih => intro a he; cases a <;> simp at he; rw [map_inv hn he ih]
  | fn hf hc _ _ ih1 ih2 => intro a he; cases a <;> simp at he; obtain ⟨rfl, h1, h2⟩ := he; rw [map_inv hf h1 ih1, map_inv hc h2 ih2]

theorem RepA.cut {p : Nat → Bool} {r : Nat → Nat} : ∀ {v : Value} {a a' : AV}, RepA ι M w v a' → a' = a.ren r → a.names p = true → RepA (cutTo p r ι) M w v a := by
  intro v a a' h
  induction h generalizing a with
  | @d v a' h => intro he _; rw [h.ren_inv he]; exact .d h
  | any v => intro he ha; cases a <;> simp at he; exact .any v
  | ptr h => intro he ha; cases a <;> simp at he; obtain ⟨rfl, rfl⟩ := he; simp at ha; exact .ptr (by simp [cutTo, ha, h])
  | osl h h1 h2 h3 h4 => intro he ha; cases a <;> simp at he; obtain ⟨rfl, rfl, rfl, rfl⟩ := he; simp at ha; exact .osl (by simp [cutTo, ha, h]) h1 h2 h3 h4
  | osl0 A b k o => intro he ha; cases a <;> simp at he; obtain ⟨rfl, rfl, rfl, rfl⟩ := he; exact .osl0 A _ _ _
  | fn hf hc _ _ ih1 ih2 =>
    intro he ha
    cases a <;> simp at he
    obtain ⟨rfl, rfl, rfl⟩ := he
    rw [names_fn, Bool.and_eq_true, List.all_eq_true, List.all_eq_true] at ha
    exact .fn (by simpa using hf) (by simpa using hc) (fun i x y hx hy => ih1 i x _ hx (by rw [List.getElem?_map, hy]; rfl) rfl (ha.1 _ (List.mem_of_getElem? hy))) (fun i x y hx hy => ih2 i x _ hx (by rw [List.getElem?_map, hy]; rfl) rfl (ha.2 _ (List.mem_of_getElem? hy)))
  | agg hn _ ih =>
    intro he ha
    cases a <;> simp at he
    subst he
    rw [names_agg, List.all_eq_true] at ha
    exact .agg (by simpa using hn) fun i x y hx hy => ih i x _ hx (by rw [List.getElem?_map, hy]; rfl) rfl (ha _ (List.mem_of_getElem? hy))
  | tup hn _ ih =>
    intro he ha
    cases a <;> simp at he
    subst he
    rw [names_tup, List.all_eq_true] at ha
    exact .tup (by simpa using hn) fun i x y hx hy => ih i x _ hx (by rw [List.getElem?_map, hy]; rfl) rfl (ha _ (List.mem_of_getElem? hy))
  | iface _ ih =>
    intro he ha
    cases a <;> simp at he
    obtain ⟨rfl, rfl⟩ := he
    rw [names_iface] at ha
    exact .iface (ih rfl ha)
  | iffT _ ih =>
    intro he ha
    cases a <;> simp at he
    obtain ⟨rfl, rfl⟩ := he
    rw [names_iff] at ha
    exact .iffT (ih rfl ha)
  | iffF a' =>
    intro he ha
    cases a <;> simp at he
    obtain ⟨rfl, rfl⟩ := he
    exact .iffF _
  | bit h => intro he ha; cases a <;> simp at he; exact .bit fun hb => he.1 (h hb)
end

end Go.Proofs.YtkonljmmdifnaaaGreat.V
set_option linter.unusedSimpArgs false
set_option linter.unusedVariables false
namespace Go.Proofs.YtkonljmmdifnaaaGreat.V
open Go.RowKit

/-- A block of the call's own: its elements' type, what its first cells hold. -/
structure Bx where
  t : TypeId
  cs : List AV

structure AS where
  env : Nat → AV
  box : Nat → Option Bx
  used : Nat → Prop

/-- A call: the world in which it began, the blocks of its caller's that it may write, those that it must leave to others, how many temporaries it has, of which round its frame is, where its caller's boxes lie. -/
structure Cx where
  w0 : World
  G : Nat → Prop
  M0 : Nat → Prop
  N : Nat
  R : Option Nat
  F : Nat → Option Nat

/-- The fence within which a frame walks: none but the round. -/
def fen (r : Option Nat) : Fence := { fn := fun _ => True, depth := none, alive := false, round := r }

abbrev Cx.base (cx : Cx) : Nat := cx.w0.heap.size

theorem fen_calls {r : Option Nat} {n : Nat} {P : Program} {f : FuncId} {args : Array Value} {w : World} {R : Ending → World → Prop} : CallsIn (fen r) n P f args w R ↔ Calls P f args w R := callsIn_wide (n := n)
theorem fen_rows {r : Option Nat} {n : Nat} {P : Program} {row : String} {args : Array Value} {w : World} {R : Value → World → Prop} : RowsIn (fen r) n P row args w R ↔ Rows P row args w R :=
  ⟨fun h c cs => let ⟨v, w', q, s⟩ := h c cs (room_wide _); ⟨v, w', q, s.steps⟩, fun h c cs _ => let ⟨v, w', q, s⟩ := h c cs; ⟨v, w', q, stepsIn_wide.2 s⟩⟩

def Mof (cx : Cx) (ι : Nat → Option Nat) (box : Nat → Option Bx) (g : Nat) : Prop := cx.M0 g ∨ ∃ b x, box b = some x ∧ ι b = some g

/-- An object that is a block of cells. -/
def isC : Obj → Bool
  | .cells .. => true
  | .map .. => true
  | _ => false

/-- What is no block of cells stays. -/
def Oth (w w' : World) : Prop := ∀ (g : Nat) (o : Obj), w.heap[g]? = some o → isC o = false → w'.heap[g]? = some o

theorem Oth.refl (w : World) : Oth w w := fun _ _ h _ => h
theorem Oth.trans {a b c : World} (h : Oth a b) (k : Oth b c) : Oth a c := fun g o h1 h2 => k g o (h g o h1 h2) h2

/-- What the call has done to the world. -/
structure Within (cx : Cx) (w : World) : Prop where
  os : w.os = cx.w0.os
  tape : w.tape = cx.w0.tape
  output : w.output = cx.w0.output
  evo : Evo cx.w0 w
  oth : Oth cx.w0 w
  block : ∀ k, k < cx.base → ¬ cx.G k → w.heap[k]? = cx.w0.heap[k]?

def BoxRep (ι : Nat → Option Nat) (M : Nat → Prop) (w : World) (g : Nat) (x : Bx) : Prop :=
  ∃ c : Array Value, w.heap[g]? = some (.cells c x.t (0, 0)) ∧ x.cs.length ≤ c.size ∧ ∀ (j : Nat) (v : Value) (y : AV), c[j]? = some v → x.cs[j]? = some y → v.oneCell' = true ∧ RepA ι M w v y

structure HSat (cx : Cx) (ι : Nat → Option Nat) (box : Nat → Option Bx) (used : Nat → Prop) (w : World) : Prop where
  wi : Within cx w
  m0 : ∀ g, cx.M0 g → g < cx.base
  fix : ∀ b g, cx.F b = some g → ι b = some g
  dom : ∀ b g, ι b = some g → used b ∧ g < w.heap.size
  ub : ∀ b x, box b = some x → used b
  own : ∀ b x, box b = some x → (x.cs = [] ∧ ι b = none) ∨ ∃ g, ι b = some g ∧ (cx.base ≤ g ∨ cx.G g) ∧ ¬ cx.M0 g ∧ BoxRep ι (Mof cx ι box) w g x
  inj : ∀ b b' x x' g, box b = some x → box b' = some x' → ι b = some g → ι b' = some g → b = b'

/-- No deferred call but the marks of ranges over functions. -/
def Marks (cx : Cx) (w : World) : List Deferred → Prop
  | [] => True
  | d :: l => (∃ D, d = { target := .collected D, args := #[] } ∧ cx.base ≤ D ∧ w.heap[D]? = some (.deferred (some [])) ∧ ∀ d', d' ∈ l → d' ≠ { target := .collected D, args := #[] }) ∧ Marks cx w l

structure Sat (cx : Cx) (ι : Nat → Option Nat) (A : AS) (a : Act) (w : World) : Prop where
  h : HSat cx ι A.box A.used w
  size : a.tmps.size = cx.N
  defers : Marks cx w a.defers
  env : ∀ t, RepA ι (Mof cx ι A.box) w (a.tmps.getD t undef) (A.env t)

theorem HSat.ne {cx : Cx} {ι : Nat → Option Nat} {box : Nat → Option Bx} {used : Nat → Prop} {w : World} (h : HSat cx ι box used w) {b : Nat} {x : Bx} (hb : box b = some x) (hne : x.cs ≠ []) :
    ∃ g, ι b = some g ∧ (cx.base ≤ g ∨ cx.G g) ∧ ¬ cx.M0 g ∧ BoxRep ι (Mof cx ι box) w g x := by
  rcases h.own b x hb with ⟨h1, -⟩ | h1
  · exact absurd h1 hne
  · exact h1

def AWp (P : Program) (cx : Cx) (c : Code) (Q : Exit → AS → Prop) (A : AS) : Prop :=
  ∀ ι a w, Sat cx ι A a w → c.wpIn (fen cx.R) 9 P (fun e a' w' => ∃ ι' A', Sat cx ι' A' a' w' ∧ Q e A') a w

section
variable {P : Program} {cx : Cx} {A : AS}

theorem AWp.mono {c : Code} {Q Q' : Exit → AS → Prop} (h : AWp P cx c Q A) (hq : ∀ e A, Q e A → Q' e A) : AWp P cx c Q' A :=
  fun ι a w hs => wpIn_mono (h ι a w hs) fun _ _ _ ⟨ι', A', h1, h2⟩ => ⟨ι', A', h1, hq _ _ h2⟩

theorem awp_skip {Q : Exit → AS → Prop} (h : Q .normal A) : AWp P cx .skip Q A := fun ι a w hs => wpIn_skip ⟨ι, A, hs, h⟩
theorem awp_label {Q : Exit → AS → Prop} {l : Nat} (h : Q .normal A) : AWp P cx (.label l) Q A := fun ι a w hs => wpIn_label ⟨ι, A, hs, h⟩
theorem awp_exit {Q : Exit → AS → Prop} {id : Nat} (h : Q (.exit id) A) : AWp P cx (.exit id) Q A := fun ι a w hs => wpIn_exit ⟨ι, A, hs, h⟩
theorem awp_ret {Q : Exit → AS → Prop} (h : Q .ret A) : AWp P cx .ret Q A := fun ι a w hs => wpIn_ret ⟨ι, A, hs, h⟩

def athen (next : AS → Prop) (Q : Exit → AS → Prop) : Exit → AS → Prop
  | .normal, A => next A
  | e, A => Q e A
theorem awp_seq {x y : Code} {Q : Exit → AS → Prop} (h : AWp P cx x (athen (AWp P cx y Q) Q) A) : AWp P cx (.seq x y) Q A := by
  intro ι a w hs
  refine wpIn_seq (wpIn_mono (h ι a w hs) ?_)
  rintro e a' w' ⟨ι', A', h1, h2⟩
  cases e with
  | normal => exact h2 ι' a' w' h1
  | _ => exact ⟨ι', A', h1, h2⟩
theorem awp_seq_k {x y : Code} {Q : Exit → AS → Prop} (h : ∀ K : AS → Prop, (∀ A, AWp P cx y Q A → K A) → AWp P cx x (athen K Q) A) : AWp P cx (.seq x y) Q A := awp_seq (h _ fun _ h => h)

def ainBlock (id : Nat) (Q : Exit → AS → Prop) : Exit → AS → Prop
  | .exit id', A => if id' = id then Q .normal A else Q (.exit id') A
  | e, A => Q e A
theorem awp_block {id : Nat} {c : Code} {Q : Exit → AS → Prop} (h : AWp P cx c (ainBlock id Q) A) : AWp P cx (.block id c) Q A := by
  intro ι a w hs
  refine wpIn_block (wpIn_mono (h ι a w hs) ?_)
  rintro e a' w' ⟨ι', A', h1, h2⟩
  cases e with
  | exit id' =>
    simp only [ainBlock] at h2
    simp only [Exit.inBlock]
    split <;> rename_i hh <;> simp only [hh, if_true, if_false] at h2 <;> exact ⟨ι', A', h1, h2⟩
  | _ => exact ⟨ι', A', h1, h2⟩

def AS.eval (A : AS) : Operand → AV
  | .tmp t => A.env t
  | .const v => .v v
  | .global g => .v (.pointer (some ⟨g, 0, none⟩))
  | .func f => .v (.func (.func f) #[] #[])

theorem Sat.eval {ι : Nat → Option Nat} {a : Act} {w : World} (h : Sat cx ι A a w) (y : Operand) : RepA ι (Mof cx ι A.box) w (a.eval y) (A.eval y) := by
  cases y with
  | tmp t => exact h.env t
  | _ => exact .d (.v _)

theorem RepA.ofV {ι : Nat → Option Nat} {M : Nat → Prop} {w : World} {v x : Value} (h : RepA ι M w v (.v x)) : v = x := by
  cases h with
  | d h => cases h; rfl

theorem awp_cond {c : Operand} {x y : Code} {Q : Exit → AS → Prop} {b : Bool} (hc : A.eval c = .v (.bool b)) (ht : b = true → AWp P cx x Q A) (hf : b = false → AWp P cx y Q A) : AWp P cx (.cond c x y) Q A := by
  intro ι a w hs
  have h := hs.eval c
  rw [hc] at h
  exact wpIn_cond_split h.ofV (fun h => ht h ι a w hs) (fun h => hf h ι a w hs)

/-- Less is known. -/
structure Ent (A A' : AS) : Prop where
  env : ∀ t, A'.env t = .any ∨ A'.env t = A.env t
  box : ∀ b x, A'.box b = some x → A.box b = some x
  used : ∀ b, A.used b → A'.used b

theorem Mof.mono {ι : Nat → Option Nat} {box box' : Nat → Option Bx} (h : ∀ b x, box' b = some x → box b = some x) {g : Nat} : Mof cx ι box' g → Mof cx ι box g
  | .inl h => .inl h
  | .inr ⟨b, x, h1, h2⟩ => .inr ⟨b, x, h b x h1, h2⟩

theorem RepA.less {ι : Nat → Option Nat} {M M' : Nat → Prop} {w : World} (hM : ∀ g, M' g → M g) {v : Value} {y : AV} (h : RepA ι M w v y) : RepA ι M' w v y :=
  h.keep (fun _ _ h => h) (fun g _ h => hM g h) (Evo.refl w) (fun _ _ _ => rfl)

theorem Sat.ent {ι : Nat → Option Nat} {A' : AS} {a : Act} {w : World} (h : Sat cx ι A a w) (he : Ent A A') : Sat cx ι A' a w where
  h := {
    wi := h.h.wi
    m0 := h.h.m0
    fix := h.h.fix
    dom := fun b g hb => ⟨he.used b (h.h.dom b g hb).1, (h.h.dom b g hb).2⟩
    ub := fun b x hb => he.used b (h.h.ub b x (he.box b x hb))
    own := fun b x hb => by
      rcases h.h.own b x (he.box b x hb) with h1 | ⟨g, h1, h2, h3, c, h4, h5, h6⟩
      · exact .inl h1
      exact .inr ⟨g, h1, h2, h3, c, h4, h5, fun j v y hv hy => ⟨(h6 j v y hv hy).1, (h6 j v y hv hy).2.less fun _ => Mof.mono he.box⟩⟩
    inj := fun b b' x x' g h1 h2 => h.h.inj b b' x x' g (he.box b x h1) (he.box b' x' h2) }
  size := h.size
  defers := h.defers
  env := fun t => by
    rcases he.env t with h1 | h1
    · rw [h1]; exact .any _
    · rw [h1]; exact (h.env t).less fun _ => Mof.mono he.box

theorem awp_ent {c : Code} {Q : Exit → AS → Prop} {A' : AS} (he : Ent A A') (h : AWp P cx c Q A') : AWp P cx c Q A := fun ι a w hs => h ι a w (hs.ent he)

/-- Names that are not p's are free again; p's stand for r's. -/
structure Cut (cx : Cx) (p : Nat → Bool) (r : Nat → Nat) (A A' : AS) : Prop where
  env : ∀ t, A'.env t = .any ∨ (A.env t = (A'.env t).ren r ∧ (A'.env t).names p = true)
  box : ∀ b x, A'.box b = some x → A.box (r b) = some ⟨x.t, x.cs.map (AV.ren r)⟩ ∧ p b = true ∧ ∀ y, y ∈ x.cs → y.names p = true
  inj : ∀ b b' x x', A'.box b = some x → A'.box b' = some x' → r b = r b' → b = b'
  used : ∀ b, p b = true → A'.used b
  fix : ∀ b g, cx.F b = some g → p b = true ∧ r b = b

theorem Sat.cut {p : Nat → Bool} {r : Nat → Nat} {ι : Nat → Option Nat} {A' : AS} {a : Act} {w : World} (h : Sat cx ι A a w) (he : Cut cx p r A A') : Sat cx (cutTo p r ι) A' a w := by
  have hM : ∀ g, Mof cx (cutTo p r ι) A'.box g → Mof cx ι A.box g := by
    rintro g (h | ⟨b, x, h1, h2⟩)
    · exact .inl h
    · refine .inr ⟨r b, _, (he.box b x h1).1, ?_⟩
      simpa [cutTo, (he.box b x h1).2.1] using h2
  refine ⟨⟨h.h.wi, h.h.m0, fun b g hb => by simp [cutTo, (he.fix b g hb).1, (he.fix b g hb).2, h.h.fix b g hb], ?_, fun b x hx => he.used b (he.box b x hx).2.1, ?_, ?_⟩, h.size, h.defers, ?_⟩
  · intro b g hg
    simp only [cutTo] at hg
    split at hg
    · rename_i hlt; exact ⟨he.used b hlt, (h.h.dom _ g hg).2⟩
    · cases hg
  · intro b x hx
    obtain ⟨h0, hlt, hy⟩ := he.box b x hx
    rcases h.h.own _ _ h0 with ⟨h1, h2⟩ | ⟨g, h1, h2, h3, c, h4, h5, h6⟩
    · exact .inl ⟨by simpa using h1, by simp [cutTo, h2]⟩
    refine .inr ⟨g, by simp [cutTo, hlt, h1], h2, h3, c, h4, by simpa using h5, fun j v y hv hj => ?_⟩
    have := h6 j v (y.ren r) hv (by simp [hj])
    exact ⟨this.1, (this.2.less hM).cut rfl (hy y (List.mem_of_getElem? hj))⟩
  · intro b b' x x' g h1 h2 h3 h4
    obtain ⟨e1, e2, -⟩ := he.box b x h1
    obtain ⟨e3, e4, -⟩ := he.box b' x' h2
    simp only [cutTo, e2, e4, if_true] at h3 h4
    exact he.inj b b' x x' h1 h2 (h.h.inj _ _ _ _ g e1 e3 h3 h4)
  · intro t
    rcases he.env t with h1 | ⟨h1, h2⟩
    · rw [h1]; exact .any _
    · have := (h.env t).less hM
      exact this.cut h1 h2

theorem awp_cut {p : Nat → Bool} {r : Nat → Nat} {c : Code} {Q : Exit → AS → Prop} {A' : AS} (he : Cut cx p r A A') (h : AWp P cx c Q A') : AWp P cx c Q A := fun _ a w hs => h _ a w (hs.cut he)

/-- A loop: what is known at its head, for a value of σ; each round makes the measure less. -/
theorem awp_loop {σ : Type} {c : Code} {Q : Exit → AS → Prop} (I : σ → AS) (μ : σ → Nat) (p : Nat → Bool) (r : Nat → Nat) (s₀ : σ) (h₀ : Cut cx p r A (I s₀))
    (round : ∀ s, AWp P cx c (athen (fun A' => ∃ s' p' r', Cut cx p' r' A' (I s') ∧ μ s' < μ s) Q) (I s)) : AWp P cx (.loop c) Q A := by
  intro ι a w hs
  refine wpIn_loop_ghost (fun m a w => ∃ s ι, μ s = m ∧ Sat cx ι (I s) a w) (μ s₀) ⟨s₀, _, rfl, hs.cut h₀⟩ ?_
  rintro m a w ⟨s, ι, rfl, hs⟩
  refine wpIn_mono (round s ι a w hs) ?_
  rintro e a' w' ⟨ι', A', h1, h2⟩
  cases e with
  | normal =>
    obtain ⟨s', p', r', h3, h4⟩ := h2
    exact ⟨μ s', h4, s', _, rfl, h1.cut h3⟩
  | _ => exact ⟨ι', A', h1, h2⟩
end

end Go.Proofs.YtkonljmmdifnaaaGreat.V
set_option linter.unusedSimpArgs false
set_option linter.unusedVariables false
namespace Go.Proofs.YtkonljmmdifnaaaGreat.V
open Go.RowKit

/-- What an operation does: it looks at these boxes; it yields this; these boxes turn (none: given up). -/
structure OpS where
  fp : List (Nat × Bx)
  x : AV
  tb : List (Nat × Option Bx)

def bput (box : Nat → Option Bx) : List (Nat × Option Bx) → Nat → Option Bx
  | [] => box
  | (b, r) :: l => fun i => if i = b then r else bput box l i

theorem bput_not {box : Nat → Option Bx} {b : Nat} : ∀ {tb : List (Nat × Option Bx)}, (∀ r, (b, r) ∉ tb) → bput box tb b = box b
  | [], _ => rfl
  | (c, r) :: l, h => by
    have h1 : b ≠ c := by rintro rfl; exact h r (by simp)
    simp only [bput, h1, if_false]
    exact bput_not fun r hr => h r (by simp [hr])

theorem bput_congr {box box' : Nat → Option Bx} {b : Nat} (tb : List (Nat × Option Bx)) (h : box b = box' b) : bput box tb b = bput box' tb b := by
  induction tb with
  | nil => exact h
  | cons p l ih =>
    simp only [bput]
    split
    · rfl
    · exact ih

def eput (env : Nat → AV) (dst : Option Tmp) (x : AV) : Nat → AV :=
  match dst with
  | some d => fun t => if t = d then x else env t
  | none => env

def AS.app (A : AS) (dst : Option Tmp) (S : OpS) : AS := ⟨eput A.env dst S.x, bput A.box S.tb, fun b => A.used b ∨ ∃ r, (b, r) ∈ S.tb⟩

/-- The heap's part of a step. -/
structure Step (cx : Cx) (ι : Nat → Option Nat) (box : Nat → Option Bx) (used : Nat → Prop) (w : World) (ι' : Nat → Option Nat) (box' : Nat → Option Bx) (used' : Nat → Prop) (w' : World) : Prop where
  h : HSat cx ι' box' used' w'
  keep : ∀ v y, RepA ι (Mof cx ι box) w v y → RepA ι' (Mof cx ι' box') w' v y
  oth : Oth w w'

def Yields (P : Program) (cx : Cx) (o : Oper) (ρ : Operand → AV) (S : OpS) : Prop :=
  ∀ ι box (used : Nat → Prop) (a : Act) w, HSat cx ι box used w → True → (∀ b x, (b, x) ∈ S.fp → box b = some x) → (∀ b x, (b, some x) ∈ S.tb → (∃ y, (b, y) ∈ S.fp) ∨ ¬ used b) → (∀ y, y ∈ o.op.operands → RepA ι (Mof cx ι box) w (a.eval y) (ρ y)) →
    ∀ (K : Act → World → Prop) (Q : Exit → Act → World → Prop), (∀ v ι' w', Step cx ι box used w ι' (bput box S.tb) (fun b => used b ∨ ∃ r, (b, r) ∈ S.tb) w' → RepA ι' (Mof cx ι' (bput box S.tb)) w' v S.x → K (a.put o.dst v) w') → o.wp P a w K Q

theorem Yields.congr {P : Program} {cx : Cx} {o : Oper} {ρ ρ' : Operand → AV} {S : OpS} (h : Yields P cx o ρ S) (he : ∀ y, y ∈ o.op.operands → ρ' y = ρ y) : Yields P cx o ρ' S :=
  fun ι box used a w h1 h2 h3 h4 h5 => h ι box used a w h1 h2 h3 h4 fun y hy => by rw [← he y hy]; exact h5 y hy

/-- A step taken or passed over. -/
structure R where
  on : Bool
  S : OpS

def dstOf (ops : Array Oper) (j : Nat) : Option Tmp := (ops[j]?).bind (·.dst)

def GuardIs (ops : Array Oper) (o : Oper) (env : Nat → AV) (on : Bool) : Prop :=
  match o.guard with
  | none => on = true
  | some (j, want) => ∃ d c b, dstOf ops j = some d ∧ ((env d = .v (.bool b) ∧ c = true) ∨ env d = .iff c (.v (.bool b))) ∧ on = (c && (b == want))

structure StepOK (P : Program) (cx : Cx) (ops : Array Oper) (o : Oper) (A : AS) (r : R) : Prop where
  g : GuardIs ops o A.env r.on
  y : r.on = true → Yields P cx o A.eval r.S
  off : r.on = false → (∀ p, p ∈ r.S.tb → p.2 = none) ∧ ∀ ι M w, RepA ι M w undef r.S.x
  fp : ∀ b x, (b, x) ∈ r.S.fp → A.box b = some x
  fresh : ∀ b x, (b, some x) ∈ r.S.tb → (∃ y, (b, y) ∈ r.S.fp) ∨ ¬ A.used b
  dst : ∀ d, o.dst = some d → d < cx.N
  nd : ∀ c, o.op ≠ .defer c

section
variable {P : Program} {cx : Cx} {ops : Array Oper} {md : Region.Mode} {Q : Exit → Act → World → Prop}

theorem Act.getD_put {a : Act} {dst : Option Tmp} {v : Value} {t : Nat} (h : ∀ d, dst = some d → d < a.tmps.size) : (a.put dst v).tmps.getD t undef = if dst = some t then v else a.tmps.getD t undef := by
  cases dst with
  | none => simp [Act.put]
  | some d =>
    have hd := h d rfl
    simp only [Act.put, Option.some.injEq, Array.getD_eq_getD_getElem?]
    by_cases e : d = t
    · subst e; simp [hd]
    · simp [e]

theorem Act.size_put (a : Act) (dst : Option Tmp) (v : Value) : (a.put dst v).tmps.size = a.tmps.size := by
  cases dst <;> simp [Act.put]
theorem Act.defers_put (a : Act) (dst : Option Tmp) (v : Value) : (a.put dst v).defers = a.defers := by
  cases dst <;> simp [Act.put]

theorem Marks.keep {cx : Cx} {w w' : World} : ∀ {l : List Deferred}, Marks cx w l → Oth w w' → Marks cx w' l
  | [], _, _ => trivial
  | _ :: _, ⟨⟨D, h1, h2, h3, h4⟩, h⟩, ho => ⟨⟨D, h1, h2, ho _ _ h3 rfl, h4⟩, Marks.keep h ho⟩

theorem guard_wanted {o : Oper} {A : AS} {on : Bool} {ι : Nat → Option Nat} {a : Act} {w : World} (hs : Sat cx ι A a w) (h : GuardIs ops o A.env on) : Region.wanted o (yielded ops a.tmps) = on := by
  unfold GuardIs at h
  unfold Region.wanted
  cases hg : o.guard with
  | none => simp only [hg] at h; simp [h]
  | some jw =>
    obtain ⟨j, want⟩ := jw
    simp only [hg] at h
    obtain ⟨d, c, b, hd, he, rfl⟩ := h
    have h1 := hs.env d
    have hy : yielded ops a.tmps j = if c then some b else none := by
      have key : ∀ v, RepA ι (Mof cx ι A.box) w v (A.env d) → (c = true ∧ v = .bool b) ∨ (c = false ∧ v = undef) := fun v hv => by
        rcases he with ⟨he, rfl⟩ | he
        · rw [he] at hv; exact .inl ⟨rfl, hv.ofV⟩
        · rw [he] at hv
          cases hv with
          | d h => cases h
          | iffT h => exact .inl ⟨rfl, h.ofV⟩
          | iffF => exact .inr ⟨rfl, rfl⟩
      unfold yielded
      unfold dstOf at hd
      rw [hd]
      rcases key _ h1 with ⟨rfl, hv⟩ | ⟨rfl, hv⟩
      · have h3 : a.tmps[d]? = some (.bool b) := by
          rw [Array.getD_eq_getD_getElem?] at hv
          cases hx : a.tmps[d]? with
          | none => rw [hx] at hv; simp [undef] at hv
          | some x => rw [hx] at hv; simpa using hv
        simp [h3]
      · have h3 : a.tmps[d]? = none ∨ a.tmps[d]? = some undef := by
          rw [Array.getD_eq_getD_getElem?] at hv
          cases hx : a.tmps[d]? with
          | none => exact .inl rfl
          | some x => rw [hx] at hv; exact .inr (by simpa using hv)
        rcases h3 with h3 | h3 <;> simp [h3, undef]
    simp only [hy]
    cases c <;> cases b <;> cases want <;> rfl

theorem Sat.put {ι ι' : Nat → Option Nat} {A : AS} {a : Act} {w w' : World} {dst : Option Tmp} {S : OpS} {v : Value} (hs : Sat cx ι A a w) (hd : ∀ d, dst = some d → d < cx.N)
    (hst : Step cx ι A.box A.used w ι' (bput A.box S.tb) (fun b => A.used b ∨ ∃ r, (b, r) ∈ S.tb) w') (hv : RepA ι' (Mof cx ι' (bput A.box S.tb)) w' v S.x) : Sat cx ι' (A.app dst S) (a.put dst v) w' where
  h := hst.h
  size := by rw [Act.size_put, hs.size]
  defers := by rw [Act.defers_put]; exact hs.defers.keep hst.oth
  env := fun t => by
    rw [Act.getD_put (by rw [hs.size]; exact hd)]
    have h1 := hst.keep _ _ (hs.env t)
    cases dst with
    | none => simpa [AS.app, eput] using h1
    | some d =>
      simp only [AS.app, eput, Option.some.injEq]
      by_cases e : d = t
      · subst e; simp; exact hv
      · rw [if_neg e, if_neg (fun h => e h.symm)]; exact h1

theorem Step.refl {ι : Nat → Option Nat} {box : Nat → Option Bx} {used : Nat → Prop} {w : World} (h : HSat cx ι box used w) : Step cx ι box used w ι box used w := ⟨h, fun _ _ h => h, Oth.refl _⟩

theorem HSat.used_mono {ι : Nat → Option Nat} {box : Nat → Option Bx} {used used' : Nat → Prop} {w : World} (h : HSat cx ι box used w) (hu : ∀ b, used b → used' b) : HSat cx ι box used' w :=
  ⟨h.wi, h.m0, h.fix, fun b g hb => ⟨hu b (h.dom b g hb).1, (h.dom b g hb).2⟩, fun b x hb => hu b (h.ub b x hb), h.own, h.inj⟩

/-- Boxes are given up. -/
theorem step_nones {ι : Nat → Option Nat} {box : Nat → Option Bx} {used : Nat → Prop} {w : World} (hs : HSat cx ι box used w) {tb : List (Nat × Option Bx)} (h : ∀ p, p ∈ tb → p.2 = none) : Step cx ι box used w ι (bput box tb) (fun b => used b ∨ ∃ r, (b, r) ∈ tb) w := by
  have hb : ∀ b x, bput box tb b = some x → box b = some x := by
    clear hs
    induction tb with
    | nil => exact fun b x h => h
    | cons p l ih =>
      intro b x hx
      simp only [bput] at hx
      by_cases hbp : b = p.1
      · rw [if_pos hbp, h p (by simp)] at hx; cases hx
      · rw [if_neg hbp] at hx; exact ih (fun q hq => h q (List.mem_cons_of_mem _ hq)) b x hx
  have hk : ∀ v y, RepA ι (Mof cx ι box) w v y → RepA ι (Mof cx ι (bput box tb)) w v y := fun v y h => h.less fun _ => Mof.mono hb
  refine ⟨⟨hs.wi, hs.m0, hs.fix, fun b g hg => ⟨.inl (hs.dom b g hg).1, (hs.dom b g hg).2⟩, fun b x h => .inl (hs.ub b x (hb b x h)), fun b x h => ?_, fun b b' x x' g h1 h2 => hs.inj b b' x x' g (hb b x h1) (hb b' x' h2)⟩, hk, Oth.refl _⟩
  rcases hs.own b x (hb b x h) with h | ⟨g, e1, e2, e3, c, e4, e5, e6⟩
  · exact .inl h
  · exact .inr ⟨g, e1, e2, e3, c, e4, e5, fun j v y hv hy => ⟨(e6 j v y hv hy).1, hk _ _ (e6 j v y hv hy).2⟩⟩

/-- What an operation does it does in a round, too. -/
theorem op_in {o : Oper} {a : Act} {w : World} {K : Act → World → Prop} (hd : ∀ c, o.op ≠ .defer c) (h : o.wp P a w K Q) : o.wpIn (fen cx.R) 9 P a w K Q := by
  refine ⟨fun _ _ => trivial, ?_⟩
  have he : Oper.semAt (fen cx.R).round a.eval o = execOp a.eval o := Oper.semAt_eq _ _ _ hd
  rw [he]
  unfold Oper.wp at h
  generalize (execOp a.eval o).run P w = r at h ⊢
  cases r with
  | ok x w' =>
    cases x with
    | enter f args => exact ⟨fun h => (by cases h), fen_calls.2 h⟩
    | row row args => exact ⟨fun h => (by cases h), fen_rows.2 h⟩
    | round => exact h.elim
    | _ => exact h
  | halt x w' => cases x <;> exact h

/-- One step, as the code's rules have it. -/
theorem wpOp_of_step {i : Nat} {o : Oper} (ho : ops[i]? = some o) {A : AS} {r : R} {ι : Nat → Option Nat} {a : Act} {w : World} (hs : Sat cx ι A a w) (h : StepOK P cx ops o A r) {K : Act → World → Prop}
    (hK : ∀ ι' a' w', Sat cx ι' (A.app o.dst r.S) a' w' → K a' w') : wpOpIn (fen cx.R) 9 P ops Q i K a w := by
  unfold wpOpIn
  simp only [ho, guard_wanted hs h.g]
  cases hon : r.on with
  | true =>
    simp only [if_true]
    refine op_in h.nd (h.y hon ι A.box A.used a w hs.h trivial h.fp h.fresh (fun y _ => hs.eval y) K Q ?_)
    intro v ι' w' hst hv
    exact hK _ _ _ (hs.put h.dst hst hv)
  | false =>
    simp only [Bool.false_eq_true, if_false]
    obtain ⟨he, hu⟩ := h.off hon
    exact ⟨fun _ _ => trivial, hK ι _ _ (hs.put h.dst (step_nones hs.h he) (hu _ _ _))⟩

/-- The steps in the text's order. -/
inductive Chain (P : Program) (cx : Cx) (ops : Array Oper) : List Oper → AS → List R → AS → Prop
  | nil (A : AS) : Chain P cx ops [] A [] A
  | cons {o : Oper} {l : List Oper} {A A' : AS} {r : R} {rs : List R} (h : StepOK P cx ops o A r) (t : Chain P cx ops l (A.app o.dst r.S) rs A') : Chain P cx ops (o :: l) A (r :: rs) A'

theorem wpOps_of_chain {A' : AS} (hQ : ∀ ι a w, Sat cx ι A' a w → Q .normal a w) : ∀ (l : List Oper) (k : Nat) (rs : List R) (A : AS) (ι : Nat → Option Nat) (a : Act) (w : World), (∀ j, l[j]? = ops[k + j]?) → Chain P cx ops l A rs A' → Sat cx ι A a w →
    wpOpsIn (fen cx.R) 9 P ops Q (List.range' k l.length) a w
  | [], k, rs, A, ι, a, w, _, hc, hs => by cases hc; exact hQ ι a w hs
  | o :: l, k, rs, A, ι, a, w, hl, hc, hs => by
    cases hc with
    | cons h t =>
      have h0 : ops[k]? = some o := by simpa using (hl 0).symm
      rw [List.length_cons, List.range'_succ, wpOpsIn_cons]
      exact wpOp_of_step h0 hs h fun ι' a' w' hs' => wpOps_of_chain hQ l (k + 1) _ _ ι' a' w' (fun j => by have := hl (j + 1); simpa [Nat.add_assoc, Nat.add_comm 1 j] using this) t hs'

/-- A region whose order is the text's. -/
theorem awp_region {id : Nat} {A A' : AS} {rs : List R} {Q : Exit → AS → Prop} (hc : Chain P cx ops ops.toList A rs A') (hQ : Q .normal A') : AWp P cx (.region id ops false) Q A := by
  intro ι a w hs
  refine wpIn_region ?_
  have := wpOps_of_chain (P := P) (cx := cx) (ops := ops) (Q := fun e a' w' => ∃ ι' A', Sat cx ι' A' a' w' ∧ Q e A') (A' := A') (fun ι a w h => ⟨ι, A', h, hQ⟩) ops.toList 0 rs A ι a w (by simp) hc hs
  simpa [List.range_eq_range'] using this

/-- The names that a step looks at, and those that it turns. -/
def OpS.reads (S : OpS) : List Nat := S.fp.map (·.1)
def OpS.turns (S : OpS) : List Nat := S.tb.map (·.1)

/-- Two steps whose boxes have nothing to do with one another. -/
def napart (s t : List Nat × List Nat) : Bool := s.2.all (fun b => !t.1.contains b && !t.2.contains b) && t.2.all (fun b => !s.1.contains b)

def OpS.nm (S : OpS) : List Nat × List Nat := (S.reads, S.turns)

theorem mem_turns {S : OpS} {b : Nat} : b ∈ S.turns ↔ ∃ r, (b, r) ∈ S.tb := by simp [OpS.turns]
theorem mem_reads {S : OpS} {b : Nat} : b ∈ S.reads ↔ ∃ x, (b, x) ∈ S.fp := by simp [OpS.reads]

theorem napart_spec {S T : OpS} (h : napart S.nm T.nm = true) : (∀ b r, (b, r) ∈ S.tb → (∀ x, (b, x) ∉ T.fp) ∧ ∀ r, (b, r) ∉ T.tb) ∧ (∀ b r, (b, r) ∈ T.tb → ∀ x, (b, x) ∉ S.fp) := by
  simp only [napart, OpS.nm, Bool.and_eq_true, List.all_eq_true, Bool.not_eq_true', List.contains_eq_mem, decide_eq_false_iff_not] at h
  obtain ⟨h1, h2⟩ := h
  constructor
  · intro b r hr
    obtain ⟨h3, h4⟩ := h1 b (mem_turns.2 ⟨r, hr⟩)
    exact ⟨fun x hx => h3 (mem_reads.2 ⟨x, hx⟩), fun r' hr' => h4 (mem_turns.2 ⟨r', hr'⟩)⟩
  · intro b r hr x hx
    exact h2 b (mem_turns.2 ⟨r, hr⟩) (mem_reads.2 ⟨x, hx⟩)

theorem eput_comm {env : Nat → AV} {d e : Option Tmp} {x y : AV} (h : ∀ t, d = some t → e ≠ some t) : eput (eput env d x) e y = eput (eput env e y) d x := by
  cases d with
  | none => rfl
  | some d =>
    cases e with
    | none => rfl
    | some e =>
      have hne : d ≠ e := fun he => h d rfl (he ▸ rfl)
      funext t
      simp only [eput]
      by_cases h1 : t = e <;> by_cases h2 : t = d
      · exact absurd (h2.symm.trans h1) hne
      · simp [h1, Ne.symm hne]
      · simp [h2, hne]
      · simp [h1, h2]

theorem bput_comm {box : Nat → Option Bx} {s t : List (Nat × Option Bx)} (h : ∀ b r, (b, r) ∈ s → ∀ r', (b, r') ∉ t) : bput (bput box s) t = bput (bput box t) s := by
  funext b
  by_cases hb : ∃ r, (b, r) ∈ s
  · obtain ⟨r, hr⟩ := hb
    have h1 : bput (bput box s) t b = bput box s b := bput_not (h b r hr)
    rw [h1]
    exact (bput_congr s (bput_not (box := box) (h b r hr))).symm
  · have h2 : ∀ r, (b, r) ∉ s := fun r hr => hb ⟨r, hr⟩
    rw [bput_not (box := bput box t) h2]
    exact bput_congr t (bput_not h2)

theorem app_comm {A : AS} {d e : Option Tmp} {S T : OpS} (hd : ∀ t, d = some t → e ≠ some t) (hn : ∀ b r, (b, r) ∈ S.tb → ∀ r', (b, r') ∉ T.tb) : (A.app d S).app e T = (A.app e T).app d S := by
  simp only [AS.app, eput_comm hd, bput_comm hn, AS.mk.injEq, true_and]
  funext b
  exact propext ⟨fun h => by rcases h with (h | h) | h <;> simp [h], fun h => by rcases h with (h | h) | h <;> simp [h]⟩

theorem eval_app {A : AS} {d : Option Tmp} {S : OpS} {y : Operand} (h : ∀ t, d = some t → y ≠ .tmp t) : (A.app d S).eval y = A.eval y := by
  cases y with
  | tmp t =>
    cases d with
    | none => rfl
    | some d =>
      have : t ≠ d := fun e => h d rfl (e ▸ rfl)
      simp [AS.eval, AS.app, eput, this]
  | _ => rfl

theorem guardIs_app {o : Oper} {A : AS} {d : Option Tmp} {S : OpS} {on : Bool} (h : ∀ t, d = some t → t ∉ o.looksAt ops) : GuardIs ops o (A.app d S).env on ↔ GuardIs ops o A.env on := by
  unfold GuardIs
  cases hg : o.guard with
  | none => simp
  | some jw =>
    obtain ⟨j, want⟩ := jw
    have key : ∀ t, dstOf ops j = some t → (A.app d S).env t = A.env t := by
      intro t ht
      cases d with
      | none => rfl
      | some d =>
        have : t ≠ d := by
          rintro rfl
          refine h t rfl ?_
          unfold Oper.looksAt
          refine List.mem_append_right _ ?_
          simp only [hg]
          unfold dstOf at ht
          simp [ht]
        simp [AS.app, eput, this]
    constructor
    · rintro ⟨t, c, b, h1, h2, h3⟩; exact ⟨t, c, b, h1, by rw [← key t h1]; exact h2, h3⟩
    · rintro ⟨t, c, b, h1, h2, h3⟩; exact ⟨t, c, b, h1, by rw [key t h1]; exact h2, h3⟩

theorem operand_looks {o : Oper} {t : Tmp} (h : Operand.tmp t ∈ o.op.operands) : t ∈ o.looksAt ops :=
  List.mem_append_left _ (List.mem_filterMap.2 ⟨.tmp t, by simpa using h, rfl⟩)

/-- Behind another step that has nothing to do with it a step is what it was. -/
theorem StepOK.back {o : Oper} {A : AS} {d : Option Tmp} {S : OpS} {r : R} (hl : ∀ t, d = some t → t ∉ o.looksAt ops) (hn : ∀ b x, (b, x) ∈ S.tb → ∀ y, (b, y) ∉ r.S.fp) (h : StepOK P cx ops o (A.app d S) r) : StepOK P cx ops o A r where
  g := (guardIs_app hl).1 h.g
  y := fun hon => (h.y hon).congr fun y hy => (eval_app (S := S) fun t ht e => hl t ht (operand_looks (by rw [← e]; exact hy))).symm
  off := h.off
  fp := fun b x hx => by
    have := h.fp b x hx
    have h2 : bput A.box S.tb b = A.box b := bput_not fun r hr => hn b r hr x hx
    exact h2 ▸ this
  fresh := fun b x hx => (h.fresh b x hx).imp id fun h hu => h (.inl hu)
  dst := h.dst
  nd := h.nd

theorem StepOK.fwd {o : Oper} {A : AS} {d : Option Tmp} {S : OpS} {r : R} (hl : ∀ t, d = some t → t ∉ o.looksAt ops) (hn : ∀ b x, (b, x) ∈ S.tb → (∀ y, (b, y) ∉ r.S.fp) ∧ ∀ y, (b, y) ∉ r.S.tb) (h : StepOK P cx ops o A r) : StepOK P cx ops o (A.app d S) r where
  g := (guardIs_app hl).2 h.g
  y := fun hon => (h.y hon).congr fun y hy => eval_app (S := S) fun t ht e => hl t ht (operand_looks (by rw [← e]; exact hy))
  off := h.off
  fp := fun b x hx => by
    have h2 : bput A.box S.tb b = A.box b := bput_not fun r hr => (hn b r hr).1 x hx
    exact h2.trans (h.fp b x hx)
  fresh := fun b x hx => (h.fresh b x hx).imp id fun h hu => by
    rcases hu with hu | ⟨r', hr'⟩
    · exact h hu
    · exact (hn b r' hr').2 _ hx
  dst := h.dst
  nd := h.nd

/-- Whatever order is picked from here on. -/
def anyR (P : Program) (cx : Cx) (md : Region.Mode) (ops : Array Oper) (rs : Nat → R) (Q : AS → Prop) : Nat → Array Bool → AS → Prop
  | 0, listed, A => Region.ready md ops listed = [] ∧ Q A
  | fuel + 1, listed, A => (Region.ready md ops listed = [] → Q A) ∧ ∀ i, i ∈ Region.ready md ops listed → ∃ o, ops[i]? = some o ∧ StepOK P cx ops o A (rs i) ∧ anyR P cx md ops rs Q fuel (listed.setIfInBounds i true) (A.app o.dst (rs i).S)

theorem wpAny_of_anyR {rs : Nat → R} {Q' : AS → Prop} (hQ : ∀ ι A a w, Sat cx ι A a w → Q' A → Q .normal a w) : ∀ (fuel : Nat) (listed : Array Bool) (A : AS) (ι : Nat → Option Nat) (a : Act) (w : World), Sat cx ι A a w → anyR P cx md ops rs Q' fuel listed A → wpAnyIn (fen cx.R) 9 P md ops Q fuel listed a w
  | 0, _, _, _, _, _, hs, h => ⟨h.1, hQ _ _ _ _ hs h.2⟩
  | fuel + 1, _, _, _, _, _, hs, h => ⟨fun h0 => hQ _ _ _ _ hs (h.1 h0), fun i hi => by
      obtain ⟨o, ho, h1, h2⟩ := h.2 i hi
      exact wpOp_of_step ho hs h1 fun ι' a' w' hs' => wpAny_of_anyR hQ fuel _ _ ι' a' w' hs' h2⟩

/-- An operation that may come up now may be taken first, if those that do not wait for it have nothing to do with it. -/
theorem anyR_first {rs : Nat → R} {Q' : AS → Prop} {i : Nat} {oi : Oper} (hi : ops[i]? = some oi) : ∀ (fuel : Nat) (listed : Array Bool) (A : AS),
    (∀ j oj, ops[j]? = some oj → j ≠ i → listed.getD j true = false → (∀ e, e ∈ oj.after → Region.binds md e = true → e.on ≠ i) → oi.apart ops oj = true ∧ napart (rs i).S.nm (rs j).S.nm = true) →
    i ∈ Region.ready md ops listed → StepOK P cx ops oi A (rs i) →
    anyR P cx md ops rs Q' fuel (listed.setIfInBounds i true) (A.app oi.dst (rs i).S) → anyR P cx md ops rs Q' (fuel + 1) listed A := by
  intro fuel
  induction fuel with
  | zero =>
    intro listed A _ hr hy H
    refine ⟨fun h => (by rw [h] at hr; cases hr), fun j hj => ?_⟩
    by_cases hji : j = i
    · subst hji; exact ⟨oi, hi, hy, H⟩
    · have := ready_mono hj hji
      rw [H.1] at this
      cases this
  | succ fuel ih =>
    intro listed A hfree hr hy H
    refine ⟨fun h => (by rw [h] at hr; cases hr), fun j hj => ?_⟩
    by_cases hji : j = i
    · subst hji; exact ⟨oi, hi, hy, H⟩
    · obtain ⟨oj, hoj, h1, h2⟩ := H.2 j (ready_mono hj hji)
      obtain ⟨hjun, oj', hoj', hall⟩ := mem_ready.1 hj
      obtain rfl : oj' = oj := by rw [hoj] at hoj'; exact (Option.some.inj hoj').symm
      have hnot : ∀ e, e ∈ oj'.after → Region.binds md e = true → e.on ≠ i := fun e he hb heq => by
        have h1 := hall e he hb
        have h0 := (mem_ready.1 hr).1
        rw [heq] at h1
        rcases Nat.lt_or_ge i listed.size with h' | h'
        · simp [h'] at h0 h1; rw [h0] at h1; cases h1
        · simp [Array.getElem?_eq_none h'] at h1
      obtain ⟨hap, hna⟩ := hfree j oj' hoj hji hjun hnot
      obtain ⟨a1, a2, a3⟩ := Oper.apart_spec hap
      obtain ⟨n1, n2⟩ := napart_spec hna
      have hfree' : ∀ k ok, ops[k]? = some ok → k ≠ i → (listed.setIfInBounds j true).getD k true = false →
          (∀ e, e ∈ ok.after → Region.binds md e = true → e.on ≠ i) → oi.apart ops ok = true ∧ napart (rs i).S.nm (rs k).S.nm = true := fun k ok hk hki hun hno => by
        refine hfree k ok hk hki ?_ hno
        by_cases hjk : j = k
        · subst hjk; exact hjun
        · rw [getD_set_ne true hjk] at hun; exact hun
      refine ⟨oj', hoj, h1.back a1 (fun b r hr y hy => (n1 b r hr).1 y hy), ih (listed.setIfInBounds j true) _ hfree' (ready_mono hr (Ne.symm hji)) (hy.fwd a3 fun b r hr => ⟨fun y => n2 b r hr y, fun y hy' => (n1 b y hy').2 r hr⟩) ?_⟩
      rw [Array.setIfInBounds_comm _ _ hji, app_comm (fun t ht => fun h => a2 t h ht) (fun b r hr r' hr' => (n1 b r' hr').2 r hr)]
      exact h2

/-- The names' check: each step against those behind it that do not wait for it. -/
def napAll (md : Region.Mode) : List Oper → Nat → List (List Nat × List Nat) → Bool
  | _ :: l, k, s :: ss => (l.zip ss).all (fun p => p.1.after.any (fun e => Region.binds md e && e.on == k) || napart s p.2) && napAll md l (k + 1) ss
  | _, _, _ => true

theorem anyR_lex {rs : Nat → R} {A' : AS} {Q' : AS → Prop} (hQ : Q' A') : ∀ (l : List Oper) (k : Nat) (listed : Array Bool) (A : AS) (ss : List R), (∀ j, l[j]? = ops[k + j]?) → (∀ j, j < l.length → ss[j]? = some (rs (k + j))) → (∀ j, listed.getD j true = false → k ≤ j) →
    Region.lexFrom md ops l.length k listed = true → napAll md l k (ss.map fun r => r.S.nm) = true → Chain P cx ops l A ss A' → anyR P cx md ops rs Q' l.length listed A
  | [], _, _, _, _, _, _, _, hB, _, hc => by cases hc; exact ⟨by simpa [Region.lexFrom] using hB, hQ⟩
  | o :: l, k, listed, A, ss, hl, hss, hlst, hB, hn, hc => by
    cases hc with
    | @cons _ _ _ _ r rs' h t =>
      have h0 : ops[k]? = some o := by simpa using (hl 0).symm
      have hr0 : rs k = r := by have := hss 0 (by simp); simpa using this.symm
      simp only [List.length_cons, Region.lexFrom, Bool.and_eq_true] at hB
      obtain ⟨⟨hr, hf⟩, hB'⟩ := hB
      simp only [List.map_cons, napAll, Bool.and_eq_true, List.all_eq_true] at hn
      obtain ⟨hn1, hn2⟩ := hn
      have hl' : ∀ j, l[j]? = ops[k + 1 + j]? := fun j => by have := hl (j + 1); simpa [Nat.add_assoc, Nat.add_comm 1 j] using this
      have hss' : ∀ j, j < l.length → rs'[j]? = some (rs (k + 1 + j)) := fun j hj => by have := hss (j + 1) (by simpa using hj); simpa [Nat.add_assoc, Nat.add_comm 1 j] using this
      rw [← hr0] at h t
      refine anyR_first h0 l.length listed A ?_ (by simpa using hr) h (anyR_lex hQ l (k + 1) _ _ rs' hl' hss' ?_ hB' hn2 t)
      · intro j oj hj hji hun hno
        refine ⟨Region.free_spec h0 hf j oj hj hji hun hno, ?_⟩
        have hkj : k < j := by have := hlst j hun; omega
        obtain ⟨m, rfl⟩ : ∃ m, j = k + 1 + m := ⟨j - (k + 1), by omega⟩
        have hm : l[m]? = some oj := by rw [hl' m]; exact hj
        have hml : m < l.length := (List.getElem?_eq_some_iff.1 hm).1
        have hmem : (oj, (rs (k + 1 + m)).S.nm) ∈ l.zip (rs'.map fun r => r.S.nm) := by
          refine List.mem_of_getElem? (i := m) ?_
          rw [List.getElem?_zip_eq_some]
          exact ⟨hm, by simp [hss' m hml]⟩
        have := hn1 _ hmem
        simp only [Bool.or_eq_true] at this
        rcases this with h1 | h1
        · obtain ⟨e, he, hb⟩ := Array.any_eq_true'.1 h1
          simp only [Bool.and_eq_true, beq_iff_eq] at hb
          exact absurd hb.2 (hno e he hb.1)
        · rw [hr0] at *; exact h1
      · intro j hun
        by_cases hjk : k = j
        · subst hjk
          exfalso
          have : (listed.setIfInBounds k true).getD k true = true := by
            rw [Array.getD_eq_getD_getElem?]
            rcases Nat.lt_or_ge k listed.size with h' | h'
            · simp [h']
            · rw [Array.getElem?_eq_none (by simpa using h')]; rfl
          rw [this] at hun; cases hun
        · rw [getD_set_ne true hjk] at hun
          have := hlst j hun; omega

theorem Sat.drew {ι : Nat → Option Nat} {A : AS} {a : Act} {w : World} (hs : Sat cx ι A a w) : Sat cx ι A a { w with drawn := w.drawn + 1 } := by
  have hk : ∀ v y, RepA ι (Mof cx ι A.box) w v y → RepA ι (Mof cx ι A.box) { w with drawn := w.drawn + 1 } v y := fun v y h => RepA.keep (w := w) (w' := { w with drawn := w.drawn + 1 }) (fun _ _ h => h) (fun _ _ h => h) ⟨Nat.le_refl _, fun _ c _ h => ⟨c, h, rfl⟩⟩ (fun _ _ _ => rfl) h
  refine ⟨⟨⟨hs.h.wi.os, hs.h.wi.tape, hs.h.wi.output, hs.h.wi.evo.trans ⟨Nat.le_refl _, fun _ c _ h => ⟨c, h, rfl⟩⟩, hs.h.wi.oth, hs.h.wi.block⟩, hs.h.m0, hs.h.fix, hs.h.dom, hs.h.ub, ?_, hs.h.inj⟩, hs.size, hs.defers.keep (Oth.refl w), fun t => hk _ _ (hs.env t)⟩
  intro b x hb
  rcases hs.h.own b x hb with h1 | ⟨g, h1, h2, h3, c, h4, h5, h6⟩
  · exact .inl h1
  exact .inr ⟨g, h1, h2, h3, c, h4, h5, fun j v y hv hy => ⟨(h6 j v y hv hy).1, hk _ _ (h6 j v y hv hy).2⟩⟩

theorem Chain.length {l : List Oper} {A A' : AS} {ss : List R} (h : Chain P cx ops l A ss A') : ss.length = l.length := by
  induction h with
  | nil => rfl
  | cons _ _ ih => simp [ih]

/-- A region that draws its order. -/
theorem awp_region_draw {id : Nat} {A A' : AS} {ss : List R} {Q : Exit → AS → Prop} (hm : P.follows .mixedOrders = true) (hB : Region.lexB .any ops = true) (hc : Chain P cx ops ops.toList A ss A')
    (hn : napAll .any ops.toList 0 (ss.map fun r => r.S.nm) = true) (hQ : Q .normal A') : AWp P cx (.region id ops true) Q A := by
  intro ι a w hs
  simp only [Region.lexB, Bool.and_eq_true] at hB
  have hlen := hc.length
  have hR : anyR P cx .any ops (fun i => ss.getD i ⟨false, ⟨[], .any, []⟩⟩) (fun A => Q .normal A) ops.size (Array.replicate ops.size false) A := anyR_lex (P := P) (cx := cx) (ops := ops) (md := .any) (rs := fun i => ss.getD i ⟨false, ⟨[], .any, []⟩⟩) (A' := A') (Q' := fun A => Q .normal A) hQ ops.toList 0 (Array.replicate ops.size false) A ss (by simp)
    (fun j hj => by simp [List.getElem?_eq_getElem (hlen ▸ hj)]) (fun j _ => Nat.zero_le j) (by simpa using hB.2) hn hc
  refine wpIn_region_any hm (wpAny_of_anyR (Q := fun e a' w' => ∃ ι' A', Sat cx ι' A' a' w' ∧ Q e A') (fun ι A a w h1 h2 => ⟨ι, A, h1, h2⟩) _ _ A ι a _ hs.drew hR)
end

end Go.Proofs.YtkonljmmdifnaaaGreat.V
set_option linter.unusedSimpArgs false
set_option linter.unusedVariables false
namespace Go.Proofs.YtkonljmmdifnaaaGreat.V
open Go.RowKit

theorem addr_add' (b off j : Nat) : (⟨b, off, none⟩ : Addr).add j = ⟨b, off + j, none⟩ := by
  unfold Addr.add
  split <;> simp_all

/-- The cells of a value. -/
def AV.cells : AV → List AV
  | .agg l => l
  | x => [x]

/-- What fits into one cell. -/
def AV.one : AV → Bool
  | .v x => x.oneCell'
  | .sl .. => true
  | .ptr .. => true
  | .pp _ => true
  | .osl .. => true
  | .fn .. => true
  | .iface .. => true
  | _ => false

section
variable {P : Program} {cx : Cx} {ι : Nat → Option Nat} {M : Nat → Prop} {w : World}

theorem RepA.one {v : Value} {x : AV} (h : RepA ι M w v x) (hx : x.one = true) : v.oneCell' = true := by
  cases h with
  | d h => cases h with
    | v x => exact hx
    | sl => rfl
    | pp => rfl
    | mp => rfl
    | fn => rfl
    | agg => simp [AV.one] at hx
    | tup => simp [AV.one] at hx
  | any => simp [AV.one] at hx
  | agg => simp [AV.one] at hx
  | tup => simp [AV.one] at hx
  | iffT => simp [AV.one] at hx
  | iffF => simp [AV.one] at hx
  | _ => rfl

theorem RepA.agg' {v : Value} {l : List AV} (h : RepA ι M w v (.agg l)) : ∃ vs : Array Value, v = .agg vs ∧ vs.size = l.length ∧ ∀ (i : Nat) (x : Value) (y : AV), vs[i]? = some x → l[i]? = some y → RepA ι M w x y := by
  cases h with
  | d h => cases h with
    | agg hn h => exact ⟨_, rfl, hn, fun i x y hx hy => .d (h i x y hx hy)⟩
  | agg hn h => exact ⟨_, rfl, hn, h⟩

theorem RepA.tup' {v : Value} {l : List AV} (h : RepA ι M w v (.tup l)) : ∃ vs : Array Value, v = .tuple vs ∧ vs.size = l.length ∧ ∀ (i : Nat) (x : Value) (y : AV), vs[i]? = some x → l[i]? = some y → RepA ι M w x y := by
  cases h with
  | d h => cases h with
    | tup hn h => exact ⟨_, rfl, hn, fun i x y hx hy => .d (h i x y hx hy)⟩
  | tup hn h => exact ⟨_, rfl, hn, h⟩

/-- A value that goes into cells. -/
def AV.flat (x : AV) : Bool := match x with | .agg l => l.all AV.one | x => x.one

theorem RepA.cells {v : Value} {x : AV} (h : RepA ι M w v x) (hx : x.flat = true) : v.cells.size = x.cells.length ∧ ∀ (i : Nat) (u : Value) (y : AV), v.cells[i]? = some u → x.cells[i]? = some y → u.oneCell' = true ∧ RepA ι M w u y := by
  have key : ∀ (v : Value) (x : AV), x.cells = [x] → x.one = true → RepA ι M w v x → v.cells.size = x.cells.length ∧ ∀ (i : Nat) (u : Value) (y : AV), v.cells[i]? = some u → x.cells[i]? = some y → u.oneCell' = true ∧ RepA ι M w u y := by
    intro v x hc ho h
    have h1 := h.one ho
    have hv : v.cells = #[v] := by cases v <;> first | rfl | simp [Value.oneCell'] at h1
    rw [hc, hv]
    refine ⟨rfl, fun i u y hu hy => ?_⟩
    rcases i with _ | i
    · simp at hu hy; subst hu hy; exact ⟨h1, h⟩
    · simp at hy
  cases x with
  | agg l =>
    obtain ⟨vs, rfl, hn, hh⟩ := h.agg'
    refine ⟨hn, fun i u y hu hy => ?_⟩
    have := hh i u y hu hy
    simp only [AV.flat, List.all_eq_true] at hx
    exact ⟨this.one (hx y (List.mem_of_getElem? hy)), this⟩
  | _ => exact key _ _ rfl hx h

/-- An operation that hands back a value and leaves the world alone. -/
theorem yields_val {o : Oper} {ρ : Operand → AV} {fp : List (Nat × Bx)} {x : AV}
    (h : ∀ ι M (a : Act) w, (∀ b x, (b, x) ∈ fp → x.cs ≠ [] → ∃ g, ι b = some g ∧ BoxRep ι M w g x) → (∀ y, y ∈ o.op.operands → RepA ι M w (a.eval y) (ρ y)) → ∃ v, (execOp a.eval o).run P w = .ok (.value v) w ∧ RepA ι M w v x) : Yields P cx o ρ ⟨fp, x, []⟩ := by
  intro ι box used a w hs _ hfp _ hops K Q hK
  obtain ⟨v, hrun, hv⟩ := h ι (Mof cx ι box) a w (fun b x hb hne => by obtain ⟨g, h1, _, _, h4⟩ := hs.ne (hfp b x hb) hne; exact ⟨g, h1, h4⟩) hops
  unfold Oper.wp
  rw [hrun, Oper.upon_value]
  exact hK v ι w ⟨hs.used_mono fun b hb => .inl hb, fun _ _ h => h, Oth.refl _⟩ hv

def AV.val? : AV → Option Value
  | .v y => some y
  | _ => none

/-- Values that are known to the last. -/
def AV.exact : AV → Option Value
  | .v x => some x
  | .agg l => (l.mapM AV.val?).map fun l => .agg l.toArray
  | _ => none

theorem RepA.exact {v u : Value} {x : AV} (h : RepA ι M w v x) (hx : x.exact = some u) : v = u := by
  cases x with
  | v y => simp [AV.exact] at hx; subst hx; exact h.ofV
  | agg l =>
    obtain ⟨vs, rfl, hn, hh⟩ := h.agg'
    simp only [AV.exact, Option.map_eq_some_iff] at hx
    obtain ⟨us, hus, rfl⟩ := hx
    congr 1
    have : ∀ (l : List AV) (us : List Value), l.mapM AV.val? = some us → us.length = l.length ∧ ∀ (i : Nat) (y : AV), l[i]? = some y → ∃ u, us[i]? = some u ∧ y = .v u := by
      intro l
      induction l with
      | nil => intro us h; simp at h; subst h; simp
      | cons a l ih =>
        intro us h
        cases a with
        | v y =>
          simp only [List.mapM_cons, AV.val?, Option.bind_eq_bind, Option.bind_some] at h
          cases hm : l.mapM AV.val? with
          | none => rw [hm] at h; simp at h
          | some r =>
            rw [hm] at h
            simp at h
            subst h
            obtain ⟨h1, h2⟩ := ih r hm
            refine ⟨by simp [h1], fun i z hz => ?_⟩
            rcases i with _ | i
            · simp at hz; subst hz; exact ⟨y, rfl, rfl⟩
            · exact h2 i z (by simpa using hz)
        | _ => simp [AV.val?] at h
    obtain ⟨hlen, hel⟩ := this l us hus
    apply Array.ext_getElem?
    intro i
    by_cases hi : i < vs.size
    · have hl : i < l.length := hn ▸ hi
      obtain ⟨u, hu, hy⟩ := hel i _ (List.getElem?_eq_getElem hl)
      have := hh i _ _ (Array.getElem?_eq_getElem hi) (List.getElem?_eq_getElem hl)
      rw [hy] at this
      rw [Array.getElem?_eq_getElem hi, this.ofV]
      simp [hu]
    · rw [Array.getElem?_eq_none (by omega), Array.getElem?_eq_none (by simp; omega)]
  | _ => simp [AV.exact] at hx

/-- An operation at values known to the last, which leaves the world alone. -/
theorem y_exact {o : Oper} {ρ : Operand → AV} {u : Value} (hs : ∀ cs b, o.op ≠ .select cs b) (σ : Operand → Value) (hσ : ∀ y, y ∈ o.op.operands → (ρ y).exact = some (σ y)) (h : ∀ w, (execOp σ o).run P w = .ok (.value u) w) : Yields P cx o ρ ⟨[], .v u, []⟩ := by
  refine yields_val fun ι M a w _ hops => ⟨u, ?_, .d (.v _)⟩
  rw [execOp_congr o hs (ρ := a.eval) (ρ' := σ) fun y hy => (hops y hy).exact (hσ y hy)]
  exact h w

theorem mem_ops {o : Oper} {op : Op} (ho : o.op = op) {y : Operand} (h : y ∈ op.operands) : y ∈ o.op.operands := by rw [ho]; exact h

theorem y_move {o : Oper} {ρ : Operand → AV} {y : Operand} (ho : o.op = .move y ∨ o.op = .assign y) : Yields P cx o ρ ⟨[], ρ y, []⟩ := by
  refine yields_val fun ι M a w _ hops => ⟨a.eval y, ?_, hops y ?_⟩
  · rcases ho with ho | ho <;> simp [execOp, ho]
  · rcases ho with ho | ho <;> simp [ho, Op.operands]

def pickAV (t : Bool) : AV → AV → AV
  | .v (.bool p), .v (.bool q) => .v (.bool (cond t p q))
  | x, y => cond t x y

theorem pickAV_eq (t : Bool) (x y : AV) : pickAV t x y = cond t x y := by
  unfold pickAV
  split <;> cases t <;> rfl

theorem RepA.ptr' {v : Value} {b off : Nat} (h : RepA ι M w v (.ptr b off)) : ∃ g, ι b = some g ∧ v = .pointer (some ⟨g, off, none⟩) := by
  cases h with
  | d h => cases h
  | ptr h => exact ⟨_, h, rfl⟩

/-- A value under its condition. -/
def AV.strip : AV → AV
  | .iff _ x => x
  | x => x
def AV.cnd : AV → Bool
  | .iff c _ => c
  | _ => true

theorem RepA.strip {v : Value} {x : AV} (h : RepA ι M w v x) (hc : x.cnd = true) : RepA ι M w v x.strip := by
  cases x with
  | iff c y =>
    simp only [AV.cnd] at hc
    subst hc
    cases h with
    | d h => cases h
    | iffT h => exact h
  | _ => exact h

/-- '&&' and '||': the side that is not asked need not be known. -/
theorem y_pick2 {o : Oper} {ρ : Operand → AV} {c p q : Operand} {t : Bool} (ho : o.op = .pick c p q) (hc : (ρ c).strip = .v (.bool t)) (hcc : (ρ c).cnd = true) (hp : t = true → (ρ p).cnd = true) (hq : t = false → (ρ q).cnd = true) :
    Yields P cx o ρ ⟨[], pickAV t (ρ p).strip (ρ q).strip, []⟩ := by
  refine yields_val fun ι M a w _ hops => ?_
  have h1 := (hops c (mem_ops ho (by simp [Op.operands]))).strip hcc
  have h2 := (hops p (mem_ops ho (by simp [Op.operands])))
  have h3 := (hops q (mem_ops ho (by simp [Op.operands])))
  rw [hc] at h1
  have h1 := h1.ofV
  refine ⟨if t then a.eval p else a.eval q, by simp [execOp, ho, h1, asBool], ?_⟩
  rw [pickAV_eq]
  cases t with
  | true => simpa using h2.strip (hp rfl)
  | false => simpa using h3.strip (hq rfl)

theorem y_pick {o : Oper} {ρ : Operand → AV} {c p q : Operand} {t : Bool} (ho : o.op = .pick c p q) (hc : ρ c = .v (.bool t)) : Yields P cx o ρ ⟨[], pickAV t (ρ p) (ρ q), []⟩ := by
  refine yields_val fun ι M a w _ hops => ?_
  have h1 := (hops c (mem_ops ho (by simp [Op.operands])))
  have h2 := (hops p (mem_ops ho (by simp [Op.operands])))
  have h3 := (hops q (mem_ops ho (by simp [Op.operands])))
  rw [hc] at h1
  have h1 := h1.ofV
  refine ⟨if t then a.eval p else a.eval q, by simp [execOp, ho, h1, asBool], ?_⟩
  have key : RepA ι M w (if t then a.eval p else a.eval q) (cond t (ρ p) (ρ q)) := by cases t <;> simpa
  rw [pickAV_eq]
  exact key

/-- The address of a part. -/
theorem y_fieldAddr {o : Oper} {ρ : Operand → AV} {s f : Nat} {y : Operand} {fs : Array Field} {fd : Field} {n : Nat} {b off : Nat} (ho : o.op = .fieldAddr s y f) (hu : P.underlying s = some (.struct fs)) (hf : fs[f]? = some fd)
    (hn : ∀ w, (sizeOf fd.type).run P w = .ok n w) (hn0 : n ≠ 0) (hy : ρ y = .ptr b off) : Yields P cx o ρ ⟨[], .ptr b (off + fd.offset), []⟩ := by
  refine yields_val fun ι M a w _ hops => ?_
  have h1 := hops y (mem_ops ho (by simp [Op.operands]))
  rw [hy] at h1
  obtain ⟨g, hg, hv⟩ := h1.ptr'
  exact ⟨.pointer (some ⟨g, off + fd.offset, none⟩), by simp [execOp, ho, Instr.fieldAt, run_underlying hu, hf, hv, Instr.sureAddr, fieldPlace, hn, hn0, addr_add'], .ptr hg⟩

theorem RepA.pp_drop {g off n : Nat} {l : List AV} (h : RepA ι M w (.pointer (some ⟨g, off, none⟩)) (.pp l)) : RepA ι M w (.pointer (some ⟨g, off + n, none⟩)) (.pp (l.drop n)) := by
  cases h with
  | d h => cases h with
    | pp x h1 h2 h3 h4 =>
      refine .d (.pp (fun j => x (n + j)) h1 h2 (fun j hj => ?_) fun j y hy => h4 (n + j) y ?_)
      · rw [Nat.add_assoc]; exact h3 (n + j) (by simp at hj; omega)
      · simpa using hy

theorem RepA.pp_addr {v : Value} {l : List AV} (h : RepA ι M w v (.pp l)) : ∃ g off, v = .pointer (some ⟨g, off, none⟩) := by
  cases h with
  | d h => cases h with
    | pp => exact ⟨_, _, rfl⟩

theorem y_fieldAddr_pp {o : Oper} {ρ : Operand → AV} {s f : Nat} {y : Operand} {fs : Array Field} {fd : Field} {n : Nat} {l : List AV} (ho : o.op = .fieldAddr s y f) (hu : P.underlying s = some (.struct fs)) (hf : fs[f]? = some fd)
    (hn : ∀ w, (sizeOf fd.type).run P w = .ok n w) (hn0 : n ≠ 0) (hy : ρ y = .pp l) : Yields P cx o ρ ⟨[], .pp (l.drop fd.offset), []⟩ := by
  refine yields_val fun ι M a w _ hops => ?_
  have h1 := hops y (mem_ops ho (by simp [Op.operands]))
  rw [hy] at h1
  obtain ⟨g, off, hv⟩ := h1.pp_addr
  rw [hv] at h1
  exact ⟨_, by simp [execOp, ho, Instr.fieldAt, run_underlying hu, hf, hv, Instr.sureAddr, fieldPlace, hn, hn0, addr_add'], h1.pp_drop⟩

theorem loadCells_of {g off n : Nat} (f : Nat → Value) (h : ∀ j, j < n → w.cell? ⟨g, off + j, none⟩ = some (f j)) : (loadCells ⟨g, off, none⟩ n).run P w = .ok ((List.range n).map f).toArray w :=
  run_loadCells w _ n f fun j hj => by rw [addr_add']; exact h j hj

/-- What is loaded, of cells from off on. -/
def ldAV (ag : Bool) (n off : Nat) (cs : List AV) : Option AV := if ag then (if off + n ≤ cs.length then some (.agg ((cs.drop off).take n)) else none) else cs[off]?

theorem run_ld {t : TypeId} {ag : Bool} {n g off : Nat} {cs : List AV} {x : AV} {c : Array Value} (ha : ∀ w, (isAgg t).run P w = .ok ag w) (hn : ∀ w, (sizeOf t).run P w = .ok n w) (hx : ldAV ag n off cs = some x)
    (hc : ∀ j, j < cs.length → ∃ v, c[j]? = some v) (hw : ∀ (j : Nat) (v : Value), c[j]? = some v → w.cell? ⟨g, j, none⟩ = some v) (hr : ∀ (j : Nat) (v : Value) (y : AV), c[j]? = some v → cs[j]? = some y → RepA ι M w v y) :
    ∃ v, (loadVar t ⟨g, off, none⟩).run P w = .ok v w ∧ RepA ι M w v x := by
  unfold ldAV at hx
  cases ag with
  | false =>
    simp at hx
    have hlt := (List.getElem?_eq_some_iff.1 hx).1
    obtain ⟨v, hv⟩ := hc off hlt
    refine ⟨v, ?_, hr off v x hv hx⟩
    simp [loadVar, ha, hw off v hv]
  | true =>
    simp only [if_true] at hx
    split at hx
    · rename_i hle
      injection hx with hx
      subst hx
      have h1 : ∀ j, j < n → w.cell? ⟨g, off + j, none⟩ = some (c.getD (off + j) undef) := fun j hj => by
        obtain ⟨v, hv⟩ := hc (off + j) (by omega)
        rw [hw _ v hv, Array.getD_eq_getD_getElem?, hv]; rfl
      refine ⟨.agg ((List.range n).map fun j => c.getD (off + j) undef).toArray, ?_, .agg ?_ ?_⟩
      · simp [loadVar, ha, hn, loadCells_of (P := P) (w := w) (fun j => c.getD (off + j) undef) h1]
      · simp; omega
      · intro i u y hu hy
        simp only [List.getElem?_toArray, List.getElem?_map] at hu
        have hi : i < n := by
          rcases Nat.lt_or_ge i n with h | h
          · exact h
          · rw [List.getElem?_eq_none (by simpa using h)] at hu; simp at hu
        rw [List.getElem?_range hi] at hu
        simp at hu
        rw [List.getElem?_take, if_pos hi, List.getElem?_drop] at hy
        obtain ⟨v, hv⟩ := hc (off + i) (by have := (List.getElem?_eq_some_iff.1 hy).1; omega)
        rw [Array.getElem?_eq_some_iff] at hv
        obtain ⟨hlt, hv⟩ := hv
        have hu' : c[off + i]? = some u := by
          rw [Array.getElem?_eq_getElem hlt, hv, ← hu]; simp [hlt, hv]
        exact hr (off + i) u y hu' hy
    · cases hx

theorem y_load {o : Oper} {ρ : Operand → AV} {t : TypeId} {y : Operand} {ag : Bool} {n b off : Nat} {bx : Bx} {x : AV} (ho : o.op = .load t y) (ha : ∀ w, (isAgg t).run P w = .ok ag w) (hn : ∀ w, (sizeOf t).run P w = .ok n w)
    (hy : ρ y = .ptr b off) (hne : bx.cs ≠ []) (hx : ldAV ag n off bx.cs = some x) : Yields P cx o ρ ⟨[(b, bx)], x, []⟩ := by
  refine yields_val fun ι M a w hfp hops => ?_
  have h1 := hops y (mem_ops ho (by simp [Op.operands]))
  rw [hy] at h1
  obtain ⟨g, hg, c, hc, hlen, hcs⟩ := hfp b bx (by simp) hne
  have hv : a.eval y = .pointer (some ⟨g, off, none⟩) := by
    obtain ⟨g', hg', hv⟩ := h1.ptr'
    rw [hg] at hg'
    injection hg' with hg'
    rw [hv, hg']
  obtain ⟨v, hr, hvx⟩ := run_ld (P := P) (w := w) (ι := ι) (M := M) (g := g) ha hn hx (c := c) (fun j hj => ⟨_, Array.getElem?_eq_getElem (by omega)⟩) (fun j v hv => by rw [cell_of_row _ _ _ _ _ _ hc]; exact hv) (fun j v y h1 h2 => (hcs j v y h1 h2).2)
  exact ⟨v, by simp [execOp, ho, Instr.loadAt, hv, Instr.sureAddr, hr], hvx⟩

theorem y_load_pp {o : Oper} {ρ : Operand → AV} {t : TypeId} {y : Operand} {ag : Bool} {n : Nat} {l : List AV} {x : AV} (ho : o.op = .load t y) (ha : ∀ w, (isAgg t).run P w = .ok ag w) (hn : ∀ w, (sizeOf t).run P w = .ok n w)
    (hy : ρ y = .pp l) (hx : ldAV ag n 0 l = some x) : Yields P cx o ρ ⟨[], x, []⟩ := by
  refine yields_val fun ι M a w _ hops => ?_
  have h1 := hops y (mem_ops ho (by simp [Op.operands]))
  rw [hy] at h1
  obtain ⟨g, off, hv⟩ := h1.pp_addr
  rw [hv] at h1
  cases h1 with
  | d h => cases h with
  | pp f h1 h2 h3 h4 =>
    have key : ∃ v, (loadVar t ⟨g, off, none⟩).run P w = .ok v w ∧ RepA ι M w v x := by
      unfold ldAV at hx
      cases ag with
      | false =>
        simp at hx
        have hlt := (List.getElem?_eq_some_iff.1 hx).1
        refine ⟨f 0, ?_, .d (h4 0 x hx)⟩
        have := (h3 0 hlt).1
        simp [loadVar, ha, Nat.add_zero] at this ⊢
        simp [this]
      | true =>
        simp only [if_true] at hx
        split at hx
        · rename_i hle
          injection hx with hx
          subst hx
          refine ⟨.agg ((List.range n).map f).toArray, ?_, .d (.agg (by simp; omega) ?_)⟩
          · have hl := loadCells_of (P := P) (w := w) (g := g) (off := off) (n := n) f fun j hj => (h3 j (by omega)).1
            simp [loadVar, ha, hn, hl]
          · intro i u y hu hy
            simp only [List.getElem?_toArray, List.getElem?_map] at hu
            have hi : i < n := by
              rcases Nat.lt_or_ge i n with h | h
              · exact h
              · rw [List.getElem?_eq_none (by simpa using h)] at hu; simp at hu
            rw [List.getElem?_range hi] at hu
            simp at hu
            subst hu
            refine h4 i y ?_
            simpa [List.getElem?_take, hi] using hy
        · cases hx
    obtain ⟨v, hr, hvx⟩ := key
    exact ⟨v, by simp [execOp, ho, Instr.loadAt, hv, Instr.sureAddr, hr], hvx⟩
end

end Go.Proofs.YtkonljmmdifnaaaGreat.V
set_option linter.unusedSimpArgs false
set_option linter.unusedVariables false
namespace Go.Proofs.YtkonljmmdifnaaaGreat.V
open Go.RowKit

section
variable {P : Program} {cx : Cx} {ι : Nat → Option Nat} {box : Nat → Option Bx} {used : Nat → Prop} {w : World}

/-- Name b for block g. -/
def iput (ι : Nat → Option Nat) (b g : Nat) : Nat → Option Nat := fun i => if i = b then some g else ι i

theorem evo_alloc (w : World) (o : Obj) : Evo w (w.alloc o) :=
  ⟨by simp, fun g c t h => ⟨c, by rw [Below.heap_alloc _ _ _ (Array.getElem?_eq_some_iff.1 h).1]; exact h, rfl⟩⟩

theorem Oth.alloc (w : World) (o : Obj) : Oth w (w.alloc o) := fun g o' h _ => by rw [Below.heap_alloc _ _ _ (Array.getElem?_eq_some_iff.1 h).1]; exact h

theorem Within.alloc (h : Within cx w) (o : Obj) : Within cx (w.alloc o) :=
  ⟨h.os, h.tape, h.output, h.evo.trans (evo_alloc w o), h.oth.trans (Oth.alloc w o), fun k hk hG => by rw [Below.heap_alloc _ _ _ (Nat.lt_of_lt_of_le hk h.evo.size)]; exact h.block k hk hG⟩

/-- A new block. -/
theorem step_alloc (hs : HSat cx ι box used w) {b : Nat} {bx : Bx} {c : Array Value} (hu : ¬ used b) (hlen : bx.cs.length ≤ c.size)
    (hcs : ∀ (j : Nat) (v : Value) (y : AV), c[j]? = some v → bx.cs[j]? = some y → v.oneCell' = true ∧ RepA ι (Mof cx ι box) w v y) :
    Step cx ι box used w (iput ι b w.heap.size) (bput box [(b, some bx)]) (fun i => used i ∨ ∃ r, (i, r) ∈ [(b, some bx)]) (w.alloc (.cells c bx.t)) := by
  have hιb : ι b = none := by
    cases h : ι b with
    | none => rfl
    | some g => exact absurd (hs.dom b g h).1 hu
  have hι : ∀ i g, ι i = some g → iput ι b w.heap.size i = some g := fun i g h => by
    have : i ≠ b := by rintro rfl; rw [hιb] at h; cases h
    simp [iput, this, h]
  have hM : ∀ g, g < w.heap.size → Mof cx (iput ι b w.heap.size) (bput box [(b, some bx)]) g → Mof cx ι box g := by
    rintro g hg (h | ⟨i, x, h1, h2⟩)
    · exact .inl h
    · by_cases hi : i = b
      · subst hi; simp [iput] at h2; omega
      · simp [iput, hi] at h2; simp [bput, hi] at h1; exact .inr ⟨i, x, h1, h2⟩
  have hk : ∀ v y, RepA ι (Mof cx ι box) w v y → RepA (iput ι b w.heap.size) (Mof cx (iput ι b w.heap.size) (bput box [(b, some bx)])) (w.alloc (.cells c bx.t)) v y :=
    fun v y h => h.keep hι hM (evo_alloc w _) fun g hg _ => Below.heap_alloc _ _ _ hg
  have hub : ∀ i x, bput box [(b, some bx)] i = some x → used i ∨ ∃ r, (i, r) ∈ [(b, some bx)] := fun i x h => by
    by_cases hi : i = b
    · subst hi; exact .inr ⟨some bx, by simp⟩
    · simp [bput, hi] at h; exact .inl (hs.ub i x h)
  refine ⟨⟨hs.wi.alloc _, hs.m0, fun i g h => hι i g (hs.fix i g h), ?_, hub, ?_, ?_⟩, hk, Oth.alloc _ _⟩
  · intro i g hg
    by_cases hi : i = b
    · subst hi; simp [iput] at hg; subst hg; exact ⟨.inr ⟨some bx, by simp⟩, by simp⟩
    · simp [iput, hi] at hg; exact ⟨.inl (hs.dom i g hg).1, by have := (hs.dom i g hg).2; simp; omega⟩
  · intro i x hx
    by_cases hi : i = b
    · subst hi
      simp [bput] at hx; subst hx
      refine .inr ⟨w.heap.size, by simp [iput], .inl hs.wi.evo.size, fun h => ?_, c, heap_alloc_new w _, hlen, fun j v y hv hy => ⟨(hcs j v y hv hy).1, hk _ _ (hcs j v y hv hy).2⟩⟩
      have h1 := hs.m0 _ h
      have h2 := hs.wi.evo.size
      simp only [Cx.base] at h1
      omega
    · simp [bput, hi] at hx
      rcases hs.own i x hx with ⟨h1, h2⟩ | ⟨g, h1, h2, h3, c', h4, h5, h6⟩
      · exact .inl ⟨h1, by simp [iput, hi, h2]⟩
      exact .inr ⟨g, hι _ _ h1, h2, h3, c', by rw [Below.heap_alloc _ _ _ (hs.dom i g h1).2]; exact h4, h5, fun j v y hv hy => ⟨(h6 j v y hv hy).1, hk _ _ (h6 j v y hv hy).2⟩⟩
  · intro i i' x x' g h1 h2 h3 h4
    by_cases hi : i = b <;> by_cases hi' : i' = b
    · rw [hi, hi']
    · simp [iput, hi] at h3; simp [iput, hi'] at h4; have := (hs.dom _ _ h4).2; omega
    · simp [iput, hi'] at h4; simp [iput, hi] at h3; have := (hs.dom _ _ h3).2; omega
    · simp [iput, hi, hi'] at h3 h4; simp [bput, hi, hi'] at h1 h2; exact hs.inj i i' x x' g h1 h2 h3 h4

theorem evo_setRow {g : Nat} {c c' : Array Value} {t : TypeId} (hh : w.heap[g]? = some (.cells c t (0, 0))) (hsz : c'.size = c.size) : Evo w (w.setRow g c') := by
  refine ⟨by simp, fun k x u hx => ?_⟩
  by_cases hk : k = g
  · subst hk
    rw [hh] at hx
    injection hx with hx
    injection hx with h1 h2
    subst h1 h2
    exact ⟨c', setRow_heap w k _ c' _ _ hh, hsz⟩
  · exact ⟨x, by rw [setRow_other w g k c' hk]; exact hx, rfl⟩

/-- A block of the call's own is written. -/
theorem step_row (hs : HSat cx ι box used w) {b g : Nat} {bx bx' : Bx} {c c' : Array Value} (hb : box b = some bx) (hg : ι b = some g) (hh : w.heap[g]? = some (.cells c bx.t (0, 0))) (hsz : c'.size = c.size) (hlen : bx'.cs.length ≤ c'.size) (ht : bx'.t = bx.t)
    (hcs : ∀ (j : Nat) (v : Value) (y : AV), c'[j]? = some v → bx'.cs[j]? = some y → v.oneCell' = true ∧ RepA ι (Mof cx ι box) w v y) :
    Step cx ι box used w ι (bput box [(b, some bx')]) (fun i => used i ∨ ∃ r, (i, r) ∈ [(b, some bx')]) (w.setRow g c') := by
  have hM : ∀ k, Mof cx ι (bput box [(b, some bx')]) k → Mof cx ι box k := by
    rintro k (h | ⟨i, x, h1, h2⟩)
    · exact .inl h
    · by_cases hi : i = b
      · subst hi; exact .inr ⟨i, bx, hb, h2⟩
      · simp [bput, hi] at h1; exact .inr ⟨i, x, h1, h2⟩
  have hMg : Mof cx ι box g := .inr ⟨b, bx, hb, hg⟩
  have hk : ∀ v y, RepA ι (Mof cx ι box) w v y → RepA ι (Mof cx ι (bput box [(b, some bx')])) (w.setRow g c') v y :=
    fun v y h => h.keep (fun _ _ h => h) (fun k _ h => hM k h) (evo_setRow hh hsz) fun k _ hk => setRow_other w g k c' fun e => hk (e ▸ hMg)
  have hoth : Oth w (w.setRow g c') := fun k o h1 h2 => by
    by_cases e : k = g
    · subst e; rw [hh] at h1; injection h1 with h1; subst h1; cases h2
    · rw [setRow_other w g k c' e]; exact h1
  obtain ⟨g', h1, h2, h3, -⟩ : ∃ g, ι b = some g ∧ (cx.base ≤ g ∨ cx.G g) ∧ ¬ cx.M0 g ∧ BoxRep ι (Mof cx ι box) w g bx := by
    rcases hs.own b bx hb with ⟨-, h⟩ | h
    · rw [hg] at h; cases h
    · exact h
  rw [hg] at h1
  injection h1 with h1
  subst h1
  have hub : ∀ i x, bput box [(b, some bx')] i = some x → used i ∨ ∃ r, (i, r) ∈ [(b, some bx')] := fun i x h => by
    by_cases hi : i = b
    · subst hi; exact .inr ⟨some bx', by simp⟩
    · simp [bput, hi] at h; exact .inl (hs.ub i x h)
  refine ⟨⟨⟨hs.wi.os, hs.wi.tape, hs.wi.output, hs.wi.evo.trans (evo_setRow hh hsz), hs.wi.oth.trans hoth, fun k hk hG => ?_⟩, hs.m0, hs.fix, ?_, hub, ?_, ?_⟩, hk, hoth⟩
  · rw [setRow_other w g k c' (by
      rintro rfl
      rcases h2 with h2 | h2
      · omega
      · exact hG h2)]
    exact hs.wi.block k hk hG
  · intro i k hi
    exact ⟨.inl (hs.dom i k hi).1, by have := (hs.dom i k hi).2; simpa using this⟩
  · intro i x hx
    by_cases hi : i = b
    · subst hi
      simp [bput] at hx; subst hx
      exact .inr ⟨g, hg, h2, h3, c', by rw [ht]; exact setRow_heap w g _ c' _ _ hh, hlen, fun j v y hv hy => ⟨(hcs j v y hv hy).1, hk _ _ (hcs j v y hv hy).2⟩⟩
    · simp [bput, hi] at hx
      rcases hs.own i x hx with h0 | ⟨k, e1, e2, e3, d, e4, e5, e6⟩
      · exact .inl h0
      have hkg : k ≠ g := by rintro rfl; exact hi (hs.inj i b x bx k hx hb e1 hg)
      exact .inr ⟨k, e1, e2, e3, d, by rw [setRow_other w g k c' hkg]; exact e4, e5, fun j v y hv hy => ⟨(e6 j v y hv hy).1, hk _ _ (e6 j v y hv hy).2⟩⟩
  · intro i i' x x' k h1 h2 h3 h4
    have e : ∀ i x, bput box [(b, some bx')] i = some x → ∃ x, box i = some x := fun i x h => by
      by_cases hi : i = b
      · subst hi; exact ⟨bx, hb⟩
      · simp [bput, hi] at h; exact ⟨x, h⟩
    obtain ⟨y, hy⟩ := e i x h1
    obtain ⟨y', hy'⟩ := e i' x' h2
    exact hs.inj i i' y y' k hy hy' h3 h4

/-- An operation that makes a block. -/
theorem yields_new {o : Oper} {ρ : Operand → AV} {x : AV} {b : Nat} {bx : Bx}
    (h : ∀ ι M (a : Act) w, (∀ y, y ∈ o.op.operands → RepA ι M w (a.eval y) (ρ y)) → ∃ (v : Value) (c : Array Value), (execOp a.eval o).run P w = .ok (.value v) (w.alloc (.cells c bx.t)) ∧ bx.cs.length ≤ c.size ∧
      (∀ (j : Nat) (v : Value) (y : AV), c[j]? = some v → bx.cs[j]? = some y → v.oneCell' = true ∧ RepA ι M w v y) ∧ ∀ ι' M', ι' b = some w.heap.size → RepA ι' M' (w.alloc (.cells c bx.t)) v x) : Yields P cx o ρ ⟨[], x, [(b, some bx)]⟩ := by
  intro ι box used a w hs _ _ hfr hops K Q hK
  obtain ⟨v, c, hrun, hlen, hcs, hv⟩ := h ι (Mof cx ι box) a w hops
  have hu : ¬ used b := by
    rcases hfr b bx (by simp) with ⟨y, hy⟩ | h
    · simp at hy
    · exact h
  unfold Oper.wp
  rw [hrun, Oper.upon_value]
  exact hK v _ _ (step_alloc hs hu hlen hcs) (hv _ _ (by simp [iput]))

theorem y_box {o : Oper} {ρ : Operand → AV} {t : TypeId} {y : Operand} {b : Nat} (ho : o.op = .box t y) (hf : (ρ y).flat = true) : Yields P cx o ρ ⟨[], .ptr b 0, [(b, some ⟨t, (ρ y).cells⟩)]⟩ := by
  refine yields_new fun ι M a w hops => ?_
  obtain ⟨h1, h2⟩ := (hops y (mem_ops ho (by simp [Op.operands]))).cells hf
  refine ⟨.pointer (some ⟨w.heap.size, 0, none⟩), (a.eval y).cells, ?_, by simp [h1], h2, fun ι' M' h => .ptr h⟩
  simp [execOp, ho, Instr.box, newVar, newRow, newObj, Sem.run]

theorem y_alloc {o : Oper} {ρ : Operand → AV} {t : TypeId} {z : Value} {b : Nat} (ho : o.op = .alloc t) (hz : ∀ w, (zeroValue t).run P w = .ok z w) (h1 : z.cells.all (·.oneCell') = true) :
    Yields P cx o ρ ⟨[], .ptr b 0, [(b, some ⟨t, z.cells.toList.map .v⟩)]⟩ := by
  refine yields_new fun ι M a w hops => ?_
  refine ⟨.pointer (some ⟨w.heap.size, 0, none⟩), z.cells, ?_, by simp, ?_, fun ι' M' h => .ptr h⟩
  · simp [execOp, ho, Instr.alloc, hz, newVar, newRow, newObj, Sem.run]
  · intro j v y hv hy
    simp [hv] at hy
    subst hy
    exact ⟨(Array.all_eq_true_iff_forall_mem.1 h1) v (Array.mem_of_getElem? hv), .d (.v _)⟩

/-- The cells behind a store. -/
def splice (cs : List AV) (off : Nat) (xs : List AV) : List AV := cs.take off ++ xs ++ cs.drop (off + xs.length)

theorem y_store {o : Oper} {ρ : Operand → AV} {t : TypeId} {y u : Operand} {n b off : Nat} {bx : Bx} (ho : o.op = .store t y u) (hn : ∀ w, (sizeOf t).run P w = .ok n w) (hy : ρ y = .ptr b off) (hf : (ρ u).flat = true)
    (hu : (ρ u).cells.length = n) (hle : off + n ≤ bx.cs.length) (hn0 : 0 < n) : Yields P cx o ρ ⟨[(b, bx)], .v undef, [(b, some ⟨bx.t, splice bx.cs off (ρ u).cells⟩)]⟩ := by
  intro ι box used a w hs _ hfp _ hops K Q hK
  have hb : box b = some bx := hfp b bx (by simp)
  have hne : bx.cs ≠ [] := by intro h; rw [h] at hle; simp at hle; omega
  obtain ⟨g, hg, hgb, hgM, c, hh, hlen, hcs⟩ := hs.ne hb hne
  obtain ⟨g', hg', hv⟩ : ∃ g, ι b = some g ∧ a.eval y = .pointer (some ⟨g, off, none⟩) := by
    have := hops y (mem_ops ho (by simp [Op.operands]))
    rw [hy] at this
    exact this.ptr'
  rw [hg] at hg'
  injection hg' with hg'
  subst hg'
  obtain ⟨hsz, hel⟩ := (hops u (mem_ops ho (by simp [Op.operands]))).cells hf
  have hone : ∀ x, x ∈ (a.eval u).cells.toList → x.oneCell' = true := by
    intro x hx
    obtain ⟨i, hi⟩ := List.mem_iff_getElem?.1 hx
    have hi' : (a.eval u).cells[i]? = some x := by simpa using hi
    have hlt : i < (a.eval u).cells.size := (Array.getElem?_eq_some_iff.1 hi').1
    exact (hel i x _ hi' (List.getElem?_eq_getElem (by omega))).1
  have hlu : (a.eval u).cells.toList.length = n := by simp; omega
  have hrun := run_storeCells_at (P := P) g off bx.t (a.eval u).cells.toList 0 c w hh (by rw [hlu]; omega) hone
  generalize hc' : (List.take (off + 0) c.toList ++ (a.eval u).cells.toList ++ List.drop (off + 0 + (a.eval u).cells.toList.length) c.toList).toArray = c' at hrun
  have hrun2 : (execOp a.eval o).run P w = .ok .skip (w.setRow g c') := by
    have hs1 : (a.eval u).cells.size = n := by omega
    simp [execOp, ho, Instr.storeAt, hv, Instr.sureAddr, storeVar, hn, hs1, hrun]
  unfold Oper.wp
  rw [hrun2, Oper.upon_skip]
  refine hK undef ι _ (step_row hs (bx' := ⟨bx.t, splice bx.cs off (ρ u).cells⟩) hb hg hh ?_ ?_ rfl ?_) (.d (.v _))
  · rw [← hc']; simp; omega
  · rw [← hc']; simp [splice, hu]; omega
  · intro j v z hjv hjz
    rw [← hc'] at hjv
    simp only [splice, hu] at hjz
    simp only [Nat.add_zero, hlu, List.getElem?_toArray] at hjv
    have hto : (c.toList.take off).length = off := by simp; omega
    have htb : (bx.cs.take off).length = off := by simp; omega
    rw [List.append_assoc] at hjv hjz
    by_cases h1 : j < off
    · rw [List.getElem?_append_left (by omega)] at hjv hjz
      rw [List.getElem?_take, if_pos h1] at hjv hjz
      exact hcs j v z (by simpa using hjv) hjz
    · rw [List.getElem?_append_right (by omega), hto] at hjv
      rw [List.getElem?_append_right (by omega), htb] at hjz
      by_cases h2 : j - off < n
      · rw [List.getElem?_append_left (by omega)] at hjv
        rw [List.getElem?_append_left (by omega)] at hjz
        exact hel (j - off) v z (by simpa using hjv) hjz
      · rw [List.getElem?_append_right (by omega), hlu, List.getElem?_drop] at hjv
        rw [List.getElem?_append_right (by omega), hu, List.getElem?_drop] at hjz
        have e : off + n + (j - off - n) = j := by omega
        rw [e] at hjv hjz
        exact hcs j v z (by simpa using hjv) hjz
end

end Go.Proofs.YtkonljmmdifnaaaGreat.V
