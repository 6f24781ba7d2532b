/- General words for readings of slices of structs in memory, and small lemmas on endings and worlds. -/
import Derived.Test.YthmjjogmgjagmaaRows
import Derived.WalkKit
import Derived.WalkSpells
import Derived.WalkLawsBesides
import Derived.Deep.QuietTactic
import Derived.Deep.Slices
import Derived.Deep.Fields
import Derived.BigQuiet
import Derived.Lib.Hide
namespace Go.Proofs.Ythmjjogmgjagmaa
open Go.RowKit

theorem ret_int {k : IntKind} {a b : Int} (h : a = b) : Ending.returned (.int k a) = .returned (.int k b) := by rw [h]
theorem ret_bool {a b : Bool} (h : a = b) : Ending.returned (.bool a) = .returned (.bool b) := by rw [h]

/-- What a walk hands on of the world: below B all is as it was. -/
theorem below_drewN {B : Nat} {a w : World} (h : Below B a w) (n : Nat) : Below B a (w.drewN n) := ⟨h.os, h.tape, h.output, h.size, h.block⟩

/-- behind a callee -/
theorem below_call {B B' : Nat} {a W w1 : World} (hb : Below B' W w1) (h : Below B a W) (hB : B ≤ B') : Below B a w1 := h.trans (hb.mono hB)

/-- old cells and marks read as before -/
theorem bcell {W w1 : World} (hb : Below W.heap.size W w1) : (∀ b o, b < W.heap.size → w1.cell? ⟨b, o, none⟩ = W.cell? ⟨b, o, none⟩) ∧ (∀ b o, b < W.heap.size → w1.frozen? ⟨b, o, none⟩ = W.frozen? ⟨b, o, none⟩) :=
  ⟨fun b o h => hb.cell (p := ⟨b, o, none⟩) h, fun b o h => hb.frozen (p := ⟨b, o, none⟩) h⟩

/-- A quiet region's callee that leaves the world alone. -/
theorem quiet_left {P : Program} {f : FuncId} {args : Array Value} {w : World} {n : Nat} {v : Value}
    (h : Calls P f args (w.drewN n) fun e w' => e = .returned v ∧ w.drewN n = w') : Calls P f args (w.drewN n) fun e w'' => e = .returned v ∧ ∃ m, w'' = w.drewN m :=
  h.mono fun _ _ ⟨he, hm⟩ => ⟨he, n, hm.symm⟩

/-- 'l' lies at A: element i is the k cells from 'off + i * k' on, which read as R says; all below block B. -/
def RowsAt {α : Type} (w : World) (B k : Nat) (R : List Value → α → Prop) (A : Option Addr) (l : List α) : Prop :=
  l ≠ [] → ∃ b off, A = some ⟨b, off, none⟩ ∧ b < B ∧ ∀ i x, l[i]? = some x → ∃ vs, R vs x ∧ vs.length = k ∧ ∀ j v, vs[j]? = some v → w.cell? ⟨b, off + i * k + j, none⟩ = some v

section
variable {α : Type} {w w' : World} {B B' k : Nat} {R : List Value → α → Prop} {A : Option Addr} {l : List α}
theorem RowsAt.below (h : RowsAt w B k R A l) (hb : Below B w w') : RowsAt w' B k R A l := by
  intro hl
  obtain ⟨b, off, hA, hlt, hc⟩ := h hl
  refine ⟨b, off, hA, hlt, fun i x hx => ?_⟩
  obtain ⟨vs, hR, hlen, hv⟩ := hc i x hx
  exact ⟨vs, hR, hlen, fun j v hj => by rw [hb.cell hlt]; exact hv j v hj⟩
theorem RowsAt.mono (h : RowsAt w B k R A l) (hB : B ≤ B') : RowsAt w B' k R A l := by
  intro hl
  obtain ⟨b, off, hA, hlt, hc⟩ := h hl
  exact ⟨b, off, hA, Nat.lt_of_lt_of_le hlt hB, hc⟩
theorem RowsAt.mono_rel {R' : List Value → α → Prop} (h : RowsAt w B k R A l) (hR : ∀ vs x, x ∈ l → R vs x → R' vs x) : RowsAt w B k R' A l := by
  intro hl
  obtain ⟨b, off, hA, hlt, hc⟩ := h hl
  refine ⟨b, off, hA, hlt, fun i x hx => ?_⟩
  obtain ⟨vs, h1, h2, h3⟩ := hc i x hx
  exact ⟨vs, hR vs x (List.mem_of_getElem? hx) h1, h2, h3⟩
end

/-- A slice's value that reads as 'l'. -/
def SlAt {α : Type} (w : World) (B k : Nat) (R : List Value → α → Prop) (v : Value) (l : List α) : Prop :=
  ∃ A cap, v = .slice A l.length cap ∧ l.length ≤ maxLen ∧ RowsAt w B k R A l

section
variable {α : Type} {w w' : World} {B B' k : Nat} {R : List Value → α → Prop} {v : Value} {l : List α}
theorem SlAt.below (h : SlAt w B k R v l) (hb : Below B w w') : SlAt w' B k R v l := by
  obtain ⟨A, cap, hv, hm, hr⟩ := h
  exact ⟨A, cap, hv, hm, hr.below hb⟩
theorem SlAt.mono (h : SlAt w B k R v l) (hB : B ≤ B') : SlAt w B' k R v l := by
  obtain ⟨A, cap, hv, hm, hr⟩ := h
  exact ⟨A, cap, hv, hm, hr.mono hB⟩
end

/-- Block g holds the cells cs (from its head on), none frozen. -/
def Box (w : World) (g : Nat) (cs : List Value) : Prop := g < w.heap.size ∧ ∀ j v, cs[j]? = some v → w.cell? ⟨g, j, none⟩ = some v ∧ w.frozen? ⟨g, j, none⟩ = false

section
variable {w w' : World} {g B : Nat} {cs : List Value}
theorem Box.below (h : Box w g cs) (hb : Below B w w') (hg : g < B) : Box w' g cs := by
  refine ⟨Nat.lt_of_lt_of_le h.1 hb.size, fun j v hj => ?_⟩
  obtain ⟨h1, h2⟩ := h.2 j v hj
  exact ⟨(hb.cell (p := ⟨g, j, none⟩) hg).trans h1, (hb.frozen (p := ⟨g, j, none⟩) hg).trans h2⟩
theorem Box.new (w : World) (t : TypeId) (a : Array Value) {g : Nat} (hg : g = w.heap.size) (h : a.toList = cs) : Box (w.alloc (.cells a t)) g cs := by
  subst hg h
  refine ⟨by simp, fun j v hj => ?_⟩
  rw [cell_of_row _ _ _ _ _ _ (heap_alloc_new w _)]
  refine ⟨by simpa using hj, ?_⟩
  have := heap_alloc_new w (.cells a t)
  simp only [World.frozen?, this]
  simp
theorem Box.alloc (h : Box w g cs) (o : Obj) : Box (w.alloc o) g cs := by
  have hg := h.1
  exact h.below ((Below.refl w.heap.size w).alloc (Nat.le_refl _) o) hg
theorem Box.set_other (h : Box w g cs) {p : Addr} (hp : p.block ≠ g) (u : Value) : Box (w.setCell p u) g cs := by
  have e : (w.setCell p u).heap[g]? = w.heap[g]? := Below.heap_setCell w p u g (fun e => hp e.symm)
  refine ⟨by simpa [World.setCell] using h.1, fun j v hj => ?_⟩
  obtain ⟨h1, h2⟩ := h.2 j v hj
  exact ⟨(World.cell?_of_block (a := ⟨g, j, none⟩) e).trans h1, (World.frozen?_of_block (a := ⟨g, j, none⟩) e).trans h2⟩
theorem Box.drewN (h : Box w g cs) (n : Nat) : Box (w.drewN n) g cs := h
end

/-- an int's one cell -/
def isInt (vs : List Value) (n : Int) : Prop := vs = [.int .i64 n]
theorem flatMap_at {α β : Type} (enc : α → List β) (k : Nat) (hk : ∀ x, (enc x).length = k) : ∀ (l : List α) (i : Nat) (x : α) (j : Nat) (v : β), l[i]? = some x → (enc x)[j]? = some v → (l.flatMap enc)[i * k + j]? = some v
  | [], i, x, j, v, h, _ => by simp at h
  | a :: l, 0, x, j, v, h, hj => by
    have e : a = x := by simpa using h
    subst e
    have hjl : j < (enc a).length := (List.getElem?_eq_some_iff.1 hj).1
    simp only [List.flatMap_cons, Nat.zero_mul, Nat.zero_add]
    rw [List.getElem?_append_left hjl]
    exact hj
  | a :: l, i + 1, x, j, v, h, hj => by
    have h' : l[i]? = some x := by simpa using h
    have ih := flatMap_at enc k hk l i x j v h' hj
    simp only [List.flatMap_cons]
    rw [List.getElem?_append_right (by rw [hk, Nat.add_mul]; omega), hk, show (i + 1) * k + j - k = i * k + j by rw [Nat.add_mul]; omega]
    exact ih

/-- A block that was made just now, written out. -/
theorem RowsAt.made {α : Type} {R : List Value → α → Prop} {k : Nat} (enc : α → List Value) (hk : ∀ x, (enc x).length = k) (w : World) (t : TypeId) (l : List α) (hR : ∀ x, x ∈ l → R (enc x) x)
    {cs : Array Value} {g B : Nat} (hcs : cs = (l.flatMap enc).toArray) (hg : g = w.heap.size) (hB : g < B) :
    RowsAt (w.alloc (.cells cs t)) B k R (some ⟨g, 0, none⟩) l := by
  subst hcs hg
  intro _
  refine ⟨_, _, rfl, hB, fun i x hx => ⟨enc x, hR x (List.mem_of_getElem? hx), hk x, fun j v hj => ?_⟩⟩
  have h := flatMap_at enc k hk l i x j v hx hj
  rw [cell_of_row _ _ _ _ _ _ (heap_alloc_new w _)]
  simpa using h

theorem isInt_made (w : World) (t : TypeId) (l : List Int) {cs : Array Value} {g B : Nat} (hcs : cs = (l.flatMap fun n => [Value.int .i64 n]).toArray) (hg : g = w.heap.size) (hB : g < B) :
    RowsAt (w.alloc (.cells cs t)) B 1 isInt (some ⟨g, 0, none⟩) l :=
  RowsAt.made (R := isInt) (k := 1) (fun n => [Value.int .i64 n]) (fun _ => rfl) w t l (fun _ _ => rfl) hcs hg hB

theorem ints_at {w : World} {B : Nat} {A : Option Addr} {l : List Int} (h : RowsAt w B 1 isInt A l) (hl : 0 < l.length) :
    ∃ b off, A = some ⟨b, off, none⟩ ∧ b < B ∧ ∀ i, i < l.length → w.cell? ⟨b, off + i, none⟩ = some (.int .i64 (l.getD i 0)) := by
  obtain ⟨b, off, hA, hb, hc⟩ := h (by rintro rfl; simp at hl)
  refine ⟨b, off, hA, hb, fun i hi => ?_⟩
  obtain ⟨vs, rfl, _, hv⟩ := hc i (l.getD i 0) (by simp [hi])
  simpa using hv 0 _ rfl

end Go.Proofs.Ythmjjogmgjagmaa
