/- Contracts: terms.all (at Right's four closures), terms.Right. -/
import Derived.Test.YthmjjogmgjagmaaC5
import Derived.Defers
namespace Go.Proofs.Ythmjjogmgjagmaa
open Go.RowKit

theorem all1_any (p q r : Addr) (n : Int) (A : Option Addr) (len cap : Nat) (x : Value) (u : FrameMode) (w : World) (hp : w.cell? p = some (.int .i64 n)) (hq : w.cell? q = some (.slice A len cap)) (hr : w.cell? r = some x) (hf : w.frozen? r = false) :
    CallsD Try.prog 28 #[.pointer (some p), .pointer (some q), .pointer (some r)] u w fun e u' w' => u' = u ∧ (e = .returned (.tuple #[]) ∧ w' = w.setCell r (.bool (n == (len : Int)))) := by
  go_enter_d Try.func28, Try.ntmps28
  go_wp2
  go_end0
  exact ⟨rfl, rfl⟩

/-- the box of a policy's terms -/
def termsCells (t : Terms) (A : Option Addr) (cap : Nat) : Array Value :=
  #[.int .i64 t.from_, .int .i64 t.to_, .int .i64 t.kind, .int .i64 t.value, .int .i64 t.age, .int .i64 t.zone, .slice A t.covers.length cap]

set_option maxHeartbeats 400000 in
theorem right1_any (g : Nat) (a b : Int) (w : World) (hg : g < w.heap.size) (h0 : w.cell? ⟨g, 0, none⟩ = some (.int .i64 a)) (h1 : w.cell? ⟨g, 1, none⟩ = some (.int .i64 b)) :
    Calls Try.prog 19 #[.pointer (some ⟨g, 0, none⟩)] w fun e w' => e = .returned (.bool (spanRight a b)) ∧ Below w.heap.size w w' := by
  go_enter Try.func19, Try.ntmps19
  go_wp2_with (go_at_call 20; refine (spanRight_any _ _ _).mono ?_; rintro e w1 ⟨rfl, hb1⟩)
  go_ret
  exact ⟨rfl, hb1⟩

def manyRight (a b : Int) : Bool := decide (1 ≤ spanMany a b) && decide (spanMany a b ≤ 1100)

set_option maxHeartbeats 400000 in
theorem right2_any (g : Nat) (a b : Int) (w : World) (hg : g < w.heap.size) (h0 : w.cell? ⟨g, 0, none⟩ = some (.int .i64 a)) (h1 : w.cell? ⟨g, 1, none⟩ = some (.int .i64 b)) :
    Calls Try.prog 21 #[.pointer (some ⟨g, 0, none⟩)] w fun e w' => e = .returned (.bool (manyRight a b)) ∧ Below w.heap.size w w' := by
  go_enter Try.func21, Try.ntmps21
  go_wp2_with fail
  refine (many_any _ _ _).mono ?_
  rintro e w1 ⟨rfl, hb1⟩
  obtain ⟨hc1, hf1⟩ := bcell hb1
  go_wp2_with fail
  · refine (many_any _ _ _).mono ?_
    rintro e w2 ⟨rfl, hb2⟩
    go_wp2
    go_ret
    refine ⟨ret_bool ?_, (by have hs0 := Below.size hb1; have hs1 := Below.size hb2; repeat' (first | (with_reducible exact hb1) | (with_reducible refine below_call hb2 ?_ ?_) | (with_reducible exact Below.refl _ _) | (with_reducible refine Below.alloc ?_ ?_ _) | (with_reducible refine Below.setCell ?_ ?_ _) | (with_reducible refine below_drewN ?_ _) | (with_reducible refine Below.drew ?_) | (with_reducible exact Nat.le_refl _) | omega | (simp; done) | ((try simp at hs0); (try simp at hs1);  (try simp); omega)))⟩
    rw [Bool.eq_iff_iff]
    simp [manyRight]
    omega
  · go_ret
    refine ⟨ret_bool ?_, hb1⟩
    rw [Bool.eq_iff_iff]
    simp [manyRight]
    omega

set_option maxHeartbeats 400000 in
theorem right3_any (g : Nat) (a b c d : Int) (w : World) (hg : g < w.heap.size) (h0 : w.cell? ⟨g, 2, none⟩ = some (.int .i64 a)) (h1 : w.cell? ⟨g, 3, none⟩ = some (.int .i64 b)) (h2 : w.cell? ⟨g, 4, none⟩ = some (.int .i64 c)) (h3 : w.cell? ⟨g, 5, none⟩ = some (.int .i64 d)) :
    Calls Try.prog 23 #[.pointer (some ⟨g, 0, none⟩)] w fun e w' => e = .returned (.bool (riskRight a b c d)) ∧ Below w.heap.size w w' := by
  go_enter Try.func23, Try.ntmps23
  go_wp2_with (go_at_call 16; refine (riskRight_any _ _ _ _ _).mono ?_; rintro e w1 ⟨rfl, hb1⟩)
  go_ret
  exact ⟨rfl, hb1⟩

set_option maxHeartbeats 400000 in
theorem right4_any (g : Nat) (A : Option Addr) (n cap : Nat) (l : List Cover) (w : World) (hg : g < w.heap.size) (h0 : w.cell? ⟨g, 6, none⟩ = some (.slice A n cap)) (hn : n = l.length) (hl : n ≤ maxLen) (hA : RowsAt w w.heap.size 5 isCover A l) :
    Calls Try.prog 24 #[.pointer (some ⟨g, 0, none⟩)] w fun e w' => e = .returned (.bool (coversRight l)) ∧ Below w.heap.size w w' := by
  have HA := Lib.hid hA
  have Hn := Lib.hid hn
  have Hl := Lib.hid hl
  clear hA hn hl
  go_enter Try.func24, Try.ntmps24
  go_wp2_with (go_at_call 11; refine (covers_any _ _ _ l _ Hn.out Hl.out HA.out).mono ?_; rintro e w1 ⟨rfl, hb1⟩)
  go_ret
  exact ⟨rfl, hb1⟩

end Go.Proofs.Ythmjjogmgjagmaa
