/- Contracts: terms.all at Right's four closures, terms.Right. -/
import Derived.Test.YthmjjogmgjagmaaC6
namespace Go.Proofs.Ythmjjogmgjagmaa
open Go.RowKit

set_option maxHeartbeats 1000000 in
/-- all, at four closures each of which answers a bool and leaves what was there alone. -/
theorem all_any (g : Nat) (P : Addr) (b0 b1 b2 b3 : Bool) (w : World) (hg : g < w.heap.size)
    (h0 : w.cell? ⟨g, 0, none⟩ = some (.func (.func 19) #[] #[.pointer (some P)])) (h1 : w.cell? ⟨g, 1, none⟩ = some (.func (.func 21) #[] #[.pointer (some P)]))
    (h2 : w.cell? ⟨g, 2, none⟩ = some (.func (.func 23) #[] #[.pointer (some P)])) (h3 : w.cell? ⟨g, 3, none⟩ = some (.func (.func 24) #[] #[.pointer (some P)]))
    (k0 : ∀ W, Below w.heap.size w W → Calls Try.prog 19 #[.pointer (some P)] W fun e w' => e = .returned (.bool b0) ∧ Below W.heap.size W w')
    (k1 : ∀ W, Below w.heap.size w W → Calls Try.prog 21 #[.pointer (some P)] W fun e w' => e = .returned (.bool b1) ∧ Below W.heap.size W w')
    (k2 : ∀ W, Below w.heap.size w W → Calls Try.prog 23 #[.pointer (some P)] W fun e w' => e = .returned (.bool b2) ∧ Below W.heap.size W w')
    (k3 : ∀ W, Below w.heap.size w W → Calls Try.prog 24 #[.pointer (some P)] W fun e w' => e = .returned (.bool b3) ∧ Below W.heap.size W w') :
    Calls Try.prog 18 #[.slice (some ⟨g, 0, none⟩) 4 4] w fun e w' => e = .returned (.bool (b0 && b1 && b2 && b3)) ∧ Below w.heap.size w w' := by
  have K0 := Lib.hid k0
  have K1 := Lib.hid k1
  have K2 := Lib.hid k2
  have K3 := Lib.hid k3
  clear k0 k1 k2 k3
  have hmf : ∀ (fn : Fn) (first cap : Array Value) (w : World), (Instr.makeFunc fn first cap).run Try.prog w = .ok (.func fn first cap) w := fun _ _ _ _ => rfl
  go_enter_defers Try.func18, Try.ntmps18
  go_wp2
  go_loopw [9] (fun i wr => ∃ (k : Nat), k ≤ 4 ∧ i = .int .i64 k ∧ ([b0, b1, b2, b3].take k).all id = true ∧ Below w.heap.size w wr ∧ w.heap.size + 1 + 1 < wr.heap.size ∧
      wr.cell? ⟨w.heap.size, 0, none⟩ = some (.slice (some ⟨g, 0, none⟩) 4 4) ∧ wr.cell? ⟨w.heap.size + 1, 0, none⟩ = some (.bool false) ∧ wr.frozen? ⟨w.heap.size + 1, 0, none⟩ = false ∧
      wr.cell? ⟨w.heap.size + 1 + 1, 0, none⟩ = some (.int .i64 k) ∧ wr.frozen? ⟨w.heap.size + 1 + 1, 0, none⟩ = false) (fun i _ => 4 - (intOf i).toNat)
  case atStart => exact ⟨0, by omega, rfl, rfl, (by repeat' (first | (with_reducible exact Below.refl _ _) | (with_reducible refine Below.alloc ?_ ?_ _) | (with_reducible refine Below.setCell ?_ ?_ _) | (with_reducible refine below_drewN ?_ _) | (with_reducible refine Below.drew ?_) | (with_reducible exact Nat.le_refl _) | omega | (simp; done) | ( (try simp); omega))), by simp, by simp [go_sem], by simp [go_sem], by simp [go_sem], by simp [go_sem], by simp [go_sem]⟩
  case round =>
    obtain ⟨k, hk, rfl, hs, hwr, hz, r0, r1, r2, r3, r4⟩ := hrel
    have Hs := Lib.hid hs
    clear hs
    have Hwr := Lib.hid hwr
    have z0 : w.heap.size < wr.heap.size := by omega
    have z1 : w.heap.size + 1 < wr.heap.size := by omega
    have hgz : g < wr.heap.size := by omega
    rcases (by omega : k = 0 ∨ k = 1 ∨ k = 2 ∨ k = 3 ∨ k = 4) with rfl | rfl | rfl | rfl | rfl
    · have hw0 : wr.cell? _ = _ := (hwr.cell (p := ⟨g, 0, none⟩) hg).trans h0
      clear h0 h1 h2 h3 hwr
      go_wp2_with fail
      refine (K0.out _ Hwr.out).mono ?_
      rintro e w1 ⟨rfl, hb1⟩
      obtain ⟨hc1, hf1⟩ := bcell hb1
      have hz1 : w.heap.size + 1 + 1 < w1.heap.size := by have := hb1.size; omega
      have hq0 := (hc1 w.heap.size 0 z0).trans r0
      have hq1 := (hc1 (w.heap.size + 1) 0 z1).trans r1
      have hq2 := (hf1 (w.heap.size + 1) 0 z1).trans r2
      have hq3 := (hc1 (w.heap.size + 1 + 1) 0 hz).trans r3
      have hq4 := (hf1 (w.heap.size + 1 + 1) 0 hz).trans r4
      clear hc1 hf1
      cases b0
      · go_wp2
        refine leaves_cons (f := 28) (args := #[.pointer (some ⟨w.heap.size + 1 + 1, 0, none⟩), .pointer (some ⟨w.heap.size, 0, none⟩), .pointer (some ⟨w.heap.size + 1, 0, none⟩)]) (by simp) (by simp [go_sem]) ?_
        refine (all1_any _ _ _ _ _ _ _ _ .returning _ hq3 hq0 hq1 hq2).mono ?_
        rintro e u' w'' ⟨rfl, rfl, rfl⟩
        simp only [Leaves, settle]
        refine ⟨.bool false, by simp [results, Try.results18, go_sem, hq1], by simp, (by have hs0 := Below.size Hwr.out; have hs1 := Below.size hb1; repeat' (first | (with_reducible exact Hwr.out) | (with_reducible refine below_call hb1 ?_ ?_) | (with_reducible exact Below.refl _ _) | (with_reducible refine Below.alloc ?_ ?_ _) | (with_reducible refine Below.setCell ?_ ?_ _) | (with_reducible refine below_drewN ?_ _) | (with_reducible refine Below.drew ?_) | (with_reducible exact Nat.le_refl _) | omega | (simp; done) | ((try simp at hs0); (try simp at hs1);  (try simp); omega)))⟩
      · go_wp2
        go_roundw
        case rel =>
          refine ⟨0 + 1, by omega, by rfl, (by have hh := Hs.out; first | rfl | simpa using hh), (by have hs0 := Below.size Hwr.out; have hs1 := Below.size hb1; repeat' (first | (with_reducible exact Hwr.out) | (with_reducible refine below_call hb1 ?_ ?_) | (with_reducible exact Below.refl _ _) | (with_reducible refine Below.alloc ?_ ?_ _) | (with_reducible refine Below.setCell ?_ ?_ _) | (with_reducible refine below_drewN ?_ _) | (with_reducible refine Below.drew ?_) | (with_reducible exact Nat.le_refl _) | omega | (simp; done) | ((try simp at hs0); (try simp at hs1);  (try simp); omega))), by simpa [World.setCell] using hz1, ?_, ?_, ?_, ?_, ?_⟩
          all_goals simp [go_sem, hq0, hq1, hq2, hq3, hq4]
        case measure => simp [intOf]
    · have hw1 : wr.cell? _ = _ := (hwr.cell (p := ⟨g, 1, none⟩) hg).trans h1
      clear h0 h1 h2 h3 hwr
      go_wp2_with fail
      refine (K1.out _ Hwr.out).mono ?_
      rintro e w1 ⟨rfl, hb1⟩
      obtain ⟨hc1, hf1⟩ := bcell hb1
      have hz1 : w.heap.size + 1 + 1 < w1.heap.size := by have := hb1.size; omega
      have hq0 := (hc1 w.heap.size 0 z0).trans r0
      have hq1 := (hc1 (w.heap.size + 1) 0 z1).trans r1
      have hq2 := (hf1 (w.heap.size + 1) 0 z1).trans r2
      have hq3 := (hc1 (w.heap.size + 1 + 1) 0 hz).trans r3
      have hq4 := (hf1 (w.heap.size + 1 + 1) 0 hz).trans r4
      clear hc1 hf1
      cases b1
      · go_wp2
        refine leaves_cons (f := 28) (args := #[.pointer (some ⟨w.heap.size + 1 + 1, 0, none⟩), .pointer (some ⟨w.heap.size, 0, none⟩), .pointer (some ⟨w.heap.size + 1, 0, none⟩)]) (by simp) (by simp [go_sem]) ?_
        refine (all1_any _ _ _ _ _ _ _ _ .returning _ hq3 hq0 hq1 hq2).mono ?_
        rintro e u' w'' ⟨rfl, rfl, rfl⟩
        simp only [Leaves, settle]
        refine ⟨.bool false, by simp [results, Try.results18, go_sem, hq1], by simp, (by have hs0 := Below.size Hwr.out; have hs1 := Below.size hb1; repeat' (first | (with_reducible exact Hwr.out) | (with_reducible refine below_call hb1 ?_ ?_) | (with_reducible exact Below.refl _ _) | (with_reducible refine Below.alloc ?_ ?_ _) | (with_reducible refine Below.setCell ?_ ?_ _) | (with_reducible refine below_drewN ?_ _) | (with_reducible refine Below.drew ?_) | (with_reducible exact Nat.le_refl _) | omega | (simp; done) | ((try simp at hs0); (try simp at hs1);  (try simp); omega)))⟩
      · go_wp2
        go_roundw
        case rel =>
          refine ⟨1 + 1, by omega, by rfl, (by have hh := Hs.out; first | rfl | simpa using hh), (by have hs0 := Below.size Hwr.out; have hs1 := Below.size hb1; repeat' (first | (with_reducible exact Hwr.out) | (with_reducible refine below_call hb1 ?_ ?_) | (with_reducible exact Below.refl _ _) | (with_reducible refine Below.alloc ?_ ?_ _) | (with_reducible refine Below.setCell ?_ ?_ _) | (with_reducible refine below_drewN ?_ _) | (with_reducible refine Below.drew ?_) | (with_reducible exact Nat.le_refl _) | omega | (simp; done) | ((try simp at hs0); (try simp at hs1);  (try simp); omega))), by simpa [World.setCell] using hz1, ?_, ?_, ?_, ?_, ?_⟩
          all_goals simp [go_sem, hq0, hq1, hq2, hq3, hq4]
        case measure => simp [intOf]
    · have hw2 : wr.cell? _ = _ := (hwr.cell (p := ⟨g, 2, none⟩) hg).trans h2
      clear h0 h1 h2 h3 hwr
      go_wp2_with fail
      refine (K2.out _ Hwr.out).mono ?_
      rintro e w1 ⟨rfl, hb1⟩
      obtain ⟨hc1, hf1⟩ := bcell hb1
      have hz1 : w.heap.size + 1 + 1 < w1.heap.size := by have := hb1.size; omega
      have hq0 := (hc1 w.heap.size 0 z0).trans r0
      have hq1 := (hc1 (w.heap.size + 1) 0 z1).trans r1
      have hq2 := (hf1 (w.heap.size + 1) 0 z1).trans r2
      have hq3 := (hc1 (w.heap.size + 1 + 1) 0 hz).trans r3
      have hq4 := (hf1 (w.heap.size + 1 + 1) 0 hz).trans r4
      clear hc1 hf1
      cases b2
      · go_wp2
        refine leaves_cons (f := 28) (args := #[.pointer (some ⟨w.heap.size + 1 + 1, 0, none⟩), .pointer (some ⟨w.heap.size, 0, none⟩), .pointer (some ⟨w.heap.size + 1, 0, none⟩)]) (by simp) (by simp [go_sem]) ?_
        refine (all1_any _ _ _ _ _ _ _ _ .returning _ hq3 hq0 hq1 hq2).mono ?_
        rintro e u' w'' ⟨rfl, rfl, rfl⟩
        simp only [Leaves, settle]
        refine ⟨.bool false, by simp [results, Try.results18, go_sem, hq1], by simp, (by have hs0 := Below.size Hwr.out; have hs1 := Below.size hb1; repeat' (first | (with_reducible exact Hwr.out) | (with_reducible refine below_call hb1 ?_ ?_) | (with_reducible exact Below.refl _ _) | (with_reducible refine Below.alloc ?_ ?_ _) | (with_reducible refine Below.setCell ?_ ?_ _) | (with_reducible refine below_drewN ?_ _) | (with_reducible refine Below.drew ?_) | (with_reducible exact Nat.le_refl _) | omega | (simp; done) | ((try simp at hs0); (try simp at hs1);  (try simp); omega)))⟩
      · go_wp2
        go_roundw
        case rel =>
          refine ⟨2 + 1, by omega, by rfl, (by have hh := Hs.out; first | rfl | simpa using hh), (by have hs0 := Below.size Hwr.out; have hs1 := Below.size hb1; repeat' (first | (with_reducible exact Hwr.out) | (with_reducible refine below_call hb1 ?_ ?_) | (with_reducible exact Below.refl _ _) | (with_reducible refine Below.alloc ?_ ?_ _) | (with_reducible refine Below.setCell ?_ ?_ _) | (with_reducible refine below_drewN ?_ _) | (with_reducible refine Below.drew ?_) | (with_reducible exact Nat.le_refl _) | omega | (simp; done) | ((try simp at hs0); (try simp at hs1);  (try simp); omega))), by simpa [World.setCell] using hz1, ?_, ?_, ?_, ?_, ?_⟩
          all_goals simp [go_sem, hq0, hq1, hq2, hq3, hq4]
        case measure => simp [intOf]
    · have hw3 : wr.cell? _ = _ := (hwr.cell (p := ⟨g, 3, none⟩) hg).trans h3
      clear h0 h1 h2 h3 hwr
      go_wp2_with fail
      refine (K3.out _ Hwr.out).mono ?_
      rintro e w1 ⟨rfl, hb1⟩
      obtain ⟨hc1, hf1⟩ := bcell hb1
      have hz1 : w.heap.size + 1 + 1 < w1.heap.size := by have := hb1.size; omega
      have hq0 := (hc1 w.heap.size 0 z0).trans r0
      have hq1 := (hc1 (w.heap.size + 1) 0 z1).trans r1
      have hq2 := (hf1 (w.heap.size + 1) 0 z1).trans r2
      have hq3 := (hc1 (w.heap.size + 1 + 1) 0 hz).trans r3
      have hq4 := (hf1 (w.heap.size + 1 + 1) 0 hz).trans r4
      clear hc1 hf1
      cases b3
      · go_wp2
        refine leaves_cons (f := 28) (args := #[.pointer (some ⟨w.heap.size + 1 + 1, 0, none⟩), .pointer (some ⟨w.heap.size, 0, none⟩), .pointer (some ⟨w.heap.size + 1, 0, none⟩)]) (by simp) (by simp [go_sem]) ?_
        refine (all1_any _ _ _ _ _ _ _ _ .returning _ hq3 hq0 hq1 hq2).mono ?_
        rintro e u' w'' ⟨rfl, rfl, rfl⟩
        simp only [Leaves, settle]
        refine ⟨.bool false, by simp [results, Try.results18, go_sem, hq1], by simp, (by have hs0 := Below.size Hwr.out; have hs1 := Below.size hb1; repeat' (first | (with_reducible exact Hwr.out) | (with_reducible refine below_call hb1 ?_ ?_) | (with_reducible exact Below.refl _ _) | (with_reducible refine Below.alloc ?_ ?_ _) | (with_reducible refine Below.setCell ?_ ?_ _) | (with_reducible refine below_drewN ?_ _) | (with_reducible refine Below.drew ?_) | (with_reducible exact Nat.le_refl _) | omega | (simp; done) | ((try simp at hs0); (try simp at hs1);  (try simp); omega)))⟩
      · go_wp2
        go_roundw
        case rel =>
          refine ⟨3 + 1, by omega, by rfl, (by have hh := Hs.out; first | rfl | simpa using hh), (by have hs0 := Below.size Hwr.out; have hs1 := Below.size hb1; repeat' (first | (with_reducible exact Hwr.out) | (with_reducible refine below_call hb1 ?_ ?_) | (with_reducible exact Below.refl _ _) | (with_reducible refine Below.alloc ?_ ?_ _) | (with_reducible refine Below.setCell ?_ ?_ _) | (with_reducible refine below_drewN ?_ _) | (with_reducible refine Below.drew ?_) | (with_reducible exact Nat.le_refl _) | omega | (simp; done) | ((try simp at hs0); (try simp at hs1);  (try simp); omega))), by simpa [World.setCell] using hz1, ?_, ?_, ?_, ?_, ?_⟩
          all_goals simp [go_sem, hq0, hq1, hq2, hq3, hq4]
        case measure => simp [intOf]
    · go_wp2
      refine leaves_cons (f := 28) (args := #[.pointer (some ⟨w.heap.size + 1 + 1, 0, none⟩), .pointer (some ⟨w.heap.size, 0, none⟩), .pointer (some ⟨w.heap.size + 1, 0, none⟩)]) (by simp) (by simp [go_sem]) ?_
      refine (all1_any _ _ _ _ _ _ _ _ .returning _ r3 r0 r1 r2).mono ?_
      rintro e u' w'' ⟨rfl, rfl, rfl⟩
      simp only [Leaves, settle]
      have hh := Hs.out
      refine ⟨.bool true, by simp [results, Try.results18, go_sem, r1], ?_, (by have hs0 := Below.size Hwr.out; repeat' (first | (with_reducible exact Hwr.out) | (with_reducible exact Below.refl _ _) | (with_reducible refine Below.alloc ?_ ?_ _) | (with_reducible refine Below.setCell ?_ ?_ _) | (with_reducible refine below_drewN ?_ _) | (with_reducible refine Below.drew ?_) | (with_reducible exact Nat.le_refl _) | omega | (simp; done) | ((try simp at hs0);  (try simp); omega)))⟩
      simp at hh
      simp [hh]

def termsRight (t : Terms) : Bool := spanRight t.from_ t.to_ && manyRight t.from_ t.to_ && riskRight t.kind t.value t.age t.zone && coversRight t.covers
def Terms.val (t : Terms) (A : Option Addr) (cap : Nat) : Value := .agg (termsCells t A cap)

set_option maxHeartbeats 400000 in
theorem termsRight_any (a b c d ag z : Int) (A : Option Addr) (n cap : Nat) (l : List Cover) (w : World) (hn : n = l.length) (hl : n ≤ maxLen) (hA : RowsAt w w.heap.size 5 isCover A l) :
    Calls Try.prog 13 #[.agg #[.int .i64 a, .int .i64 b, .int .i64 c, .int .i64 d, .int .i64 ag, .int .i64 z, .slice A n cap]] w fun e w' => e = .returned (.bool (termsRight ⟨a, b, c, d, ag, z, l⟩)) ∧ Below w.heap.size w w' := by
  have HA := Lib.hid hA
  have Hn := Lib.hid hn
  have Hl := Lib.hid hl
  clear hA hn hl
  have hmf : ∀ (fn : Fn) (first cap : Array Value) (w : World), (Instr.makeFunc fn first cap).run Try.prog w = .ok (.func fn first cap) w := fun _ _ _ _ => rfl
  go_enter Try.func13, Try.ntmps13
  go_wp2_with fail
  have HB : ∀ W W0 : World, W0 = w.alloc (Obj.cells #[.int .i64 a, .int .i64 b, .int .i64 c, .int .i64 d, .int .i64 ag, .int .i64 z, .slice A n cap] 28) → ∀ o, Below (W0.alloc o).heap.size (W0.alloc o) W → w.heap.size < W.heap.size ∧ RowsAt W W.heap.size 5 isCover A l ∧
      (∀ j, W.cell? ⟨w.heap.size, j, none⟩ = W0.cell? ⟨w.heap.size, j, none⟩) := by
    rintro W W0 rfl o hb
    have hs := hb.size
    simp at hs
    refine ⟨by omega, ((HA.out.below (by have hs0 := Below.size hb; repeat' (first | (with_reducible refine below_call hb ?_ ?_) | (with_reducible exact Below.refl _ _) | (with_reducible refine Below.alloc ?_ ?_ _) | (with_reducible refine Below.setCell ?_ ?_ _) | (with_reducible refine below_drewN ?_ _) | (with_reducible refine Below.drew ?_) | (with_reducible exact Nat.le_refl _) | omega | (simp; done) | ((try simp at hs0);  (try simp); omega)))).mono (by omega)), fun j => ?_⟩
    rw [hb.cell (by simp; omega), World.cell?_alloc_lt _ _ _ (by simp)]
  have H := Lib.hid HB
  clear HB
  refine (all_any (w.heap.size + 1) ⟨w.heap.size, 0, none⟩ (spanRight a b) (manyRight a b) (riskRight c d ag z) (coversRight l) _ (by simp) (by simp [go_sem]) (by simp [go_sem]) (by simp [go_sem]) (by simp [go_sem]) ?_ ?_ ?_ ?_).mono ?_
  · intro W hb
    obtain ⟨h1, -, h3⟩ := H.out W _ rfl _ hb
    exact right1_any _ _ _ W h1 ((h3 0).trans (by simp [go_sem])) ((h3 1).trans (by simp [go_sem]))
  · intro W hb
    obtain ⟨h1, -, h3⟩ := H.out W _ rfl _ hb
    exact right2_any _ _ _ W h1 ((h3 0).trans (by simp [go_sem])) ((h3 1).trans (by simp [go_sem]))
  · intro W hb
    obtain ⟨h1, -, h3⟩ := H.out W _ rfl _ hb
    exact right3_any _ _ _ _ _ W h1 ((h3 2).trans (by simp [go_sem])) ((h3 3).trans (by simp [go_sem])) ((h3 4).trans (by simp [go_sem])) ((h3 5).trans (by simp [go_sem]))
  · intro W hb
    obtain ⟨h1, h2, h3⟩ := H.out W _ rfl _ hb
    exact right4_any _ A n cap l W h1 ((h3 6).trans (by simp [go_sem])) Hn.out Hl.out h2
  · rintro e w1 ⟨rfl, hb1⟩
    go_wp2
    go_ret
    exact ⟨rfl, (by have hs0 := Below.size hb1; repeat' (first | (with_reducible refine below_call hb1 ?_ ?_) | (with_reducible exact Below.refl _ _) | (with_reducible refine Below.alloc ?_ ?_ _) | (with_reducible refine Below.setCell ?_ ?_ _) | (with_reducible refine below_drewN ?_ _) | (with_reducible refine Below.drew ?_) | (with_reducible exact Nat.le_refl _) | omega | (simp; done) | ((try simp at hs0);  (try simp); omega)))⟩

end Go.Proofs.Ythmjjogmgjagmaa
