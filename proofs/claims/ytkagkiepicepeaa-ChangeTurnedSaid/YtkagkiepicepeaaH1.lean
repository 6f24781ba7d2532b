/- Contracts: terms.all at four closures. -/
import Derived.Test.YtkagkiepicepeaaF1
import Derived.Defers
set_option linter.unusedSimpArgs false
set_option linter.unusedVariables false
namespace Go.Proofs.Ytkagkiepicepeaa
open Go.RowKit

theorem bcell' {A : Nat} {w w' : World} (h : Below A w w') (hA : w.heap.size ≤ A) : (∀ g j, g < w.heap.size → w'.cell? ⟨g, j, none⟩ = w.cell? ⟨g, j, none⟩) ∧ (∀ g j, g < w.heap.size → w'.frozen? ⟨g, j, none⟩ = w.frozen? ⟨g, j, none⟩) :=
  ⟨fun _ _ hg => h.cell (Nat.lt_of_lt_of_le hg hA), fun _ _ hg => h.frozen (Nat.lt_of_lt_of_le hg hA)⟩

theorem below_drewN {B : Nat} {a w : World} (h : Below B a w) (n : Nat) : Below B a (w.drewN n) := ⟨h.os, h.tape, h.output, h.size, h.block⟩
theorem below_call {B B' : Nat} {a W w1 : World} (hb : Below B' W w1) (h : Below B a W) (hB : B ≤ B') : Below B a w1 := h.trans (hb.mono hB)

theorem all1_any (p q r : Addr) (n : Int) (A : Option Addr) (len cap : Nat) (x : Value) (u : FrameMode) (w : World) (hp : w.cell? p = some (.int .i64 n)) (hq : w.cell? q = some (.slice A len cap)) (hr : w.cell? r = some x) (hf : w.frozen? r = false) :
    CallsD Try.prog 102 #[.pointer (some p), .pointer (some q), .pointer (some r)] u w fun e u' w' => u' = u ∧ (e = .returned (.tuple #[]) ∧ w' = w.setCell r (.bool (n == (len : Int)))) := by
  go_enter_d Try.func102, Try.ntmps102
  go_wp2
  go_end0
  exact ⟨rfl, rfl⟩

set_option maxHeartbeats 1000000 in
/-- all, at four closures each of which answers a bool and leaves what was there alone. -/
theorem all_any (g off cap : Nat) (P0 P1 P2 P3 : Addr) (b0 b1 b2 b3 : Bool) (w : World) (hg : g < w.heap.size) (_hcap : 4 ≤ cap)
    (h0 : w.cell? ⟨g, off, none⟩ = some (.func (.func 77) #[] #[.pointer (some P0)])) (h1 : w.cell? ⟨g, off + 1, none⟩ = some (.func (.func 79) #[] #[.pointer (some P1)]))
    (h2 : w.cell? ⟨g, off + 2, none⟩ = some (.func (.func 81) #[] #[.pointer (some P2)])) (h3 : w.cell? ⟨g, off + 3, none⟩ = some (.func (.func 83) #[] #[.pointer (some P3)]))
    (k0 : ∀ W, Below w.heap.size w W → Calls Try.prog 77 #[.pointer (some P0)] W fun e w' => e = .returned (.bool b0) ∧ Below W.heap.size W w')
    (k1 : ∀ W, Below w.heap.size w W → Calls Try.prog 79 #[.pointer (some P1)] W fun e w' => e = .returned (.bool b1) ∧ Below W.heap.size W w')
    (k2 : ∀ W, Below w.heap.size w W → Calls Try.prog 81 #[.pointer (some P2)] W fun e w' => e = .returned (.bool b2) ∧ Below W.heap.size W w')
    (k3 : ∀ W, Below w.heap.size w W → Calls Try.prog 83 #[.pointer (some P3)] W fun e w' => e = .returned (.bool b3) ∧ Below W.heap.size W w') :
    Calls Try.prog 76 #[.slice (some ⟨g, off, none⟩) 4 cap] w fun e w' => e = .returned (.bool (b0 && b1 && b2 && b3)) ∧ Below w.heap.size w w' := by
  have K0 := Lib.hid k0
  have K1 := Lib.hid k1
  have K2 := Lib.hid k2
  have K3 := Lib.hid k3
  clear k0 k1 k2 k3
  have hmf : ∀ (fn : Fn) (first cap : Array Value) (w : World), (Instr.makeFunc fn first cap).run Try.prog w = .ok (.func fn first cap) w := fun _ _ _ _ => rfl
  go_enter_defers Try.func76, Try.ntmps76
  go_wp2
  go_loopw [9] (fun i wr => ∃ (k : Nat), k ≤ 4 ∧ i = .int .i64 k ∧ ([b0, b1, b2, b3].take k).all id = true ∧ Below w.heap.size w wr ∧ w.heap.size + 1 + 1 < wr.heap.size ∧
      wr.cell? ⟨w.heap.size, 0, none⟩ = some (.slice (some ⟨g, off, none⟩) 4 cap) ∧ wr.cell? ⟨w.heap.size + 1, 0, none⟩ = some (.bool false) ∧ wr.frozen? ⟨w.heap.size + 1, 0, none⟩ = false ∧
      wr.cell? ⟨w.heap.size + 1 + 1, 0, none⟩ = some (.int .i64 k) ∧ wr.frozen? ⟨w.heap.size + 1 + 1, 0, none⟩ = false) (fun i _ => 4 - (intOf i).toNat)
  case atStart => exact ⟨0, by omega, rfl, rfl, (by repeat' (first | (with_reducible exact Below.refl _ _) | (with_reducible refine Below.alloc ?_ ?_ _) | (with_reducible refine Below.setCell ?_ ?_ _) | (with_reducible refine below_drewN ?_ _) | (with_reducible refine Below.drew ?_) | (with_reducible exact Nat.le_refl _) | omega | (simp; done) | ( (try simp); omega))), by simp, by simp [go_sem], by simp [go_sem], by simp [go_sem], by simp [go_sem], by simp [go_sem]⟩
  case round =>
    obtain ⟨k, hk, rfl, hs, hwr, hz, r0, r1, r2, r3, r4⟩ := hrel
    have Hs := Lib.hid hs
    clear hs
    have Hwr := Lib.hid hwr
    have z0 : w.heap.size < wr.heap.size := by omega
    have z1 : w.heap.size + 1 < wr.heap.size := by omega
    have hgz : g < wr.heap.size := by omega
    rcases (by omega : k = 0 ∨ k = 1 ∨ k = 2 ∨ k = 3 ∨ k = 4) with rfl | rfl | rfl | rfl | rfl
    · have hw0 : wr.cell? _ = _ := (hwr.cell (p := ⟨g, off, none⟩) hg).trans h0
      clear h0 h1 h2 h3 hwr
      go_wp2_with fail
      refine (K0.out _ Hwr.out).mono ?_
      rintro e w1 ⟨rfl, hb1⟩
      obtain ⟨hc1, hf1⟩ := bcell' hb1 (Nat.le_refl _)
      have hz1 : w.heap.size + 1 + 1 < w1.heap.size := by have := hb1.size; omega
      have hq0 := (hc1 w.heap.size 0 z0).trans r0
      have hq1 := (hc1 (w.heap.size + 1) 0 z1).trans r1
      have hq2 := (hf1 (w.heap.size + 1) 0 z1).trans r2
      have hq3 := (hc1 (w.heap.size + 1 + 1) 0 hz).trans r3
      have hq4 := (hf1 (w.heap.size + 1 + 1) 0 hz).trans r4
      clear hc1 hf1
      cases b0
      · go_wp2
        refine leaves_cons (f := 102) (args := #[.pointer (some ⟨w.heap.size + 1 + 1, 0, none⟩), .pointer (some ⟨w.heap.size, 0, none⟩), .pointer (some ⟨w.heap.size + 1, 0, none⟩)]) (by simp) (by simp [go_sem]) ?_
        refine (all1_any _ _ _ _ _ _ _ _ .returning _ hq3 hq0 hq1 hq2).mono ?_
        rintro e u' w'' ⟨rfl, rfl, rfl⟩
        simp only [Leaves, settle]
        refine ⟨.bool false, by simp [results, Try.results76, go_sem, hq1], by simp, (by have hs0 := Below.size Hwr.out; have hs1 := Below.size hb1; repeat' (first | (with_reducible exact Hwr.out) | (with_reducible refine below_call hb1 ?_ ?_) | (with_reducible exact Below.refl _ _) | (with_reducible refine Below.alloc ?_ ?_ _) | (with_reducible refine Below.setCell ?_ ?_ _) | (with_reducible refine below_drewN ?_ _) | (with_reducible refine Below.drew ?_) | (with_reducible exact Nat.le_refl _) | omega | (simp; done) | ((try simp at hs0); (try simp at hs1);  (try simp); omega)))⟩
      · go_wp2
        go_roundw
        case rel =>
          refine ⟨0 + 1, by omega, by rfl, (by have hh := Hs.out; first | rfl | simpa using hh), (by have hs0 := Below.size Hwr.out; have hs1 := Below.size hb1; repeat' (first | (with_reducible exact Hwr.out) | (with_reducible refine below_call hb1 ?_ ?_) | (with_reducible exact Below.refl _ _) | (with_reducible refine Below.alloc ?_ ?_ _) | (with_reducible refine Below.setCell ?_ ?_ _) | (with_reducible refine below_drewN ?_ _) | (with_reducible refine Below.drew ?_) | (with_reducible exact Nat.le_refl _) | omega | (simp; done) | ((try simp at hs0); (try simp at hs1);  (try simp); omega))), by simpa [World.setCell] using hz1, ?_, ?_, ?_, ?_, ?_⟩
          all_goals simp [go_sem, hq0, hq1, hq2, hq3, hq4]
        case measure => simp [intOf]
    · have hw1 : wr.cell? _ = _ := (hwr.cell (p := ⟨g, off+1, none⟩) hg).trans h1
      clear h0 h1 h2 h3 hwr
      go_wp2_with fail
      refine (K1.out _ Hwr.out).mono ?_
      rintro e w1 ⟨rfl, hb1⟩
      obtain ⟨hc1, hf1⟩ := bcell' hb1 (Nat.le_refl _)
      have hz1 : w.heap.size + 1 + 1 < w1.heap.size := by have := hb1.size; omega
      have hq0 := (hc1 w.heap.size 0 z0).trans r0
      have hq1 := (hc1 (w.heap.size + 1) 0 z1).trans r1
      have hq2 := (hf1 (w.heap.size + 1) 0 z1).trans r2
      have hq3 := (hc1 (w.heap.size + 1 + 1) 0 hz).trans r3
      have hq4 := (hf1 (w.heap.size + 1 + 1) 0 hz).trans r4
      clear hc1 hf1
      cases b1
      · go_wp2
        refine leaves_cons (f := 102) (args := #[.pointer (some ⟨w.heap.size + 1 + 1, 0, none⟩), .pointer (some ⟨w.heap.size, 0, none⟩), .pointer (some ⟨w.heap.size + 1, 0, none⟩)]) (by simp) (by simp [go_sem]) ?_
        refine (all1_any _ _ _ _ _ _ _ _ .returning _ hq3 hq0 hq1 hq2).mono ?_
        rintro e u' w'' ⟨rfl, rfl, rfl⟩
        simp only [Leaves, settle]
        refine ⟨.bool false, by simp [results, Try.results76, go_sem, hq1], by simp, (by have hs0 := Below.size Hwr.out; have hs1 := Below.size hb1; repeat' (first | (with_reducible exact Hwr.out) | (with_reducible refine below_call hb1 ?_ ?_) | (with_reducible exact Below.refl _ _) | (with_reducible refine Below.alloc ?_ ?_ _) | (with_reducible refine Below.setCell ?_ ?_ _) | (with_reducible refine below_drewN ?_ _) | (with_reducible refine Below.drew ?_) | (with_reducible exact Nat.le_refl _) | omega | (simp; done) | ((try simp at hs0); (try simp at hs1);  (try simp); omega)))⟩
      · go_wp2
        go_roundw
        case rel =>
          refine ⟨1 + 1, by omega, by rfl, (by have hh := Hs.out; first | rfl | simpa using hh), (by have hs0 := Below.size Hwr.out; have hs1 := Below.size hb1; repeat' (first | (with_reducible exact Hwr.out) | (with_reducible refine below_call hb1 ?_ ?_) | (with_reducible exact Below.refl _ _) | (with_reducible refine Below.alloc ?_ ?_ _) | (with_reducible refine Below.setCell ?_ ?_ _) | (with_reducible refine below_drewN ?_ _) | (with_reducible refine Below.drew ?_) | (with_reducible exact Nat.le_refl _) | omega | (simp; done) | ((try simp at hs0); (try simp at hs1);  (try simp); omega))), by simpa [World.setCell] using hz1, ?_, ?_, ?_, ?_, ?_⟩
          all_goals simp [go_sem, hq0, hq1, hq2, hq3, hq4]
        case measure => simp [intOf]
    · have hw2 : wr.cell? _ = _ := (hwr.cell (p := ⟨g, off+2, none⟩) hg).trans h2
      clear h0 h1 h2 h3 hwr
      go_wp2_with fail
      refine (K2.out _ Hwr.out).mono ?_
      rintro e w1 ⟨rfl, hb1⟩
      obtain ⟨hc1, hf1⟩ := bcell' hb1 (Nat.le_refl _)
      have hz1 : w.heap.size + 1 + 1 < w1.heap.size := by have := hb1.size; omega
      have hq0 := (hc1 w.heap.size 0 z0).trans r0
      have hq1 := (hc1 (w.heap.size + 1) 0 z1).trans r1
      have hq2 := (hf1 (w.heap.size + 1) 0 z1).trans r2
      have hq3 := (hc1 (w.heap.size + 1 + 1) 0 hz).trans r3
      have hq4 := (hf1 (w.heap.size + 1 + 1) 0 hz).trans r4
      clear hc1 hf1
      cases b2
      · go_wp2
        refine leaves_cons (f := 102) (args := #[.pointer (some ⟨w.heap.size + 1 + 1, 0, none⟩), .pointer (some ⟨w.heap.size, 0, none⟩), .pointer (some ⟨w.heap.size + 1, 0, none⟩)]) (by simp) (by simp [go_sem]) ?_
        refine (all1_any _ _ _ _ _ _ _ _ .returning _ hq3 hq0 hq1 hq2).mono ?_
        rintro e u' w'' ⟨rfl, rfl, rfl⟩
        simp only [Leaves, settle]
        refine ⟨.bool false, by simp [results, Try.results76, go_sem, hq1], by simp, (by have hs0 := Below.size Hwr.out; have hs1 := Below.size hb1; repeat' (first | (with_reducible exact Hwr.out) | (with_reducible refine below_call hb1 ?_ ?_) | (with_reducible exact Below.refl _ _) | (with_reducible refine Below.alloc ?_ ?_ _) | (with_reducible refine Below.setCell ?_ ?_ _) | (with_reducible refine below_drewN ?_ _) | (with_reducible refine Below.drew ?_) | (with_reducible exact Nat.le_refl _) | omega | (simp; done) | ((try simp at hs0); (try simp at hs1);  (try simp); omega)))⟩
      · go_wp2
        go_roundw
        case rel =>
          refine ⟨2 + 1, by omega, by rfl, (by have hh := Hs.out; first | rfl | simpa using hh), (by have hs0 := Below.size Hwr.out; have hs1 := Below.size hb1; repeat' (first | (with_reducible exact Hwr.out) | (with_reducible refine below_call hb1 ?_ ?_) | (with_reducible exact Below.refl _ _) | (with_reducible refine Below.alloc ?_ ?_ _) | (with_reducible refine Below.setCell ?_ ?_ _) | (with_reducible refine below_drewN ?_ _) | (with_reducible refine Below.drew ?_) | (with_reducible exact Nat.le_refl _) | omega | (simp; done) | ((try simp at hs0); (try simp at hs1);  (try simp); omega))), by simpa [World.setCell] using hz1, ?_, ?_, ?_, ?_, ?_⟩
          all_goals simp [go_sem, hq0, hq1, hq2, hq3, hq4]
        case measure => simp [intOf]
    · have hw3 : wr.cell? _ = _ := (hwr.cell (p := ⟨g, off+3, none⟩) hg).trans h3
      clear h0 h1 h2 h3 hwr
      go_wp2_with fail
      refine (K3.out _ Hwr.out).mono ?_
      rintro e w1 ⟨rfl, hb1⟩
      obtain ⟨hc1, hf1⟩ := bcell' hb1 (Nat.le_refl _)
      have hz1 : w.heap.size + 1 + 1 < w1.heap.size := by have := hb1.size; omega
      have hq0 := (hc1 w.heap.size 0 z0).trans r0
      have hq1 := (hc1 (w.heap.size + 1) 0 z1).trans r1
      have hq2 := (hf1 (w.heap.size + 1) 0 z1).trans r2
      have hq3 := (hc1 (w.heap.size + 1 + 1) 0 hz).trans r3
      have hq4 := (hf1 (w.heap.size + 1 + 1) 0 hz).trans r4
      clear hc1 hf1
      cases b3
      · go_wp2
        refine leaves_cons (f := 102) (args := #[.pointer (some ⟨w.heap.size + 1 + 1, 0, none⟩), .pointer (some ⟨w.heap.size, 0, none⟩), .pointer (some ⟨w.heap.size + 1, 0, none⟩)]) (by simp) (by simp [go_sem]) ?_
        refine (all1_any _ _ _ _ _ _ _ _ .returning _ hq3 hq0 hq1 hq2).mono ?_
        rintro e u' w'' ⟨rfl, rfl, rfl⟩
        simp only [Leaves, settle]
        refine ⟨.bool false, by simp [results, Try.results76, go_sem, hq1], by simp, (by have hs0 := Below.size Hwr.out; have hs1 := Below.size hb1; repeat' (first | (with_reducible exact Hwr.out) | (with_reducible refine below_call hb1 ?_ ?_) | (with_reducible exact Below.refl _ _) | (with_reducible refine Below.alloc ?_ ?_ _) | (with_reducible refine Below.setCell ?_ ?_ _) | (with_reducible refine below_drewN ?_ _) | (with_reducible refine Below.drew ?_) | (with_reducible exact Nat.le_refl _) | omega | (simp; done) | ((try simp at hs0); (try simp at hs1);  (try simp); omega)))⟩
      · go_wp2
        go_roundw
        case rel =>
          refine ⟨3 + 1, by omega, by rfl, (by have hh := Hs.out; first | rfl | simpa using hh), (by have hs0 := Below.size Hwr.out; have hs1 := Below.size hb1; repeat' (first | (with_reducible exact Hwr.out) | (with_reducible refine below_call hb1 ?_ ?_) | (with_reducible exact Below.refl _ _) | (with_reducible refine Below.alloc ?_ ?_ _) | (with_reducible refine Below.setCell ?_ ?_ _) | (with_reducible refine below_drewN ?_ _) | (with_reducible refine Below.drew ?_) | (with_reducible exact Nat.le_refl _) | omega | (simp; done) | ((try simp at hs0); (try simp at hs1);  (try simp); omega))), by simpa [World.setCell] using hz1, ?_, ?_, ?_, ?_, ?_⟩
          all_goals simp [go_sem, hq0, hq1, hq2, hq3, hq4]
        case measure => simp [intOf]
    · go_wp2
      refine leaves_cons (f := 102) (args := #[.pointer (some ⟨w.heap.size + 1 + 1, 0, none⟩), .pointer (some ⟨w.heap.size, 0, none⟩), .pointer (some ⟨w.heap.size + 1, 0, none⟩)]) (by simp) (by simp [go_sem]) ?_
      refine (all1_any _ _ _ _ _ _ _ _ .returning _ r3 r0 r1 r2).mono ?_
      rintro e u' w'' ⟨rfl, rfl, rfl⟩
      simp only [Leaves, settle]
      have hh := Hs.out
      refine ⟨.bool true, by simp [results, Try.results76, go_sem, r1], ?_, (by have hs0 := Below.size Hwr.out; repeat' (first | (with_reducible exact Hwr.out) | (with_reducible exact Below.refl _ _) | (with_reducible refine Below.alloc ?_ ?_ _) | (with_reducible refine Below.setCell ?_ ?_ _) | (with_reducible refine below_drewN ?_ _) | (with_reducible refine Below.drew ?_) | (with_reducible exact Nat.le_refl _) | omega | (simp; done) | ((try simp at hs0);  (try simp); omega)))⟩
      simp at hh
      simp [hh]

namespace V
/-- What answers a bool from plain data. -/
theorem Fun.bool {P : Program} {f : FuncId} {x : AV} {b : Bool} (h : Fun P f [x] (bool b)) {w : World} {v : Value} (hv : RepD (fun _ => False) w v x) : Calls P f #[v] w fun e w' => e = .returned (.bool b) ∧ Below w.heap.size w w' := by
  refine (h (fun _ => False) w #[v] (fun _ h => h.elim) rfl (fun i u y hu hy => ?_)).mono ?_
  · rcases i with _ | i
    · simp at hu hy; subst hu hy; exact hv
    · simp at hy
  · rintro e w' ⟨u, rfl, hu, hb⟩
    cases hu
    exact ⟨rfl, hb⟩

theorem all_f {l : List AV} (hl : l ≠ []) {b0 b1 b2 b3 : Bool} (c0 : Fun Try.prog 77 [.pp l] (bool b0)) (c1 : Fun Try.prog 79 [.pp l] (bool b1)) (c2 : Fun Try.prog 81 [.pp l] (bool b2)) (c3 : Fun Try.prog 83 [.pp l] (bool b3)) :
    Fun Try.prog 76 [.sl false 1 [[.fn (.func 77) [] [.pp l]], [.fn (.func 79) [] [.pp l]], [.fn (.func 81) [] [.pp l]], [.fn (.func 83) [] [.pp l]]]] (bool (b0 && b1 && b2 && b3)) := by
  intro M w vs hM hsz hvs
  obtain ⟨v, rfl⟩ : ∃ v, vs = #[v] := by
    refine ⟨vs[0]'(by simp at hsz; omega), ?_⟩
    apply Array.ext
    · simpa using hsz
    · intro i h1 h2
      have : i = 0 := by simp at h2; omega
      subst this; rfl
  have hv := hvs 0 v _ rfl rfl
  obtain ⟨A, cap, rfl, hcap, -, -⟩ := hv.sl_val
  cases hv with
  | sl g off x hn hc hm hf hk hA hl' hx =>
    obtain ⟨rfl, -, hg⟩ := hA (by simp)
    have key : ∀ (i : Nat) (f : FuncId), i < 4 → (∀ y, ([[.fn (.func 77) [] [.pp l]], [.fn (.func 79) [] [.pp l]], [.fn (.func 81) [] [.pp l]], [.fn (.func 83) [] [.pp l]]] : List (List AV))[i]? = some y → y = [.fn (.func f) [] [.pp l]]) →
        ∃ p, w.cell? ⟨g, off + i, none⟩ = some (.func (.func f) #[] #[.pointer (some p)]) ∧ RepD M w (.pointer (some p)) (.pp l) := by
      intro i f hi hy
      obtain ⟨y, hy'⟩ : ∃ y, ([[.fn (.func 77) [] [.pp l]], [.fn (.func 79) [] [.pp l]], [.fn (.func 81) [] [.pp l]], [.fn (.func 83) [] [.pp l]]] : List (List AV))[i]? = some y := ⟨_, List.getElem?_eq_getElem (by simpa using hi)⟩
      have := hy y hy'
      subst this
      have h1 := hl' i 0 (by simpa using hi) (by omega)
      have h2 := hx i _ 0 _ hy' rfl
      have h3 : ∃ p, x i 0 = .func (.func f) #[] #[.pointer (some p)] ∧ RepD M w (.pointer (some p)) (.pp l) := by
        generalize x i 0 = u at h2
        cases h2 with
        | @fn _ fs cs _ _ hf hc e1 e2 =>
          obtain rfl : fs = #[] := Array.eq_empty_of_size_eq_zero (by simpa using hf)
          obtain ⟨c, rfl⟩ : ∃ c, cs = #[c] := by
            refine ⟨cs[0]'(by simp at hc; omega), ?_⟩
            apply Array.ext
            · simpa using hc
            · intro i h1 h2
              have : i = 0 := by simp at h2; omega
              subst this; rfl
          have h4 := e2 0 c _ rfl rfl
          have h4' : RepA (fun _ => none) M w c (.pp l) := .d h4
          obtain ⟨g', o', rfl⟩ := h4'.pp_addr
          exact ⟨_, rfl, h4⟩
      obtain ⟨p, h4, h5⟩ := h3
      rw [h4] at h1
      exact ⟨p, by simpa using h1.1, h5⟩
    obtain ⟨P0, e0, r0⟩ := key 0 _ (by omega) (fun y h => by injection h with h; exact h.symm)
    obtain ⟨P1, e1, r1⟩ := key 1 _ (by omega) (fun y h => by injection h with h; exact h.symm)
    obtain ⟨P2, e2, r2⟩ := key 2 _ (by omega) (fun y h => by injection h with h; exact h.symm)
    obtain ⟨P3, e3, r3⟩ := key 3 _ (by omega) (fun y h => by injection h with h; exact h.symm)
    have kp : ∀ {W : World} {v : Value}, Below w.heap.size w W → RepD M w v (.pp l) → RepD (fun _ => False) W v (.pp l) := fun hb h => h.keep (fun _ _ h => h.elim) hb.size fun g hg _ => hb.block g hg
    refine (all_any g off cap P0 P1 P2 P3 b0 b1 b2 b3 w hg (by simpa using hcap) e0 e1 e2 e3 (fun W hb => c0.bool (kp hb r0)) (fun W hb => c1.bool (kp hb r1)) (fun W hb => c2.bool (kp hb r2)) (fun W hb => c3.bool (kp hb r3))).mono ?_
    rintro e w' ⟨rfl, hb⟩
    exact ⟨_, rfl, .v _, hb⟩
end V
end Go.Proofs.Ytkagkiepicepeaa
