/- Contracts: terms.all at four closures. Contracts of chapters 10 and 11: terms.Right, Clone, own, day, checks, change.Right. Contract of change.Right. Contracts: ref 10, ref 11 Right. Contracts: ref 10, ref 11 Right; Bind, Put, History of both. Histories that may be (chapter 12). What a change does (chapter 12). Scopes: code that jumps back to a label. The end of a slice: cut's closure (chapter 12). slices.SortStableFunc: exchanges. slices.SortStableFunc at ints: swapRange. -/
import Derived.Test.YtkonljmmdifnaaaGreatG7
import Derived.Defers
import Derived.Test.YtkonljmmdifnaaaGreatG6
set_option linter.unusedSimpArgs false
set_option linter.unusedVariables false
namespace Go.Proofs.YtkonljmmdifnaaaGreat
open Go.RowKit

theorem bcell' {A : Nat} {w w' : World} (h : Below A w w') (hA : w.heap.size ≤ A) : (∀ g j, g < w.heap.size → w'.cell? ⟨g, j, none⟩ = w.cell? ⟨g, j, none⟩) ∧ (∀ g j, g < w.heap.size → w'.frozen? ⟨g, j, none⟩ = w.frozen? ⟨g, j, none⟩) :=
  ⟨fun _ _ hg => h.cell (Nat.lt_of_lt_of_le hg hA), fun _ _ hg => h.frozen (Nat.lt_of_lt_of_le hg hA)⟩

theorem below_drewN {B : Nat} {a w : World} (h : Below B a w) (n : Nat) : Below B a (w.drewN n) := ⟨h.os, h.tape, h.output, h.size, h.block⟩
theorem below_call {B B' : Nat} {a W w1 : World} (hb : Below B' W w1) (h : Below B a W) (hB : B ≤ B') : Below B a w1 := h.trans (hb.mono hB)

theorem all1_any (p q r : Addr) (n : Int) (A : Option Addr) (len cap : Nat) (x : Value) (u : FrameMode) (w : World) (hp : w.cell? p = some (.int .i64 n)) (hq : w.cell? q = some (.slice A len cap)) (hr : w.cell? r = some x) (hf : w.frozen? r = false) :
    CallsD Tryz.prog 149 #[.pointer (some p), .pointer (some q), .pointer (some r)] u w fun e u' w' => u' = u ∧ (e = .returned (.tuple #[]) ∧ w' = w.setCell r (.bool (n == (len : Int)))) := by
  go_enter_d Tryz.func149, Tryz.ntmps149
  go_wp2
  go_end0
  exact ⟨rfl, rfl⟩

set_option maxHeartbeats 1000000 in
/-- all, at four closures each of which answers a bool and leaves what was there alone. -/
theorem all_any (g off cap : Nat) (P0 P1 P2 P3 : Addr) (b0 b1 b2 b3 : Bool) (w : World) (hg : g < w.heap.size) (_hcap : 4 ≤ cap)
    (h0 : w.cell? ⟨g, off, none⟩ = some (.func (.func 108) #[] #[.pointer (some P0)])) (h1 : w.cell? ⟨g, off + 1, none⟩ = some (.func (.func 109) #[] #[.pointer (some P1)]))
    (h2 : w.cell? ⟨g, off + 2, none⟩ = some (.func (.func 110) #[] #[.pointer (some P2)])) (h3 : w.cell? ⟨g, off + 3, none⟩ = some (.func (.func 112) #[] #[.pointer (some P3)]))
    (k0 : ∀ W, Below w.heap.size w W → Calls Tryz.prog 108 #[.pointer (some P0)] W fun e w' => e = .returned (.bool b0) ∧ Below W.heap.size W w')
    (k1 : ∀ W, Below w.heap.size w W → Calls Tryz.prog 109 #[.pointer (some P1)] W fun e w' => e = .returned (.bool b1) ∧ Below W.heap.size W w')
    (k2 : ∀ W, Below w.heap.size w W → Calls Tryz.prog 110 #[.pointer (some P2)] W fun e w' => e = .returned (.bool b2) ∧ Below W.heap.size W w')
    (k3 : ∀ W, Below w.heap.size w W → Calls Tryz.prog 112 #[.pointer (some P3)] W fun e w' => e = .returned (.bool b3) ∧ Below W.heap.size W w') :
    Calls Tryz.prog 107 #[.slice (some ⟨g, off, none⟩) 4 cap] w fun e w' => e = .returned (.bool (b0 && b1 && b2 && b3)) ∧ Below w.heap.size w w' := by
  have K0 := Lib.hid k0
  have K1 := Lib.hid k1
  have K2 := Lib.hid k2
  have K3 := Lib.hid k3
  clear k0 k1 k2 k3
  have hmf : ∀ (fn : Fn) (first cap : Array Value) (w : World), (Instr.makeFunc fn first cap).run Tryz.prog w = .ok (.func fn first cap) w := fun _ _ _ _ => rfl
  go_enter_defers Tryz.func107, Tryz.ntmps107
  go_wp2
  go_loopw [9] (fun i wr => ∃ (k : Nat), k ≤ 4 ∧ i = .int .i64 k ∧ ([b0, b1, b2, b3].take k).all id = true ∧ Below w.heap.size w wr ∧ w.heap.size + 1 + 1 < wr.heap.size ∧
      wr.cell? ⟨w.heap.size, 0, none⟩ = some (.slice (some ⟨g, off, none⟩) 4 cap) ∧ wr.cell? ⟨w.heap.size + 1, 0, none⟩ = some (.bool false) ∧ wr.frozen? ⟨w.heap.size + 1, 0, none⟩ = false ∧
      wr.cell? ⟨w.heap.size + 1 + 1, 0, none⟩ = some (.int .i64 k) ∧ wr.frozen? ⟨w.heap.size + 1 + 1, 0, none⟩ = false) (fun i _ => 4 - (intOf i).toNat)
  case atStart => exact ⟨0, by omega, rfl, rfl, (by repeat' (first | (with_reducible exact Below.refl _ _) | (with_reducible refine Below.alloc ?_ ?_ _) | (with_reducible refine Below.setCell ?_ ?_ _) | (with_reducible refine below_drewN ?_ _) | (with_reducible refine Below.drew ?_) | (with_reducible exact Nat.le_refl _) | omega | (simp; done) | ( (try simp); omega))), by simp, by simp [go_sem], by simp [go_sem], by simp [go_sem], by simp [go_sem], by simp [go_sem]⟩
  case round =>
    obtain ⟨k, hk, rfl, hs, hwr, hz, r0, r1, r2, r3, r4⟩ := hrel
    have Hs := Lib.hid hs
    clear hs
    have Hwr := Lib.hid hwr
    have z0 : w.heap.size < wr.heap.size := by omega
    have z1 : w.heap.size + 1 < wr.heap.size := by omega
    have hgz : g < wr.heap.size := by omega
    rcases (by omega : k = 0 ∨ k = 1 ∨ k = 2 ∨ k = 3 ∨ k = 4) with rfl | rfl | rfl | rfl | rfl
    · have hw0 : wr.cell? _ = _ := (hwr.cell (p := ⟨g, off, none⟩) hg).trans h0
      clear h0 h1 h2 h3 hwr
      go_wp2_with fail
      refine (K0.out _ Hwr.out).mono ?_
      rintro e w1 ⟨rfl, hb1⟩
      obtain ⟨hc1, hf1⟩ := bcell' hb1 (Nat.le_refl _)
      have hz1 : w.heap.size + 1 + 1 < w1.heap.size := by have := hb1.size; omega
      have hq0 := (hc1 w.heap.size 0 z0).trans r0
      have hq1 := (hc1 (w.heap.size + 1) 0 z1).trans r1
      have hq2 := (hf1 (w.heap.size + 1) 0 z1).trans r2
      have hq3 := (hc1 (w.heap.size + 1 + 1) 0 hz).trans r3
      have hq4 := (hf1 (w.heap.size + 1 + 1) 0 hz).trans r4
      clear hc1 hf1
      cases b0
      · go_wp2
        refine leaves_cons (f := 149) (args := #[.pointer (some ⟨w.heap.size + 1 + 1, 0, none⟩), .pointer (some ⟨w.heap.size, 0, none⟩), .pointer (some ⟨w.heap.size + 1, 0, none⟩)]) (by simp) (by simp [go_sem]) ?_
        refine (all1_any _ _ _ _ _ _ _ _ .returning _ hq3 hq0 hq1 hq2).mono ?_
        rintro e u' w'' ⟨rfl, rfl, rfl⟩
        simp only [Leaves, settle]
        refine ⟨.bool false, by simp [results, Tryz.results107, go_sem, hq1], by simp, (by have hs0 := Below.size Hwr.out; have hs1 := Below.size hb1; repeat' (first | (with_reducible exact Hwr.out) | (with_reducible refine below_call hb1 ?_ ?_) | (with_reducible exact Below.refl _ _) | (with_reducible refine Below.alloc ?_ ?_ _) | (with_reducible refine Below.setCell ?_ ?_ _) | (with_reducible refine below_drewN ?_ _) | (with_reducible refine Below.drew ?_) | (with_reducible exact Nat.le_refl _) | omega | (simp; done) | ((try simp at hs0); (try simp at hs1);  (try simp); omega)))⟩
      · go_wp2
        go_roundw
        case rel =>
          refine ⟨0 + 1, by omega, by rfl, (by have hh := Hs.out; first | rfl | simpa using hh), (by have hs0 := Below.size Hwr.out; have hs1 := Below.size hb1; repeat' (first | (with_reducible exact Hwr.out) | (with_reducible refine below_call hb1 ?_ ?_) | (with_reducible exact Below.refl _ _) | (with_reducible refine Below.alloc ?_ ?_ _) | (with_reducible refine Below.setCell ?_ ?_ _) | (with_reducible refine below_drewN ?_ _) | (with_reducible refine Below.drew ?_) | (with_reducible exact Nat.le_refl _) | omega | (simp; done) | ((try simp at hs0); (try simp at hs1);  (try simp); omega))), by simpa [World.setCell] using hz1, ?_, ?_, ?_, ?_, ?_⟩
          all_goals simp [go_sem, hq0, hq1, hq2, hq3, hq4]
        case measure => simp [intOf]
    · have hw1 : wr.cell? _ = _ := (hwr.cell (p := ⟨g, off+1, none⟩) hg).trans h1
      clear h0 h1 h2 h3 hwr
      go_wp2_with fail
      refine (K1.out _ Hwr.out).mono ?_
      rintro e w1 ⟨rfl, hb1⟩
      obtain ⟨hc1, hf1⟩ := bcell' hb1 (Nat.le_refl _)
      have hz1 : w.heap.size + 1 + 1 < w1.heap.size := by have := hb1.size; omega
      have hq0 := (hc1 w.heap.size 0 z0).trans r0
      have hq1 := (hc1 (w.heap.size + 1) 0 z1).trans r1
      have hq2 := (hf1 (w.heap.size + 1) 0 z1).trans r2
      have hq3 := (hc1 (w.heap.size + 1 + 1) 0 hz).trans r3
      have hq4 := (hf1 (w.heap.size + 1 + 1) 0 hz).trans r4
      clear hc1 hf1
      cases b1
      · go_wp2
        refine leaves_cons (f := 149) (args := #[.pointer (some ⟨w.heap.size + 1 + 1, 0, none⟩), .pointer (some ⟨w.heap.size, 0, none⟩), .pointer (some ⟨w.heap.size + 1, 0, none⟩)]) (by simp) (by simp [go_sem]) ?_
        refine (all1_any _ _ _ _ _ _ _ _ .returning _ hq3 hq0 hq1 hq2).mono ?_
        rintro e u' w'' ⟨rfl, rfl, rfl⟩
        simp only [Leaves, settle]
        refine ⟨.bool false, by simp [results, Tryz.results107, go_sem, hq1], by simp, (by have hs0 := Below.size Hwr.out; have hs1 := Below.size hb1; repeat' (first | (with_reducible exact Hwr.out) | (with_reducible refine below_call hb1 ?_ ?_) | (with_reducible exact Below.refl _ _) | (with_reducible refine Below.alloc ?_ ?_ _) | (with_reducible refine Below.setCell ?_ ?_ _) | (with_reducible refine below_drewN ?_ _) | (with_reducible refine Below.drew ?_) | (with_reducible exact Nat.le_refl _) | omega | (simp; done) | ((try simp at hs0); (try simp at hs1);  (try simp); omega)))⟩
      · go_wp2
        go_roundw
        case rel =>
          refine ⟨1 + 1, by omega, by rfl, (by have hh := Hs.out; first | rfl | simpa using hh), (by have hs0 := Below.size Hwr.out; have hs1 := Below.size hb1; repeat' (first | (with_reducible exact Hwr.out) | (with_reducible refine below_call hb1 ?_ ?_) | (with_reducible exact Below.refl _ _) | (with_reducible refine Below.alloc ?_ ?_ _) | (with_reducible refine Below.setCell ?_ ?_ _) | (with_reducible refine below_drewN ?_ _) | (with_reducible refine Below.drew ?_) | (with_reducible exact Nat.le_refl _) | omega | (simp; done) | ((try simp at hs0); (try simp at hs1);  (try simp); omega))), by simpa [World.setCell] using hz1, ?_, ?_, ?_, ?_, ?_⟩
          all_goals simp [go_sem, hq0, hq1, hq2, hq3, hq4]
        case measure => simp [intOf]
    · have hw2 : wr.cell? _ = _ := (hwr.cell (p := ⟨g, off+2, none⟩) hg).trans h2
      clear h0 h1 h2 h3 hwr
      go_wp2_with fail
      refine (K2.out _ Hwr.out).mono ?_
      rintro e w1 ⟨rfl, hb1⟩
      obtain ⟨hc1, hf1⟩ := bcell' hb1 (Nat.le_refl _)
      have hz1 : w.heap.size + 1 + 1 < w1.heap.size := by have := hb1.size; omega
      have hq0 := (hc1 w.heap.size 0 z0).trans r0
      have hq1 := (hc1 (w.heap.size + 1) 0 z1).trans r1
      have hq2 := (hf1 (w.heap.size + 1) 0 z1).trans r2
      have hq3 := (hc1 (w.heap.size + 1 + 1) 0 hz).trans r3
      have hq4 := (hf1 (w.heap.size + 1 + 1) 0 hz).trans r4
      clear hc1 hf1
      cases b2
      · go_wp2
        refine leaves_cons (f := 149) (args := #[.pointer (some ⟨w.heap.size + 1 + 1, 0, none⟩), .pointer (some ⟨w.heap.size, 0, none⟩), .pointer (some ⟨w.heap.size + 1, 0, none⟩)]) (by simp) (by simp [go_sem]) ?_
        refine (all1_any _ _ _ _ _ _ _ _ .returning _ hq3 hq0 hq1 hq2).mono ?_
        rintro e u' w'' ⟨rfl, rfl, rfl⟩
        simp only [Leaves, settle]
        refine ⟨.bool false, by simp [results, Tryz.results107, go_sem, hq1], by simp, (by have hs0 := Below.size Hwr.out; have hs1 := Below.size hb1; repeat' (first | (with_reducible exact Hwr.out) | (with_reducible refine below_call hb1 ?_ ?_) | (with_reducible exact Below.refl _ _) | (with_reducible refine Below.alloc ?_ ?_ _) | (with_reducible refine Below.setCell ?_ ?_ _) | (with_reducible refine below_drewN ?_ _) | (with_reducible refine Below.drew ?_) | (with_reducible exact Nat.le_refl _) | omega | (simp; done) | ((try simp at hs0); (try simp at hs1);  (try simp); omega)))⟩
      · go_wp2
        go_roundw
        case rel =>
          refine ⟨2 + 1, by omega, by rfl, (by have hh := Hs.out; first | rfl | simpa using hh), (by have hs0 := Below.size Hwr.out; have hs1 := Below.size hb1; repeat' (first | (with_reducible exact Hwr.out) | (with_reducible refine below_call hb1 ?_ ?_) | (with_reducible exact Below.refl _ _) | (with_reducible refine Below.alloc ?_ ?_ _) | (with_reducible refine Below.setCell ?_ ?_ _) | (with_reducible refine below_drewN ?_ _) | (with_reducible refine Below.drew ?_) | (with_reducible exact Nat.le_refl _) | omega | (simp; done) | ((try simp at hs0); (try simp at hs1);  (try simp); omega))), by simpa [World.setCell] using hz1, ?_, ?_, ?_, ?_, ?_⟩
          all_goals simp [go_sem, hq0, hq1, hq2, hq3, hq4]
        case measure => simp [intOf]
    · have hw3 : wr.cell? _ = _ := (hwr.cell (p := ⟨g, off+3, none⟩) hg).trans h3
      clear h0 h1 h2 h3 hwr
      go_wp2_with fail
      refine (K3.out _ Hwr.out).mono ?_
      rintro e w1 ⟨rfl, hb1⟩
      obtain ⟨hc1, hf1⟩ := bcell' hb1 (Nat.le_refl _)
      have hz1 : w.heap.size + 1 + 1 < w1.heap.size := by have := hb1.size; omega
      have hq0 := (hc1 w.heap.size 0 z0).trans r0
      have hq1 := (hc1 (w.heap.size + 1) 0 z1).trans r1
      have hq2 := (hf1 (w.heap.size + 1) 0 z1).trans r2
      have hq3 := (hc1 (w.heap.size + 1 + 1) 0 hz).trans r3
      have hq4 := (hf1 (w.heap.size + 1 + 1) 0 hz).trans r4
      clear hc1 hf1
      cases b3
      · go_wp2
        refine leaves_cons (f := 149) (args := #[.pointer (some ⟨w.heap.size + 1 + 1, 0, none⟩), .pointer (some ⟨w.heap.size, 0, none⟩), .pointer (some ⟨w.heap.size + 1, 0, none⟩)]) (by simp) (by simp [go_sem]) ?_
        refine (all1_any _ _ _ _ _ _ _ _ .returning _ hq3 hq0 hq1 hq2).mono ?_
        rintro e u' w'' ⟨rfl, rfl, rfl⟩
        simp only [Leaves, settle]
        refine ⟨.bool false, by simp [results, Tryz.results107, go_sem, hq1], by simp, (by have hs0 := Below.size Hwr.out; have hs1 := Below.size hb1; repeat' (first | (with_reducible exact Hwr.out) | (with_reducible refine below_call hb1 ?_ ?_) | (with_reducible exact Below.refl _ _) | (with_reducible refine Below.alloc ?_ ?_ _) | (with_reducible refine Below.setCell ?_ ?_ _) | (with_reducible refine below_drewN ?_ _) | (with_reducible refine Below.drew ?_) | (with_reducible exact Nat.le_refl _) | omega | (simp; done) | ((try simp at hs0); (try simp at hs1);  (try simp); omega)))⟩
      · go_wp2
        go_roundw
        case rel =>
          refine ⟨3 + 1, by omega, by rfl, (by have hh := Hs.out; first | rfl | simpa using hh), (by have hs0 := Below.size Hwr.out; have hs1 := Below.size hb1; repeat' (first | (with_reducible exact Hwr.out) | (with_reducible refine below_call hb1 ?_ ?_) | (with_reducible exact Below.refl _ _) | (with_reducible refine Below.alloc ?_ ?_ _) | (with_reducible refine Below.setCell ?_ ?_ _) | (with_reducible refine below_drewN ?_ _) | (with_reducible refine Below.drew ?_) | (with_reducible exact Nat.le_refl _) | omega | (simp; done) | ((try simp at hs0); (try simp at hs1);  (try simp); omega))), by simpa [World.setCell] using hz1, ?_, ?_, ?_, ?_, ?_⟩
          all_goals simp [go_sem, hq0, hq1, hq2, hq3, hq4]
        case measure => simp [intOf]
    · go_wp2
      refine leaves_cons (f := 149) (args := #[.pointer (some ⟨w.heap.size + 1 + 1, 0, none⟩), .pointer (some ⟨w.heap.size, 0, none⟩), .pointer (some ⟨w.heap.size + 1, 0, none⟩)]) (by simp) (by simp [go_sem]) ?_
      refine (all1_any _ _ _ _ _ _ _ _ .returning _ r3 r0 r1 r2).mono ?_
      rintro e u' w'' ⟨rfl, rfl, rfl⟩
      simp only [Leaves, settle]
      have hh := Hs.out
      refine ⟨.bool true, by simp [results, Tryz.results107, go_sem, r1], ?_, (by have hs0 := Below.size Hwr.out; repeat' (first | (with_reducible exact Hwr.out) | (with_reducible exact Below.refl _ _) | (with_reducible refine Below.alloc ?_ ?_ _) | (with_reducible refine Below.setCell ?_ ?_ _) | (with_reducible refine below_drewN ?_ _) | (with_reducible refine Below.drew ?_) | (with_reducible exact Nat.le_refl _) | omega | (simp; done) | ((try simp at hs0);  (try simp); omega)))⟩
      simp at hh
      simp [hh]

namespace V
/-- What answers a bool from plain data. -/
theorem Fun.bool {P : Program} {f : FuncId} {x : AV} {b : Bool} (h : Fun P f [x] (bool b)) {w : World} {v : Value} (hv : RepD (fun _ => False) w v x) : Calls P f #[v] w fun e w' => e = .returned (.bool b) ∧ Below w.heap.size w w' := by
  refine (h (fun _ => False) w #[v] (fun _ h => h.elim) rfl (fun i u y hu hy => ?_)).mono ?_
  · rcases i with _ | i
    · simp at hu hy; subst hu hy; exact hv
    · simp at hy
  · rintro e w' ⟨u, rfl, hu, hb⟩
    cases hu
    exact ⟨rfl, hb⟩

theorem all_f {l : List AV} (hl : l ≠ []) {b0 b1 b2 b3 : Bool} (c0 : Fun Tryz.prog 108 [.pp l] (bool b0)) (c1 : Fun Tryz.prog 109 [.pp l] (bool b1)) (c2 : Fun Tryz.prog 110 [.pp l] (bool b2)) (c3 : Fun Tryz.prog 112 [.pp l] (bool b3)) :
    Fun Tryz.prog 107 [.sl false 1 [[.fn (.func 108) [] [.pp l]], [.fn (.func 109) [] [.pp l]], [.fn (.func 110) [] [.pp l]], [.fn (.func 112) [] [.pp l]]]] (bool (b0 && b1 && b2 && b3)) := by
  intro M w vs hM hsz hvs
  obtain ⟨v, rfl⟩ : ∃ v, vs = #[v] := by
    refine ⟨vs[0]'(by simp at hsz; omega), ?_⟩
    apply Array.ext
    · simpa using hsz
    · intro i h1 h2
      have : i = 0 := by simp at h2; omega
      subst this; rfl
  have hv := hvs 0 v _ rfl rfl
  obtain ⟨A, cap, rfl, hcap, -, -⟩ := hv.sl_val
  cases hv with
  | sl g off x hn hc hm hf hk hA hl' hx =>
    obtain ⟨rfl, -, hg⟩ := hA (by simp)
    have key : ∀ (i : Nat) (f : FuncId), i < 4 → (∀ y, ([[.fn (.func 108) [] [.pp l]], [.fn (.func 109) [] [.pp l]], [.fn (.func 110) [] [.pp l]], [.fn (.func 112) [] [.pp l]]] : List (List AV))[i]? = some y → y = [.fn (.func f) [] [.pp l]]) →
        ∃ p, w.cell? ⟨g, off + i, none⟩ = some (.func (.func f) #[] #[.pointer (some p)]) ∧ RepD M w (.pointer (some p)) (.pp l) := by
      intro i f hi hy
      obtain ⟨y, hy'⟩ : ∃ y, ([[.fn (.func 108) [] [.pp l]], [.fn (.func 109) [] [.pp l]], [.fn (.func 110) [] [.pp l]], [.fn (.func 112) [] [.pp l]]] : List (List AV))[i]? = some y := ⟨_, List.getElem?_eq_getElem (by simpa using hi)⟩
      have := hy y hy'
      subst this
      have h1 := hl' i 0 (by simpa using hi) (by omega)
      have h2 := hx i _ 0 _ hy' rfl
      have h3 : ∃ p, x i 0 = .func (.func f) #[] #[.pointer (some p)] ∧ RepD M w (.pointer (some p)) (.pp l) := by
        generalize x i 0 = u at h2
        cases h2 with
        | @fn _ fs cs _ _ hf hc e1 e2 =>
          obtain rfl : fs = #[] := Array.eq_empty_of_size_eq_zero (by simpa using hf)
          obtain ⟨c, rfl⟩ : ∃ c, cs = #[c] := by
            refine ⟨cs[0]'(by simp at hc; omega), ?_⟩
            apply Array.ext
            · simpa using hc
            · intro i h1 h2
              have : i = 0 := by simp at h2; omega
              subst this; rfl
          have h4 := e2 0 c _ rfl rfl
          have h4' : RepA (fun _ => none) M w c (.pp l) := .d h4
          obtain ⟨g', o', rfl⟩ := h4'.pp_addr
          exact ⟨_, rfl, h4⟩
      obtain ⟨p, h4, h5⟩ := h3
      rw [h4] at h1
      exact ⟨p, by simpa using h1.1, h5⟩
    obtain ⟨P0, e0, r0⟩ := key 0 _ (by omega) (fun y h => by injection h with h; exact h.symm)
    obtain ⟨P1, e1, r1⟩ := key 1 _ (by omega) (fun y h => by injection h with h; exact h.symm)
    obtain ⟨P2, e2, r2⟩ := key 2 _ (by omega) (fun y h => by injection h with h; exact h.symm)
    obtain ⟨P3, e3, r3⟩ := key 3 _ (by omega) (fun y h => by injection h with h; exact h.symm)
    have kp : ∀ {W : World} {v : Value}, Below w.heap.size w W → RepD M w v (.pp l) → RepD (fun _ => False) W v (.pp l) := fun hb h => h.keep (fun _ _ h => h.elim) hb.size fun g hg _ => hb.block g hg
    refine (all_any g off cap P0 P1 P2 P3 b0 b1 b2 b3 w hg (by simpa using hcap) e0 e1 e2 e3 (fun W hb => c0.bool (kp hb r0)) (fun W hb => c1.bool (kp hb r1)) (fun W hb => c2.bool (kp hb r2)) (fun W hb => c3.bool (kp hb r3))).mono ?_
    rintro e w' ⟨rfl, hb⟩
    exact ⟨_, rfl, .v _, hb⟩
end V
end Go.Proofs.YtkonljmmdifnaaaGreat
set_option linter.unusedSimpArgs false
set_option linter.unusedVariables false
namespace Go.Proofs.YtkonljmmdifnaaaGreat.V
open Go.RowKit
set_option maxRecDepth 100000

def manyRight (a b : Int) : Bool := decide (1 ≤ spanMany a b) && decide (spanMany a b ≤ 1100)
def Terms.right (t : Terms) : Bool := spanRight t.from_ t.to_ && manyRight t.from_ t.to_ && riskRight t.kind t.value t.age t.zone && coversRight t.covers

theorem right1_f (t : Terms) : Fun Tryz.prog 108 [.pp t.flat] (bool (spanRight t.from_ t.to_)) := by
  refine fun_W mixed Tryz.func108 rfl (Nat.le_of_ble_eq_true rfl) (by kernel_rfl) fun cx hN hR hF hL => ?_; apply args_k; (case hA => (simp only [go_sem, ↓reduceIte]; rfl))
  (try ((try (revert K;refine bK ?_));refine' run trivial ?_;(repeat' first|exact True.intro|refine Lv.mk ?_ ?_|(refine oK ?_;intro K hK)|intro hq);all_goals refine Lf.mk ?_))
  (refine callW cl70 (spanRight_f _ _) (by simp) ?_)
  (try ((try (revert K;refine bK ?_));refine' run trivial ?_;(repeat' first|exact True.intro|refine Lv.mk ?_ ?_|(refine oK ?_;intro K hK)|intro hq);all_goals refine Lf.mk ?_))

theorem right2_f (t : Terms) : Fun Tryz.prog 109 [.pp t.flat] (bool (manyRight t.from_ t.to_)) := by
  refine fun_W mixed Tryz.func109 rfl (Nat.le_of_ble_eq_true rfl) (by kernel_rfl) fun cx hN hR hF hL => ?_; apply args_k; (case hA => (simp only [go_sem, ↓reduceIte]; rfl))
  (try ((try (revert K;refine bK ?_));refine' run trivial ?_;(repeat' first|exact True.intro|refine Lv.mk ?_ ?_|(refine oK ?_;intro K hK)|intro hq);all_goals refine Lf.mk ?_))
  (refine callW cl21 (many_f _ _) (by simp) ?_)
  (try ((try (revert K;refine bK ?_));refine' run trivial ?_;(repeat' first|exact True.intro|refine Lv.mk ?_ ?_|(refine oK ?_;intro K hK)|intro hq);all_goals refine Lf.mk ?_))
  (refine callW cl21 (many_f _ _) (by simp) ?_)
  (try ((try (revert K;refine bK ?_));refine' run trivial ?_;(repeat' first|exact True.intro|refine Lv.mk ?_ ?_|(refine oK ?_;intro K hK)|intro hq);all_goals refine Lf.mk ?_))
  rfl

theorem right3_f (t : Terms) : Fun Tryz.prog 110 [.pp t.flat] (bool (riskRight t.kind t.value t.age t.zone)) := by
  refine fun_W mixed Tryz.func110 rfl (Nat.le_of_ble_eq_true rfl) (by kernel_rfl) fun cx hN hR hF hL => ?_; apply args_k; (case hA => (simp only [go_sem, ↓reduceIte]; rfl))
  (try ((try (revert K;refine bK ?_));refine' run trivial ?_;(repeat' first|exact True.intro|refine Lv.mk ?_ ?_|(refine oK ?_;intro K hK)|intro hq);all_goals refine Lf.mk ?_))
  (refine callW cl111 (riskRight_f _ _ _ _) (by simp) ?_)
  (try ((try (revert K;refine bK ?_));refine' run trivial ?_;(repeat' first|exact True.intro|refine Lv.mk ?_ ?_|(refine oK ?_;intro K hK)|intro hq);all_goals refine Lf.mk ?_))

theorem right4_f (t : Terms) : Fun Tryz.prog 112 [.pp t.flat] (bool (coversRight t.covers)) := by
  refine fun_W mixed Tryz.func112 rfl (Nat.le_of_ble_eq_true rfl) (by kernel_rfl) fun cx hN hR hF hL => ?_; apply args_k; (case hA => (simp only [go_sem, ↓reduceIte]; rfl))
  (try ((try (revert K;refine bK ?_));refine' run trivial ?_;(repeat' first|exact True.intro|refine Lv.mk ?_ ?_|(refine oK ?_;intro K hK)|intro hq);all_goals refine Lf.mk ?_))
  (refine callW cl113 (covers_f _) (by simp) ?_)
  (try ((try (revert K;refine bK ?_));refine' run trivial ?_;(repeat' first|exact True.intro|refine Lv.mk ?_ ?_|(refine oK ?_;intro K hK)|intro hq);all_goals refine Lf.mk ?_))

theorem termsRight_f (t : Terms) : Fun Tryz.prog 77 [.agg t.flat] (bool t.right) := by
  refine fun_W mixed Tryz.func77 rfl (Nat.le_of_ble_eq_true rfl) (by kernel_rfl) fun cx hN hR hF hL => ?_; apply args_k; (case hA => (simp only [go_sem, ↓reduceIte]; rfl))
  (try ((try (revert K;refine bK ?_));refine' run trivial ?_;(repeat' first|exact True.intro|refine Lv.mk ?_ ?_|(refine oK ?_;intro K hK)|intro hq);all_goals refine Lf.mk ?_))
  (apply callL' [0, 1032] cl107 (all_f (l := t.flat) (by simp [Terms.flat]) (right1_f t) (right2_f t) (right3_f t) (right4_f t)); (case hp | hl => (simp only [go_sem, ↓reduceIte]; try rfl)); (case hx => (simp [AV.flat0])); (try (case hfz => (first | (simp only [go_sem]; done) | (simp [go_sem, fzo]; done)))))
  (try ((try (revert K;refine bK ?_));refine' run trivial ?_;(repeat' first|exact True.intro|refine Lv.mk ?_ ?_|(refine oK ?_;intro K hK)|intro hq);all_goals refine Lf.mk ?_))
  rfl

theorem clone_f (l : List Cover) (f : Bool) (hl : l.length ≤ 100000) : Fun Tryz.prog 49 [.sl f 5 (l.map Cover.flat)] (covs l) := by
  refine fun_W mixed Tryz.func49 rfl (Nat.le_of_ble_eq_true rfl) (by kernel_rfl) fun cx hN hR hF hL => ?_; apply args_k; (case hA => (simp only [go_sem, ↓reduceIte]; rfl))
  (try ((try (revert K;refine bK ?_));refine' run trivial ?_;(repeat' first|exact True.intro|refine Lv.mk ?_ ?_|(refine oK ?_;intro K hK)|intro hq);all_goals refine Lf.mk ?_))
  rotate_left
  · simp [maxLen]; omega
  exact ⟨rows_len Cover.len l, fzo_rows Cover.len Cover.data l rfl⟩

def isDay (n : Int) : Bool := decide (1 ≤ n) && decide (n ≤ 292194)

theorem day_f (n : Int) : Fun Tryz.prog 76 [int n] (bool (isDay n)) := by
  refine fun_W mixed Tryz.func76 rfl (Nat.le_of_ble_eq_true rfl) (by kernel_rfl) fun cx hN hR hF hL => ?_; apply args_k; (case hA => (simp only [go_sem, ↓reduceIte]; rfl))
  (try ((try (revert K;refine bK ?_));refine' run trivial ?_;(repeat' first|exact True.intro|refine Lv.mk ?_ ?_|(refine oK ?_;intro K hK)|intro hq);all_goals refine Lf.mk ?_))
  rfl

def riskZero (a b c d : Int) : Bool := decide ([a, b, c, d] = [0, 0, 0, 0])
def check1 (c : Change) : Bool := riskRight c.rk c.rv c.ra c.rz && decide ((c.covers.length : Int) = 0) && decide (c.way = 0)
def check2 (c : Change) : Bool := coversRight c.covers && riskZero c.rk c.rv c.ra c.rz && decide (c.way = 0)
def check3 (c : Change) : Bool := (decide (c.way = 0) || decide (c.way = 1)) && decide ((c.covers.length : Int) = 0) && riskZero c.rk c.rv c.ra c.rz
def check4 (c : Change) : Bool := decide (c.way = 0) && decide ((c.covers.length : Int) = 0) && riskZero c.rk c.rv c.ra c.rz

theorem check1_f (c : Change) : Fun Tryz.prog 114 [.agg c.flat] (bool (check1 c)) := by
  refine fun_W mixed Tryz.func114 rfl (Nat.le_of_ble_eq_true rfl) (by kernel_rfl) fun cx hN hR hF hL => ?_; apply args_k; (case hA => (simp only [go_sem, ↓reduceIte]; rfl))
  (try ((try (revert K;refine bK ?_));refine' run trivial ?_;(repeat' first|exact True.intro|refine Lv.mk ?_ ?_|(refine oK ?_;intro K hK)|intro hq);all_goals refine Lf.mk ?_))
  (refine callW cl111 (riskRight_f _ _ _ _) (by simp) ?_)
  (try ((try (revert K;refine bK ?_));refine' run trivial ?_;(repeat' first|exact True.intro|refine Lv.mk ?_ ?_|(refine oK ?_;intro K hK)|intro hq);all_goals refine Lf.mk ?_))
  rfl

theorem check2_f (c : Change) : Fun Tryz.prog 115 [.agg c.flat] (bool (check2 c)) := by
  refine fun_W mixed Tryz.func115 rfl (Nat.le_of_ble_eq_true rfl) (by kernel_rfl) fun cx hN hR hF hL => ?_; apply args_k; (case hA => (simp only [go_sem, ↓reduceIte]; rfl))
  (try ((try (revert K;refine bK ?_));refine' run trivial ?_;(repeat' first|exact True.intro|refine Lv.mk ?_ ?_|(refine oK ?_;intro K hK)|intro hq);all_goals refine Lf.mk ?_))
  (refine callW cl113 (covers_f _) (by simp) ?_)
  (try ((try (revert K;refine bK ?_));refine' run trivial ?_;(repeat' first|exact True.intro|refine Lv.mk ?_ ?_|(refine oK ?_;intro K hK)|intro hq);all_goals refine Lf.mk ?_))
  rfl

theorem check3_f (c : Change) : Fun Tryz.prog 116 [.agg c.flat] (bool (check3 c)) := by
  refine fun_W mixed Tryz.func116 rfl (Nat.le_of_ble_eq_true rfl) (by kernel_rfl) fun cx hN hR hF hL => ?_; apply args_k; (case hA => (simp only [go_sem, ↓reduceIte]; rfl))
  (try ((try (revert K;refine bK ?_));refine' run trivial ?_;(repeat' first|exact True.intro|refine Lv.mk ?_ ?_|(refine oK ?_;intro K hK)|intro hq);all_goals refine Lf.mk ?_))
  rfl

theorem check4_f (c : Change) : Fun Tryz.prog 117 [.agg c.flat] (bool (check4 c)) := by
  refine fun_W mixed Tryz.func117 rfl (Nat.le_of_ble_eq_true rfl) (by kernel_rfl) fun cx hN hR hF hL => ?_; apply args_k; (case hA => (simp only [go_sem, ↓reduceIte]; rfl))
  (try ((try (revert K;refine bK ?_));refine' run trivial ?_;(repeat' first|exact True.intro|refine Lv.mk ?_ ?_|(refine oK ?_;intro K hK)|intro hq);all_goals refine Lf.mk ?_))
  rfl

theorem own_f (t : Terms) (hl : t.covers.length ≤ 100000) : Fun Tryz.prog 50 [.agg t.flat] (.agg t.flat) := by
  refine fun_W mixed Tryz.func50 rfl (Nat.le_of_ble_eq_true rfl) (by kernel_rfl) fun cx hN hR hF hL => ?_; apply args_k; (case hA => (simp only [go_sem, ↓reduceIte]; rfl))
  (try ((try (revert K;refine bK ?_));refine' run trivial ?_;(repeat' first|exact True.intro|refine Lv.mk ?_ ?_|(refine oK ?_;intro K hK)|intro hq);all_goals refine Lf.mk ?_))
  (refine callW cl49 (clone_f _ _ hl) (by simp) ?_)
  (try ((try (revert K;refine bK ?_));refine' run trivial ?_;(repeat' first|exact True.intro|refine Lv.mk ?_ ?_|(refine oK ?_;intro K hK)|intro hq);all_goals refine Lf.mk ?_))
end Go.Proofs.YtkonljmmdifnaaaGreat.V
set_option linter.unusedSimpArgs false
set_option linter.unusedVariables false
namespace Go.Proofs.YtkonljmmdifnaaaGreat.V
open Go.RowKit
set_option maxRecDepth 100000

def checksMap : Array MapEntry := #[{ key := .int .i64 1, val := .func (.func 114) #[] #[], born := 0 }, { key := .int .i64 2, val := .func (.func 115) #[] #[], born := 1 },
  { key := .int .i64 3, val := .func (.func 116) #[] #[], born := 2 }, { key := .int .i64 4, val := .func (.func 117) #[] #[], born := 3 }]

/-- A key that is not there yet is laid behind the others, in a map that was made last. -/
theorem run_insert_new {P : Program} {t kt et : TypeId} (ht : P.underlying t = some (.map kt et)) (hk : P.underlying kt = some (.int .i64)) (es : Array MapEntry) (c : Nat) (k : Int) (v : Value)
    (hf : Instr.findNow (.int .i64) (.int .i64 k) es.toList 0 = some none) (w : World) (r : Nat) (hr : r = w.heap.size) :
    (Instr.mapUpdate t (.map (some r)) (.int .i64 k) v).run P (w.alloc (.map es c)) = .ok () (w.alloc (.map (es.push { key := .int .i64 k, val := v, born := c }) (c + 1))) := by
  subst hr
  have h1 : (w.alloc (.map es c)).heap[w.heap.size]? = some (.map es c) := heap_alloc_new w _
  have h2 : ∀ o, ({ (w.alloc (.map es c)) with heap := (w.alloc (.map es c)).heap.setIfInBounds w.heap.size o } : World) = w.alloc o := by
    intro o
    show ({ w with heap := (w.heap.push _).setIfInBounds w.heap.size o } : World) = { w with heap := w.heap.push o }
    congr 1
    apply Array.ext_getElem?
    intro i
    rw [Array.getElem?_setIfInBounds, Array.getElem?_push, Array.getElem?_push]
    by_cases h5 : i = w.heap.size
    · subst h5; simp
    · rw [if_neg (fun h => h5 h.symm), if_neg h5, if_neg h5]
  simp only [Instr.mapUpdate, Sem.run_bind, run_underlying ht, Result.andThen_ok, MapKept.run_getObj_map h1, MapKept.run_checkKey hk (show MapKept.IsKey (.int .i64) (.int .i64 k) from rfl), MapKept.run_findKey hk hf, MapKept.run_setObj_map _ h1, h2]

set_option maxHeartbeats 400000 in
theorem checks_any (w : World) : Calls Tryz.prog 78 #[] w fun e w' => e = .returned (.map (some w.heap.size)) ∧ w.alloc (.map checksMap 4) = w' := by
  have hmm := @run_makeMap Tryz.prog
  have ht := Tryz.underlying114
  have hk := Tryz.underlying3
  have i1 := fun w : World => run_insert_new (P := Tryz.prog) ht hk #[] 0 1 (.func (.func 114) #[] #[]) rfl w _ rfl
  have i2 := fun w : World => run_insert_new (P := Tryz.prog) ht hk #[{ key := .int .i64 1, val := .func (.func 114) #[] #[], born := 0 }] 1 2 (.func (.func 115) #[] #[]) rfl w _ rfl
  have i3 := fun w : World => run_insert_new (P := Tryz.prog) ht hk #[{ key := .int .i64 1, val := .func (.func 114) #[] #[], born := 0 }, { key := .int .i64 2, val := .func (.func 115) #[] #[], born := 1 }] 2 3 (.func (.func 116) #[] #[]) rfl w _ rfl
  have i4 := fun w : World => run_insert_new (P := Tryz.prog) ht hk #[{ key := .int .i64 1, val := .func (.func 114) #[] #[], born := 0 }, { key := .int .i64 2, val := .func (.func 115) #[] #[], born := 1 }, { key := .int .i64 3, val := .func (.func 116) #[] #[], born := 2 }] 3 4 (.func (.func 117) #[] #[]) rfl w _ rfl
  simp only [List.push_toArray, List.cons_append, List.nil_append, Nat.zero_add, Nat.reduceAdd] at i1 i2 i3 i4
  clear ht hk
  go_enter Tryz.func78, Tryz.ntmps78
  go_wp2
  go_ret
  exact ⟨rfl, rfl⟩

theorem checks_f : Fun Tryz.prog 78 [] (.mp checksMap 4) := by
  intro M w vs hM hsz _
  obtain rfl : vs = #[] := Array.eq_empty_of_size_eq_zero (by simpa using hsz)
  refine (checks_any w).mono ?_
  rintro e w' ⟨rfl, rfl⟩
  exact ⟨_, rfl, .mp (fun h => by have := hM _ h; omega) (heap_alloc_new w _), (Below.refl _ _).alloc (Nat.le_refl _) _⟩

theorem find_none {k : Int} (h1 : k ≠ 1) (h2 : k ≠ 2) (h3 : k ≠ 3) (h4 : k ≠ 4) : Instr.findNow (.int .i64) (.int .i64 k) checksMap.toList 0 = some none := by
  have e1 : (k == 1) = false := by simpa using h1
  have e2 : (k == 2) = false := by simpa using h2
  have e3 : (k == 3) = false := by simpa using h3
  have e4 : (k == 4) = false := by simpa using h4
  simp [checksMap, Instr.findNow, Instr.sameNow, e1, e2, e3, e4]

def kindRight (c : Change) : Bool :=
  if c.kind = 1 then check1 c else if c.kind = 2 then check2 c else if c.kind = 3 then check3 c else if c.kind = 4 then check4 c else false
def Change.right (c : Change) : Bool := isDay c.booked && isDay c.day && kindRight c

theorem changeRight_f (c : Change) : Fun Tryz.prog 47 [.agg c.flat] (bool c.right) := by
  have hu := Tryz.underlying114
  by_cases hk4 : c.kind = 1 ∨ c.kind = 2 ∨ c.kind = 3 ∨ c.kind = 4
  · rcases hk4 with hk | hk | hk | hk
    · have hf : Instr.findNow (.int .i64) (.int .i64 1) checksMap.toList 0 = some (some (1 - 1, .func (.func 114) #[] #[])) := rfl
      refine fun_W mixed Tryz.func47 rfl (Nat.le_of_ble_eq_true rfl) (by kernel_rfl) fun cx hN hR hF hL => ?_; apply args_k; (case hA => (simp only [go_sem, ↓reduceIte]; rfl))
      (repeat' first|((try (revert K;refine bK ?_));refine' run (I hk (I hf hu)) ?_;(repeat' first|exact True.intro|refine Lv.mk ?_ ?_|(refine oK ?_;intro K hK)|intro hq);all_goals refine Lf.mk ?_)|refine callZ cl78 (checks_f) ?_|refine callZ cl76 (day_f _) ?_|refine callZ cl114 (check1_f { c with kind := 1 }) ?_)
      simp [Change.right, kindRight, hk, check1]
    · have hf : Instr.findNow (.int .i64) (.int .i64 2) checksMap.toList 0 = some (some (2 - 1, .func (.func 115) #[] #[])) := rfl
      refine fun_W mixed Tryz.func47 rfl (Nat.le_of_ble_eq_true rfl) (by kernel_rfl) fun cx hN hR hF hL => ?_; apply args_k; (case hA => (simp only [go_sem, ↓reduceIte]; rfl))
      (repeat' first|((try (revert K;refine bK ?_));refine' run (I hk (I hf hu)) ?_;(repeat' first|exact True.intro|refine Lv.mk ?_ ?_|(refine oK ?_;intro K hK)|intro hq);all_goals refine Lf.mk ?_)|refine callZ cl78 (checks_f) ?_|refine callZ cl76 (day_f _) ?_|refine callZ cl115 (check2_f { c with kind := 2 }) ?_)
      simp [Change.right, kindRight, hk, check2]
    · have hf : Instr.findNow (.int .i64) (.int .i64 3) checksMap.toList 0 = some (some (3 - 1, .func (.func 116) #[] #[])) := rfl
      refine fun_W mixed Tryz.func47 rfl (Nat.le_of_ble_eq_true rfl) (by kernel_rfl) fun cx hN hR hF hL => ?_; apply args_k; (case hA => (simp only [go_sem, ↓reduceIte]; rfl))
      (repeat' first|((try (revert K;refine bK ?_));refine' run (I hk (I hf hu)) ?_;(repeat' first|exact True.intro|refine Lv.mk ?_ ?_|(refine oK ?_;intro K hK)|intro hq);all_goals refine Lf.mk ?_)|refine callZ cl78 (checks_f) ?_|refine callZ cl76 (day_f _) ?_|refine callZ cl116 (check3_f { c with kind := 3 }) ?_)
      simp [Change.right, kindRight, hk, check3]
    · have hf : Instr.findNow (.int .i64) (.int .i64 4) checksMap.toList 0 = some (some (4 - 1, .func (.func 117) #[] #[])) := rfl
      refine fun_W mixed Tryz.func47 rfl (Nat.le_of_ble_eq_true rfl) (by kernel_rfl) fun cx hN hR hF hL => ?_; apply args_k; (case hA => (simp only [go_sem, ↓reduceIte]; rfl))
      (repeat' first|((try (revert K;refine bK ?_));refine' run (I hk (I hf hu)) ?_;(repeat' first|exact True.intro|refine Lv.mk ?_ ?_|(refine oK ?_;intro K hK)|intro hq);all_goals refine Lf.mk ?_)|refine callZ cl78 (checks_f) ?_|refine callZ cl76 (day_f _) ?_|refine callZ cl117 (check4_f { c with kind := 4 }) ?_)
      simp [Change.right, kindRight, hk, check4]
  · have h1 : c.kind ≠ 1 := fun h => hk4 (.inl h)
    have h2 : c.kind ≠ 2 := fun h => hk4 (.inr (.inl h))
    have h3 : c.kind ≠ 3 := fun h => hk4 (.inr (.inr (.inl h)))
    have h4 : c.kind ≠ 4 := fun h => hk4 (.inr (.inr (.inr h)))
    have hf := find_none h1 h2 h3 h4
    refine fun_W mixed Tryz.func47 rfl (Nat.le_of_ble_eq_true rfl) (by kernel_rfl) fun cx hN hR hF hL => ?_; apply args_k; (case hA => (simp only [go_sem, ↓reduceIte]; rfl))
    (repeat' first|((try (revert K;refine bK ?_));refine' run (I hf hu) ?_;(repeat' first|exact True.intro|refine Lv.mk ?_ ?_|(refine oK ?_;intro K hK)|intro hq);all_goals refine Lf.mk ?_)|refine callZ cl78 (checks_f) ?_)
    simp [Change.right, kindRight, h1, h2, h3, h4]
end Go.Proofs.YtkonljmmdifnaaaGreat.V
set_option linter.unusedSimpArgs false
set_option linter.unusedVariables false
namespace Go.Proofs.YtkonljmmdifnaaaGreat.V
open Go.RowKit
set_option maxRecDepth 100000

/-- The same of ref 10. -/
theorem ref10Covers_f (l : List Cover) (ho : ∀ c, c ∈ l → c.ok) : Fun Tryz.prog 129 [covs l] (bool (coversRight l)) := by
  refine fun_W mixed Tryz.func129 rfl (Nat.le_of_ble_eq_true rfl) (by kernel_rfl) fun cx hN hR hF hL => ?_; apply args_k; (case hA => (simp only [go_sem, ↓reduceIte]; rfl))
  simp at hL
  have hl := hL.1
  simp [maxLen] at hl
  (try ((try (revert K;refine bK ?_));refine' run trivial ?_;(repeat' first|exact True.intro|refine Lv.mk ?_ ?_|(refine oK ?_;intro K hK)|intro hq);all_goals refine Lf.mk ?_))
  · rw [eq_comm, coversRight, Bool.and_eq_false_iff]
    refine .inr ?_
    rw [Bool.and_eq_false_iff]
    simp
    omega
  refine loopW mixed (σ := {i : Nat // i ≤ l.length ∧ coversFrom (-1) l = coversFrom (lastPeril (-1) (l.take i)) (l.drop i)}) (fun s => ⟨[(3, int s.1), (2, bool false), (0, covs l)], [], 3000⟩) (fun s => l.length - s.1) id ⟨0, by omega, rfl⟩ (by rw [hN]; kernel_rfl) ?_ ?_
  · simp only [go_sem, ↓reduceIte, hF]
    rfl
  · rintro ⟨i, h1, h2⟩
    by_cases hi : i < l.length
    · have e1 : l[i]? = some l[i] := List.getElem?_eq_getElem hi
      have e2 : IntKind.i64.wrap ((i : Int) + 1) = ((i + 1 : Nat) : Int) := by rw [wrap_id] <;> omega
      have hp : (l[i]).right = true → 0 ≤ (l[i]).peril := by
        intro h
        simp [Cover.right, coverRight] at h
        omega
      have hnx : coversFrom (lastPeril (-1) (l.take i)) (l.drop i) = (!(decide ((l[i]).peril ≤ lastPeril (-1) (l.take i)) || !(l[i]).right) && coversFrom (lastPeril (-1) (l.take (i + 1))) (l.drop (i + 1))) := by
        rw [List.drop_eq_getElem_cons hi, coversFrom, last_take hi]
      rcases i with _ | j
      · (repeat' first|((try (revert K;refine bK ?_));refine' run (I e1 e2) ?_;(repeat' first|exact True.intro|refine Lv.mk ?_ ?_|(refine oK ?_;intro K hK)|intro hq);all_goals refine Lf.mk ?_)|refine callZ cl132 (ref08_f _ (ho _ (List.getElem_mem hi))) ?_)
        · rw [coversRight, h2, hnx]
          simp [hq]
        · rename_i hr
          have h0 := hp hr
          refine ⟨⟨0 + 1, by omega, ?_⟩, id, ?_, by show l.length - (0 + 1) < l.length - 0; omega⟩
          · rw [h2, hnx]
            simp [hr, lastPeril]
            omega
          · simp only [go_sem, ↓reduceIte, hF]
      · have e3 : l[j]? = some l[j] := List.getElem?_eq_getElem (by omega)
        have e4 : IntKind.i64.wrap (((j + 1 : Nat) : Int) - 1) = (j : Int) := by rw [wrap_id] <;> omega
        (repeat' first|((try (revert K;refine bK ?_));refine' run (I e1 (I e2 (I e3 e4))) ?_;(repeat' first|exact True.intro|refine Lv.mk ?_ ?_|(refine oK ?_;intro K hK)|intro hq);all_goals refine Lf.mk ?_)|refine callZ cl132 (ref08_f _ (ho _ (List.getElem_mem hi))) ?_)
        · rw [coversRight, h2, hnx]
          simp [hq]
        · rw [coversRight, h2, hnx, last_take (show j < l.length by omega)]
          simp [hq]
        · rename_i hr _
          refine ⟨⟨j + 1 + 1, by omega, ?_⟩, id, ?_, by show l.length - (j + 1 + 1) < l.length - (j + 1); omega⟩
          · rw [h2, hnx, last_take (show j < l.length by omega)]
            simp [hr]
            omega
          · simp only [go_sem, ↓reduceIte, hF]
    · (try ((try (revert K;refine bK ?_));refine' run trivial ?_;(repeat' first|exact True.intro|refine Lv.mk ?_ ?_|(refine oK ?_;intro K hK)|intro hq);all_goals refine Lf.mk ?_))
      rw [List.drop_eq_nil_of_le (by omega)] at h2
      simp [coversRight, h2, coversFrom]
      omega
end Go.Proofs.YtkonljmmdifnaaaGreat.V
set_option linter.unusedSimpArgs false
set_option linter.unusedVariables false
namespace Go.Proofs.YtkonljmmdifnaaaGreat.V
open Go.RowKit
set_option maxRecDepth 100000
attribute [local go_sem] Option.toList_some Option.toList_none

theorem ref10Right_f (t : Terms) (ho : t.ok) : Fun Tryz.prog 89 [.agg t.flat] (bool t.right) := by
  have ho2 := ho.2
  have w1 : full t.from_ t.to_ = true → IntKind.i64.wrap (t.to_ - t.from_) = t.to_ - t.from_ := by
    intro h
    simp [full] at h
    exact wrap_id (by omega) (by omega)
  have key : t.right = (full t.from_ t.to_ && decide (t.to_ - t.from_ ≤ 1100) && riskRight t.kind t.value t.age t.zone && coversRight t.covers) := by
    have : (spanRight t.from_ t.to_ && manyRight t.from_ t.to_) = (full t.from_ t.to_ && decide (t.to_ - t.from_ ≤ 1100)) := by
      rw [Bool.eq_iff_iff]
      by_cases h : spanRight t.from_ t.to_ = true
      · simp only [manyRight, spanMany, keptFrom, keptTo, full, h, Bool.true_and]
        simp [spanRight] at h
        by_cases e : t.from_ = t.to_
        · simp [e]
        · simp [e]; omega
      · simp only [Bool.not_eq_true] at h
        rw [h, Bool.false_and]
        simp [spanRight, full] at h ⊢
        omega
    rw [Terms.right, this]
  refine fun_W mixed Tryz.func89 rfl (Nat.le_of_ble_eq_true rfl) (by kernel_rfl) fun cx hN hR hF hL => ?_; apply args_k; (case hA => (simp only [go_sem, ↓reduceIte]; rfl))
  (repeat' first|((try (revert K;refine bK ?_));refine' run trivial ?_;(repeat' first|exact True.intro|refine Lv.mk ?_ ?_|(refine oK ?_;intro K hK)|intro hq);all_goals refine Lf.mk ?_)|refine callZ cl127 (full_f _ _) ?_|refine callZ cl128 (ref06_f _ _ _ _) ?_|refine callZ cl129 (ref10Covers_f _ ho2) ?_)
  · rw [key, hq]; rfl
  · rw [key, hq, w1 hq]; rfl

/-- ref 11 asks it so. -/
theorem ref11Right_f (c : Change) (ho : c.ok) : Fun Tryz.prog 90 [.agg c.flat] (bool c.right) := by
  have ho2 := ho.2
  refine fun_W mixed Tryz.func90 rfl (Nat.le_of_ble_eq_true rfl) (by kernel_rfl) fun cx hN hR hF hL => ?_; apply args_k; (case hA => (simp only [go_sem, ↓reduceIte]; rfl))
  (repeat' first|((try (revert K;refine bK ?_));refine' run trivial ?_;(repeat' first|exact True.intro|refine Lv.mk ?_ ?_|(refine oK ?_;intro K hK)|intro hq);all_goals refine Lf.mk ?_)|refine callZ cl128 (ref06_f _ _ _ _) ?_|refine callZ cl129 (ref10Covers_f _ ho2) ?_)
  all_goals rw [Bool.eq_iff_iff]
  all_goals simp [Change.right, kindRight, isDay, check1, check2, check3, check4, riskZero] at hq ⊢
  all_goals first
    | (intro a b c d; omega)
    | grind

def zeroTerms : Terms := ⟨0, 0, 0, 0, 0, 0, []⟩
def zeroHist : History := ⟨0, 0, zeroTerms, []⟩
def bindOk (id booked : Int) (t : Terms) : Bool := !(decide (id < 1) || decide (1000000000 < id) || !isDay booked || !t.right)
def bindH (id booked : Int) (t : Terms) : History := if bindOk id booked t then ⟨id, booked, t, []⟩ else zeroHist
def bindE (id booked : Int) (t : Terms) : Int := if bindOk id booked t then 0 else 1

theorem bind_f (id booked : Int) (t : Terms) (hl : t.covers.length ≤ 100000) : Fun Tryz.prog 45 [int id, int booked, .agg t.flat] (.tup [.agg (bindH id booked t).flat, int (bindE id booked t)]) := by
  refine fun_W mixed Tryz.func45 rfl (Nat.le_of_ble_eq_true rfl) (by kernel_rfl) fun cx hN hR hF hL => ?_; apply args_k; (case hA => (simp only [go_sem, ↓reduceIte]; rfl))
  (repeat' first|((try (revert K;refine bK ?_));refine' run trivial ?_;(repeat' first|exact True.intro|refine Lv.mk ?_ ?_|(refine oK ?_;intro K hK)|intro hq);all_goals refine Lf.mk ?_)|refine callZ cl76 (day_f _) ?_|refine callZ cl77 (termsRight_f _) ?_|refine callZ cl50 (own_f _ hl) ?_)
  · have hb : bindOk id booked t = false := by simp only [bindOk]; grind
    simp [bindH, bindE, hb, zeroHist, zeroTerms]
  · have hb : bindOk id booked t = true := by simp only [bindOk]; grind
    simp [bindH, bindE, hb]

end Go.Proofs.YtkonljmmdifnaaaGreat.V
set_option linter.unusedSimpArgs false
set_option linter.unusedVariables false
namespace Go.Proofs.YtkonljmmdifnaaaGreat.V
open Go.RowKit
set_option maxRecDepth 100000
attribute [local go_sem] Option.toList_some Option.toList_none

def inDay (h : History) (c : Change) : Bool := c.right && spanIn h.terms.from_ h.terms.to_ c.day
def histR (h : History) : Bool := h.terms.right && decide ((h.changes.length : Int) ≤ 2000) && h.changes.all (inDay h)
theorem all_drop_no {α : Type} {p : α → Bool} {l : List α} {i : Nat} (hi : i < l.length) (h : p l[i] = false) : l.all p = false := by
  rw [List.all_eq_false]
  exact ⟨l[i], List.getElem_mem hi, by simp [h]⟩
theorem all_drop_yes {α : Type} {p : α → Bool} {l : List α} {i : Nat} (hi : i < l.length) (h : p l[i] = true) : (l.drop i).all p = (l.drop (i + 1)).all p := by
  rw [List.drop_eq_getElem_cons hi, List.all_cons, h, Bool.true_and]
theorem right12_f (h : History) (hl : h.changes.length ≤ 1000000) : Fun Tryz.prog 51 [.agg h.flat] (bool (histR h)) := by
  refine fun_W mixed Tryz.func51 rfl (Nat.le_of_ble_eq_true rfl) (by kernel_rfl) fun cx hN hR hF hL => ?_; apply args_k; (case hA => (simp only [go_sem, ↓reduceIte]; rfl))
  (try ((try (revert K;refine bK ?_));refine' run trivial ?_;(repeat' first|exact True.intro|refine Lv.mk ?_ ?_|(refine oK ?_;intro K hK)|intro hq);all_goals refine Lf.mk ?_))
  refine loopW mixed (σ := {i : Nat // i ≤ h.changes.length ∧ h.changes.all (inDay h) = (h.changes.drop i).all (inDay h)}) (fun s => ⟨[(8, int s.1), (1, .ptr 0 0), (6, chgs h.changes), (7, int h.changes.length), (2, bool false)], [(0, some ⟨31, h.flat⟩)], 3000⟩) (fun s => h.changes.length - s.1) id ⟨0, by omega, rfl⟩ (by rw [hN]; kernel_rfl) ?_ ?_
  · simp only [go_sem, ↓reduceIte, hF]
    all_goals rfl
  · rintro ⟨i, h1, h2⟩
    simp only at h1 h2 ⊢
    by_cases hi : i < h.changes.length
    · have e1 : (h.changes.map Change.flat)[i]? = some (h.changes[i].flat) := by rw [List.getElem?_map, List.getElem?_eq_getElem hi]; rfl
      have e2 : IntKind.i64.wrap ((i : Int) + 1) = ((i + 1 : Nat) : Int) := by rw [wrap_id] <;> omega
      have k1 := changeRight_f h.changes[i]
      have k2 := in_f h.terms.from_ h.terms.to_ h.changes[i].day
      cases hb : inDay h h.changes[i]
      · have hz : histR h = false := by rw [histR, all_drop_no hi hb, Bool.and_false]
        rw [hz]
        have hb' : (!(h.changes[i].right) || !(spanIn h.terms.from_ h.terms.to_ h.changes[i].day)) = true := by revert hb; rw [inDay]; cases h.changes[i].right <;> simp
        generalize h.changes[i] = c at *
        (repeat' first|((try (revert K;refine bK ?_));refine' run (I e1 (I e2 hb')) ?_;(repeat' first|exact True.intro|refine Lv.mk ?_ ?_|(refine oK ?_;intro K hK)|intro hq);all_goals refine Lf.mk ?_)|refine callZ cl47 (k1) ?_|refine callZ cl18 (k2) ?_)
      · rw [all_drop_yes hi hb] at h2
        have hb' : h.changes[i].right = true ∧ spanIn h.terms.from_ h.terms.to_ h.changes[i].day = true := by rw [inDay, Bool.and_eq_true] at hb; exact hb
        rw [hb'.1] at k1
        rw [hb'.2] at k2
        generalize h.changes[i] = c at *
        (repeat' first|((try (revert K;refine bK ?_));refine' run (I e1 e2) ?_;(repeat' first|exact True.intro|refine Lv.mk ?_ ?_|(refine oK ?_;intro K hK)|intro hq);all_goals refine Lf.mk ?_)|refine callZ cl47 (k1) ?_|refine callZ cl18 (k2) ?_)
        refine ⟨⟨i + 1, hi, h2⟩, id, ?_, by show h.changes.length - (i + 1) < h.changes.length - i; omega⟩
        simp only [go_sem, ↓reduceIte, hF]
    · obtain rfl : i = h.changes.length := by omega
      rw [List.drop_length] at h2
      have k := termsRight_f h.terms
      have hz : histR h = (h.terms.right && decide ((h.changes.length : Int) ≤ 2000)) := by rw [histR, h2]; simp
      rw [hz]
      (repeat' first|((try (revert K;refine bK ?_));refine' run trivial ?_;(repeat' first|exact True.intro|refine Lv.mk ?_ ?_|(refine oK ?_;intro K hK)|intro hq);all_goals refine Lf.mk ?_)|refine callZ cl77 (k) ?_)
theorem rRight12_f (h : History) (ho : h.ok) (hl : h.changes.length ≤ 1000000) : Fun Tryz.prog 57 [.agg h.flat] (bool (histR h)) := by
  have ho2 := ho.2.1
  have k0 := ref10Right_f h.terms ho2
  by_cases hg : (h.terms.right && decide ((h.changes.length : Int) ≤ 2000)) = true
  · rw [Bool.and_eq_true, decide_eq_true_eq] at hg
    have hz : histR h = h.changes.all (inDay h) := by rw [histR, hg.1, decide_eq_true hg.2]; rfl
    have g2 : ((h.changes.length : Int) > 2000) = False := eq_false (by omega)
    have hg1 := hg.1
    rw [hz]
    refine fun_W mixed Tryz.func57 rfl (Nat.le_of_ble_eq_true rfl) (by kernel_rfl) fun cx hN hR hF hL => ?_; apply args_k; (case hA => (simp only [go_sem, ↓reduceIte]; rfl))
    (repeat' first|((try (revert K;refine bK ?_));refine' run (I hg1 (I g2 (decide_eq_false (of_eq_false g2)))) ?_;(repeat' first|exact True.intro|refine Lv.mk ?_ ?_|(refine oK ?_;intro K hK)|intro hq);all_goals refine Lf.mk ?_)|refine callZ cl89 (k0) ?_)
    refine loopW mixed (σ := {i : Nat // i ≤ h.changes.length ∧ h.changes.all (inDay h) = (h.changes.drop i).all (inDay h)}) (fun s => ⟨[(4, int s.1), (1, .ptr 0 0), (2, bool false)], [(0, some ⟨31, h.flat⟩)], 5000⟩) (fun s => h.changes.length - s.1) id ⟨0, by omega, rfl⟩ (by rw [hN]; kernel_rfl) ?_ ?_
    · simp only [go_sem, ↓reduceIte, hF]
      all_goals rfl
    · rintro ⟨i, h1, h2⟩
      simp only at h1 h2 ⊢
      by_cases hi : i < h.changes.length
      · have e1 : (h.changes.map Change.flat)[i]? = some (h.changes[i].flat) := by rw [List.getElem?_map, List.getElem?_eq_getElem hi]; rfl
        have e2 : IntKind.i64.wrap ((i : Int) + 1) = ((i + 1 : Nat) : Int) := by rw [wrap_id] <;> omega
        have k1 := ref11Right_f h.changes[i] (ho.2.2 _ (List.getElem_mem hi))
        have k2 := ref03In_f h.terms.from_ h.terms.to_ h.changes[i].day
        cases hb : inDay h h.changes[i]
        · rw [all_drop_no hi hb]
          have hb' : (!(h.changes[i].right) || !(spanIn h.terms.from_ h.terms.to_ h.changes[i].day)) = true := by revert hb; rw [inDay]; cases h.changes[i].right <;> simp
          generalize h.changes[i] = c at *
          (repeat' first|((try (revert K;refine bK ?_));refine' run (I e1 (I e2 hb')) ?_;(repeat' first|exact True.intro|refine Lv.mk ?_ ?_|(refine oK ?_;intro K hK)|intro hq);all_goals refine Lf.mk ?_)|refine callZ cl90 (k1) ?_|refine callZ cl71 (k2) ?_)
        · rw [all_drop_yes hi hb] at h2
          have hb' : h.changes[i].right = true ∧ spanIn h.terms.from_ h.terms.to_ h.changes[i].day = true := by rw [inDay, Bool.and_eq_true] at hb; exact hb
          rw [hb'.1] at k1
          rw [hb'.2] at k2
          generalize h.changes[i] = c at *
          (repeat' first|((try (revert K;refine bK ?_));refine' run (I e1 e2) ?_;(repeat' first|exact True.intro|refine Lv.mk ?_ ?_|(refine oK ?_;intro K hK)|intro hq);all_goals refine Lf.mk ?_)|refine callZ cl90 (k1) ?_|refine callZ cl71 (k2) ?_)
          refine ⟨⟨i + 1, hi, h2⟩, id, ?_, by show h.changes.length - (i + 1) < h.changes.length - i; omega⟩
          simp only [go_sem, ↓reduceIte, hF]
      · obtain rfl : i = h.changes.length := by omega
        rw [List.drop_length] at h2
        rw [h2]
        (try ((try (revert K;refine bK ?_));refine' run trivial ?_;(repeat' first|exact True.intro|refine Lv.mk ?_ ?_|(refine oK ?_;intro K hK)|intro hq);all_goals refine Lf.mk ?_))
  · have hg : (h.terms.right && decide ((h.changes.length : Int) ≤ 2000)) = false := by simpa using hg
    have hz : histR h = false := by rw [histR, hg]; rfl
    rw [hz]
    have hg' : (!h.terms.right || decide ((h.changes.length : Int) > 2000)) = true := by revert hg; cases h.terms.right <;> simp
    refine fun_W mixed Tryz.func57 rfl (Nat.le_of_ble_eq_true rfl) (by kernel_rfl) fun cx hN hR hF hL => ?_; apply args_k; (case hA => (simp only [go_sem, ↓reduceIte]; rfl))
    (repeat' first|((try (revert K;refine bK ?_));refine' run hg' ?_;(repeat' first|exact True.intro|refine Lv.mk ?_ ?_|(refine oK ?_;intro K hK)|intro hq);all_goals refine Lf.mk ?_)|refine callZ cl89 (k0) ?_)
theorem all12_f (a b : List Sl) (ha : a.length ≤ 1000000) : Fun Tryz.prog 14 [slsA a, slsA b] (bool (decide (a = b))) := by
  refine fun_W mixed Tryz.func14 rfl (Nat.le_of_ble_eq_true rfl) (by kernel_rfl) fun cx hN hR hF hL => ?_; apply args_k; (case hA => (simp only [go_sem, ↓reduceIte]; rfl))
  by_cases hn : a.length = b.length
  · (try ((try (revert K;refine bK ?_));refine' run hn ?_;(repeat' first|exact True.intro|refine Lv.mk ?_ ?_|(refine oK ?_;intro K hK)|intro hq);all_goals refine Lf.mk ?_))
    refine loopW mixed (σ := {i : Nat // i ≤ a.length ∧ a.take i = b.take i}) (fun s => ⟨[(5, int s.1), (4, bool false), (0, slsA a), (1, slsA b)], [], 3000⟩) (fun s => a.length - s.1) id ⟨0, by omega, rfl⟩ (by rw [hN]; kernel_rfl) ?_ ?_
    · simp only [go_sem, ↓reduceIte, hF]
      rfl
    · rintro ⟨i, h1, h2⟩
      by_cases hi : i < a.length
      · have e1 : (a.map Sl.flat)[i]? = some (a[i].flat) := by rw [List.getElem?_map, List.getElem?_eq_getElem hi]; rfl
        have hj : i < b.length := by omega
        have e3 : (b.map Sl.flat)[i]? = some (b[i].flat) := by rw [List.getElem?_map, List.getElem?_eq_getElem hj]; rfl
        have e2 : IntKind.i64.wrap ((i : Int) + 1) = ((i + 1 : Nat) : Int) := by rw [wrap_id] <;> omega
        have k := rSlSame_f a[i] b[i]
        by_cases hq : a[i] = b[i]
        · rw [decide_eq_true hq] at k
          have h3 := take_eq_snoc hi hj h2 hq
          clear hq
          generalize a[i] = x at *
          generalize b[i] = y at *
          (repeat' first|((try (revert K;refine bK ?_));refine' run (I e1 (I e2 e3)) ?_;(repeat' first|exact True.intro|refine Lv.mk ?_ ?_|(refine oK ?_;intro K hK)|intro hq);all_goals refine Lf.mk ?_)|refine callZ cl30 (k) ?_)
          refine ⟨⟨i + 1, by omega, h3⟩, id, ?_, by show a.length - (i + 1) < a.length - i; omega⟩
          simp only [go_sem, ↓reduceIte, hF]
        · rw [decide_eq_false hq] at k
          rw [decide_eq_false (ne_at hi hj hq)]
          clear hq
          generalize a[i] = x at *
          generalize b[i] = y at *
          (repeat' first|((try (revert K;refine bK ?_));refine' run (I e1 (I e2 e3)) ?_;(repeat' first|exact True.intro|refine Lv.mk ?_ ?_|(refine oK ?_;intro K hK)|intro hq);all_goals refine Lf.mk ?_)|refine callZ cl30 (k) ?_)
      · (try ((try (revert K;refine bK ?_));refine' run trivial ?_;(repeat' first|exact True.intro|refine Lv.mk ?_ ?_|(refine oK ?_;intro K hK)|intro hq);all_goals refine Lf.mk ?_))
        simp [take_eq_all hn hi h2]
  · (try ((try (revert K;refine bK ?_));refine' run hn ?_;(repeat' first|exact True.intro|refine Lv.mk ?_ ?_|(refine oK ?_;intro K hK)|intro hq);all_goals refine Lf.mk ?_))
    have : ¬ a = b := fun e => hn (by rw [e])
    simp [this]
end Go.Proofs.YtkonljmmdifnaaaGreat.V
set_option linter.unusedSimpArgs false
set_option linter.unusedVariables false
namespace Go.Proofs.YtkonljmmdifnaaaGreat.V
open Go.RowKit
set_option maxRecDepth 100000
attribute [local go_sem] Option.toList_some Option.toList_none

/-- Boxes are given up at the end. -/
theorem code_endz {P : Program} {cx : Cx} {c : Code} {Q : Exit → LS → Prop} {A : LS} (h : CodeW P cx c (fun e L => ∃ (ns : List Nat) (pb : Boxes) (env' : Env) (box' : Boxes), pickB L.box ns = pb ∧ fzE pb L.env env' ∧ fzB ns pb L.box box' ∧ Q e ⟨env', box', L.next⟩) A) : CodeW P cx c Q A := by
  intro ι a w hs
  refine wpIn_mono (h ι a w hs) ?_
  rintro e a' w' ⟨ι', A', hs', hq⟩
  obtain ⟨L, rfl, ns, pb, env', box', hp, he, hb, hq⟩ := hq
  exact ⟨_, _, sat_frz ns hp he hb hs', _, rfl, hq⟩
theorem cov_len (c : Cover) : c.flat.length = 5 := rfl
def doSl (s : Sl) (c : Change) : Sl := ⟨s.from_, s.to_, doSt s.st c, s.yearly⟩
set_option maxHeartbeats 4000000 in
theorem does_f (s : Sl) (c : Change) (hc : c.covers.length ≤ 100000) : FunB Tryz.prog 84 [(0, ⟨73, s.flat⟩)] [.ptr 0 0, .agg c.flat] (.tup []) [(0, some ⟨73, (doSl s c).flat⟩)] := by
  by_cases h1 : c.kind = 1
  · have e : (doSl s c).flat = [int s.from_, int s.to_, bool s.st.on, int c.rk, int c.rv, int c.ra, int c.rz, covs s.st.covers, int s.yearly] := by simp [doSl, doSt, h1, Sl.flat]
    rw [e]
    refine fun_WB 1 mixed Tryz.func84 rfl (Nat.le_of_ble_eq_true rfl) (by kernel_rfl) (by simp [go_sem]) fun cx hN hR hF hL => ?_; apply args_kb; (case hA => (simp only [go_sem, ↓reduceIte]; rfl)); (case hB => (simp only [go_sem, ↓reduceIte]; rfl))
    (try ((try (revert K;refine bK ?_));refine' run h1 ?_;(repeat' first|exact True.intro|refine Lv.mk ?_ ?_|(refine oK ?_;intro K hK)|intro hq);all_goals refine Lf.mk ?_))
  by_cases h2 : c.kind = 2
  · have e : (doSl s c).flat = [int s.from_, int s.to_, bool s.st.on, int s.st.rk, int s.st.rv, int s.st.ra, int s.st.rz, covs c.covers, int s.yearly] := by simp [doSl, doSt, h2, Sl.flat]
    rw [e]
    refine funB_C 1 Tryz.func84 rfl (Nat.le_of_ble_eq_true rfl) (by simp [go_sem]) fun cx hN hR hF hL => ?_; apply code_argsB; (case hA => (simp only [go_sem, ↓reduceIte]; rfl)); (case hB => (simp only [go_sem, ↓reduceIte]; rfl))
    refine code_endz (code_w mixed (by rw [hN]; kernel_rfl) ?_)
    (try ((try (revert K;refine bK ?_));refine' run h2 ?_;(repeat' first|exact True.intro|refine Lv.mk ?_ ?_|(refine oK ?_;intro K hK)|intro hq);all_goals refine Lf.mk ?_))
    · refine ⟨[5033], _, [], [(0, some ⟨73, [int s.from_, int s.to_, bool s.st.on, int s.st.rk, int s.st.rv, int s.st.ra, int s.st.rz, covs c.covers, int s.yearly]⟩)], rfl, trivial, ?_, ?_⟩
      · simp only [go_sem, ↓reduceIte]
        exact ⟨rows_len (F := Cover.flat) cov_len _, fzo_rows Cover.len Cover.data c.covers rfl⟩
      · (try ((try (revert K;refine bK ?_));refine' run trivial ?_;(repeat' first|exact True.intro|refine Lv.mk ?_ ?_|(refine oK ?_;intro K hK)|intro hq);all_goals refine Lf.mk ?_))
    · simp [maxLen]; omega
  by_cases h3 : c.kind = 3
  · have e : (doSl s c).flat = [int s.from_, int s.to_, bool false, int s.st.rk, int s.st.rv, int s.st.ra, int s.st.rz, covs s.st.covers, int s.yearly] := by simp [doSl, doSt, h3, Sl.flat]
    rw [e]
    refine fun_WB 1 mixed Tryz.func84 rfl (Nat.le_of_ble_eq_true rfl) (by kernel_rfl) (by simp [go_sem]) fun cx hN hR hF hL => ?_; apply args_kb; (case hA => (simp only [go_sem, ↓reduceIte]; rfl)); (case hB => (simp only [go_sem, ↓reduceIte]; rfl))
    (try ((try (revert K;refine bK ?_));refine' run h3 ?_;(repeat' first|exact True.intro|refine Lv.mk ?_ ?_|(refine oK ?_;intro K hK)|intro hq);all_goals refine Lf.mk ?_))
  by_cases h4 : c.kind = 4
  · have e : (doSl s c).flat = [int s.from_, int s.to_, bool true, int s.st.rk, int s.st.rv, int s.st.ra, int s.st.rz, covs s.st.covers, int s.yearly] := by simp [doSl, doSt, h4, Sl.flat]
    rw [e]
    refine fun_WB 1 mixed Tryz.func84 rfl (Nat.le_of_ble_eq_true rfl) (by kernel_rfl) (by simp [go_sem]) fun cx hN hR hF hL => ?_; apply args_kb; (case hA => (simp only [go_sem, ↓reduceIte]; rfl)); (case hB => (simp only [go_sem, ↓reduceIte]; rfl))
    (try ((try (revert K;refine bK ?_));refine' run h4 ?_;(repeat' first|exact True.intro|refine Lv.mk ?_ ?_|(refine oK ?_;intro K hK)|intro hq);all_goals refine Lf.mk ?_))
  · have e : (doSl s c).flat = s.flat := by simp [doSl, doSt, h1, h2, h3, h4, Sl.flat]
    rw [e]
    refine fun_WB 1 mixed Tryz.func84 rfl (Nat.le_of_ble_eq_true rfl) (by kernel_rfl) (by simp [go_sem]) fun cx hN hR hF hL => ?_; apply args_kb; (case hA => (simp only [go_sem, ↓reduceIte]; rfl)); (case hB => (simp only [go_sem, ↓reduceIte]; rfl))
    (try ((try (revert K;refine bK ?_));refine' run (I (eq_false h1) (I (eq_false h2) (I (eq_false h3) (I (eq_false h4) (I (decide_eq_false h1) (I (decide_eq_false h2) (I (decide_eq_false h3) (decide_eq_false h4)))))))) ?_;(repeat' first|exact True.intro|refine Lv.mk ?_ ?_|(refine oK ?_;intro K hK)|intro hq);all_goals refine Lf.mk ?_))
end Go.Proofs.YtkonljmmdifnaaaGreat.V
set_option linter.unusedSimpArgs false
set_option linter.unusedVariables false
namespace Go.Proofs.YtkonljmmdifnaaaGreat.V
open Go.RowKit
section
variable {P : Program} {b : Frame} {a : Go.Act} {k : List Item} {cs : List Frame} {w : World}
theorem stepR_scope {c : Code} : step P (lone (b.atR a (.code (.scope c) :: k)) cs w) = .next (lone (b.atR a (.code c :: .inScope c :: k)) cs w) :=
  step_lone_go (by simp [stepG, stepG.exec, Frame.atR])
theorem stepR_inScope {c : Code} : step P (lone (b.atR a (.inScope c :: k)) cs w) = .next (lone (b.atR a k) cs w) :=
  step_lone_go (by simp [stepG, stepG.exec, Frame.atR])
/-- As Q; by a goto to label l: J; by any other goto: no way out. -/
def jumpX (l : Nat) (J : Go.Act → World → Prop) (Q : Exit → Go.Act → World → Prop) : Exit → Go.Act → World → Prop
  | .goto l', a, w => l' = l ∧ J a w
  | e, a, w => Q e a w
theorem wpIn_scope {F : Fence} {n : Nat} {Q : Exit → Go.Act → World → Prop} {c rest : Code} {σ : Type} (l : Nat) (J : σ → Go.Act → World → Prop) (μ : σ → Nat) (hf : (∃ s a w, J s a w) → findLabel c l = some rest)
    (first : c.wpIn F n P (jumpX l (fun a w => ∃ s, J s a w) Q) a w)
    (pass : ∀ s a w, J s a w → rest.wpIn F n P (jumpX l (fun a' w' => ∃ s', J s' a' w' ∧ μ s' < μ s) Q) a w) : (Code.scope c).wpIn F n P Q a w := by
  intro b k cs hro hb hr
  have h0 : (lone (b.atR a (.code (.scope c) :: k)) cs w).fenced P F := fenced_calm hb hr rfl
  have hx : ∀ id, exitTo id (.inScope c :: k) = exitTo id k := fun id => by simp [exitTo]
  have hg : (∃ s a w, J s a w) → gotoIn l (.inScope c :: k) = some (.code rest :: .inScope c :: k) := fun h => by simp [gotoIn, hf h]
  have key : ∀ m s a w, μ s = m → J s a w → ∃ e a' w', Q e a' w' ∧ ArrivesIn (Machine.fenced P F) P (lone (b.atR a (.code rest :: .inScope c :: k)) cs w) b k cs e a' w' := by
    intro m
    induction m using Nat.strongRecOn with
    | _ m ih =>
      intro s a w hm hJ
      obtain ⟨e, a₁, w₁, hq, harr⟩ := pass s a w hJ b (.inScope c :: k) cs hro hb hr
      cases e with
      | normal => exact ⟨.normal, a₁, w₁, hq, StepsIn.trans harr (.one (fenced_calm hb hr rfl) stepR_inScope)⟩
      | exit id => exact ⟨.exit id, a₁, w₁, hq, fun k' hk => harr.1 k' (by rw [hx]; exact hk), fun h1 h2 => harr.2 h1 (by rw [hx]; exact h2)⟩
      | goto l' =>
        obtain ⟨rfl, s', hJ', hlt⟩ := hq
        obtain ⟨e₂, a₂, w₂, hq₂, harr₂⟩ := ih _ (by omega) s' a₁ w₁ rfl hJ'
        exact ⟨e₂, a₂, w₂, hq₂, .of_steps (harr.1 _ (hg ⟨s, a, w, hJ⟩)) harr₂⟩
      | ret => exact ⟨_, a₁, w₁, hq, harr⟩
      | panic ch => exact ⟨_, a₁, w₁, hq, harr⟩
      | outgrown => exact ⟨_, a₁, w₁, hq, harr⟩
  obtain ⟨e, a₁, w₁, hq, harr⟩ := first b (.inScope c :: k) cs hro hb hr
  cases e with
  | normal => exact ⟨.normal, a₁, w₁, hq, .head h0 stepR_scope (StepsIn.trans harr (.one (fenced_calm hb hr rfl) stepR_inScope))⟩
  | exit id => exact ⟨.exit id, a₁, w₁, hq, fun k' hk => .head h0 stepR_scope (harr.1 k' (by rw [hx]; exact hk)), fun h1 h2 => let ⟨k₁, h3, h4⟩ := harr.2 h1 (by rw [hx]; exact h2); ⟨k₁, h3, .head h0 stepR_scope h4⟩⟩
  | goto l' =>
    obtain ⟨rfl, s, hJ⟩ := hq
    obtain ⟨e₂, a₂, w₂, hq₂, harr₂⟩ := key _ s a₁ w₁ rfl hJ
    exact ⟨e₂, a₂, w₂, hq₂, .of_steps (.head h0 stepR_scope (harr.1 _ (hg ⟨s, _, _, hJ⟩))) harr₂⟩
  | ret => exact ⟨_, a₁, w₁, hq, .of_steps (.one h0 stepR_scope) harr⟩
  | panic ch => exact ⟨_, a₁, w₁, hq, .of_steps (.one h0 stepR_scope) harr⟩
  | outgrown => exact ⟨_, a₁, w₁, hq, .of_steps (.one h0 stepR_scope) harr⟩
end
section
variable {P : Program} {cx : Cx} {c : Code} {Q : Exit → LS → Prop} {A : LS}
def jmp (l : Nat) (J : LS → Prop) (Q : Exit → LS → Prop) : Exit → LS → Prop
  | .goto l', A => l' = l ∧ J A
  | e, A => Q e A
theorem code_scope {rest : Code} {σ : Type} (l : Nat) (I : σ → LS) (μ : σ → Nat) (hf : findLabel c l = some rest)
    (first : CodeW P cx c (jmp l (fun A => ∃ s r, LCut cx r A (I s)) Q) A)
    (pass : ∀ s, CodeW P cx rest (jmp l (fun A => ∃ s' r, LCut cx r A (I s') ∧ μ s' < μ s) Q) (I s)) : CodeW P cx (.scope c) Q A := by
  intro ι a w hs
  refine wpIn_scope (σ := σ) l (fun s a w => ∃ ι, Sat cx ι (I s).toAS a w) μ (fun _ => hf) (wpIn_mono (first ι a w hs) ?_) (fun s a w hs => ?_)
  · rintro e a' w' ⟨ι', A', h1, L, rfl, hL⟩
    cases e with
    | goto l' =>
      obtain ⟨rfl, s, r, hc⟩ := hL
      exact ⟨rfl, s, _, h1.cut hc.cut⟩
    | _ => exact ⟨ι', _, h1, L, rfl, hL⟩
  · obtain ⟨ι, hs⟩ := hs
    refine wpIn_mono (pass s ι a w hs) ?_
    rintro e a' w' ⟨ι', A', h1, L, rfl, hL⟩
    cases e with
    | goto l' =>
      obtain ⟨rfl, s', r, hc, hm⟩ := hL
      exact ⟨rfl, s', ⟨_, h1.cut hc.cut⟩, hm⟩
    | _ => exact ⟨ι', _, h1, L, rfl, hL⟩
/-- A scope without a jump. -/
theorem code_scope0 (h : CodeW P cx c (jmp 0 (fun _ => False) Q) A) : CodeW P cx (.scope c) Q A := by
  intro ι a w hs
  refine wpIn_scope (σ := Empty) (rest := .skip) 0 (fun s _ _ => nomatch s) (fun s => nomatch s) (fun ⟨s, _⟩ => nomatch s) (wpIn_mono (h ι a w hs) ?_) (fun s => nomatch s)
  rintro e a' w' ⟨ι', A', h1, L, rfl, hL⟩
  cases e with
  | goto l' => exact hL.2.elim
  | _ => exact ⟨ι', _, h1, L, rfl, hL⟩
theorem code_goto {l : Nat} (h : Q (.goto l) A) : CodeW P cx (.goto l) Q A := fun ι _ _ hs => wpIn_goto ⟨ι, _, hs, A, rfl, h⟩
variable {next J : LS → Prop} {l id : Nat}
theorem Da (h : Q (.goto l) A) : W P cx (.goto l) Q A := code_goto h
theorem Db (h : Q (.goto l) A) : lthen next Q (.goto l) A := h
theorem Dc (h : Q (.goto l) A) : linBlock id Q (.goto l) A := h
theorem Dd (h : J A) : jmp l J Q (.goto l) A := ⟨rfl, h⟩
theorem De (h : Q .normal A) : jmp l J Q .normal A := h
theorem Df (h : Q .ret A) : jmp l J Q .ret A := h
theorem Dg (h : Q (.exit id) A) : jmp l J Q (.exit id) A := h
end
@[go_sem] def nm2 (a b c d x : Nat) : Nat := if x = a then b else if x = c then d else x
/-- New names at the end. -/
theorem code_end {P : Program} {cx : Cx} {c : Code} {Q : Exit → LS → Prop} {A : LS} (h : CodeW P cx c (fun e L => ∃ r L', LCut cx r L L' ∧ Q e L') A) : CodeW P cx c Q A := by
  intro ι a w hs
  refine wpIn_mono (h ι a w hs) ?_
  rintro e a' w' ⟨ι', A', hs', hq⟩
  obtain ⟨L, rfl, r, L', hc, hq⟩ := hq
  exact ⟨_, L'.toAS, hs'.cut hc.cut, L', rfl, hq⟩
end Go.Proofs.YtkonljmmdifnaaaGreat.V
set_option linter.unusedSimpArgs false
set_option linter.unusedVariables false
namespace Go.Proofs.YtkonljmmdifnaaaGreat.V
open Go.RowKit
set_option maxRecDepth 100000
attribute [local go_sem] Option.toList_some Option.toList_none

def setFrom (s : Sl) (d : Int) : Sl := ⟨d, s.to_, s.st, s.yearly⟩
attribute [local go_sem] setFrom setTo
theorem rowS_len (l : List Sl) : (rowC Sl.flat l).length = l.length * 9 := rowC_len (F := Sl.flat) (k := 9) (fun _ => rfl) l
theorem rowS_snoc (l : List Sl) (q : Sl) : rowC Sl.flat (l ++ [q]) = rowC Sl.flat l ++ q.flat := by simp [rowC]
@[go_sem] theorem rowS_ren (r : Nat → Nat) (l : List Sl) : (rowC Sl.flat l).map (AV.ren r) = rowC Sl.flat l := rows_ren (fun x r => by simp [Sl.flat, go_sem]) r l
@[go_sem] theorem rowS_nms (p : Nat → Bool) (l : List Sl) : (rowC Sl.flat l).all (AV.names p) = true := rows_nms (fun x p => by simp [Sl.flat, go_sem]) p l
@[go_sem] theorem rowS_nms' (p : Nat → Bool) (l : List Sl) : (∀ x, x ∈ rowC Sl.flat l → AV.names p x = true) ↔ True := by
  have := rowS_nms p l
  rw [List.all_eq_true] at this
  exact ⟨fun _ => trivial, fun _ => this⟩
@[go_sem] theorem rowS_nz (l : List Sl) (q : Sl) : (rowC Sl.flat (l ++ [q]) = []) = False := by
  refine eq_false fun h => ?_
  have := rowS_len (l ++ [q])
  rw [h] at this
  simp at this
theorem rowS_last (l : List Sl) (q : Sl) : List.take 9 (List.drop (l.length * 9) (rowC Sl.flat (l ++ [q]))) = q.flat := by
  rw [rowS_snoc, ← rowS_len l, List.drop_left]; rfl
theorem rowS_set (m : List Sl) (q : Sl) (d : Int) : List.take (m.length * 9 + 1) (rowC Sl.flat (m ++ [q])) ++ [int d] ++ List.drop (m.length * 9 + 1 + 1) (rowC Sl.flat (m ++ [q])) = rowC Sl.flat (m ++ [setTo q d]) := by
  have hQ := rowS_len m
  rw [rowS_snoc, rowS_snoc, List.take_append, List.drop_append, List.take_of_length_le (by omega), List.drop_of_length_le (by omega), hQ]
  simp [setTo, Sl.flat, show m.length * 9 + 1 - m.length * 9 = 1 by omega, show m.length * 9 + 1 + 1 - m.length * 9 = 2 by omega]
theorem endE1_f (s : Sl) (d : Int) (h : s.from_ = d) : FunB Tryz.prog 82 [(0, ⟨73, s.flat⟩), (1, ⟨37, [.v (.slice none 0 0)]⟩)] [int d, .ptr 0 0, .ptr 1 0] (.tup []) [(0, some ⟨73, (setFrom s d).flat⟩)] := by
  subst h
  have w0 : IntKind.i64.wrap (((0 : Nat) : Int) - 1) = -1 := rfl
  have c0 : ((0 : Int) ≤ -1) = False := by simp
  refine fun_WB 2 mixed Tryz.func82 rfl (Nat.le_of_ble_eq_true rfl) (by kernel_rfl) (by simp [go_sem]) fun cx hN hR hF hL => ?_; apply args_kb; (case hA => (simp only [go_sem, ↓reduceIte]; rfl)); (case hB => (simp only [go_sem, ↓reduceIte]; rfl))
  (try ((try (revert K;refine bK ?_));refine' run w0 ?_;(repeat' first|exact True.intro|refine Lv.mk ?_ ?_|(refine oK ?_;intro K hK)|intro hq);all_goals refine Lf.mk ?_))
theorem endE2_f (s : Sl) (d : Int) (h : ¬ s.from_ = d) : FunB Tryz.prog 82 [(0, ⟨73, s.flat⟩), (1, ⟨37, [.v (.slice none 0 0)]⟩)] [int d, .ptr 0 0, .ptr 1 0] (.tup [])
    [(0, some ⟨73, (setFrom s d).flat⟩), (1, some ⟨37, [.osl 2 9 0 1]⟩), (2, some ⟨73, rowC Sl.flat [setTo s d]⟩)] := by
  have w0 : IntKind.i64.wrap (((0 : Nat) : Int) - 1) = -1 := rfl
  have c0 : ((0 : Int) ≤ -1) = False := by simp
  refine funB_C 3 Tryz.func82 rfl (Nat.le_of_ble_eq_true rfl) (by simp [go_sem]) fun cx hN hR hF hL => ?_; apply code_argsB; (case hA => (simp only [go_sem, ↓reduceIte]; rfl)); (case hB => (simp only [go_sem, ↓reduceIte]; rfl))
  refine code_end (code_w mixed (by rw [hN]; kernel_rfl) ?_)
  (try ((try (revert K;refine bK ?_));refine' run (I w0 (I c0 (I (decide_eq_false (of_eq_false c0)) (I (eq_false h) (decide_eq_false h))))) ?_;(repeat' first|exact True.intro|refine Lv.mk ?_ ?_|(refine oK ?_;intro K hK)|intro hq);all_goals refine Lf.mk ?_))
  · refine ⟨nm2 2 5027 2 5027, ⟨[], [(0, some ⟨73, (setFrom s d).flat⟩), (1, some ⟨37, [.osl 2 9 0 1]⟩), (2, some ⟨73, rowC Sl.flat [setTo s d]⟩)], 3⟩, ?_, ?_⟩
    · simp only [go_sem, ↓reduceIte, hF]
      refine ⟨by simp [rowC, Sl.flat], fun b g h => ?_⟩
      have := hF b g h
      simp [inl] at this
      rcases this with rfl | rfl <;> simp
    · (try ((try (revert K;refine bK ?_));refine' run trivial ?_;(repeat' first|exact True.intro|refine Lv.mk ?_ ?_|(refine oK ?_;intro K hK)|intro hq);all_goals refine Lf.mk ?_))
  · simp [maxLen]
theorem endN1_f (s q : Sl) (m : List Sl) (d : Int) (hm : m.length ≤ 100000) (h : s.from_ = d) : FunB Tryz.prog 82 [(0, ⟨73, s.flat⟩), (1, ⟨37, [.osl 2 9 0 (m.length + 1)]⟩), (2, ⟨73, rowC Sl.flat (m ++ [q])⟩)] [int d, .ptr 0 0, .ptr 1 0] (.tup []) [(0, some ⟨73, (setFrom s d).flat⟩)] := by
  subst h
  have w0 : IntKind.i64.wrap (((m.length + 1 : Nat) : Int) - 1) = (m.length : Int) := by rw [wrap_id] <;> omega
  refine fun_WB 3 mixed Tryz.func82 rfl (Nat.le_of_ble_eq_true rfl) (by kernel_rfl) (by simp [go_sem]) fun cx hN hR hF hL => ?_; apply args_kb; (case hA => (simp only [go_sem, ↓reduceIte]; rfl)); (case hB => (simp only [go_sem, ↓reduceIte]; rfl))
  (try ((try (revert K;refine bK ?_));refine' run w0 ?_;(repeat' first|exact True.intro|refine Lv.mk ?_ ?_|(refine oK ?_;intro K hK)|intro hq);all_goals refine Lf.mk ?_))
theorem endN2_f (s q : Sl) (m : List Sl) (d : Int) (hm : m.length ≤ 100000) (h : ¬ s.from_ = d) (hq : q.st = s.st) : FunB Tryz.prog 82 [(0, ⟨73, s.flat⟩), (1, ⟨37, [.osl 2 9 0 (m.length + 1)]⟩), (2, ⟨73, rowC Sl.flat (m ++ [q])⟩)] [int d, .ptr 0 0, .ptr 1 0] (.tup []) [(0, some ⟨73, (setFrom s d).flat⟩), (2, some ⟨73, rowC Sl.flat (m ++ [setTo q d])⟩)] := by
  have w0 : IntKind.i64.wrap (((m.length + 1 : Nat) : Int) - 1) = (m.length : Int) := by rw [wrap_id] <;> omega
  have c0 : ((0 : Int) ≤ (m.length : Int)) = True := by simp
  have k := holds_f q (setTo s d)
  rw [show decide (q.st = (setTo s d).st) = true from decide_eq_true hq] at k
  have hcap : (m.length * 9 + 9 ≤ (m.length + 1) * 9) = True := eq_true (by omega)
  have hlast := rowS_last m q
  have hlen := rowS_len (m ++ [q])
  refine fun_WB 3 mixed Tryz.func82 rfl (Nat.le_of_ble_eq_true rfl) (by kernel_rfl) (by simp [go_sem]) fun cx hN hR hF hL => ?_; apply args_kb; (case hA => (simp only [go_sem, ↓reduceIte]; rfl)); (case hB => (simp only [go_sem, ↓reduceIte]; rfl))
  (repeat' first|((try (revert K;refine bK ?_));refine' run (I w0 (I c0 (I (decide_eq_true (of_eq_true c0)) (I (eq_false h) (I (decide_eq_false h) (I hlast (I hlen hcap))))))) ?_;(repeat' first|exact True.intro|refine Lv.mk ?_ ?_|(refine oK ?_;intro K hK)|intro hq);all_goals refine Lf.mk ?_)|refine callZ cl64 (k) ?_)
  all_goals exact congrArg some (congrArg (Bx.mk _) (rowS_set m q d))
theorem endN3_f (s q : Sl) (m : List Sl) (d : Int) (hm : m.length ≤ 100000) (h : ¬ s.from_ = d) (hq : ¬ q.st = s.st) : FunB Tryz.prog 82 [(0, ⟨73, s.flat⟩), (1, ⟨37, [.osl 2 9 0 (m.length + 1)]⟩), (2, ⟨73, rowC Sl.flat (m ++ [q])⟩)] [int d, .ptr 0 0, .ptr 1 0] (.tup [])
    [(0, some ⟨73, (setFrom s d).flat⟩), (1, some ⟨37, [.osl 3 9 0 (m.length + 1 + 1)]⟩), (2, none), (3, some ⟨73, rowC Sl.flat (m ++ [q] ++ [setTo s d])⟩)] := by
  have w0 : IntKind.i64.wrap (((m.length + 1 : Nat) : Int) - 1) = (m.length : Int) := by rw [wrap_id] <;> omega
  have c0 : ((0 : Int) ≤ (m.length : Int)) = True := by simp
  have k := holds_f q (setTo s d)
  rw [show decide (q.st = (setTo s d).st) = false from decide_eq_false hq] at k
  have hcap : (m.length * 9 + 9 ≤ (m.length + 1) * 9) = True := eq_true (by omega)
  have hlast := rowS_last m q
  have hlen := rowS_len (m ++ [q])
  refine funB_C 4 Tryz.func82 rfl (Nat.le_of_ble_eq_true rfl) (by simp [go_sem]) fun cx hN hR hF hL => ?_; apply code_argsB; (case hA => (simp only [go_sem, ↓reduceIte]; rfl)); (case hB => (simp only [go_sem, ↓reduceIte]; rfl))
  refine code_end (code_w mixed (by rw [hN]; kernel_rfl) ?_)
  (repeat' first|((try (revert K;refine bK ?_));refine' run (I w0 (I c0 (I (decide_eq_true (of_eq_true c0)) (I (eq_false h) (I (decide_eq_false h) (I hlast (I hlen hcap))))))) ?_;(repeat' first|exact True.intro|refine Lv.mk ?_ ?_|(refine oK ?_;intro K hK)|intro hq);all_goals refine Lf.mk ?_)|refine callZ cl64 (k) ?_)
  · refine ⟨nm2 3 5028 3 5028, ⟨[], [(0, some ⟨73, (setFrom s d).flat⟩), (1, some ⟨37, [.osl 3 9 0 (m.length + 1 + 1)]⟩), (3, some ⟨73, rowC Sl.flat (m ++ [q] ++ [setTo s d])⟩)], 4⟩, ?_, ?_⟩
    · simp only [go_sem, ↓reduceIte, hF, rowS_snoc (m ++ [q]) (setTo s d), List.map_append, List.all_append]
      refine ⟨by rw [rowS_snoc (m ++ [q])]; rfl, fun b g h => ?_⟩
      have := hF b g h
      simp [inl] at this
      rcases this with rfl | rfl | rfl <;> simp
    · (try ((try (revert K;refine bK ?_));refine' run trivial ?_;(repeat' first|exact True.intro|refine Lv.mk ?_ ?_|(refine oK ?_;intro K hK)|intro hq);all_goals refine Lf.mk ?_))
  · simp [maxLen]; omega
end Go.Proofs.YtkonljmmdifnaaaGreat.V
set_option linter.unusedSimpArgs false
set_option linter.unusedVariables false
namespace Go.Proofs.YtkonljmmdifnaaaGreat.V
open Go.RowKit
set_option maxRecDepth 100000

/-- Two elements change places. -/
def swp {α : Type} (l : List α) (i j : Nat) : List α := match l[i]?, l[j]? with | some x, some y => (l.set i y).set j x | _, _ => l
theorem swp_len {α : Type} (l : List α) (i j : Nat) : (swp l i j).length = l.length := by
  unfold swp
  split <;> simp
theorem swp_seg {α : Type} (A B C : List α) (x y : α) (i j : Nat) (hi : i = A.length) (hj : j = A.length + 1 + B.length) : swp (A ++ x :: (B ++ y :: C)) i j = A ++ y :: (B ++ x :: C) := by
  subst hi hj
  have h1 : (A ++ x :: (B ++ y :: C))[A.length]? = some x := by simp
  have h2 : (A ++ x :: (B ++ y :: C))[A.length + 1 + B.length]? = some y := by
    rw [List.getElem?_append_right (by omega), show A.length + 1 + B.length - A.length = B.length + 1 by omega, List.getElem?_cons_succ, List.getElem?_append_right (by omega)]
    simp
  unfold swp
  simp only [h1, h2]
  rw [List.set_append_right _ _ (by omega), Nat.sub_self, List.set_cons_zero, List.set_append_right _ _ (by omega), show A.length + 1 + B.length - A.length = B.length + 1 by omega, List.set_cons_succ, List.set_append_right _ _ (by omega), Nat.sub_self, List.set_cons_zero]
def swapR {α : Type} (l : List α) (a b : Nat) : Nat → List α
  | 0 => l
  | i + 1 => swp (swapR l a b i) (a + i) (b + i)
theorem swapR_len {α : Type} (l : List α) (a b : Nat) : ∀ i, (swapR l a b i).length = l.length
  | 0 => rfl
  | i + 1 => by rw [swapR, swp_len, swapR_len l a b i]

theorem swapR_seg {α : Type} (l : List α) (a b : Nat) : ∀ (n : Nat) (X U V W Y : List α), l = X ++ (U ++ (V ++ (W ++ Y))) → U.length = n → W.length = n → a = X.length → b = X.length + U.length + V.length → swapR l a b n = X ++ (W ++ (V ++ (U ++ Y)))
  | 0, X, U, V, W, Y, hl, hu, hw, ha, hb => by
    obtain rfl : U = [] := List.eq_nil_of_length_eq_zero hu
    obtain rfl : W = [] := List.eq_nil_of_length_eq_zero hw
    simpa [swapR] using hl
  | n + 1, X, U, V, W, Y, hl, hu, hw, ha, hb => by
    rcases List.eq_nil_or_concat U with rfl | ⟨U, u, rfl⟩
    · simp at hu
    rcases List.eq_nil_or_concat W with rfl | ⟨W, w, rfl⟩
    · simp at hw
    simp only [List.concat_eq_append, List.length_append, List.length_singleton] at hu hw hb hl ⊢
    have ih := swapR_seg l a b n X U (u :: V) W (w :: Y) (by rw [hl]; simp) (by omega) (by omega) ha (by simp; omega)
    rw [swapR, ih]
    have := swp_seg (X ++ W) (V ++ U) Y u w (a + n) (b + n) (by simp; omega) (by simp; omega)
    simp only [List.append_assoc, List.cons_append, List.nil_append] at this ⊢
    exact this

theorem set_pair {α : Type} (A C : List α) (p x : α) (i j : Nat) (hi : i = A.length + 1) (hj : j = A.length) : ((A ++ p :: x :: C).set i p).set j x = A ++ x :: p :: C := by
  subst hi hj
  rw [List.set_append_right _ _ (by omega), show A.length + 1 - A.length = 1 by omega, List.set_cons_succ, List.set_cons_zero, List.set_append_right _ _ (by omega), Nat.sub_self, List.set_cons_zero]
theorem set_pair2 {α : Type} (A C : List α) (p x : α) (i j : Nat) (hi : i = A.length) (hj : j = A.length + 1) : ((A ++ p :: x :: C).set i x).set j p = A ++ x :: p :: C := by
  subst hi hj
  rw [List.set_append_right _ _ (by omega), Nat.sub_self, List.set_cons_zero, List.set_append_right _ _ (by omega), show A.length + 1 - A.length = 1 by omega, List.set_cons_succ, List.set_cons_zero]
theorem at_mid {α : Type} (A C : List α) (x : α) (i : Nat) (hi : i = A.length) : (A ++ x :: C)[i]? = some x := by
  subst hi; simp

end Go.Proofs.YtkonljmmdifnaaaGreat.V
set_option linter.unusedSimpArgs false
set_option linter.unusedVariables false
namespace Go.Proofs.YtkonljmmdifnaaaGreat.V
open Go.RowKit
set_option maxRecDepth 100000

theorem swapRange_f (h : History) (l : List Int) (a b n : Nat) (ha : a + n ≤ l.length) (hb : b + n ≤ l.length) (hl : l.length ≤ 100000) (hne : l ≠ []) : FunB Tryz.prog 176 [(0, ⟨3, rowC irow l⟩), (1, ⟨31, h.flat⟩)] [.osl 0 1 0 l.length, int a, int b, int n, .fn (.func 121) [] [.ptr 1 0]] (.tup []) [(0, some ⟨3, rowC irow (swapR l a b n)⟩)] := by
  have hne2 := rowI_ne hne
  refine fun_WB 2 mixed Tryz.func176 rfl (Nat.le_of_ble_eq_true rfl) (by kernel_rfl) (by simp [go_sem, hne2, rowI_nms']) fun cx hN hR hF hL => ?_; apply args_kb; (case hA => (simp only [go_sem, ↓reduceIte]; rfl)); (case hB => (simp only [go_sem, ↓reduceIte]; rfl))
  have hF2 : ∀ b g, cx.F b = some g → b < 3000 := fun b g h => by
    have := hF b g h
    simp [inl] at this
    omega
  (try ((try (revert K;refine bK ?_));refine' run trivial ?_;(repeat' first|exact True.intro|refine Lv.mk ?_ ?_|(refine oK ?_;intro K hK)|intro hq);all_goals refine Lf.mk ?_))
  refine loopW mixed (σ := {i : Nat // i ≤ n}) (fun s => ⟨[(10, int s.1), (0, .osl 0 1 0 l.length), (1, int a), (2, int b), (3, int n)], [(0, some ⟨3, rowC irow (swapR l a b s.1)⟩), (1, some ⟨31, h.flat⟩)], 3000⟩) (fun s => n - s.1) id ⟨0, by omega⟩ (by rw [hN]; kernel_rfl) ?_ ?_
  · simp only [go_sem, ↓reduceIte, hF]
    exact ⟨rfl, rfl, hF2⟩
  · rintro ⟨i, h1⟩
    by_cases hi : i < n
    · have e2 : IntKind.i64.wrap ((i : Int) + 1) = ((i + 1 : Nat) : Int) := by rw [wrap_id] <;> omega
      have w1 : IntKind.i64.wrap ((a : Int) + i) = ((a + i : Nat) : Int) := by rw [wrap_id] <;> omega
      have w2 : IntKind.i64.wrap ((b : Int) + i) = ((b + i : Nat) : Int) := by rw [wrap_id] <;> omega
      have hL1 : a + i < (swapR l a b i).length := by rw [swapR_len]; omega
      have hL2 : b + i < (swapR l a b i).length := by rw [swapR_len]; omega
      have hx : (swapR l a b i)[a + i]? = some (swapR l a b i)[a + i] := List.getElem?_eq_getElem hL1
      have hy : (swapR l a b i)[b + i]? = some (swapR l a b i)[b + i] := List.getElem?_eq_getElem hL2
      generalize (swapR l a b i)[a + i] = x at hx
      generalize (swapR l a b i)[b + i] = y at hy
      have hsw : swapR l a b (i + 1) = ((swapR l a b i).set (a + i) y).set (b + i) x := by
        rw [swapR, swp]
        simp only [hx, hy]
      have r1 := rowI_some hx
      have r2 := rowI_some hy
      have s1 := rowI_put (swapR l a b i) (a + i) y hL1
      have s2 := rowI_put ((swapR l a b i).set (a + i) y) (b + i) x (by rw [List.length_set]; exact hL2)
      rw [← hsw] at s2
      have hn1 : (rowC irow (swapR l a b i)).length = l.length := by rw [rowI_len, swapR_len]
      have hn2 : (rowC irow ((swapR l a b i).set (a + i) y)).length = l.length := by rw [rowI_len, List.length_set, swapR_len]
      have hz : ¬ rowC irow (swapR l a b i) = [] := by
        intro e
        have := congrArg List.length e
        rw [hn1] at this
        simp at this
        exact hne this
      (try ((try (revert K;refine bK ?_));refine' run (I e2 (I w1 (I w2 (I r1 (I r2 (I s1 (I s2 (I hn1 hn2)))))))) ?_;(repeat' first|exact True.intro|refine Lv.mk ?_ ?_|(refine oK ?_;intro K hK)|intro hq);all_goals refine Lf.mk ?_))
      · refine ⟨⟨i + 1, by omega⟩, id, ?_, by show n - (i + 1) < n - i; omega⟩
        simp only [go_sem, ↓reduceIte, hF]
        exact hF2
      all_goals (first | omega | exact hz)
    · have : i = n := by omega
      subst this
      (try ((try (revert K;refine bK ?_));refine' run trivial ?_;(repeat' first|exact True.intro|refine Lv.mk ?_ ?_|(refine oK ?_;intro K hK)|intro hq);all_goals refine Lf.mk ?_))

theorem rotate_f (h : History) (X U V Y : List Int) (m : Nat) (hm : m = X.length + U.length) (hU : 0 < U.length) (hV : 0 < V.length) (hl : (X ++ (U ++ (V ++ Y))).length ≤ 100000) :
    FunB Tryz.prog 171 [(0, ⟨3, rowC irow (X ++ (U ++ (V ++ Y)))⟩), (1, ⟨31, h.flat⟩)] [.osl 0 1 0 (X ++ (U ++ (V ++ Y))).length, int X.length, int m, int (m + V.length : Nat), .fn (.func 121) [] [.ptr 1 0]] (.tup []) [(0, some ⟨3, rowC irow (X ++ (V ++ (U ++ Y)))⟩)] := by
  have hne2 := rowI_nz (l := X ++ (U ++ (V ++ Y))) (by simp; omega)
  generalize hLL : X ++ (U ++ (V ++ Y)) = l at *
  have hlen : X.length + U.length + V.length + Y.length = l.length := by rw [← hLL]; simp; omega
  have w1 : IntKind.i64.wrap ((m : Int) - X.length) = (U.length : Nat) := by rw [wrap_id] <;> omega
  have w2 : IntKind.i64.wrap (((m + V.length : Nat) : Int) - m) = (V.length : Nat) := by rw [wrap_id] <;> omega
  refine fun_WB 2 mixed Tryz.func171 rfl (Nat.le_of_ble_eq_true rfl) (by kernel_rfl) (by simp [go_sem, hne2, rowI_nms']) fun cx hN hR hF hL => ?_; apply args_kb; (case hA => (simp only [go_sem, ↓reduceIte]; rfl)); (case hB => (simp only [go_sem, ↓reduceIte]; rfl))
  have hF2 : ∀ b g, cx.F b = some g → b < 3000 := fun b g h => by
    have := hF b g h
    simp [inl] at this
    omega
  (try ((try (revert K;refine bK ?_));refine' run (I w1 w2) ?_;(repeat' first|exact True.intro|refine Lv.mk ?_ ?_|(refine oK ?_;intro K hK)|intro hq);all_goals refine Lf.mk ?_))
  refine loopW mixed (σ := {p : List Int × List Int × List Int × List Int // p.1.length + p.2.1.length = m ∧ (p.1 ++ (p.2.1 ++ (p.2.2.1 ++ p.2.2.2))).length = l.length ∧ 0 < p.2.1.length ∧ 0 < p.2.2.1.length ∧ p.1 ++ (p.2.2.1 ++ (p.2.1 ++ p.2.2.2)) = X ++ (V ++ (U ++ Y))})
    (fun s => ⟨[(10, int s.1.2.1.length), (11, int s.1.2.2.1.length), (0, .osl 0 1 0 l.length), (2, int m), (4, .fn (.func 121) [] [.ptr 1 0])], [(0, some ⟨3, rowC irow (s.1.1 ++ (s.1.2.1 ++ (s.1.2.2.1 ++ s.1.2.2.2)))⟩), (1, some ⟨31, h.flat⟩)], 3000⟩) (fun s => s.1.2.1.length + s.1.2.2.1.length) id ⟨(X, U, V, Y), hm.symm, by rw [hLL], hU, hV, rfl⟩ (by rw [hN]; kernel_rfl) ?_ ?_
  · simp only [go_sem, ↓reduceIte, hF]
    rw [hLL]
    exact ⟨rfl, hF2⟩
  · rintro ⟨⟨X', U', V', Y'⟩, g1, g2, g3, g4, g5⟩
    simp only at g1 g2 g3 g4 g5
    simp only [List.length_append] at g2
    by_cases hi : U'.length = V'.length
    · have w3 : IntKind.i64.wrap ((m : Int) - U'.length) = (X'.length : Nat) := by rw [wrap_id] <;> omega
      have c1 := swapRange_f h (X' ++ (U' ++ (V' ++ Y'))) X'.length m U'.length (by simp only [List.length_append]; omega) (by simp only [List.length_append]; omega) (by simp only [List.length_append]; omega) (by intro e; have := congrArg List.length e; simp only [List.length_append, List.length_nil] at this; omega)
      rw [swapR_seg _ _ _ _ X' U' [] V' Y' (by simp) rfl hi.symm rfl (by simp only [List.length_nil]; omega), List.nil_append, g5] at c1
      have ll : (X' ++ (U' ++ (V' ++ Y'))).length = l.length := by simp; omega
      rw [ll] at c1
      (try ((try (revert K;refine bK ?_));refine' run (I w3 (eq_true hi)) ?_;(repeat' first|exact True.intro|refine Lv.mk ?_ ?_|(refine oK ?_;intro K hK)|intro hq);all_goals refine Lf.mk ?_))
      (apply callB' [0, 1] cl176 (c1); (case h1 | h2 | h3 => (simp only [go_sem, ↓reduceIte]; try rfl)); (case hl | hs | hfp | hfr => (simp [go_sem]; done)))
      (try ((try (revert K;refine bK ?_));refine' run trivial ?_;(repeat' first|exact True.intro|refine Lv.mk ?_ ?_|(refine oK ?_;intro K hK)|intro hq);all_goals refine Lf.mk ?_))
    · by_cases hj : V'.length < U'.length
      · obtain ⟨U1, U2, he, hu1⟩ : ∃ U1 U2, U' = U1 ++ U2 ∧ U1.length = V'.length := ⟨U'.take V'.length, U'.drop V'.length, by simp, by simp; omega⟩
        have hel : U'.length = U1.length + U2.length := by rw [he, List.length_append]
        have w3 : IntKind.i64.wrap ((m : Int) - U'.length) = (X'.length : Nat) := by rw [wrap_id] <;> omega
        have w4 : IntKind.i64.wrap ((U'.length : Int) - V'.length) = (U2.length : Nat) := by rw [wrap_id] <;> omega
        have c1 := swapRange_f h (X' ++ (U' ++ (V' ++ Y'))) X'.length m V'.length (by simp only [List.length_append]; omega) (by simp only [List.length_append]; omega) (by simp only [List.length_append]; omega) (by intro e; have := congrArg List.length e; simp only [List.length_append, List.length_nil] at this; omega)
        rw [swapR_seg _ _ _ _ X' U1 U2 V' Y' (by rw [he]; simp) hu1 rfl rfl (by omega)] at c1
        have ll : (X' ++ (U' ++ (V' ++ Y'))).length = l.length := by simp only [List.length_append]; omega
        rw [ll] at c1
        (try ((try (revert K;refine bK ?_));refine' run (I w3 (I w4 (I (eq_false hi) (eq_true hj)))) ?_;(repeat' first|exact True.intro|refine Lv.mk ?_ ?_|(refine oK ?_;intro K hK)|intro hq);all_goals refine Lf.mk ?_))
        (apply callB' [0, 1] cl176 (c1); (case h1 | h2 | h3 => (simp only [go_sem, ↓reduceIte]; try rfl)); (case hl | hs | hfp | hfr => (simp [go_sem]; done)))
        (try ((try (revert K;refine bK ?_));refine' run w4 ?_;(repeat' first|exact True.intro|refine Lv.mk ?_ ?_|(refine oK ?_;intro K hK)|intro hq);all_goals refine Lf.mk ?_))
        refine ⟨⟨(X' ++ V', U2, U1, Y'), by simp only [List.length_append]; omega, by simp only [List.length_append]; omega, by simp only; omega, by simp only; omega, by rw [← g5, he]; simp⟩, id, ?_, by simp only; omega⟩
        simp only [go_sem, ↓reduceIte, hF, hu1, List.append_assoc]
        exact hF2
      · obtain ⟨V1, V2, he, hv2⟩ : ∃ V1 V2, V' = V1 ++ V2 ∧ V2.length = U'.length := ⟨V'.take (V'.length - U'.length), V'.drop (V'.length - U'.length), by simp, by simp; omega⟩
        have hel : V'.length = V1.length + V2.length := by rw [he, List.length_append]
        have w3 : IntKind.i64.wrap ((m : Int) - U'.length) = (X'.length : Nat) := by rw [wrap_id] <;> omega
        have w4 : IntKind.i64.wrap ((V'.length : Int) - U'.length) = (V1.length : Nat) := by rw [wrap_id] <;> omega
        have w5 : IntKind.i64.wrap ((m : Int) + V'.length) = ((m + V'.length : Nat) : Int) := by rw [wrap_id] <;> omega
        have w6 : IntKind.i64.wrap (((m + V'.length : Nat) : Int) - U'.length) = ((m + V1.length : Nat) : Int) := by rw [wrap_id] <;> omega
        have c1 := swapRange_f h (X' ++ (U' ++ (V' ++ Y'))) X'.length (m + V1.length) U'.length (by simp only [List.length_append]; omega) (by simp only [List.length_append]; omega) (by simp only [List.length_append]; omega) (by intro e; have := congrArg List.length e; simp only [List.length_append, List.length_nil] at this; omega)
        rw [swapR_seg _ _ _ _ X' U' V1 V2 Y' (by rw [he]; simp) rfl hv2 rfl (by omega)] at c1
        have ll : (X' ++ (U' ++ (V' ++ Y'))).length = l.length := by simp only [List.length_append]; omega
        rw [ll] at c1
        (try ((try (revert K;refine bK ?_));refine' run (I w3 (I w4 (I w5 (I w6 (I (eq_false hi) (eq_false hj)))))) ?_;(repeat' first|exact True.intro|refine Lv.mk ?_ ?_|(refine oK ?_;intro K hK)|intro hq);all_goals refine Lf.mk ?_))
        (apply callB' [0, 1] cl176 (c1); (case h1 | h2 | h3 => (simp only [go_sem, ↓reduceIte]; try rfl)); (case hl | hs | hfp | hfr => (simp [go_sem]; done)))
        (try ((try (revert K;refine bK ?_));refine' run w4 ?_;(repeat' first|exact True.intro|refine Lv.mk ?_ ?_|(refine oK ?_;intro K hK)|intro hq);all_goals refine Lf.mk ?_))
        refine ⟨⟨(X', V2, V1, U' ++ Y'), by simp only; omega, by simp only [List.length_append]; omega, by simp only; omega, by simp only; omega, by rw [← g5, he]; simp⟩, id, ?_, by simp only; omega⟩
        simp only [go_sem, ↓reduceIte, hF, hv2, List.append_assoc]
        exact hF2
end Go.Proofs.YtkonljmmdifnaaaGreat.V
