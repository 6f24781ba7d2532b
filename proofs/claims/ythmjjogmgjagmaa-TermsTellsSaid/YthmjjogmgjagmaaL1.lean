/- The law TermsTells. -/
import Derived.Test.YthmjjogmgjagmaaD1
import Derived.Test.YthmjjogmgjagmaaE
namespace Go.Proofs.Ythmjjogmgjagmaa
open Go.RowKit

attribute [local go_sem] cell_ext frozen_ext

set_option maxHeartbeats 1000000 in
theorem termsTells_any (a b c d ag z : Int) (A : Option Addr) (n cap : Nat) (lt : List Cover) (B : Option Addr) (m capB : Nat) (l : List Cover) (q : Int) (w : World) (hn : n = lt.length) (hl : n ≤ maxLen) (hA : RowsAt w w.heap.size 5 isCover A lt)
    (hm : m = l.length) (hml : m ≤ maxLen) (hB : RowsAt w w.heap.size 5 isCover B l) :
    Calls Try.prog 3 #[.agg #[.int .i64 a, .int .i64 b, .int .i64 c, .int .i64 d, .int .i64 ag, .int .i64 z, .slice A n cap], .slice B m capB, .int .i64 q] w fun e w' => e = .returned (.bool true) ∧ Below w.heap.size w w' := by
  have HA := Lib.hid hA
  have Hn := Lib.hid hn
  have Hl := Lib.hid hl
  have HB := Lib.hid hB
  have Hm := Lib.hid hm
  have Hml := Lib.hid hml
  clear hA hn hl hB hm hml
  go_enter Try.func3, Try.ntmps3
  go_wp2_with fail
  refine (awake_any _).mono ?_
  rintro e w1 ⟨rfl, hb1⟩
  obtain ⟨hc1, -⟩ := bcell hb1
  have hz1 : w.heap.size < w1.heap.size := by have := hb1.size; simp at this; omega
  have q0 : w1.cell? ⟨w.heap.size, 0, none⟩ = some (.int .i64 a) := (hc1 _ _ (by simp)).trans (by simp [go_sem])
  have q1 : w1.cell? ⟨w.heap.size, 1, none⟩ = some (.int .i64 b) := (hc1 _ _ (by simp)).trans (by simp [go_sem])
  have q2 : w1.cell? ⟨w.heap.size, 2, none⟩ = some (.int .i64 c) := (hc1 _ _ (by simp)).trans (by simp [go_sem])
  have q3 : w1.cell? ⟨w.heap.size, 3, none⟩ = some (.int .i64 d) := (hc1 _ _ (by simp)).trans (by simp [go_sem])
  have q4 : w1.cell? ⟨w.heap.size, 4, none⟩ = some (.int .i64 ag) := (hc1 _ _ (by simp)).trans (by simp [go_sem])
  have q5 : w1.cell? ⟨w.heap.size, 5, none⟩ = some (.int .i64 z) := (hc1 _ _ (by simp)).trans (by simp [go_sem])
  have q6 : w1.cell? ⟨w.heap.size, 6, none⟩ = some (.slice A n cap) := (hc1 _ _ (by simp)).trans (by simp [go_sem])
  have hb1' : Below w.heap.size w w1 := (by have hs0 := Below.size hb1; repeat' (first | (with_reducible refine below_call hb1 ?_ ?_) | (with_reducible exact Below.refl _ _) | (with_reducible refine Below.alloc ?_ ?_ _) | (with_reducible refine Below.setCell ?_ ?_ _) | (with_reducible refine below_drewN ?_ _) | (with_reducible refine Below.drew ?_) | (with_reducible exact Nat.le_refl _) | omega | (simp; done) | ((try simp at hs0);  (try simp); omega)))
  have Hb1 := Lib.hid hb1'
  clear hb1 hc1 hb1'
  generalize hF : findCover l q = F
  obtain ⟨⟨x0, x1, x2, x3, x4⟩, r⟩ := F
  have HF := Lib.hid hF
  clear hF
  have hB1 := Lib.hid ((HB.out.below Hb1.out).mono Hb1.out.size)
  have hA1 := Lib.hid ((HA.out.below Hb1.out).mono Hb1.out.size)
  by_cases h50 : n ≤ 50 ∧ m ≤ 50
  · obtain ⟨hn50, hm50⟩ := h50
    go_wp2_with fail
    refine (find_any _ _ _ _ l _ Hm.out Hml.out hB1.out).mono ?_
    rintro e w2 ⟨rfl, hb2⟩
    rw [HF.out]
    simp only [foundVal, Cover.val]
    have hB2 := Lib.hid ((hB1.out.below hb2).mono hb2.size)
    have hA2 := Lib.hid ((hA1.out.below hb2).mono hb2.size)
    obtain ⟨hc2, -⟩ := bcell hb2
    replace q0 := (hc2 _ _ hz1).trans q0
    replace q1 := (hc2 _ _ hz1).trans q1
    replace q2 := (hc2 _ _ hz1).trans q2
    replace q3 := (hc2 _ _ hz1).trans q3
    replace q4 := (hc2 _ _ hz1).trans q4
    replace q5 := (hc2 _ _ hz1).trans q5
    replace q6 := (hc2 _ _ hz1).trans q6
    have hz2 : w.heap.size < w2.heap.size := by have := hb2.size; omega
    have Hb2 := Lib.hid (Hb1.out.trans (hb2.mono (Nat.le_of_lt hz1)))
    clear hc2 hb2 hz1
    go_wp2_with fail
    refine (refFind_any _ _ _ _ l _ Hm.out Hml.out ((hB2.out.below (by repeat' (first | (with_reducible exact Below.refl _ _) | (with_reducible refine Below.alloc ?_ ?_ _) | (with_reducible refine Below.setCell ?_ ?_ _) | (with_reducible refine below_drewN ?_ _) | (with_reducible refine Below.drew ?_) | (with_reducible exact Nat.le_refl _) | omega | (simp; done) | ( (try simp); omega)))).mono (by simp))).mono ?_
    rintro e w3 ⟨rfl, hb3⟩
    rw [HF.out]
    simp only [foundVal, Cover.val]
    have hB3 := Lib.hid ((hB2.out.below (by have hs0 := Below.size hb3; repeat' (first | (with_reducible refine below_call hb3 ?_ ?_) | (with_reducible exact Below.refl _ _) | (with_reducible refine Below.alloc ?_ ?_ _) | (with_reducible refine Below.setCell ?_ ?_ _) | (with_reducible refine below_drewN ?_ _) | (with_reducible refine Below.drew ?_) | (with_reducible exact Nat.le_refl _) | omega | (simp; done) | ((try simp at hs0);  (try simp); omega)))).mono (by have := hb3.size; simp at this; omega) : RowsAt w3 w3.heap.size 5 isCover B l)
    have hA3 := Lib.hid ((hA2.out.below (by have hs0 := Below.size hb3; repeat' (first | (with_reducible refine below_call hb3 ?_ ?_) | (with_reducible exact Below.refl _ _) | (with_reducible refine Below.alloc ?_ ?_ _) | (with_reducible refine Below.setCell ?_ ?_ _) | (with_reducible refine below_drewN ?_ _) | (with_reducible refine Below.drew ?_) | (with_reducible exact Nat.le_refl _) | omega | (simp; done) | ((try simp at hs0);  (try simp); omega)))).mono (by have := hb3.size; simp at this; omega) : RowsAt w3 w3.heap.size 5 isCover A lt)
    obtain ⟨hc3, -⟩ := bcell hb3
    have hz3 : w.heap.size < w3.heap.size := by have := hb3.size; simp at this; omega
    have hz4 : w2.heap.size < w3.heap.size := by have := hb3.size; simp at this; omega
    have hm0 : w.heap.size < (w2.alloc (Obj.cells #[Value.int IntKind.i64 x0, Value.int IntKind.i64 x1, Value.int IntKind.i64 x2, Value.int IntKind.i64 x3, Value.int IntKind.i64 x4] 31)).heap.size := by simp; omega
    have hm2 : w2.heap.size < (w2.alloc (Obj.cells #[Value.int IntKind.i64 x0, Value.int IntKind.i64 x1, Value.int IntKind.i64 x2, Value.int IntKind.i64 x3, Value.int IntKind.i64 x4] 31)).heap.size := by simp
    replace q0 := (hc3 w.heap.size 0 hm0).trans ((World.cell?_alloc_lt _ _ _ hz2).trans q0)
    replace q1 := (hc3 w.heap.size 1 hm0).trans ((World.cell?_alloc_lt _ _ _ hz2).trans q1)
    replace q2 := (hc3 w.heap.size 2 hm0).trans ((World.cell?_alloc_lt _ _ _ hz2).trans q2)
    replace q3 := (hc3 w.heap.size 3 hm0).trans ((World.cell?_alloc_lt _ _ _ hz2).trans q3)
    replace q4 := (hc3 w.heap.size 4 hm0).trans ((World.cell?_alloc_lt _ _ _ hz2).trans q4)
    replace q5 := (hc3 w.heap.size 5 hm0).trans ((World.cell?_alloc_lt _ _ _ hz2).trans q5)
    replace q6 := (hc3 w.heap.size 6 hm0).trans ((World.cell?_alloc_lt _ _ _ hz2).trans q6)
    have r0 : w3.cell? ⟨w2.heap.size, 0, none⟩ = some (.int .i64 x0) := (hc3 w2.heap.size 0 hm2).trans (by simp [go_sem])
    have r1 : w3.cell? ⟨w2.heap.size, 1, none⟩ = some (.int .i64 x1) := (hc3 w2.heap.size 1 hm2).trans (by simp [go_sem])
    have r2 : w3.cell? ⟨w2.heap.size, 2, none⟩ = some (.int .i64 x2) := (hc3 w2.heap.size 2 hm2).trans (by simp [go_sem])
    have r3 : w3.cell? ⟨w2.heap.size, 3, none⟩ = some (.int .i64 x3) := (hc3 w2.heap.size 3 hm2).trans (by simp [go_sem])
    have r4 : w3.cell? ⟨w2.heap.size, 4, none⟩ = some (.int .i64 x4) := (hc3 w2.heap.size 4 hm2).trans (by simp [go_sem])
    have Hb3' : Below w.heap.size w w3 := (by have hs0 := Below.size Hb2.out; have hs1 := Below.size hb3; repeat' (first | (with_reducible exact Hb2.out) | (with_reducible refine below_call hb3 ?_ ?_) | (with_reducible exact Below.refl _ _) | (with_reducible refine Below.alloc ?_ ?_ _) | (with_reducible refine Below.setCell ?_ ?_ _) | (with_reducible refine below_drewN ?_ _) | (with_reducible refine Below.drew ?_) | (with_reducible exact Nat.le_refl _) | omega | (simp; done) | ((try simp at hs0); (try simp at hs1);  (try simp); omega)))
    have Hb3 := Lib.hid Hb3'
    clear Hb3' hc3 hb3 hm0 hm2
    go_wp2_with fail
    obtain ⟨w4, hw4⟩ : ∃ w4, w4 = w3.alloc (Obj.cells #[Value.int IntKind.i64 x0, Value.int IntKind.i64 x1, Value.int IntKind.i64 x2, Value.int IntKind.i64 x3, Value.int IntKind.i64 x4] 31) := ⟨_, rfl⟩
    rw [← hw4]
    have z4 : w3.heap.size < w4.heap.size := by rw [hw4]; simp
    have z3 : w2.heap.size < w4.heap.size := by omega
    have z2 : w.heap.size < w4.heap.size := by omega
    replace q0 := (show w4.cell? ⟨w.heap.size, 0, none⟩ = w3.cell? ⟨w.heap.size, 0, none⟩ by rw [hw4]; exact World.cell?_alloc_lt _ _ _ hz3).trans q0
    replace q1 := (show w4.cell? ⟨w.heap.size, 1, none⟩ = w3.cell? ⟨w.heap.size, 1, none⟩ by rw [hw4]; exact World.cell?_alloc_lt _ _ _ hz3).trans q1
    replace q2 := (show w4.cell? ⟨w.heap.size, 2, none⟩ = w3.cell? ⟨w.heap.size, 2, none⟩ by rw [hw4]; exact World.cell?_alloc_lt _ _ _ hz3).trans q2
    replace q3 := (show w4.cell? ⟨w.heap.size, 3, none⟩ = w3.cell? ⟨w.heap.size, 3, none⟩ by rw [hw4]; exact World.cell?_alloc_lt _ _ _ hz3).trans q3
    replace q4 := (show w4.cell? ⟨w.heap.size, 4, none⟩ = w3.cell? ⟨w.heap.size, 4, none⟩ by rw [hw4]; exact World.cell?_alloc_lt _ _ _ hz3).trans q4
    replace q5 := (show w4.cell? ⟨w.heap.size, 5, none⟩ = w3.cell? ⟨w.heap.size, 5, none⟩ by rw [hw4]; exact World.cell?_alloc_lt _ _ _ hz3).trans q5
    replace q6 := (show w4.cell? ⟨w.heap.size, 6, none⟩ = w3.cell? ⟨w.heap.size, 6, none⟩ by rw [hw4]; exact World.cell?_alloc_lt _ _ _ hz3).trans q6
    replace r0 := (show w4.cell? ⟨w2.heap.size, 0, none⟩ = w3.cell? ⟨w2.heap.size, 0, none⟩ by rw [hw4]; exact World.cell?_alloc_lt _ _ _ hz4).trans r0
    have s0 : w4.cell? ⟨w3.heap.size, 0, none⟩ = some (.int .i64 x0) := by rw [hw4]; simp [go_sem]
    replace r1 := (show w4.cell? ⟨w2.heap.size, 1, none⟩ = w3.cell? ⟨w2.heap.size, 1, none⟩ by rw [hw4]; exact World.cell?_alloc_lt _ _ _ hz4).trans r1
    have s1 : w4.cell? ⟨w3.heap.size, 1, none⟩ = some (.int .i64 x1) := by rw [hw4]; simp [go_sem]
    replace r2 := (show w4.cell? ⟨w2.heap.size, 2, none⟩ = w3.cell? ⟨w2.heap.size, 2, none⟩ by rw [hw4]; exact World.cell?_alloc_lt _ _ _ hz4).trans r2
    have s2 : w4.cell? ⟨w3.heap.size, 2, none⟩ = some (.int .i64 x2) := by rw [hw4]; simp [go_sem]
    replace r3 := (show w4.cell? ⟨w2.heap.size, 3, none⟩ = w3.cell? ⟨w2.heap.size, 3, none⟩ by rw [hw4]; exact World.cell?_alloc_lt _ _ _ hz4).trans r3
    have s3 : w4.cell? ⟨w3.heap.size, 3, none⟩ = some (.int .i64 x3) := by rw [hw4]; simp [go_sem]
    replace r4 := (show w4.cell? ⟨w2.heap.size, 4, none⟩ = w3.cell? ⟨w2.heap.size, 4, none⟩ by rw [hw4]; exact World.cell?_alloc_lt _ _ _ hz4).trans r4
    have s4 : w4.cell? ⟨w3.heap.size, 4, none⟩ = some (.int .i64 x4) := by rw [hw4]; simp [go_sem]
    have Hb4' : Below w.heap.size w w4 := by rw [hw4]; exact Hb3.out.alloc Hb3.out.size _
    have Hb4 := Lib.hid Hb4'
    have hB4 := Lib.hid ((hB3.out.below (by rw [hw4]; exact (by repeat' (first | (with_reducible exact Below.refl _ _) | (with_reducible refine Below.alloc ?_ ?_ _) | (with_reducible refine Below.setCell ?_ ?_ _) | (with_reducible refine below_drewN ?_ _) | (with_reducible refine Below.drew ?_) | (with_reducible exact Nat.le_refl _) | omega | (simp; done) | ( (try simp); omega))))).mono (Nat.le_of_lt z4) : RowsAt w4 w4.heap.size 5 isCover B l)
    have hA4 := Lib.hid ((hA3.out.below (by rw [hw4]; exact (by repeat' (first | (with_reducible exact Below.refl _ _) | (with_reducible refine Below.alloc ?_ ?_ _) | (with_reducible refine Below.setCell ?_ ?_ _) | (with_reducible refine below_drewN ?_ _) | (with_reducible refine Below.drew ?_) | (with_reducible exact Nat.le_refl _) | omega | (simp; done) | ( (try simp); omega))))).mono (Nat.le_of_lt z4) : RowsAt w4 w4.heap.size 5 isCover A lt)
    have hE := eqlCover
    have hG := eqGuardCover
    clear hw4 Hb4' hz3 hz4
    refine wp_region_ext (by kernel_rfl) (by kernel_rfl) ?_
    repeat (go_big_quiet_step (first
      | (go_at_call 11; exact ext_call (covers_any _ _ _ l _ Hm.out Hml.out ((hB4.out.below (ext_below _ _)).mono (ext_below _ _).size)))
      | (go_at_call 12; exact ext_call (refCovers_any _ _ _ l _ Hm.out Hml.out ((hB4.out.below (ext_below _ _)).mono (ext_below _ _).size)))
      | (go_at_call 13; exact ext_call (termsRight_any _ _ _ _ _ _ A n cap lt _ Hn.out Hl.out ((hA4.out.below (ext_below _ _)).mono (ext_below _ _).size)))
      | (go_at_call 14; exact ext_call (ref10Right_any _ _ _ _ _ _ A n cap lt _ Hn.out Hl.out ((hA4.out.below (ext_below _ _)).mono (ext_below _ _).size)))))
    refine wpQuiet_nil ?_
    intro _ hw'
    obtain ⟨xq, hw''⟩ := hw'
    subst hw''
    have Hbx := Lib.hid (ext_below w4 xq)
    generalize ext w4 xq = w5 at *
    go_wp2
    go_ret
    exact ⟨ret_bool (by simp), Hb4.out.trans (Hbx.out.mono (Nat.le_of_lt z2))⟩
  · have h50' : 50 < n ∨ 50 < m := by omega
    clear h50
    rcases h50' with h50 | h50
    all_goals
      go_wp2_with fail
      all_goals
        go_ret
        exact ⟨rfl, Hb1.out⟩

end Go.Proofs.Ythmjjogmgjagmaa
