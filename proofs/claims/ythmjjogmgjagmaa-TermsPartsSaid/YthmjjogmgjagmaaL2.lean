/- The laws TermsDays and TermsParts. -/
import Derived.Test.YthmjjogmgjagmaaD1
import Derived.Test.YthmjjogmgjagmaaO
namespace Go.Proofs.Ythmjjogmgjagmaa
open Go.RowKit

attribute [local go_sem] cell_ext frozen_ext

set_option maxHeartbeats 1000000 in
theorem termsDays_any (a b c d ag z : Int) (A : Option Addr) (n cap : Nat) (l : List Cover) (sa sb : Int) (w : World) (hn : n = l.length) (hl : n ≤ maxLen) (hA : RowsAt w w.heap.size 5 isCover A l) :
    Calls Try.prog 6 #[.agg #[.int .i64 a, .int .i64 b, .int .i64 c, .int .i64 d, .int .i64 ag, .int .i64 z, .slice A n cap], .agg #[.int .i64 sa, .int .i64 sb]] w fun e w' => e = .returned (.bool true) ∧ Below w.heap.size w w' := by
  have HA := Lib.hid hA
  have Hn := Lib.hid hn
  have Hl := Lib.hid hl
  clear hA hn hl
  generalize hT : termsRight ⟨a, b, c, d, ag, z, l⟩ = T
  have HT := Lib.hid hT
  clear hT
  go_enter Try.func6, Try.ntmps6
  go_wp2_with fail
  refine (awake_any _).mono ?_
  rintro e w1 ⟨rfl, hb1⟩
  have B1 := Lib.hid (((Box.new w 28 #[.int .i64 a, .int .i64 b, .int .i64 c, .int .i64 d, .int .i64 ag, .int .i64 z, .slice A n cap] rfl rfl).alloc _).below hb1 (by simp; omega))
  have S1 := Lib.hid ((Box.new (w.alloc _) 23 #[.int .i64 sa, .int .i64 sb] rfl rfl).below hb1 (by simp))
  have Hb1' : Below w.heap.size w w1 := (by have hs0 := Below.size hb1; repeat' (first | (with_reducible refine below_call hb1 ?_ ?_) | (with_reducible exact Below.refl _ _) | (with_reducible refine Below.alloc ?_ ?_ _) | (with_reducible refine Below.setCell ?_ ?_ _) | (with_reducible refine below_drewN ?_ _) | (with_reducible refine Below.drew ?_) | (with_reducible exact Nat.le_refl _) | omega | (simp; done) | ((try simp at hs0);  (try simp); omega)))
  have Hb1 := Lib.hid Hb1'
  have hA1 := Lib.hid ((HA.out.below Hb1').mono Hb1'.size)
  simp only [World.size_alloc] at S1
  have q0 := (B1.out.2 0 _ rfl).1; have q1 := (B1.out.2 1 _ rfl).1; have q2 := (B1.out.2 2 _ rfl).1; have q3 := (B1.out.2 3 _ rfl).1; have q4 := (B1.out.2 4 _ rfl).1; have q5 := (B1.out.2 5 _ rfl).1; have q6 := (B1.out.2 6 _ rfl).1
  have s0 := (S1.out.2 0 _ rfl).1; have s1 := (S1.out.2 1 _ rfl).1
  have z1 := B1.out.1
  have z2 := S1.out.1
  clear Hb1' hb1
  go_wp2_with fail
  · refine (termsRight_any a b c d ag z A n cap l _ Hn.out Hl.out hA1.out).mono ?_
    rintro e w2 ⟨rfl, hb2⟩
    rw [HT.out]
    have B2 := Lib.hid (B1.out.below hb2 z1)
    have S2 := Lib.hid (S1.out.below hb2 z2)
    have Hb2' : Below w.heap.size w w2 := (by have hs0 := Below.size Hb1.out; have hs1 := Below.size hb2; repeat' (first | (with_reducible exact Hb1.out) | (with_reducible refine below_call hb2 ?_ ?_) | (with_reducible exact Below.refl _ _) | (with_reducible refine Below.alloc ?_ ?_ _) | (with_reducible refine Below.setCell ?_ ?_ _) | (with_reducible refine below_drewN ?_ _) | (with_reducible refine Below.drew ?_) | (with_reducible exact Nat.le_refl _) | omega | (simp; done) | ((try simp at hs0); (try simp at hs1);  (try simp); omega)))
    have Hb2 := Lib.hid Hb2'
    have hA2 := Lib.hid ((HA.out.below Hb2').mono Hb2'.size)
    clear Hb2' hb2 q0 q1 q2 q3 q4 q5 q6 s0 s1 z1 z2
    have q0 := (B2.out.2 0 _ rfl).1; have q1 := (B2.out.2 1 _ rfl).1; have q2 := (B2.out.2 2 _ rfl).1; have q3 := (B2.out.2 3 _ rfl).1; have q4 := (B2.out.2 4 _ rfl).1; have q5 := (B2.out.2 5 _ rfl).1; have q6 := (B2.out.2 6 _ rfl).1
    have s0 := (S2.out.2 0 _ rfl).1; have s1 := (S2.out.2 1 _ rfl).1
    have z1 := B2.out.1
    have z2 := S2.out.1
    cases T
    · go_wp2
      go_ret
      exact ⟨rfl, Hb2.out⟩
    · have hT := HT.out
      simp only [termsRight, ← full_many, Bool.and_eq_true] at hT
      obtain ⟨⟨⟨hF, hM⟩, hR⟩, hC⟩ := hT
      simp only [full, Bool.and_eq_true, decide_eq_true_eq] at hF hM
      obtain ⟨⟨f1, f2⟩, f3⟩ := hF
      have HR : Hid (termsRight ⟨sa, sb, c, d, ag, z, l⟩ = (full sa sb && decide (sb - sa ≤ 1100))) := by
        show termsRight _ = _
        simp only [termsRight, ← full_many, hR, hC, Bool.and_true]
      clear hR hC
      have HM := Lib.hid hM
      go_wp2_with fail
      all_goals
        refine (termsRight_any sa sb c d ag z A n cap l _ Hn.out Hl.out ((hA2.out.below (by repeat' (first | (with_reducible exact Below.refl _ _) | (with_reducible refine Below.alloc ?_ ?_ _) | (with_reducible refine Below.setCell ?_ ?_ _) | (with_reducible refine below_drewN ?_ _) | (with_reducible refine Below.drew ?_) | (with_reducible exact Nat.le_refl _) | omega | (simp; done) | ( (try simp); omega)))).mono (by simp))).mono ?_
        rintro e w3 ⟨rfl, hb3⟩
        rw [HR.out]
        first
          | rw [show (full sa sb && decide (sb - sa ≤ 1100)) = false from by rw [Bool.eq_false_iff]; simp [full]; omega]
          | rw [show (full sa sb && decide (sb - sa ≤ 1100)) = decide (sb - sa ≤ 1100) from by rw [Bool.eq_iff_iff]; simp [full]; omega]
        have B3 := Lib.hid ((B2.out.alloc _).below hb3 (by simp; omega))
        have Hb3' : Below w.heap.size w w3 := (by have hs0 := Below.size Hb2.out; have hs1 := Below.size hb3; repeat' (first | (with_reducible exact Hb2.out) | (with_reducible refine below_call hb3 ?_ ?_) | (with_reducible exact Below.refl _ _) | (with_reducible refine Below.alloc ?_ ?_ _) | (with_reducible refine Below.setCell ?_ ?_ _) | (with_reducible refine below_drewN ?_ _) | (with_reducible refine Below.drew ?_) | (with_reducible exact Nat.le_refl _) | omega | (simp; done) | ((try simp at hs0); (try simp at hs1);  (try simp); omega)))
        have Hb3 := Lib.hid Hb3'
        clear Hb3' hb3 q0 q1 q2 q3 q4 q5 q6 s0 s1 z1 z2
        have q0 := (B3.out.2 0 _ rfl).1; have q1 := (B3.out.2 1 _ rfl).1; have q2 := (B3.out.2 2 _ rfl).1; have q3 := (B3.out.2 3 _ rfl).1; have q4 := (B3.out.2 4 _ rfl).1; have q5 := (B3.out.2 5 _ rfl).1; have q6 := (B3.out.2 6 _ rfl).1
        have z1 := B3.out.1
        go_wp2
        all_goals go_ret
        all_goals
          refine ⟨ret_bool (Eq.symm ?_), Hb3.out⟩
          have hM := HM.out
          first
            | (simp; done)
            | (simp; omega)
            | omega
  · go_ret
    exact ⟨rfl, Hb1.out⟩

set_option maxHeartbeats 1000000 in
theorem termsParts_any (a b c d ag z : Int) (A : Option Addr) (n cap : Nat) (l : List Cover) (ra rb rc rd : Int) (B : Option Addr) (m capB : Nat) (k : List Cover) (w : World) (hn : n = l.length) (hl : n ≤ maxLen) (hA : RowsAt w w.heap.size 5 isCover A l)
    (hm : m = k.length) (hml : m ≤ maxLen) (hB : RowsAt w w.heap.size 5 isCover B k) :
    Calls Try.prog 7 #[.agg #[.int .i64 a, .int .i64 b, .int .i64 c, .int .i64 d, .int .i64 ag, .int .i64 z, .slice A n cap], .agg #[.int .i64 ra, .int .i64 rb, .int .i64 rc, .int .i64 rd], .slice B m capB] w
      fun e w' => e = .returned (.bool true) ∧ Below w.heap.size w w' := by
  have HA := Lib.hid hA
  have Hn := Lib.hid hn
  have Hl := Lib.hid hl
  have HB := Lib.hid hB
  have Hm := Lib.hid hm
  have Hml := Lib.hid hml
  clear hA hn hl hB hm hml
  generalize hT : termsRight ⟨a, b, c, d, ag, z, l⟩ = T
  have HT := Lib.hid hT
  clear hT
  go_enter Try.func7, Try.ntmps7
  go_wp2_with fail
  refine (awake_any _).mono ?_
  rintro e w1 ⟨rfl, hb1⟩
  have B1 := Lib.hid (((Box.new w 28 #[.int .i64 a, .int .i64 b, .int .i64 c, .int .i64 d, .int .i64 ag, .int .i64 z, .slice A n cap] rfl rfl).alloc _).below hb1 (by simp; omega))
  have S1 := Lib.hid ((Box.new (w.alloc _) 25 #[.int .i64 ra, .int .i64 rb, .int .i64 rc, .int .i64 rd] rfl rfl).below hb1 (by simp))
  have Hb1' : Below w.heap.size w w1 := (by have hs0 := Below.size hb1; repeat' (first | (with_reducible refine below_call hb1 ?_ ?_) | (with_reducible exact Below.refl _ _) | (with_reducible refine Below.alloc ?_ ?_ _) | (with_reducible refine Below.setCell ?_ ?_ _) | (with_reducible refine below_drewN ?_ _) | (with_reducible refine Below.drew ?_) | (with_reducible exact Nat.le_refl _) | omega | (simp; done) | ((try simp at hs0);  (try simp); omega)))
  have Hb1 := Lib.hid Hb1'
  have hA1 := Lib.hid ((HA.out.below Hb1').mono Hb1'.size)
  simp only [World.size_alloc] at S1
  have q0 := (B1.out.2 0 _ rfl).1; have q1 := (B1.out.2 1 _ rfl).1; have q2 := (B1.out.2 2 _ rfl).1; have q3 := (B1.out.2 3 _ rfl).1; have q4 := (B1.out.2 4 _ rfl).1; have q5 := (B1.out.2 5 _ rfl).1; have q6 := (B1.out.2 6 _ rfl).1
  have s0 := (S1.out.2 0 _ rfl).1; have s1 := (S1.out.2 1 _ rfl).1; have s2 := (S1.out.2 2 _ rfl).1; have s3 := (S1.out.2 3 _ rfl).1
  have z1 := B1.out.1
  have z2 := S1.out.1
  clear Hb1' hb1
  by_cases h50 : n ≤ 50 ∧ m ≤ 50
  · obtain ⟨hn50, hm50⟩ := h50
    go_wp2_with fail
    refine (termsRight_any a b c d ag z A n cap l _ Hn.out Hl.out hA1.out).mono ?_
    rintro e w2 ⟨rfl, hb2⟩
    rw [HT.out]
    have B2 := Lib.hid (B1.out.below hb2 z1)
    have S2 := Lib.hid (S1.out.below hb2 z2)
    have Hb2' : Below w.heap.size w w2 := (by have hs0 := Below.size Hb1.out; have hs1 := Below.size hb2; repeat' (first | (with_reducible exact Hb1.out) | (with_reducible refine below_call hb2 ?_ ?_) | (with_reducible exact Below.refl _ _) | (with_reducible refine Below.alloc ?_ ?_ _) | (with_reducible refine Below.setCell ?_ ?_ _) | (with_reducible refine below_drewN ?_ _) | (with_reducible refine Below.drew ?_) | (with_reducible exact Nat.le_refl _) | omega | (simp; done) | ((try simp at hs0); (try simp at hs1);  (try simp); omega)))
    have Hb2 := Lib.hid Hb2'
    have hA2 := Lib.hid ((HA.out.below Hb2').mono Hb2'.size)
    have hB2 := Lib.hid ((HB.out.below Hb2').mono Hb2'.size)
    clear Hb2' hb2 q0 q1 q2 q3 q4 q5 q6 s0 s1 s2 s3 z1 z2
    have q0 := (B2.out.2 0 _ rfl).1; have q1 := (B2.out.2 1 _ rfl).1; have q2 := (B2.out.2 2 _ rfl).1; have q3 := (B2.out.2 3 _ rfl).1; have q4 := (B2.out.2 4 _ rfl).1; have q5 := (B2.out.2 5 _ rfl).1; have q6 := (B2.out.2 6 _ rfl).1
    have s0 := (S2.out.2 0 _ rfl).1; have s1 := (S2.out.2 1 _ rfl).1; have s2 := (S2.out.2 2 _ rfl).1; have s3 := (S2.out.2 3 _ rfl).1
    have z1 := B2.out.1
    have z2 := S2.out.1
    cases T
    · go_wp2
      go_ret
      exact ⟨rfl, Hb2.out⟩
    · have hT := HT.out
      simp only [termsRight, Bool.and_eq_true] at hT
      obtain ⟨⟨⟨hF, hM⟩, hR⟩, hC⟩ := hT
      have HR : Hid (termsRight ⟨a, b, ra, rb, rc, rd, l⟩ = riskRight ra rb rc rd) := by
        show termsRight _ = _
        simp only [termsRight, hF, hM, hC, Bool.and_true, Bool.true_and]
      have HC : Hid (termsRight ⟨a, b, c, d, ag, z, k⟩ = coversRight k) := by
        show termsRight _ = _
        simp only [termsRight, hF, hM, hR, Bool.true_and]
      clear hF hM hR hC
      have K1 : ∀ W, RowsAt W W.heap.size 5 isCover A l → Calls Try.prog 13 #[.agg #[.int .i64 a, .int .i64 b, .int .i64 ra, .int .i64 rb, .int .i64 rc, .int .i64 rd, .slice A n cap]] W fun e w' => e = .returned (.bool (riskRight ra rb rc rd)) ∧ Below W.heap.size W w' := fun W h => by
        have := termsRight_any a b ra rb rc rd A n cap l W Hn.out Hl.out h
        rwa [HR.out] at this
      have K2 : ∀ W, RowsAt W W.heap.size 5 isCover B k → Calls Try.prog 13 #[.agg #[.int .i64 a, .int .i64 b, .int .i64 c, .int .i64 d, .int .i64 ag, .int .i64 z, .slice B m capB]] W fun e w' => e = .returned (.bool (coversRight k)) ∧ Below W.heap.size W w' := fun W h => by
        have := termsRight_any a b c d ag z B m capB k W Hm.out Hml.out h
        rwa [HC.out] at this
      have H1 := Lib.hid K1
      have H2 := Lib.hid K2
      clear K1 K2
      go_wp2_with fail
      obtain ⟨w4, hw4⟩ : ∃ w4, w4 = (w2.alloc (Obj.cells #[Value.int IntKind.i64 a, Value.int IntKind.i64 b, Value.int IntKind.i64 ra, Value.int IntKind.i64 rb, Value.int IntKind.i64 rc, Value.int IntKind.i64 rd, Value.slice A n cap] 28)).alloc
        (Obj.cells #[Value.int IntKind.i64 a, Value.int IntKind.i64 b, Value.int IntKind.i64 c, Value.int IntKind.i64 d, Value.int IntKind.i64 ag, Value.int IntKind.i64 z, Value.slice B m capB] 28) := ⟨_, rfl⟩
      rw [← hw4]
      have X4 : Box w4 w2.heap.size [.int .i64 a, .int .i64 b, .int .i64 ra, .int .i64 rb, .int .i64 rc, .int .i64 rd, .slice A n cap] := by rw [hw4]; exact (Box.new w2 28 #[.int .i64 a, .int .i64 b, .int .i64 ra, .int .i64 rb, .int .i64 rc, .int .i64 rd, .slice A n cap] rfl rfl).alloc _
      have Y4 : Box w4 (w2.heap.size + 1) [.int .i64 a, .int .i64 b, .int .i64 c, .int .i64 d, .int .i64 ag, .int .i64 z, .slice B m capB] := by rw [hw4]; exact Box.new (w2.alloc _) 28 #[.int .i64 a, .int .i64 b, .int .i64 c, .int .i64 d, .int .i64 ag, .int .i64 z, .slice B m capB] (by simp) rfl
      have S4 : Box w4 (w.heap.size + 1) [.int .i64 ra, .int .i64 rb, .int .i64 rc, .int .i64 rd] := by rw [hw4]; exact (S2.out.alloc _).alloc _
      have Hb4' : Below w.heap.size w w4 := by rw [hw4]; exact (by have hs0 := Below.size Hb2.out; repeat' (first | (with_reducible exact Hb2.out) | (with_reducible exact Below.refl _ _) | (with_reducible refine Below.alloc ?_ ?_ _) | (with_reducible refine Below.setCell ?_ ?_ _) | (with_reducible refine below_drewN ?_ _) | (with_reducible refine Below.drew ?_) | (with_reducible exact Nat.le_refl _) | omega | (simp; done) | ((try simp at hs0);  (try simp); omega)))
      have Hb4 := Lib.hid Hb4'
      have hA4 := Lib.hid ((HA.out.below Hb4').mono Hb4'.size)
      have hB4 := Lib.hid ((HB.out.below Hb4').mono Hb4'.size)
      have z4 := Hb4'.size
      clear Hb4' hw4 q0 q1 q2 q3 q4 q5 q6 s0 s1 s2 s3 z1 z2
      have z1 := X4.1
      have z2 := Y4.1
      have z3 := S4.1
      have q0 := (X4.2 0 _ rfl).1; have q1 := (X4.2 1 _ rfl).1; have q2 := (X4.2 2 _ rfl).1; have q3 := (X4.2 3 _ rfl).1; have q4 := (X4.2 4 _ rfl).1; have q5 := (X4.2 5 _ rfl).1; have q6 := (X4.2 6 _ rfl).1
      have r0 := (Y4.2 0 _ rfl).1; have r1 := (Y4.2 1 _ rfl).1; have r2 := (Y4.2 2 _ rfl).1; have r3 := (Y4.2 3 _ rfl).1; have r4 := (Y4.2 4 _ rfl).1; have r5 := (Y4.2 5 _ rfl).1; have r6 := (Y4.2 6 _ rfl).1
      have s0 := (S4.2 0 _ rfl).1; have s1 := (S4.2 1 _ rfl).1; have s2 := (S4.2 2 _ rfl).1; have s3 := (S4.2 3 _ rfl).1
      clear X4 Y4 S4
      refine wp_region_ext (by kernel_rfl) (by kernel_rfl) ?_
      repeat (go_big_quiet_step (first
        | (go_at_call 16; exact ext_call (riskRight_any _ _ _ _ _))
        | (go_at_call 11; exact ext_call (covers_any _ _ _ k _ Hm.out Hml.out ((hB4.out.below (ext_below _ _)).mono (ext_below _ _).size)))
        | (go_at_call 13; first | (with_reducible exact ext_call (H1.out _ ((hA4.out.below (ext_below _ _)).mono (ext_below _ _).size))) | (with_reducible exact ext_call (H2.out _ ((hB4.out.below (ext_below _ _)).mono (ext_below _ _).size))))))
      refine wpQuiet_nil ?_
      intro _ hw'
      obtain ⟨xq, hw''⟩ := hw'
      subst hw''
      have Hbx := Lib.hid (ext_below w4 xq)
      generalize ext w4 xq = w5 at *
      go_wp2
      go_ret
      exact ⟨ret_bool (by simp), Hb4.out.trans (Hbx.out.mono z4)⟩
  · have h50' : 50 < n ∨ 50 < m := by omega
    clear h50
    rcases h50' with h50 | h50
    all_goals
      go_wp2_with fail
      all_goals
        go_ret
        exact ⟨rfl, Hb1.out⟩

end Go.Proofs.Ythmjjogmgjagmaa
