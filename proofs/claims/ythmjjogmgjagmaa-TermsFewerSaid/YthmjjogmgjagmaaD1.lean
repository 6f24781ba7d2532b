/- Contracts: bordereauref10.Right; awake. -/
import Derived.Test.YthmjjogmgjagmaaC9
namespace Go.Proofs.Ythmjjogmgjagmaa
open Go.RowKit

theorem full_many (a b : Int) : (full a b && decide (b - a ≤ 1100)) = (spanRight a b && manyRight a b) := by
  rw [Bool.eq_iff_iff]
  simp only [full, spanRight, manyRight, spanMany, keptFrom, keptTo, Bool.and_eq_true, decide_eq_true_eq]
  constructor
  · rintro ⟨⟨⟨h1, h2⟩, h3⟩, h4⟩
    have e : (a == b) = false := by simp; omega
    simp [e]
    simp [h1, h3, show a ≤ b by omega]
    omega
  · rintro ⟨⟨⟨h1, h2⟩, h3⟩, h4, h5⟩
    simp [h1, h2, h3] at h4 h5
    by_cases e : a = b
    · subst e; simp at h4
    · simp [e] at h4 h5
      omega

set_option maxHeartbeats 400000 in
theorem ref10Right_any (a b c d ag z : Int) (A : Option Addr) (n cap : Nat) (l : List Cover) (w : World) (hn : n = l.length) (hl : n ≤ maxLen) (hA : RowsAt w w.heap.size 5 isCover A l) :
    Calls Try.prog 14 #[.agg #[.int .i64 a, .int .i64 b, .int .i64 c, .int .i64 d, .int .i64 ag, .int .i64 z, .slice A n cap]] w fun e w' => e = .returned (.bool (termsRight ⟨a, b, c, d, ag, z, l⟩)) ∧ Below w.heap.size w w' := by
  have HT : Hid (termsRight ⟨a, b, c, d, ag, z, l⟩ = (full a b && decide (b - a ≤ 1100) && riskRight c d ag z && coversRight l)) := by
    show termsRight _ = _
    simp only [termsRight, full_many]
  have HA := Lib.hid hA
  have Hn := Lib.hid hn
  have Hl := Lib.hid hl
  clear hA hn hl
  cases hf : full a b
  · have Hf := Lib.hid hf
    clear hf
    go_enter Try.func14, Try.ntmps14
    go_wp2_with fail
    refine (full_any _ _ _).mono ?_
    rintro e w1 ⟨rfl, hb1⟩
    rw [Hf.out]
    go_wp2
    go_ret
    exact ⟨ret_bool (by rw [HT.out, Hf.out]; rfl), (by have hs0 := Below.size hb1; repeat' (first | (with_reducible refine below_call hb1 ?_ ?_) | (with_reducible exact Below.refl _ _) | (with_reducible refine Below.alloc ?_ ?_ _) | (with_reducible refine Below.setCell ?_ ?_ _) | (with_reducible refine below_drewN ?_ _) | (with_reducible refine Below.drew ?_) | (with_reducible exact Nat.le_refl _) | omega | (simp; done) | ((try simp at hs0);  (try simp); omega)))⟩
  · have hf' : 1 ≤ a ∧ a < b ∧ b ≤ 292195 := by simpa [full, and_assoc] using hf
    obtain ⟨f1, f2, f3⟩ := hf'
    have Hf := Lib.hid hf
    clear hf
    go_enter Try.func14, Try.ntmps14
    go_wp2_with fail
    refine (full_any _ _ _).mono ?_
    rintro e w1 ⟨rfl, hb1⟩
    rw [Hf.out]
    obtain ⟨hc1, -⟩ := bcell hb1
    have hz1 : w.heap.size < w1.heap.size := by have := hb1.size; simp at this; omega
    have q0 : w1.cell? ⟨w.heap.size, 0, none⟩ = some (.int .i64 a) := (hc1 _ _ (by simp)).trans (by simp [go_sem])
    have q1 : w1.cell? ⟨w.heap.size, 1, none⟩ = some (.int .i64 b) := (hc1 _ _ (by simp)).trans (by simp [go_sem])
    have q2 : w1.cell? ⟨w.heap.size, 2, none⟩ = some (.int .i64 c) := (hc1 _ _ (by simp)).trans (by simp [go_sem])
    have q3 : w1.cell? ⟨w.heap.size, 3, none⟩ = some (.int .i64 d) := (hc1 _ _ (by simp)).trans (by simp [go_sem])
    have q4 : w1.cell? ⟨w.heap.size, 4, none⟩ = some (.int .i64 ag) := (hc1 _ _ (by simp)).trans (by simp [go_sem])
    have q5 : w1.cell? ⟨w.heap.size, 5, none⟩ = some (.int .i64 z) := (hc1 _ _ (by simp)).trans (by simp [go_sem])
    have q6 : w1.cell? ⟨w.heap.size, 6, none⟩ = some (.slice A n cap) := (hc1 _ _ (by simp)).trans (by simp [go_sem])
    have hA1 : Hid (RowsAt w1 w1.heap.size 5 isCover A l) := ((HA.out.below (by have hs0 := Below.size hb1; repeat' (first | (with_reducible refine below_call hb1 ?_ ?_) | (with_reducible exact Below.refl _ _) | (with_reducible refine Below.alloc ?_ ?_ _) | (with_reducible refine Below.setCell ?_ ?_ _) | (with_reducible refine below_drewN ?_ _) | (with_reducible refine Below.drew ?_) | (with_reducible exact Nat.le_refl _) | omega | (simp; done) | ((try simp at hs0);  (try simp); omega)))).mono (by omega))
    have Hb1' : Below w.heap.size w w1 := (by have hs0 := Below.size hb1; repeat' (first | (with_reducible refine below_call hb1 ?_ ?_) | (with_reducible exact Below.refl _ _) | (with_reducible refine Below.alloc ?_ ?_ _) | (with_reducible refine Below.setCell ?_ ?_ _) | (with_reducible refine below_drewN ?_ _) | (with_reducible refine Below.drew ?_) | (with_reducible exact Nat.le_refl _) | omega | (simp; done) | ((try simp at hs0);  (try simp); omega)))
    have Hb1 := Lib.hid Hb1'
    clear Hb1'
    clear hc1 hb1
    go_wp2_with fail
    refine (ref06Right_any _ _ _ _ _).mono ?_
    rintro e w2 ⟨rfl, hb2⟩
    obtain ⟨hc2, -⟩ := bcell hb2
    have hz2 : w.heap.size < w2.heap.size := by have := hb2.size; omega
    replace q0 := (hc2 _ _ hz1).trans q0
    replace q1 := (hc2 _ _ hz1).trans q1
    replace q6 := (hc2 _ _ hz1).trans q6
    have hA2 : Hid (RowsAt w2 w2.heap.size 5 isCover A l) := (hA1.out.below hb2).mono hb2.size
    clear hc2 q2 q3 q4 q5
    go_wp2_with fail
    refine (refCovers_any A n cap l _ Hn.out Hl.out hA2.out).mono ?_
    rintro e w3 ⟨rfl, hb3⟩
    obtain ⟨hc3, -⟩ := bcell hb3
    replace q0 := (hc3 _ _ hz2).trans q0
    replace q1 := (hc3 _ _ hz2).trans q1
    clear hc3 q6
    go_wp2
    all_goals go_ret
    all_goals
      refine ⟨ret_bool ?_, (by have hs0 := Below.size Hb1.out; have hs1 := Below.size hb2; have hs2 := Below.size hb3; repeat' (first | (with_reducible exact Hb1.out) | (with_reducible refine below_call hb2 ?_ ?_) | (with_reducible refine below_call hb3 ?_ ?_) | (with_reducible exact Below.refl _ _) | (with_reducible refine Below.alloc ?_ ?_ _) | (with_reducible refine Below.setCell ?_ ?_ _) | (with_reducible refine below_drewN ?_ _) | (with_reducible refine Below.drew ?_) | (with_reducible exact Nat.le_refl _) | omega | (simp; done) | ((try simp at hs0); (try simp at hs1); (try simp at hs2);  (try simp); omega)))⟩
      rw [HT.out, Hf.out]
      first
        | (simp_all; done)
        | (have h : ¬ b - a ≤ 1100 := by omega
           simp [h]; done)

theorem covers_made (w : World) (t : TypeId) (l : List Cover) (hw : ∀ c, c ∈ l → c.wf) {cs : Array Value} {g B : Nat} (hcs : cs = (l.flatMap Cover.cells).toArray) (hg : g = w.heap.size) (hB : g < B) :
    RowsAt (w.alloc (.cells cs t)) B 5 isCover (some ⟨g, 0, none⟩) l :=
  RowsAt.made (R := isCover) (k := 5) Cover.cells (fun _ => rfl) w t l (fun c hc => ⟨rfl, hw c hc⟩) hcs hg hB

def exCovers : List Cover := [⟨1, 5, 5, 0, 1⟩, ⟨3, 7, 7, 0, 1⟩]
theorem exCovers_wf : ∀ c, c ∈ exCovers → c.wf := by
  intro c hc
  simp only [exCovers, List.mem_cons, List.not_mem_nil, or_false] at hc
  rcases hc with rfl | rfl <;> exact ⟨by decide, by decide, by decide, by decide, by decide⟩

set_option maxHeartbeats 1000000 in
theorem awake_any (w : World) :
    Calls Try.prog 8 #[] w fun e w' => e = .returned (.bool true) ∧ Below w.heap.size w w' := by
  have f1 : foundVal (findCover exCovers 3) = .tuple #[.agg #[.int .i64 3, .int .i64 7, .int .i64 7, .int .i64 0, .int .i64 1], .bool true] := rfl
  have f2 : foundVal (findCover exCovers 2) = .tuple #[.agg #[.int .i64 0, .int .i64 0, .int .i64 0, .int .i64 0, .int .i64 0], .bool false] := rfl
  have f3 : coversRight exCovers = true := by decide
  have f4 : termsRight ⟨1, 366, 0, 1, 0, 0, exCovers⟩ = true := by decide
  have F1 := Lib.hid f1
  have F2 := Lib.hid f2
  have F3 := Lib.hid f3
  have F4 := Lib.hid f4
  clear f1 f2 f3 f4
  go_enter Try.func8, Try.ntmps8
  go_wp2_with fail
  have hA := Lib.hid (covers_made w 31 exCovers exCovers_wf (cs := #[.int .i64 1, .int .i64 5, .int .i64 5, .int .i64 0, .int .i64 1, .int .i64 3, .int .i64 7, .int .i64 7, .int .i64 0, .int .i64 1]) rfl rfl (Nat.lt_succ_self _))
  refine (find_any _ 2 2 3 exCovers _ rfl (by decide) (by simpa using hA.out)).mono ?_
  rintro e w1 ⟨rfl, hb1⟩
  rw [F1.out]
  have hA1 := Lib.hid ((hA.out.below (hb1.mono (by simp))).mono (by have := hb1.size; simpa using this) : RowsAt w1 w1.heap.size 5 isCover (some ⟨w.heap.size, 0, none⟩) exCovers)
  have hb1' : Below w.heap.size w w1 := (by have hs0 := Below.size hb1; repeat' (first | (with_reducible refine below_call hb1 ?_ ?_) | (with_reducible exact Below.refl _ _) | (with_reducible refine Below.alloc ?_ ?_ _) | (with_reducible refine Below.setCell ?_ ?_ _) | (with_reducible refine below_drewN ?_ _) | (with_reducible refine Below.drew ?_) | (with_reducible exact Nat.le_refl _) | omega | (simp; done) | ((try simp at hs0);  (try simp); omega)))
  have Hb1 := Lib.hid hb1'
  clear hb1 hb1'
  go_wp2_with fail
  refine (find_any _ 2 2 2 exCovers _ rfl (by decide) (by simpa using (hA1.out.below (by repeat' (first | (with_reducible exact Below.refl _ _) | (with_reducible refine Below.alloc ?_ ?_ _) | (with_reducible refine Below.setCell ?_ ?_ _) | (with_reducible refine below_drewN ?_ _) | (with_reducible refine Below.drew ?_) | (with_reducible exact Nat.le_refl _) | omega | (simp; done) | ( (try simp); omega)))).mono (Nat.le_succ _))).mono ?_
  rintro e w2 ⟨rfl, hb2⟩
  rw [F2.out]
  obtain ⟨hc2, -⟩ := bcell hb2
  have q1 : w2.cell? ⟨w1.heap.size, 1, none⟩ = some (.int .i64 7) := (hc2 _ _ (by simp)).trans (by simp [go_sem])
  have hz1 : w1.heap.size < w2.heap.size := by have := hb2.size; simp at this; omega
  have hA2 := Lib.hid ((hA1.out.below (by have hs0 := Below.size hb2; repeat' (first | (with_reducible refine below_call hb2 ?_ ?_) | (with_reducible exact Below.refl _ _) | (with_reducible refine Below.alloc ?_ ?_ _) | (with_reducible refine Below.setCell ?_ ?_ _) | (with_reducible refine below_drewN ?_ _) | (with_reducible refine Below.drew ?_) | (with_reducible exact Nat.le_refl _) | omega | (simp; done) | ((try simp at hs0);  (try simp); omega)))).mono (Nat.le_of_lt hz1) : RowsAt w2 w2.heap.size 5 isCover (some ⟨w.heap.size, 0, none⟩) exCovers)
  have hb2' : Below w.heap.size w w2 := (by have hs0 := Below.size Hb1.out; have hs1 := Below.size hb2; repeat' (first | (with_reducible exact Hb1.out) | (with_reducible refine below_call hb2 ?_ ?_) | (with_reducible exact Below.refl _ _) | (with_reducible refine Below.alloc ?_ ?_ _) | (with_reducible refine Below.setCell ?_ ?_ _) | (with_reducible refine below_drewN ?_ _) | (with_reducible refine Below.drew ?_) | (with_reducible exact Nat.le_refl _) | omega | (simp; done) | ((try simp at hs0); (try simp at hs1);  (try simp); omega)))
  have Hb2 := Lib.hid hb2'
  clear hb2 hb2' hc2
  go_wp2_with fail
  refine (covers_any _ 2 2 exCovers _ rfl (by decide) (by simpa using (hA2.out.below (by repeat' (first | (with_reducible exact Below.refl _ _) | (with_reducible refine Below.alloc ?_ ?_ _) | (with_reducible refine Below.setCell ?_ ?_ _) | (with_reducible refine below_drewN ?_ _) | (with_reducible refine Below.drew ?_) | (with_reducible exact Nat.le_refl _) | omega | (simp; done) | ( (try simp); omega)))).mono (Nat.le_succ _))).mono ?_
  rintro e w3 ⟨rfl, hb3⟩
  rw [F3.out]
  have hA3 := Lib.hid ((hA2.out.below (by have hs0 := Below.size hb3; repeat' (first | (with_reducible refine below_call hb3 ?_ ?_) | (with_reducible exact Below.refl _ _) | (with_reducible refine Below.alloc ?_ ?_ _) | (with_reducible refine Below.setCell ?_ ?_ _) | (with_reducible refine below_drewN ?_ _) | (with_reducible refine Below.drew ?_) | (with_reducible exact Nat.le_refl _) | omega | (simp; done) | ((try simp at hs0);  (try simp); omega)))).mono (by have := hb3.size; simp at this; omega) : RowsAt w3 w3.heap.size 5 isCover (some ⟨w.heap.size, 0, none⟩) exCovers)
  go_wp2_with fail
  refine (termsRight_any 1 366 0 1 0 0 _ 2 2 exCovers _ rfl (by decide) hA3.out).mono ?_
  rintro e w4 ⟨rfl, hb4⟩
  rw [F4.out]
  go_wp2
  go_ret
  exact ⟨rfl, (by have hs0 := Below.size Hb2.out; have hs1 := Below.size hb3; have hs2 := Below.size hb4; repeat' (first | (with_reducible exact Hb2.out) | (with_reducible refine below_call hb3 ?_ ?_) | (with_reducible refine below_call hb4 ?_ ?_) | (with_reducible exact Below.refl _ _) | (with_reducible refine Below.alloc ?_ ?_ _) | (with_reducible refine Below.setCell ?_ ?_ _) | (with_reducible refine below_drewN ?_ _) | (with_reducible refine Below.drew ?_) | (with_reducible exact Nat.le_refl _) | omega | (simp; done) | ((try simp at hs0); (try simp at hs1); (try simp at hs2);  (try simp); omega)))⟩

end Go.Proofs.Ythmjjogmgjagmaa
