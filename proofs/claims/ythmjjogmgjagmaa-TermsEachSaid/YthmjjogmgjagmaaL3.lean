/- The law TermsEach. -/
import Derived.Test.YthmjjogmgjagmaaP1
namespace Go.Proofs.Ythmjjogmgjagmaa
open Go.RowKit

set_option maxHeartbeats 2000000 in
theorem termsEach_any (A : Option Addr) (n cap : Nat) (l : List Cover) (w : World) (hn : n = l.length) (hl : n ≤ maxLen) (hA : RowsAt w w.heap.size 5 isCover A l) :
    Calls Try.prog 4 #[.slice A n cap] w fun e w' => e = .returned (.bool true) ∧ Below w.heap.size w w' := by
  have HA := Lib.hid hA
  have Hn := Lib.hid hn
  have Hl := Lib.hid hl
  have HW := Lib.hid (covers_wf hA)
  clear hA hn hl
  generalize hT : coversRight l = T
  have HT := Lib.hid hT
  clear hT
  go_enter Try.func4, Try.ntmps4
  go_wp2_with fail
  refine (awake_any _).mono ?_
  rintro e w1 ⟨rfl, hb1⟩
  have hA1 := Lib.hid ((HA.out.below hb1).mono hb1.size)
  go_wp2_with fail
  · refine (covers_any A n cap l _ Hn.out Hl.out hA1.out).mono ?_
    rintro e w2 ⟨rfl, hb2⟩
    rw [HT.out]
    have Hb2' : Below w.heap.size w w2 := (by have hs0 := Below.size hb1; have hs1 := Below.size hb2; repeat' (first | (with_reducible exact hb1) | (with_reducible refine below_call hb2 ?_ ?_) | (with_reducible exact Below.refl _ _) | (with_reducible refine Below.alloc ?_ ?_ _) | (with_reducible refine Below.setCell ?_ ?_ _) | (with_reducible refine below_drewN ?_ _) | (with_reducible refine Below.drew ?_) | (with_reducible exact Nat.le_refl _) | omega | (simp; done) | ((try simp at hs0); (try simp at hs1);  (try simp); omega)))
    have Hb2 := Lib.hid Hb2'
    clear hb1 hb2 Hb2'
    cases T
    · go_wp2
      go_ret
      exact ⟨rfl, Hb2.out⟩
    · have hT := HT.out
      simp only [coversRight, Bool.and_eq_true, decide_eq_true_eq] at hT
      obtain ⟨⟨hC, hL1⟩, hL8⟩ := hT
      have HC := Lib.hid hC
      rw [← Hn.out] at hL1 hL8
      clear hC
      go_wp2
      go_loopw [4, 5] (fun f q wr => ∃ (k : Nat) (p : Int), -1 ≤ p ∧ p ≤ 9 ∧ q = .int .i64 p ∧ f = .int .i64 k ∧ k = under l p ∧ k ≤ 8 ∧ Below w.heap.size w wr) (fun _ q _ => (9 - intOf q).toNat)
      case atStart => exact ⟨0, -1, by omega, by omega, rfl, rfl, (under_none HC.out (by omega)).symm, by omega, Hb2.out⟩
      case round =>
        obtain ⟨k, p, hp0, hp9, rfl, rfl, hk, hk8, hwr⟩ := hrel
        have Hk := Lib.hid hk
        have Hwr := Lib.hid hwr
        have hAr := Lib.hid ((HA.out.below hwr).mono hwr.size)
        clear hk hwr
        by_cases hlt : p ≤ 8
        · generalize hF : findCover l p = F
          obtain ⟨⟨x0, x1, x2, x3, x4⟩, r⟩ := F
          have HF := Lib.hid hF
          clear hF
          go_wp2_with fail
          refine (find_any A n cap p l _ Hn.out Hl.out hAr.out).mono ?_
          rintro e w3 ⟨rfl, hb3⟩
          rw [HF.out]
          simp only [foundVal, Cover.val]
          have Hb3' : Below w.heap.size w w3 := (by have hs0 := Below.size Hwr.out; have hs1 := Below.size hb3; repeat' (first | (with_reducible exact Hwr.out) | (with_reducible refine below_call hb3 ?_ ?_) | (with_reducible exact Below.refl _ _) | (with_reducible refine Below.alloc ?_ ?_ _) | (with_reducible refine Below.setCell ?_ ?_ _) | (with_reducible refine below_drewN ?_ _) | (with_reducible refine Below.drew ?_) | (with_reducible exact Nat.le_refl _) | omega | (simp; done) | ((try simp at hs0); (try simp at hs1);  (try simp); omega)))
          have Hb3 := Lib.hid Hb3'
          clear hb3 Hb3'
          cases r
          · go_wp2
            go_roundw
            case rel =>
              refine ⟨k, p + 1, by omega, by omega, rfl, rfl, ?_, hk8, (by have hs0 := Below.size Hb3.out; repeat' (first | (with_reducible exact Hb3.out) | (with_reducible exact Below.refl _ _) | (with_reducible refine Below.alloc ?_ ?_ _) | (with_reducible refine Below.setCell ?_ ?_ _) | (with_reducible refine below_drewN ?_ _) | (with_reducible refine Below.drew ?_) | (with_reducible exact Nat.le_refl _) | omega | (simp; done) | ((try simp at hs0);  (try simp); omega)))⟩
              rw [under_succ HC.out, HF.out, Hk.out]
              rfl
            case measure => simp [intOf]; omega
          · have hm := find_true HF.out
            have hx : x0 = p := hm.2
            have hR := (coversFrom_mem HC.out _ hm.1).2
            have hpp := right_peril hR
            have hwf := HW.out _ hm.1
            have hu : Hid (under l (p + 1) = k + 1) := by
              show under l (p + 1) = k + 1
              rw [under_succ HC.out, HF.out, Hk.out]; rfl
            have hul : under l (p + 1) ≤ n := by rw [Hn.out]; exact under_le _ _
            rw [hu.out] at hul
            simp only at hpp
            rw [hx] at hpp
            obtain ⟨hpp0, hpp1⟩ := hpp
            have Hx := Lib.hid hx
            simp only [Cover.right] at hR
            have HR := Lib.hid hR
            have Hwf := Lib.hid hwf
            clear hm hR hwf
            subst hx
            have hne : (x0 != x0) = false := by simp
            go_wp2_with fail
            refine (coverRight_any _ _ _ _ _ Hwf.out.2.1 Hwf.out.2.2.1 _).mono ?_
            rintro e w4 ⟨rfl, hb4⟩
            rw [HR.out]
            have Hb4' : Below w.heap.size w w4 := (by have hs0 := Below.size Hb3.out; have hs1 := Below.size hb4; repeat' (first | (with_reducible exact Hb3.out) | (with_reducible refine below_call hb4 ?_ ?_) | (with_reducible exact Below.refl _ _) | (with_reducible refine Below.alloc ?_ ?_ _) | (with_reducible refine Below.setCell ?_ ?_ _) | (with_reducible refine below_drewN ?_ _) | (with_reducible refine Below.drew ?_) | (with_reducible exact Nat.le_refl _) | omega | (simp; done) | ((try simp at hs0); (try simp at hs1);  (try simp); omega)))
            have Hb4 := Lib.hid Hb4'
            clear hb4 Hb4'
            go_wp2
            go_roundw
            case rel =>
              exact ⟨k + 1, x0 + 1, by omega, by omega, rfl, by go_num, hu.out.symm, by omega, Hb4.out⟩
            case measure => simp [intOf]; omega
        · have hp : p = 9 := by omega
          subst hp
          have hkn : k = n := by
            rw [Hk.out, Hn.out]
            exact under_all fun c hc => by have := right_peril (coversFrom_mem HC.out c hc).2; omega
          subst hkn
          go_wp2
          go_loopw [8] (fun q W => ∃ (i : Nat), i ≤ k ∧ q = .int .i64 i ∧ Below w.heap.size w W) (fun q _ => k - (intOf q).toNat)
          case atStart => exact ⟨0, by omega, rfl, Hwr.out⟩
          case round =>
            obtain ⟨i, hi, rfl, hW⟩ := hrel
            have HWr := Lib.hid hW
            have hAW := Lib.hid ((HA.out.below hW).mono hW.size)
            clear hW
            by_cases hik : i < k
            · have hln := Hn.out
              obtain ⟨b, off, rfl, hb, hc⟩ := covers_at hAW.out (by omega)
              obtain ⟨c, hx⟩ : ∃ c, l[i]? = some c := ⟨_, List.getElem?_eq_getElem (by omega)⟩
              obtain ⟨-, c0, c1, c2, c3, c4⟩ := hc i c hx
              have HF := Lib.hid (find_rising HC.out c (List.mem_of_getElem? hx))
              clear hc hx hln
              obtain ⟨x0, x1, x2, x3, x4⟩ := c
              simp only at c0 c1 c2 c3 c4 HF
              go_wp2_with fail
              refine (find_any _ k cap x0 l _ Hn.out Hl.out hAW.out).mono ?_
              rintro e w3 ⟨rfl, hb3⟩
              rw [HF.out]
              simp only [foundVal, Cover.val]
              have Hb3' : Below w.heap.size w w3 := (by have hs0 := Below.size HWr.out; have hs1 := Below.size hb3; repeat' (first | (with_reducible exact HWr.out) | (with_reducible refine below_call hb3 ?_ ?_) | (with_reducible exact Below.refl _ _) | (with_reducible refine Below.alloc ?_ ?_ _) | (with_reducible refine Below.setCell ?_ ?_ _) | (with_reducible refine below_drewN ?_ _) | (with_reducible refine Below.drew ?_) | (with_reducible exact Nat.le_refl _) | omega | (simp; done) | ((try simp at hs0); (try simp at hs1);  (try simp); omega)))
              have Hb3 := Lib.hid Hb3'
              obtain ⟨hc3, -⟩ := bcell hb3
              replace c0 := (hc3 _ _ hb).trans c0
              replace c1 := (hc3 _ _ hb).trans c1
              replace c2 := (hc3 _ _ hb).trans c2
              replace c3 := (hc3 _ _ hb).trans c3
              replace c4 := (hc3 _ _ hb).trans c4
              have hbz := Nat.lt_of_lt_of_le hb hb3.size
              clear hb3 Hb3' hc3
              have hE := neqCover
              have hG := eqGuardCover
              have hi0 : (0 : Int) ≤ (i : Int) := by omega
              have hi1 : (i : Int) < (k : Int) := by omega
              go_wp2_with fail
              go_quiet (fail)
              go_wp2
              go_roundw
              case rel => exact ⟨i + 1, by omega, by go_num, (by have hs0 := Below.size Hb3.out; repeat' (first | (with_reducible exact Hb3.out) | (with_reducible exact Below.refl _ _) | (with_reducible refine Below.alloc ?_ ?_ _) | (with_reducible refine Below.setCell ?_ ?_ _) | (with_reducible refine below_drewN ?_ _) | (with_reducible refine Below.drew ?_) | (with_reducible exact Nat.le_refl _) | omega | (simp; done) | ((try simp at hs0);  (try simp); omega)))⟩
              case measure => simp [intOf]; omega
            · go_wp2
              all_goals
                go_ret
                refine ⟨ret_bool ?_, HWr.out⟩
                simp
                try omega
  · go_ret
    exact ⟨rfl, hb1⟩

end Go.Proofs.Ythmjjogmgjagmaa
