/- Contracts: bordereauref10. -/
import Derived.Test.YthmjjogmgjagmaaC8
namespace Go.Proofs.Ythmjjogmgjagmaa
open Go.RowKit

set_option maxHeartbeats 1000000 in
theorem refCovers_any (A : Option Addr) (n cap : Nat) (l : List Cover) (w : World) (hn : n = l.length) (hl : n ≤ maxLen) (hA : RowsAt w w.heap.size 5 isCover A l) :
    Calls Try.prog 12 #[.slice A n cap] w fun e w' => e = .returned (.bool (coversRight l)) ∧ Below w.heap.size w w' := by
  unfold maxLen at hl
  have HA := Lib.hid hA
  clear hA
  have Hn := Lib.hid hn
  by_cases hbad : n < 1 ∨ 8 < n
  · have HR : Hid (coversRight l = false) := by
      show coversRight l = false
      rw [Bool.eq_false_iff]
      simp [coversRight]
      omega
    clear hn
    go_enter Try.func12, Try.ntmps12
    go_wp2
    all_goals go_ret
    all_goals exact ⟨ret_bool HR.out.symm, Below.refl _ _⟩
  · have hn1 : 1 ≤ n := by omega
    have hn8 : n ≤ 8 := by omega
    clear hn hbad
    go_enter Try.func12, Try.ntmps12
    go_wp2
    go_loopw [3] (fun i wr => ∃ (k : Nat) (z : Int), k ≤ n ∧ i = .int .i64 k ∧ (k = 0 ∧ z = -1 ∨ 0 < k ∧ ∃ c, l[k-1]? = some c ∧ z = c.peril) ∧ coversFrom (-1) l = coversFrom z (l.drop k) ∧ Below w.heap.size w wr) (fun i _ => n - (intOf i).toNat)
    case atStart => exact ⟨0, -1, by omega, rfl, .inl ⟨rfl, rfl⟩, rfl, Below.refl _ _⟩
    case round =>
      obtain ⟨k, z, hk, rfl, hz, hs, hwr⟩ := hrel
      have Hs := Lib.hid hs
      have Hz := Lib.hid hz
      clear hs hz
      have Hwr := Lib.hid hwr
      by_cases hlt : k < n
      · have hln := Hn.out
        obtain ⟨b, off, rfl, hb, hc⟩ := covers_at (HA.out.below hwr) (by omega)
        obtain ⟨c, hx⟩ : ∃ c, l[k]? = some c := ⟨_, List.getElem?_eq_getElem (by omega)⟩
        obtain ⟨hw, c0, c1, c2, c3, c4⟩ := hc k c hx
        have HD := Lib.hid (drop_get hx)
        have HC := Lib.hid hc
        have Hx := Lib.hid hx
        clear hc hx hln
        obtain ⟨p, li, ag, d, sh⟩ := c
        simp only at c0 c1 c2 c3 c4
        have hb' : b < wr.heap.size := Nat.lt_of_lt_of_le hb hwr.size
        clear hw hwr
        go_wp2_with fail
        refine (ref08Right_any _ _ _ _ _ _).mono ?_
        rintro e w1 ⟨rfl, hb1⟩
        obtain ⟨hc1, hf1⟩ := bcell hb1
        cases hr : coverRight p li ag d sh
        · have HR : Hid (coversRight l = false) := by
            show coversRight l = false
            have hh : coversFrom z (l.drop k) = false := by rw [HD.out]; simp [coversFrom, Cover.right, hr]
            simp [coversRight, Hs.out, hh]
          clear hr
          go_wp2
          go_ret
          exact ⟨ret_bool HR.out.symm, (by have hs0 := Below.size Hwr.out; have hs1 := Below.size hb1; repeat' (first | (with_reducible exact Hwr.out) | (with_reducible refine below_call hb1 ?_ ?_) | (with_reducible exact Below.refl _ _) | (with_reducible refine Below.alloc ?_ ?_ _) | (with_reducible refine Below.setCell ?_ ?_ _) | (with_reducible refine below_drewN ?_ _) | (with_reducible refine Below.drew ?_) | (with_reducible exact Nat.le_refl _) | omega | (simp; done) | ((try simp at hs0); (try simp at hs1);  (try simp); omega)))⟩
        · have Hr := Lib.hid hr
          clear hr
          rcases Nat.eq_zero_or_pos k with rfl | hk0
          · have hp : 0 ≤ p := by have := Hr.out; simp [coverRight] at this; omega
            go_wp2
            go_roundw
            case rel =>
              refine ⟨1, p, by omega, by rfl, .inr ⟨by omega, _, Hx.out, rfl⟩, ?_, (by have hs0 := Below.size Hwr.out; have hs1 := Below.size hb1; repeat' (first | (with_reducible exact Hwr.out) | (with_reducible refine below_call hb1 ?_ ?_) | (with_reducible exact Below.refl _ _) | (with_reducible refine Below.alloc ?_ ?_ _) | (with_reducible refine Below.setCell ?_ ?_ _) | (with_reducible refine below_drewN ?_ _) | (with_reducible refine Below.drew ?_) | (with_reducible exact Nat.le_refl _) | omega | (simp; done) | ((try simp at hs0); (try simp at hs1);  (try simp); omega)))⟩
              rw [Hs.out, HD.out]
              have hz1 : z = -1 := by
                rcases Hz.out with ⟨-, h⟩ | ⟨h, -⟩
                · exact h
                · omega
              simp [coversFrom, Cover.right, Hr.out]
              omega
            case measure => simp [intOf]; omega
          · obtain ⟨j, rfl⟩ : ∃ j, k = j + 1 := ⟨k - 1, by omega⟩
            obtain ⟨y, hy, hyz⟩ : ∃ c, l[j]? = some c ∧ z = c.peril := by
              rcases Hz.out with ⟨h, -⟩ | ⟨-, c, h, h'⟩
              · omega
              · exact ⟨c, h, h'⟩
            obtain ⟨-, d0, -⟩ := HC.out j y hy
            rw [← hyz] at d0
            clear hy hyz
            have E0 : w1.cell? _ = _ := (hc1 _ _ hb').trans c0
            have E1 : w1.cell? _ = _ := (hc1 _ _ hb').trans d0
            have hbz : b < w1.heap.size := Nat.lt_of_lt_of_le hb' hb1.size
            clear hc1 hf1
            have ej : ((j + 1 : Nat) : Int) = (j : Int) + 1 := by omega
            rw [ej]
            clear ej
            go_wp2
            go_quiet (fail)
            go_wp2
            · rename_i hpz
              go_ret
              have HR : Hid (coversRight l = false) := by
                show coversRight l = false
                have hh : coversFrom z (l.drop (j + 1)) = false := by
                  rw [HD.out]
                  have : ¬ z < p := by omega
                  simp [coversFrom, this]
                simp [coversRight, Hs.out, hh]
              exact ⟨ret_bool HR.out.symm, (by have hs0 := Below.size Hwr.out; have hs1 := Below.size hb1; repeat' (first | (with_reducible exact Hwr.out) | (with_reducible refine below_call hb1 ?_ ?_) | (with_reducible exact Below.refl _ _) | (with_reducible refine Below.alloc ?_ ?_ _) | (with_reducible refine Below.setCell ?_ ?_ _) | (with_reducible refine below_drewN ?_ _) | (with_reducible refine Below.drew ?_) | (with_reducible exact Nat.le_refl _) | omega | (simp; done) | ((try simp at hs0); (try simp at hs1);  (try simp); omega)))⟩
            · rename_i hpz
              go_roundw
              case rel =>
                refine ⟨j + 2, p, by omega, by go_num, .inr ⟨by omega, _, Hx.out, rfl⟩, ?_, (by have hs0 := Below.size Hwr.out; have hs1 := Below.size hb1; repeat' (first | (with_reducible exact Hwr.out) | (with_reducible refine below_call hb1 ?_ ?_) | (with_reducible exact Below.refl _ _) | (with_reducible refine Below.alloc ?_ ?_ _) | (with_reducible refine Below.setCell ?_ ?_ _) | (with_reducible refine below_drewN ?_ _) | (with_reducible refine Below.drew ?_) | (with_reducible exact Nat.le_refl _) | omega | (simp; done) | ((try simp at hs0); (try simp at hs1);  (try simp); omega)))⟩
                rw [Hs.out, HD.out]
                have : z < p := by omega
                simp [coversFrom, Cover.right, Hr.out, this]
              case measure => simp [intOf]; omega
      · have hkn : k = n := by omega
        have HE : Hid (coversRight l = true) := by
          show coversRight l = true
          have h := Hs.out
          rw [hkn, Hn.out, List.drop_length] at h
          have h2 := Hn.out
          simp [coversRight, h, coversFrom]
          omega
        clear Hs hkn hwr
        go_wp2
        go_ret
        exact ⟨ret_bool HE.out.symm, Hwr.out⟩

set_option maxHeartbeats 400000 in
theorem refFind_any (A : Option Addr) (n cap : Nat) (q : Int) (l : List Cover) (w : World) (hn : n = l.length) (hl : n ≤ maxLen) (hA : RowsAt w w.heap.size 5 isCover A l) :
    Calls Try.prog 10 #[.slice A n cap, .int .i64 q] w fun e w' => e = .returned (foundVal (findCover l q)) ∧ Below w.heap.size w w' := by
  unfold maxLen at hl
  have HA := Lib.hid hA
  clear hA
  have Hn := Lib.hid hn
  clear hn
  go_enter Try.func10, Try.ntmps10
  go_wp2
  go_loopw [6] (fun i wr => ∃ (k : Nat), k ≤ n ∧ i = .int .i64 k ∧ findCover l q = findCover (l.drop k) q ∧ wr = w.alloc (Obj.cells #[Value.int IntKind.i64 0, Value.int IntKind.i64 0, Value.int IntKind.i64 0, Value.int IntKind.i64 0, Value.int IntKind.i64 0] 31)) (fun i _ => n - (intOf i).toNat)
  case atStart => exact ⟨0, by omega, rfl, rfl, rfl⟩
  case round =>
    obtain ⟨k, hk, rfl, hs, rfl⟩ := hrel
    have Hs := Lib.hid hs
    clear hs
    by_cases hlt : k < n
    · have hln := Hn.out
      obtain ⟨b, off, rfl, hb, hc⟩ := covers_at HA.out (by omega)
      obtain ⟨c, hx⟩ : ∃ c, l[k]? = some c := ⟨_, List.getElem?_eq_getElem (by omega)⟩
      obtain ⟨-, c0, c1, c2, c3, c4⟩ := hc k c hx
      have HD := Lib.hid (drop_get hx)
      clear hc hx hln
      obtain ⟨p, li, ag, d, sh⟩ := c
      simp only at c0 c1 c2 c3 c4
      go_wp2
      · rename_i heq
        have e : findCover l q = (⟨p, li, ag, d, sh⟩, true) := by
          rw [Hs.out, HD.out]
          simp only [findCover, heq, if_true]
        refine bodyPost_ret (v := .tuple #[.agg #[.int .i64 p, .int .i64 li, .int .i64 ag, .int .i64 d, .int .i64 sh], .bool true]) ?_ rfl ⟨?_, ?_⟩
        · simp [results, Try.results10, go_sem]
        · rw [e]; rfl
        · exact (by repeat' (first | (with_reducible exact Below.refl _ _) | (with_reducible refine Below.alloc ?_ ?_ _) | (with_reducible refine Below.setCell ?_ ?_ _) | (with_reducible refine below_drewN ?_ _) | (with_reducible refine Below.drew ?_) | (with_reducible exact Nat.le_refl _) | omega | (simp; done) | ( (try simp); omega)))
      · rename_i hne
        go_roundw
        case rel =>
          refine ⟨k + 1, by omega, by go_num, ?_, trivial⟩
          rw [Hs.out, HD.out]
          simp only [findCover, hne]
          rfl
        case measure => simp [intOf]; omega
    · have hkn : k = n := by omega
      have HE : Hid (findCover l q = (⟨0, 0, 0, 0, 0⟩, false)) := by
        have h := Hs.out
        rw [hkn, Hn.out, List.drop_length] at h
        exact h
      clear Hs hkn
      go_wp2
      refine bodyPost_ret (v := .tuple #[.agg #[.int .i64 0, .int .i64 0, .int .i64 0, .int .i64 0, .int .i64 0], .bool false]) ?_ rfl ⟨?_, ?_⟩
      · simp [results, Try.results10, go_sem]
      · rw [HE.out]; rfl
      · exact (by repeat' (first | (with_reducible exact Below.refl _ _) | (with_reducible refine Below.alloc ?_ ?_ _) | (with_reducible refine Below.setCell ?_ ?_ _) | (with_reducible refine below_drewN ?_ _) | (with_reducible refine Below.drew ?_) | (with_reducible exact Nat.le_refl _) | omega | (simp; done) | ( (try simp); omega)))

end Go.Proofs.Ythmjjogmgjagmaa
