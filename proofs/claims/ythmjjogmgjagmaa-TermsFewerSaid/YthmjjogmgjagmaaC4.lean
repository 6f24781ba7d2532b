/- Contracts: terms.Covers, terms.Find. -/
import Derived.Test.YthmjjogmgjagmaaC3
namespace Go.Proofs.Ythmjjogmgjagmaa
open Go.RowKit

def Cover.right (c : Cover) : Bool := coverRight c.peril c.limit c.agg c.ded c.share
def coversFrom : Int → List Cover → Bool
  | _, [] => true
  | last, c :: r => decide (last < c.peril) && c.right && coversFrom c.peril r
def coversRight (l : List Cover) : Bool := coversFrom (-1) l && decide (1 ≤ l.length) && decide (l.length ≤ 8)

theorem drop_get {α : Type} {l : List α} {k : Nat} {c : α} (h : l[k]? = some c) : l.drop k = c :: l.drop (k + 1) := by
  obtain ⟨hk, rfl⟩ := List.getElem?_eq_some_iff.1 h
  exact List.drop_eq_getElem_cons hk

set_option maxHeartbeats 400000 in
theorem covers_any (A : Option Addr) (n cap : Nat) (l : List Cover) (w : World) (hn : n = l.length) (hl : n ≤ maxLen) (hA : RowsAt w w.heap.size 5 isCover A l) :
    Calls Try.prog 11 #[.slice A n cap] w fun e w' => e = .returned (.bool (coversRight l)) ∧ Below w.heap.size w w' := by
  unfold maxLen at hl
  have HA := Lib.hid hA
  clear hA
  have Hn := Lib.hid hn
  clear hn
  go_enter Try.func11, Try.ntmps11
  go_wp2
  go_loopw [3, 8] (fun last i wr => ∃ (k : Nat) (z : Int), k ≤ n ∧ i = .int .i64 k ∧ last = .int .i64 z ∧ coversFrom (-1) l = coversFrom z (l.drop k) ∧ Below w.heap.size w wr) (fun _ i _ => n - (intOf i).toNat)
  case atStart => exact ⟨0, -1, by omega, rfl, rfl, rfl, Below.refl _ _⟩
  case round =>
    obtain ⟨k, z, hk, rfl, rfl, hs, hwr⟩ := hrel
    have Hs := Lib.hid hs
    clear hs
    by_cases hlt : k < n
    · have hln := Hn.out
      obtain ⟨b, off, rfl, hb, hc⟩ := covers_at (HA.out.below hwr) (by omega)
      obtain ⟨c, hx⟩ : ∃ c, l[k]? = some c := ⟨_, List.getElem?_eq_getElem (by omega)⟩
      obtain ⟨hw, c0, c1, c2, c3, c4⟩ := hc k c hx
      have HD := Lib.hid (drop_get hx)
      clear hc hx hln
      obtain ⟨p, li, ag, d, sh⟩ := c
      simp only at c0 c1 c2 c3 c4
      have hb' : b < wr.heap.size := Nat.lt_of_lt_of_le hb hwr.size
      have Hwr := Lib.hid hwr
      have Hw := Lib.hid hw
      clear hw hwr
      go_wp2_with (go_at_call 15; refine (coverRight_any _ _ _ _ _ Hw.out.2.1 Hw.out.2.2.1 _).mono ?_; rintro e w1 ⟨rfl, hb1⟩; obtain ⟨hc1, hf1⟩ := bcell hb1)
      · rename_i hor
        go_ret
        refine ⟨ret_bool (Eq.symm ?_), ?_⟩
        · have hh : coversFrom z (l.drop k) = false := by
            rw [HD.out]
            rcases hor with h | h
            · omega
            · simp at h
              simp [coversFrom, Cover.right, h]
          simp [coversRight, Hs.out, hh]
        · exact (Hwr.out.alloc Hwr.out.size _).trans (hb1.mono (by have := Hwr.out.size; simp; omega))
      · rename_i hand
        go_roundw
        case rel =>
          refine ⟨k + 1, p, by omega, by go_num, rfl, ?_, (Hwr.out.alloc Hwr.out.size _).trans (hb1.mono (by have := Hwr.out.size; simp; omega))⟩
          rw [Hs.out, HD.out]
          simp at hand
          simp [coversFrom, Cover.right, hand]
        case measure => simp [intOf]; omega
      · go_ret
        refine ⟨ret_bool (Eq.symm ?_), Hwr.out.alloc Hwr.out.size _⟩
        have hh : coversFrom z (l.drop k) = false := by
          rw [HD.out]
          have h : ¬ z < p := by omega
          simp [coversFrom, h]
        simp [coversRight, Hs.out, hh]
    · have Hwr := Lib.hid hwr
      clear hwr
      have hkn : k = n := by omega
      have HE : Hid (coversFrom (-1) l = true) := by
        have h := Hs.out
        rw [hkn, Hn.out, List.drop_length] at h
        exact h
      clear Hs hkn
      go_wp2
      all_goals go_ret
      all_goals
        refine ⟨ret_bool ?_, Hwr.out⟩
        have h1 := HE.out
        have h2 := Hn.out
        rw [Bool.eq_iff_iff]
        simp [coversRight, h1]
        omega

end Go.Proofs.Ythmjjogmgjagmaa
