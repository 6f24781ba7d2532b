/- Contracts: terms.Find. -/
import Derived.Test.YthmjjogmgjagmaaC4
namespace Go.Proofs.Ythmjjogmgjagmaa
open Go.RowKit

def findCover : List Cover → Int → Cover × Bool
  | [], _ => (⟨0, 0, 0, 0, 0⟩, false)
  | c :: r, p => if c.peril == p then (c, true) else findCover r p
def Cover.val (c : Cover) : Value := .agg #[.int .i64 c.peril, .int .i64 c.limit, .int .i64 c.agg, .int .i64 c.ded, .int .i64 c.share]
def foundVal (x : Cover × Bool) : Value := .tuple #[x.1.val, .bool x.2]

set_option maxHeartbeats 400000 in
theorem find_any (A : Option Addr) (n cap : Nat) (q : Int) (l : List Cover) (w : World) (hn : n = l.length) (hl : n ≤ maxLen) (hA : RowsAt w w.heap.size 5 isCover A l) :
    Calls Try.prog 9 #[.slice A n cap, .int .i64 q] w fun e w' => e = .returned (foundVal (findCover l q)) ∧ Below w.heap.size w w' := by
  unfold maxLen at hl
  have HA := Lib.hid hA
  clear hA
  have Hn := Lib.hid hn
  clear hn
  go_enter Try.func9, Try.ntmps9
  go_wp2
  obtain ⟨W0, hW0⟩ : ∃ W0, W0 = w.alloc (Obj.cells #[Value.int IntKind.i64 0, Value.int IntKind.i64 0, Value.int IntKind.i64 0, Value.int IntKind.i64 0, Value.int IntKind.i64 0] 31) := ⟨_, rfl⟩
  rw [← hW0]
  have HW0 := Lib.hid hW0
  have hz0 : W0.heap.size = w.heap.size + 1 := by rw [hW0]; simp
  have hB0 : Below w.heap.size w W0 := by rw [hW0]; exact (Below.refl _ _).alloc (Nat.le_refl _) _
  have HB0 := Lib.hid hB0
  clear hW0 hB0
  go_loopw [10] (fun i wr => ∃ (k : Nat), k ≤ n ∧ i = .int .i64 k ∧ findCover l q = findCover (l.drop k) q ∧ Below W0.heap.size W0 wr) (fun i _ => n - (intOf i).toNat)
  case atStart => exact ⟨0, by omega, rfl, rfl, Below.refl _ _⟩
  case round =>
    obtain ⟨k, hk, rfl, hs, hwr⟩ := hrel
    have Hs := Lib.hid hs
    clear hs
    have hc0 : ∀ j, j < 5 → wr.cell? ⟨w.heap.size, j, none⟩ = some (.int .i64 0) := by
      intro j hj
      rw [hwr.cell (by simp; omega), HW0.out]
      rcases (by omega : j = 0 ∨ j = 1 ∨ j = 2 ∨ j = 3 ∨ j = 4) with rfl | rfl | rfl | rfl | rfl <;> simp [go_sem]
    have r0 := hc0 0 (by omega)
    have r1 := hc0 1 (by omega)
    have r2 := hc0 2 (by omega)
    have r3 := hc0 3 (by omega)
    have r4 := hc0 4 (by omega)
    have hfr : ∀ j, wr.frozen? ⟨w.heap.size, j, none⟩ = false := by
      intro j
      rw [hwr.frozen (by simp; omega), HW0.out]
      simp [go_sem]
    have hz1 := hwr.size
    rw [hz0] at hz1
    have hBw : Below w.heap.size w wr := HB0.out.trans (hwr.mono (by omega))
    have HBw := Lib.hid hBw
    have Hwr := Lib.hid hwr
    have hz2 : w.heap.size < wr.heap.size := by omega
    clear hc0 hwr hz1
    by_cases hlt : k < n
    · have hln := Hn.out
      obtain ⟨b, off, rfl, hb, hc⟩ := covers_at (HA.out.below hBw) (by omega)
      obtain ⟨c, hx⟩ : ∃ c, l[k]? = some c := ⟨_, List.getElem?_eq_getElem (by omega)⟩
      obtain ⟨-, c0, c1, c2, c3, c4⟩ := hc k c hx
      have HD := Lib.hid (drop_get hx)
      clear hc hx hln hBw
      obtain ⟨p, li, ag, d, sh⟩ := c
      simp only at c0 c1 c2 c3 c4
      have hb' : b < wr.heap.size := by omega
      go_wp2
      · rename_i heq
        have e : findCover l q = (⟨p, li, ag, d, sh⟩, true) := by
          rw [Hs.out, HD.out]
          simp only [findCover, heq, if_true]
        refine bodyPost_ret (v := .tuple #[.agg #[.int .i64 p, .int .i64 li, .int .i64 ag, .int .i64 d, .int .i64 sh], .bool true]) ?_ rfl ⟨?_, ?_⟩
        · simp [results, Try.results9, go_sem, r0, r1, r2, r3, r4, hfr, hz2]
        · rw [e]; rfl
        · (repeat' (first | (with_reducible exact HBw.out) | (with_reducible refine Below.alloc ?_ ?_ _) | (with_reducible refine Below.setCell ?_ ?_ _) | (with_reducible exact Nat.le_refl _) | (simp; omega)))
      · rename_i hne
        go_roundw
        case rel =>
          refine ⟨k + 1, by omega, by go_num, ?_, Hwr.out.alloc Hwr.out.size _⟩
          rw [Hs.out, HD.out]
          simp only [findCover, hne]
          rfl
        case measure => simp [intOf]; omega
    · have hkn : k = n := by omega
      have HE : Hid (findCover l q = (⟨0, 0, 0, 0, 0⟩, false)) := by
        have h := Hs.out
        rw [hkn, Hn.out, List.drop_length] at h
        exact h
      clear Hs hkn hBw
      go_wp2
      refine bodyPost_ret (v := .tuple #[.agg #[.int .i64 0, .int .i64 0, .int .i64 0, .int .i64 0, .int .i64 0], .bool false]) ?_ rfl ⟨?_, ?_⟩
      · simp [results, Try.results9, go_sem, r0, r1, r2, r3, r4, hfr]
      · rw [HE.out]; rfl
      · (repeat' (first | (with_reducible exact HBw.out) | (with_reducible refine Below.alloc ?_ ?_ _) | (with_reducible refine Below.setCell ?_ ?_ _) | (with_reducible exact Nat.le_refl _) | (simp; omega)))

end Go.Proofs.Ythmjjogmgjagmaa
