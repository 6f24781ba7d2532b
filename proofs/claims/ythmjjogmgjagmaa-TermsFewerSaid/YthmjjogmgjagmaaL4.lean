/- The law TermsFewer. -/
import Derived.Test.YthmjjogmgjagmaaP2
import Derived.Test.YthmjjogmgjagmaaA
namespace Go.Proofs.Ythmjjogmgjagmaa
open Go.RowKit

theorem infoCover : (Try.prog.info? 31).map (fun i => (i.zero, i.size, i.bytes)) = some (some (.agg #[.int .i64 0, .int .i64 0, .int .i64 0, .int .i64 0, .int .i64 0]), 5, 40) := by kernel_rfl

theorem cells_one (l : List Cover) : ∀ u, u ∈ l.flatMap Cover.cells → u.oneCell' = true := by
  intro u hu
  obtain ⟨c, -, hc⟩ := List.mem_flatMap.1 hu
  simp only [Cover.cells, List.mem_cons, List.not_mem_nil, or_false] at hc
  rcases hc with rfl | rfl | rfl | rfl | rfl <;> rfl

theorem covers_src {W w' : World} {A : Option Addr} {l : List Cover} {m : Nat} (h : RowsAt W W.heap.size 5 isCover A l) (hm : l.length = m) (hb : Below W.heap.size W w') : SrcAt w' 5 A m (l.flatMap Cover.cells) := by
  have := RowsAt.src (R := isCover) (enc := Cover.cells) (fun _ _ h => h.1) (fun _ => rfl) (h.below hb)
  rwa [hm] at this

theorem el_src {w : World} {g : Nat} {c : Cover} (hc : Box w g c.cells) : SrcAt w 5 (some ⟨g, 0, none⟩) 1 c.cells := by
  refine ⟨rfl, ?_, ?_⟩
  · intro h
    cases h
  rintro ad hA j u hu
  injection hA with hA
  subst hA
  rw [addr_add, Nat.zero_add]
  exact (hc.2 j u hu).1
theorem Box.grown {w w' : World} {g : Nat} {cs : List Value} {row : Option Nat} (h : Box w g cs) (hg : w.grownBy w' row) (hne : some g ≠ row) : Box w' g cs := by
  have e := hg.block g h.1 hne
  refine ⟨Nat.lt_of_lt_of_le h.1 hg.size, fun j v hj => ?_⟩
  obtain ⟨h1, h2⟩ := h.2 j v hj
  exact ⟨(World.cell?_of_block (a := ⟨g, j, none⟩) e).trans h1, (World.frozen?_of_block (a := ⟨g, j, none⟩) e).trans h2⟩

set_option maxHeartbeats 2000000 in
theorem termsFewer_any (A : Option Addr) (n cap : Nat) (l : List Cover) (q : Int) (w : World) (hn : n = l.length) (hl : n ≤ maxLen) (hA : RowsAt w w.heap.size 5 isCover A l) (hq0 : 0 ≤ q) (hq1 : q ≤ 255) (hcap : n ≤ cap) (hcapm : cap ≤ maxLen) :
    Calls Try.prog 5 #[.slice A n cap, .int .u8 q] w fun e w' => e = .returned (.bool true) ∧ Below w.heap.size w w' := by
  have HA := Lib.hid hA
  have Hn := Lib.hid hn
  have Hl := Lib.hid hl
  have HW := Lib.hid (covers_wf hA)
  clear hA hn hl
  generalize hT : coversRight l = T
  have HT := Lib.hid hT
  clear hT
  go_enter Try.func5, Try.ntmps5
  go_wp2_with fail
  refine (awake_any _).mono ?_
  rintro e w1 ⟨rfl, hb1⟩
  have hA1 := Lib.hid ((HA.out.below hb1).mono hb1.size)
  go_wp2_with fail
  · refine (covers_any A n cap l _ Hn.out Hl.out hA1.out).mono ?_
    rintro e w2 ⟨rfl, hb2⟩
    rw [HT.out]
    have Hb2' : Below w.heap.size w w2 := (by have hs0 := Below.size hb1; have hs1 := Below.size hb2; repeat' (first | (with_reducible exact hb1) | (with_reducible refine below_call hb2 ?_ ?_) | (with_reducible exact Below.refl _ _) | (with_reducible refine Below.alloc ?_ ?_ _) | (with_reducible refine Below.setCell ?_ ?_ _) | (with_reducible refine below_drewN ?_ _) | (with_reducible refine Below.drew ?_) | (with_reducible exact Nat.le_refl _) | omega | (simp; done) | ((try simp at hs0); (try simp at hs1);  (try simp); omega)))
    have Hb2 := Lib.hid Hb2'
    have hA2 := Lib.hid ((HA.out.below Hb2').mono Hb2'.size)
    clear hb1 hb2 Hb2'
    cases T
    · go_wp2
      go_ret
      exact ⟨rfl, Hb2.out⟩
    · have hT := HT.out
      simp only [coversRight, Bool.and_eq_true, decide_eq_true_eq] at hT
      obtain ⟨⟨hC, hL1⟩, hL8⟩ := hT
      have HC := Lib.hid hC
      rw [← Hn.out] at hL1 hL8
      clear hC
      have hne : ((n : Int) == 0) = false := by simp; omega
      go_wp2
      obtain ⟨k, hk⟩ : ∃ k : Nat, q % (n : Int) = k := ⟨(q % (n : Int)).toNat, by have := Int.emod_nonneg q (b := (n : Int)) (by omega); omega⟩
      have hkn : k < n := by have := Int.emod_lt_of_pos q (b := (n : Int)) (by omega); omega
      rw [hk]
      clear hk
      obtain ⟨i0, hi0, hz0, hz1, hz2⟩ := info_parts infoCover
      unfold maxLen at hcapm
      have hln := Hn.out
      have hs1 : ∀ W, (Instr.slice 26 (.slice A n cap) none (some (.int .i64 (k : Int))) none).run Try.prog W = .ok (.slice A k cap) W := fun W => run_slice_hi 5 Try.underlying26 Try.sizeOf31 A n cap k (by omega) W
      have hs2 : ∀ W, (Instr.slice 26 (.slice A n cap) (some (.int .i64 ((k : Int) + 1))) none none).run Try.prog W = .ok (.slice (cutAddr A cap (k + 1) 5) (n - (k + 1)) (cap - (k + 1))) W := fun W =>
        run_slice_lo 5 Try.underlying26 Try.sizeOf31 A n cap (k + 1) (by omega) W
      have hs3 : ∀ W, (Instr.slice 26 (.slice A n cap) (some (.int .i64 (k : Int))) none none).run Try.prog W = .ok (.slice (cutAddr A cap k 5) (n - k) (cap - k)) W := fun W =>
        run_slice_lo 5 Try.underlying26 Try.sizeOf31 A n cap k (by omega) W
      have ht : (l.take k).length = k := by simp; omega
      have hd : (l.drop (k + 1)).length = n - (k + 1) := by simp; omega
      have hd' : (l.drop k).length = n - k := by simp; omega
      have Ht := Lib.hid ht
      have Hd := Lib.hid hd
      have Hd' := Lib.hid hd'
      clear ht hd hd' hln
      have hwk : IntKind.i64.wrap ((k : Int) + 1) = (k : Int) + 1 := IntWalk.i64_in _ (by omega)
      go_region_held3 (fun w' => True) (first | trivial)
        (first
          | ((refine step_append_src _ rfl _ _ _ (by rfl) w2.heap.size 31 i0 _ 5 40 Try.underlying26 hi0 hz0 hz1 hz2 rfl (by decide) _ 0 [] (by rfl) (World.ownsRow_made _ _ 0 (Nat.le_refl _) (Nat.zero_le _) rfl) A k cap ((l.take k).flatMap Cover.cells) (by rfl)
                (covers_src (hA2.out.take k) Ht.out (by exact (by repeat' (first | (with_reducible exact Below.refl _ _) | (with_reducible refine Below.alloc ?_ ?_ _) | (with_reducible refine Below.setCell ?_ ?_ _) | (with_reducible refine below_drewN ?_ _) | (with_reducible refine Below.drew ?_) | (with_reducible exact Nat.le_refl _) | omega | (simp; done) | ( (try simp); omega))))) (fun u hu => cells_one _ u hu) (by simp [maxLen]; omega) (by omega) (by simp) ?_; intro v1 w3 hown1 hgrow1 hat1
              have hbel1 : Below w2.heap.size w2 w3 := below_grown (w := (w2.alloc (Obj.cells #[] 31)).drew) (base := w2.heap.size) (e := 31) (k := 5) (n := 0) (xs := []) (by repeat' (first | (with_reducible exact Below.refl _ _) | (with_reducible refine Below.alloc ?_ ?_ _) | (with_reducible refine Below.setCell ?_ ?_ _) | (with_reducible refine below_drewN ?_ _) | (with_reducible refine Below.drew ?_) | (with_reducible exact Nat.le_refl _) | omega | (simp; done) | ( (try simp); omega))) (World.ownsRow_made w2 #[] 0 (Nat.le_refl _) (Nat.zero_le _) rfl) hgrow1 (Nat.le_refl _) (by simp)))
          | ((refine step_append_src _ rfl _ _ _ (by rfl) w2.heap.size 31 i0 _ 5 40 Try.underlying26 hi0 hz0 hz1 hz2 rfl (by decide) v1 (0 + k) ([] ++ (l.take k).flatMap Cover.cells) (by rfl) hown1 (cutAddr A cap (k + 1) 5) (n - (k + 1)) (cap - (k + 1)) ((l.drop (k + 1)).flatMap Cover.cells) (by rfl)
                (covers_src (hA2.out.drop (by rw [← Hn.out]; exact hcap) (k + 1)) Hd.out hbel1) (fun u hu => cells_one _ u hu) (by simp [maxLen]; omega) (by omega) hbel1.size ?_; intro v2 w4 hown2 hgrow2 hat2)))
      have hbel2 : Below w2.heap.size w2 w4 := below_grown hbel1 hown1 hgrow2 (Nat.le_refl _) hbel1.size
      have hwf : ∀ c, c ∈ l → isCover c.cells c := fun c hc => ⟨rfl, HW.out c hc⟩
      have hown2' : w4.ownsRow w2.heap.size 31 5 v2 (n - 1) ((l.take k ++ l.drop (k + 1)).flatMap Cover.cells) := by
        have := hown2
        rw [show 0 + k + (n - (k + 1)) = n - 1 by omega] at this
        rw [List.flatMap_append]
        simpa using this
      obtain ⟨A2, cap2, hv2, -, hr2⟩ := rows_of_own (R := isCover) Cover.cells (fun _ => rfl) hown2' (by have := Ht.out; have := Hd.out; simp only [List.length_append]; omega)
        (fun c hc => hwf c (by rcases List.mem_append.1 hc with h | h; exact List.mem_of_mem_take h; exact List.mem_of_mem_drop h))
      subst hv2
      have HR2 := Lib.hid hr2
      have HB4 := Lib.hid (Hb2.out.trans (hbel2.mono Hb2.out.size))
      have hA4 := Lib.hid ((HA.out.below HB4.out).mono HB4.out.size)
      clear hown1 hgrow1 hat1 hbel1 hown2 hgrow2 hat2 hbel2 hown2' hr2 hwf
      have hln := Hn.out
      obtain ⟨b, off, rfl, hb, hc⟩ := covers_at hA4.out (by omega)
      obtain ⟨c, hx⟩ : ∃ c, l[k]? = some c := ⟨_, List.getElem?_eq_getElem (by omega)⟩
      obtain ⟨-, c0, c1, c2, c3, c4⟩ := hc k c hx
      have Hx := Lib.hid hx
      clear hc hx hln
      obtain ⟨x0, x1, x2, x3, x4⟩ := c
      simp only at c0 c1 c2 c3 c4
      have hk0 : (0 : Int) ≤ (k : Int) := by omega
      have hkn' : (k : Int) < (n : Int) := by omega
      go_wp2_with fail
      go_region_held3 (fun w' => w'.cell? ⟨b, off + k * 5, none⟩ = some (.int .i64 x0) ∧ w'.cell? ⟨b, off + k * 5 + 1, none⟩ = some (.int .i64 x1) ∧ w'.cell? ⟨b, off + k * 5 + 2, none⟩ = some (.int .i64 x2) ∧ w'.cell? ⟨b, off + k * 5 + 3, none⟩ = some (.int .i64 x3) ∧ w'.cell? ⟨b, off + k * 5 + 4, none⟩ = some (.int .i64 x4))
        (first | go_keep | (exact ⟨(hbel3.cell (p := ⟨b, _, none⟩) hb).trans c0, (hbel3.cell (p := ⟨b, _, none⟩) hb).trans c1, (hbel3.cell (p := ⟨b, _, none⟩) hb).trans c2, (hbel3.cell (p := ⟨b, _, none⟩) hb).trans c3, (hbel3.cell (p := ⟨b, _, none⟩) hb).trans c4⟩) | (exact ⟨(hbel2.cell (p := ⟨b, _, none⟩) hb).trans c0, (hbel2.cell (p := ⟨b, _, none⟩) hb).trans c1, (hbel2.cell (p := ⟨b, _, none⟩) hb).trans c2, (hbel2.cell (p := ⟨b, _, none⟩) hb).trans c3, (hbel2.cell (p := ⟨b, _, none⟩) hb).trans c4⟩) | (exact ⟨(hbel1.cell (p := ⟨b, _, none⟩) hb).trans c0, (hbel1.cell (p := ⟨b, _, none⟩) hb).trans c1, (hbel1.cell (p := ⟨b, _, none⟩) hb).trans c2, (hbel1.cell (p := ⟨b, _, none⟩) hb).trans c3, (hbel1.cell (p := ⟨b, _, none⟩) hb).trans c4⟩))
        (first
          | ((refine step_append_src _ rfl _ _ _ (by rfl) w4.heap.size 31 i0 _ 5 40 Try.underlying26 hi0 hz0 hz1 hz2 rfl (by decide) _ 0 [] (by rfl) (by first | exact World.ownsRow_made _ _ 0 (Nat.le_refl _) (Nat.zero_le _) rfl | exact World.ownsRow.alloc (World.ownsRow_made w4 #[] 0 (Nat.le_refl _) (Nat.zero_le _) rfl) _ | exact World.ownsRow_made (w4.alloc (Obj.cells #[.int .i64 x0, .int .i64 x1, .int .i64 x2, .int .i64 x3, .int .i64 x4] 31)) #[] 0 (le_alloc _ _) (Nat.zero_le _) rfl) (some ⟨b, off, none⟩) k cap ((l.take k).flatMap Cover.cells) (by rfl)
                (covers_src (hA4.out.take k) Ht.out (by exact (by repeat' (first | (with_reducible exact Below.refl _ _) | (with_reducible refine Below.alloc ?_ ?_ _) | (with_reducible refine Below.setCell ?_ ?_ _) | (with_reducible refine below_drewN ?_ _) | (with_reducible refine Below.drew ?_) | (with_reducible exact Nat.le_refl _) | omega | (simp; done) | ( (try simp); omega))))) (fun u hu => cells_one _ u hu) (by simp [maxLen]; omega) (by omega) (by simp; try omega) ?_; intro v1 w5 hown1 hgrow1 hat1
              have hbel1 : Below w4.heap.size w4 w5 := by
                first
                  | exact below_grown (w := (w4.alloc (Obj.cells #[] 31)).drew) (base := w4.heap.size) (e := 31) (k := 5) (n := 0) (xs := []) (by repeat' (first | (with_reducible exact Below.refl _ _) | (with_reducible refine Below.alloc ?_ ?_ _) | (with_reducible refine Below.setCell ?_ ?_ _) | (with_reducible refine below_drewN ?_ _) | (with_reducible refine Below.drew ?_) | (with_reducible exact Nat.le_refl _) | omega | (simp; done) | ( (try simp); omega))) (World.ownsRow_made w4 #[] 0 (Nat.le_refl _) (Nat.zero_le _) rfl) hgrow1 (Nat.le_refl _) (by simp)
                  | exact below_grown (w := ((w4.alloc (Obj.cells #[] 31)).alloc (Obj.cells #[.int .i64 x0, .int .i64 x1, .int .i64 x2, .int .i64 x3, .int .i64 x4] 31)).drew) (base := w4.heap.size) (e := 31) (k := 5) (n := 0) (xs := []) (by repeat' (first | (with_reducible exact Below.refl _ _) | (with_reducible refine Below.alloc ?_ ?_ _) | (with_reducible refine Below.setCell ?_ ?_ _) | (with_reducible refine below_drewN ?_ _) | (with_reducible refine Below.drew ?_) | (with_reducible exact Nat.le_refl _) | omega | (simp; done) | ( (try simp); omega))) (World.ownsRow.alloc (World.ownsRow_made w4 #[] 0 (Nat.le_refl _) (Nat.zero_le _) rfl) _) hgrow1 (Nat.le_refl _) (by simp; omega)
                  | exact below_grown (w := ((w4.alloc (Obj.cells #[.int .i64 x0, .int .i64 x1, .int .i64 x2, .int .i64 x3, .int .i64 x4] 31)).alloc (Obj.cells #[] 31)).drew) (base := w4.heap.size) (e := 31) (k := 5) (n := 0) (xs := []) (by repeat' (first | (with_reducible exact Below.refl _ _) | (with_reducible refine Below.alloc ?_ ?_ _) | (with_reducible refine Below.setCell ?_ ?_ _) | (with_reducible refine below_drewN ?_ _) | (with_reducible refine Below.drew ?_) | (with_reducible exact Nat.le_refl _) | omega | (simp; done) | ( (try simp); omega))) (own_made (w4.alloc (Obj.cells #[.int .i64 x0, .int .i64 x1, .int .i64 x2, .int .i64 x3, .int .i64 x4] 31)) (by simp) (le_alloc _ _)) hgrow1 (Nat.le_refl _) (by simp; omega)
              first
                | (have hel1 : SrcAt w5 5 (some ⟨w4.heap.size + 1, 0, none⟩) 1 (Cover.cells ⟨x0, x1, x2, x3, x4⟩) := el_src (Box.grown (w := ((w4.alloc (Obj.cells #[] 31)).alloc (Obj.cells #[.int .i64 x0, .int .i64 x1, .int .i64 x2, .int .i64 x3, .int .i64 x4] 31)).drew) (Box.new (w4.alloc _) 31 _ (by simp) rfl) hgrow1 (fun h => absurd (show some (w4.heap.size + 1) = some w4.heap.size from h) (by simp))))
                | (have hel1 : SrcAt w5 5 (some ⟨w4.heap.size, 0, none⟩) 1 (Cover.cells ⟨x0, x1, x2, x3, x4⟩) := el_src (Box.grown (w := ((w4.alloc (Obj.cells #[.int .i64 x0, .int .i64 x1, .int .i64 x2, .int .i64 x3, .int .i64 x4] 31)).alloc (Obj.cells #[] 31)).drew) ((Box.new w4 31 _ rfl rfl).alloc _) hgrow1 (fun h => absurd (show some w4.heap.size = some (w4.heap.size + 1) from h) (by simp))))
                | (have hel1 : True := trivial)))
          | ((refine step_append_src _ rfl _ _ _ (by rfl) w4.heap.size 31 i0 _ 5 40 Try.underlying26 hi0 hz0 hz1 hz2 rfl (by decide) v1 (0 + k) ([] ++ (l.take k).flatMap Cover.cells) (by rfl) (by first | exact hown1 | exact hown1.alloc _) _ 1 _ (Cover.cells ⟨x0, x1, x2, x3, x4⟩) (by rfl)
                (by first | exact hel1 | exact el_src (Box.new w5 31 _ rfl rfl)) (fun u hu => cells_one [⟨x0, x1, x2, x3, x4⟩] u (by simpa using hu)) (by simp [maxLen]; omega) (by omega) (by have := hbel1.size; simp; omega) ?_; intro v2 w6 hown2 hgrow2 hat2
              have hbel2 : Below w4.heap.size w4 w6 := by
                first
                  | exact below_grown (w := w5) hbel1 hown1 hgrow2 (Nat.le_refl _) hbel1.size
                  | exact below_grown (w := w5.alloc (Obj.cells #[.int .i64 x0, .int .i64 x1, .int .i64 x2, .int .i64 x3, .int .i64 x4] 31)) (hbel1.alloc hbel1.size _) (hown1.alloc _) hgrow2 (Nat.le_refl _) (by have := hbel1.size; simp; omega)))
          | ((refine step_append_src _ rfl _ _ _ (by rfl) w4.heap.size 31 i0 _ 5 40 Try.underlying26 hi0 hz0 hz1 hz2 rfl (by decide) v2 (0 + k + 1) ([] ++ (l.take k).flatMap Cover.cells ++ Cover.cells ⟨x0, x1, x2, x3, x4⟩) (by rfl) hown2 (cutAddr (some ⟨b, off, none⟩) cap k 5) (n - k) (cap - k) ((l.drop k).flatMap Cover.cells) (by rfl)
                (covers_src (hA4.out.drop (by rw [← Hn.out]; exact hcap) k) Hd'.out hbel2) (fun u hu => cells_one _ u hu) (by simp [maxLen]; omega) (by omega) hbel2.size ?_; intro v3 w7 hown3 hgrow3 hat3
              have hbel3 : Below w4.heap.size w4 w7 := below_grown hbel2 hown2 hgrow3 (Nat.le_refl _) hbel2.size))
          | ((refine step_append_src _ rfl _ _ _ (by rfl) w4.heap.size 31 i0 _ 5 40 Try.underlying26 hi0 hz0 hz1 hz2 rfl (by decide) (.slice (some ⟨w4.heap.size + 1, 0, none⟩) 0 0) 0 [] (by rfl) (own_made (w4.alloc (Obj.cells #[.int .i64 x0, .int .i64 x1, .int .i64 x2, .int .i64 x3, .int .i64 x4] 31)) (by simp) (le_alloc _ _)) (some ⟨b, off, none⟩) k cap ((l.take k).flatMap Cover.cells) (by rfl)
                (covers_src (hA4.out.take k) Ht.out (by exact (by repeat' (first | (with_reducible exact Below.refl _ _) | (with_reducible refine Below.alloc ?_ ?_ _) | (with_reducible refine Below.setCell ?_ ?_ _) | (with_reducible refine below_drewN ?_ _) | (with_reducible refine Below.drew ?_) | (with_reducible exact Nat.le_refl _) | omega | (simp; done) | ( (try simp); omega))))) (fun u hu => cells_one _ u hu) (by simp [maxLen]; omega) (by omega) (by simp; omega) ?_; intro v1 w5 hown1 hgrow1 hat1
              have hbel1 : Below w4.heap.size w4 w5 := below_grown (w := ((w4.alloc (Obj.cells #[.int .i64 x0, .int .i64 x1, .int .i64 x2, .int .i64 x3, .int .i64 x4] 31)).alloc (Obj.cells #[] 31)).drew) (base := w4.heap.size) (e := 31) (k := 5) (n := 0) (xs := []) (by repeat' (first | (with_reducible exact Below.refl _ _) | (with_reducible refine Below.alloc ?_ ?_ _) | (with_reducible refine Below.setCell ?_ ?_ _) | (with_reducible refine below_drewN ?_ _) | (with_reducible refine Below.drew ?_) | (with_reducible exact Nat.le_refl _) | omega | (simp; done) | ( (try simp); omega))) (own_made (w4.alloc (Obj.cells #[.int .i64 x0, .int .i64 x1, .int .i64 x2, .int .i64 x3, .int .i64 x4] 31)) (by simp) (le_alloc _ _)) hgrow1 (Nat.le_refl _) (by simp; omega)
              have hel1 : SrcAt w5 5 (some ⟨w4.heap.size, 0, none⟩) 1 (Cover.cells ⟨x0, x1, x2, x3, x4⟩) := el_src (Box.grown (w := ((w4.alloc (Obj.cells #[.int .i64 x0, .int .i64 x1, .int .i64 x2, .int .i64 x3, .int .i64 x4] 31)).alloc (Obj.cells #[] 31)).drew) ((Box.new w4 31 _ rfl rfl).alloc _) hgrow1 (fun h => absurd (show some w4.heap.size = some (w4.heap.size + 1) from h) (by simp))))))
      all_goals
        have hwf : ∀ c, c ∈ l → isCover c.cells c := fun c hc => ⟨rfl, HW.out c hc⟩
        have hown3' : w7.ownsRow w4.heap.size 31 5 v3 (n + 1) ((l.take k ++ [(⟨x0, x1, x2, x3, x4⟩ : Cover)] ++ l.drop k).flatMap Cover.cells) := by
          have := hown3
          rw [show 0 + k + 1 + (n - k) = n + 1 by omega] at this
          rw [List.flatMap_append, List.flatMap_append]
          simpa using this
        obtain ⟨A3, cap3, hv3, -, hr3⟩ := rows_of_own (R := isCover) Cover.cells (fun _ => rfl) hown3' (by have := Ht.out; have := Hd'.out; simp only [List.length_append, List.length_cons, List.length_nil]; omega)
          (fun c hc => hwf c (by
            rcases List.mem_append.1 hc with h | h
            · rcases List.mem_append.1 h with h | h
              · exact List.mem_of_mem_take h
              · rw [List.mem_singleton.1 h]; exact List.mem_of_getElem? Hx.out
            · exact List.mem_of_mem_drop h))
        subst hv3
        have HR3 := Lib.hid hr3
        have HR27 := Lib.hid ((HR2.out.below hbel3).mono hbel3.size)
        have HB7 := Lib.hid (HB4.out.trans (hbel3.mono HB4.out.size))
        have hA7 := Lib.hid ((HA.out.below HB7.out).mono HB7.out.size)
        clear hown1 hgrow1 hat1 hbel1 hel1 hown2 hgrow2 hat2 hbel2 hown3 hgrow3 hat3 hbel3 hown3' hr3 HR2 hA4 hA2 hA1 hb c0 c1 c2 c3 c4 hs1 hs2 hs3
        have Hwf := Lib.hid hwf
        clear hwf
        go_wp2
        go_loopw [9, 10] (fun t i wr => ∃ m : Nat, m ≤ n ∧ i = .int .i64 ((m : Int) - 1) ∧ wr.ownsRow w7.heap.size 31 5 t (n - m) ((l.drop m).reverse.flatMap Cover.cells) ∧ Below w7.heap.size w7 wr) (fun _ i _ => (intOf i + 1).toNat)
        case atStart =>
          refine ⟨n, Nat.le_refl _, rfl, ?_, Below.refl _ _⟩
          rw [Nat.sub_self, List.drop_eq_nil_of_le (by rw [← Hn.out]; exact Nat.le_refl _)]
          exact World.ownsRow_nil _ _ _ _
        case round =>
          obtain ⟨m, hmn, rfl, hown, hwr⟩ := hrel
          have Hwr := Lib.hid hwr
          clear hwr
          rcases m with _ | m
          · simp only [Nat.sub_zero, List.drop_zero] at hown
            obtain ⟨A5, cap5, hv5, -, hr5⟩ := rows_of_own (R := isCover) Cover.cells (fun _ => rfl) hown (by rw [List.length_reverse]; exact Hn.out) (fun c hc => Hwf.out c (by simpa using hc))
            subst hv5
            have HR5 := Lib.hid hr5
            clear hown hr5
            have hneg : ¬ (0 : Int) ≤ ((0 : Nat) : Int) - 1 := by omega
            have F1 := Lib.hid (covers_fewer HT.out (by rw [← Hn.out]; exact hkn))
            have F2 := Lib.hid (covers_twice Hx.out)
            have F3 := Lib.hid (covers_turned HT.out)
            have hn1 : (l.take k ++ l.drop (k + 1)).length = n - 1 := by have := Ht.out; have := Hd.out; simp only [List.length_append]; omega
            have hn2 : (l.take k ++ [(⟨x0, x1, x2, x3, x4⟩ : Cover)] ++ l.drop k).length = n + 1 := by have := Ht.out; have := Hd'.out; simp only [List.length_append, List.length_cons, List.length_nil]; omega
            have Hn1 := Lib.hid hn1
            have Hn2 := Lib.hid hn2
            clear hn1 hn2
            have K1 := Lib.hid ((HR27.out.below Hwr.out).mono Hwr.out.size)
            have K2 := Lib.hid ((HR3.out.below Hwr.out).mono Hwr.out.size)
            have HBr := Lib.hid (HB7.out.trans (Hwr.out.mono HB7.out.size))
            go_wp2_with fail
            refine (covers_any A2 (n - 1) cap2 _ _ Hn1.out.symm (by unfold maxLen; omega) K1.out).mono ?_
            rintro e z1 ⟨rfl, hbz1⟩
            rw [F1.out, ← Hn.out]
            have K21 := Lib.hid ((K2.out.below hbz1).mono hbz1.size)
            have K51 := Lib.hid ((HR5.out.below hbz1).mono hbz1.size)
            have HBz1' : Below w.heap.size w z1 := (by have hs0 := Below.size HBr.out; have hs1 := Below.size hbz1; repeat' (first | (with_reducible exact HBr.out) | (with_reducible refine below_call hbz1 ?_ ?_) | (with_reducible exact Below.refl _ _) | (with_reducible refine Below.alloc ?_ ?_ _) | (with_reducible refine Below.setCell ?_ ?_ _) | (with_reducible refine below_drewN ?_ _) | (with_reducible refine Below.drew ?_) | (with_reducible exact Nat.le_refl _) | omega | (simp; done) | ((try simp at hs0); (try simp at hs1);  (try simp); omega)))
            have HBz1 := Lib.hid HBz1'
            clear hbz1 HBz1'
            have eN : decide (1 < n) = decide ((1 : Int) < (n : Int)) := by rw [Bool.eq_iff_iff]; simp; omega
            rw [eN]
            clear eN
            go_wp2_with fail
            refine (covers_any A3 (n + 1) cap3 _ _ Hn2.out.symm (by unfold maxLen; omega) K21.out).mono ?_
            rintro e z2 ⟨rfl, hbz2⟩
            rw [F2.out]
            have K52 := Lib.hid ((K51.out.below hbz2).mono hbz2.size)
            have HBz2' : Below w.heap.size w z2 := (by have hs0 := Below.size HBz1.out; have hs1 := Below.size hbz2; repeat' (first | (with_reducible exact HBz1.out) | (with_reducible refine below_call hbz2 ?_ ?_) | (with_reducible exact Below.refl _ _) | (with_reducible refine Below.alloc ?_ ?_ _) | (with_reducible refine Below.setCell ?_ ?_ _) | (with_reducible refine below_drewN ?_ _) | (with_reducible refine Below.drew ?_) | (with_reducible exact Nat.le_refl _) | omega | (simp; done) | ((try simp at hs0); (try simp at hs1);  (try simp); omega)))
            have HBz2 := Lib.hid HBz2'
            clear hbz2 HBz2'
            go_wp2_with fail
            refine (covers_any A5 n cap5 _ _ (by rw [List.length_reverse]; exact Hn.out) (by unfold maxLen; omega) K52.out).mono ?_
            rintro e z3 ⟨rfl, hbz3⟩
            rw [F3.out, ← Hn.out]
            have eN : decide (n = 1) = ((n : Int) == 1) := by rw [Bool.eq_iff_iff]; simp; omega
            rw [eN]
            clear eN
            go_wp2
            go_ret
            exact ⟨rfl, (by have hs0 := Below.size HBz2.out; have hs1 := Below.size hbz3; repeat' (first | (with_reducible exact HBz2.out) | (with_reducible refine below_call hbz3 ?_ ?_) | (with_reducible exact Below.refl _ _) | (with_reducible refine Below.alloc ?_ ?_ _) | (with_reducible refine Below.setCell ?_ ?_ _) | (with_reducible refine below_drewN ?_ _) | (with_reducible refine Below.drew ?_) | (with_reducible exact Nat.le_refl _) | omega | (simp; done) | ((try simp at hs0); (try simp at hs1);  (try simp); omega)))⟩
          · rw [show ((m + 1 : Nat) : Int) - 1 = (m : Int) by omega]
            have hln := Hn.out
            obtain ⟨b', off', hA', hb', hc'⟩ := covers_at (hA7.out.below Hwr.out) (by omega)
            injection hA' with hA'
            injection hA' with h1 h2
            subst h1 h2
            obtain ⟨c, hx⟩ : ∃ c, l[m]? = some c := ⟨_, List.getElem?_eq_getElem (by omega)⟩
            obtain ⟨-, c0, c1, c2, c3, c4⟩ := hc' m c hx
            have HX := Lib.hid hx
            clear hc' hx hln
            obtain ⟨y0, y1, y2, y3, y4⟩ := c
            simp only at c0 c1 c2 c3 c4
            have hm0 : (0 : Int) ≤ (m : Int) := by omega
            have hmn' : (m : Int) < (n : Int) := by omega
            have hbz : b < wr.heap.size := Nat.lt_of_lt_of_le hb' Hwr.out.size
            go_wp2_with (at_builtin; refine wpList_append_src _ rfl _ _ _ rfl w7.heap.size 31 i0 _ 5 40 Try.underlying26 hi0 hz0 hz1 hz2 rfl (by decide) _ (n - (m + 1)) ((l.drop (m + 1)).reverse.flatMap Cover.cells) rfl (hown.alloc _) (some ⟨wr.heap.size, 0, none⟩) 1 1 (Cover.cells ⟨y0, y1, y2, y3, y4⟩) rfl (el_src (Box.new wr 31 _ rfl rfl)) (fun u hu => cells_one [⟨y0, y1, y2, y3, y4⟩] u (by simpa using hu)) (by simp [maxLen]; omega) (by omega) (by have := Hwr.out.size; simp; omega) ?_; intro v9 w9 hown9 hgrow9 hat9)
            have hbel9 : Below w7.heap.size w7 w9 := below_grown (Hwr.out.alloc Hwr.out.size _) (hown.alloc _) hgrow9 (Nat.le_refl _) (by have := Hwr.out.size; simp; omega)
            go_roundw
            case rel =>
              refine ⟨m, by omega, rfl, ?_, hbel9⟩
              have := hown9
              rw [show n - (m + 1) + 1 = n - m by omega] at this
              rw [drop_get HX.out, List.reverse_cons, List.flatMap_append]
              simpa using this
            case measure => first | (simp [intOf]; done) | (simp [intOf]; omega)
  · go_ret
    exact ⟨rfl, hb1⟩

end Go.Proofs.Ythmjjogmgjagmaa
