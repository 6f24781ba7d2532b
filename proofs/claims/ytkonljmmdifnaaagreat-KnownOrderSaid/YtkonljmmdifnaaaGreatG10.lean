/- slices.SortStableFunc at ints by days: symMerge. -/
import Derived.Test.YtkonljmmdifnaaaGreatG9
set_option linter.unusedSimpArgs false
set_option linter.unusedVariables false
namespace Go.Proofs.YtkonljmmdifnaaaGreat.V
open Go.RowKit
set_option maxRecDepth 100000

theorem halves {α : Type} {lt : α → α → Bool} (hS : SW lt) {U V U1 U2 V1 V2 : List α} (sU : Srt lt U) (sV : Srt lt V) (hU : U = U1 ++ U2) (hV : V = V1 ++ V2)
    (h1 : 0 < U1.length → 0 < V2.length → ∀ x y, U[U1.length - 1]? = some x → V[V1.length]? = some y → lt y x = false)
    (h2 : 0 < V1.length → 0 < U2.length → ∀ x y, U[U1.length]? = some x → V[V1.length - 1]? = some y → lt y x = true) :
    mrg lt U V = mrg lt U1 V1 ++ mrg lt U2 V2 := by
  subst hU hV
  refine mrg_split _ _ _ _ (fun u hu v hv => ?_) (fun v hv u hu => ?_)
  · have l1 := List.length_pos_of_mem hu
    have l2 := List.length_pos_of_mem hv
    obtain ⟨i, hi, rfl⟩ := List.mem_iff_getElem.1 hu
    obtain ⟨j, hj, rfl⟩ := List.mem_iff_getElem.1 hv
    have e1 : (U1 ++ U2)[U1.length - 1]? = some (U1[U1.length - 1]'(by omega)) := by rw [List.getElem?_append_left (by omega), List.getElem?_eq_getElem]
    have e2 : (V1 ++ V2)[V1.length]? = some (V2[0]'(by omega)) := by rw [List.getElem?_append_right (by omega), Nat.sub_self, List.getElem?_eq_getElem]
    have e3 : (U1 ++ U2)[i]? = some U1[i] := by rw [List.getElem?_append_left hi, List.getElem?_eq_getElem]
    have e4 : (V1 ++ V2)[V1.length + j]? = some V2[j] := by rw [List.getElem?_append_right (by omega), Nat.add_sub_cancel_left, List.getElem?_eq_getElem]
    have k1 := h1 l1 l2 _ _ e1 e2
    exact hS.ntr _ _ _ (srt_at hS sU e3 e1 (by omega)) (hS.ntr _ _ _ k1 (srt_at hS sV e2 e4 (by omega)))
  · have l1 := List.length_pos_of_mem hu
    have l2 := List.length_pos_of_mem hv
    obtain ⟨i, hi, rfl⟩ := List.mem_iff_getElem.1 hu
    obtain ⟨j, hj, rfl⟩ := List.mem_iff_getElem.1 hv
    have e1 : (U1 ++ U2)[U1.length]? = some (U2[0]'(by omega)) := by rw [List.getElem?_append_right (by omega), Nat.sub_self, List.getElem?_eq_getElem]
    have e2 : (V1 ++ V2)[V1.length - 1]? = some (V1[V1.length - 1]'(by omega)) := by rw [List.getElem?_append_left (by omega), List.getElem?_eq_getElem]
    have e3 : (U1 ++ U2)[U1.length + i]? = some U2[i] := by rw [List.getElem?_append_right (by omega), Nat.add_sub_cancel_left, List.getElem?_eq_getElem]
    have e4 : (V1 ++ V2)[j]? = some V1[j] := by rw [List.getElem?_append_left hj, List.getElem?_eq_getElem]
    have k1 := h2 l2 l1 _ _ e1 e2
    exact hS.lt_of (hS.of_lt (srt_at hS sV e4 e2 (by omega)) k1) (srt_at hS sU e1 e3 (by omega))

/-- Put by. -/
def Hid (p : Prop) : Prop := p

/-- symMerge at these lists. -/
def SymM (h : History) (X U V Y : List Int) : Prop :=
    FunB Tryz.prog 163 [(0, ⟨3, rowC irow (X ++ (U ++ (V ++ Y)))⟩), (1, ⟨31, h.flat⟩)] [.osl 0 1 0 (X ++ (U ++ (V ++ Y))).length, int X.length, int (X.length + U.length : Nat), int (X.length + U.length + V.length : Nat), .fn (.func 121) [] [.ptr 1 0]] (.tup []) [(0, some ⟨3, rowC irow (X ++ (mrg (ltO h) U V ++ Y))⟩)]

set_option maxHeartbeats 8000000 in
theorem symMerge3_f (h : History) (X U V Y : List Int) (hl : (X ++ (U ++ (V ++ Y))).length ≤ 100000) (hU : ∀ x, x ∈ U → placeOf h x) (hV : ∀ x, x ∈ V → placeOf h x) (sU : Srt (ltO h) U) (sV : Srt (ltO h) V) (lU : 2 ≤ U.length) (lV : 2 ≤ V.length)
    (ih : ∀ (X' U' V' Y' : List Int), U'.length + V'.length < U.length + V.length → (X' ++ (U' ++ (V' ++ Y'))).length ≤ 100000 → 0 < U'.length → 0 < V'.length → (∀ x, x ∈ U' → placeOf h x) → (∀ x, x ∈ V' → placeOf h x) → Srt (ltO h) U' → Srt (ltO h) V' → SymM h X' U' V' Y') :
    SymM h X U V Y := by
  unfold SymM
  have hne2 := rowI_nz (l := X ++ (U ++ (V ++ Y))) (by simp; omega)
  have hlen : (X ++ (U ++ (V ++ Y))).length = X.length + U.length + V.length + Y.length := by simp; omega
  have hLu : ∀ k x, U[k]? = some x → (X ++ (U ++ (V ++ Y)))[X.length + k]? = some x := fun k x hk => at_in hk rfl
  have hLv : ∀ k x, V[k]? = some x → (X ++ (U ++ (V ++ Y)))[X.length + U.length + k]? = some x := fun k x hk => by rw [← List.append_assoc]; exact at_in hk (by simp)
  rw [hlen] at hl ⊢
  generalize hn : X.length + U.length + V.length + Y.length = N at *
  generalize hLL : X ++ (U ++ (V ++ Y)) = L at *
  generalize ha : X.length = a at *
  generalize hm : a + U.length = m at *
  generalize hb : m + V.length = b at *
  have hmid : (a + b) / 2 < b ∧ a ≤ (a + b) / 2 ∧ a + b ≤ 2 * ((a + b) / 2) + 1 ∧ 2 * ((a + b) / 2) ≤ a + b := by omega
  refine fun_WB 2 mixed Tryz.func163 rfl (Nat.le_of_ble_eq_true rfl) (by kernel_rfl) (by simp [go_sem, hne2, rowI_nms']) fun cx hN hR hF hL => ?_; apply args_kb; (case hA => (simp only [go_sem, ↓reduceIte]; rfl)); (case hB => (simp only [go_sem, ↓reduceIte]; rfl))
  have hF2 : ∀ b g, cx.F b = some g → b < 3000 := fun b g h => by
    have := hF b g h
    simp [inl] at this
    omega
  have w1 : IntKind.i64.wrap ((m : Int) - a) = ((U.length : Nat) : Int) := by rw [wrap_id] <;> omega
  have w1' : (((U.length : Nat) : Int) = 1) = False := by simp; omega
  have w2 : IntKind.i64.wrap ((b : Int) - m) = ((V.length : Nat) : Int) := by rw [wrap_id] <;> omega
  have w2' : (((V.length : Nat) : Int) = 1) = False := by simp; omega
  have w3 : IntKind.i64.wrap ((a : Int) + b) = ((a + b : Nat) : Int) := by rw [wrap_id] <;> omega
  have w4 : IntKind.u64.wrap ((a + b : Nat) : Int) = ((a + b : Nat) : Int) := by rw [wrap_u] <;> omega
  have w5 := half_n (a + b)
  generalize hmd : (a + b) / 2 = mid at *
  have w6 : IntKind.i64.wrap (mid : Int) = (mid : Int) := by rw [wrap_id] <;> omega
  have w7 : IntKind.i64.wrap ((mid : Int) + m) = ((mid + m : Nat) : Int) := by rw [wrap_id] <;> omega
  have w8 : IntKind.i64.wrap (((mid + m : Nat) : Int) - 1) = ((mid + m - 1 : Nat) : Int) := by rw [wrap_id] <;> omega
  by_cases hgt : mid < m
  · have c1 : decide ((mid : Int) < (m : Int)) = true := by simp; omega
    have w9 : IntKind.i64.wrap (((mid + m : Nat) : Int) - b) = ((mid + m : Nat) : Int) - b := by rw [wrap_id] <;> omega
    obtain ⟨s0, hs0⟩ : ∃ s0, s0 = mid+m-b := ⟨_, rfl⟩
    obtain ⟨r0, hr0⟩ : ∃ r0, r0 = mid := ⟨_, rfl⟩
    have Q1 : a ≤ s0 ∧ s0 ≤ r0 ∧ r0 ≤ m ∧ r0 ≤ mid ∧ mid + m ≤ s0 + b := by omega
    have Q2 : Hid ((s0 = a ∨ mid + m = s0 + b) ∧ (r0 = m ∨ r0 = mid)) := by unfold Hid; omega
    have Z : Hid (((mid+m:Nat):Int)-b=(s0:Int)∧(mid:Int)=(r0:Int)) := by unfold Hid; omega
    (try ((try (revert K;refine bK ?_));refine' run (I w1 (I w1' (I w2 (I w2' (I w3 (I w4 (I w5 (I w6 (I w7 (I w8 (I w9 c1))))))))))) ?_;(repeat' first|exact True.intro|refine Lv.mk ?_ ?_|(refine oK ?_;intro K hK)|intro hq);all_goals refine Lf.mk ?_))
    clear w1 w1' w2 w2' w3 w4 w5 w6 w7 w8 w9 hmd hgt c1 hs0 hr0
    refine loopW mixed (σ := {p : Nat × Nat // s0 ≤ p.1 ∧ p.1 ≤ p.2 ∧ p.2 ≤ r0 ∧ (s0 < p.1 → ∀ x y, U[p.1 - 1 - a]? = some x → V[mid - p.1]? = some y → ltO h y x = false) ∧ (p.2 < r0 → ∀ x y, U[p.2 - a]? = some x → V[mid - 1 - p.2]? = some y → ltO h y x = true)})
      (fun s => ⟨[(20, int s.1.1), (21, int s.1.2), (0, .osl 0 1 0 N), (1, int a), (2, int m), (3, int b), (18, int mid), (19, int (mid + m : Nat)), (22, int (mid + m - 1 : Nat)), (4, .fn (.func 121) [] [.ptr 1 0])], [(0, some ⟨3, rowC irow L⟩), (1, some ⟨31, h.flat⟩)], 20000⟩) (fun s => s.1.2 - s.1.1) id
      ⟨(s0, r0), Nat.le_refl _, Q1.2.1, Nat.le_refl _, fun h => by omega, fun h => by omega⟩ (by rw [hN]; kernel_rfl) ?_ ?_
    · simp only [go_sem, ↓reduceIte, hF]
      exact ⟨⟨Z.1, Z.2⟩, fun b g h => by have := hF2 b g h; omega⟩
    · rintro ⟨⟨i, j⟩, g1, g2, g3, g4, g5⟩
      simp only at g1 g2 g3 g4 g5
      by_cases hi : i < j
      · have hij : (i + j) / 2 < j ∧ i ≤ (i + j) / 2 := by omega
        have e1 : IntKind.i64.wrap ((i : Int) + j) = ((i + j : Nat) : Int) := by rw [wrap_id] <;> omega
        have e2 : IntKind.u64.wrap ((i + j : Nat) : Int) = ((i + j : Nat) : Int) := by rw [wrap_u] <;> omega
        have e3 := half_n (i + j)
        generalize hqq : (i + j) / 2 = q at *
        have e4 : IntKind.i64.wrap (q : Int) = (q : Int) := by rw [wrap_id] <;> omega
        have e5 : IntKind.i64.wrap ((q : Int) + 1) = ((q + 1 : Nat) : Int) := by rw [wrap_id] <;> omega
        obtain ⟨k, hk⟩ : ∃ k, q = a + k := ⟨q - a, by omega⟩
        obtain ⟨k', hk'⟩ : ∃ k', mid - 1 - q = k' := ⟨_, rfl⟩
        have e6 : IntKind.i64.wrap (((mid + m - 1 : Nat) : Int) - q) = ((m + k' : Nat) : Int) := by rw [wrap_id] <;> omega
        have hk2 : k < U.length := by omega
        have hk3 : k' < V.length := by omega
        have hx : U[k]? = some U[k] := List.getElem?_eq_getElem hk2
        have hpx : placeOf h U[k] := hU _ (List.getElem_mem hk2)
        have hy : V[k']? = some V[k'] := List.getElem?_eq_getElem hk3
        have hpy : placeOf h V[k'] := hV _ (List.getElem_mem hk3)
        have hLq := hLu k _ hx
        have hLp := hLv k' _ hy
        rw [← hk] at hLq
        generalize U[k] = x at *
        generalize V[k'] = y at *
        have r1 := rowI_some hLp
        have r2 := rowI_some hLq
        have hqn : q < N := by omega
        have hmn : m + k' < N := by omega
        have hlr : (rowC irow L).length = N := by rw [rowI_len]; exact hlen
        (try ((try (revert K;refine bK ?_));refine' run (I e1 (I e2 (I e3 (I e4 (I e5 (I e6 (I r1 (I r2 (I hlr (I (eq_true hi) hne2)))))))))) ?_;(repeat' first|exact True.intro|refine Lv.mk ?_ ?_|(refine oK ?_;intro K hK)|intro hq);all_goals refine Lf.mk ?_))
        (apply callL' [1] cl121 (orderJ_f h y x hpy hpx); (case hp | hl => (simp only [go_sem, ↓reduceIte]; try rfl)); (case hx => (simp [AV.flat0])); (try (case hfz => (first | (simp only [go_sem]; done) | (simp [go_sem, fzo]; done)))))
        cases hlt : ltO h y x
        · have d1 : decide (compareJ (dayAt h y) (dayAt h x) < 0) = false := by rw [cmp_lt]; exact hlt
          (try ((try (revert K;refine bK ?_));refine' run (I e1 (I e2 (I e3 (I e4 (I e5 (I e6 (I r1 (I r2 (I hlr (I hne2 d1)))))))))) ?_;(repeat' first|exact True.intro|refine Lv.mk ?_ ?_|(refine oK ?_;intro K hK)|intro hq);all_goals refine Lf.mk ?_))
          refine ⟨⟨(q + 1, j), by show s0 ≤ q + 1; omega, by show q + 1 ≤ j; omega, g3, fun _ x' y' h1 h2 => ?_, g5⟩, id, ?_, by show j - (q + 1) < j - i; omega⟩
          · have h1 : U[q + 1 - 1 - a]? = some x' := h1
            have h2 : V[mid - (q + 1)]? = some y' := h2
            rw [show q + 1 - 1 - a = k by omega, hx] at h1
            rw [show mid - (q + 1) = k' by omega, hy] at h2
            cases h1; cases h2
            exact hlt
          · simp only [go_sem, ↓reduceIte, hF]
            exact fun b g h => by have := hF2 b g h; omega
        · have d1 : decide (compareJ (dayAt h y) (dayAt h x) < 0) = true := by rw [cmp_lt]; exact hlt
          (try ((try (revert K;refine bK ?_));refine' run (I e1 (I e2 (I e3 (I e4 (I e5 (I e6 (I r1 (I r2 (I hlr (I hne2 d1)))))))))) ?_;(repeat' first|exact True.intro|refine Lv.mk ?_ ?_|(refine oK ?_;intro K hK)|intro hq);all_goals refine Lf.mk ?_))
          refine ⟨⟨(i, q), g1, hij.2, by show q ≤ _; omega, g4, fun _ x' y' h1 h2 => ?_⟩, id, ?_, by show q - i < j - i; omega⟩
          · have h1 : U[q - a]? = some x' := h1
            have h2 : V[mid - 1 - q]? = some y' := h2
            rw [show q - a = k by omega, hx] at h1
            rw [hk', hy] at h2
            cases h1; cases h2
            exact hlt
          · simp only [go_sem, ↓reduceIte, hF]
            exact fun b g h => by have := hF2 b g h; omega
      · obtain rfl : i = j := by omega
        clear hi
        obtain ⟨e, he⟩ : ∃ e, e = mid + m - i := ⟨_, rfl⟩
        have w1 : IntKind.i64.wrap (((mid + m : Nat) : Int) - i) = (e : Int) := by rw [wrap_id] <;> omega
        obtain ⟨U1, hU1⟩ : ∃ U1, U1 = U.take (i - a) := ⟨_, rfl⟩
        obtain ⟨U2, hU2⟩ : ∃ U2, U2 = U.drop (i - a) := ⟨_, rfl⟩
        obtain ⟨V1, hV1⟩ : ∃ V1, V1 = V.take (mid - i) := ⟨_, rfl⟩
        obtain ⟨V2, hV2⟩ : ∃ V2, V2 = V.drop (mid - i) := ⟨_, rfl⟩
        have hUe : U = U1 ++ U2 := by rw [hU1, hU2, List.take_append_drop]
        have hVe : V = V1 ++ V2 := by rw [hV1, hV2, List.take_append_drop]
        have lU1 : U1.length = i - a := by rw [hU1, List.length_take]; omega
        have lV1 : V1.length = mid - i := by rw [hV1, List.length_take]; omega
        have lUe : U.length = U1.length + U2.length := by rw [← List.length_append, ← hUe]
        have lVe : V.length = V1.length + V2.length := by rw [← List.length_append, ← hVe]
        have hcut := halves (sw_ltO h) sU sV hUe hVe (fun l1 l2 x y h1 h2 => by
            refine g4 ?_ x y (by rw [← h1]; congr 1; omega) (by rw [← h2, lV1])
            rcases Q2.1 with hq | hq <;> omega) (fun l1 l2 x y h1 h2 => by
            refine g5 ?_ x y (by rw [← h1, lU1]) (by rw [← h2]; congr 1; omega)
            rcases Q2.2 with hq | hq <;> omega)
        clear Q2 Z
        obtain ⟨L2, hL2⟩ : ∃ L2, L2 = X ++ (U1 ++ (V1 ++ (U2 ++ (V2 ++ Y)))) := ⟨_, rfl⟩
        obtain ⟨L3, hL3⟩ : ∃ L3, L3 = X ++ (mrg (ltO h) U1 V1 ++ (U2 ++ (V2 ++ Y))) := ⟨_, rfl⟩
        obtain ⟨L4, hL4⟩ : ∃ L4, L4 = X ++ (mrg (ltO h) U V ++ Y) := ⟨_, rfl⟩
        have hL1 : L = X ++ (U1 ++ (U2 ++ (V1 ++ (V2 ++ Y)))) := by rw [← hLL, hUe, hVe]; simp
        have n1 : L.length = N := hlen
        have n2 : L2.length = N := by rw [hL2]; simp only [List.length_append]; omega
        have n3 : L3.length = N := by rw [hL3]; simp only [List.length_append, mrg_len]; omega
        have hres : L4 = X ++ (mrg (ltO h) U1 V1 ++ (mrg (ltO h) U2 V2 ++ Y)) := by rw [hL4, hcut]; simp
        have cR : 0 < U2.length → 0 < V1.length → FunB Tryz.prog 171 [(0, ⟨3, rowC irow L⟩), (1, ⟨31, h.flat⟩)] [.osl 0 1 0 N, int i, int m, int e, .fn (.func 121) [] [.ptr 1 0]] (.tup []) [(0, some ⟨3, rowC irow L2⟩)] := fun p1 p2 => by
          have c := rotate_f h (X ++ U1) U2 V1 (V2 ++ Y) m (by rw [List.length_append]; omega) p1 p2 (by simp only [List.length_append]; omega)
          rw [show (X ++ U1) ++ (U2 ++ (V1 ++ (V2 ++ Y))) = L by rw [hL1]; simp, show (X ++ U1) ++ (V1 ++ (U2 ++ (V2 ++ Y))) = L2 by rw [hL2]; simp, n1, show (X ++ U1).length = i by rw [List.length_append]; omega, show m + V1.length = e by omega] at c
          exact c
        have cA : 0 < U1.length → 0 < V1.length → FunB Tryz.prog 163 [(0, ⟨3, rowC irow L2⟩), (1, ⟨31, h.flat⟩)] [.osl 0 1 0 N, int a, int i, int mid, .fn (.func 121) [] [.ptr 1 0]] (.tup []) [(0, some ⟨3, rowC irow L3⟩)] := fun p1 p2 => by
          have c := ih X U1 V1 (U2 ++ (V2 ++ Y)) (by omega) (by rw [← hL2]; omega) p1 p2 (fun x hx => hU x (by rw [hUe]; simp [hx])) (fun x hx => hV x (by rw [hVe]; simp [hx])) (Srt.app.1 (hUe ▸ sU)).1 (Srt.app.1 (hVe ▸ sV)).1
          unfold SymM at c
          rw [← hL2, ← hL3, n2, ha, show a + U1.length = i by omega, show i + V1.length = mid by omega] at c
          exact c
        have cB : 0 < U2.length → 0 < V2.length → FunB Tryz.prog 163 [(0, ⟨3, rowC irow L3⟩), (1, ⟨31, h.flat⟩)] [.osl 0 1 0 N, int mid, int e, int b, .fn (.func 121) [] [.ptr 1 0]] (.tup []) [(0, some ⟨3, rowC irow L4⟩)] := fun p1 p2 => by
          have c := ih (X ++ mrg (ltO h) U1 V1) U2 V2 Y (by omega) (by simp only [List.length_append, mrg_len]; omega) p1 p2 (fun x hx => hU x (by rw [hUe]; simp [hx])) (fun x hx => hV x (by rw [hVe]; simp [hx])) (Srt.app.1 (hUe ▸ sU)).2.1 (Srt.app.1 (hVe ▸ sV)).2.1
          unfold SymM at c
          rw [show (X ++ mrg (ltO h) U1 V1) ++ (U2 ++ (V2 ++ Y)) = L3 by rw [hL3]; simp, show (X ++ mrg (ltO h) U1 V1) ++ (mrg (ltO h) U2 V2 ++ Y) = L4 by rw [hres]; simp, n3, show (X ++ mrg (ltO h) U1 V1).length = mid by rw [List.length_append, mrg_len]; omega, show mid + U2.length = e by omega, show e + V2.length = b by omega] at c
          exact c
        have t1 : (decide ((i : Int) < (m : Int)) && decide ((m : Int) < (e : Int))) = false → L = L2 := fun hf => by
          have : U2 = [] ∨ V1 = [] := by
            simp only [Bool.and_eq_false_iff, decide_eq_false_iff_not] at hf
            rcases hf with hf | hf
            · exact .inl (List.eq_nil_of_length_eq_zero (by omega))
            · exact .inr (List.eq_nil_of_length_eq_zero (by omega))
          rw [hL1, hL2]
          rcases this with h | h <;> rw [h] <;> simp
        have t2 : (decide ((a : Int) < (i : Int)) && decide ((i : Int) < (mid : Int))) = false → L2 = L3 := fun hf => by
          have : U1 = [] ∨ V1 = [] := by
            simp only [Bool.and_eq_false_iff, decide_eq_false_iff_not] at hf
            rcases hf with hf | hf
            · exact .inl (List.eq_nil_of_length_eq_zero (by omega))
            · exact .inr (List.eq_nil_of_length_eq_zero (by omega))
          rw [hL2, hL3]
          rcases this with h | h <;> rw [h] <;> simp
        have t3 : (decide ((mid : Int) < (e : Int)) && decide ((e : Int) < (b : Int))) = false → L3 = L4 := fun hf => by
          have : U2 = [] ∨ V2 = [] := by
            simp only [Bool.and_eq_false_iff, decide_eq_false_iff_not] at hf
            rcases hf with hf | hf
            · exact .inl (List.eq_nil_of_length_eq_zero (by omega))
            · exact .inr (List.eq_nil_of_length_eq_zero (by omega))
          rw [hL3, hres]
          rcases this with h | h <;> rw [h] <;> simp
        have k1 : (decide ((i : Int) < (m : Int)) && decide ((m : Int) < (e : Int))) = true → 0 < U2.length ∧ 0 < V1.length := fun hf => by
          simp only [Bool.and_eq_true, decide_eq_true_eq] at hf; omega
        have k2 : (decide ((a : Int) < (i : Int)) && decide ((i : Int) < (mid : Int))) = true → 0 < U1.length ∧ 0 < V1.length := fun hf => by
          simp only [Bool.and_eq_true, decide_eq_true_eq] at hf; omega
        have k3 : (decide ((mid : Int) < (e : Int)) && decide ((e : Int) < (b : Int))) = true → 0 < U2.length ∧ 0 < V2.length := fun hf => by
          simp only [Bool.and_eq_true, decide_eq_true_eq] at hf; omega
        rw [← hL4]
        have hz1 := rowI_nz (l := L) (by omega)
        have hz2 := rowI_nz (l := L2) (by omega)
        have hz3 := rowI_nz (l := L3) (by omega)
        have hii : decide ((i : Int) < (i : Int)) = false := by simp
        clear hLu hLv hL1 hL2 hL3 hL4 hres hcut ih sU sV lU lV hU hV hU1 hU2 hV1 hV2 hUe hVe lU1 lV1 lUe lVe hlen hn hl hLL ha hm hb hmid he n1 n2 n3 hL
        rcases Bool.eq_false_or_eq_true (decide ((i : Int) < (m : Int)) && decide ((m : Int) < (e : Int))) with b1 | b1 <;> rcases Bool.eq_false_or_eq_true (decide ((a : Int) < (i : Int)) && decide ((i : Int) < (mid : Int))) with b2 | b2 <;> rcases Bool.eq_false_or_eq_true (decide ((mid : Int) < (e : Int)) && decide ((e : Int) < (b : Int))) with b3 | b3
        all_goals (try rw [t1 b1])
        all_goals (try rw [t2 b2])
        all_goals (try rw [t3 b3])
        all_goals clear t1
        case inl.inl.inl =>
          (try ((try (revert K;refine bK ?_));refine' run (I w1 (I b1 (I b2 (I b3 (I hz1 (I hz2 (I hz3 (I hne2 hii)))))))) ?_;(repeat' first|exact True.intro|refine Lv.mk ?_ ?_|(refine oK ?_;intro K hK)|intro hq);all_goals refine Lf.mk ?_))
          (apply callB' [0, 1] cl171 (cR (k1 b1).1 (k1 b1).2); (case h1 | h2 | h3 => (simp only [go_sem, ↓reduceIte]; try rfl)); (case hl | hs | hfp | hfr => (simp [go_sem]; done)))
          (try ((try (revert K;refine bK ?_));refine' run (I w1 (I b1 (I b2 (I b3 (I hz1 (I hz2 (I hz3 (I hne2 hii)))))))) ?_;(repeat' first|exact True.intro|refine Lv.mk ?_ ?_|(refine oK ?_;intro K hK)|intro hq);all_goals refine Lf.mk ?_))
          (apply callB' [0, 1] cl163 (cA (k2 b2).1 (k2 b2).2); (case h1 | h2 | h3 => (simp only [go_sem, ↓reduceIte]; try rfl)); (case hl | hs | hfp | hfr => (simp [go_sem]; done)))
          (try ((try (revert K;refine bK ?_));refine' run (I w1 (I b1 (I b2 (I b3 (I hz1 (I hz2 (I hz3 (I hne2 hii)))))))) ?_;(repeat' first|exact True.intro|refine Lv.mk ?_ ?_|(refine oK ?_;intro K hK)|intro hq);all_goals refine Lf.mk ?_))
          (apply callB' [0, 1] cl163 (cB (k3 b3).1 (k3 b3).2); (case h1 | h2 | h3 => (simp only [go_sem, ↓reduceIte]; try rfl)); (case hl | hs | hfp | hfr => (simp [go_sem]; done)))
          (try ((try (revert K;refine bK ?_));refine' run (I w1 (I b1 (I b2 (I b3 (I hz1 (I hz2 (I hz3 (I hne2 hii)))))))) ?_;(repeat' first|exact True.intro|refine Lv.mk ?_ ?_|(refine oK ?_;intro K hK)|intro hq);all_goals refine Lf.mk ?_))
        case inl.inl.inr =>
          (try ((try (revert K;refine bK ?_));refine' run (I w1 (I b1 (I b2 (I b3 (I hz1 (I hz2 (I hz3 (I hne2 hii)))))))) ?_;(repeat' first|exact True.intro|refine Lv.mk ?_ ?_|(refine oK ?_;intro K hK)|intro hq);all_goals refine Lf.mk ?_))
          (apply callB' [0, 1] cl171 (cR (k1 b1).1 (k1 b1).2); (case h1 | h2 | h3 => (simp only [go_sem, ↓reduceIte]; try rfl)); (case hl | hs | hfp | hfr => (simp [go_sem]; done)))
          (try ((try (revert K;refine bK ?_));refine' run (I w1 (I b1 (I b2 (I b3 (I hz1 (I hz2 (I hz3 (I hne2 hii)))))))) ?_;(repeat' first|exact True.intro|refine Lv.mk ?_ ?_|(refine oK ?_;intro K hK)|intro hq);all_goals refine Lf.mk ?_))
          (apply callB' [0, 1] cl163 (cA (k2 b2).1 (k2 b2).2); (case h1 | h2 | h3 => (simp only [go_sem, ↓reduceIte]; try rfl)); (case hl | hs | hfp | hfr => (simp [go_sem]; done)))
          rw [t3 b3]
          (try ((try (revert K;refine bK ?_));refine' run (I w1 (I b1 (I b2 (I b3 (I hz1 (I hz2 (I hz3 (I hne2 hii)))))))) ?_;(repeat' first|exact True.intro|refine Lv.mk ?_ ?_|(refine oK ?_;intro K hK)|intro hq);all_goals refine Lf.mk ?_))
        case inl.inr.inl =>
          (try ((try (revert K;refine bK ?_));refine' run (I w1 (I b1 (I b2 (I b3 (I hz1 (I hz2 (I hz3 (I hne2 hii)))))))) ?_;(repeat' first|exact True.intro|refine Lv.mk ?_ ?_|(refine oK ?_;intro K hK)|intro hq);all_goals refine Lf.mk ?_))
          (apply callB' [0, 1] cl171 (cR (k1 b1).1 (k1 b1).2); (case h1 | h2 | h3 => (simp only [go_sem, ↓reduceIte]; try rfl)); (case hl | hs | hfp | hfr => (simp [go_sem]; done)))
          rw [t2 b2]
          (try ((try (revert K;refine bK ?_));refine' run (I w1 (I b1 (I b2 (I b3 (I hz1 (I hz2 (I hz3 (I hne2 hii)))))))) ?_;(repeat' first|exact True.intro|refine Lv.mk ?_ ?_|(refine oK ?_;intro K hK)|intro hq);all_goals refine Lf.mk ?_))
          (apply callB' [0, 1] cl163 (cB (k3 b3).1 (k3 b3).2); (case h1 | h2 | h3 => (simp only [go_sem, ↓reduceIte]; try rfl)); (case hl | hs | hfp | hfr => (simp [go_sem]; done)))
          (try ((try (revert K;refine bK ?_));refine' run (I w1 (I b1 (I b2 (I b3 (I hz1 (I hz2 (I hz3 (I hne2 hii)))))))) ?_;(repeat' first|exact True.intro|refine Lv.mk ?_ ?_|(refine oK ?_;intro K hK)|intro hq);all_goals refine Lf.mk ?_))
        case inl.inr.inr =>
          (try ((try (revert K;refine bK ?_));refine' run (I w1 (I b1 (I b2 (I b3 (I hz1 (I hz2 (I hz3 (I hne2 hii)))))))) ?_;(repeat' first|exact True.intro|refine Lv.mk ?_ ?_|(refine oK ?_;intro K hK)|intro hq);all_goals refine Lf.mk ?_))
          (apply callB' [0, 1] cl171 (cR (k1 b1).1 (k1 b1).2); (case h1 | h2 | h3 => (simp only [go_sem, ↓reduceIte]; try rfl)); (case hl | hs | hfp | hfr => (simp [go_sem]; done)))
          rw [t2 b2]
          rw [t3 b3]
          (try ((try (revert K;refine bK ?_));refine' run (I w1 (I b1 (I b2 (I b3 (I hz1 (I hz2 (I hz3 (I hne2 hii)))))))) ?_;(repeat' first|exact True.intro|refine Lv.mk ?_ ?_|(refine oK ?_;intro K hK)|intro hq);all_goals refine Lf.mk ?_))
        case inr.inl.inl =>
          (try ((try (revert K;refine bK ?_));refine' run (I w1 (I b1 (I b2 (I b3 (I hz1 (I hz2 (I hz3 (I hne2 hii)))))))) ?_;(repeat' first|exact True.intro|refine Lv.mk ?_ ?_|(refine oK ?_;intro K hK)|intro hq);all_goals refine Lf.mk ?_))
          (apply callB' [0, 1] cl163 (cA (k2 b2).1 (k2 b2).2); (case h1 | h2 | h3 => (simp only [go_sem, ↓reduceIte]; try rfl)); (case hl | hs | hfp | hfr => (simp [go_sem]; done)))
          (try ((try (revert K;refine bK ?_));refine' run (I w1 (I b1 (I b2 (I b3 (I hz1 (I hz2 (I hz3 (I hne2 hii)))))))) ?_;(repeat' first|exact True.intro|refine Lv.mk ?_ ?_|(refine oK ?_;intro K hK)|intro hq);all_goals refine Lf.mk ?_))
          (apply callB' [0, 1] cl163 (cB (k3 b3).1 (k3 b3).2); (case h1 | h2 | h3 => (simp only [go_sem, ↓reduceIte]; try rfl)); (case hl | hs | hfp | hfr => (simp [go_sem]; done)))
          (try ((try (revert K;refine bK ?_));refine' run (I w1 (I b1 (I b2 (I b3 (I hz1 (I hz2 (I hz3 (I hne2 hii)))))))) ?_;(repeat' first|exact True.intro|refine Lv.mk ?_ ?_|(refine oK ?_;intro K hK)|intro hq);all_goals refine Lf.mk ?_))
        case inr.inl.inr =>
          (try ((try (revert K;refine bK ?_));refine' run (I w1 (I b1 (I b2 (I b3 (I hz1 (I hz2 (I hz3 (I hne2 hii)))))))) ?_;(repeat' first|exact True.intro|refine Lv.mk ?_ ?_|(refine oK ?_;intro K hK)|intro hq);all_goals refine Lf.mk ?_))
          (apply callB' [0, 1] cl163 (cA (k2 b2).1 (k2 b2).2); (case h1 | h2 | h3 => (simp only [go_sem, ↓reduceIte]; try rfl)); (case hl | hs | hfp | hfr => (simp [go_sem]; done)))
          rw [t3 b3]
          (try ((try (revert K;refine bK ?_));refine' run (I w1 (I b1 (I b2 (I b3 (I hz1 (I hz2 (I hz3 (I hne2 hii)))))))) ?_;(repeat' first|exact True.intro|refine Lv.mk ?_ ?_|(refine oK ?_;intro K hK)|intro hq);all_goals refine Lf.mk ?_))
        case inr.inr.inl =>
          (try ((try (revert K;refine bK ?_));refine' run (I w1 (I b1 (I b2 (I b3 (I hz1 (I hz2 (I hz3 (I hne2 hii)))))))) ?_;(repeat' first|exact True.intro|refine Lv.mk ?_ ?_|(refine oK ?_;intro K hK)|intro hq);all_goals refine Lf.mk ?_))
          (apply callB' [0, 1] cl163 (cB (k3 b3).1 (k3 b3).2); (case h1 | h2 | h3 => (simp only [go_sem, ↓reduceIte]; try rfl)); (case hl | hs | hfp | hfr => (simp [go_sem]; done)))
          (try ((try (revert K;refine bK ?_));refine' run (I w1 (I b1 (I b2 (I b3 (I hz1 (I hz2 (I hz3 (I hne2 hii)))))))) ?_;(repeat' first|exact True.intro|refine Lv.mk ?_ ?_|(refine oK ?_;intro K hK)|intro hq);all_goals refine Lf.mk ?_))
        case inr.inr.inr =>
          (try ((try (revert K;refine bK ?_));refine' run (I w1 (I b1 (I b2 (I b3 (I hz1 (I hz2 (I hz3 (I hne2 hii)))))))) ?_;(repeat' first|exact True.intro|refine Lv.mk ?_ ?_|(refine oK ?_;intro K hK)|intro hq);all_goals refine Lf.mk ?_))
  · have c1 : decide ((mid : Int) < (m : Int)) = false := by simp; omega
    have w9 : IntKind.i64.wrap (((mid + m : Nat) : Int) - b) = ((mid + m : Nat) : Int) - b := by rw [wrap_id] <;> omega
    obtain ⟨s0, hs0⟩ : ∃ s0, s0 = a := ⟨_, rfl⟩
    obtain ⟨r0, hr0⟩ : ∃ r0, r0 = m := ⟨_, rfl⟩
    have Q1 : a ≤ s0 ∧ s0 ≤ r0 ∧ r0 ≤ m ∧ r0 ≤ mid ∧ mid + m ≤ s0 + b := by omega
    have Q2 : Hid ((s0 = a ∨ mid + m = s0 + b) ∧ (r0 = m ∨ r0 = mid)) := by unfold Hid; omega
    have Z : Hid ((a:Int)=(s0:Int)∧(m:Int)=(r0:Int)) := by unfold Hid; omega
    (try ((try (revert K;refine bK ?_));refine' run (I w1 (I w1' (I w2 (I w2' (I w3 (I w4 (I w5 (I w6 (I w7 (I w8 (I w9 c1))))))))))) ?_;(repeat' first|exact True.intro|refine Lv.mk ?_ ?_|(refine oK ?_;intro K hK)|intro hq);all_goals refine Lf.mk ?_))
    clear w1 w1' w2 w2' w3 w4 w5 w6 w7 w8 w9 hmd hgt c1 hs0 hr0
    refine loopW mixed (σ := {p : Nat × Nat // s0 ≤ p.1 ∧ p.1 ≤ p.2 ∧ p.2 ≤ r0 ∧ (s0 < p.1 → ∀ x y, U[p.1 - 1 - a]? = some x → V[mid - p.1]? = some y → ltO h y x = false) ∧ (p.2 < r0 → ∀ x y, U[p.2 - a]? = some x → V[mid - 1 - p.2]? = some y → ltO h y x = true)})
      (fun s => ⟨[(20, int s.1.1), (21, int s.1.2), (0, .osl 0 1 0 N), (1, int a), (2, int m), (3, int b), (18, int mid), (19, int (mid + m : Nat)), (22, int (mid + m - 1 : Nat)), (4, .fn (.func 121) [] [.ptr 1 0])], [(0, some ⟨3, rowC irow L⟩), (1, some ⟨31, h.flat⟩)], 20000⟩) (fun s => s.1.2 - s.1.1) id
      ⟨(s0, r0), Nat.le_refl _, Q1.2.1, Nat.le_refl _, fun h => by omega, fun h => by omega⟩ (by rw [hN]; kernel_rfl) ?_ ?_
    · simp only [go_sem, ↓reduceIte, hF]
      exact ⟨⟨Z.1, Z.2⟩, fun b g h => by have := hF2 b g h; omega⟩
    · rintro ⟨⟨i, j⟩, g1, g2, g3, g4, g5⟩
      simp only at g1 g2 g3 g4 g5
      by_cases hi : i < j
      · have hij : (i + j) / 2 < j ∧ i ≤ (i + j) / 2 := by omega
        have e1 : IntKind.i64.wrap ((i : Int) + j) = ((i + j : Nat) : Int) := by rw [wrap_id] <;> omega
        have e2 : IntKind.u64.wrap ((i + j : Nat) : Int) = ((i + j : Nat) : Int) := by rw [wrap_u] <;> omega
        have e3 := half_n (i + j)
        generalize hqq : (i + j) / 2 = q at *
        have e4 : IntKind.i64.wrap (q : Int) = (q : Int) := by rw [wrap_id] <;> omega
        have e5 : IntKind.i64.wrap ((q : Int) + 1) = ((q + 1 : Nat) : Int) := by rw [wrap_id] <;> omega
        obtain ⟨k, hk⟩ : ∃ k, q = a + k := ⟨q - a, by omega⟩
        obtain ⟨k', hk'⟩ : ∃ k', mid - 1 - q = k' := ⟨_, rfl⟩
        have e6 : IntKind.i64.wrap (((mid + m - 1 : Nat) : Int) - q) = ((m + k' : Nat) : Int) := by rw [wrap_id] <;> omega
        have hk2 : k < U.length := by omega
        have hk3 : k' < V.length := by omega
        have hx : U[k]? = some U[k] := List.getElem?_eq_getElem hk2
        have hpx : placeOf h U[k] := hU _ (List.getElem_mem hk2)
        have hy : V[k']? = some V[k'] := List.getElem?_eq_getElem hk3
        have hpy : placeOf h V[k'] := hV _ (List.getElem_mem hk3)
        have hLq := hLu k _ hx
        have hLp := hLv k' _ hy
        rw [← hk] at hLq
        generalize U[k] = x at *
        generalize V[k'] = y at *
        have r1 := rowI_some hLp
        have r2 := rowI_some hLq
        have hqn : q < N := by omega
        have hmn : m + k' < N := by omega
        have hlr : (rowC irow L).length = N := by rw [rowI_len]; exact hlen
        (try ((try (revert K;refine bK ?_));refine' run (I e1 (I e2 (I e3 (I e4 (I e5 (I e6 (I r1 (I r2 (I hlr (I (eq_true hi) hne2)))))))))) ?_;(repeat' first|exact True.intro|refine Lv.mk ?_ ?_|(refine oK ?_;intro K hK)|intro hq);all_goals refine Lf.mk ?_))
        (apply callL' [1] cl121 (orderJ_f h y x hpy hpx); (case hp | hl => (simp only [go_sem, ↓reduceIte]; try rfl)); (case hx => (simp [AV.flat0])); (try (case hfz => (first | (simp only [go_sem]; done) | (simp [go_sem, fzo]; done)))))
        cases hlt : ltO h y x
        · have d1 : decide (compareJ (dayAt h y) (dayAt h x) < 0) = false := by rw [cmp_lt]; exact hlt
          (try ((try (revert K;refine bK ?_));refine' run (I e1 (I e2 (I e3 (I e4 (I e5 (I e6 (I r1 (I r2 (I hlr (I hne2 d1)))))))))) ?_;(repeat' first|exact True.intro|refine Lv.mk ?_ ?_|(refine oK ?_;intro K hK)|intro hq);all_goals refine Lf.mk ?_))
          refine ⟨⟨(q + 1, j), by show s0 ≤ q + 1; omega, by show q + 1 ≤ j; omega, g3, fun _ x' y' h1 h2 => ?_, g5⟩, id, ?_, by show j - (q + 1) < j - i; omega⟩
          · have h1 : U[q + 1 - 1 - a]? = some x' := h1
            have h2 : V[mid - (q + 1)]? = some y' := h2
            rw [show q + 1 - 1 - a = k by omega, hx] at h1
            rw [show mid - (q + 1) = k' by omega, hy] at h2
            cases h1; cases h2
            exact hlt
          · simp only [go_sem, ↓reduceIte, hF]
            exact fun b g h => by have := hF2 b g h; omega
        · have d1 : decide (compareJ (dayAt h y) (dayAt h x) < 0) = true := by rw [cmp_lt]; exact hlt
          (try ((try (revert K;refine bK ?_));refine' run (I e1 (I e2 (I e3 (I e4 (I e5 (I e6 (I r1 (I r2 (I hlr (I hne2 d1)))))))))) ?_;(repeat' first|exact True.intro|refine Lv.mk ?_ ?_|(refine oK ?_;intro K hK)|intro hq);all_goals refine Lf.mk ?_))
          refine ⟨⟨(i, q), g1, hij.2, by show q ≤ _; omega, g4, fun _ x' y' h1 h2 => ?_⟩, id, ?_, by show q - i < j - i; omega⟩
          · have h1 : U[q - a]? = some x' := h1
            have h2 : V[mid - 1 - q]? = some y' := h2
            rw [show q - a = k by omega, hx] at h1
            rw [hk', hy] at h2
            cases h1; cases h2
            exact hlt
          · simp only [go_sem, ↓reduceIte, hF]
            exact fun b g h => by have := hF2 b g h; omega
      · obtain rfl : i = j := by omega
        clear hi
        obtain ⟨e, he⟩ : ∃ e, e = mid + m - i := ⟨_, rfl⟩
        have w1 : IntKind.i64.wrap (((mid + m : Nat) : Int) - i) = (e : Int) := by rw [wrap_id] <;> omega
        obtain ⟨U1, hU1⟩ : ∃ U1, U1 = U.take (i - a) := ⟨_, rfl⟩
        obtain ⟨U2, hU2⟩ : ∃ U2, U2 = U.drop (i - a) := ⟨_, rfl⟩
        obtain ⟨V1, hV1⟩ : ∃ V1, V1 = V.take (mid - i) := ⟨_, rfl⟩
        obtain ⟨V2, hV2⟩ : ∃ V2, V2 = V.drop (mid - i) := ⟨_, rfl⟩
        have hUe : U = U1 ++ U2 := by rw [hU1, hU2, List.take_append_drop]
        have hVe : V = V1 ++ V2 := by rw [hV1, hV2, List.take_append_drop]
        have lU1 : U1.length = i - a := by rw [hU1, List.length_take]; omega
        have lV1 : V1.length = mid - i := by rw [hV1, List.length_take]; omega
        have lUe : U.length = U1.length + U2.length := by rw [← List.length_append, ← hUe]
        have lVe : V.length = V1.length + V2.length := by rw [← List.length_append, ← hVe]
        have hcut := halves (sw_ltO h) sU sV hUe hVe (fun l1 l2 x y h1 h2 => by
            refine g4 ?_ x y (by rw [← h1]; congr 1; omega) (by rw [← h2, lV1])
            rcases Q2.1 with hq | hq <;> omega) (fun l1 l2 x y h1 h2 => by
            refine g5 ?_ x y (by rw [← h1, lU1]) (by rw [← h2]; congr 1; omega)
            rcases Q2.2 with hq | hq <;> omega)
        clear Q2 Z
        obtain ⟨L2, hL2⟩ : ∃ L2, L2 = X ++ (U1 ++ (V1 ++ (U2 ++ (V2 ++ Y)))) := ⟨_, rfl⟩
        obtain ⟨L3, hL3⟩ : ∃ L3, L3 = X ++ (mrg (ltO h) U1 V1 ++ (U2 ++ (V2 ++ Y))) := ⟨_, rfl⟩
        obtain ⟨L4, hL4⟩ : ∃ L4, L4 = X ++ (mrg (ltO h) U V ++ Y) := ⟨_, rfl⟩
        have hL1 : L = X ++ (U1 ++ (U2 ++ (V1 ++ (V2 ++ Y)))) := by rw [← hLL, hUe, hVe]; simp
        have n1 : L.length = N := hlen
        have n2 : L2.length = N := by rw [hL2]; simp only [List.length_append]; omega
        have n3 : L3.length = N := by rw [hL3]; simp only [List.length_append, mrg_len]; omega
        have hres : L4 = X ++ (mrg (ltO h) U1 V1 ++ (mrg (ltO h) U2 V2 ++ Y)) := by rw [hL4, hcut]; simp
        have cR : 0 < U2.length → 0 < V1.length → FunB Tryz.prog 171 [(0, ⟨3, rowC irow L⟩), (1, ⟨31, h.flat⟩)] [.osl 0 1 0 N, int i, int m, int e, .fn (.func 121) [] [.ptr 1 0]] (.tup []) [(0, some ⟨3, rowC irow L2⟩)] := fun p1 p2 => by
          have c := rotate_f h (X ++ U1) U2 V1 (V2 ++ Y) m (by rw [List.length_append]; omega) p1 p2 (by simp only [List.length_append]; omega)
          rw [show (X ++ U1) ++ (U2 ++ (V1 ++ (V2 ++ Y))) = L by rw [hL1]; simp, show (X ++ U1) ++ (V1 ++ (U2 ++ (V2 ++ Y))) = L2 by rw [hL2]; simp, n1, show (X ++ U1).length = i by rw [List.length_append]; omega, show m + V1.length = e by omega] at c
          exact c
        have cA : 0 < U1.length → 0 < V1.length → FunB Tryz.prog 163 [(0, ⟨3, rowC irow L2⟩), (1, ⟨31, h.flat⟩)] [.osl 0 1 0 N, int a, int i, int mid, .fn (.func 121) [] [.ptr 1 0]] (.tup []) [(0, some ⟨3, rowC irow L3⟩)] := fun p1 p2 => by
          have c := ih X U1 V1 (U2 ++ (V2 ++ Y)) (by omega) (by rw [← hL2]; omega) p1 p2 (fun x hx => hU x (by rw [hUe]; simp [hx])) (fun x hx => hV x (by rw [hVe]; simp [hx])) (Srt.app.1 (hUe ▸ sU)).1 (Srt.app.1 (hVe ▸ sV)).1
          unfold SymM at c
          rw [← hL2, ← hL3, n2, ha, show a + U1.length = i by omega, show i + V1.length = mid by omega] at c
          exact c
        have cB : 0 < U2.length → 0 < V2.length → FunB Tryz.prog 163 [(0, ⟨3, rowC irow L3⟩), (1, ⟨31, h.flat⟩)] [.osl 0 1 0 N, int mid, int e, int b, .fn (.func 121) [] [.ptr 1 0]] (.tup []) [(0, some ⟨3, rowC irow L4⟩)] := fun p1 p2 => by
          have c := ih (X ++ mrg (ltO h) U1 V1) U2 V2 Y (by omega) (by simp only [List.length_append, mrg_len]; omega) p1 p2 (fun x hx => hU x (by rw [hUe]; simp [hx])) (fun x hx => hV x (by rw [hVe]; simp [hx])) (Srt.app.1 (hUe ▸ sU)).2.1 (Srt.app.1 (hVe ▸ sV)).2.1
          unfold SymM at c
          rw [show (X ++ mrg (ltO h) U1 V1) ++ (U2 ++ (V2 ++ Y)) = L3 by rw [hL3]; simp, show (X ++ mrg (ltO h) U1 V1) ++ (mrg (ltO h) U2 V2 ++ Y) = L4 by rw [hres]; simp, n3, show (X ++ mrg (ltO h) U1 V1).length = mid by rw [List.length_append, mrg_len]; omega, show mid + U2.length = e by omega, show e + V2.length = b by omega] at c
          exact c
        have t1 : (decide ((i : Int) < (m : Int)) && decide ((m : Int) < (e : Int))) = false → L = L2 := fun hf => by
          have : U2 = [] ∨ V1 = [] := by
            simp only [Bool.and_eq_false_iff, decide_eq_false_iff_not] at hf
            rcases hf with hf | hf
            · exact .inl (List.eq_nil_of_length_eq_zero (by omega))
            · exact .inr (List.eq_nil_of_length_eq_zero (by omega))
          rw [hL1, hL2]
          rcases this with h | h <;> rw [h] <;> simp
        have t2 : (decide ((a : Int) < (i : Int)) && decide ((i : Int) < (mid : Int))) = false → L2 = L3 := fun hf => by
          have : U1 = [] ∨ V1 = [] := by
            simp only [Bool.and_eq_false_iff, decide_eq_false_iff_not] at hf
            rcases hf with hf | hf
            · exact .inl (List.eq_nil_of_length_eq_zero (by omega))
            · exact .inr (List.eq_nil_of_length_eq_zero (by omega))
          rw [hL2, hL3]
          rcases this with h | h <;> rw [h] <;> simp
        have t3 : (decide ((mid : Int) < (e : Int)) && decide ((e : Int) < (b : Int))) = false → L3 = L4 := fun hf => by
          have : U2 = [] ∨ V2 = [] := by
            simp only [Bool.and_eq_false_iff, decide_eq_false_iff_not] at hf
            rcases hf with hf | hf
            · exact .inl (List.eq_nil_of_length_eq_zero (by omega))
            · exact .inr (List.eq_nil_of_length_eq_zero (by omega))
          rw [hL3, hres]
          rcases this with h | h <;> rw [h] <;> simp
        have k1 : (decide ((i : Int) < (m : Int)) && decide ((m : Int) < (e : Int))) = true → 0 < U2.length ∧ 0 < V1.length := fun hf => by
          simp only [Bool.and_eq_true, decide_eq_true_eq] at hf; omega
        have k2 : (decide ((a : Int) < (i : Int)) && decide ((i : Int) < (mid : Int))) = true → 0 < U1.length ∧ 0 < V1.length := fun hf => by
          simp only [Bool.and_eq_true, decide_eq_true_eq] at hf; omega
        have k3 : (decide ((mid : Int) < (e : Int)) && decide ((e : Int) < (b : Int))) = true → 0 < U2.length ∧ 0 < V2.length := fun hf => by
          simp only [Bool.and_eq_true, decide_eq_true_eq] at hf; omega
        rw [← hL4]
        have hz1 := rowI_nz (l := L) (by omega)
        have hz2 := rowI_nz (l := L2) (by omega)
        have hz3 := rowI_nz (l := L3) (by omega)
        have hii : decide ((i : Int) < (i : Int)) = false := by simp
        clear hLu hLv hL1 hL2 hL3 hL4 hres hcut ih sU sV lU lV hU hV hU1 hU2 hV1 hV2 hUe hVe lU1 lV1 lUe lVe hlen hn hl hLL ha hm hb hmid he n1 n2 n3 hL
        rcases Bool.eq_false_or_eq_true (decide ((i : Int) < (m : Int)) && decide ((m : Int) < (e : Int))) with b1 | b1 <;> rcases Bool.eq_false_or_eq_true (decide ((a : Int) < (i : Int)) && decide ((i : Int) < (mid : Int))) with b2 | b2 <;> rcases Bool.eq_false_or_eq_true (decide ((mid : Int) < (e : Int)) && decide ((e : Int) < (b : Int))) with b3 | b3
        all_goals (try rw [t1 b1])
        all_goals (try rw [t2 b2])
        all_goals (try rw [t3 b3])
        all_goals clear t1
        case inl.inl.inl =>
          (try ((try (revert K;refine bK ?_));refine' run (I w1 (I b1 (I b2 (I b3 (I hz1 (I hz2 (I hz3 (I hne2 hii)))))))) ?_;(repeat' first|exact True.intro|refine Lv.mk ?_ ?_|(refine oK ?_;intro K hK)|intro hq);all_goals refine Lf.mk ?_))
          (apply callB' [0, 1] cl171 (cR (k1 b1).1 (k1 b1).2); (case h1 | h2 | h3 => (simp only [go_sem, ↓reduceIte]; try rfl)); (case hl | hs | hfp | hfr => (simp [go_sem]; done)))
          (try ((try (revert K;refine bK ?_));refine' run (I w1 (I b1 (I b2 (I b3 (I hz1 (I hz2 (I hz3 (I hne2 hii)))))))) ?_;(repeat' first|exact True.intro|refine Lv.mk ?_ ?_|(refine oK ?_;intro K hK)|intro hq);all_goals refine Lf.mk ?_))
          (apply callB' [0, 1] cl163 (cA (k2 b2).1 (k2 b2).2); (case h1 | h2 | h3 => (simp only [go_sem, ↓reduceIte]; try rfl)); (case hl | hs | hfp | hfr => (simp [go_sem]; done)))
          (try ((try (revert K;refine bK ?_));refine' run (I w1 (I b1 (I b2 (I b3 (I hz1 (I hz2 (I hz3 (I hne2 hii)))))))) ?_;(repeat' first|exact True.intro|refine Lv.mk ?_ ?_|(refine oK ?_;intro K hK)|intro hq);all_goals refine Lf.mk ?_))
          (apply callB' [0, 1] cl163 (cB (k3 b3).1 (k3 b3).2); (case h1 | h2 | h3 => (simp only [go_sem, ↓reduceIte]; try rfl)); (case hl | hs | hfp | hfr => (simp [go_sem]; done)))
          (try ((try (revert K;refine bK ?_));refine' run (I w1 (I b1 (I b2 (I b3 (I hz1 (I hz2 (I hz3 (I hne2 hii)))))))) ?_;(repeat' first|exact True.intro|refine Lv.mk ?_ ?_|(refine oK ?_;intro K hK)|intro hq);all_goals refine Lf.mk ?_))
        case inl.inl.inr =>
          (try ((try (revert K;refine bK ?_));refine' run (I w1 (I b1 (I b2 (I b3 (I hz1 (I hz2 (I hz3 (I hne2 hii)))))))) ?_;(repeat' first|exact True.intro|refine Lv.mk ?_ ?_|(refine oK ?_;intro K hK)|intro hq);all_goals refine Lf.mk ?_))
          (apply callB' [0, 1] cl171 (cR (k1 b1).1 (k1 b1).2); (case h1 | h2 | h3 => (simp only [go_sem, ↓reduceIte]; try rfl)); (case hl | hs | hfp | hfr => (simp [go_sem]; done)))
          (try ((try (revert K;refine bK ?_));refine' run (I w1 (I b1 (I b2 (I b3 (I hz1 (I hz2 (I hz3 (I hne2 hii)))))))) ?_;(repeat' first|exact True.intro|refine Lv.mk ?_ ?_|(refine oK ?_;intro K hK)|intro hq);all_goals refine Lf.mk ?_))
          (apply callB' [0, 1] cl163 (cA (k2 b2).1 (k2 b2).2); (case h1 | h2 | h3 => (simp only [go_sem, ↓reduceIte]; try rfl)); (case hl | hs | hfp | hfr => (simp [go_sem]; done)))
          rw [t3 b3]
          (try ((try (revert K;refine bK ?_));refine' run (I w1 (I b1 (I b2 (I b3 (I hz1 (I hz2 (I hz3 (I hne2 hii)))))))) ?_;(repeat' first|exact True.intro|refine Lv.mk ?_ ?_|(refine oK ?_;intro K hK)|intro hq);all_goals refine Lf.mk ?_))
        case inl.inr.inl =>
          (try ((try (revert K;refine bK ?_));refine' run (I w1 (I b1 (I b2 (I b3 (I hz1 (I hz2 (I hz3 (I hne2 hii)))))))) ?_;(repeat' first|exact True.intro|refine Lv.mk ?_ ?_|(refine oK ?_;intro K hK)|intro hq);all_goals refine Lf.mk ?_))
          (apply callB' [0, 1] cl171 (cR (k1 b1).1 (k1 b1).2); (case h1 | h2 | h3 => (simp only [go_sem, ↓reduceIte]; try rfl)); (case hl | hs | hfp | hfr => (simp [go_sem]; done)))
          rw [t2 b2]
          (try ((try (revert K;refine bK ?_));refine' run (I w1 (I b1 (I b2 (I b3 (I hz1 (I hz2 (I hz3 (I hne2 hii)))))))) ?_;(repeat' first|exact True.intro|refine Lv.mk ?_ ?_|(refine oK ?_;intro K hK)|intro hq);all_goals refine Lf.mk ?_))
          (apply callB' [0, 1] cl163 (cB (k3 b3).1 (k3 b3).2); (case h1 | h2 | h3 => (simp only [go_sem, ↓reduceIte]; try rfl)); (case hl | hs | hfp | hfr => (simp [go_sem]; done)))
          (try ((try (revert K;refine bK ?_));refine' run (I w1 (I b1 (I b2 (I b3 (I hz1 (I hz2 (I hz3 (I hne2 hii)))))))) ?_;(repeat' first|exact True.intro|refine Lv.mk ?_ ?_|(refine oK ?_;intro K hK)|intro hq);all_goals refine Lf.mk ?_))
        case inl.inr.inr =>
          (try ((try (revert K;refine bK ?_));refine' run (I w1 (I b1 (I b2 (I b3 (I hz1 (I hz2 (I hz3 (I hne2 hii)))))))) ?_;(repeat' first|exact True.intro|refine Lv.mk ?_ ?_|(refine oK ?_;intro K hK)|intro hq);all_goals refine Lf.mk ?_))
          (apply callB' [0, 1] cl171 (cR (k1 b1).1 (k1 b1).2); (case h1 | h2 | h3 => (simp only [go_sem, ↓reduceIte]; try rfl)); (case hl | hs | hfp | hfr => (simp [go_sem]; done)))
          rw [t2 b2]
          rw [t3 b3]
          (try ((try (revert K;refine bK ?_));refine' run (I w1 (I b1 (I b2 (I b3 (I hz1 (I hz2 (I hz3 (I hne2 hii)))))))) ?_;(repeat' first|exact True.intro|refine Lv.mk ?_ ?_|(refine oK ?_;intro K hK)|intro hq);all_goals refine Lf.mk ?_))
        case inr.inl.inl =>
          (try ((try (revert K;refine bK ?_));refine' run (I w1 (I b1 (I b2 (I b3 (I hz1 (I hz2 (I hz3 (I hne2 hii)))))))) ?_;(repeat' first|exact True.intro|refine Lv.mk ?_ ?_|(refine oK ?_;intro K hK)|intro hq);all_goals refine Lf.mk ?_))
          (apply callB' [0, 1] cl163 (cA (k2 b2).1 (k2 b2).2); (case h1 | h2 | h3 => (simp only [go_sem, ↓reduceIte]; try rfl)); (case hl | hs | hfp | hfr => (simp [go_sem]; done)))
          (try ((try (revert K;refine bK ?_));refine' run (I w1 (I b1 (I b2 (I b3 (I hz1 (I hz2 (I hz3 (I hne2 hii)))))))) ?_;(repeat' first|exact True.intro|refine Lv.mk ?_ ?_|(refine oK ?_;intro K hK)|intro hq);all_goals refine Lf.mk ?_))
          (apply callB' [0, 1] cl163 (cB (k3 b3).1 (k3 b3).2); (case h1 | h2 | h3 => (simp only [go_sem, ↓reduceIte]; try rfl)); (case hl | hs | hfp | hfr => (simp [go_sem]; done)))
          (try ((try (revert K;refine bK ?_));refine' run (I w1 (I b1 (I b2 (I b3 (I hz1 (I hz2 (I hz3 (I hne2 hii)))))))) ?_;(repeat' first|exact True.intro|refine Lv.mk ?_ ?_|(refine oK ?_;intro K hK)|intro hq);all_goals refine Lf.mk ?_))
        case inr.inl.inr =>
          (try ((try (revert K;refine bK ?_));refine' run (I w1 (I b1 (I b2 (I b3 (I hz1 (I hz2 (I hz3 (I hne2 hii)))))))) ?_;(repeat' first|exact True.intro|refine Lv.mk ?_ ?_|(refine oK ?_;intro K hK)|intro hq);all_goals refine Lf.mk ?_))
          (apply callB' [0, 1] cl163 (cA (k2 b2).1 (k2 b2).2); (case h1 | h2 | h3 => (simp only [go_sem, ↓reduceIte]; try rfl)); (case hl | hs | hfp | hfr => (simp [go_sem]; done)))
          rw [t3 b3]
          (try ((try (revert K;refine bK ?_));refine' run (I w1 (I b1 (I b2 (I b3 (I hz1 (I hz2 (I hz3 (I hne2 hii)))))))) ?_;(repeat' first|exact True.intro|refine Lv.mk ?_ ?_|(refine oK ?_;intro K hK)|intro hq);all_goals refine Lf.mk ?_))
        case inr.inr.inl =>
          (try ((try (revert K;refine bK ?_));refine' run (I w1 (I b1 (I b2 (I b3 (I hz1 (I hz2 (I hz3 (I hne2 hii)))))))) ?_;(repeat' first|exact True.intro|refine Lv.mk ?_ ?_|(refine oK ?_;intro K hK)|intro hq);all_goals refine Lf.mk ?_))
          (apply callB' [0, 1] cl163 (cB (k3 b3).1 (k3 b3).2); (case h1 | h2 | h3 => (simp only [go_sem, ↓reduceIte]; try rfl)); (case hl | hs | hfp | hfr => (simp [go_sem]; done)))
          (try ((try (revert K;refine bK ?_));refine' run (I w1 (I b1 (I b2 (I b3 (I hz1 (I hz2 (I hz3 (I hne2 hii)))))))) ?_;(repeat' first|exact True.intro|refine Lv.mk ?_ ?_|(refine oK ?_;intro K hK)|intro hq);all_goals refine Lf.mk ?_))
        case inr.inr.inr =>
          (try ((try (revert K;refine bK ?_));refine' run (I w1 (I b1 (I b2 (I b3 (I hz1 (I hz2 (I hz3 (I hne2 hii)))))))) ?_;(repeat' first|exact True.intro|refine Lv.mk ?_ ?_|(refine oK ?_;intro K hK)|intro hq);all_goals refine Lf.mk ?_))
theorem symMerge_f (h : History) : ∀ (n : Nat) (X U V Y : List Int), U.length + V.length ≤ n → (X ++ (U ++ (V ++ Y))).length ≤ 100000 → 0 < U.length → 0 < V.length → (∀ x, x ∈ U → placeOf h x) → (∀ x, x ∈ V → placeOf h x) → Srt (ltO h) U → Srt (ltO h) V → SymM h X U V Y := by
  intro n
  induction n with
  | zero => intro X U V Y h1 _ h2; omega
  | succ n ih =>
    intro X U V Y h1 hl hu hv hU hV sU sV
    by_cases h2 : U.length = 1
    · obtain ⟨u, rfl⟩ := List.length_eq_one_iff.1 h2
      have c := symMerge1_f h X V Y u (by simpa using hl) (hU u (by simp)) hV sV
      unfold SymM
      simpa using c
    · by_cases h3 : V.length = 1
      · obtain ⟨v, rfl⟩ := List.length_eq_one_iff.1 h3
        have c := symMerge2_f h X U Y v (by simpa using hl) (hV v (by simp)) hU sU h2
        unfold SymM
        simpa using c
      · exact symMerge3_f h X U V Y hl hU hV sU sV (by omega) (by omega) fun X' U' V' Y' k1 k2 k3 k4 k5 k6 k7 k8 => ih X' U' V' Y' (by omega) k2 k3 k4 k5 k6 k7 k8
end Go.Proofs.YtkonljmmdifnaaaGreat.V
