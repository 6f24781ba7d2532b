/- What was known on a day (plain). Laws of chapter 19: Known. -/
-- STEPS: new
import Derived.Test.YtjplhfmakghabaaM2
import Derived.Test.YtjplhfmakghabaaM8
import Derived.Test.YtjplhfmakghabaaM4
set_option linter.unusedSimpArgs false
set_option linter.unusedVariables false
namespace Go.Proofs.Ytjplhfmakghabaa.V
set_option maxRecDepth 100000

def knownL (l : List File) (d : Int) : List File := l.map fun f => f.at d
/-- What is booked up to a day is a beginning. -/
theorem acts_cut (d : Int) : ∀ {E : List Act}, E.Pairwise (fun a b => a.booked ≤ b.booked) → ∃ F, E = keepD d E ++ F ∧ ∀ s, s ∈ F → d < s.booked
  | [], _ => ⟨[], rfl, by simp⟩
  | x :: E, h => by
    have h2 := List.pairwise_cons.1 h
    by_cases hx : x.booked ≤ d
    · obtain ⟨F, h3, h4⟩ := acts_cut d h2.2
      refine ⟨F, ?_, h4⟩
      unfold keepD at *
      rw [List.filter_cons_of_pos (by simpa using hx), List.cons_append, ← h3]
    · refine ⟨x :: E, ?_, fun s hs => ?_⟩
      · have : keepD d (x :: E) = [] := by
          unfold keepD
          rw [List.filter_eq_nil_iff]
          intro s hs
          rcases List.mem_cons.1 hs with rfl | hs
          · simpa using hx
          · have := h2.1 s hs; simp; omega
        rw [this]; rfl
      · rcases List.mem_cons.1 hs with rfl | hs
        · omega
        · have := h2.1 s hs; omega
theorem made_at {f : File} (h : f.made = true) (d : Int) : (f.at d).made = true := by
  obtain ⟨F, h1, -⟩ := acts_cut d (made_good h).srt
  unfold File.made at h ⊢
  rw [h1, madeL_app, Bool.and_eq_true] at h
  exact h.1
theorem right_at {c : Cover} {l : List File} (h : adjRight c l = true) (d : Int) : adjRight c (knownL l d) = true := by
  rw [adjRight, Bool.and_eq_true, List.all_eq_true] at h ⊢
  refine ⟨h.1, fun g hg => ?_⟩
  obtain ⟨f, hf, rfl⟩ := List.mem_map.1 hg
  have h1 := h.2 f hf
  rw [okFile, Bool.and_eq_true] at h1 ⊢
  exact ⟨h1.1, made_at h1.2 d⟩
theorem acts_at (l : List File) (d : Int) : actsN (knownL l d) ≤ actsN l := by
  induction l with
  | nil => exact Nat.le_refl _
  | cons f l ih =>
    have h1 : actsN (knownL (f :: l) d) = (keepD d f.acts).length + actsN (knownL l d) := by simp [actsN, knownL, File.at]
    have h2 : actsN (f :: l) = f.acts.length + actsN l := by simp [actsN]
    have h3 := keepD_le d f.acts
    omega
theorem known_len (l : List File) (d : Int) : (knownL l d).length = l.length := by simp [knownL]
theorem check_at {c : Cover} {l : List File} (he : checkE c l = 0) (d : Int) : checkE c (knownL l d) = 0 := by
  obtain ⟨har, h1, h2⟩ := chk_right he
  have h3 := acts_at l d
  rw [checkE, if_neg (by rw [right_at har d]; decide), if_neg (by rw [known_len]; omega)]
theorem steps_at (d : Int) : ∀ (l : List File) (k : Nat), stepsL k (knownL l d) = (stepsL k l).filter fun s => decide (s.act.booked ≤ d)
  | [], _ => rfl
  | f :: l, k => by
    have h1 : stepsL k (knownL (f :: l) d) = (keepD d f.acts).map (fun a => (⟨k, a⟩ : Stp)) ++ stepsL (k + 1) (knownL l d) := rfl
    rw [h1, steps_at d l, stepsL, List.filter_append]
    congr 1
    rw [List.filter_map]
    rfl
theorem ord_at (l : List File) (d : Int) : ordL (knownL l d) = (ordL l).filter fun s => decide (s.act.booked ≤ d) := by
  unfold ordL
  rw [steps_at, isort_filter sw_ltT]
theorem pay_more (c : Cover) : ∀ (F : List Stp) (s : PS), ∃ G, (F.foldl (payOne c) s).out = s.out ++ G ∧ ∀ r, r ∈ G → ∃ x, x ∈ F ∧ r.2.1 = x.act.booked
  | [], s => ⟨[], by simp, by simp⟩
  | x :: F, s => by
    obtain ⟨G, h1, h2⟩ := pay_more c F (payOne c s x)
    have h3 : (payOne c s x).out = s.out ∨ ∃ k v, (payOne c s x).out = s.out ++ [(k, x.act.booked, v)] := by
      unfold payOne
      simp only
      split
      · split
        · exact .inl rfl
        · exact .inr ⟨_, _, rfl⟩
      · exact .inl rfl
    rw [List.foldl_cons, h1]
    rcases h3 with h3 | ⟨k, v, h3⟩
    · refine ⟨G, by rw [h3], fun r hr => ?_⟩
      obtain ⟨y, hy, he⟩ := h2 r hr
      exact ⟨y, by simp [hy], he⟩
    · refine ⟨(k, x.act.booked, v) :: G, by rw [h3]; simp, fun r hr => ?_⟩
      rcases List.mem_cons.1 hr with rfl | hr
      · exact ⟨x, by simp, rfl⟩
      · obtain ⟨y, hy, he⟩ := h2 r hr
        exact ⟨y, by simp [hy], he⟩
/-- What was paid up to a day. -/
theorem paid_at {c : Cover} {l : List File} (he : checkE c l = 0) (d : Int) : paidR c (knownL l d) = (paidR c l).filter fun r => decide (r.2.1 ≤ d) := by
  obtain ⟨har, _⟩ := chk_right he
  rw [paidR, if_pos (check_at he d), paidR, if_pos he, known_len, ord_at]
  obtain ⟨F, h1, h2⟩ := booked_cut d (srt_booked (ordL_srt l))
  have hI := payL_PI (right_at har d) (ordL (knownL l d)).length (Nat.le_refl _)
  rw [List.take_length, known_len, ord_at] at hI
  have hEd : ∀ s, s ∈ (ordL l).filter (fun s => decide (s.act.booked ≤ d)) → s.act.booked ≤ d := fun s hs => by simpa using (List.mem_filter.1 hs).2
  obtain ⟨E, hE⟩ : ∃ E, E = (ordL l).filter fun s => decide (s.act.booked ≤ d) := ⟨_, rfl⟩
  rw [← hE] at h1 hI hEd ⊢
  clear hE
  rw [h1]
  have hp : payL c l.length (E ++ F) = F.foldl (payOne c) (payL c l.length E) := by rw [payL, List.foldl_append]; rfl
  obtain ⟨G, g1, g2⟩ := pay_more c F (payL c l.length E)
  rw [hp, g1, List.filter_append]
  have e1 : (payL c l.length E).out.filter (fun r => decide (r.2.1 ≤ d)) = (payL c l.length E).out := by
    rw [List.filter_eq_self]
    intro r hr
    have h3 := hI.dy.subset (List.mem_map.2 ⟨r, hr, rfl⟩)
    obtain ⟨x, hx, h4⟩ := List.mem_map.1 h3
    have := hEd x hx
    simp
    omega
  have e2 : G.filter (fun r => decide (r.2.1 ≤ d)) = [] := by
    rw [List.filter_eq_nil_iff]
    intro r hr
    obtain ⟨x, hx, h4⟩ := g2 r hr
    have := h2 x hx
    simp
    omega
  rw [e1, e2, List.append_nil]
end Go.Proofs.Ytjplhfmakghabaa.V
namespace Go.Proofs.Ytjplhfmakghabaa.V
open Go.RowKit
set_option maxRecDepth 100000
attribute [local go_sem] Option.toList_some Option.toList_none

@[go_sem] theorem rowF_ren (r : Nat → Nat) (l : List File) : (rowC File.flat l).map (AV.ren r) = rowC File.flat l := rows_ren (fun x r => by simp [File.flat]) r l
@[go_sem] theorem rowF_nms (p : Nat → Bool) (l : List File) : (rowC File.flat l).all (AV.names p) = true := rows_nms (fun x p => by simp [File.flat]) p l
theorem rowF_len (l : List File) : (rowC File.flat l).length = l.length * 7 := rowC_len (F := File.flat) (k := 7) (fun _ => rfl) l
theorem rowF_snoc (l : List File) (f : File) : rowC File.flat (l ++ [f]) = rowC File.flat l ++ [int f.claim.id, int f.claim.policy, int f.claim.peril, int f.claim.loss, int f.claim.booked, int f.claim.event, actsA f.acts] := by simp [rowC, File.flat]
theorem fz_files {box : Boxes} {b n : Nat} {t : TypeId} {L : List File} (d : Nat) (h : bget box b = some ⟨t, rowC File.flat L⟩) (hn : n = L.length) : fz box (d + 1) (.osl b 7 0 n) (filesA L) := by
  rw [fz_osl, h]
  exact ⟨⟨rfl, rfl, by omega, by simp [hn], rows_len (F := File.flat) (fun _ => rfl) L⟩, fzo_rows (F := File.flat) (k := 7) (fun _ => rfl) (fun _ => by simp [File.flat]) L hn⟩
theorem fz_rows3 {box : Boxes} {b n : Nat} {t : TypeId} {L : List (Int × Int × Int)} (d : Nat) (h : bget box b = some ⟨t, rowC r3row L⟩) (hn : n = L.length) : fz box (d + 1) (.osl b 3 0 n) (rowsA L) := by
  rw [fz_osl, h]
  exact ⟨⟨rfl, rfl, by omega, by simp [hn], rows_len (F := r3row) (fun _ => rfl) L⟩, fzo_rows (F := r3row) (k := 3) (fun _ => rfl) (fun _ => by simp [r3row]) L hn⟩
set_option maxHeartbeats 8000000 in
theorem knownLaw (c : Cover) (l : List File) (d : Int) (hc : c.ok) : Fun Try.prog 9 [.agg c.flat, filesA l, int d] (bool true) := by
  by_cases hf : fewB l = true
  · have hl := few_len hf
    have k1 := paid_f c l hc (by omega)
    by_cases he : checkE c l = 0
    · have k2 := paid_f c (knownL l d) hc (by rw [known_len]; omega)
      rw [check_at he, paid_at he] at k2
      have hR1 := (rows_ok he).1
      have hrl := right_len (chk_right he).1
      rw [he] at k1
      generalize paidR c l = R at *
      refine fun_W mixed Try.func9 rfl (Nat.le_of_ble_eq_true rfl) (by kernel_rfl) fun cx hN hR hF hL => ?_; apply args_k; (case hA => (simp only [go_sem, ↓reduceIte]; rfl))
      (repeat' (first | (with_reducible exact trivial) | ((with_reducible apply byE); simp only [go_sem, ↓reduceIte, hf]; try with_reducible rfl) | (with_reducible first | apply Aa | apply As | apply Au | apply Av | apply Aj | apply At | apply Aw | apply Ab | apply Ac | apply Ad | apply Ae | apply Af | apply Ag | apply Ah | apply Ai | apply Ak | apply Al) | ((with_reducible first | apply An | apply Ao); (case hs => rfl)) | (with_reducible first | apply Am | apply Ap | apply Aq | apply Ar | apply Ax | apply Ay | apply Az | apply Ba | apply Bb | apply Bc | apply Bd | apply Be | apply Ca | apply Cb | apply Cc | apply Cd | apply Ce | apply Cf | apply Cg | apply Ch | apply Ci | apply Bf | apply Cj | apply Ck | apply Cl | apply Cm | apply Cn | apply Co | apply Cp) | ((with_reducible apply byR); rfl) | ((with_reducible first | apply byKt | apply byKs); kernel_rfl) | ((with_reducible apply byL); simp only [econs, List.map_cons, List.map_nil, List.cons_append, List.nil_append, OpS.nm, OpS.reads, OpS.turns, Nat.reduceAdd]; try rfl) | ((with_reducible apply byG); intro hg; try simp only [hg]) | ((with_reducible apply byQ); intro hq; try simp only [hqs] at hq; try (exfalso; omega)) | ((with_reducible apply byI); intro K hK) | ((with_reducible apply byH); repeat (first | (with_reducible exact dst_z rfl) | (with_reducible apply dst_s))) | ((with_reducible apply byN); unfold NapOK; kernel_rfl) | ((with_reducible apply byD); first | (simp; done) | (simp [go_sem]; done)) | (with_reducible refine hK _ _ ?_; clear hK; clear K) | omega | ((with_reducible apply callX cl15 (few_f l)); (case hl => rfl)) | ((with_reducible apply callX cl17 (k1)); (case hl => rfl)) | contradiction))
      refine loop_nil 9 6000 7 44 rfl (Nat.le_of_ble_eq_true rfl) ?_
      refine loopW mixed (σ := {i : Nat // i ≤ l.length}) (fun s => ⟨[(32, int s.1), (9, .osl 6000 7 0 s.1), (30, filesA l), (31, int l.length), (2, int d), (3, .ptr 0 0), (7, rowsA R)], [(6000, some ⟨44, rowC File.flat (knownL (l.take s.1) d)⟩), (0, some ⟨23, c.flat⟩)], 6001⟩) (fun s => l.length - s.1) id ⟨0, by omega⟩ (by rw [hN]; kernel_rfl) ?_ ?_
      · simp only [go_sem, ↓reduceIte, hF]
        exact ⟨rfl, rfl⟩
      · rintro ⟨i, g1⟩
        by_cases gi : i < l.length
        · have e0 : l[i]? = some l[i] := List.getElem?_eq_getElem gi
          have e1 : (l.map File.flat)[i]? = some l[i].flat := by rw [List.getElem?_map, e0]; rfl
          have e2 : IntKind.i64.wrap ((i : Int) + 1) = ((i + 1 : Nat) : Int) := by rw [wrap_id] <;> omega
          have hk1 : i < (l.map File.flat).length := by simpa using gi
          have hsn : knownL (l.take (i + 1)) d = knownL (l.take i) d ++ [l[i].at d] := by rw [List.take_succ_eq_append_getElem gi, knownL, List.map_append]; rfl
          have hat := claimAt_f l[i] d (Nat.le_trans (hrl _ (List.getElem_mem gi)) (by omega))
          have hln := rowF_len (knownL (l.take i) d)
          rw [known_len, List.length_take, Nat.min_eq_left g1] at hln
          generalize l[i] = f at *
          (repeat' (first | (with_reducible exact trivial) | ((with_reducible apply byE); simp only [go_sem, ↓reduceIte, e1, e2, hk1]; try with_reducible rfl) | (with_reducible first | apply Aa | apply As | apply Au | apply Av | apply Aj | apply At | apply Aw | apply Ab | apply Ac | apply Ad | apply Ae | apply Af | apply Ag | apply Ah | apply Ai | apply Ak | apply Al) | ((with_reducible first | apply An | apply Ao); (case hs => rfl)) | (with_reducible first | apply Am | apply Ap | apply Aq | apply Ar | apply Ax | apply Ay | apply Az | apply Ba | apply Bb | apply Bc | apply Bd | apply Be | apply Ca | apply Cb | apply Cc | apply Cd | apply Ce | apply Cf | apply Cg | apply Ch | apply Ci | apply Bf | apply Cj | apply Ck | apply Cl | apply Cm | apply Cn | apply Co | apply Cp) | ((with_reducible apply byR); rfl) | ((with_reducible first | apply byKt | apply byKs); kernel_rfl) | ((with_reducible apply byL); simp only [econs, List.map_cons, List.map_nil, List.cons_append, List.nil_append, OpS.nm, OpS.reads, OpS.turns, Nat.reduceAdd]; try rfl) | ((with_reducible apply byG); intro hg; try simp only [hg]) | ((with_reducible apply byQ); intro hq; try simp only [hqs] at hq; try (exfalso; omega)) | ((with_reducible apply byI); intro K hK) | ((with_reducible apply byH); repeat (first | (with_reducible exact dst_z rfl) | (with_reducible apply dst_s))) | ((with_reducible apply byN); unfold NapOK; kernel_rfl) | ((with_reducible apply byD); first | (simp; done) | (simp [go_sem]; done)) | (with_reducible refine hK _ _ ?_; clear hK; clear K) | omega | ((with_reducible apply callX cl28 (hat)); (case hl => rfl)) | contradiction))
          · refine ⟨⟨i + 1, gi⟩, nm1 6000 8041, ?_, by show l.length - (i + 1) < l.length - i; omega⟩
            simp only [hsn, rowF_snoc]
            simp only [go_sem, ↓reduceIte, hF, List.map_append, List.all_append]
          · exact ⟨hln, by simp [maxLen]; omega⟩
        · obtain rfl : i = l.length := by omega
          simp only [List.take_length]
          have hkl := known_len l d
          (repeat' (first | (with_reducible exact trivial) | ((with_reducible apply byE); simp only [go_sem, ↓reduceIte]; try with_reducible rfl) | (with_reducible first | apply Aa | apply As | apply Au | apply Av | apply Aj | apply At | apply Aw | apply Ab | apply Ac | apply Ad | apply Ae | apply Af | apply Ag | apply Ah | apply Ai | apply Ak | apply Al) | ((with_reducible first | apply An | apply Ao); (case hs => rfl)) | (with_reducible first | apply Am | apply Ap | apply Aq | apply Ar | apply Ax | apply Ay | apply Az | apply Ba | apply Bb | apply Bc | apply Bd | apply Be | apply Ca | apply Cb | apply Cc | apply Cd | apply Ce | apply Cf | apply Cg | apply Ch | apply Ci | apply Bf | apply Cj | apply Ck | apply Cl | apply Cm | apply Cn | apply Co | apply Cp) | ((with_reducible apply byR); rfl) | ((with_reducible first | apply byKt | apply byKs); kernel_rfl) | ((with_reducible apply byL); simp only [econs, List.map_cons, List.map_nil, List.cons_append, List.nil_append, OpS.nm, OpS.reads, OpS.turns, Nat.reduceAdd]; try rfl) | ((with_reducible apply byG); intro hg; try simp only [hg]) | ((with_reducible apply byQ); intro hq; try simp only [hqs] at hq; try (exfalso; omega)) | ((with_reducible apply byI); intro K hK) | ((with_reducible apply byH); repeat (first | (with_reducible exact dst_z rfl) | (with_reducible apply dst_s))) | ((with_reducible apply byN); unfold NapOK; kernel_rfl) | ((with_reducible apply byD); first | (simp; done) | (simp [go_sem]; done)) | (with_reducible refine hK _ _ ?_; clear hK; clear K) | omega | contradiction))
          (apply callF' [6000] cl17 (k2); (case hp | hl | hk => (simp only [go_sem, ↓reduceIte]; try rfl)); (try (case hfz => (first | (simp only [go_sem]; done) | (simp [go_sem, fzo]; done)))))
          · refine ⟨by simp [go_sem], fz_files 5 rfl hkl.symm, trivial⟩
          (repeat' (first | (with_reducible exact trivial) | ((with_reducible apply byE); simp only [go_sem, ↓reduceIte]; try with_reducible rfl) | (with_reducible first | apply Aa | apply As | apply Au | apply Av | apply Aj | apply At | apply Aw | apply Ab | apply Ac | apply Ad | apply Ae | apply Af | apply Ag | apply Ah | apply Ai | apply Ak | apply Al) | ((with_reducible first | apply An | apply Ao); (case hs => rfl)) | (with_reducible first | apply Am | apply Ap | apply Aq | apply Ar | apply Ax | apply Ay | apply Az | apply Ba | apply Bb | apply Bc | apply Bd | apply Be | apply Ca | apply Cb | apply Cc | apply Cd | apply Ce | apply Cf | apply Cg | apply Ch | apply Ci | apply Bf | apply Cj | apply Ck | apply Cl | apply Cm | apply Cn | apply Co | apply Cp) | ((with_reducible apply byR); rfl) | ((with_reducible first | apply byKt | apply byKs); kernel_rfl) | ((with_reducible apply byL); simp only [econs, List.map_cons, List.map_nil, List.cons_append, List.nil_append, OpS.nm, OpS.reads, OpS.turns, Nat.reduceAdd]; try rfl) | ((with_reducible apply byG); intro hg; try simp only [hg]) | ((with_reducible apply byQ); intro hq; try simp only [hqs] at hq; try (exfalso; omega)) | ((with_reducible apply byI); intro K hK) | ((with_reducible apply byH); repeat (first | (with_reducible exact dst_z rfl) | (with_reducible apply dst_s))) | ((with_reducible apply byN); unfold NapOK; kernel_rfl) | ((with_reducible apply byD); first | (simp; done) | (simp [go_sem]; done)) | (with_reducible refine hK _ _ ?_; clear hK; clear K) | omega | contradiction))
          refine loop_nil 14 10001 3 48 rfl (Nat.le_of_ble_eq_true rfl) ?_
          refine loopW mixed (σ := {j : Nat // j ≤ R.length}) (fun s => ⟨[(51, int s.1), (14, .osl 10001 3 0 ((R.take s.1).filter fun r => decide (r.2.1 ≤ d)).length), (49, rowsA R), (50, int R.length), (2, int d), (12, rowsA (R.filter fun r => decide (r.2.1 ≤ d))), (13, int 0)], [(10001, some ⟨48, rowC r3row ((R.take s.1).filter fun r => decide (r.2.1 ≤ d))⟩)], 10002⟩) (fun s => R.length - s.1) id ⟨0, by omega⟩ (by rw [hN]; kernel_rfl) ?_ ?_
          · simp only [go_sem, ↓reduceIte, hF]
            exact ⟨rfl, rfl⟩
          · rintro ⟨j, g1⟩
            by_cases gj : j < R.length
            · have e0 : R[j]? = some R[j] := List.getElem?_eq_getElem gj
              have e1 : (R.map r3row)[j]? = some (r3row R[j]) := by rw [List.getElem?_map, e0]; rfl
              have e2 : IntKind.i64.wrap ((j : Int) + 1) = ((j + 1 : Nat) : Int) := by rw [wrap_id] <;> omega
              have hk1 : j < (R.map r3row).length := by simpa using gj
              have hsn : (R.take (j + 1)).filter (fun r => decide (r.2.1 ≤ d)) = (R.take j).filter (fun r => decide (r.2.1 ≤ d)) ++ [R[j]].filter (fun r => decide (r.2.1 ≤ d)) := by rw [List.take_succ_eq_append_getElem gj, List.filter_append]
              have hfl : ((R.take j).filter fun r => decide (r.2.1 ≤ d)).length ≤ j := Nat.le_trans (List.length_filter_le _ _) (by rw [List.length_take]; omega)
              generalize (R.take j).filter (fun r => decide (r.2.1 ≤ d)) = Q at *
              generalize R[j] = r at *
              obtain ⟨rk, rb, ra⟩ := r
              have hlq : (rowC r3row Q).length = Q.length * 3 := rowC_len (F := r3row) (k := 3) (fun _ => rfl) Q
              by_cases hd : rb ≤ d
              · rw [List.filter_cons_of_pos (by simpa using hd), List.filter_nil] at hsn
                (repeat' (first | (with_reducible exact trivial) | ((with_reducible apply byE); simp only [go_sem, ↓reduceIte, e1, e2, hk1, eq_true hd, decide_eq_true hd, Int.toNat_one]; try with_reducible rfl) | (with_reducible first | apply Aa | apply As | apply Au | apply Av | apply Aj | apply At | apply Aw | apply Ab | apply Ac | apply Ad | apply Ae | apply Af | apply Ag | apply Ah | apply Ai | apply Ak | apply Al) | ((with_reducible first | apply An | apply Ao); (case hs => rfl)) | (with_reducible first | apply Am | apply Ap | apply Aq | apply Ar | apply Ax | apply Ay | apply Az | apply Ba | apply Bb | apply Bc | apply Bd | apply Be | apply Ca | apply Cb | apply Cc | apply Cd | apply Ce | apply Cf | apply Cg | apply Ch | apply Ci | apply Bf | apply Cj | apply Ck | apply Cl | apply Cm | apply Cn | apply Co | apply Cp) | ((with_reducible apply byR); rfl) | ((with_reducible first | apply byKt | apply byKs); kernel_rfl) | ((with_reducible apply byL); simp only [econs, List.map_cons, List.map_nil, List.cons_append, List.nil_append, OpS.nm, OpS.reads, OpS.turns, Nat.reduceAdd]; try rfl) | ((with_reducible apply byG); intro hg; try simp only [hg]) | ((with_reducible apply byQ); intro hq; try simp only [hqs] at hq; try (exfalso; omega)) | ((with_reducible apply byI); intro K hK) | ((with_reducible apply byH); repeat (first | (with_reducible exact dst_z rfl) | (with_reducible apply dst_s))) | ((with_reducible apply byN); unfold NapOK; kernel_rfl) | ((with_reducible apply byD); first | (simp; done) | (simp [go_sem]; done)) | (with_reducible refine hK _ _ ?_; clear hK; clear K) | omega | contradiction))
                · refine ⟨⟨j + 1, gj⟩, nm1 10001 13026, ?_, by show R.length - (j + 1) < R.length - j; omega⟩
                  simp only [hsn, rowR_snoc, List.length_append, List.length_singleton]
                  simp only [go_sem, ↓reduceIte, hF, List.map_append, List.all_append]
                · exact ⟨hlq, by simp [maxLen]; omega⟩
              · rw [List.filter_cons_of_neg (by simpa using hd), List.filter_nil, List.append_nil] at hsn
                (repeat' (first | (with_reducible exact trivial) | ((with_reducible apply byE); simp only [go_sem, ↓reduceIte, e1, e2, hk1, eq_false hd, decide_eq_false hd, Int.toNat_one]; try with_reducible rfl) | (with_reducible first | apply Aa | apply As | apply Au | apply Av | apply Aj | apply At | apply Aw | apply Ab | apply Ac | apply Ad | apply Ae | apply Af | apply Ag | apply Ah | apply Ai | apply Ak | apply Al) | ((with_reducible first | apply An | apply Ao); (case hs => rfl)) | (with_reducible first | apply Am | apply Ap | apply Aq | apply Ar | apply Ax | apply Ay | apply Az | apply Ba | apply Bb | apply Bc | apply Bd | apply Be | apply Ca | apply Cb | apply Cc | apply Cd | apply Ce | apply Cf | apply Cg | apply Ch | apply Ci | apply Bf | apply Cj | apply Ck | apply Cl | apply Cm | apply Cn | apply Co | apply Cp) | ((with_reducible apply byR); rfl) | ((with_reducible first | apply byKt | apply byKs); kernel_rfl) | ((with_reducible apply byL); simp only [econs, List.map_cons, List.map_nil, List.cons_append, List.nil_append, OpS.nm, OpS.reads, OpS.turns, Nat.reduceAdd]; try rfl) | ((with_reducible apply byG); intro hg; try simp only [hg]) | ((with_reducible apply byQ); intro hq; try simp only [hqs] at hq; try (exfalso; omega)) | ((with_reducible apply byI); intro K hK) | ((with_reducible apply byH); repeat (first | (with_reducible exact dst_z rfl) | (with_reducible apply dst_s))) | ((with_reducible apply byN); unfold NapOK; kernel_rfl) | ((with_reducible apply byD); first | (simp; done) | (simp [go_sem]; done)) | (with_reducible refine hK _ _ ?_; clear hK; clear K) | omega | contradiction))
                refine ⟨⟨j + 1, gj⟩, id, ?_, by show R.length - (j + 1) < R.length - j; omega⟩
                simp only [hsn]
                simp only [go_sem, ↓reduceIte, hF]
            · obtain rfl : j = R.length := by omega
              simp only [List.take_length]
              (repeat' (first | (with_reducible exact trivial) | ((with_reducible apply byE); simp only [go_sem, ↓reduceIte]; try with_reducible rfl) | (with_reducible first | apply Aa | apply As | apply Au | apply Av | apply Aj | apply At | apply Aw | apply Ab | apply Ac | apply Ad | apply Ae | apply Af | apply Ag | apply Ah | apply Ai | apply Ak | apply Al) | ((with_reducible first | apply An | apply Ao); (case hs => rfl)) | (with_reducible first | apply Am | apply Ap | apply Aq | apply Ar | apply Ax | apply Ay | apply Az | apply Ba | apply Bb | apply Bc | apply Bd | apply Be | apply Ca | apply Cb | apply Cc | apply Cd | apply Ce | apply Cf | apply Cg | apply Ch | apply Ci | apply Bf | apply Cj | apply Ck | apply Cl | apply Cm | apply Cn | apply Co | apply Cp) | ((with_reducible apply byR); rfl) | ((with_reducible first | apply byKt | apply byKs); kernel_rfl) | ((with_reducible apply byL); simp only [econs, List.map_cons, List.map_nil, List.cons_append, List.nil_append, OpS.nm, OpS.reads, OpS.turns, Nat.reduceAdd]; try rfl) | ((with_reducible apply byG); intro hg; try simp only [hg]) | ((with_reducible apply byQ); intro hq; try simp only [hqs] at hq; try (exfalso; omega)) | ((with_reducible apply byI); intro K hK) | ((with_reducible apply byH); repeat (first | (with_reducible exact dst_z rfl) | (with_reducible apply dst_s))) | ((with_reducible apply byN); unfold NapOK; kernel_rfl) | ((with_reducible apply byD); first | (simp; done) | (simp [go_sem]; done)) | (with_reducible refine hK _ _ ?_; clear hK; clear K) | omega | ((with_reducible apply callX cl16 (alive_f)); (case hl => rfl)) | contradiction))
              (apply callF' [10001] cl19 (rowsSame_f (R.filter fun r => decide (r.2.1 ≤ d))); (case hp | hl | hk => (simp only [go_sem, ↓reduceIte]; try rfl)); (try (case hfz => (first | (simp only [go_sem]; done) | (simp [go_sem, fzo]; done)))))
              · exact ⟨fz_self 5 _ _ _, fz_rows3 5 rfl rfl, trivial⟩
              (repeat' (first | (with_reducible exact trivial) | ((with_reducible apply byE); simp only [go_sem, ↓reduceIte]; try with_reducible rfl) | (with_reducible first | apply Aa | apply As | apply Au | apply Av | apply Aj | apply At | apply Aw | apply Ab | apply Ac | apply Ad | apply Ae | apply Af | apply Ag | apply Ah | apply Ai | apply Ak | apply Al) | ((with_reducible first | apply An | apply Ao); (case hs => rfl)) | (with_reducible first | apply Am | apply Ap | apply Aq | apply Ar | apply Ax | apply Ay | apply Az | apply Ba | apply Bb | apply Bc | apply Bd | apply Be | apply Ca | apply Cb | apply Cc | apply Cd | apply Ce | apply Cf | apply Cg | apply Ch | apply Ci | apply Bf | apply Cj | apply Ck | apply Cl | apply Cm | apply Cn | apply Co | apply Cp) | ((with_reducible apply byR); rfl) | ((with_reducible first | apply byKt | apply byKs); kernel_rfl) | ((with_reducible apply byL); simp only [econs, List.map_cons, List.map_nil, List.cons_append, List.nil_append, OpS.nm, OpS.reads, OpS.turns, Nat.reduceAdd]; try rfl) | ((with_reducible apply byG); intro hg; try simp only [hg]) | ((with_reducible apply byQ); intro hq; try simp only [hqs] at hq; try (exfalso; omega)) | ((with_reducible apply byI); intro K hK) | ((with_reducible apply byH); repeat (first | (with_reducible exact dst_z rfl) | (with_reducible apply dst_s))) | ((with_reducible apply byN); unfold NapOK; kernel_rfl) | ((with_reducible apply byD); first | (simp; done) | (simp [go_sem]; done)) | (with_reducible refine hK _ _ ?_; clear hK; clear K) | omega | contradiction))
    · have hp : paidR c l = [] := by rw [paidR, if_neg he]
      rw [hp] at k1
      refine fun_W mixed Try.func9 rfl (Nat.le_of_ble_eq_true rfl) (by kernel_rfl) fun cx hN hR hF hL => ?_; apply args_k; (case hA => (simp only [go_sem, ↓reduceIte]; rfl))
      (repeat' (first | (with_reducible exact trivial) | ((with_reducible apply byE); simp only [go_sem, ↓reduceIte, hf, eq_false he, decide_eq_false he]; try with_reducible rfl) | (with_reducible first | apply Aa | apply As | apply Au | apply Av | apply Aj | apply At | apply Aw | apply Ab | apply Ac | apply Ad | apply Ae | apply Af | apply Ag | apply Ah | apply Ai | apply Ak | apply Al) | ((with_reducible first | apply An | apply Ao); (case hs => rfl)) | (with_reducible first | apply Am | apply Ap | apply Aq | apply Ar | apply Ax | apply Ay | apply Az | apply Ba | apply Bb | apply Bc | apply Bd | apply Be | apply Ca | apply Cb | apply Cc | apply Cd | apply Ce | apply Cf | apply Cg | apply Ch | apply Ci | apply Bf | apply Cj | apply Ck | apply Cl | apply Cm | apply Cn | apply Co | apply Cp) | ((with_reducible apply byR); rfl) | ((with_reducible first | apply byKt | apply byKs); kernel_rfl) | ((with_reducible apply byL); simp only [econs, List.map_cons, List.map_nil, List.cons_append, List.nil_append, OpS.nm, OpS.reads, OpS.turns, Nat.reduceAdd]; try rfl) | ((with_reducible apply byG); intro hg; try simp only [hg]) | ((with_reducible apply byQ); intro hq; try simp only [hqs] at hq; try (exfalso; omega)) | ((with_reducible apply byI); intro K hK) | ((with_reducible apply byH); repeat (first | (with_reducible exact dst_z rfl) | (with_reducible apply dst_s))) | ((with_reducible apply byN); unfold NapOK; kernel_rfl) | ((with_reducible apply byD); first | (simp; done) | (simp [go_sem]; done)) | (with_reducible refine hK _ _ ?_; clear hK; clear K) | omega | ((with_reducible apply callX cl15 (few_f l)); (case hl => rfl)) | ((with_reducible apply callX cl17 (k1)); (case hl => rfl)) | ((with_reducible apply callX cl16 (alive_f)); (case hl => rfl)) | contradiction))
  · simp only [Bool.not_eq_true] at hf
    refine fun_W mixed Try.func9 rfl (Nat.le_of_ble_eq_true rfl) (by kernel_rfl) fun cx hN hR hF hL => ?_; apply args_k; (case hA => (simp only [go_sem, ↓reduceIte]; rfl))
    (repeat' (first | (with_reducible exact trivial) | ((with_reducible apply byE); simp only [go_sem, ↓reduceIte, hf]; try with_reducible rfl) | (with_reducible first | apply Aa | apply As | apply Au | apply Av | apply Aj | apply At | apply Aw | apply Ab | apply Ac | apply Ad | apply Ae | apply Af | apply Ag | apply Ah | apply Ai | apply Ak | apply Al) | ((with_reducible first | apply An | apply Ao); (case hs => rfl)) | (with_reducible first | apply Am | apply Ap | apply Aq | apply Ar | apply Ax | apply Ay | apply Az | apply Ba | apply Bb | apply Bc | apply Bd | apply Be | apply Ca | apply Cb | apply Cc | apply Cd | apply Ce | apply Cf | apply Cg | apply Ch | apply Ci | apply Bf | apply Cj | apply Ck | apply Cl | apply Cm | apply Cn | apply Co | apply Cp) | ((with_reducible apply byR); rfl) | ((with_reducible first | apply byKt | apply byKs); kernel_rfl) | ((with_reducible apply byL); simp only [econs, List.map_cons, List.map_nil, List.cons_append, List.nil_append, OpS.nm, OpS.reads, OpS.turns, Nat.reduceAdd]; try rfl) | ((with_reducible apply byG); intro hg; try simp only [hg]) | ((with_reducible apply byQ); intro hq; try simp only [hqs] at hq; try (exfalso; omega)) | ((with_reducible apply byI); intro K hK) | ((with_reducible apply byH); repeat (first | (with_reducible exact dst_z rfl) | (with_reducible apply dst_s))) | ((with_reducible apply byN); unfold NapOK; kernel_rfl) | ((with_reducible apply byD); first | (simp; done) | (simp [go_sem]; done)) | (with_reducible refine hK _ _ ?_; clear hK; clear K) | omega | ((with_reducible apply callX cl15 (few_f l)); (case hl => rfl)) | ((with_reducible apply callX cl16 (alive_f)); (case hl => rfl)) | contradiction))
end Go.Proofs.Ytjplhfmakghabaa.V
