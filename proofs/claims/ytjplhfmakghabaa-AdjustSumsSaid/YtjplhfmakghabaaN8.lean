/- Contracts of chapter 19: made, Right, check. -/
-- STEPS: new
import Derived.Test.YtjplhfmakghabaaN7
set_option linter.unusedSimpArgs false
set_option linter.unusedVariables false
namespace Go.Proofs.Ytjplhfmakghabaa.V
open Go.RowKit
set_option maxRecDepth 100000
attribute [local go_sem] Option.toList_some Option.toList_none

theorem made_next {c : Claim} {l : List Act} {i : Nat} {a : Act} (h : l[i]? = some a) (hm : madeL c [] (l.take i) = true) : madeL c [] (l.take (i + 1)) = decide (putE ⟨c, l.take i⟩ a = 0) := by
  rw [List.take_add_one, h, madeL_app, hm]
  simp [madeL]
theorem made_not {c : Claim} {l : List Act} {i : Nat} (h : madeL c [] (l.take i) = false) : madeL c [] l = false := by
  conv => lhs; rw [← List.take_append_drop i l]
  rw [madeL_app, h]
  rfl
set_option maxHeartbeats 4000000 in
theorem made_f (f : File) : Fun Try.prog 50 [.agg f.flat] (bool f.made) := by
  obtain ⟨c, l⟩ := f
  refine fun_W mixed Try.func50 rfl (Nat.le_of_ble_eq_true rfl) (by kernel_rfl) fun cx hN hR hF hL => ?_; apply args_k; (case hA => (simp only [go_sem, ↓reduceIte]; rfl))
  have hl : l.length ≤ 9223372036854775807 := by
    simp [maxLen, File.flat] at hL
    omega
  (repeat' (first | (with_reducible exact trivial) | ((with_reducible apply byE); simp only [go_sem, ↓reduceIte]; try with_reducible rfl) | (with_reducible first | apply Aa | apply As | apply Au | apply Av | apply Aj | apply At | apply Aw | apply Ab | apply Ac | apply Ad | apply Ae | apply Af | apply Ag | apply Ah | apply Ai | apply Ak | apply Al) | ((with_reducible first | apply An | apply Ao); (case hs => rfl)) | (with_reducible first | apply Am | apply Ap | apply Aq | apply Ar | apply Ax | apply Ay | apply Az | apply Ba | apply Bb | apply Bc | apply Bd | apply Be | apply Ca | apply Cb | apply Cc | apply Cd | apply Ce | apply Cf | apply Cg | apply Ch | apply Ci | apply Bf | apply Cj | apply Ck | apply Cl | apply Cm | apply Cn | apply Co | apply Cp) | ((with_reducible apply byR); rfl) | ((with_reducible first | apply byKt | apply byKs); kernel_rfl) | ((with_reducible apply byL); simp only [econs, List.map_cons, List.map_nil, List.cons_append, List.nil_append, OpS.nm, OpS.reads, OpS.turns, Nat.reduceAdd]; try rfl) | ((with_reducible apply byG); intro hg; try simp only [hg]) | ((with_reducible apply byQ); intro hq; try simp only [hqs] at hq; try (exfalso; omega)) | ((with_reducible apply byI); intro K hK) | ((with_reducible apply byH); repeat (first | (with_reducible exact dst_z rfl) | (with_reducible apply dst_s))) | ((with_reducible apply byN); unfold NapOK; kernel_rfl) | ((with_reducible apply byD); first | (simp; done) | (simp [go_sem]; done)) | (with_reducible refine hK _ _ ?_; clear hK; clear K) | omega | ((with_reducible apply callX cl78 (open_f c)); (case hl => rfl)) | contradiction))
  refine loopW mixed (σ := {s : Nat × Int × File // s.1 ≤ l.length ∧ ((s.2.1 = 0 ∧ s.2.2 = ⟨c, l.take s.1⟩ ∧ madeL c [] (l.take s.1) = true) ∨ (s.2.1 ≠ 0 ∧ madeL c [] l = false))}) (fun s => ⟨[(5, int s.1.1), (4, int s.1.2.1), (3, .ptr 1024 0), (1, .ptr 0 0)], [(1024, some ⟨44, s.1.2.2.flat⟩), (0, some ⟨44, (⟨c, l⟩ : File).flat⟩)], 4000⟩) (fun s => l.length - s.1.1) id ⟨(0, 0, ⟨c, []⟩), Nat.zero_le _, .inl ⟨rfl, rfl, rfl⟩⟩ (by rw [hN]; kernel_rfl) ?_ ?_
  · simp only [go_sem, ↓reduceIte, hF]
    exact ⟨rfl, rfl⟩
  · rintro ⟨⟨i, e, g⟩, h1, h2⟩
    simp only at h1 h2
    by_cases hi : i < l.length
    · rcases h2 with ⟨rfl, rfl, hm⟩ | ⟨he, hm⟩
      · have hq2 : l[i]? = some l[i] := List.getElem?_eq_getElem hi
        have e1 : (l.map Act.flat)[i]? = some l[i].flat := by rw [List.getElem?_map, hq2]; rfl
        have e5 : IntKind.i64.wrap ((i : Int) + 1) = ((i + 1 : Nat) : Int) := by rw [wrap_id] <;> omega
        have hk1 : i < (l.map Act.flat).length := by simpa using hi
        have hn := made_next hq2 hm
        generalize l[i] = a at *
        have hgl := (made_good (f := ⟨c, l.take i⟩) hm).len
        have hp := put_f ⟨c, l.take i⟩ a (by simp only at hgl ⊢; omega)
        (repeat' (first | (with_reducible exact trivial) | ((with_reducible apply byE); simp only [go_sem, ↓reduceIte, e1, e5, hk1]; try with_reducible rfl) | (with_reducible first | apply Aa | apply As | apply Au | apply Av | apply Aj | apply At | apply Aw | apply Ab | apply Ac | apply Ad | apply Ae | apply Af | apply Ag | apply Ah | apply Ai | apply Ak | apply Al) | ((with_reducible first | apply An | apply Ao); (case hs => rfl)) | (with_reducible first | apply Am | apply Ap | apply Aq | apply Ar | apply Ax | apply Ay | apply Az | apply Ba | apply Bb | apply Bc | apply Bd | apply Be | apply Ca | apply Cb | apply Cc | apply Cd | apply Ce | apply Cf | apply Cg | apply Ch | apply Ci | apply Bf | apply Cj | apply Ck | apply Cl | apply Cm | apply Cn | apply Co | apply Cp) | ((with_reducible apply byR); rfl) | ((with_reducible first | apply byKt | apply byKs); kernel_rfl) | ((with_reducible apply byL); simp only [econs, List.map_cons, List.map_nil, List.cons_append, List.nil_append, OpS.nm, OpS.reads, OpS.turns, Nat.reduceAdd]; try rfl) | ((with_reducible apply byG); intro hg; try simp only [hg]) | ((with_reducible apply byQ); intro hq; try simp only [hqs] at hq; try (exfalso; omega)) | ((with_reducible apply byI); intro K hK) | ((with_reducible apply byH); repeat (first | (with_reducible exact dst_z rfl) | (with_reducible apply dst_s))) | ((with_reducible apply byN); unfold NapOK; kernel_rfl) | ((with_reducible apply byD); first | (simp; done) | (simp [go_sem]; done)) | (with_reducible refine hK _ _ ?_; clear hK; clear K) | omega | ((with_reducible apply callX cl27 (hp)); (case hl => rfl)) | contradiction))
        by_cases h0 : putE ⟨c, l.take i⟩ a = 0
        · have hn2 : madeL c [] (l.take (i + 1)) = true := by rw [hn, h0]; rfl
          have hg : l.take (i + 1) = l.take i ++ [a] := by rw [List.take_add_one, hq2]; rfl
          refine ⟨⟨(i + 1, 0, ⟨c, l.take (i + 1)⟩), by omega, .inl ⟨rfl, rfl, hn2⟩⟩, id, ?_, by show l.length - (i + 1) < l.length - i; omega⟩
          rw [put_0 h0, h0]
          simp only [hg]
          simp only [go_sem, ↓reduceIte, hF]
        · have hn2 : madeL c [] (l.take (i + 1)) = false := by rw [hn]; exact decide_eq_false h0
          refine ⟨⟨(i + 1, putE ⟨c, l.take i⟩ a, putF ⟨c, l.take i⟩ a), by omega, .inr ⟨h0, made_not hn2⟩⟩, id, ?_, by show l.length - (i + 1) < l.length - i; omega⟩
          simp only [go_sem, ↓reduceIte, hF]
      · (repeat' (first | (with_reducible exact trivial) | ((with_reducible apply byE); simp only [go_sem, ↓reduceIte, he]; try with_reducible rfl) | (with_reducible first | apply Aa | apply As | apply Au | apply Av | apply Aj | apply At | apply Aw | apply Ab | apply Ac | apply Ad | apply Ae | apply Af | apply Ag | apply Ah | apply Ai | apply Ak | apply Al) | ((with_reducible first | apply An | apply Ao); (case hs => rfl)) | (with_reducible first | apply Am | apply Ap | apply Aq | apply Ar | apply Ax | apply Ay | apply Az | apply Ba | apply Bb | apply Bc | apply Bd | apply Be | apply Ca | apply Cb | apply Cc | apply Cd | apply Ce | apply Cf | apply Cg | apply Ch | apply Ci | apply Bf | apply Cj | apply Ck | apply Cl | apply Cm | apply Cn | apply Co | apply Cp) | ((with_reducible apply byR); rfl) | ((with_reducible first | apply byKt | apply byKs); kernel_rfl) | ((with_reducible apply byL); simp only [econs, List.map_cons, List.map_nil, List.cons_append, List.nil_append, OpS.nm, OpS.reads, OpS.turns, Nat.reduceAdd]; try rfl) | ((with_reducible apply byG); intro hg; try simp only [hg]) | ((with_reducible apply byQ); intro hq; try simp only [hqs] at hq; try (exfalso; omega)) | ((with_reducible apply byI); intro K hK) | ((with_reducible apply byH); repeat (first | (with_reducible exact dst_z rfl) | (with_reducible apply dst_s))) | ((with_reducible apply byN); unfold NapOK; kernel_rfl) | ((with_reducible apply byD); first | (simp; done) | (simp [go_sem]; done)) | (with_reducible refine hK _ _ ?_; clear hK; clear K) | omega | contradiction))
        exact hm.symm
    · obtain rfl : i = l.length := by omega
      (repeat' (first | (with_reducible exact trivial) | ((with_reducible apply byE); simp only [go_sem, ↓reduceIte]; try with_reducible rfl) | (with_reducible first | apply Aa | apply As | apply Au | apply Av | apply Aj | apply At | apply Aw | apply Ab | apply Ac | apply Ad | apply Ae | apply Af | apply Ag | apply Ah | apply Ai | apply Ak | apply Al) | ((with_reducible first | apply An | apply Ao); (case hs => rfl)) | (with_reducible first | apply Am | apply Ap | apply Aq | apply Ar | apply Ax | apply Ay | apply Az | apply Ba | apply Bb | apply Bc | apply Bd | apply Be | apply Ca | apply Cb | apply Cc | apply Cd | apply Ce | apply Cf | apply Cg | apply Ch | apply Ci | apply Bf | apply Cj | apply Ck | apply Cl | apply Cm | apply Cn | apply Co | apply Cp) | ((with_reducible apply byR); rfl) | ((with_reducible first | apply byKt | apply byKs); kernel_rfl) | ((with_reducible apply byL); simp only [econs, List.map_cons, List.map_nil, List.cons_append, List.nil_append, OpS.nm, OpS.reads, OpS.turns, Nat.reduceAdd]; try rfl) | ((with_reducible apply byG); intro hg; try simp only [hg]) | ((with_reducible apply byQ); intro hq; try simp only [hqs] at hq; try (exfalso; omega)) | ((with_reducible apply byI); intro K hK) | ((with_reducible apply byH); repeat (first | (with_reducible exact dst_z rfl) | (with_reducible apply dst_s))) | ((with_reducible apply byN); unfold NapOK; kernel_rfl) | ((with_reducible apply byD); first | (simp; done) | (simp [go_sem]; done)) | (with_reducible refine hK _ _ ?_; clear hK; clear K) | omega | contradiction))
      rcases h2 with ⟨rfl, rfl, hm⟩ | ⟨he, hm⟩
      · rw [List.take_length] at hm
        exact hm.symm
      · rw [decide_eq_false he]
        exact hm.symm
end Go.Proofs.Ytjplhfmakghabaa.V
