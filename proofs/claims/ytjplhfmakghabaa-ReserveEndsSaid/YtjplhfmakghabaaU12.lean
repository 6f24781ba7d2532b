/- Law of chapter 20: Ends. -/
-- STEPS: new
import Derived.Test.YtjplhfmakghabaaU8
import Derived.Test.YtjplhfmakghabaaU10
set_option linter.unusedSimpArgs false
set_option linter.unusedVariables false
namespace Go.Proofs.Ytjplhfmakghabaa.V
open Go.RowKit
set_option maxRecDepth 100000
attribute [local go_sem] Option.toList_some Option.toList_none

theorem booked_in {l : List File} {f : File} (hf : f ∈ l) : f.claim.booked ∈ daysS l := by
  unfold daysS
  exact List.mem_flatten.2 ⟨daysF f, List.mem_map.2 ⟨f, hf, rfl⟩, by simp [daysF]⟩
theorem act_in {l : List File} {f : File} (hf : f ∈ l) {a : Act} (ha : a ∈ f.acts) : a.booked ∈ daysS l := by
  unfold daysS
  exact List.mem_flatten.2 ⟨daysF f, List.mem_map.2 ⟨f, hf, rfl⟩, by simp only [daysF, List.mem_cons]; exact .inr (List.mem_map.2 ⟨a, ha, rfl⟩)⟩
theorem known_all {l : List File} {x : Int} (h : ∀ y, y ∈ daysS l → y ≤ x) : knownR l x = l := by
  unfold knownR
  rw [List.filter_eq_self.2 fun f hf => by simpa using h _ (booked_in hf)]
  have key : ∀ f, f ∈ l → f.at x = f := fun f hf => by
    unfold File.at keepD
    rw [List.filter_eq_self.2 fun a ha => by simpa using h _ (act_in hf ha)]
  rw [List.map_congr_left key]
  simp
def fstB (l : List File) : Int := l.foldl (fun m f => min m f.claim.booked) 292195
def opnB (l : List File) : Bool := l.foldl (fun o f => o || (standP f.acts).opn) false
theorem fstB_take {l : List File} {i : Nat} {f : File} (h : l[i]? = some f) : fstB (l.take (i + 1)) = min (fstB (l.take i)) f.claim.booked := by
  rw [List.take_add_one, h, fstB, List.foldl_append]
  rfl
theorem opnB_take {l : List File} {i : Nat} {f : File} (h : l[i]? = some f) : opnB (l.take (i + 1)) = (opnB (l.take i) || (standP f.acts).opn) := by
  rw [List.take_add_one, h, opnB, List.foldl_append]
  rfl
theorem fst_bd : ∀ (l : List File) (m : Int), l.foldl (fun m f => min m f.claim.booked) m ≤ m ∧ (∀ f, f ∈ l → l.foldl (fun m f => min m f.claim.booked) m ≤ f.claim.booked) ∧ (1 ≤ m → (∀ f, f ∈ l → 1 ≤ f.claim.booked) → 1 ≤ l.foldl (fun m f => min m f.claim.booked) m)
  | [], m => ⟨Int.le_refl _, by simp, fun h _ => h⟩
  | f :: l, m => by
    obtain ⟨h1, h2, h3⟩ := fst_bd l (min m f.claim.booked)
    rw [List.foldl_cons]
    refine ⟨by omega, fun g hg => ?_, fun h h4 => h3 ?_ fun g hg => h4 g (by simp [hg])⟩
    · rcases List.mem_cons.1 hg with rfl | hg
      · omega
      · exact h2 g hg
    · have := h4 f (by simp)
      omega
theorem opn_none : ∀ (l : List File) (o : Bool), l.foldl (fun o f => o || (standP f.acts).opn) o = false → o = false ∧ ∀ f, f ∈ l → (standP f.acts).opn = false
  | [], o, h => ⟨h, by simp⟩
  | f :: l, o, h => by
    rw [List.foldl_cons] at h
    obtain ⟨h1, h2⟩ := opn_none l _ h
    rw [Bool.or_eq_false_iff] at h1
    refine ⟨h1.1, fun g hg => ?_⟩
    rcases List.mem_cons.1 hg with rfl | hg
    · exact h1.2
    · exact h2 g hg
theorem res_zero : ∀ (P : List Pos) (s : Pos), (∀ p, p ∈ P → p.reserve = 0) → s.reserve = 0 → (P.foldl addPos s).reserve = 0
  | [], s, _, h => h
  | p :: P, s, h, h2 => by
    rw [List.foldl_cons]
    refine res_zero P _ (fun q hq => h q (by simp [hq])) ?_
    have := h p (by simp)
    simp only [addPos, this, h2]
    rfl
/-- Of files that are all closed nothing is held back. -/
theorem closed_zero {c : Cover} {l : List File} (he : checkE c l = 0) (ho : opnB l = false) : (sumP (ofL c l)).reserve = 0 := by
  refine res_zero _ _ (fun p hp => ?_) rfl
  obtain ⟨k, hk⟩ := List.mem_iff_getElem?.1 hp
  have hkl : k < l.length := by
    have := (List.getElem?_eq_some_iff.1 hk).1
    rw [ofL_len he] at this
    exact this
  obtain ⟨r, h1, -, -, h2, -⟩ := of_file he (List.getElem?_eq_getElem hkl)
  rw [hk] at h1
  injection h1 with h1
  subst h1
  exact h2 ((opn_none l false ho).2 _ (List.getElem_mem hkl))

set_option maxHeartbeats 4000000 in
theorem endsLaw (c : Cover) (l : List File) (hc : c.ok) : Fun Try.prog 14 [.agg c.flat, filesA l] (bool true) := by
  by_cases hf : few20 l = true
  · obtain ⟨h1, h2⟩ := few20_is hf
    have k1 := curves_f c l hc (by omega)
    have k2 := aof_f c l hc (by omega)
    have k3 := rSumP_f (ofL c l) (Nat.le_trans (ofL_le c l) (by omega))
    by_cases he : cvE c l = 0
    · obtain ⟨p1, p2, p3⟩ := paid_curve he
      obtain ⟨q1, q2, q3⟩ := held_curve he
      have hck := cv_ok he
      have hin := days_in hck
      obtain ⟨f1, f2, f3⟩ := fst_bd l 292195
      have f4 := f3 (by omega) fun f hf => (hin _ (booked_in hf)).1
      have f5 : fstB l = l.foldl (fun m f => min m f.claim.booked) 292195 := rfl
      rw [← f5] at f1 f2 f4
      have hw : IntKind.i64.wrap (fstB l - 1) = fstB l - 1 := by rw [wrap_id] <;> omega
      have hnone : ∀ f : Pos → Int, valD f c l (fstB l - 1) = f zeroP := fun f => by
        unfold valD
        rw [known_none fun g hg => by have := f2 g hg; omega, ofL_nil]
        rfl
      have hall : ∀ f : Pos → Int, valD f c l 292194 = f (sumP (ofL c l)) := fun f => by
        unfold valD
        rw [known_all fun y hy => (hin y hy).2]
      have s1 := stepAt_f p1 p2 292194
      have s2 := stepAt_f q1 q2 292194
      have s3 := stepAt_f p1 p2 (fstB l - 1)
      have s4 := stepAt_f q1 q2 (fstB l - 1)
      rw [p3 _ (by omega), hall] at s1
      rw [q3 _ (by omega), hall] at s2
      rw [p3 _ (by omega), hnone] at s3
      rw [q3 _ (by omega), hnone] at s4
      have hcl := fun h => closed_zero hck (l := l) h
      rw [hck] at k2
      rw [he] at k1
      have hz1 : Pos.paid zeroP = 0 := rfl
      have hz2 : Pos.reserve zeroP = 0 := rfl
      rw [hz1] at s3
      rw [hz2] at s4
      generalize sumP (ofL c l) = q at *
      generalize ofL c l = O at *
      generalize cvO Pos.paid c l = A at *
      generalize cvO Pos.reserve c l = B at *
      obtain ⟨x1, x2, x3, x4, x5, x6⟩ := q
      simp only at s1 s2 hcl
      clear p1 p2 p3 q1 q2 q3 hall hnone f5 f3
      refine fun_W mixed Try.func14 rfl (Nat.le_of_ble_eq_true rfl) (by kernel_rfl) fun cx hN hR hF hL => ?_; apply args_k; (case hA => (simp only [go_sem, ↓reduceIte]; rfl))
      (with_reducible repeat' (first|exact trivial|(apply byE;simp only [go_sem, ↓reduceIte, hf];try rfl)|apply Aa|apply As|apply Au|apply Av|apply Aj|apply At|apply Aw|apply Ab|apply Ac|apply Ad|apply Ae|apply Af|apply Ag|apply Ah|apply Ai|apply Ak|apply Al|((first|apply An|apply Ao);(case hs=>with_unfolding_all rfl))|apply Am|apply Ap|apply Aq|apply Ar|apply Ax|apply Ay|apply Az|apply Ba|apply Bb|apply Bc|apply Bd|apply Be|apply Ca|apply Cb|apply Cc|apply Cd|apply Ce|apply Cf|apply Cg|apply Ch|apply Ci|apply Bf|apply Cj|apply Ck|apply Cl|apply Cm|apply Cn|apply Co|apply Cp|(apply byR;with_unfolding_all rfl)|((first|apply byKt|apply byKs);kernel_rfl)|(apply byL;simp only [econs,List.map_cons,List.map_nil,List.cons_append,List.nil_append,OpS.nm,OpS.reads,OpS.turns,Nat.reduceAdd];try with_unfolding_all rfl)|(apply byG;intro hg;try simp only [hg])|(apply byQ;intro hq;try simp only [hqs] at hq;try (exfalso;omega))|(apply byI;intro K hK)|(apply byH;repeat (first|exact dst_z rfl|apply dst_s))|(apply byN;unfold NapOK;kernel_rfl)|(apply byD;first|(simp;done)|(simp [go_sem];done))|(refine hK _ _ ?_;clear hK;clear K)|omega|(apply callX cl29 (awake_f);(case hl=>with_unfolding_all rfl))|(apply callX cl30 (few20_f l);(case hl=>with_unfolding_all rfl))|(apply callX cl36 (k1);(case hl=>with_unfolding_all rfl))|(apply callX cl22 (k2);(case hl=>with_unfolding_all rfl))|(apply callX cl39 (k3);(case hl=>with_unfolding_all rfl))|contradiction))
      refine loopW mixed (σ := {i : Nat // i ≤ l.length}) (fun s => ⟨[(12, int (fstB (l.take s.1))), (13, bool (opnB (l.take s.1))), (15, int s.1), (1, filesA l), (5, bool true), (7, .ptr 4056 0), (8, .ptr 4064 0), (14, .ptr 9016 0)], [(9016, some ⟨38, [int x1, int x2, int x3, int x4, int x5, bool x6]⟩), (4064, some ⟨61, [ints (daysO B), ints (valsO B)]⟩), (4056, some ⟨61, [ints (daysO A), ints (valsO A)]⟩)], 13000⟩) (fun s => l.length - s.1) id ⟨0, by omega⟩ (by rw [hN]; kernel_rfl) ?_ ?_
      · simp only [go_sem, ↓reduceIte, hF]
        exact ⟨rfl, rfl, rfl⟩
      · rintro ⟨i, g1⟩
        by_cases gi : i < l.length
        · have e0 : l[i]? = some l[i] := List.getElem?_eq_getElem gi
          have e1 : (l.map File.flat)[i]? = some l[i].flat := by rw [List.getElem?_map, e0]; rfl
          have e2 : IntKind.i64.wrap ((i : Int) + 1) = ((i + 1 : Nat) : Int) := by rw [wrap_id] <;> omega
          have hk1 : i < (l.map File.flat).length := by simpa using gi
          have hst := standF_f l[i] (Nat.le_trans (h2 _ (List.getElem_mem gi)) (by omega))
          have m1 := fstB_take e0
          have m2 := opnB_take e0
          generalize fstB (l.take i) = fm at *
          generalize l[i] = f at *
          have hmin : ∀ x y : Int, min x y = if x ≤ y then x else y := fun x y => by split <;> omega
          cases ho : opnB (l.take i) with
          | true =>
            rw [ho, Bool.true_or] at m2
            (with_reducible repeat' (first|exact trivial|(apply byE;simp only [go_sem, ↓reduceIte, e1, e2, hk1];try rfl)|apply Aa|apply As|apply Au|apply Av|apply Aj|apply At|apply Aw|apply Ab|apply Ac|apply Ad|apply Ae|apply Af|apply Ag|apply Ah|apply Ai|apply Ak|apply Al|((first|apply An|apply Ao);(case hs=>with_unfolding_all rfl))|apply Am|apply Ap|apply Aq|apply Ar|apply Ax|apply Ay|apply Az|apply Ba|apply Bb|apply Bc|apply Bd|apply Be|apply Ca|apply Cb|apply Cc|apply Cd|apply Ce|apply Cf|apply Cg|apply Ch|apply Ci|apply Bf|apply Cj|apply Ck|apply Cl|apply Cm|apply Cn|apply Co|apply Cp|(apply byR;with_unfolding_all rfl)|((first|apply byKt|apply byKs);kernel_rfl)|(apply byL;simp only [econs,List.map_cons,List.map_nil,List.cons_append,List.nil_append,OpS.nm,OpS.reads,OpS.turns,Nat.reduceAdd];try with_unfolding_all rfl)|(apply byG;intro hg;try simp only [hg])|(apply byQ;intro hq;try simp only [hqs] at hq;try (exfalso;omega))|(apply byI;intro K hK)|(apply byH;repeat (first|exact dst_z rfl|apply dst_s))|(apply byN;unfold NapOK;kernel_rfl)|(apply byD;first|(simp;done)|(simp [go_sem];done))|(refine hK _ _ ?_;clear hK;clear K)|omega|(apply callX cl26 (hst);(case hl=>with_unfolding_all rfl))|contradiction))
            refine ⟨⟨i + 1, gi⟩, id, ?_, by show l.length - (i + 1) < l.length - i; omega⟩
            simp only [m1, m2]
            simp only [go_sem, ↓reduceIte, hF]
          | false =>
            rw [ho, Bool.false_or] at m2
            (with_reducible repeat' (first|exact trivial|(apply byE;simp only [go_sem, ↓reduceIte, e1, e2, hk1];try rfl)|apply Aa|apply As|apply Au|apply Av|apply Aj|apply At|apply Aw|apply Ab|apply Ac|apply Ad|apply Ae|apply Af|apply Ag|apply Ah|apply Ai|apply Ak|apply Al|((first|apply An|apply Ao);(case hs=>with_unfolding_all rfl))|apply Am|apply Ap|apply Aq|apply Ar|apply Ax|apply Ay|apply Az|apply Ba|apply Bb|apply Bc|apply Bd|apply Be|apply Ca|apply Cb|apply Cc|apply Cd|apply Ce|apply Cf|apply Cg|apply Ch|apply Ci|apply Bf|apply Cj|apply Ck|apply Cl|apply Cm|apply Cn|apply Co|apply Cp|(apply byR;with_unfolding_all rfl)|((first|apply byKt|apply byKs);kernel_rfl)|(apply byL;simp only [econs,List.map_cons,List.map_nil,List.cons_append,List.nil_append,OpS.nm,OpS.reads,OpS.turns,Nat.reduceAdd];try with_unfolding_all rfl)|(apply byG;intro hg;try simp only [hg])|(apply byQ;intro hq;try simp only [hqs] at hq;try (exfalso;omega))|(apply byI;intro K hK)|(apply byH;repeat (first|exact dst_z rfl|apply dst_s))|(apply byN;unfold NapOK;kernel_rfl)|(apply byD;first|(simp;done)|(simp [go_sem];done))|(refine hK _ _ ?_;clear hK;clear K)|omega|(apply callX cl26 (hst);(case hl=>with_unfolding_all rfl))|contradiction))
            refine ⟨⟨i + 1, gi⟩, id, ?_, by show l.length - (i + 1) < l.length - i; omega⟩
            simp only [m1, m2]
            simp only [go_sem, ↓reduceIte, hF]
        · obtain rfl : i = l.length := by omega
          simp only [List.take_length]
          cases ho : opnB l with
          | true => (with_reducible repeat' (first|exact trivial|(apply byE;simp only [go_sem, ↓reduceIte, hw];try rfl)|apply Aa|apply As|apply Au|apply Av|apply Aj|apply At|apply Aw|apply Ab|apply Ac|apply Ad|apply Ae|apply Af|apply Ag|apply Ah|apply Ai|apply Ak|apply Al|((first|apply An|apply Ao);(case hs=>with_unfolding_all rfl))|apply Am|apply Ap|apply Aq|apply Ar|apply Ax|apply Ay|apply Az|apply Ba|apply Bb|apply Bc|apply Bd|apply Be|apply Ca|apply Cb|apply Cc|apply Cd|apply Ce|apply Cf|apply Cg|apply Ch|apply Ci|apply Bf|apply Cj|apply Ck|apply Cl|apply Cm|apply Cn|apply Co|apply Cp|(apply byR;with_unfolding_all rfl)|((first|apply byKt|apply byKs);kernel_rfl)|(apply byL;simp only [econs,List.map_cons,List.map_nil,List.cons_append,List.nil_append,OpS.nm,OpS.reads,OpS.turns,Nat.reduceAdd];try with_unfolding_all rfl)|(apply byG;intro hg;try simp only [hg])|(apply byQ;intro hq;try simp only [hqs] at hq;try (exfalso;omega))|(apply byI;intro K hK)|(apply byH;repeat (first|exact dst_z rfl|apply dst_s))|(apply byN;unfold NapOK;kernel_rfl)|(apply byD;first|(simp;done)|(simp [go_sem];done))|(refine hK _ _ ?_;clear hK;clear K)|omega|(apply callX cl38 (s1);(case hl=>with_unfolding_all rfl))|(apply callX cl38 (s2);(case hl=>with_unfolding_all rfl))|(apply callX cl38 (s3);(case hl=>with_unfolding_all rfl))|(apply callX cl38 (s4);(case hl=>with_unfolding_all rfl))|contradiction))
          | false =>
            have hx5 := hcl ho
            subst hx5
            (with_reducible repeat' (first|exact trivial|(apply byE;simp only [go_sem, ↓reduceIte, hw];try rfl)|apply Aa|apply As|apply Au|apply Av|apply Aj|apply At|apply Aw|apply Ab|apply Ac|apply Ad|apply Ae|apply Af|apply Ag|apply Ah|apply Ai|apply Ak|apply Al|((first|apply An|apply Ao);(case hs=>with_unfolding_all rfl))|apply Am|apply Ap|apply Aq|apply Ar|apply Ax|apply Ay|apply Az|apply Ba|apply Bb|apply Bc|apply Bd|apply Be|apply Ca|apply Cb|apply Cc|apply Cd|apply Ce|apply Cf|apply Cg|apply Ch|apply Ci|apply Bf|apply Cj|apply Ck|apply Cl|apply Cm|apply Cn|apply Co|apply Cp|(apply byR;with_unfolding_all rfl)|((first|apply byKt|apply byKs);kernel_rfl)|(apply byL;simp only [econs,List.map_cons,List.map_nil,List.cons_append,List.nil_append,OpS.nm,OpS.reads,OpS.turns,Nat.reduceAdd];try with_unfolding_all rfl)|(apply byG;intro hg;try simp only [hg])|(apply byQ;intro hq;try simp only [hqs] at hq;try (exfalso;omega))|(apply byI;intro K hK)|(apply byH;repeat (first|exact dst_z rfl|apply dst_s))|(apply byN;unfold NapOK;kernel_rfl)|(apply byD;first|(simp;done)|(simp [go_sem];done))|(refine hK _ _ ?_;clear hK;clear K)|omega|(apply callX cl38 (s1);(case hl=>with_unfolding_all rfl))|(apply callX cl38 (s2);(case hl=>with_unfolding_all rfl))|(apply callX cl38 (s3);(case hl=>with_unfolding_all rfl))|(apply callX cl38 (s4);(case hl=>with_unfolding_all rfl))|contradiction))
    · have hz : ∀ f, cvO f c l = [] := fun f => by rw [cvO, if_neg he]
      rw [hz, hz] at k1
      refine fun_W mixed Try.func14 rfl (Nat.le_of_ble_eq_true rfl) (by kernel_rfl) fun cx hN hR hF hL => ?_; apply args_k; (case hA => (simp only [go_sem, ↓reduceIte]; rfl))
      (with_reducible repeat' (first|exact trivial|(apply byE;simp only [go_sem, ↓reduceIte, hf, eq_false he, decide_eq_false he];try rfl)|apply Aa|apply As|apply Au|apply Av|apply Aj|apply At|apply Aw|apply Ab|apply Ac|apply Ad|apply Ae|apply Af|apply Ag|apply Ah|apply Ai|apply Ak|apply Al|((first|apply An|apply Ao);(case hs=>with_unfolding_all rfl))|apply Am|apply Ap|apply Aq|apply Ar|apply Ax|apply Ay|apply Az|apply Ba|apply Bb|apply Bc|apply Bd|apply Be|apply Ca|apply Cb|apply Cc|apply Cd|apply Ce|apply Cf|apply Cg|apply Ch|apply Ci|apply Bf|apply Cj|apply Ck|apply Cl|apply Cm|apply Cn|apply Co|apply Cp|(apply byR;with_unfolding_all rfl)|((first|apply byKt|apply byKs);kernel_rfl)|(apply byL;simp only [econs,List.map_cons,List.map_nil,List.cons_append,List.nil_append,OpS.nm,OpS.reads,OpS.turns,Nat.reduceAdd];try with_unfolding_all rfl)|(apply byG;intro hg;try simp only [hg])|(apply byQ;intro hq;try simp only [hqs] at hq;try (exfalso;omega))|(apply byI;intro K hK)|(apply byH;repeat (first|exact dst_z rfl|apply dst_s))|(apply byN;unfold NapOK;kernel_rfl)|(apply byD;first|(simp;done)|(simp [go_sem];done))|(refine hK _ _ ?_;clear hK;clear K)|omega|(apply callX cl29 (awake_f);(case hl=>with_unfolding_all rfl))|(apply callX cl30 (few20_f l);(case hl=>with_unfolding_all rfl))|(apply callX cl36 (k1);(case hl=>with_unfolding_all rfl))|(apply callX cl22 (k2);(case hl=>with_unfolding_all rfl))|contradiction))
  · simp only [Bool.not_eq_true] at hf
    refine fun_W mixed Try.func14 rfl (Nat.le_of_ble_eq_true rfl) (by kernel_rfl) fun cx hN hR hF hL => ?_; apply args_k; (case hA => (simp only [go_sem, ↓reduceIte]; rfl))
    (with_reducible repeat' (first|exact trivial|(apply byE;simp only [go_sem, ↓reduceIte, hf];try rfl)|apply Aa|apply As|apply Au|apply Av|apply Aj|apply At|apply Aw|apply Ab|apply Ac|apply Ad|apply Ae|apply Af|apply Ag|apply Ah|apply Ai|apply Ak|apply Al|((first|apply An|apply Ao);(case hs=>with_unfolding_all rfl))|apply Am|apply Ap|apply Aq|apply Ar|apply Ax|apply Ay|apply Az|apply Ba|apply Bb|apply Bc|apply Bd|apply Be|apply Ca|apply Cb|apply Cc|apply Cd|apply Ce|apply Cf|apply Cg|apply Ch|apply Ci|apply Bf|apply Cj|apply Ck|apply Cl|apply Cm|apply Cn|apply Co|apply Cp|(apply byR;with_unfolding_all rfl)|((first|apply byKt|apply byKs);kernel_rfl)|(apply byL;simp only [econs,List.map_cons,List.map_nil,List.cons_append,List.nil_append,OpS.nm,OpS.reads,OpS.turns,Nat.reduceAdd];try with_unfolding_all rfl)|(apply byG;intro hg;try simp only [hg])|(apply byQ;intro hq;try simp only [hqs] at hq;try (exfalso;omega))|(apply byI;intro K hK)|(apply byH;repeat (first|exact dst_z rfl|apply dst_s))|(apply byN;unfold NapOK;kernel_rfl)|(apply byD;first|(simp;done)|(simp [go_sem];done))|(refine hK _ _ ?_;clear hK;clear K)|omega|(apply callX cl29 (awake_f);(case hl=>with_unfolding_all rfl))|(apply callX cl30 (few20_f l);(case hl=>with_unfolding_all rfl))|contradiction))
end Go.Proofs.Ytjplhfmakghabaa.V
