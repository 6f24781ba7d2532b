/- Law of chapter 20: Known. -/
-- STEPS: new
import Derived.Test.YtjplhfmakghabaaU8
import Derived.Test.YtjplhfmakghabaaU10
set_option linter.unusedSimpArgs false
set_option linter.unusedVariables false
namespace Go.Proofs.Ytjplhfmakghabaa.V
open Go.RowKit
set_option maxRecDepth 100000
attribute [local go_sem] Option.toList_some Option.toList_none

/-- A file with an act more, booked later, is known as it was. -/
theorem known_set {l : List File} {k : Nat} {f : File} (hk : l[k]? = some f) {a : Act} {d : Int} (hd : d < a.booked) : knownR (l.take k ++ ⟨f.claim, f.acts ++ [a]⟩ :: l.drop (k + 1)) d = knownR l d := by
  have e : l = l.take k ++ f :: l.drop (k + 1) := by
    have hkl := (List.getElem?_eq_some_iff.1 hk).1
    rw [List.getElem?_eq_getElem hkl] at hk
    injection hk with hk
    conv => lhs; rw [← List.take_append_drop k l, List.drop_eq_getElem_cons hkl, hk]
  have hat : (⟨f.claim, f.acts ++ [a]⟩ : File).at d = f.at d := by
    unfold File.at keepD
    rw [List.filter_append, List.filter_cons_of_neg (by simp; omega), List.filter_nil, List.append_nil]
  conv => rhs; rw [e]
  unfold knownR
  rw [List.filter_append, List.filter_append, List.map_append, List.map_append, List.filter_cons, List.filter_cons]
  split
  · rw [List.map_cons, List.map_cons, hat]
  · rfl

/-- Behind the last day a step holds its last value. -/
theorem valG_behind {y : Int} : ∀ (l : List (Int × Int)) (v x : Int), (∀ p, p ∈ l → p.1 ≤ y) → y ≤ x → valG v l x = valG v l y
  | [], _, _, _, _ => rfl
  | p :: l, v, x, h, hx => by
    have := h p (by simp)
    rw [valG, valG, if_pos (by omega), if_pos this]
    exact valG_behind l _ x (fun q hq => h q (by simp [hq])) hx
theorem right_le : ∀ {l : List (Int × Int)} {d0 v0 : Int}, rightG d0 v0 l = true → ∀ p, p ∈ l → p.1 ≤ 292194
  | [], _, _, _ => by simp
  | q :: l, d0, v0, h => by
    rw [rightG, Bool.and_eq_true, Bool.and_eq_true, Bool.and_eq_true, Bool.and_eq_true, decide_eq_true_eq] at h
    intro p hp
    rcases List.mem_cons.1 hp with rfl | hp
    · simpa using h.1.1.1.2
    · exact right_le h.2 p hp
theorem val_any {f : Pos → Int} {c : Cover} {l : List File} (h1 : rightG 0 0 (cvO f c l) = true) (h2 : ∀ x, x ≤ 292194 → valG 0 (cvO f c l) x = valD f c l x) (x : Int) : valG 0 (cvO f c l) x = valD f c l (min x 292194) := by
  by_cases hx : x ≤ 292194
  · rw [h2 x hx, Int.min_eq_left hx]
  · rw [valG_behind _ _ x (right_le h1) (by omega), h2 _ (Int.le_refl _), Int.min_eq_right (by omega)]

set_option maxHeartbeats 4000000 in
theorem knownLawN (c : Cover) (l : List File) (w : Nat) (a : Act) (d : Int) (hc : c.ok) (hw : w < 256) : Fun Try.prog 13 [.agg c.flat, filesA l, .v (.int .u8 w), .agg a.flat, int d] (bool true) := by
  by_cases hf : few20 l = true
  · obtain ⟨h1, h2⟩ := few20_is hf
    by_cases h0 : l = []
    · subst h0
      refine fun_W mixed Try.func13 rfl (Nat.le_of_ble_eq_true rfl) (by kernel_rfl) fun cx hN hR hF hL => ?_; apply args_k; (case hA => (simp only [go_sem, ↓reduceIte]; rfl))
      (with_reducible repeat' (first|exact trivial|(apply byE;simp only [go_sem, ↓reduceIte, hf];try rfl)|apply Aa|apply As|apply Au|apply Av|apply Aj|apply At|apply Aw|apply Ab|apply Ac|apply Ad|apply Ae|apply Af|apply Ag|apply Ah|apply Ai|apply Ak|apply Al|((first|apply An|apply Ao);(case hs=>with_unfolding_all rfl))|apply Am|apply Ap|apply Aq|apply Ar|apply Ax|apply Ay|apply Az|apply Ba|apply Bb|apply Bc|apply Bd|apply Be|apply Ca|apply Cb|apply Cc|apply Cd|apply Ce|apply Cf|apply Cg|apply Ch|apply Ci|apply Bf|apply Cj|apply Ck|apply Cl|apply Cm|apply Cn|apply Co|apply Cp|(apply byR;with_unfolding_all rfl)|((first|apply byKt|apply byKs);kernel_rfl)|(apply byL;simp only [econs,List.map_cons,List.map_nil,List.cons_append,List.nil_append,OpS.nm,OpS.reads,OpS.turns,Nat.reduceAdd];try with_unfolding_all rfl)|(apply byG;intro hg;try simp only [hg])|(apply byQ;intro hq;try simp only [hqs] at hq;try (exfalso;omega))|(apply byI;intro K hK)|(apply byH;repeat (first|exact dst_z rfl|apply dst_s))|(apply byN;unfold NapOK;kernel_rfl)|(apply byD;first|(simp;done)|(simp [go_sem];done))|(refine hK _ _ ?_;clear hK;clear K)|omega|(apply callX cl29 (awake_f);(case hl=>with_unfolding_all rfl))|(apply callX cl30 (few20_f []);(case hl=>with_unfolding_all rfl))|contradiction))
    · have hn : 0 < l.length := List.length_pos_iff.2 h0
      have hkl : w % l.length < l.length := Nat.mod_lt _ hn
      have hmod : intBin .rem .i64 (IntKind.i64.wrap (w : Int)) (l.length : Int) = some (.v (.int .i64 ((w % l.length : Nat) : Int))) := by
        have e : IntKind.i64.wrap (w : Int) = w := by rw [wrap_id] <;> omega
        rw [ib_rem _ _ _ (by omega), e, Int.tmod_eq_emod_of_nonneg (by omega)]
        simp
      generalize w % l.length = k at *
      have e0 : l[k]? = some l[k] := List.getElem?_eq_getElem hkl
      have e1 : (l.map File.flat)[k]? = some l[k].flat := by rw [List.getElem?_map, e0]; rfl
      have hk1 : k < (l.map File.flat).length := by simpa using hkl
      have hfl := h2 _ (List.getElem_mem hkl)
      have hpt := put_f l[k] a (by omega)
      have hks := fun h => known_set e0 (a := a) (d := d) h
      generalize l[k] = f at *
      by_cases he : putE f a = 0
      · rw [put_0 he, he] at hpt
        have hgl : ((f.acts ++ [a]).map Act.flat).length = f.acts.length + 1 := by simp
        have hc1 : ((f.acts.length + 1 : Nat) : Int) = (f.acts.length : Int) + 1 := by omega
        by_cases hg : ((f.acts.length : Int) + 1) > 40
        · refine fun_W mixed Try.func13 rfl (Nat.le_of_ble_eq_true rfl) (by kernel_rfl) fun cx hN hR hF hL => ?_; apply args_k; (case hA => (simp only [go_sem, ↓reduceIte]; rfl))
          (with_reducible repeat' (first|exact trivial|(apply byE;simp only [go_sem, ↓reduceIte, hf, hmod, e1, hk1, hgl, hc1, eq_true hg, decide_eq_true hg];try rfl)|apply Aa|apply As|apply Au|apply Av|apply Aj|apply At|apply Aw|apply Ab|apply Ac|apply Ad|apply Ae|apply Af|apply Ag|apply Ah|apply Ai|apply Ak|apply Al|((first|apply An|apply Ao);(case hs=>with_unfolding_all rfl))|apply Am|apply Ap|apply Aq|apply Ar|apply Ax|apply Ay|apply Az|apply Ba|apply Bb|apply Bc|apply Bd|apply Be|apply Ca|apply Cb|apply Cc|apply Cd|apply Ce|apply Cf|apply Cg|apply Ch|apply Ci|apply Bf|apply Cj|apply Ck|apply Cl|apply Cm|apply Cn|apply Co|apply Cp|(apply byR;with_unfolding_all rfl)|((first|apply byKt|apply byKs);kernel_rfl)|(apply byL;simp only [econs,List.map_cons,List.map_nil,List.cons_append,List.nil_append,OpS.nm,OpS.reads,OpS.turns,Nat.reduceAdd];try with_unfolding_all rfl)|(apply byG;intro hg;try simp only [hg])|(apply byQ;intro hq;try simp only [hqs] at hq;try (exfalso;omega))|(apply byI;intro K hK)|(apply byH;repeat (first|exact dst_z rfl|apply dst_s))|(apply byN;unfold NapOK;kernel_rfl)|(apply byD;first|(simp;done)|(simp [go_sem];done))|(refine hK _ _ ?_;clear hK;clear K)|omega|(apply callX cl29 (awake_f);(case hl=>with_unfolding_all rfl))|(apply callX cl30 (few20_f l);(case hl=>with_unfolding_all rfl))|(apply callX cl27 (hpt);(case hl=>with_unfolding_all rfl))|contradiction))
        · by_cases hd : d ≥ a.booked
          · refine fun_W mixed Try.func13 rfl (Nat.le_of_ble_eq_true rfl) (by kernel_rfl) fun cx hN hR hF hL => ?_; apply args_k; (case hA => (simp only [go_sem, ↓reduceIte]; rfl))
            (with_reducible repeat' (first|exact trivial|(apply byE;simp only [go_sem, ↓reduceIte, hf, hmod, e1, hk1, hgl, hc1, eq_false hg, decide_eq_false hg, eq_true hd, decide_eq_true hd];try rfl)|apply Aa|apply As|apply Au|apply Av|apply Aj|apply At|apply Aw|apply Ab|apply Ac|apply Ad|apply Ae|apply Af|apply Ag|apply Ah|apply Ai|apply Ak|apply Al|((first|apply An|apply Ao);(case hs=>with_unfolding_all rfl))|apply Am|apply Ap|apply Aq|apply Ar|apply Ax|apply Ay|apply Az|apply Ba|apply Bb|apply Bc|apply Bd|apply Be|apply Ca|apply Cb|apply Cc|apply Cd|apply Ce|apply Cf|apply Cg|apply Ch|apply Ci|apply Bf|apply Cj|apply Ck|apply Cl|apply Cm|apply Cn|apply Co|apply Cp|(apply byR;with_unfolding_all rfl)|((first|apply byKt|apply byKs);kernel_rfl)|(apply byL;simp only [econs,List.map_cons,List.map_nil,List.cons_append,List.nil_append,OpS.nm,OpS.reads,OpS.turns,Nat.reduceAdd];try with_unfolding_all rfl)|(apply byG;intro hg;try simp only [hg])|(apply byQ;intro hq;try simp only [hqs] at hq;try (exfalso;omega))|(apply byI;intro K hK)|(apply byH;repeat (first|exact dst_z rfl|apply dst_s))|(apply byN;unfold NapOK;kernel_rfl)|(apply byD;first|(simp;done)|(simp [go_sem];done))|(refine hK _ _ ?_;clear hK;clear K)|omega|(apply callX cl29 (awake_f);(case hl=>with_unfolding_all rfl))|(apply callX cl30 (few20_f l);(case hl=>with_unfolding_all rfl))|(apply callX cl27 (hpt);(case hl=>with_unfolding_all rfl))|contradiction))
          · have k1 := curves_f c l hc (by omega)
            have hml : (l.take k ++ (⟨f.claim, f.acts ++ [a]⟩ : File) :: l.drop (k + 1)).length = l.length := by simp; omega
            have k2 := curves_f c (l.take k ++ (⟨f.claim, f.acts ++ [a]⟩ : File) :: l.drop (k + 1)) hc (by omega)
            have hks2 := hks
            have e2 : IntKind.i64.wrap ((k : Int) + 1) = ((k + 1 : Nat) : Int) := by rw [wrap_id] <;> omega
            have hcl : (List.take k (List.map File.flat l)).flatten ++ [int f.claim.id, int f.claim.policy, int f.claim.peril, int f.claim.loss, int f.claim.booked, int f.claim.event, actsA (f.acts ++ [a])] ++ (List.drop (k + 1) (List.map File.flat l)).flatten = rowC File.flat (l.take k ++ (⟨f.claim, f.acts ++ [a]⟩ : File) :: l.drop (k + 1)) := by
              rw [← List.map_take, ← List.map_drop]
              simp [rowC, File.flat]
            have hnl : min k l.length + 1 + (l.length - (k + 1)) = (l.take k ++ (⟨f.claim, f.acts ++ [a]⟩ : File) :: l.drop (k + 1)).length := by rw [hml]; omega
            have hkn : ∀ x, x < a.booked → valD Pos.paid c (l.take k ++ (⟨f.claim, f.acts ++ [a]⟩ : File) :: l.drop (k + 1)) x = valD Pos.paid c l x ∧ valD Pos.reserve c (l.take k ++ (⟨f.claim, f.acts ++ [a]⟩ : File) :: l.drop (k + 1)) x = valD Pos.reserve c l x := fun x hx => by
              unfold valD
              rw [known_set e0 hx]
              exact ⟨rfl, rfl⟩
            clear hks hks2
            have htk : (List.take k (List.map File.flat l)).flatten.length = k * 7 := by
              rw [← List.map_take]
              have := rowF_len (l.take k)
              rw [List.length_take, Nat.min_eq_left (by omega)] at this
              exact this
            generalize l.take k ++ (⟨f.claim, f.acts ++ [a]⟩ : File) :: l.drop (k + 1) = m at *
            by_cases c1 : cvE c l = 0
            · by_cases c2 : cvE c m = 0
              · obtain ⟨p1, p2, p3⟩ := paid_curve c1
                obtain ⟨q1, q2, q3⟩ := held_curve c1
                obtain ⟨p4, p5, p6⟩ := paid_curve c2
                obtain ⟨q4, q5, q6⟩ := held_curve c2
                have s1 := stepAt_f p1 p2 d
                have s2 := stepAt_f q1 q2 d
                have s3 := stepAt_f p4 p5 d
                have s4 := stepAt_f q4 q5 d
                obtain ⟨v1, v2⟩ := hkn (min d 292194) (by omega)
                rw [val_any p1 p3] at s1
                rw [val_any q1 q3] at s2
                rw [val_any p4 p6, v1] at s3
                rw [val_any q4 q6, v2] at s4
                rw [c1] at k1
                rw [c2] at k2
                clear p1 p2 p3 p4 p5 p6 q1 q2 q3 q4 q5 q6 v1 v2 hkn
                generalize valD Pos.paid c l (min d 292194) = a1 at *
                generalize valD Pos.reserve c l (min d 292194) = a2 at *
                generalize cvO Pos.paid c l = A1 at *
                generalize cvO Pos.reserve c l = A2 at *
                generalize cvO Pos.paid c m = B1 at *
                generalize cvO Pos.reserve c m = B2 at *
                refine fun_W mixed Try.func13 rfl (Nat.le_of_ble_eq_true rfl) (by kernel_rfl) fun cx hN hR hF hL => ?_; apply args_k; (case hA => (simp only [go_sem, ↓reduceIte]; rfl))
                (with_reducible repeat' (first|exact trivial|(apply byE;simp only [go_sem, ↓reduceIte, hf, hmod, e1, hk1, hgl, hc1, eq_false hg, decide_eq_false hg, eq_false hd, decide_eq_false hd, e2, Int.toNat_natCast, hcl, hnl];try rfl)|apply Aa|apply As|apply Au|apply Av|apply Aj|apply At|apply Aw|apply Ab|apply Ac|apply Ad|apply Ae|apply Af|apply Ag|apply Ah|apply Ai|apply Ak|apply Al|((first|apply An|apply Ao);(case hs=>with_unfolding_all rfl))|apply Am|apply Ap|apply Aq|apply Ar|apply Ax|apply Ay|apply Az|apply Ba|apply Bb|apply Bc|apply Bd|apply Be|apply Ca|apply Cb|apply Cc|apply Cd|apply Ce|apply Cf|apply Cg|apply Ch|apply Ci|apply Bf|apply Cj|apply Ck|apply Cl|apply Cm|apply Cn|apply Co|apply Cp|(apply byR;with_unfolding_all rfl)|((first|apply byKt|apply byKs);kernel_rfl)|(apply byL;simp only [econs,List.map_cons,List.map_nil,List.cons_append,List.nil_append,OpS.nm,OpS.reads,OpS.turns,Nat.reduceAdd];try with_unfolding_all rfl)|(apply byG;intro hg;try simp only [hg])|(apply byQ;intro hq;try simp only [hqs] at hq;try (exfalso;omega))|(apply byI;intro K hK)|(apply byH;repeat (first|exact dst_z rfl|apply dst_s))|(apply byN;unfold NapOK;kernel_rfl)|(apply byD;first|(simp;done)|(simp [go_sem];done))|(refine hK _ _ ?_;clear hK;clear K)|omega|(apply callX cl29 (awake_f);(case hl=>with_unfolding_all rfl))|(apply callX cl30 (few20_f l);(case hl=>with_unfolding_all rfl))|(apply callX cl27 (hpt);(case hl=>with_unfolding_all rfl))|(apply callX cl36 (k1);(case hl=>with_unfolding_all rfl))|contradiction))
                (apply callF' [7096] cl36 (k2); (case hp | hl | hk => (simp only [go_sem, ↓reduceIte]; try rfl)); (try (case hfz => (first | (simp only [go_sem]; done) | (simp [go_sem, fzo]; done)))))
                · refine ⟨by simp [go_sem], fz_files 5 rfl rfl, trivial⟩
                (with_reducible repeat' (first|exact trivial|(apply byE;simp only [go_sem, ↓reduceIte, hc1, e2];try rfl)|apply Aa|apply As|apply Au|apply Av|apply Aj|apply At|apply Aw|apply Ab|apply Ac|apply Ad|apply Ae|apply Af|apply Ag|apply Ah|apply Ai|apply Ak|apply Al|((first|apply An|apply Ao);(case hs=>with_unfolding_all rfl))|apply Am|apply Ap|apply Aq|apply Ar|apply Ax|apply Ay|apply Az|apply Ba|apply Bb|apply Bc|apply Bd|apply Be|apply Ca|apply Cb|apply Cc|apply Cd|apply Ce|apply Cf|apply Cg|apply Ch|apply Ci|apply Bf|apply Cj|apply Ck|apply Cl|apply Cm|apply Cn|apply Co|apply Cp|(apply byR;with_unfolding_all rfl)|((first|apply byKt|apply byKs);kernel_rfl)|(apply byL;simp only [econs,List.map_cons,List.map_nil,List.cons_append,List.nil_append,OpS.nm,OpS.reads,OpS.turns,Nat.reduceAdd];try with_unfolding_all rfl)|(apply byG;intro hg;try simp only [hg])|(apply byQ;intro hq;try simp only [hqs] at hq;try (exfalso;omega))|(apply byI;intro K hK)|(apply byH;repeat (first|exact dst_z rfl|apply dst_s))|(apply byN;unfold NapOK;kernel_rfl)|(apply byD;first|(simp;done)|(simp [go_sem];done))|(refine hK _ _ ?_;clear hK;clear K)|omega|(apply callX cl38 (s1);(case hl=>with_unfolding_all rfl))|(apply callX cl38 (s2);(case hl=>with_unfolding_all rfl))|(apply callX cl38 (s3);(case hl=>with_unfolding_all rfl))|(apply callX cl38 (s4);(case hl=>with_unfolding_all rfl))|contradiction))
                all_goals first | exact ⟨by rw [htk, Nat.min_eq_left (by omega)] <;> omega, by simp [maxLen]; omega, by omega⟩ | exact ⟨by simp [maxLen]; omega, by omega⟩
              · have hz : ∀ f, cvO f c m = [] := fun f => by rw [cvO, if_neg c2]
                rw [hz, hz] at k2
                rw [c1] at k1
                generalize cvO Pos.paid c l = A1 at *
                generalize cvO Pos.reserve c l = A2 at *
                clear hkn
                refine fun_W mixed Try.func13 rfl (Nat.le_of_ble_eq_true rfl) (by kernel_rfl) fun cx hN hR hF hL => ?_; apply args_k; (case hA => (simp only [go_sem, ↓reduceIte]; rfl))
                (with_reducible repeat' (first|exact trivial|(apply byE;simp only [go_sem, ↓reduceIte, hf, hmod, e1, hk1, hgl, hc1, eq_false hg, decide_eq_false hg, eq_false hd, decide_eq_false hd, e2, Int.toNat_natCast, hcl, hnl, eq_false c2, decide_eq_false c2];try rfl)|apply Aa|apply As|apply Au|apply Av|apply Aj|apply At|apply Aw|apply Ab|apply Ac|apply Ad|apply Ae|apply Af|apply Ag|apply Ah|apply Ai|apply Ak|apply Al|((first|apply An|apply Ao);(case hs=>with_unfolding_all rfl))|apply Am|apply Ap|apply Aq|apply Ar|apply Ax|apply Ay|apply Az|apply Ba|apply Bb|apply Bc|apply Bd|apply Be|apply Ca|apply Cb|apply Cc|apply Cd|apply Ce|apply Cf|apply Cg|apply Ch|apply Ci|apply Bf|apply Cj|apply Ck|apply Cl|apply Cm|apply Cn|apply Co|apply Cp|(apply byR;with_unfolding_all rfl)|((first|apply byKt|apply byKs);kernel_rfl)|(apply byL;simp only [econs,List.map_cons,List.map_nil,List.cons_append,List.nil_append,OpS.nm,OpS.reads,OpS.turns,Nat.reduceAdd];try with_unfolding_all rfl)|(apply byG;intro hg;try simp only [hg])|(apply byQ;intro hq;try simp only [hqs] at hq;try (exfalso;omega))|(apply byI;intro K hK)|(apply byH;repeat (first|exact dst_z rfl|apply dst_s))|(apply byN;unfold NapOK;kernel_rfl)|(apply byD;first|(simp;done)|(simp [go_sem];done))|(refine hK _ _ ?_;clear hK;clear K)|omega|(apply callX cl29 (awake_f);(case hl=>with_unfolding_all rfl))|(apply callX cl30 (few20_f l);(case hl=>with_unfolding_all rfl))|(apply callX cl27 (hpt);(case hl=>with_unfolding_all rfl))|(apply callX cl36 (k1);(case hl=>with_unfolding_all rfl))|contradiction))
                (apply callF' [7096] cl36 (k2); (case hp | hl | hk => (simp only [go_sem, ↓reduceIte]; try rfl)); (try (case hfz => (first | (simp only [go_sem]; done) | (simp [go_sem, fzo]; done)))))
                · refine ⟨by simp [go_sem], fz_files 5 rfl rfl, trivial⟩
                (with_reducible repeat' (first|exact trivial|(apply byE;simp only [go_sem, ↓reduceIte, eq_false c2, decide_eq_false c2];try rfl)|apply Aa|apply As|apply Au|apply Av|apply Aj|apply At|apply Aw|apply Ab|apply Ac|apply Ad|apply Ae|apply Af|apply Ag|apply Ah|apply Ai|apply Ak|apply Al|((first|apply An|apply Ao);(case hs=>with_unfolding_all rfl))|apply Am|apply Ap|apply Aq|apply Ar|apply Ax|apply Ay|apply Az|apply Ba|apply Bb|apply Bc|apply Bd|apply Be|apply Ca|apply Cb|apply Cc|apply Cd|apply Ce|apply Cf|apply Cg|apply Ch|apply Ci|apply Bf|apply Cj|apply Ck|apply Cl|apply Cm|apply Cn|apply Co|apply Cp|(apply byR;with_unfolding_all rfl)|((first|apply byKt|apply byKs);kernel_rfl)|(apply byL;simp only [econs,List.map_cons,List.map_nil,List.cons_append,List.nil_append,OpS.nm,OpS.reads,OpS.turns,Nat.reduceAdd];try with_unfolding_all rfl)|(apply byG;intro hg;try simp only [hg])|(apply byQ;intro hq;try simp only [hqs] at hq;try (exfalso;omega))|(apply byI;intro K hK)|(apply byH;repeat (first|exact dst_z rfl|apply dst_s))|(apply byN;unfold NapOK;kernel_rfl)|(apply byD;first|(simp;done)|(simp [go_sem];done))|(refine hK _ _ ?_;clear hK;clear K)|omega|contradiction))
                all_goals first | exact ⟨by rw [htk, Nat.min_eq_left (by omega)] <;> omega, by simp [maxLen]; omega, by omega⟩ | exact ⟨by simp [maxLen]; omega, by omega⟩
            · have hz : ∀ f, cvO f c l = [] := fun f => by rw [cvO, if_neg c1]
              rw [hz, hz] at k1
              generalize cvO Pos.paid c m = A1 at *
              generalize cvO Pos.reserve c m = A2 at *
              clear hkn
              refine fun_W mixed Try.func13 rfl (Nat.le_of_ble_eq_true rfl) (by kernel_rfl) fun cx hN hR hF hL => ?_; apply args_k; (case hA => (simp only [go_sem, ↓reduceIte]; rfl))
              (with_reducible repeat' (first|exact trivial|(apply byE;simp only [go_sem, ↓reduceIte, hf, hmod, e1, hk1, hgl, hc1, eq_false hg, decide_eq_false hg, eq_false hd, decide_eq_false hd, e2, Int.toNat_natCast, hcl, hnl, eq_false c1, decide_eq_false c1];try rfl)|apply Aa|apply As|apply Au|apply Av|apply Aj|apply At|apply Aw|apply Ab|apply Ac|apply Ad|apply Ae|apply Af|apply Ag|apply Ah|apply Ai|apply Ak|apply Al|((first|apply An|apply Ao);(case hs=>with_unfolding_all rfl))|apply Am|apply Ap|apply Aq|apply Ar|apply Ax|apply Ay|apply Az|apply Ba|apply Bb|apply Bc|apply Bd|apply Be|apply Ca|apply Cb|apply Cc|apply Cd|apply Ce|apply Cf|apply Cg|apply Ch|apply Ci|apply Bf|apply Cj|apply Ck|apply Cl|apply Cm|apply Cn|apply Co|apply Cp|(apply byR;with_unfolding_all rfl)|((first|apply byKt|apply byKs);kernel_rfl)|(apply byL;simp only [econs,List.map_cons,List.map_nil,List.cons_append,List.nil_append,OpS.nm,OpS.reads,OpS.turns,Nat.reduceAdd];try with_unfolding_all rfl)|(apply byG;intro hg;try simp only [hg])|(apply byQ;intro hq;try simp only [hqs] at hq;try (exfalso;omega))|(apply byI;intro K hK)|(apply byH;repeat (first|exact dst_z rfl|apply dst_s))|(apply byN;unfold NapOK;kernel_rfl)|(apply byD;first|(simp;done)|(simp [go_sem];done))|(refine hK _ _ ?_;clear hK;clear K)|omega|(apply callX cl29 (awake_f);(case hl=>with_unfolding_all rfl))|(apply callX cl30 (few20_f l);(case hl=>with_unfolding_all rfl))|(apply callX cl27 (hpt);(case hl=>with_unfolding_all rfl))|(apply callX cl36 (k1);(case hl=>with_unfolding_all rfl))|contradiction))
              (apply callF' [7096] cl36 (k2); (case hp | hl | hk => (simp only [go_sem, ↓reduceIte]; try rfl)); (try (case hfz => (first | (simp only [go_sem]; done) | (simp [go_sem, fzo]; done)))))
              · refine ⟨by simp [go_sem], fz_files 5 rfl rfl, trivial⟩
              (with_reducible repeat' (first|exact trivial|(apply byE;simp only [go_sem, ↓reduceIte, eq_false c1, decide_eq_false c1];try rfl)|apply Aa|apply As|apply Au|apply Av|apply Aj|apply At|apply Aw|apply Ab|apply Ac|apply Ad|apply Ae|apply Af|apply Ag|apply Ah|apply Ai|apply Ak|apply Al|((first|apply An|apply Ao);(case hs=>with_unfolding_all rfl))|apply Am|apply Ap|apply Aq|apply Ar|apply Ax|apply Ay|apply Az|apply Ba|apply Bb|apply Bc|apply Bd|apply Be|apply Ca|apply Cb|apply Cc|apply Cd|apply Ce|apply Cf|apply Cg|apply Ch|apply Ci|apply Bf|apply Cj|apply Ck|apply Cl|apply Cm|apply Cn|apply Co|apply Cp|(apply byR;with_unfolding_all rfl)|((first|apply byKt|apply byKs);kernel_rfl)|(apply byL;simp only [econs,List.map_cons,List.map_nil,List.cons_append,List.nil_append,OpS.nm,OpS.reads,OpS.turns,Nat.reduceAdd];try with_unfolding_all rfl)|(apply byG;intro hg;try simp only [hg])|(apply byQ;intro hq;try simp only [hqs] at hq;try (exfalso;omega))|(apply byI;intro K hK)|(apply byH;repeat (first|exact dst_z rfl|apply dst_s))|(apply byN;unfold NapOK;kernel_rfl)|(apply byD;first|(simp;done)|(simp [go_sem];done))|(refine hK _ _ ?_;clear hK;clear K)|omega|contradiction))
              all_goals first | exact ⟨by rw [htk, Nat.min_eq_left (by omega)] <;> omega, by simp [maxLen]; omega, by omega⟩ | exact ⟨by simp [maxLen]; omega, by omega⟩
      · generalize putF f a = g at *
        obtain ⟨gc, ga⟩ := g
        refine fun_W mixed Try.func13 rfl (Nat.le_of_ble_eq_true rfl) (by kernel_rfl) fun cx hN hR hF hL => ?_; apply args_k; (case hA => (simp only [go_sem, ↓reduceIte]; rfl))
        (with_reducible repeat' (first|exact trivial|(apply byE;simp only [go_sem, ↓reduceIte, hf, hmod, e1, hk1, eq_false he, decide_eq_false he];try rfl)|apply Aa|apply As|apply Au|apply Av|apply Aj|apply At|apply Aw|apply Ab|apply Ac|apply Ad|apply Ae|apply Af|apply Ag|apply Ah|apply Ai|apply Ak|apply Al|((first|apply An|apply Ao);(case hs=>with_unfolding_all rfl))|apply Am|apply Ap|apply Aq|apply Ar|apply Ax|apply Ay|apply Az|apply Ba|apply Bb|apply Bc|apply Bd|apply Be|apply Ca|apply Cb|apply Cc|apply Cd|apply Ce|apply Cf|apply Cg|apply Ch|apply Ci|apply Bf|apply Cj|apply Ck|apply Cl|apply Cm|apply Cn|apply Co|apply Cp|(apply byR;with_unfolding_all rfl)|((first|apply byKt|apply byKs);kernel_rfl)|(apply byL;simp only [econs,List.map_cons,List.map_nil,List.cons_append,List.nil_append,OpS.nm,OpS.reads,OpS.turns,Nat.reduceAdd];try with_unfolding_all rfl)|(apply byG;intro hg;try simp only [hg])|(apply byQ;intro hq;try simp only [hqs] at hq;try (exfalso;omega))|(apply byI;intro K hK)|(apply byH;repeat (first|exact dst_z rfl|apply dst_s))|(apply byN;unfold NapOK;kernel_rfl)|(apply byD;first|(simp;done)|(simp [go_sem];done))|(refine hK _ _ ?_;clear hK;clear K)|omega|(apply callX cl29 (awake_f);(case hl=>with_unfolding_all rfl))|(apply callX cl30 (few20_f l);(case hl=>with_unfolding_all rfl))|(apply callX cl27 (hpt);(case hl=>with_unfolding_all rfl))|contradiction))
  · simp only [Bool.not_eq_true] at hf
    refine fun_W mixed Try.func13 rfl (Nat.le_of_ble_eq_true rfl) (by kernel_rfl) fun cx hN hR hF hL => ?_; apply args_k; (case hA => (simp only [go_sem, ↓reduceIte]; rfl))
    (with_reducible repeat' (first|exact trivial|(apply byE;simp only [go_sem, ↓reduceIte, hf];try rfl)|apply Aa|apply As|apply Au|apply Av|apply Aj|apply At|apply Aw|apply Ab|apply Ac|apply Ad|apply Ae|apply Af|apply Ag|apply Ah|apply Ai|apply Ak|apply Al|((first|apply An|apply Ao);(case hs=>with_unfolding_all rfl))|apply Am|apply Ap|apply Aq|apply Ar|apply Ax|apply Ay|apply Az|apply Ba|apply Bb|apply Bc|apply Bd|apply Be|apply Ca|apply Cb|apply Cc|apply Cd|apply Ce|apply Cf|apply Cg|apply Ch|apply Ci|apply Bf|apply Cj|apply Ck|apply Cl|apply Cm|apply Cn|apply Co|apply Cp|(apply byR;with_unfolding_all rfl)|((first|apply byKt|apply byKs);kernel_rfl)|(apply byL;simp only [econs,List.map_cons,List.map_nil,List.cons_append,List.nil_append,OpS.nm,OpS.reads,OpS.turns,Nat.reduceAdd];try with_unfolding_all rfl)|(apply byG;intro hg;try simp only [hg])|(apply byQ;intro hq;try simp only [hqs] at hq;try (exfalso;omega))|(apply byI;intro K hK)|(apply byH;repeat (first|exact dst_z rfl|apply dst_s))|(apply byN;unfold NapOK;kernel_rfl)|(apply byD;first|(simp;done)|(simp [go_sem];done))|(refine hK _ _ ?_;clear hK;clear K)|omega|(apply callX cl29 (awake_f);(case hl=>with_unfolding_all rfl))|(apply callX cl30 (few20_f l);(case hl=>with_unfolding_all rfl))|contradiction))
theorem u8_of {x : Int} (h : (Lit.int .u8 x).wf = true) : 0 ≤ x ∧ x ≤ 255 := by
  simp [Lit.wf] at h
  revert h
  simp [IntKind.has, IntKind.min, IntKind.max, IntKind.signed, IntKind.bits]
theorem knownLaw (c : Cover) (l : List File) (w : Int) (a : Act) (d : Int) (hc : c.ok) (hw : 0 ≤ w ∧ w ≤ 255) : Fun Try.prog 13 [.agg c.flat, filesA l, .v (.int .u8 w), .agg a.flat, int d] (bool true) := by
  obtain ⟨n, rfl⟩ : ∃ n : Nat, w = n := ⟨w.toNat, by omega⟩
  exact knownLawN c l n a d hc (by omega)
end Go.Proofs.Ytjplhfmakghabaa.V
