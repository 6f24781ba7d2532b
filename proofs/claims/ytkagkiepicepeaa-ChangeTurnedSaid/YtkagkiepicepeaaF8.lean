/- Contract of change.Put. -/
import Derived.Test.YtkagkiepicepeaaF7
set_option linter.unusedSimpArgs false
set_option linter.unusedVariables false
namespace Go.Proofs.Ytkagkiepicepeaa.V
open Go.RowKit
set_option maxRecDepth 100000
attribute [local go_sem] Option.toList_some Option.toList_none

def lastB (b : Int) (l : List Change) : Int := match l.getLast? with | some c => c.booked | none => b
def putE (h : History) (c : Change) : Int := if (!c.right || !spanIn h.terms.from_ h.terms.to_ c.day) = true then 1 else if c.booked < lastB h.booked h.changes then 4 else if 2000 ≤ h.changes.length then 2 else 0
def putH (h : History) (c : Change) : History := if putE h c = 0 then ⟨h.id, h.booked, h.terms, h.changes ++ [c]⟩ else zeroHist

theorem take_map_len {α β : Type} (F : α → β) (l : List α) : (l.map F).take l.length = l.map F := by
  rw [← List.length_map (f := F), List.take_length]

theorem fzo_snoc {t : TypeId} {R : AV → AV → Prop} (l : List Change) (c : Change) {n : Nat} (hn : n = l.length + 1) : fzo (some ⟨t, (l.map Change.flat).flatten ++ c.flat⟩) R 9 0 n ((l ++ [c]).map Change.flat) := by
  have : (l.map Change.flat).flatten ++ c.flat = ((l ++ [c]).map Change.flat).flatten := by simp
  rw [this]
  exact fzo_rows Change.len Change.data _ (by simp [hn])

theorem put1 {h : History} {c : Change} (hq : c.right = false ∨ spanIn h.terms.from_ h.terms.to_ c.day = false) : putE h c = 1 := by
  unfold putE
  rcases hq with e | e <;> simp [e]
theorem put4 {h : History} {c : Change} (h1 : c.right = true ∧ spanIn h.terms.from_ h.terms.to_ c.day = true) (hq : c.booked < lastB h.booked h.changes) : putE h c = 4 := by
  unfold putE
  simp [h1.1, h1.2, hq]
theorem put2 {h : History} {c : Change} (h1 : c.right = true ∧ spanIn h.terms.from_ h.terms.to_ c.day = true) (h2 : lastB h.booked h.changes ≤ c.booked) (hq : 2000 ≤ (h.changes.length : Int)) : putE h c = 2 := by
  unfold putE
  have : 2000 ≤ h.changes.length := by omega
  simp [h1.1, h1.2, this]
  omega
theorem put0 {h : History} {c : Change} (h1 : c.right = true ∧ spanIn h.terms.from_ h.terms.to_ c.day = true) (h2 : lastB h.booked h.changes ≤ c.booked) (hq : (h.changes.length : Int) < 2000) : putE h c = 0 := by
  unfold putE
  simp [h1.1, h1.2]
  omega
theorem putH_no {h : History} {c : Change} {e : Int} (he : putE h c = e) (hne : e ≠ 0) : putH h c = zeroHist := by
  unfold putH
  rw [if_neg (by rw [he]; exact hne)]
theorem putH_yes {h : History} {c : Change} (he : putE h c = 0) : putH h c = ⟨h.id, h.booked, h.terms, h.changes ++ [c]⟩ := by
  unfold putH
  rw [if_pos he]

theorem put_f (h : History) (c : Change) (hc : c.covers.length ≤ 100000) (ht : h.terms.covers.length ≤ 100000) : Fun Try.prog 35 [.agg h.flat, .agg c.flat] (.tup [.agg (putH h c).flat, int (putE h c)]) := by
  have htm := take_map_len Change.flat h.changes
  have mx : 2000 ≤ maxLen := by simp [maxLen]
  rcases List.eq_nil_or_concat h.changes with hn | ⟨l', x, hn⟩
  · have hlb : lastB h.booked h.changes = h.booked := by rw [hn]; rfl
    refine fun_W mixed Try.func35 rfl (Nat.le_of_ble_eq_true rfl) (by kernel_rfl) fun cx hN hR hF hL => ?_; apply args_k; (case hA => (simp only [go_sem, ↓reduceIte, reduceCtorEq, Nat.reduceAdd, Nat.reduceMul, Nat.reduceEqDiff, Nat.reduceLT, Nat.reduceLeDiff, Nat.reduceBEq, Nat.reduceSub]; rfl))
    (repeat' (first | (with_reducible exact trivial) | ((with_reducible apply byE); simp only [go_sem, ↓reduceIte, reduceCtorEq, Nat.reduceAdd, Nat.reduceMul, Nat.reduceEqDiff, Nat.reduceLT, Nat.reduceLeDiff, Nat.reduceBEq, Nat.reduceSub, htm, hn]; try with_reducible rfl) | (with_reducible first | apply Aa | apply As | apply Au | apply Av | apply Aj | apply At | apply Aw | apply Ab | apply Ac | apply Ad | apply Ae | apply Af | apply Ag | apply Ah | apply Ai | apply Ak | apply Al) | ((with_reducible first | apply An | apply Ao); (case hs => rfl)) | (with_reducible first | apply Am | apply Ap | apply Aq | apply Ar | apply Ax | apply Ay | apply Az | apply Ba | apply Bb | apply Bc | apply Bd | apply Be | apply Ca | apply Cb | apply Cc | apply Cd | apply Ce | apply Cf | apply Cg | apply Ch | apply Ci | apply Bf | apply Cj | apply Ck | apply Cl | apply Cm | apply Cn | apply Co | apply Cp) | ((with_reducible apply byR); rfl) | ((with_reducible apply byK); kernel_rfl) | ((with_reducible apply byL); simp only [econs, List.map_cons, List.map_nil, List.cons_append, List.nil_append, OpS.nm, OpS.reads, OpS.turns, Nat.reduceAdd]; try rfl) | ((with_reducible apply byG); intro hg; try simp only [hg]) | ((with_reducible apply byQ); intro hq; try simp only [hqs] at hq; try (exfalso; omega)) | ((with_reducible apply byI); intro K hK) | ((with_reducible apply byH); repeat (first | (with_reducible exact dst_z rfl) | (with_reducible apply dst_s))) | ((with_reducible apply byN); unfold NapOK; kernel_rfl) | ((with_reducible apply byD); first | (simp; done) | (simp [go_sem]; done)) | (with_reducible refine hK _ _ ?_; clear hK; clear K) | ((with_reducible apply callX cl28 (changeRight_f _)); (case hl => rfl)) | ((with_reducible apply callX cl59 (in_f _ _ _)); (case hl => rfl)) | ((with_reducible apply callX cl63 (clone_f _ _ hc)); (case hl => rfl)) | ((with_reducible apply callX cl61 (own_f _ ht)); (case hl => rfl)) | omega))
    · have he := put1 hq
      simp [putH_no he, he, zeroHist, zeroTerms]
    · rename_i h1
      have he := put4 h1 (by rw [hlb]; exact hq)
      simp [putH_no he, he, zeroHist, zeroTerms]
    · rename_i h2 h1
      have he := put0 h2 (by rw [hlb]; exact h1) (by rw [hn]; exact hq)
      simp only [putH_yes he, he, hn, List.nil_append, and_self, true_and, and_true]
      exact ⟨⟨rfl, rows_len Change.len _⟩, fzo_snoc [] c rfl⟩
  · have hlb : lastB h.booked h.changes = x.booked := by rw [hn]; simp [lastB]
    have hlen : h.changes.length = l'.length + 1 := by rw [hn]; simp
    have e1 : h.changes[l'.length]? = some x := by rw [hn]; simp
    refine fun_W mixed Try.func35 rfl (Nat.le_of_ble_eq_true rfl) (by kernel_rfl) fun cx hN hR hF hL => ?_; apply args_k; (case hA => (simp only [go_sem, ↓reduceIte, reduceCtorEq, Nat.reduceAdd, Nat.reduceMul, Nat.reduceEqDiff, Nat.reduceLT, Nat.reduceLeDiff, Nat.reduceBEq, Nat.reduceSub]; rfl))
    have hl : h.changes.length ≤ 9223372036854775807 := by
      have := hL
      simp [History.flat, maxLen] at this
      omega
    have ew : IntKind.i64.wrap (((l'.length + 1 : Nat) : Int) - 1) = (l'.length : Int) := by rw [wrap_id] <;> omega
    have htm2 : List.take (l'.length + 1) (h.changes.map Change.flat) = h.changes.map Change.flat := by rw [← hlen]; exact htm
    (repeat' (first | (with_reducible exact trivial) | ((with_reducible apply byE); simp only [go_sem, ↓reduceIte, reduceCtorEq, Nat.reduceAdd, Nat.reduceMul, Nat.reduceEqDiff, Nat.reduceLT, Nat.reduceLeDiff, Nat.reduceBEq, Nat.reduceSub, htm2, hlen, e1, ew]; try with_reducible rfl) | (with_reducible first | apply Aa | apply As | apply Au | apply Av | apply Aj | apply At | apply Aw | apply Ab | apply Ac | apply Ad | apply Ae | apply Af | apply Ag | apply Ah | apply Ai | apply Ak | apply Al) | ((with_reducible first | apply An | apply Ao); (case hs => rfl)) | (with_reducible first | apply Am | apply Ap | apply Aq | apply Ar | apply Ax | apply Ay | apply Az | apply Ba | apply Bb | apply Bc | apply Bd | apply Be | apply Ca | apply Cb | apply Cc | apply Cd | apply Ce | apply Cf | apply Cg | apply Ch | apply Ci | apply Bf | apply Cj | apply Ck | apply Cl | apply Cm | apply Cn | apply Co | apply Cp) | ((with_reducible apply byR); rfl) | ((with_reducible apply byK); kernel_rfl) | ((with_reducible apply byL); simp only [econs, List.map_cons, List.map_nil, List.cons_append, List.nil_append, OpS.nm, OpS.reads, OpS.turns, Nat.reduceAdd]; try rfl) | ((with_reducible apply byG); intro hg; try simp only [hg]) | ((with_reducible apply byQ); intro hq; try simp only [hqs] at hq; try (exfalso; omega)) | ((with_reducible apply byI); intro K hK) | ((with_reducible apply byH); repeat (first | (with_reducible exact dst_z rfl) | (with_reducible apply dst_s))) | ((with_reducible apply byN); unfold NapOK; kernel_rfl) | ((with_reducible apply byD); first | (simp; done) | (simp [go_sem]; done)) | (with_reducible refine hK _ _ ?_; clear hK; clear K) | ((with_reducible apply callX cl28 (changeRight_f _)); (case hl => rfl)) | ((with_reducible apply callX cl59 (in_f _ _ _)); (case hl => rfl)) | ((with_reducible apply callX cl63 (clone_f _ _ hc)); (case hl => rfl)) | ((with_reducible apply callX cl61 (own_f _ ht)); (case hl => rfl)) | omega))
    · have he := put1 hq
      simp [putH_no he, he, zeroHist, zeroTerms]
    · rename_i h1
      have he := put4 h1 (by rw [hlb]; exact hq)
      simp [putH_no he, he, zeroHist, zeroTerms]
    · rename_i h2 h1
      have he := put2 h2 (by rw [hlb]; exact h1) (by rw [hlen]; exact hq)
      simp [putH_no he, he, zeroHist, zeroTerms]
    · rename_i h2 h1
      have he := put0 h2 (by rw [hlb]; exact h1) (by rw [hlen]; exact hq)
      simp only [putH_yes he, he, and_self, true_and, and_true]
      exact ⟨⟨by simp [hlen], rows_len Change.len _⟩, fzo_snoc h.changes c (by simp [hlen])⟩
end Go.Proofs.Ytkagkiepicepeaa.V
