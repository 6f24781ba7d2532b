/- span's iterator: some. -/
import Derived.Test.YtffiompkjhopkaaP52
import Derived.Test.YtffiompkjhopkaaS2
import Derived.RangeFuncNested
import Derived.RangeFuncBound
import Derived.RangeFuncCalls
import Derived.RangeFuncLeaves
import Derived.Shelf.Abstract
import Derived.Shelf.RegionOpen
import Derived.WalkKit
import Derived.OwnWalkIn
import Derived.TacticsInMore
import Derived.LoopNIn
import Derived.LoopIn
import Derived.Stop.RegionWithIn
set_option linter.unusedSimpArgs false
set_option linter.unusedVariables false
namespace Go.Proofs.Ytffiompkjhopkaa.V
open Go.RowKit Go.Shelf
attribute [local go_sem] Oper.semAt_some
set_option maxRecDepth 100000

theorem neqSpan (x0 x1 y0 y1 : Int) (w : World) :
    (binOp .neq 30 (.agg #[.int .i64 x0, .int .i64 x1]) (.agg #[.int .i64 y0, .int .i64 y1])).run Try.prog w = .ok (.bool (!decide (x0 = y0 ∧ x1 = y1))) w := by
  have hS : Try.prog.underlying 30 = some (.struct (Try.prog.fieldsOf 30)) := by kernel_rfl
  have hp : Try.prog.stoodInHeld 30 = false := by kernel_rfl
  rw [run_neq_struct, show (10000 : Nat) = 9999 + 1 from rfl, run_equalIn_agg w 9999 30 _ _ hS hp]
  simp only [Program.fieldsOf, Try.underlying30]
  go_simp
  by_cases h0 : x0 = y0 <;> by_cases h1 : x1 = y1 <;> simp [h0, h1]

theorem yieldS_any {m m' : Nat} {l : Nat} {args : Array Value} {W : World} {R : Ending → World → Prop} (h : YieldAt (fen none) m Try.prog l args W R) : YieldAt (fen none) m' Try.prog l args W R := by
  obtain ⟨fn, tmps, assign, body, hy, hR⟩ := h
  exact ⟨fn, tmps, assign, body, hy, round_any hR⟩

theorem repS_int {M : Nat → Prop} {W : World} {u : Value} {n : Int} (h : RepD M W u (int n)) : u = .int .i64 n := by cases h; rfl

theorem pp_one {M : Nat → Prop} {W : World} {u : Value} {x : AV} (h : RepD M W u (.pp [x])) : ∃ (g o : Nat) (X : Value), u = .pointer (some ⟨g, o, none⟩) ∧ ¬ M g ∧ g < W.heap.size ∧ W.cell? ⟨g, o, none⟩ = some X ∧ RepD M W X x := by
  cases h with
  | pp z hM hg hl hx => exact ⟨_, _, z 0, rfl, hM, hg, (hl 0 (by simp)).1, hx 0 x rfl⟩

theorem prs_cells {M : Nat → Prop} {W : World} {u : Value} {a : List (Int × Int)} (h : RepD M W u (prs a)) : ∃ (A : Option Addr) (cap : Nat), u = .slice A a.length cap ∧ (a ≠ [] → ∃ b o : Nat, A = some ⟨b, o, none⟩ ∧ ¬ M b ∧ b < W.heap.size ∧
    ∀ (i : Nat) (x : Int × Int), a[i]? = some x → W.cell? ⟨b, o + i * 2, none⟩ = some (.int .i64 x.1) ∧ W.cell? ⟨b, o + i * 2 + 1, none⟩ = some (.int .i64 x.2)) := by
  cases h with
  | sl b o z hn hc hm hf hk hA hl hx =>
    refine ⟨_, _, by rw [hn, List.length_map], fun hne => ?_⟩
    obtain ⟨h1, h2, h3⟩ := hA (by simpa using hne)
    refine ⟨b, o, h1, h2, h3, fun i x hi => ?_⟩
    have hil : i < (a.map prow).length := by have := (List.getElem?_eq_some_iff.1 hi).1; simpa using this
    obtain ⟨c1, -⟩ := hl i 0 hil (by omega)
    obtain ⟨c2, -⟩ := hl i 1 hil (by omega)
    have d1 := repS_int (hx i (prow x) 0 (int x.1) (by simp [hi]) rfl)
    have d2 := repS_int (hx i (prow x) 1 (int x.2) (by simp [hi]) rfl)
    rw [Nat.add_zero] at c1
    exact ⟨by rw [c1, d1], by rw [c2, d2]⟩

theorem kept_calls (x y : Int) {W : World} : Calls Try.prog 66 #[.agg #[.int .i64 x, .int .i64 y]] W fun e w' => e = .returned (.agg #[.int .i64 (kA x y), .int .i64 (kB x y)]) ∧ Below W.heap.size W w' := by
  refine (kept_f x y (fun _ => False) W #[.agg #[.int .i64 x, .int .i64 y]] (fun _ h => h.elim) rfl fun i u z hu hz => ?_).mono ?_
  · rcases i with _ | i
    · simp at hu hz; subst hu hz
      refine .agg rfl fun j p q hp hq => ?_
      rcases j with _ | _ | j
      · simp at hp hq; subst hp hq; exact .v _
      · simp at hp hq; subst hp hq; exact .v _
      · simp at hp
    · simp at hu
  · rintro e w' ⟨u, rfl, hu, hb⟩
    refine ⟨?_, hb⟩
    cases hu with
    | agg hn hi =>
      rename_i vs
      congr 1
      congr 1
      have hn2 : vs.size = 2 := hn
      apply Array.ext
      · simpa using hn2
      · intro j h1 h2
        have h3 : j < 2 := by omega
        rcases j with _ | _ | j
        · exact repS_int (hi 0 vs[0] _ (by simp) rfl)
        · exact repS_int (hi 1 vs[1] _ (by simp) rfl)
        · omega

theorem fenS_round (r : Option Nat) : (fen r).round = r := rfl
theorem fenS_fn (r : Option Nat) (f : FuncId) : (fen r).fn f = True := rfl
theorem fenS_depth (r : Option Nat) : (fen r).depth = none := rfl
attribute [local go_sem] fenS_round fenS_fn fenS_depth

def spanV (p : Int × Int) : Array Value := #[.agg #[.int .i64 p.1, .int .i64 p.2]]
theorem hasL_yes {l : List (Int × Int)} {i : Nat} {p : Int × Int} (h : l[i]? = some p) (hp : has p.1 p.2 = true) : hasL (l.take (i + 1)) = hasL (l.take i) ++ [p] := by
  rw [List.take_add_one, h, hasL, List.filter_append]
  simp [hp, hasL]
theorem hasL_no {l : List (Int × Int)} {i : Nat} {p : Int × Int} (h : l[i]? = some p) (hp : has p.1 p.2 = false) : hasL (l.take (i + 1)) = hasL (l.take i) := by
  rw [List.take_add_one, h, hasL, List.filter_append]
  simp [hp, hasL]
theorem hasL_at {l : List (Int × Int)} {i : Nat} {p : Int × Int} (h : l[i]? = some p) (hp : has p.1 p.2 = true) : (hasL l)[(hasL (l.take i)).length]? = some p := by
  have hi := (List.getElem?_eq_some_iff.1 h).1
  have e : hasL l = hasL (l.take i) ++ (p :: hasL (l.drop (i + 1))) := by
    conv => lhs; rw [← List.take_append_drop i l, hasL, List.filter_append, List.drop_eq_getElem_cons hi]
    have : l[i] = p := (List.getElem?_eq_some_iff.1 h).2
    rw [this, List.filter_cons_of_pos (by simpa using hp)]
    rfl
  rw [e, List.getElem?_append_right (Nat.le_refl _), Nat.sub_self]
  rfl

set_option maxHeartbeats 2000000 in
theorem some_in (n : Nat) (a : List (Int × Int)) (hl : a.length ≤ 100000)
    (l gf of cap : Nat) (A : Option Addr) (J : Nat → World → Prop) (Jx : World → Prop) (W : World)
    (hc : ∀ k wr, J k wr → wr.cell? ⟨gf, of, none⟩ = some (.slice A a.length cap))
    (hJ : ∀ k W1 W2, J k W1 → Below W1.heap.size W1 W2 → J k W2)
    (hA : a ≠ [] → ∃ b o, A = some ⟨b, o, none⟩ ∧ ∀ k wr, J k wr → ∀ (i : Nat) (x : Int × Int), a[i]? = some x → wr.cell? ⟨b, o + i * 2, none⟩ = some (.int .i64 x.1) ∧ wr.cell? ⟨b, o + i * 2 + 1, none⟩ = some (.int .i64 x.2))
    (hY : ∀ k W1 x m, J k W1 → ((hasL a).map spanV)[k]? = some x → YieldAt (fen none) m Try.prog l x W1 fun e W' => (e = .returned (.bool true) ∧ J (k + 1) W') ∨ (e = .returned (.bool false) ∧ Jx W')) (h0 : J 0 W) :
    CallsIn (fen none) n Try.prog 78 #[.func (.yield l) #[] #[], .pointer (some ⟨gf, of, none⟩)] W fun e W' => (∃ v, e = .returned v) ∧ (J ((hasL a).map spanV).length W' ∨ Jx W') := by
  refine callsIn_of_wp Try.func78 rfl trivial ?_ rfl
  simp only [Try.ntmps78, List.size_toArray, List.length_cons, List.length_nil, Nat.reduceAdd, Nat.reduceSub, Array.replicate_succ, Array.replicate_zero, List.push_toArray, List.append_toArray, List.nil_append, List.cons_append]
  have c1 := hc 0 W h0
  gi_wp2
  gi_loopw [7] (fun x wr => ∃ (i : Nat), x = .int .i64 i ∧ i ≤ a.length ∧ J (hasL (a.take i)).length wr) (fun x _ => a.length - (intOf x).toNat)
  case atStart =>
    exact ⟨0, rfl, Nat.zero_le _, h0⟩
  case round =>
    obtain ⟨i, rfl, hi, hj⟩ := hrel
    by_cases hi2 : i < a.length
    · obtain ⟨b, o, rfl, hcell⟩ := hA (by intro e; rw [e] at hi2; simp at hi2)
      have hq : a[i]? = some a[i] := List.getElem?_eq_getElem hi2
      obtain ⟨hc1, hc2⟩ := hcell _ wr hj i a[i] hq
      generalize a[i] = p at *
      have hw : IntKind.i64.wrap ((i : Int) + 1) = ((i + 1 : Nat) : Int) := by rw [swrap] <;> omega
      cases hp : has p.1 p.2
      · have kc := fun W => kept_calls p.1 p.2 (W := W)
        rw [(k_no hp).1, (k_no hp).2] at kc
        have hno := hasL_no hq hp
        gi_wp2_with (gi_at_call 66; refine fen_calls.2 ?_; refine (kc _).mono ?_; rintro e w3 ⟨rfl, hb3⟩; have q0 : w3.cell? ⟨wr.heap.size, 0, none⟩ = some (.int .i64 p.1) := (hb3.cell (p := ⟨wr.heap.size, 0, none⟩) (by simp)).trans (by simp); have q1 : w3.cell? ⟨wr.heap.size, 1, none⟩ = some (.int .i64 p.2) := (hb3.cell (p := ⟨wr.heap.size, 1, none⟩) (by simp)).trans (by simp); have f0 : w3.frozen? ⟨wr.heap.size, 0, none⟩ = false := (hb3.frozen (p := ⟨wr.heap.size, 0, none⟩) (by simp)).trans (by simp); have f1 : w3.frozen? ⟨wr.heap.size, 1, none⟩ = false := (hb3.frozen (p := ⟨wr.heap.size, 1, none⟩) (by simp)).trans (by simp); have hj4 : J (hasL (a.take i)).length ((w3.setCell ⟨wr.heap.size, 0, none⟩ (.int .i64 0)).setCell ⟨wr.heap.size, 1, none⟩ (.int .i64 0)) := hJ _ wr _ hj (((((Below.refl wr.heap.size wr).alloc (Nat.le_refl _) _).trans (hb3.mono (by simp))).setCell (Nat.le_refl _) _).setCell (Nat.le_refl _) _))
        all_goals exact ⟨⟨i + 1, by simp, by omega, by rw [hno]; exact hj4⟩, by simp [intOf]; omega⟩
      · have kc := fun W => kept_calls p.1 p.2 (W := W)
        rw [(k_yes hp).1, (k_yes hp).2] at kc
        have hyes := hasL_yes hq hp
        have hk : ((hasL a).map spanV)[(hasL (a.take i)).length]? = some (spanV p) := by rw [List.getElem?_map, hasL_at hq hp]; rfl
        have hz : (p.1 = 0 ∧ p.2 = 0) = False := eq_false (by rw [has_iff] at hp; omega)
        gi_wp2_with (gi_at_call 66; refine fen_calls.2 ?_; refine (kc _).mono ?_; rintro e w3 ⟨rfl, hb3⟩; have q0 : w3.cell? ⟨wr.heap.size, 0, none⟩ = some (.int .i64 p.1) := (hb3.cell (p := ⟨wr.heap.size, 0, none⟩) (by simp)).trans (by simp); have q1 : w3.cell? ⟨wr.heap.size, 1, none⟩ = some (.int .i64 p.2) := (hb3.cell (p := ⟨wr.heap.size, 1, none⟩) (by simp)).trans (by simp); have f0 : w3.frozen? ⟨wr.heap.size, 0, none⟩ = false := (hb3.frozen (p := ⟨wr.heap.size, 0, none⟩) (by simp)).trans (by simp); have f1 : w3.frozen? ⟨wr.heap.size, 1, none⟩ = false := (hb3.frozen (p := ⟨wr.heap.size, 1, none⟩) (by simp)).trans (by simp); have hj4 : J (hasL (a.take i)).length ((w3.setCell ⟨wr.heap.size, 0, none⟩ (.int .i64 p.1)).setCell ⟨wr.heap.size, 1, none⟩ (.int .i64 p.2)) := hJ _ wr _ hj (((((Below.refl wr.heap.size wr).alloc (Nat.le_refl _) _).trans (hb3.mono (by simp))).setCell (Nat.le_refl _) _).setCell (Nat.le_refl _) _); obtain ⟨fn, tmps, assign, body, hy, hR⟩ := hY _ _ _ (n - 1) hj4 hk; dsimp only [spanV] at hy)
        all_goals try (exfalso; rw [has_iff] at hp; omega)
        · refine hR.mono ?_
          rintro e W3 (⟨rfl, hJ3⟩ | ⟨rfl, hJx3⟩)
          · gi_wp2
            exact ⟨⟨i + 1, by simp, by omega, by rw [hyes, List.length_append]; exact hJ3⟩, by simp [intOf]; omega⟩
          · gi_wp2
            refine bodyPost_ret (results_none rfl _ _ _) rfl ?_
            exact ⟨⟨_, rfl⟩, .inr hJx3⟩
    · have hi3 : i = a.length := by omega
      subst hi3
      have Hj := hj
      rw [List.take_length] at Hj
      gi_wp2
      go_end0
      exact ⟨⟨_, rfl⟩, .inl (by rw [List.length_map]; exact Hj)⟩

theorem some_it (a : List (Int × Int)) (hl : a.length ≤ 100000) : Iter Try.prog 78 [.pp [prs a]] ((hasL a).map spanV) := by
  intro lb l J Jx W M hlb hM hrep hJ hJx hK hY h0
  obtain ⟨u0, rfl⟩ : ∃ u0, lb = #[u0] := by
    obtain ⟨L⟩ := lb
    rcases L with _ | ⟨u0, _ | ⟨u1, L⟩⟩ <;> simp at hlb
    exact ⟨u0, rfl⟩
  obtain ⟨gf, of, F0, rfl, mf, zf, cf0, rf0⟩ := pp_one (hrep 0 u0 _ rfl rfl)
  obtain ⟨A, cap, rfl, hA⟩ := prs_cells rf0
  have hc : ∀ {k : Nat} {wr : World}, J k wr → ∀ g j, g < W.heap.size → ¬ M g → wr.cell? ⟨g, j, none⟩ = W.cell? ⟨g, j, none⟩ := fun hj g j hg hn => World.cell?_of_block ((hK _ _ hj).2 g hg hn)
  refine some_in 8 a hl l gf of cap A J Jx W (fun k wr hj => (hc hj _ _ zf mf).trans cf0) hJ (fun hne => ?_) (fun k W1 x m hj hx => yieldS_any (hY k W1 x hj hx)) h0
  obtain ⟨b, o, e1, e2, e3, e4⟩ := hA hne
  exact ⟨b, o, e1, fun k wr hj i x hx => ⟨(hc hj _ _ e3 e2).trans (e4 i x hx).1, (hc hj _ _ e3 e2).trans (e4 i x hx).2⟩⟩
end Go.Proofs.Ytffiompkjhopkaa.V
