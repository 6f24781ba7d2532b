/- The iterator of step: it hands over the pieces. -/
import Derived.Test.YtffiompkjhopkaaP25
import Derived.RangeFuncNested
import Derived.RangeFuncBound
import Derived.RangeFuncCalls
import Derived.RangeFuncLeaves
import Derived.Shelf.Abstract
import Derived.Shelf.RegionOpen
import Derived.WalkKit
import Derived.OwnWalkIn
import Derived.TacticsInMore
import Derived.LoopNIn
import Derived.LoopIn
import Derived.Stop.RegionWithIn
set_option linter.unusedSimpArgs false
set_option linter.unusedVariables false
namespace Go.Proofs.Ytffiompkjhopkaa.V
open Go.RowKit Go.Shelf
attribute [local go_sem] Oper.semAt_some
set_option maxRecDepth 100000

def pieceV (q : Int × Int × Int) : Array Value := #[.agg #[.int .i64 q.1, .int .i64 q.2.1], .int .i64 q.2.2]

theorem yield_any {m m' : Nat} {l : Nat} {args : Array Value} {W : World} {R : Ending → World → Prop} (h : YieldAt (fen none) m Try.prog l args W R) : YieldAt (fen none) m' Try.prog l args W R := by
  obtain ⟨fn, tmps, assign, body, hy, hR⟩ := h
  exact ⟨fn, tmps, assign, body, hy, round_any hR⟩

theorem pp_two {M : Nat → Prop} {W : World} {u : Value} {x y : AV} (h : RepD M W u (.pp [x, y])) : ∃ (g o : Nat) (X Y : Value), u = .pointer (some ⟨g, o, none⟩) ∧ ¬ M g ∧ g < W.heap.size ∧ W.cell? ⟨g, o, none⟩ = some X ∧ W.cell? ⟨g, o + 1, none⟩ = some Y ∧ RepD M W X x ∧ RepD M W Y y := by
  cases h with
  | pp z hM hg hl hx => exact ⟨_, _, z 0, z 1, rfl, hM, hg, (hl 0 (by simp)).1, (hl 1 (by simp)).1, hx 0 x rfl, hx 1 y rfl⟩

theorem repD_int {M : Nat → Prop} {W : World} {u : Value} {n : Int} (h : RepD M W u (int n)) : u = .int .i64 n := by cases h; rfl

theorem ints_cells {M : Nat → Prop} {W : World} {u : Value} {a : List Int} (h : RepD M W u (ints a)) : ∃ (A : Option Addr) (cap : Nat), u = .slice A a.length cap ∧ (a ≠ [] → ∃ b o : Nat, A = some ⟨b, o, none⟩ ∧ ¬ M b ∧ b < W.heap.size ∧ ∀ (i : Nat) (x : Int), a[i]? = some x → W.cell? ⟨b, o + i, none⟩ = some (.int .i64 x)) := by
  cases h with
  | sl b o z hn hc hm hf hk hA hl hx =>
    refine ⟨_, _, by rw [hn, List.length_map], fun hne => ?_⟩
    obtain ⟨h1, h2, h3⟩ := hA (by simpa using hne)
    refine ⟨b, o, h1, h2, h3, fun i x hi => ?_⟩
    have hil : i < (a.map irow).length := by have := (List.getElem?_eq_some_iff.1 hi).1; simpa using this
    obtain ⟨c1, -⟩ := hl i 0 hil (by omega)
    have c2 := hx i (irow x) 0 (int x) (by simp [hi]) rfl
    rw [Nat.mul_one, Nat.add_zero] at c1
    rw [c1, repD_int c2]

theorem value_calls {M : Nat → Prop} {W : World} {S V : Value} {a v : List Int} (x : Int) (h : a.length = v.length) (hr : rightG 0 0 (a.zip v) = true) (hl : a.length ≤ 100000) (hM : ∀ g, M g → g < W.heap.size) (hS : RepD M W S (ints a)) (hV : RepD M W V (ints v)) :
    Calls Try.prog 54 #[.agg #[S, V], .int .i64 x] W fun e w' => e = .returned (.int .i64 (valG 0 (a.zip v) x)) ∧ Below W.heap.size W w' := by
  refine (value_f a v x h hr hl M W #[.agg #[S, V], .int .i64 x] hM rfl fun i u y hu hy => ?_).mono ?_
  · rcases i with _ | _ | i
    · simp at hu hy; subst hu hy
      refine .agg rfl fun j p q hp hq => ?_
      rcases j with _ | _ | j
      · simp at hp hq; subst hp hq; exact hS
      · simp at hp hq; subst hp hq; exact hV
      · simp at hp
    · simp at hu hy; subst hu hy; exact .v _
    · simp at hu
  · rintro e w' ⟨u, rfl, hu, hb⟩
    exact ⟨by rw [repD_int hu], hb⟩

theorem fen_round (r : Option Nat) : (fen r).round = r := rfl
theorem fen_fn (r : Option Nat) (f : FuncId) : (fen r).fn f = True := rfl
theorem fen_depth (r : Option Nat) : (fen r).depth = none := rfl
attribute [local go_sem] fen_round fen_fn fen_depth

set_option maxHeartbeats 2000000 in
theorem pieces_in (n : Nat) (a v : List Int) (s t : Int) (h : a.length = v.length) (hr : rightG 0 0 (a.zip v) = true) (hl : a.length ≤ 1000)
    (l gs os gf of cap : Nat) (A : Option Addr) (F1 : Value) (J : Nat → World → Prop) (Jx : World → Prop) (W : World)
    (hc : ∀ k wr, J k wr → wr.cell? ⟨gs, os, none⟩ = some (.int .i64 s) ∧ wr.cell? ⟨gs, os + 1, none⟩ = some (.int .i64 t) ∧ wr.cell? ⟨gf, of, none⟩ = some (.slice A a.length cap) ∧ wr.cell? ⟨gf, of + 1, none⟩ = some F1)
    (hdr : ∀ k wr, J k wr → J k wr.drew)
    (hA : a ≠ [] → ∃ b o, A = some ⟨b, o, none⟩ ∧ ∀ k wr, J k wr → ∀ (i : Nat) (x : Int), a[i]? = some x → wr.cell? ⟨b, o + i, none⟩ = some (.int .i64 x))
    (hval : ∀ k wr (x : Int) m, J k wr → CallsIn (fen none) m Try.prog 54 #[.agg #[.slice A a.length cap, F1], .int .i64 x] wr fun e w' => e = .returned (.int .i64 (valG 0 (a.zip v) x)) ∧ J k w')
    (hY : ∀ k W1 x m, J k W1 → ((pieces (a.zip v) s t).map pieceV)[k]? = some x → YieldAt (fen none) m Try.prog l x W1 fun e W' => (e = .returned (.bool true) ∧ J (k + 1) W') ∨ (e = .returned (.bool false) ∧ Jx W')) (h0 : J 0 W) :
    CallsIn (fen none) n Try.prog 76 #[.func (.yield l) #[] #[], .pointer (some ⟨gs, os, none⟩), .pointer (some ⟨gf, of, none⟩)] W fun e W' => (∃ v, e = .returned v) ∧ (J ((pieces (a.zip v) s t).map pieceV).length W' ∨ Jx W') := by
  refine callsIn_of_wp Try.func76 rfl trivial ?_ rfl
  simp only [Try.ntmps76, List.size_toArray, List.length_cons, List.length_nil, Nat.reduceAdd, Nat.reduceSub, Array.replicate_succ, Array.replicate_zero, List.push_toArray, List.append_toArray, List.nil_append, List.cons_append]
  have Hh := Lib.hid h
  clear h
  obtain ⟨c1, c2, c3, c4⟩ := hc 0 W h0
  gi_wp2
  gi_loopw [4, 12] (fun x y wr => ∃ (i k : Nat) (from_ : Int), x = .int .i64 from_ ∧ y = .int .i64 i ∧ i ≤ a.length ∧ J k wr ∧ (pieces (a.zip v) s t).drop k = pcs t from_ (valG 0 (a.zip v) from_) ((a.zip v).drop i)) (fun _ y _ => a.length - (intOf y).toNat)
  case atStart =>
    exact ⟨0, 0, s, rfl, rfl, Nat.zero_le _, h0, rfl⟩
  case round =>
    obtain ⟨i, k, from_, rfl, rfl, hi, hj, hp⟩ := hrel
    obtain ⟨d1, d2, d3, d4⟩ := hc k wr hj
    have hlk : (pieces (a.zip v) s t).drop k ≠ [] → (((pieces (a.zip v) s t).map pieceV)[k]? = (((pieces (a.zip v) s t).drop k).head?).map pieceV) := fun _ => by
      rw [List.getElem?_map, List.head?_drop]
    by_cases hi2 : i < a.length
    · obtain ⟨x, y, e1, e2, e3, e4⟩ := zip_at Hh.out hi2
      obtain ⟨b, o, rfl, hcell⟩ := hA (by intro e; rw [e] at hi2; simp at hi2)
      have hce := hcell k wr hj i x e1
      have hmem : (x, y) ∈ a.zip v := List.mem_of_getElem? e3
      have hvx : valG 0 (a.zip v) x = y := valG_mem (right_lt hr) (x, y) hmem
      rw [e4, pcs] at hp
      have hw : IntKind.i64.wrap ((i : Int) + 1) = ((i + 1 : Nat) : Int) := by rw [wrap_id] <;> omega
      by_cases hx : from_ < x ∧ x < t
      · rw [if_pos hx] at hp
        have hk : ((pieces (a.zip v) s t).map pieceV)[k]? = some (pieceV (from_, x, valG 0 (a.zip v) from_)) := by
          rw [hlk (by rw [hp]; simp), hp]; rfl
        have hp2 : (pieces (a.zip v) s t).drop (k + 1) = pcs t x (valG 0 (a.zip v) x) ((a.zip v).drop (i + 1)) := by
          rw [← List.drop_drop, hp, hvx]; rfl
        have Hp2 := Lib.hid hp2
        clear hp hp2 hlk e4 e3 hmem hvx
        have hx1 := hx.1
        have hx2 := hx.2
        gi_wp2_with (gi_at_call 54; refine (hval k wr from_ _ hj).mono ?_; rintro e w2 ⟨rfl, hj2⟩; obtain ⟨fn, tmps, assign, body, hy, hR⟩ := hY k w2 _ (n - 1) hj2 hk; dsimp only [pieceV] at hy)
        refine hR.mono ?_
        rintro e W3 (⟨rfl, hJ3⟩ | ⟨rfl, hJx3⟩)
        · gi_wp2
          go_roundw
          case rel => exact ⟨i + 1, k + 1, x, rfl, (by simp), by omega, hJ3, Hp2.out⟩
          case measure => simp [intOf]; omega
        · gi_wp2
          refine bodyPost_ret (results_none rfl _ _ _) rfl ?_
          exact ⟨⟨_, rfl⟩, .inr hJx3⟩
      · rw [if_neg hx] at hp
        have Hp := Lib.hid hp
        clear hp hlk e4 e3 hmem hvx
        rcases (by omega : x ≤ from_ ∨ (from_ < x ∧ t ≤ x)) with hq | ⟨hq, hq2⟩
        · gi_wp2
          go_roundw
          case rel => exact ⟨i + 1, k, from_, rfl, (by simp), by omega, hj, Hp.out⟩
          case measure => simp [intOf]; omega
        · gi_wp2
          go_roundw
          case rel => exact ⟨i + 1, k, from_, rfl, (by simp), by omega, hj, Hp.out⟩
          case measure => simp [intOf]; omega
    · have hi3 : i = a.length := by omega
      subst hi3
      have hdz : (a.zip v).drop a.length = [] := List.drop_eq_nil_of_le (by rw [List.length_zip]; have := Hh.out; omega)
      rw [hdz, pcs] at hp
      have hk : ((pieces (a.zip v) s t).map pieceV)[k]? = some (pieceV (from_, t, valG 0 (a.zip v) from_)) := by
        rw [hlk (by rw [hp]; simp), hp]; rfl
      have hlen : ((pieces (a.zip v) s t).map pieceV).length = k + 1 := by
        have h1 := congrArg List.length hp
        rw [List.length_drop] at h1
        simp at h1 ⊢
        omega
      clear hp hlk
      have hj' := hdr k wr hj
      have Hlen := Lib.hid hlen
      clear hlen
      have hw' : ∀ w2, J k w2 → ∃ fn tmps assign body, (Instr.yield l #[.agg #[.int .i64 from_, .int .i64 t], .int .i64 (valG 0 (a.zip v) from_)]).run Try.prog w2 = .ok (.round l fn tmps assign body) w2 ∧ RoundIn (fen none) (n - 1) Try.prog l fn tmps assign body w2 fun e W' => ∃ u, e = .returned u ∧ (J (k + 1) W' ∨ Jx W') := fun w2 hj2 => by
        obtain ⟨fn, tmps, assign, body, hy, hR⟩ := hY k w2 _ (n - 1) hj2 hk
        refine ⟨fn, tmps, assign, body, hy, hR.mono ?_⟩
        rintro e W3 (⟨rfl, hJ3⟩ | ⟨rfl, hJx3⟩)
        · exact ⟨_, rfl, .inl hJ3⟩
        · exact ⟨_, rfl, .inr hJx3⟩
      gi_wp2
      gi_region_with (first
        | (gi_at_call 54; refine (hval k wr.drew from_ _ hj').mono ?_; rintro e w2 ⟨rfl, hj2⟩; obtain ⟨f1, f2, f3, f4⟩ := hc k w2 hj2; obtain ⟨fn, tmps, assign, body, hy, hR⟩ := hw' w2 hj2)
        | (refine hR.mono ?_; rintro e W3 ⟨u, rfl, hq3⟩))
      all_goals (go_end0; exact ⟨⟨_, rfl⟩, by rw [Hlen.out]; exact hq3⟩)

theorem pieces_it (a v : List Int) (s t : Int) (h : a.length = v.length) (hr : rightG 0 0 (a.zip v) = true) (hl : a.length ≤ 1000) : Iter Try.prog 76 [.pp [int s, int t], .pp [ints a, ints v]] ((pieces (a.zip v) s t).map pieceV) := by
  intro lb l J Jx W M hlb hM hrep hJ hJx hK hY h0
  obtain ⟨u0, u1, rfl⟩ : ∃ u0 u1, lb = #[u0, u1] := by
    obtain ⟨L⟩ := lb
    rcases L with _ | ⟨u0, _ | ⟨u1, _ | ⟨u2, L⟩⟩⟩ <;> simp at hlb
    exact ⟨u0, u1, rfl⟩
  obtain ⟨gs, os, S0, S1, rfl, ms, zs, cs0, cs1, rs0, rs1⟩ := pp_two (hrep 0 u0 _ rfl rfl)
  obtain ⟨gf, of, F0, F1, rfl, mf, zf, cf0, cf1, rf0, rf1⟩ := pp_two (hrep 1 u1 _ rfl rfl)
  obtain rfl := repD_int rs0
  obtain rfl := repD_int rs1
  obtain ⟨A, cap, rfl, hA⟩ := ints_cells rf0
  have hc : ∀ {k : Nat} {wr : World}, J k wr → ∀ g j, g < W.heap.size → ¬ M g → wr.cell? ⟨g, j, none⟩ = W.cell? ⟨g, j, none⟩ := fun hj g j hg hn => World.cell?_of_block ((hK _ _ hj).2 g hg hn)
  refine pieces_in 8 a v s t h hr hl l gs os gf of cap A F1 J Jx W (fun k wr hj => ⟨(hc hj _ _ zs ms).trans cs0, (hc hj _ _ zs ms).trans cs1, (hc hj _ _ zf mf).trans cf0, (hc hj _ _ zf mf).trans cf1⟩) (fun k wr hj => hJ k wr _ hj ((Below.refl _ wr).drew)) (fun hne => ?_) (fun k wr x m hj => ?_) (fun k W1 x m hj hx => yield_any (hY k W1 x hj hx)) h0
  · obtain ⟨b, o, e1, e2, e3, e4⟩ := hA hne
    exact ⟨b, o, e1, fun k wr hj i x hx => (hc hj _ _ e3 e2).trans (e4 i x hx)⟩
  · have hM' : ∀ g, M g → g < wr.heap.size := fun g hg => Nat.lt_of_lt_of_le (hM g hg) (hK _ _ hj).1
    have k1 := RepD.keep (M' := M) (fun _ _ h => h) (hK _ _ hj).1 (hK _ _ hj).2 rf0
    have k2 := RepD.keep (M' := M) (fun _ _ h => h) (hK _ _ hj).1 (hK _ _ hj).2 rf1
    refine fen_calls.2 ((value_calls x h hr (by omega) hM' k1 k2).mono ?_)
    rintro e w' ⟨rfl, hb⟩
    exact ⟨rfl, hJ k wr w' hj hb⟩
end Go.Proofs.Ytffiompkjhopkaa.V
