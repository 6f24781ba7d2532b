/- Contracts: num.Bp at amounts that may be, parts of 10000. Contracts: cover.Right, Pays; the reference's of chapter 8. -/
-- STEPS: new
import Derived.Test.YtjplhfmakghabaaN2
set_option linter.unusedSimpArgs false
set_option linter.unusedVariables false
namespace Go.Proofs.Ytjplhfmakghabaa.V
open Go.RowKit
set_option maxRecDepth 100000
attribute [local go_sem] Option.toList_some Option.toList_none

def m32 (a : Int) : Int := IntKind.u64.wrap (((BitVec.ofInt 64 a &&& BitVec.ofInt 64 4294967295).toNat : Nat) : Int)
theorem and32 {a : Int} (h1 : 0 ≤ a) (h2 : a < 18446744073709551616) : m32 a = a % 4294967296 := by
  unfold m32
  obtain ⟨n, rfl⟩ : ∃ n : Nat, a = n := ⟨a.toNat, by omega⟩
  have e : (BitVec.ofInt 64 (n : Int) &&& BitVec.ofInt 64 4294967295).toNat = n % 4294967296 := by
    rw [BitVec.toNat_and]
    have h3 : (BitVec.ofInt 64 (n : Int)).toNat = n := by
      rw [BitVec.toNat_ofInt]
      omega
    have h4 : (BitVec.ofInt 64 4294967295).toNat = 2 ^ 32 - 1 := by decide
    rw [h3, h4, Nat.and_two_pow_sub_one_eq_mod]
  rw [e, wrap_u (by omega) (by omega)]
  omega
theorem shr32 (k : IntKind) (hk : k = .u64) (a : Int) : intBin .shr k a 32 = some (.v (.int k (a / 4294967296))) := by
  subst hk
  rw [ib_shr _ _ _ (by decide)]
  have : (2 : Int) ^ min (32 : Int).toNat IntKind.u64.bits = 4294967296 := by decide
  rw [this, Int.fdiv_eq_ediv_of_nonneg _ (by decide)]

set_option maxHeartbeats 4000000 in
theorem mul64_f (x y : Int) (h1 : 0 ≤ x) (h2 : x ≤ 1000000000000000) (h3 : 0 ≤ y) (h4 : y ≤ 10000) : Fun Try.prog 117 [.v (.int .u64 x), .v (.int .u64 y)] (.tup [.v (.int .u64 0), .v (.int .u64 (x * y))]) := by
  have sh := fun a => shr32 .u64 rfl a
  have a1 := and32 h1 (by omega)
  have a2 := and32 h3 (by omega)
  have hy : y % 4294967296 = y := by omega
  have hy2 : y / 4294967296 = 0 := by omega
  rw [hy] at a2
  generalize hx0 : x % 4294967296 = x0 at *
  generalize hx1 : x / 4294967296 = x1 at *
  have hb0 : 0 ≤ x0 ∧ x0 < 4294967296 := by omega
  have hb1 : 0 ≤ x1 ∧ x1 ≤ 232830 := by omega
  have p0 : 0 ≤ x0 * y ∧ x0 * y ≤ 42949672960000 := ⟨Int.mul_nonneg hb0.1 h3, by
    have := Int.mul_le_mul (show x0 ≤ 4294967296 by omega) h4 h3 (by omega); omega⟩
  have p1 : 0 ≤ x1 * y ∧ x1 * y ≤ 2328300000 := ⟨Int.mul_nonneg hb1.1 h3, by
    have := Int.mul_le_mul hb1.2 h4 h3 (by omega); omega⟩
  have p2 : 0 ≤ x * y ∧ x * y ≤ 10000000000000000000 := ⟨Int.mul_nonneg h1 h3, by
    have := Int.mul_le_mul h2 h4 h3 (by omega); omega⟩
  have w0 : IntKind.u64.wrap (x0 * y) = x0 * y := wrap_u p0.1 (by omega)
  have w1 : IntKind.u64.wrap (x1 * y) = x1 * y := wrap_u p1.1 (by omega)
  have w2 : IntKind.u64.wrap (x * y) = x * y := wrap_u p2.1 (by omega)
  generalize hq : x0 * y / 4294967296 = q at *
  have hq2 : 0 ≤ q ∧ q ≤ 10000 := by omega
  have w3 : IntKind.u64.wrap (x1 * y + q) = x1 * y + q := wrap_u (by omega) (by omega)
  have a3 := and32 (a := x1 * y + q) (by omega) (by omega)
  have hm : (x1 * y + q) % 4294967296 = x1 * y + q := by omega
  have hd : (x1 * y + q) / 4294967296 = 0 := by omega
  rw [hm] at a3
  have z1 : IntKind.u64.wrap (x0 * 0) = 0 := by rw [Int.mul_zero]; decide
  have z2 : IntKind.u64.wrap (x1 * 0) = 0 := by rw [Int.mul_zero]; decide
  have z3 : IntKind.u64.wrap (0 + 0) = 0 := by decide
  have z4 : IntKind.u64.wrap (x1 * y + q + 0) = x1 * y + q := by rw [Int.add_zero]; exact w3
  refine fun_W mixed Try.func117 rfl (Nat.le_of_ble_eq_true rfl) (by kernel_rfl) fun cx hN hR hF hL => ?_; apply args_k; (case hA => (simp only [go_sem, ↓reduceIte]; rfl))
  (with_reducible repeat' (first|exact trivial|(apply byE;simp only [go_sem, ↓reduceIte, sh, hx1, hy2, w2];try rfl)|apply Aa|apply As|apply Au|apply Av|apply Aj|apply At|apply Aw|apply Ab|apply Ac|apply Ad|apply Ae|apply Af|apply Ag|apply Ah|apply Ai|apply Ak|apply Al|((first|apply An|apply Ao);(case hs=>with_unfolding_all rfl))|apply Am|apply Ap|apply Aq|apply Ar|apply Ax|apply Ay|apply Az|apply Ba|apply Bb|apply Bc|apply Bd|apply Be|apply Ca|apply Cb|apply Cc|apply Cd|apply Ce|apply Cf|apply Cg|apply Ch|apply Ci|apply Bf|apply Cj|apply Ck|apply Cl|apply Cm|apply Cn|apply Co|apply Cp|(apply byR;with_unfolding_all rfl)|((first|apply byKt|apply byKs);kernel_rfl)|(apply byL;simp only [econs,List.map_cons,List.map_nil,List.cons_append,List.nil_append,OpS.nm,OpS.reads,OpS.turns,Nat.reduceAdd];try with_unfolding_all rfl)|(apply byG;intro hg;try simp only [hg])|(apply byQ;intro hq;try simp only [hqs] at hq;try (exfalso;omega))|(apply byI;intro K hK)|(apply byH;repeat (first|exact dst_z rfl|apply dst_s))|(apply byN;unfold NapOK;kernel_rfl)|(apply byD;first|(simp;done)|(simp [go_sem];done))|(refine hK _ _ ?_;clear hK;clear K)|omega|contradiction))
  show IntKind.u64.wrap (IntKind.u64.wrap (IntKind.u64.wrap (x1 * 0) + IntKind.u64.wrap (IntKind.u64.wrap (x1 * m32 y) + IntKind.u64.wrap (m32 x * m32 y) / 4294967296) / 4294967296) + IntKind.u64.wrap (m32 (IntKind.u64.wrap (IntKind.u64.wrap (x1 * m32 y) + IntKind.u64.wrap (m32 x * m32 y) / 4294967296)) + IntKind.u64.wrap (m32 x * 0)) / 4294967296) = 0
  rw [a1, a2, w0, w1, hq, w3, hd, a3, z1, z2, z3, z4, hd]
  decide

theorem div64_f (lo d : Int) (h1 : 0 ≤ lo) (h2 : lo ≤ 18446744073709551615) (h3 : 0 < d) (h4 : d ≤ 10000) : Fun Try.prog 118 [.v (.int .u64 0), .v (.int .u64 lo), .v (.int .u64 d)] (.tup [.v (.int .u64 (lo / d)), .v (.int .u64 (lo % d))]) := by
  have hz : (d = 0) = False := eq_false (by omega)
  have hz2 : ¬ d = 0 := by omega
  have hle : (d ≤ 0) = False := eq_false (by omega)
  have q1 : lo.tdiv d = lo / d := Int.tdiv_eq_ediv_of_nonneg h1
  have q2 : lo.tmod d = lo % d := Int.tmod_eq_emod_of_nonneg h1
  have g1 : 0 ≤ lo / d := Int.ediv_nonneg h1 (by omega)
  have g2 : lo / d ≤ lo := Int.ediv_le_self _ h1
  have w : IntKind.u64.wrap (lo / d) = lo / d := wrap_u g1 (by omega)
  refine fun_W mixed Try.func118 rfl (Nat.le_of_ble_eq_true rfl) (by kernel_rfl) fun cx hN hR hF hL => ?_; apply args_k; (case hA => (simp only [go_sem, ↓reduceIte]; rfl))
  (with_reducible repeat' (first|exact trivial|(apply byE;simp only [go_sem, ↓reduceIte, hz, hle, decide_false, q1, q2, w];try rfl)|apply Aa|apply As|apply Au|apply Av|apply Aj|apply At|apply Aw|apply Ab|apply Ac|apply Ad|apply Ae|apply Af|apply Ag|apply Ah|apply Ai|apply Ak|apply Al|((first|apply An|apply Ao);(case hs=>with_unfolding_all rfl))|apply Am|apply Ap|apply Aq|apply Ar|apply Ax|apply Ay|apply Az|apply Ba|apply Bb|apply Bc|apply Bd|apply Be|apply Ca|apply Cb|apply Cc|apply Cd|apply Ce|apply Cf|apply Cg|apply Ch|apply Ci|apply Bf|apply Cj|apply Ck|apply Cl|apply Cm|apply Cn|apply Co|apply Cp|(apply byR;with_unfolding_all rfl)|((first|apply byKt|apply byKs);kernel_rfl)|(apply byL;simp only [econs,List.map_cons,List.map_nil,List.cons_append,List.nil_append,OpS.nm,OpS.reads,OpS.turns,Nat.reduceAdd];try with_unfolding_all rfl)|(apply byG;intro hg;try simp only [hg])|(apply byQ;intro hq;try simp only [hqs] at hq;try (exfalso;omega))|(apply byI;intro K hK)|(apply byH;repeat (first|exact dst_z rfl|apply dst_s))|(apply byN;unfold NapOK;kernel_rfl)|(apply byD;first|(simp;done)|(simp [go_sem];done))|(refine hK _ _ ?_;clear hK;clear K)|omega|contradiction))

theorem up_f (q r : Int) (h1 : 0 ≤ q) (h2 : 0 ≤ r) (h3 : r ≤ 10000) : Fun Try.prog 116 [.v (.int .u64 q), .v (.int .u64 r), .v (.int .u64 10000)] (bool (decide (r > 10000 - r) || (decide (r = 10000 - r) && decide (q % 2 = 1)))) := by
  have w : IntKind.u64.wrap (10000 - r) = 10000 - r := wrap_u (by omega) (by omega)
  have q2 : q.tmod 2 = q % 2 := Int.tmod_eq_emod_of_nonneg h1
  refine fun_W mixed Try.func116 rfl (Nat.le_of_ble_eq_true rfl) (by kernel_rfl) fun cx hN hR hF hL => ?_; apply args_k; (case hA => (simp only [go_sem, ↓reduceIte]; rfl))
  have rr : intBin .rem .u64 q 2 = some (.v (.int .u64 (q % 2))) := by rw [ib_rem _ _ _ (by decide), q2]
  (with_reducible repeat' (first|exact trivial|(apply byE;simp only [go_sem, ↓reduceIte, w, rr];try rfl)|apply Aa|apply As|apply Au|apply Av|apply Aj|apply At|apply Aw|apply Ab|apply Ac|apply Ad|apply Ae|apply Af|apply Ag|apply Ah|apply Ai|apply Ak|apply Al|((first|apply An|apply Ao);(case hs=>with_unfolding_all rfl))|apply Am|apply Ap|apply Aq|apply Ar|apply Ax|apply Ay|apply Az|apply Ba|apply Bb|apply Bc|apply Bd|apply Be|apply Ca|apply Cb|apply Cc|apply Cd|apply Ce|apply Cf|apply Cg|apply Ch|apply Ci|apply Bf|apply Cj|apply Ck|apply Cl|apply Cm|apply Cn|apply Co|apply Cp|(apply byR;with_unfolding_all rfl)|((first|apply byKt|apply byKs);kernel_rfl)|(apply byL;simp only [econs,List.map_cons,List.map_nil,List.cons_append,List.nil_append,OpS.nm,OpS.reads,OpS.turns,Nat.reduceAdd];try with_unfolding_all rfl)|(apply byG;intro hg;try simp only [hg])|(apply byQ;intro hq;try simp only [hqs] at hq;try (exfalso;omega))|(apply byI;intro K hK)|(apply byH;repeat (first|exact dst_z rfl|apply dst_s))|(apply byN;unfold NapOK;kernel_rfl)|(apply byD;first|(simp;done)|(simp [go_sem];done))|(refine hK _ _ ?_;clear hK;clear K)|omega|contradiction))
  all_goals exact fun h _ => h
theorem evenN_f : Fun Try.prog 103 [] (.agg [.v (.func (.func 116) #[] #[])]) := by
  refine fun_W mixed Try.func103 rfl (Nat.le_of_ble_eq_true rfl) (by kernel_rfl) fun cx hN hR hF hL => ?_; apply args_k; (case hA => (simp only [go_sem, ↓reduceIte]; rfl))
  (with_reducible repeat' (first|exact trivial|(apply byE;simp only [go_sem, ↓reduceIte];try rfl)|apply Aa|apply As|apply Au|apply Av|apply Aj|apply At|apply Aw|apply Ab|apply Ac|apply Ad|apply Ae|apply Af|apply Ag|apply Ah|apply Ai|apply Ak|apply Al|((first|apply An|apply Ao);(case hs=>with_unfolding_all rfl))|apply Am|apply Ap|apply Aq|apply Ar|apply Ax|apply Ay|apply Az|apply Ba|apply Bb|apply Bc|apply Bd|apply Be|apply Ca|apply Cb|apply Cc|apply Cd|apply Ce|apply Cf|apply Cg|apply Ch|apply Ci|apply Bf|apply Cj|apply Ck|apply Cl|apply Cm|apply Cn|apply Co|apply Cp|(apply byR;with_unfolding_all rfl)|((first|apply byKt|apply byKs);kernel_rfl)|(apply byL;simp only [econs,List.map_cons,List.map_nil,List.cons_append,List.nil_append,OpS.nm,OpS.reads,OpS.turns,Nat.reduceAdd];try with_unfolding_all rfl)|(apply byG;intro hg;try simp only [hg])|(apply byQ;intro hq;try simp only [hqs] at hq;try (exfalso;omega))|(apply byI;intro K hK)|(apply byH;repeat (first|exact dst_z rfl|apply dst_s))|(apply byN;unfold NapOK;kernel_rfl)|(apply byD;first|(simp;done)|(simp [go_sem];done))|(refine hK _ _ ?_;clear hK;clear K)|omega|contradiction))

set_option maxHeartbeats 4000000 in
theorem of_f (m bp : Int) (h1 : 0 ≤ m) (h2 : m ≤ 1000000000000000) (h3 : 1 ≤ bp) (h4 : bp ≤ 10000) : Fun Try.prog 104 [.agg [.v (.func (.func 116) #[] #[])], int m, int bp, int 10000] (.tup [int (bpE m bp), int 0]) := by
  have c3 : IntKind.u64.wrap 10000 = 10000 := by decide
  have p2 : 0 ≤ m * bp ∧ m * bp ≤ 10000000000000000000 := ⟨Int.mul_nonneg h1 (by omega), by
    have := Int.mul_le_mul h2 h4 (by omega) (by omega); omega⟩
  have g1 : (m < 0) = False := eq_false (by omega)
  have g2 : (bp < 0) = False := eq_false (by omega)
  have c1 : IntKind.u64.wrap m = m := wrap_u (by omega) (by omega)
  have c2 : IntKind.u64.wrap bp = bp := wrap_u (by omega) (by omega)
  have k1 := mul64_f m bp h1 h2 (by omega) h4
  have k2 := div64_f (m * bp) 10000 p2.1 (by omega) (by omega) (by omega)
  have hbd := bpE_bd h1 h3 h4
  unfold bpE at *
  simp only at *
  generalize m * bp = x at *
  have k3 := up_f (x / 10000) (x % 10000) (by omega) (by omega) (by omega)
  have hq : (x / 10000 > 4000000000000000000) = False := eq_false (by omega)
  have w1 : IntKind.u64.wrap (x / 10000 + 1) = x / 10000 + 1 := wrap_u (by omega) (by omega)
  have w2 : IntKind.i64.wrap (x / 10000) = x / 10000 := wrap_id (by omega) (by omega)
  have w3 : IntKind.i64.wrap (x / 10000 + 1) = x / 10000 + 1 := wrap_id (by omega) (by omega)
  have hq1 : (x / 10000 + 1 > 4000000000000000000) = False := eq_false (by omega)
  by_cases hc : x % 10000 > 10000 - x % 10000 ∨ x % 10000 = 10000 - x % 10000 ∧ x / 10000 % 2 = 1
  · have hd : (decide (x % 10000 > 10000 - x % 10000) || (decide (x % 10000 = 10000 - x % 10000) && decide (x / 10000 % 2 = 1))) = true := by simpa using hc
    rw [hd] at k3
    rw [if_pos hc]
    refine fun_W mixed Try.func104 rfl (Nat.le_of_ble_eq_true rfl) (by kernel_rfl) fun cx hN hR hF hL => ?_; apply args_k; (case hA => (simp only [go_sem, ↓reduceIte]; rfl))
    (with_reducible repeat' (first|exact trivial|(apply byE;simp only [go_sem, ↓reduceIte, g1, g2, c1, c2, c3, hq, w1, w2, w3, hq1, Int.reduceEq, Int.reduceLT, decide_false];try rfl)|apply Aa|apply As|apply Au|apply Av|apply Aj|apply At|apply Aw|apply Ab|apply Ac|apply Ad|apply Ae|apply Af|apply Ag|apply Ah|apply Ai|apply Ak|apply Al|((first|apply An|apply Ao);(case hs=>with_unfolding_all rfl))|apply Am|apply Ap|apply Aq|apply Ar|apply Ax|apply Ay|apply Az|apply Ba|apply Bb|apply Bc|apply Bd|apply Be|apply Ca|apply Cb|apply Cc|apply Cd|apply Ce|apply Cf|apply Cg|apply Ch|apply Ci|apply Bf|apply Cj|apply Ck|apply Cl|apply Cm|apply Cn|apply Co|apply Cp|(apply byR;with_unfolding_all rfl)|((first|apply byKt|apply byKs);kernel_rfl)|(apply byL;simp only [econs,List.map_cons,List.map_nil,List.cons_append,List.nil_append,OpS.nm,OpS.reads,OpS.turns,Nat.reduceAdd];try with_unfolding_all rfl)|(apply byG;intro hg;try simp only [hg])|(apply byQ;intro hq;try simp only [hqs] at hq;try (exfalso;omega))|(apply byI;intro K hK)|(apply byH;repeat (first|exact dst_z rfl|apply dst_s))|(apply byN;unfold NapOK;kernel_rfl)|(apply byD;first|(simp;done)|(simp [go_sem];done))|(refine hK _ _ ?_;clear hK;clear K)|omega|(apply callX cl117 (k1);(case hl=>with_unfolding_all rfl))|(apply callX cl118 (k2);(case hl=>with_unfolding_all rfl))|(apply callX cl116 (k3);(case hl=>with_unfolding_all rfl))|contradiction))
  · have hd : (decide (x % 10000 > 10000 - x % 10000) || (decide (x % 10000 = 10000 - x % 10000) && decide (x / 10000 % 2 = 1))) = false := by
      rw [Bool.eq_false_iff]; simpa using hc
    rw [hd] at k3
    rw [if_neg hc]
    refine fun_W mixed Try.func104 rfl (Nat.le_of_ble_eq_true rfl) (by kernel_rfl) fun cx hN hR hF hL => ?_; apply args_k; (case hA => (simp only [go_sem, ↓reduceIte]; rfl))
    (with_reducible repeat' (first|exact trivial|(apply byE;simp only [go_sem, ↓reduceIte, g1, g2, c1, c2, c3, hq, w1, w2, w3, hq1, Int.reduceEq, Int.reduceLT, decide_false];try rfl)|apply Aa|apply As|apply Au|apply Av|apply Aj|apply At|apply Aw|apply Ab|apply Ac|apply Ad|apply Ae|apply Af|apply Ag|apply Ah|apply Ai|apply Ak|apply Al|((first|apply An|apply Ao);(case hs=>with_unfolding_all rfl))|apply Am|apply Ap|apply Aq|apply Ar|apply Ax|apply Ay|apply Az|apply Ba|apply Bb|apply Bc|apply Bd|apply Be|apply Ca|apply Cb|apply Cc|apply Cd|apply Ce|apply Cf|apply Cg|apply Ch|apply Ci|apply Bf|apply Cj|apply Ck|apply Cl|apply Cm|apply Cn|apply Co|apply Cp|(apply byR;with_unfolding_all rfl)|((first|apply byKt|apply byKs);kernel_rfl)|(apply byL;simp only [econs,List.map_cons,List.map_nil,List.cons_append,List.nil_append,OpS.nm,OpS.reads,OpS.turns,Nat.reduceAdd];try with_unfolding_all rfl)|(apply byG;intro hg;try simp only [hg])|(apply byQ;intro hq;try simp only [hqs] at hq;try (exfalso;omega))|(apply byI;intro K hK)|(apply byH;repeat (first|exact dst_z rfl|apply dst_s))|(apply byN;unfold NapOK;kernel_rfl)|(apply byD;first|(simp;done)|(simp [go_sem];done))|(refine hK _ _ ?_;clear hK;clear K)|omega|(apply callX cl117 (k1);(case hl=>with_unfolding_all rfl))|(apply callX cl118 (k2);(case hl=>with_unfolding_all rfl))|(apply callX cl116 (k3);(case hl=>with_unfolding_all rfl))|contradiction))
theorem bp_f (m bp : Int) (h1 : 0 ≤ m) (h2 : m ≤ 1000000000000000) (h3 : 1 ≤ bp) (h4 : bp ≤ 10000) : Fun Try.prog 84 [int m, int bp] (.tup [int (bpE m bp), int 0]) := by
  have k : Fun Try.prog 98 [int m, int bp, int 10000] (.tup [int (bpE m bp), int 0]) := by
    refine fun_W mixed Try.func98 rfl (Nat.le_of_ble_eq_true rfl) (by kernel_rfl) fun cx hN hR hF hL => ?_; apply args_k; (case hA => (simp only [go_sem, ↓reduceIte]; rfl))
    (with_reducible repeat' (first|exact trivial|(apply byE;simp only [go_sem, ↓reduceIte];try rfl)|apply Aa|apply As|apply Au|apply Av|apply Aj|apply At|apply Aw|apply Ab|apply Ac|apply Ad|apply Ae|apply Af|apply Ag|apply Ah|apply Ai|apply Ak|apply Al|((first|apply An|apply Ao);(case hs=>with_unfolding_all rfl))|apply Am|apply Ap|apply Aq|apply Ar|apply Ax|apply Ay|apply Az|apply Ba|apply Bb|apply Bc|apply Bd|apply Be|apply Ca|apply Cb|apply Cc|apply Cd|apply Ce|apply Cf|apply Cg|apply Ch|apply Ci|apply Bf|apply Cj|apply Ck|apply Cl|apply Cm|apply Cn|apply Co|apply Cp|(apply byR;with_unfolding_all rfl)|((first|apply byKt|apply byKs);kernel_rfl)|(apply byL;simp only [econs,List.map_cons,List.map_nil,List.cons_append,List.nil_append,OpS.nm,OpS.reads,OpS.turns,Nat.reduceAdd];try with_unfolding_all rfl)|(apply byG;intro hg;try simp only [hg])|(apply byQ;intro hq;try simp only [hqs] at hq;try (exfalso;omega))|(apply byI;intro K hK)|(apply byH;repeat (first|exact dst_z rfl|apply dst_s))|(apply byN;unfold NapOK;kernel_rfl)|(apply byD;first|(simp;done)|(simp [go_sem];done))|(refine hK _ _ ?_;clear hK;clear K)|omega|(apply callX cl103 (evenN_f);(case hl=>with_unfolding_all rfl))|(apply callX cl104 (of_f m bp h1 h2 h3 h4);(case hl=>with_unfolding_all rfl))|contradiction))
  refine fun_W mixed Try.func84 rfl (Nat.le_of_ble_eq_true rfl) (by kernel_rfl) fun cx hN hR hF hL => ?_; apply args_k; (case hA => (simp only [go_sem, ↓reduceIte]; rfl))
  (with_reducible repeat' (first|exact trivial|(apply byE;simp only [go_sem, ↓reduceIte];try rfl)|apply Aa|apply As|apply Au|apply Av|apply Aj|apply At|apply Aw|apply Ab|apply Ac|apply Ad|apply Ae|apply Af|apply Ag|apply Ah|apply Ai|apply Ak|apply Al|((first|apply An|apply Ao);(case hs=>with_unfolding_all rfl))|apply Am|apply Ap|apply Aq|apply Ar|apply Ax|apply Ay|apply Az|apply Ba|apply Bb|apply Bc|apply Bd|apply Be|apply Ca|apply Cb|apply Cc|apply Cd|apply Ce|apply Cf|apply Cg|apply Ch|apply Ci|apply Bf|apply Cj|apply Ck|apply Cl|apply Cm|apply Cn|apply Co|apply Cp|(apply byR;with_unfolding_all rfl)|((first|apply byKt|apply byKs);kernel_rfl)|(apply byL;simp only [econs,List.map_cons,List.map_nil,List.cons_append,List.nil_append,OpS.nm,OpS.reads,OpS.turns,Nat.reduceAdd];try with_unfolding_all rfl)|(apply byG;intro hg;try simp only [hg])|(apply byQ;intro hq;try simp only [hqs] at hq;try (exfalso;omega))|(apply byI;intro K hK)|(apply byH;repeat (first|exact dst_z rfl|apply dst_s))|(apply byN;unfold NapOK;kernel_rfl)|(apply byD;first|(simp;done)|(simp [go_sem];done))|(refine hK _ _ ?_;clear hK;clear K)|omega|(apply callX cl98 (k);(case hl=>with_unfolding_all rfl))|contradiction))
end Go.Proofs.Ytjplhfmakghabaa.V
namespace Go.Proofs.Ytjplhfmakghabaa.V
open Go.RowKit
set_option maxRecDepth 100000
attribute [local go_sem] Option.toList_some Option.toList_none

theorem cover_rises {c : Cover} (hc : c.ok) : (decide (0 ≤ c.peril) && decide (c.peril < 8) && (decide (1 ≤ c.share) && decide (c.share ≤ 10000)) && rises [0, c.ded, IntKind.i64.wrap (c.limit - 1), IntKind.i64.wrap (c.agg - 1), 999999999999999] && decide (c.ded < c.limit)) = c.rightB := by
  obtain ⟨⟨a1, a2⟩, ⟨b1, b2⟩, ⟨c1, c2⟩, ⟨d1, d2⟩, e1, e2⟩ := hc
  have w : ∀ n : Int, -9223372036854775808 ≤ n → n ≤ 9223372036854775807 → IntKind.i64.wrap (n - 1) = if n = -9223372036854775808 then 9223372036854775807 else n - 1 := by
    intro n h1 h2
    split
    · rename_i h; subst h; decide
    · exact wrap_id (by omega) (by omega)
  rw [w _ b1 b2, w _ c1 c2, Bool.eq_iff_iff]
  unfold Cover.rightB
  rw [cvRight_iff]
  simp only [rises, Bool.and_eq_true, decide_eq_true_eq, Bool.and_true]
  split <;> split <;> omega

theorem cRight_f (c : Cover) (hc : c.ok) : Fun Try.prog 51 [.agg c.flat] (bool c.rightB) := by
  rw [← cover_rises hc]
  refine fun_W mixed Try.func51 rfl (Nat.le_of_ble_eq_true rfl) (by kernel_rfl) fun cx hN hR hF hL => ?_; apply args_k; (case hA => (simp only [go_sem, ↓reduceIte]; rfl))
  (with_reducible repeat' (first|exact trivial|(apply byE;simp only [go_sem, ↓reduceIte];try rfl)|apply Aa|apply As|apply Au|apply Av|apply Aj|apply At|apply Aw|apply Ab|apply Ac|apply Ad|apply Ae|apply Af|apply Ag|apply Ah|apply Ai|apply Ak|apply Al|((first|apply An|apply Ao);(case hs=>with_unfolding_all rfl))|apply Am|apply Ap|apply Aq|apply Ar|apply Ax|apply Ay|apply Az|apply Ba|apply Bb|apply Bc|apply Bd|apply Be|apply Ca|apply Cb|apply Cc|apply Cd|apply Ce|apply Cf|apply Cg|apply Ch|apply Ci|apply Bf|apply Cj|apply Ck|apply Cl|apply Cm|apply Cn|apply Co|apply Cp|(apply byR;with_unfolding_all rfl)|((first|apply byKt|apply byKs);kernel_rfl)|(apply byL;simp only [econs,List.map_cons,List.map_nil,List.cons_append,List.nil_append,OpS.nm,OpS.reads,OpS.turns,Nat.reduceAdd];try with_unfolding_all rfl)|(apply byG;intro hg;try simp only [hg])|(apply byQ;intro hq;try simp only [hqs] at hq;try (exfalso;omega))|(apply byI;intro K hK)|(apply byH;repeat (first|exact dst_z rfl|apply dst_s))|(apply byN;unfold NapOK;kernel_rfl)|(apply byD;first|(simp;done)|(simp [go_sem];done))|(refine hK _ _ ?_;clear hK;clear K)|omega|contradiction))
  (apply callL' [3104] cl79 (isSorted_f [0, c.ded, IntKind.i64.wrap (c.limit - 1), IntKind.i64.wrap (c.agg - 1), 999999999999999]); (case hp | hl => (simp only [go_sem, ↓reduceIte]; try rfl)); (case hx => (simp [AV.flat0])); (try (case hfz => (first | (simp only [go_sem]; done) | (simp [go_sem, fzo]; done)))))
  all_goals (with_reducible repeat' (first|exact trivial|(apply byE;simp only [go_sem, ↓reduceIte];try rfl)|apply Aa|apply As|apply Au|apply Av|apply Aj|apply At|apply Aw|apply Ab|apply Ac|apply Ad|apply Ae|apply Af|apply Ag|apply Ah|apply Ai|apply Ak|apply Al|((first|apply An|apply Ao);(case hs=>with_unfolding_all rfl))|apply Am|apply Ap|apply Aq|apply Ar|apply Ax|apply Ay|apply Az|apply Ba|apply Bb|apply Bc|apply Bd|apply Be|apply Ca|apply Cb|apply Cc|apply Cd|apply Ce|apply Cf|apply Cg|apply Ch|apply Ci|apply Bf|apply Cj|apply Ck|apply Cl|apply Cm|apply Cn|apply Co|apply Cp|(apply byR;with_unfolding_all rfl)|((first|apply byKt|apply byKs);kernel_rfl)|(apply byL;simp only [econs,List.map_cons,List.map_nil,List.cons_append,List.nil_append,OpS.nm,OpS.reads,OpS.turns,Nat.reduceAdd];try with_unfolding_all rfl)|(apply byG;intro hg;try simp only [hg])|(apply byQ;intro hq;try simp only [hqs] at hq;try (exfalso;omega))|(apply byI;intro K hK)|(apply byH;repeat (first|exact dst_z rfl|apply dst_s))|(apply byN;unfold NapOK;kernel_rfl)|(apply byD;first|(simp;done)|(simp [go_sem];done))|(refine hK _ _ ?_;clear hK;clear K)|omega|contradiction))
  · rw [hg, Bool.true_and]
  · rw [hg, Bool.false_and, Bool.false_and]
theorem rCover_f (c : Cover) : Fun Try.prog 55 [.agg c.flat] (bool c.rightB) := by
  refine fun_W mixed Try.func55 rfl (Nat.le_of_ble_eq_true rfl) (by kernel_rfl) fun cx hN hR hF hL => ?_; apply args_k; (case hA => (simp only [go_sem, ↓reduceIte]; rfl))
  (with_reducible repeat' (first|exact trivial|(apply byE;simp only [go_sem, ↓reduceIte];try rfl)|apply Aa|apply As|apply Au|apply Av|apply Aj|apply At|apply Aw|apply Ab|apply Ac|apply Ad|apply Ae|apply Af|apply Ag|apply Ah|apply Ai|apply Ak|apply Al|((first|apply An|apply Ao);(case hs=>with_unfolding_all rfl))|apply Am|apply Ap|apply Aq|apply Ar|apply Ax|apply Ay|apply Az|apply Ba|apply Bb|apply Bc|apply Bd|apply Be|apply Ca|apply Cb|apply Cc|apply Cd|apply Ce|apply Cf|apply Cg|apply Ch|apply Ci|apply Bf|apply Cj|apply Ck|apply Cl|apply Cm|apply Cn|apply Co|apply Cp|(apply byR;with_unfolding_all rfl)|((first|apply byKt|apply byKs);kernel_rfl)|(apply byL;simp only [econs,List.map_cons,List.map_nil,List.cons_append,List.nil_append,OpS.nm,OpS.reads,OpS.turns,Nat.reduceAdd];try with_unfolding_all rfl)|(apply byG;intro hg;try simp only [hg])|(apply byQ;intro hq;try simp only [hqs] at hq;try (exfalso;omega))|(apply byI;intro K hK)|(apply byH;repeat (first|exact dst_z rfl|apply dst_s))|(apply byN;unfold NapOK;kernel_rfl)|(apply byD;first|(simp;done)|(simp [go_sem];done))|(refine hK _ _ ?_;clear hK;clear K)|omega|contradiction))
  all_goals rw [Bool.eq_iff_iff]
  all_goals unfold Cover.rightB
  all_goals rw [cvRight_iff]
  all_goals simp only [Bool.and_eq_true, decide_eq_true_eq, Bool.false_eq_true, false_iff]
  all_goals omega
theorem leastL_f (a : Int) (l : List Int) : Fun Try.prog 59 [int a, ints l] (int (max (l.foldl min a) 0)) := by
  refine fun_W mixed Try.func59 rfl (Nat.le_of_ble_eq_true rfl) (by kernel_rfl) fun cx hN hR hF hL => ?_; apply args_k; (case hA => (simp only [go_sem, ↓reduceIte]; rfl))
  have hl : l.length ≤ 9223372036854775807 := by
    have := hL
    simp [maxLen] at this
    omega
  (with_reducible repeat' (first|exact trivial|(apply byE;simp only [go_sem, ↓reduceIte];try rfl)|apply Aa|apply As|apply Au|apply Av|apply Aj|apply At|apply Aw|apply Ab|apply Ac|apply Ad|apply Ae|apply Af|apply Ag|apply Ah|apply Ai|apply Ak|apply Al|((first|apply An|apply Ao);(case hs=>with_unfolding_all rfl))|apply Am|apply Ap|apply Aq|apply Ar|apply Ax|apply Ay|apply Az|apply Ba|apply Bb|apply Bc|apply Bd|apply Be|apply Ca|apply Cb|apply Cc|apply Cd|apply Ce|apply Cf|apply Cg|apply Ch|apply Ci|apply Bf|apply Cj|apply Ck|apply Cl|apply Cm|apply Cn|apply Co|apply Cp|(apply byR;with_unfolding_all rfl)|((first|apply byKt|apply byKs);kernel_rfl)|(apply byL;simp only [econs,List.map_cons,List.map_nil,List.cons_append,List.nil_append,OpS.nm,OpS.reads,OpS.turns,Nat.reduceAdd];try with_unfolding_all rfl)|(apply byG;intro hg;try simp only [hg])|(apply byQ;intro hq;try simp only [hqs] at hq;try (exfalso;omega))|(apply byI;intro K hK)|(apply byH;repeat (first|exact dst_z rfl|apply dst_s))|(apply byN;unfold NapOK;kernel_rfl)|(apply byD;first|(simp;done)|(simp [go_sem];done))|(refine hK _ _ ?_;clear hK;clear K)|omega|contradiction))
  refine loopW mixed (σ := {i : Nat // i ≤ l.length}) (fun s => ⟨[(9, int s.1), (0, int ((l.take s.1).foldl min a)), (7, ints l), (8, int l.length)], [], 2000⟩) (fun s => l.length - s.1) id ⟨0, by omega⟩ (by rw [hN]; kernel_rfl) ?_ ?_
  · simp only [go_sem, ↓reduceIte, hF]
    exact ⟨rfl, rfl⟩
  · rintro ⟨i, h1⟩
    by_cases hi : i < l.length
    · have hq : l[i]? = some l[i] := List.getElem?_eq_getElem hi
      have e1 : (l.map irow)[i]? = some (irow l[i]) := by rw [List.getElem?_map, hq]; rfl
      have e5 : IntKind.i64.wrap ((i : Int) + 1) = ((i + 1 : Nat) : Int) := by rw [wrap_id] <;> omega
      have hk1 : i < (l.map irow).length := by simpa using hi
      have hs : (l.take (i + 1)).foldl min a = min ((l.take i).foldl min a) l[i] := by rw [List.take_succ_eq_append_getElem hi, List.foldl_append]; rfl
      generalize l[i] = q at *
      (with_reducible repeat' (first|exact trivial|(apply byE;simp only [go_sem, ↓reduceIte, e1, e5, hk1];try rfl)|apply Aa|apply As|apply Au|apply Av|apply Aj|apply At|apply Aw|apply Ab|apply Ac|apply Ad|apply Ae|apply Af|apply Ag|apply Ah|apply Ai|apply Ak|apply Al|((first|apply An|apply Ao);(case hs=>with_unfolding_all rfl))|apply Am|apply Ap|apply Aq|apply Ar|apply Ax|apply Ay|apply Az|apply Ba|apply Bb|apply Bc|apply Bd|apply Be|apply Ca|apply Cb|apply Cc|apply Cd|apply Ce|apply Cf|apply Cg|apply Ch|apply Ci|apply Bf|apply Cj|apply Ck|apply Cl|apply Cm|apply Cn|apply Co|apply Cp|(apply byR;with_unfolding_all rfl)|((first|apply byKt|apply byKs);kernel_rfl)|(apply byL;simp only [econs,List.map_cons,List.map_nil,List.cons_append,List.nil_append,OpS.nm,OpS.reads,OpS.turns,Nat.reduceAdd];try with_unfolding_all rfl)|(apply byG;intro hg;try simp only [hg])|(apply byQ;intro hq;try simp only [hqs] at hq;try (exfalso;omega))|(apply byI;intro K hK)|(apply byH;repeat (first|exact dst_z rfl|apply dst_s))|(apply byN;unfold NapOK;kernel_rfl)|(apply byD;first|(simp;done)|(simp [go_sem];done))|(refine hK _ _ ?_;clear hK;clear K)|omega|contradiction))
      refine ⟨⟨i + 1, hi⟩, id, ?_, by show l.length - (i + 1) < l.length - i; omega⟩
      simp only [hs]
      simp only [go_sem, ↓reduceIte, hF]
    · obtain rfl : i = l.length := by omega
      simp only [List.take_length]
      (with_reducible repeat' (first|exact trivial|(apply byE;simp only [go_sem, ↓reduceIte];try rfl)|apply Aa|apply As|apply Au|apply Av|apply Aj|apply At|apply Aw|apply Ab|apply Ac|apply Ad|apply Ae|apply Af|apply Ag|apply Ah|apply Ai|apply Ak|apply Al|((first|apply An|apply Ao);(case hs=>with_unfolding_all rfl))|apply Am|apply Ap|apply Aq|apply Ar|apply Ax|apply Ay|apply Az|apply Ba|apply Bb|apply Bc|apply Bd|apply Be|apply Ca|apply Cb|apply Cc|apply Cd|apply Ce|apply Cf|apply Cg|apply Ch|apply Ci|apply Bf|apply Cj|apply Ck|apply Cl|apply Cm|apply Cn|apply Co|apply Cp|(apply byR;with_unfolding_all rfl)|((first|apply byKt|apply byKs);kernel_rfl)|(apply byL;simp only [econs,List.map_cons,List.map_nil,List.cons_append,List.nil_append,OpS.nm,OpS.reads,OpS.turns,Nat.reduceAdd];try with_unfolding_all rfl)|(apply byG;intro hg;try simp only [hg])|(apply byQ;intro hq;try simp only [hqs] at hq;try (exfalso;omega))|(apply byI;intro K hK)|(apply byH;repeat (first|exact dst_z rfl|apply dst_s))|(apply byN;unfold NapOK;kernel_rfl)|(apply byD;first|(simp;done)|(simp [go_sem];done))|(refine hK _ _ ?_;clear hK;clear K)|omega|contradiction))

theorem least1_f (a b : Int) : Fun Try.prog 59 [int a, ints [b]] (int (max (min a b) 0)) := leastL_f a [b]
theorem tClaim_f (c : Cover) (loss : Int) (h : Int64 (loss - c.ded)) : Fun Try.prog 57 [.agg c.flat, int loss] (int (max (min (loss - c.ded) c.limit) 0)) := by
  have w : IntKind.i64.wrap (loss - c.ded) = loss - c.ded := wrap_id h.1 h.2
  refine fun_W mixed Try.func57 rfl (Nat.le_of_ble_eq_true rfl) (by kernel_rfl) fun cx hN hR hF hL => ?_; apply args_k; (case hA => (simp only [go_sem, ↓reduceIte]; rfl))
  (with_reducible repeat' (first|exact trivial|(apply byE;simp only [go_sem, ↓reduceIte, w];try rfl)|apply Aa|apply As|apply Au|apply Av|apply Aj|apply At|apply Aw|apply Ab|apply Ac|apply Ad|apply Ae|apply Af|apply Ag|apply Ah|apply Ai|apply Ak|apply Al|((first|apply An|apply Ao);(case hs=>with_unfolding_all rfl))|apply Am|apply Ap|apply Aq|apply Ar|apply Ax|apply Ay|apply Az|apply Ba|apply Bb|apply Bc|apply Bd|apply Be|apply Ca|apply Cb|apply Cc|apply Cd|apply Ce|apply Cf|apply Cg|apply Ch|apply Ci|apply Bf|apply Cj|apply Ck|apply Cl|apply Cm|apply Cn|apply Co|apply Cp|(apply byR;with_unfolding_all rfl)|((first|apply byKt|apply byKs);kernel_rfl)|(apply byL;simp only [econs,List.map_cons,List.map_nil,List.cons_append,List.nil_append,OpS.nm,OpS.reads,OpS.turns,Nat.reduceAdd];try with_unfolding_all rfl)|(apply byG;intro hg;try simp only [hg])|(apply byQ;intro hq;try simp only [hqs] at hq;try (exfalso;omega))|(apply byI;intro K hK)|(apply byH;repeat (first|exact dst_z rfl|apply dst_s))|(apply byN;unfold NapOK;kernel_rfl)|(apply byD;first|(simp;done)|(simp [go_sem];done))|(refine hK _ _ ?_;clear hK;clear K)|omega|(apply callFX [1048] cl59 (least1_f (loss - c.ded) c.limit);(case hy|hl|hk=>(simp only [go_sem, ↓reduceIte];try with_unfolding_all rfl));(case hz=>(with_unfolding_all simp [go_sem,fzo, w];done)))|contradiction))
theorem tShare_f (c : Cover) (amt : Int) (h1 : 0 ≤ amt) (h2 : amt ≤ 1000000000000000) (h3 : 1 ≤ c.share) (h4 : c.share ≤ 10000) : Fun Try.prog 58 [.agg c.flat, int amt] (int (bpE amt c.share)) := by
  refine fun_W mixed Try.func58 rfl (Nat.le_of_ble_eq_true rfl) (by kernel_rfl) fun cx hN hR hF hL => ?_; apply args_k; (case hA => (simp only [go_sem, ↓reduceIte]; rfl))
  (with_reducible repeat' (first|exact trivial|(apply byE;simp only [go_sem, ↓reduceIte];try rfl)|apply Aa|apply As|apply Au|apply Av|apply Aj|apply At|apply Aw|apply Ab|apply Ac|apply Ad|apply Ae|apply Af|apply Ag|apply Ah|apply Ai|apply Ak|apply Al|((first|apply An|apply Ao);(case hs=>with_unfolding_all rfl))|apply Am|apply Ap|apply Aq|apply Ar|apply Ax|apply Ay|apply Az|apply Ba|apply Bb|apply Bc|apply Bd|apply Be|apply Ca|apply Cb|apply Cc|apply Cd|apply Ce|apply Cf|apply Cg|apply Ch|apply Ci|apply Bf|apply Cj|apply Ck|apply Cl|apply Cm|apply Cn|apply Co|apply Cp|(apply byR;with_unfolding_all rfl)|((first|apply byKt|apply byKs);kernel_rfl)|(apply byL;simp only [econs,List.map_cons,List.map_nil,List.cons_append,List.nil_append,OpS.nm,OpS.reads,OpS.turns,Nat.reduceAdd];try with_unfolding_all rfl)|(apply byG;intro hg;try simp only [hg])|(apply byQ;intro hq;try simp only [hqs] at hq;try (exfalso;omega))|(apply byI;intro K hK)|(apply byH;repeat (first|exact dst_z rfl|apply dst_s))|(apply byN;unfold NapOK;kernel_rfl)|(apply byD;first|(simp;done)|(simp [go_sem];done))|(refine hK _ _ ?_;clear hK;clear K)|omega|(apply callX cl84 (bp_f amt c.share h1 h2 h3 h4);(case hl=>with_unfolding_all rfl))|contradiction))

set_option maxHeartbeats 4000000 in
theorem pays_f (c : Cover) (loss used : Int) (hc : c.ok) (hl : Int64 loss) (hu : Int64 used) : Fun Try.prog 25 [.agg c.flat, int loss, int used] (int (pays c loss used)) := by
  unfold pays
  by_cases h : c.rightB = true ∧ 0 ≤ loss ∧ 0 ≤ used
  · rw [if_pos h]
    obtain ⟨h1, h2, h3⟩ := h
    have hr := cvRight_iff.1 h1
    unfold worth0
    have g1 : (loss < 0) = False := eq_false (by omega)
    have g2 : (used < 0) = False := eq_false (by omega)
    have w : IntKind.i64.wrap (c.agg - used) = c.agg - used := by
      have := hu.2
      rw [wrap_id] <;> omega
    have k1 := tClaim_f c loss (by have := hl.2; unfold Int64; omega)
    have k2 := tShare_f c (max (min (loss - c.ded) c.limit) 0) (by omega) (by omega) hr.2.2.1 hr.2.2.2.1
    refine fun_W mixed Try.func25 rfl (Nat.le_of_ble_eq_true rfl) (by kernel_rfl) fun cx hN hR hF hL => ?_; apply args_k; (case hA => (simp only [go_sem, ↓reduceIte]; rfl))
    (with_reducible repeat' (first|exact trivial|(apply byE;simp only [go_sem, ↓reduceIte, h1, g1, g2, w, decide_false];try rfl)|apply Aa|apply As|apply Au|apply Av|apply Aj|apply At|apply Aw|apply Ab|apply Ac|apply Ad|apply Ae|apply Af|apply Ag|apply Ah|apply Ai|apply Ak|apply Al|((first|apply An|apply Ao);(case hs=>with_unfolding_all rfl))|apply Am|apply Ap|apply Aq|apply Ar|apply Ax|apply Ay|apply Az|apply Ba|apply Bb|apply Bc|apply Bd|apply Be|apply Ca|apply Cb|apply Cc|apply Cd|apply Ce|apply Cf|apply Cg|apply Ch|apply Ci|apply Bf|apply Cj|apply Ck|apply Cl|apply Cm|apply Cn|apply Co|apply Cp|(apply byR;with_unfolding_all rfl)|((first|apply byKt|apply byKs);kernel_rfl)|(apply byL;simp only [econs,List.map_cons,List.map_nil,List.cons_append,List.nil_append,OpS.nm,OpS.reads,OpS.turns,Nat.reduceAdd];try with_unfolding_all rfl)|(apply byG;intro hg;try simp only [hg])|(apply byQ;intro hq;try simp only [hqs] at hq;try (exfalso;omega))|(apply byI;intro K hK)|(apply byH;repeat (first|exact dst_z rfl|apply dst_s))|(apply byN;unfold NapOK;kernel_rfl)|(apply byD;first|(simp;done)|(simp [go_sem];done))|(refine hK _ _ ?_;clear hK;clear K)|omega|(apply callX cl51 (cRight_f c hc);(case hl=>with_unfolding_all rfl))|contradiction))
    refine loopW mixed (σ := {i : Nat // i = 0 ∨ i = 1 ∨ i = 2}) (fun s => ⟨[(28, int s.1), (7, int (if s.1 = 0 then loss else if s.1 = 1 then max (min (loss - c.ded) c.limit) 0 else bpE (max (min (loss - c.ded) c.limit) 0) c.share)), (27, int (2 : Nat)), (26, .osl 3032 1 0 2), (2, int used), (3, .ptr 0 0)],
      [(3032, some ⟨84, [.fn (.func 57) [.agg c.flat] [], .fn (.func 58) [.agg c.flat] []]⟩), (0, some ⟨23, c.flat⟩)], 4000⟩) (fun s => 2 - s.1) id ⟨0, .inl rfl⟩ (by rw [hN]; kernel_rfl) ?_ ?_
    · simp only [go_sem, ↓reduceIte, hF]
      rfl
    · rintro ⟨i, hi⟩
      rcases hi with rfl | rfl | rfl
      · have d1 : (((0 : Nat) : Int) < ((2 : Nat) : Int)) = True := eq_true (by omega)
        have d2 : IntKind.i64.wrap (((0 : Nat) : Int) + 1) = ((1 : Nat) : Int) := by decide
        simp only [if_true]
        (with_reducible repeat' (first|exact trivial|(apply byE;simp only [go_sem, ↓reduceIte, d1, d2];try rfl)|apply Aa|apply As|apply Au|apply Av|apply Aj|apply At|apply Aw|apply Ab|apply Ac|apply Ad|apply Ae|apply Af|apply Ag|apply Ah|apply Ai|apply Ak|apply Al|((first|apply An|apply Ao);(case hs=>with_unfolding_all rfl))|apply Am|apply Ap|apply Aq|apply Ar|apply Ax|apply Ay|apply Az|apply Ba|apply Bb|apply Bc|apply Bd|apply Be|apply Ca|apply Cb|apply Cc|apply Cd|apply Ce|apply Cf|apply Cg|apply Ch|apply Ci|apply Bf|apply Cj|apply Ck|apply Cl|apply Cm|apply Cn|apply Co|apply Cp|(apply byR;with_unfolding_all rfl)|((first|apply byKt|apply byKs);kernel_rfl)|(apply byL;simp only [econs,List.map_cons,List.map_nil,List.cons_append,List.nil_append,OpS.nm,OpS.reads,OpS.turns,Nat.reduceAdd];try with_unfolding_all rfl)|(apply byG;intro hg;try simp only [hg])|(apply byQ;intro hq;try simp only [hqs] at hq;try (exfalso;omega))|(apply byI;intro K hK)|(apply byH;repeat (first|exact dst_z rfl|apply dst_s))|(apply byN;unfold NapOK;kernel_rfl)|(apply byD;first|(simp;done)|(simp [go_sem];done))|(refine hK _ _ ?_;clear hK;clear K)|omega|(apply callX cl57 (k1);(case hl=>with_unfolding_all rfl))|contradiction))
        refine ⟨⟨1, .inr (.inl rfl)⟩, id, ?_, by show 2 - 1 < 2 - 0; omega⟩
        simp only [go_sem, ↓reduceIte, hF]
      · have d1 : (((1 : Nat) : Int) < ((2 : Nat) : Int)) = True := eq_true (by omega)
        have d2 : IntKind.i64.wrap (((1 : Nat) : Int) + 1) = ((2 : Nat) : Int) := by decide
        simp only [Nat.succ_ne_zero, Nat.reduceEqDiff, if_true, if_false]
        (with_reducible repeat' (first|exact trivial|(apply byE;simp only [go_sem, ↓reduceIte, d1, d2];try rfl)|apply Aa|apply As|apply Au|apply Av|apply Aj|apply At|apply Aw|apply Ab|apply Ac|apply Ad|apply Ae|apply Af|apply Ag|apply Ah|apply Ai|apply Ak|apply Al|((first|apply An|apply Ao);(case hs=>with_unfolding_all rfl))|apply Am|apply Ap|apply Aq|apply Ar|apply Ax|apply Ay|apply Az|apply Ba|apply Bb|apply Bc|apply Bd|apply Be|apply Ca|apply Cb|apply Cc|apply Cd|apply Ce|apply Cf|apply Cg|apply Ch|apply Ci|apply Bf|apply Cj|apply Ck|apply Cl|apply Cm|apply Cn|apply Co|apply Cp|(apply byR;with_unfolding_all rfl)|((first|apply byKt|apply byKs);kernel_rfl)|(apply byL;simp only [econs,List.map_cons,List.map_nil,List.cons_append,List.nil_append,OpS.nm,OpS.reads,OpS.turns,Nat.reduceAdd];try with_unfolding_all rfl)|(apply byG;intro hg;try simp only [hg])|(apply byQ;intro hq;try simp only [hqs] at hq;try (exfalso;omega))|(apply byI;intro K hK)|(apply byH;repeat (first|exact dst_z rfl|apply dst_s))|(apply byN;unfold NapOK;kernel_rfl)|(apply byD;first|(simp;done)|(simp [go_sem];done))|(refine hK _ _ ?_;clear hK;clear K)|omega|(apply callX cl58 (k2);(case hl=>with_unfolding_all rfl))|contradiction))
        refine ⟨⟨2, .inr (.inr rfl)⟩, id, ?_, by show 2 - 2 < 2 - 1; omega⟩
        simp only [go_sem, ↓reduceIte, hF]
      · have d1 : (((2 : Nat) : Int) < ((2 : Nat) : Int)) = False := eq_false (by omega)
        simp only [Nat.succ_ne_zero, Nat.reduceEqDiff, if_false]
        (with_reducible repeat' (first|exact trivial|(apply byE;simp only [go_sem, ↓reduceIte, d1, w];try rfl)|apply Aa|apply As|apply Au|apply Av|apply Aj|apply At|apply Aw|apply Ab|apply Ac|apply Ad|apply Ae|apply Af|apply Ag|apply Ah|apply Ai|apply Ak|apply Al|((first|apply An|apply Ao);(case hs=>with_unfolding_all rfl))|apply Am|apply Ap|apply Aq|apply Ar|apply Ax|apply Ay|apply Az|apply Ba|apply Bb|apply Bc|apply Bd|apply Be|apply Ca|apply Cb|apply Cc|apply Cd|apply Ce|apply Cf|apply Cg|apply Ch|apply Ci|apply Bf|apply Cj|apply Ck|apply Cl|apply Cm|apply Cn|apply Co|apply Cp|(apply byR;with_unfolding_all rfl)|((first|apply byKt|apply byKs);kernel_rfl)|(apply byL;simp only [econs,List.map_cons,List.map_nil,List.cons_append,List.nil_append,OpS.nm,OpS.reads,OpS.turns,Nat.reduceAdd];try with_unfolding_all rfl)|(apply byG;intro hg;try simp only [hg])|(apply byQ;intro hq;try simp only [hqs] at hq;try (exfalso;omega))|(apply byI;intro K hK)|(apply byH;repeat (first|exact dst_z rfl|apply dst_s))|(apply byN;unfold NapOK;kernel_rfl)|(apply byD;first|(simp;done)|(simp [go_sem];done))|(refine hK _ _ ?_;clear hK;clear K)|omega|(apply callFX [5040] cl59 (least1_f (bpE (max (min (loss - c.ded) c.limit) 0) c.share) (c.agg - used));(case hy|hl|hk=>(simp only [go_sem, ↓reduceIte];try with_unfolding_all rfl));(case hz=>(with_unfolding_all simp [go_sem,fzo, d1, w];done)))|contradiction))
  · rw [if_neg h]
    have h' : (!c.rightB || decide (loss < 0) || decide (used < 0)) = true := by
      cases h1 : c.rightB with
      | false => rfl
      | true =>
        have : ¬ (0 ≤ loss ∧ 0 ≤ used) := fun g => h ⟨h1, g⟩
        simp
        omega
    refine fun_W mixed Try.func25 rfl (Nat.le_of_ble_eq_true rfl) (by kernel_rfl) fun cx hN hR hF hL => ?_; apply args_k; (case hA => (simp only [go_sem, ↓reduceIte]; rfl))
    (with_reducible repeat' (first|exact trivial|(apply byE;simp only [go_sem, ↓reduceIte, h'];try rfl)|apply Aa|apply As|apply Au|apply Av|apply Aj|apply At|apply Aw|apply Ab|apply Ac|apply Ad|apply Ae|apply Af|apply Ag|apply Ah|apply Ai|apply Ak|apply Al|((first|apply An|apply Ao);(case hs=>with_unfolding_all rfl))|apply Am|apply Ap|apply Aq|apply Ar|apply Ax|apply Ay|apply Az|apply Ba|apply Bb|apply Bc|apply Bd|apply Be|apply Ca|apply Cb|apply Cc|apply Cd|apply Ce|apply Cf|apply Cg|apply Ch|apply Ci|apply Bf|apply Cj|apply Ck|apply Cl|apply Cm|apply Cn|apply Co|apply Cp|(apply byR;with_unfolding_all rfl)|((first|apply byKt|apply byKs);kernel_rfl)|(apply byL;simp only [econs,List.map_cons,List.map_nil,List.cons_append,List.nil_append,OpS.nm,OpS.reads,OpS.turns,Nat.reduceAdd];try with_unfolding_all rfl)|(apply byG;intro hg;try simp only [hg])|(apply byQ;intro hq;try simp only [hqs] at hq;try (exfalso;omega))|(apply byI;intro K hK)|(apply byH;repeat (first|exact dst_z rfl|apply dst_s))|(apply byN;unfold NapOK;kernel_rfl)|(apply byD;first|(simp;done)|(simp [go_sem];done))|(refine hK _ _ ?_;clear hK;clear K)|omega|(apply callX cl51 (cRight_f c hc);(case hl=>with_unfolding_all rfl))|contradiction))

theorem part_eq (m bp : Int) : m * bp / 10000 = m / 10000 * bp + m % 10000 * bp / 10000 ∧ m * bp % 10000 = m % 10000 * bp % 10000 := by
  have h : m * bp = m / 10000 * bp * 10000 + m % 10000 * bp := by
    have h1 := Int.mul_ediv_add_emod m 10000
    have h2 : m * bp = (10000 * (m / 10000) + m % 10000) * bp := by rw [h1]
    rw [h2, Int.add_mul, Int.mul_assoc, Int.mul_comm 10000]
  rw [h]
  generalize m / 10000 * bp = a
  generalize m % 10000 * bp = b
  omega
set_option maxHeartbeats 4000000 in
theorem part_f (m bp : Int) (h1 : 0 ≤ m) (h2 : m ≤ 1000000000000000) (h3 : 1 ≤ bp) (h4 : bp ≤ 10000) : Fun Try.prog 76 [int m, int bp] (int (bpE m bp)) := by
  obtain ⟨q1, q2⟩ := part_eq m bp
  have hbd := bpE_bd h1 h3 h4
  unfold bpE at *
  simp only at *
  rw [q1, q2] at *
  have t1 : m.tdiv 10000 = m / 10000 := Int.tdiv_eq_ediv_of_nonneg h1
  have t2 : m.tmod 10000 = m % 10000 := Int.tmod_eq_emod_of_nonneg h1
  have b1 : 0 ≤ m / 10000 ∧ m / 10000 ≤ 100000000000 := by omega
  have b2 : 0 ≤ m % 10000 ∧ m % 10000 ≤ 9999 := by omega
  have p1 : 0 ≤ m / 10000 * bp ∧ m / 10000 * bp ≤ 1000000000000000 := ⟨Int.mul_nonneg b1.1 (by omega), by
    have := Int.mul_le_mul b1.2 h4 (by omega) (by omega); omega⟩
  have p2 : 0 ≤ m % 10000 * bp ∧ m % 10000 * bp ≤ 99990000 := ⟨Int.mul_nonneg b2.1 (by omega), by
    have := Int.mul_le_mul b2.2 h4 (by omega) (by omega); omega⟩
  have w0 : IntKind.i64.wrap (m / 10000) = m / 10000 := wrap_id (by omega) (by omega)
  generalize hA : m / 10000 * bp = A at *
  generalize hB : m % 10000 * bp = B at *
  have w1 : IntKind.i64.wrap A = A := wrap_id (by omega) (by omega)
  have w2 : IntKind.i64.wrap B = B := wrap_id (by omega) (by omega)
  have t3 : B.tdiv 10000 = B / 10000 := Int.tdiv_eq_ediv_of_nonneg (by omega)
  have t4 : B.tmod 10000 = B % 10000 := Int.tmod_eq_emod_of_nonneg (by omega)
  have w3 : IntKind.i64.wrap (B / 10000) = B / 10000 := wrap_id (by omega) (by omega)
  have w4 : IntKind.i64.wrap (A + B / 10000) = A + B / 10000 := wrap_id (by omega) (by omega)
  have w5 : IntKind.i64.wrap (B / 10000 + 1) = B / 10000 + 1 := wrap_id (by omega) (by omega)
  have w6 : IntKind.i64.wrap (A + (B / 10000 + 1)) = A + B / 10000 + 1 := by rw [wrap_id] <;> omega
  have t5 : (A + B / 10000).tmod 2 = (A + B / 10000) % 2 := Int.tmod_eq_emod_of_nonneg (by omega)
  have r1 : intBin .rem .i64 m 10000 = some (.v (.int .i64 (m % 10000))) := by rw [ib_rem _ _ _ (by decide), t2]
  have r2 : intBin .rem .i64 B 10000 = some (.v (.int .i64 (B % 10000))) := by rw [ib_rem _ _ _ (by decide), t4]
  have r3 : intBin .rem .i64 (A + B / 10000) 2 = some (.v (.int .i64 ((A + B / 10000) % 2))) := by rw [ib_rem _ _ _ (by decide), t5]
  have r4 : intBin .quo .i64 m 10000 = some (.v (.int .i64 (m / 10000))) := by rw [ib_quo _ _ _ (by decide), t1, w0]
  have r5 : intBin .quo .i64 B 10000 = some (.v (.int .i64 (B / 10000))) := by rw [ib_quo _ _ _ (by decide), t3, w3]
  refine fun_W mixed Try.func76 rfl (Nat.le_of_ble_eq_true rfl) (by kernel_rfl) fun cx hN hR hF hL => ?_; apply args_k; (case hA => (simp only [go_sem, ↓reduceIte]; rfl))
  (with_reducible repeat' (first|exact trivial|(apply byE;simp only [go_sem, ↓reduceIte, r1, r2, r3, r4, r5, hA, hB, w1, w2, w4, w5, w6];try rfl)|apply Aa|apply As|apply Au|apply Av|apply Aj|apply At|apply Aw|apply Ab|apply Ac|apply Ad|apply Ae|apply Af|apply Ag|apply Ah|apply Ai|apply Ak|apply Al|((first|apply An|apply Ao);(case hs=>with_unfolding_all rfl))|apply Am|apply Ap|apply Aq|apply Ar|apply Ax|apply Ay|apply Az|apply Ba|apply Bb|apply Bc|apply Bd|apply Be|apply Ca|apply Cb|apply Cc|apply Cd|apply Ce|apply Cf|apply Cg|apply Ch|apply Ci|apply Bf|apply Cj|apply Ck|apply Cl|apply Cm|apply Cn|apply Co|apply Cp|(apply byR;with_unfolding_all rfl)|((first|apply byKt|apply byKs);kernel_rfl)|(apply byL;simp only [econs,List.map_cons,List.map_nil,List.cons_append,List.nil_append,OpS.nm,OpS.reads,OpS.turns,Nat.reduceAdd];try with_unfolding_all rfl)|(apply byG;intro hg;try simp only [hg])|(apply byQ;intro hq;try simp only [hqs] at hq;try (exfalso;omega))|(apply byI;intro K hK)|(apply byH;repeat (first|exact dst_z rfl|apply dst_s))|(apply byN;unfold NapOK;kernel_rfl)|(apply byD;first|(simp;done)|(simp [go_sem];done))|(refine hK _ _ ?_;clear hK;clear K)|omega|contradiction))
  · exact fun h _ => h

theorem rPays_f (c : Cover) (loss used : Int) (hc : c.ok) (hl : Int64 loss) (hu : Int64 used) : Fun Try.prog 46 [.agg c.flat, int loss, int used] (int (pays c loss used)) := by
  unfold pays
  by_cases h : c.rightB = true ∧ 0 ≤ loss ∧ 0 ≤ used
  · rw [if_pos h]
    obtain ⟨h1, h2, h3⟩ := h
    have hr := cvRight_iff.1 h1
    unfold worth0
    have g1 : (loss < 0) = False := eq_false (by omega)
    have g2 : (used < 0) = False := eq_false (by omega)
    have w : IntKind.i64.wrap (c.agg - used) = c.agg - used := by
      have := hu.2
      rw [wrap_id] <;> omega
    have w2 : IntKind.i64.wrap (loss - c.ded) = loss - c.ded := by
      have := hl.2
      rw [wrap_id] <;> omega
    have e : max 0 (min (loss - c.ded) c.limit) = max (min (loss - c.ded) c.limit) 0 := Int.max_comm _ _
    have k2 := part_f (max (min (loss - c.ded) c.limit) 0) c.share (by omega) (by omega) hr.2.2.1 hr.2.2.2.1
    refine fun_W mixed Try.func46 rfl (Nat.le_of_ble_eq_true rfl) (by kernel_rfl) fun cx hN hR hF hL => ?_; apply args_k; (case hA => (simp only [go_sem, ↓reduceIte]; rfl))
    (with_reducible repeat' (first|exact trivial|(apply byE;simp only [go_sem, ↓reduceIte, h1, g1, g2, w, w2, e, decide_false];try rfl)|apply Aa|apply As|apply Au|apply Av|apply Aj|apply At|apply Aw|apply Ab|apply Ac|apply Ad|apply Ae|apply Af|apply Ag|apply Ah|apply Ai|apply Ak|apply Al|((first|apply An|apply Ao);(case hs=>with_unfolding_all rfl))|apply Am|apply Ap|apply Aq|apply Ar|apply Ax|apply Ay|apply Az|apply Ba|apply Bb|apply Bc|apply Bd|apply Be|apply Ca|apply Cb|apply Cc|apply Cd|apply Ce|apply Cf|apply Cg|apply Ch|apply Ci|apply Bf|apply Cj|apply Ck|apply Cl|apply Cm|apply Cn|apply Co|apply Cp|(apply byR;with_unfolding_all rfl)|((first|apply byKt|apply byKs);kernel_rfl)|(apply byL;simp only [econs,List.map_cons,List.map_nil,List.cons_append,List.nil_append,OpS.nm,OpS.reads,OpS.turns,Nat.reduceAdd];try with_unfolding_all rfl)|(apply byG;intro hg;try simp only [hg])|(apply byQ;intro hq;try simp only [hqs] at hq;try (exfalso;omega))|(apply byI;intro K hK)|(apply byH;repeat (first|exact dst_z rfl|apply dst_s))|(apply byN;unfold NapOK;kernel_rfl)|(apply byD;first|(simp;done)|(simp [go_sem];done))|(refine hK _ _ ?_;clear hK;clear K)|omega|(apply callX cl55 (rCover_f c);(case hl=>with_unfolding_all rfl))|(apply callX cl76 (k2);(case hl=>with_unfolding_all rfl))|contradiction))
  · rw [if_neg h]
    have h' : (!c.rightB || decide (loss < 0) || decide (used < 0)) = true := by
      cases h1 : c.rightB with
      | false => rfl
      | true =>
        have : ¬ (0 ≤ loss ∧ 0 ≤ used) := fun g => h ⟨h1, g⟩
        simp
        omega
    refine fun_W mixed Try.func46 rfl (Nat.le_of_ble_eq_true rfl) (by kernel_rfl) fun cx hN hR hF hL => ?_; apply args_k; (case hA => (simp only [go_sem, ↓reduceIte]; rfl))
    (with_reducible repeat' (first|exact trivial|(apply byE;simp only [go_sem, ↓reduceIte, h'];try rfl)|apply Aa|apply As|apply Au|apply Av|apply Aj|apply At|apply Aw|apply Ab|apply Ac|apply Ad|apply Ae|apply Af|apply Ag|apply Ah|apply Ai|apply Ak|apply Al|((first|apply An|apply Ao);(case hs=>with_unfolding_all rfl))|apply Am|apply Ap|apply Aq|apply Ar|apply Ax|apply Ay|apply Az|apply Ba|apply Bb|apply Bc|apply Bd|apply Be|apply Ca|apply Cb|apply Cc|apply Cd|apply Ce|apply Cf|apply Cg|apply Ch|apply Ci|apply Bf|apply Cj|apply Ck|apply Cl|apply Cm|apply Cn|apply Co|apply Cp|(apply byR;with_unfolding_all rfl)|((first|apply byKt|apply byKs);kernel_rfl)|(apply byL;simp only [econs,List.map_cons,List.map_nil,List.cons_append,List.nil_append,OpS.nm,OpS.reads,OpS.turns,Nat.reduceAdd];try with_unfolding_all rfl)|(apply byG;intro hg;try simp only [hg])|(apply byQ;intro hq;try simp only [hqs] at hq;try (exfalso;omega))|(apply byI;intro K hK)|(apply byH;repeat (first|exact dst_z rfl|apply dst_s))|(apply byN;unfold NapOK;kernel_rfl)|(apply byD;first|(simp;done)|(simp [go_sem];done))|(refine hK _ _ ?_;clear hK;clear K)|omega|(apply callX cl55 (rCover_f c);(case hl=>with_unfolding_all rfl))|contradiction))
end Go.Proofs.Ytjplhfmakghabaa.V
