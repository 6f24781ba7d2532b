/- Contracts: num.Bp at amounts that may be, parts of 10000. -/
-- STEPS: new
import Derived.Test.YtjplhfmakghabaaN2
set_option linter.unusedSimpArgs false
set_option linter.unusedVariables false
namespace Go.Proofs.Ytjplhfmakghabaa.V
open Go.RowKit
set_option maxRecDepth 100000
attribute [local go_sem] Option.toList_some Option.toList_none

def m32 (a : Int) : Int := IntKind.u64.wrap (((BitVec.ofInt 64 a &&& BitVec.ofInt 64 4294967295).toNat : Nat) : Int)
theorem and32 {a : Int} (h1 : 0 ≤ a) (h2 : a < 18446744073709551616) : m32 a = a % 4294967296 := by
  unfold m32
  obtain ⟨n, rfl⟩ : ∃ n : Nat, a = n := ⟨a.toNat, by omega⟩
  have e : (BitVec.ofInt 64 (n : Int) &&& BitVec.ofInt 64 4294967295).toNat = n % 4294967296 := by
    rw [BitVec.toNat_and]
    have h3 : (BitVec.ofInt 64 (n : Int)).toNat = n := by
      rw [BitVec.toNat_ofInt]
      omega
    have h4 : (BitVec.ofInt 64 4294967295).toNat = 2 ^ 32 - 1 := by decide
    rw [h3, h4, Nat.and_two_pow_sub_one_eq_mod]
  rw [e, wrap_u (by omega) (by omega)]
  omega
theorem shr32 (k : IntKind) (hk : k = .u64) (a : Int) : intBin .shr k a 32 = some (.v (.int k (a / 4294967296))) := by
  subst hk
  rw [ib_shr _ _ _ (by decide)]
  have : (2 : Int) ^ min (32 : Int).toNat IntKind.u64.bits = 4294967296 := by decide
  rw [this, Int.fdiv_eq_ediv_of_nonneg _ (by decide)]

set_option maxHeartbeats 4000000 in
theorem mul64_f (x y : Int) (h1 : 0 ≤ x) (h2 : x ≤ 1000000000000000) (h3 : 0 ≤ y) (h4 : y ≤ 10000) : Fun Try.prog 117 [.v (.int .u64 x), .v (.int .u64 y)] (.tup [.v (.int .u64 0), .v (.int .u64 (x * y))]) := by
  have sh := fun a => shr32 .u64 rfl a
  have a1 := and32 h1 (by omega)
  have a2 := and32 h3 (by omega)
  have hy : y % 4294967296 = y := by omega
  have hy2 : y / 4294967296 = 0 := by omega
  rw [hy] at a2
  generalize hx0 : x % 4294967296 = x0 at *
  generalize hx1 : x / 4294967296 = x1 at *
  have hb0 : 0 ≤ x0 ∧ x0 < 4294967296 := by omega
  have hb1 : 0 ≤ x1 ∧ x1 ≤ 232830 := by omega
  have p0 : 0 ≤ x0 * y ∧ x0 * y ≤ 42949672960000 := ⟨Int.mul_nonneg hb0.1 h3, by
    have := Int.mul_le_mul (show x0 ≤ 4294967296 by omega) h4 h3 (by omega); omega⟩
  have p1 : 0 ≤ x1 * y ∧ x1 * y ≤ 2328300000 := ⟨Int.mul_nonneg hb1.1 h3, by
    have := Int.mul_le_mul hb1.2 h4 h3 (by omega); omega⟩
  have p2 : 0 ≤ x * y ∧ x * y ≤ 10000000000000000000 := ⟨Int.mul_nonneg h1 h3, by
    have := Int.mul_le_mul h2 h4 h3 (by omega); omega⟩
  have w0 : IntKind.u64.wrap (x0 * y) = x0 * y := wrap_u p0.1 (by omega)
  have w1 : IntKind.u64.wrap (x1 * y) = x1 * y := wrap_u p1.1 (by omega)
  have w2 : IntKind.u64.wrap (x * y) = x * y := wrap_u p2.1 (by omega)
  generalize hq : x0 * y / 4294967296 = q at *
  have hq2 : 0 ≤ q ∧ q ≤ 10000 := by omega
  have w3 : IntKind.u64.wrap (x1 * y + q) = x1 * y + q := wrap_u (by omega) (by omega)
  have a3 := and32 (a := x1 * y + q) (by omega) (by omega)
  have hm : (x1 * y + q) % 4294967296 = x1 * y + q := by omega
  have hd : (x1 * y + q) / 4294967296 = 0 := by omega
  rw [hm] at a3
  have z1 : IntKind.u64.wrap (x0 * 0) = 0 := by rw [Int.mul_zero]; decide
  have z2 : IntKind.u64.wrap (x1 * 0) = 0 := by rw [Int.mul_zero]; decide
  have z3 : IntKind.u64.wrap (0 + 0) = 0 := by decide
  have z4 : IntKind.u64.wrap (x1 * y + q + 0) = x1 * y + q := by rw [Int.add_zero]; exact w3
  refine fun_W mixed Try.func117 rfl (Nat.le_of_ble_eq_true rfl) (by kernel_rfl) fun cx hN hR hF hL => ?_; apply args_k; (case hA => (simp only [go_sem, ↓reduceIte]; rfl))
  (repeat' (first | (with_reducible exact trivial) | ((with_reducible apply byE); simp only [go_sem, ↓reduceIte, sh, hx1, hy2, w2]; try with_reducible rfl) | (with_reducible first | apply Aa | apply As | apply Au | apply Av | apply Aj | apply At | apply Aw | apply Ab | apply Ac | apply Ad | apply Ae | apply Af | apply Ag | apply Ah | apply Ai | apply Ak | apply Al) | ((with_reducible first | apply An | apply Ao); (case hs => rfl)) | (with_reducible first | apply Am | apply Ap | apply Aq | apply Ar | apply Ax | apply Ay | apply Az | apply Ba | apply Bb | apply Bc | apply Bd | apply Be | apply Ca | apply Cb | apply Cc | apply Cd | apply Ce | apply Cf | apply Cg | apply Ch | apply Ci | apply Bf | apply Cj | apply Ck | apply Cl | apply Cm | apply Cn | apply Co | apply Cp) | ((with_reducible apply byR); rfl) | ((with_reducible first | apply byKt | apply byKs); kernel_rfl) | ((with_reducible apply byL); simp only [econs, List.map_cons, List.map_nil, List.cons_append, List.nil_append, OpS.nm, OpS.reads, OpS.turns, Nat.reduceAdd]; try rfl) | ((with_reducible apply byG); intro hg; try simp only [hg]) | ((with_reducible apply byQ); intro hq; try simp only [hqs] at hq; try (exfalso; omega)) | ((with_reducible apply byI); intro K hK) | ((with_reducible apply byH); repeat (first | (with_reducible exact dst_z rfl) | (with_reducible apply dst_s))) | ((with_reducible apply byN); unfold NapOK; kernel_rfl) | ((with_reducible apply byD); first | (simp; done) | (simp [go_sem]; done)) | (with_reducible refine hK _ _ ?_; clear hK; clear K) | omega | contradiction))
  show IntKind.u64.wrap (IntKind.u64.wrap (IntKind.u64.wrap (x1 * 0) + IntKind.u64.wrap (IntKind.u64.wrap (x1 * m32 y) + IntKind.u64.wrap (m32 x * m32 y) / 4294967296) / 4294967296) + IntKind.u64.wrap (m32 (IntKind.u64.wrap (IntKind.u64.wrap (x1 * m32 y) + IntKind.u64.wrap (m32 x * m32 y) / 4294967296)) + IntKind.u64.wrap (m32 x * 0)) / 4294967296) = 0
  rw [a1, a2, w0, w1, hq, w3, hd, a3, z1, z2, z3, z4, hd]
  decide

theorem div64_f (lo d : Int) (h1 : 0 ≤ lo) (h2 : lo ≤ 18446744073709551615) (h3 : 0 < d) (h4 : d ≤ 10000) : Fun Try.prog 118 [.v (.int .u64 0), .v (.int .u64 lo), .v (.int .u64 d)] (.tup [.v (.int .u64 (lo / d)), .v (.int .u64 (lo % d))]) := by
  have hz : (d = 0) = False := eq_false (by omega)
  have hz2 : ¬ d = 0 := by omega
  have hle : (d ≤ 0) = False := eq_false (by omega)
  have q1 : lo.tdiv d = lo / d := Int.tdiv_eq_ediv_of_nonneg h1
  have q2 : lo.tmod d = lo % d := Int.tmod_eq_emod_of_nonneg h1
  have g1 : 0 ≤ lo / d := Int.ediv_nonneg h1 (by omega)
  have g2 : lo / d ≤ lo := Int.ediv_le_self _ h1
  have w : IntKind.u64.wrap (lo / d) = lo / d := wrap_u g1 (by omega)
  refine fun_W mixed Try.func118 rfl (Nat.le_of_ble_eq_true rfl) (by kernel_rfl) fun cx hN hR hF hL => ?_; apply args_k; (case hA => (simp only [go_sem, ↓reduceIte]; rfl))
  (repeat' (first | (with_reducible exact trivial) | ((with_reducible apply byE); simp only [go_sem, ↓reduceIte, hz, hle, decide_false, q1, q2, w]; try with_reducible rfl) | (with_reducible first | apply Aa | apply As | apply Au | apply Av | apply Aj | apply At | apply Aw | apply Ab | apply Ac | apply Ad | apply Ae | apply Af | apply Ag | apply Ah | apply Ai | apply Ak | apply Al) | ((with_reducible first | apply An | apply Ao); (case hs => rfl)) | (with_reducible first | apply Am | apply Ap | apply Aq | apply Ar | apply Ax | apply Ay | apply Az | apply Ba | apply Bb | apply Bc | apply Bd | apply Be | apply Ca | apply Cb | apply Cc | apply Cd | apply Ce | apply Cf | apply Cg | apply Ch | apply Ci | apply Bf | apply Cj | apply Ck | apply Cl | apply Cm | apply Cn | apply Co | apply Cp) | ((with_reducible apply byR); rfl) | ((with_reducible first | apply byKt | apply byKs); kernel_rfl) | ((with_reducible apply byL); simp only [econs, List.map_cons, List.map_nil, List.cons_append, List.nil_append, OpS.nm, OpS.reads, OpS.turns, Nat.reduceAdd]; try rfl) | ((with_reducible apply byG); intro hg; try simp only [hg]) | ((with_reducible apply byQ); intro hq; try simp only [hqs] at hq; try (exfalso; omega)) | ((with_reducible apply byI); intro K hK) | ((with_reducible apply byH); repeat (first | (with_reducible exact dst_z rfl) | (with_reducible apply dst_s))) | ((with_reducible apply byN); unfold NapOK; kernel_rfl) | ((with_reducible apply byD); first | (simp; done) | (simp [go_sem]; done)) | (with_reducible refine hK _ _ ?_; clear hK; clear K) | omega | contradiction))

theorem up_f (q r : Int) (h1 : 0 ≤ q) (h2 : 0 ≤ r) (h3 : r ≤ 10000) : Fun Try.prog 116 [.v (.int .u64 q), .v (.int .u64 r), .v (.int .u64 10000)] (bool (decide (r > 10000 - r) || (decide (r = 10000 - r) && decide (q % 2 = 1)))) := by
  have w : IntKind.u64.wrap (10000 - r) = 10000 - r := wrap_u (by omega) (by omega)
  have q2 : q.tmod 2 = q % 2 := Int.tmod_eq_emod_of_nonneg h1
  refine fun_W mixed Try.func116 rfl (Nat.le_of_ble_eq_true rfl) (by kernel_rfl) fun cx hN hR hF hL => ?_; apply args_k; (case hA => (simp only [go_sem, ↓reduceIte]; rfl))
  have rr : intBin .rem .u64 q 2 = some (.v (.int .u64 (q % 2))) := by rw [ib_rem _ _ _ (by decide), q2]
  (repeat' (first | (with_reducible exact trivial) | ((with_reducible apply byE); simp only [go_sem, ↓reduceIte, w, rr]; try with_reducible rfl) | (with_reducible first | apply Aa | apply As | apply Au | apply Av | apply Aj | apply At | apply Aw | apply Ab | apply Ac | apply Ad | apply Ae | apply Af | apply Ag | apply Ah | apply Ai | apply Ak | apply Al) | ((with_reducible first | apply An | apply Ao); (case hs => rfl)) | (with_reducible first | apply Am | apply Ap | apply Aq | apply Ar | apply Ax | apply Ay | apply Az | apply Ba | apply Bb | apply Bc | apply Bd | apply Be | apply Ca | apply Cb | apply Cc | apply Cd | apply Ce | apply Cf | apply Cg | apply Ch | apply Ci | apply Bf | apply Cj | apply Ck | apply Cl | apply Cm | apply Cn | apply Co | apply Cp) | ((with_reducible apply byR); rfl) | ((with_reducible first | apply byKt | apply byKs); kernel_rfl) | ((with_reducible apply byL); simp only [econs, List.map_cons, List.map_nil, List.cons_append, List.nil_append, OpS.nm, OpS.reads, OpS.turns, Nat.reduceAdd]; try rfl) | ((with_reducible apply byG); intro hg; try simp only [hg]) | ((with_reducible apply byQ); intro hq; try simp only [hqs] at hq; try (exfalso; omega)) | ((with_reducible apply byI); intro K hK) | ((with_reducible apply byH); repeat (first | (with_reducible exact dst_z rfl) | (with_reducible apply dst_s))) | ((with_reducible apply byN); unfold NapOK; kernel_rfl) | ((with_reducible apply byD); first | (simp; done) | (simp [go_sem]; done)) | (with_reducible refine hK _ _ ?_; clear hK; clear K) | omega | contradiction))
  all_goals exact fun h _ => h
theorem evenN_f : Fun Try.prog 103 [] (.agg [.v (.func (.func 116) #[] #[])]) := by
  refine fun_W mixed Try.func103 rfl (Nat.le_of_ble_eq_true rfl) (by kernel_rfl) fun cx hN hR hF hL => ?_; apply args_k; (case hA => (simp only [go_sem, ↓reduceIte]; rfl))
  (repeat' (first | (with_reducible exact trivial) | ((with_reducible apply byE); simp only [go_sem, ↓reduceIte]; try with_reducible rfl) | (with_reducible first | apply Aa | apply As | apply Au | apply Av | apply Aj | apply At | apply Aw | apply Ab | apply Ac | apply Ad | apply Ae | apply Af | apply Ag | apply Ah | apply Ai | apply Ak | apply Al) | ((with_reducible first | apply An | apply Ao); (case hs => rfl)) | (with_reducible first | apply Am | apply Ap | apply Aq | apply Ar | apply Ax | apply Ay | apply Az | apply Ba | apply Bb | apply Bc | apply Bd | apply Be | apply Ca | apply Cb | apply Cc | apply Cd | apply Ce | apply Cf | apply Cg | apply Ch | apply Ci | apply Bf | apply Cj | apply Ck | apply Cl | apply Cm | apply Cn | apply Co | apply Cp) | ((with_reducible apply byR); rfl) | ((with_reducible first | apply byKt | apply byKs); kernel_rfl) | ((with_reducible apply byL); simp only [econs, List.map_cons, List.map_nil, List.cons_append, List.nil_append, OpS.nm, OpS.reads, OpS.turns, Nat.reduceAdd]; try rfl) | ((with_reducible apply byG); intro hg; try simp only [hg]) | ((with_reducible apply byQ); intro hq; try simp only [hqs] at hq; try (exfalso; omega)) | ((with_reducible apply byI); intro K hK) | ((with_reducible apply byH); repeat (first | (with_reducible exact dst_z rfl) | (with_reducible apply dst_s))) | ((with_reducible apply byN); unfold NapOK; kernel_rfl) | ((with_reducible apply byD); first | (simp; done) | (simp [go_sem]; done)) | (with_reducible refine hK _ _ ?_; clear hK; clear K) | omega | contradiction))

set_option maxHeartbeats 4000000 in
theorem of_f (m bp : Int) (h1 : 0 ≤ m) (h2 : m ≤ 1000000000000000) (h3 : 1 ≤ bp) (h4 : bp ≤ 10000) : Fun Try.prog 104 [.agg [.v (.func (.func 116) #[] #[])], int m, int bp, int 10000] (.tup [int (bpE m bp), int 0]) := by
  have c3 : IntKind.u64.wrap 10000 = 10000 := by decide
  have p2 : 0 ≤ m * bp ∧ m * bp ≤ 10000000000000000000 := ⟨Int.mul_nonneg h1 (by omega), by
    have := Int.mul_le_mul h2 h4 (by omega) (by omega); omega⟩
  have g1 : (m < 0) = False := eq_false (by omega)
  have g2 : (bp < 0) = False := eq_false (by omega)
  have c1 : IntKind.u64.wrap m = m := wrap_u (by omega) (by omega)
  have c2 : IntKind.u64.wrap bp = bp := wrap_u (by omega) (by omega)
  have k1 := mul64_f m bp h1 h2 (by omega) h4
  have k2 := div64_f (m * bp) 10000 p2.1 (by omega) (by omega) (by omega)
  have hbd := bpE_bd h1 h3 h4
  unfold bpE at *
  simp only at *
  generalize m * bp = x at *
  have k3 := up_f (x / 10000) (x % 10000) (by omega) (by omega) (by omega)
  have hq : (x / 10000 > 4000000000000000000) = False := eq_false (by omega)
  have w1 : IntKind.u64.wrap (x / 10000 + 1) = x / 10000 + 1 := wrap_u (by omega) (by omega)
  have w2 : IntKind.i64.wrap (x / 10000) = x / 10000 := wrap_id (by omega) (by omega)
  have w3 : IntKind.i64.wrap (x / 10000 + 1) = x / 10000 + 1 := wrap_id (by omega) (by omega)
  have hq1 : (x / 10000 + 1 > 4000000000000000000) = False := eq_false (by omega)
  by_cases hc : x % 10000 > 10000 - x % 10000 ∨ x % 10000 = 10000 - x % 10000 ∧ x / 10000 % 2 = 1
  · have hd : (decide (x % 10000 > 10000 - x % 10000) || (decide (x % 10000 = 10000 - x % 10000) && decide (x / 10000 % 2 = 1))) = true := by simpa using hc
    rw [hd] at k3
    rw [if_pos hc]
    refine fun_W mixed Try.func104 rfl (Nat.le_of_ble_eq_true rfl) (by kernel_rfl) fun cx hN hR hF hL => ?_; apply args_k; (case hA => (simp only [go_sem, ↓reduceIte]; rfl))
    (repeat' (first | (with_reducible exact trivial) | ((with_reducible apply byE); simp only [go_sem, ↓reduceIte, g1, g2, c1, c2, c3, hq, w1, w2, w3, hq1, Int.reduceEq, Int.reduceLT, decide_false]; try with_reducible rfl) | (with_reducible first | apply Aa | apply As | apply Au | apply Av | apply Aj | apply At | apply Aw | apply Ab | apply Ac | apply Ad | apply Ae | apply Af | apply Ag | apply Ah | apply Ai | apply Ak | apply Al) | ((with_reducible first | apply An | apply Ao); (case hs => rfl)) | (with_reducible first | apply Am | apply Ap | apply Aq | apply Ar | apply Ax | apply Ay | apply Az | apply Ba | apply Bb | apply Bc | apply Bd | apply Be | apply Ca | apply Cb | apply Cc | apply Cd | apply Ce | apply Cf | apply Cg | apply Ch | apply Ci | apply Bf | apply Cj | apply Ck | apply Cl | apply Cm | apply Cn | apply Co | apply Cp) | ((with_reducible apply byR); rfl) | ((with_reducible first | apply byKt | apply byKs); kernel_rfl) | ((with_reducible apply byL); simp only [econs, List.map_cons, List.map_nil, List.cons_append, List.nil_append, OpS.nm, OpS.reads, OpS.turns, Nat.reduceAdd]; try rfl) | ((with_reducible apply byG); intro hg; try simp only [hg]) | ((with_reducible apply byQ); intro hq; try simp only [hqs] at hq; try (exfalso; omega)) | ((with_reducible apply byI); intro K hK) | ((with_reducible apply byH); repeat (first | (with_reducible exact dst_z rfl) | (with_reducible apply dst_s))) | ((with_reducible apply byN); unfold NapOK; kernel_rfl) | ((with_reducible apply byD); first | (simp; done) | (simp [go_sem]; done)) | (with_reducible refine hK _ _ ?_; clear hK; clear K) | omega | ((with_reducible apply callX cl117 (k1)); (case hl => rfl)) | ((with_reducible apply callX cl118 (k2)); (case hl => rfl)) | ((with_reducible apply callX cl116 (k3)); (case hl => rfl)) | contradiction))
  · have hd : (decide (x % 10000 > 10000 - x % 10000) || (decide (x % 10000 = 10000 - x % 10000) && decide (x / 10000 % 2 = 1))) = false := by
      rw [Bool.eq_false_iff]; simpa using hc
    rw [hd] at k3
    rw [if_neg hc]
    refine fun_W mixed Try.func104 rfl (Nat.le_of_ble_eq_true rfl) (by kernel_rfl) fun cx hN hR hF hL => ?_; apply args_k; (case hA => (simp only [go_sem, ↓reduceIte]; rfl))
    (repeat' (first | (with_reducible exact trivial) | ((with_reducible apply byE); simp only [go_sem, ↓reduceIte, g1, g2, c1, c2, c3, hq, w1, w2, w3, hq1, Int.reduceEq, Int.reduceLT, decide_false]; try with_reducible rfl) | (with_reducible first | apply Aa | apply As | apply Au | apply Av | apply Aj | apply At | apply Aw | apply Ab | apply Ac | apply Ad | apply Ae | apply Af | apply Ag | apply Ah | apply Ai | apply Ak | apply Al) | ((with_reducible first | apply An | apply Ao); (case hs => rfl)) | (with_reducible first | apply Am | apply Ap | apply Aq | apply Ar | apply Ax | apply Ay | apply Az | apply Ba | apply Bb | apply Bc | apply Bd | apply Be | apply Ca | apply Cb | apply Cc | apply Cd | apply Ce | apply Cf | apply Cg | apply Ch | apply Ci | apply Bf | apply Cj | apply Ck | apply Cl | apply Cm | apply Cn | apply Co | apply Cp) | ((with_reducible apply byR); rfl) | ((with_reducible first | apply byKt | apply byKs); kernel_rfl) | ((with_reducible apply byL); simp only [econs, List.map_cons, List.map_nil, List.cons_append, List.nil_append, OpS.nm, OpS.reads, OpS.turns, Nat.reduceAdd]; try rfl) | ((with_reducible apply byG); intro hg; try simp only [hg]) | ((with_reducible apply byQ); intro hq; try simp only [hqs] at hq; try (exfalso; omega)) | ((with_reducible apply byI); intro K hK) | ((with_reducible apply byH); repeat (first | (with_reducible exact dst_z rfl) | (with_reducible apply dst_s))) | ((with_reducible apply byN); unfold NapOK; kernel_rfl) | ((with_reducible apply byD); first | (simp; done) | (simp [go_sem]; done)) | (with_reducible refine hK _ _ ?_; clear hK; clear K) | omega | ((with_reducible apply callX cl117 (k1)); (case hl => rfl)) | ((with_reducible apply callX cl118 (k2)); (case hl => rfl)) | ((with_reducible apply callX cl116 (k3)); (case hl => rfl)) | contradiction))
theorem bp_f (m bp : Int) (h1 : 0 ≤ m) (h2 : m ≤ 1000000000000000) (h3 : 1 ≤ bp) (h4 : bp ≤ 10000) : Fun Try.prog 84 [int m, int bp] (.tup [int (bpE m bp), int 0]) := by
  have k : Fun Try.prog 98 [int m, int bp, int 10000] (.tup [int (bpE m bp), int 0]) := by
    refine fun_W mixed Try.func98 rfl (Nat.le_of_ble_eq_true rfl) (by kernel_rfl) fun cx hN hR hF hL => ?_; apply args_k; (case hA => (simp only [go_sem, ↓reduceIte]; rfl))
    (repeat' (first | (with_reducible exact trivial) | ((with_reducible apply byE); simp only [go_sem, ↓reduceIte]; try with_reducible rfl) | (with_reducible first | apply Aa | apply As | apply Au | apply Av | apply Aj | apply At | apply Aw | apply Ab | apply Ac | apply Ad | apply Ae | apply Af | apply Ag | apply Ah | apply Ai | apply Ak | apply Al) | ((with_reducible first | apply An | apply Ao); (case hs => rfl)) | (with_reducible first | apply Am | apply Ap | apply Aq | apply Ar | apply Ax | apply Ay | apply Az | apply Ba | apply Bb | apply Bc | apply Bd | apply Be | apply Ca | apply Cb | apply Cc | apply Cd | apply Ce | apply Cf | apply Cg | apply Ch | apply Ci | apply Bf | apply Cj | apply Ck | apply Cl | apply Cm | apply Cn | apply Co | apply Cp) | ((with_reducible apply byR); rfl) | ((with_reducible first | apply byKt | apply byKs); kernel_rfl) | ((with_reducible apply byL); simp only [econs, List.map_cons, List.map_nil, List.cons_append, List.nil_append, OpS.nm, OpS.reads, OpS.turns, Nat.reduceAdd]; try rfl) | ((with_reducible apply byG); intro hg; try simp only [hg]) | ((with_reducible apply byQ); intro hq; try simp only [hqs] at hq; try (exfalso; omega)) | ((with_reducible apply byI); intro K hK) | ((with_reducible apply byH); repeat (first | (with_reducible exact dst_z rfl) | (with_reducible apply dst_s))) | ((with_reducible apply byN); unfold NapOK; kernel_rfl) | ((with_reducible apply byD); first | (simp; done) | (simp [go_sem]; done)) | (with_reducible refine hK _ _ ?_; clear hK; clear K) | omega | ((with_reducible apply callX cl103 (evenN_f)); (case hl => rfl)) | ((with_reducible apply callX cl104 (of_f m bp h1 h2 h3 h4)); (case hl => rfl)) | contradiction))
  refine fun_W mixed Try.func84 rfl (Nat.le_of_ble_eq_true rfl) (by kernel_rfl) fun cx hN hR hF hL => ?_; apply args_k; (case hA => (simp only [go_sem, ↓reduceIte]; rfl))
  (repeat' (first | (with_reducible exact trivial) | ((with_reducible apply byE); simp only [go_sem, ↓reduceIte]; try with_reducible rfl) | (with_reducible first | apply Aa | apply As | apply Au | apply Av | apply Aj | apply At | apply Aw | apply Ab | apply Ac | apply Ad | apply Ae | apply Af | apply Ag | apply Ah | apply Ai | apply Ak | apply Al) | ((with_reducible first | apply An | apply Ao); (case hs => rfl)) | (with_reducible first | apply Am | apply Ap | apply Aq | apply Ar | apply Ax | apply Ay | apply Az | apply Ba | apply Bb | apply Bc | apply Bd | apply Be | apply Ca | apply Cb | apply Cc | apply Cd | apply Ce | apply Cf | apply Cg | apply Ch | apply Ci | apply Bf | apply Cj | apply Ck | apply Cl | apply Cm | apply Cn | apply Co | apply Cp) | ((with_reducible apply byR); rfl) | ((with_reducible first | apply byKt | apply byKs); kernel_rfl) | ((with_reducible apply byL); simp only [econs, List.map_cons, List.map_nil, List.cons_append, List.nil_append, OpS.nm, OpS.reads, OpS.turns, Nat.reduceAdd]; try rfl) | ((with_reducible apply byG); intro hg; try simp only [hg]) | ((with_reducible apply byQ); intro hq; try simp only [hqs] at hq; try (exfalso; omega)) | ((with_reducible apply byI); intro K hK) | ((with_reducible apply byH); repeat (first | (with_reducible exact dst_z rfl) | (with_reducible apply dst_s))) | ((with_reducible apply byN); unfold NapOK; kernel_rfl) | ((with_reducible apply byD); first | (simp; done) | (simp [go_sem]; done)) | (with_reducible refine hK _ _ ?_; clear hK; clear K) | omega | ((with_reducible apply callX cl98 (k)); (case hl => rfl)) | contradiction))
end Go.Proofs.Ytjplhfmakghabaa.V
