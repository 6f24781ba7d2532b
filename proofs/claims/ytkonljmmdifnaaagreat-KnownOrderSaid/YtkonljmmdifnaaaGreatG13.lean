/- Contracts: math/bits: Len64, LeadingZeros64, Mul64, Div64 at any numbers; num.Bp. Contracts: quotes (chapter 9). Contracts: a year (chapter 9). Contracts: the reference's products and quotients (chapter 1). Contracts: versions of their own (chapter 7), the reference's quotes (chapter 9). Contracts: the reference's quotes (chapter 9). The reference's Year (chapter 9). -/
import Derived.Test.YtkonljmmdifnaaaGreatG7
import Derived.Test.YtkonljmmdifnaaaGreatG6
import Derived.Shelf.Strconv.Itoa0
import Derived.Laws.MathBits
import Derived.Lib.ItoaNum
import Derived.Test.YtkonljmmdifnaaaGreatG12
set_option linter.unusedSimpArgs false
set_option linter.unusedVariables false
namespace Go.Proofs
open Go.Shelf
def Tryz.len64_ren : Go.Shelf.Ren := ⟨fun | 129 => 106 | n => n, fun | 3 => 3 | 4 => 4 | 5 => 5 | 9 => 9 | 46 => 111 | 53 => 143 | n => n, fun | n => n⟩
theorem Tryz.len64 : Lays.n129 Tryz.prog Tryz.len64_ren := {
  mixed := by kernel_rfl
  f129 := Tryz.func106.trans (congrArg some (by kernel_rfl))
  t3 := Tryz.underlying3
  a3 := Tryz.isAgg3
  z3 := Tryz.sizeOf3
  v3 := Tryz.zeroValue3
  t4 := Tryz.underlying4
  a4 := Tryz.isAgg4
  z4 := Tryz.sizeOf4
  v4 := Tryz.zeroValue4
  t5 := Tryz.underlying5
  a5 := Tryz.isAgg5
  z5 := Tryz.sizeOf5
  v5 := Tryz.zeroValue5
  t9 := Tryz.underlying9
  a9 := Tryz.isAgg9
  z9 := Tryz.sizeOf9
  v9 := Tryz.zeroValue9
  t46 := Tryz.underlying111
  a46 := Tryz.isAgg111
  z46 := Tryz.sizeOf111
  v46 := Tryz.zeroValue111
  t53 := Tryz.underlying143
  a53 := Tryz.isAgg143
  z53 := Tryz.sizeOf143
  v53 := Tryz.zeroValue143 }
end Go.Proofs
namespace Go.Proofs.YtkonljmmdifnaaaGreat.V
open Go.RowKit
set_option maxRecDepth 100000
attribute [local go_sem] Option.toList_some Option.toList_none

abbrev u64 (n : Int) : AV := .v (.int .u64 n)
theorem wrapU {n : Int} (h1 : 0 ≤ n) (h2 : n ≤ 18446744073709551615) : IntKind.u64.wrap n = n := by
  rw [IntKind.wrap_u64]; omega
theorem len64_f (x : Int) (h0 : 0 ≤ x) (h1 : x ≤ 18446744073709551615) : Fun Tryz.prog 106 [u64 x] (int (Lib.bitLen x.toNat)) := by
  intro M w vs hM hsz hv
  obtain ⟨v, rfl⟩ : ∃ v, vs = #[v] := by
    rcases vs with ⟨_ | ⟨v, _ | ⟨u, l⟩⟩⟩
    · simp at hsz
    · exact ⟨v, rfl⟩
    · simp at hsz
  have h := hv 0 v (u64 x) rfl rfl
  obtain rfl : v = .int .u64 x := by cases h; rfl
  refine (Any.bits_Len64 Tryz.len64 x w h0 h1).mono ?_
  rintro e w' ⟨rfl, rfl⟩
  exact ⟨_, rfl, .v _, Below.refl _ _⟩
theorem lz64_f (x : Int) (h0 : 0 < x) (h1 : x ≤ 18446744073709551615) : ∃ s : Nat, s ≤ 63 ∧ 9223372036854775808 ≤ x * 2 ^ s ∧ x * 2 ^ s < 18446744073709551616 ∧ Fun Tryz.prog 177 [u64 x] (int s) := by
  have k := len64_f x (by omega) h1
  obtain ⟨b1, b2, b3⟩ := Lib.bitLenAux_bounds 64 x.toNat (by omega) (by omega)
  have hb : Lib.bitLen x.toNat ≤ 64 := Lib.bitLen_le _ 64 (Nat.le_refl _) (by omega)
  have e : Lib.bitLen x.toNat = Lib.bitLenAux 64 x.toNat := rfl
  rw [← e] at b1 b2 b3
  generalize Lib.bitLen x.toNat = L at *
  have w : IntKind.i64.wrap (64 - (L : Int)) = ((64 - L : Nat) : Int) := by rw [wrap_id (by omega) (by omega)]; omega
  refine ⟨64 - L, by omega, ?_, ?_, ?_⟩
  · have e1 : (2 : Nat) ^ (L - 1) * 2 ^ (64 - L) = 9223372036854775808 := by rw [← Nat.pow_add, show L - 1 + (64 - L) = 63 by omega]
    have e2 := Nat.mul_le_mul_right (2 ^ (64 - L)) b2
    rw [e1] at e2
    have e3 : x * 2 ^ (64 - L) = ((x.toNat * 2 ^ (64 - L) : Nat) : Int) := by rw [Int.natCast_mul, Int.toNat_of_nonneg (by omega)]; simp
    rw [e3]
    omega
  · have e1 : (2 : Nat) ^ L * 2 ^ (64 - L) = 18446744073709551616 := by rw [← Nat.pow_add, show L + (64 - L) = 64 by omega]
    have e2 := Nat.mul_lt_mul_of_pos_right b3 (Nat.two_pow_pos (64 - L))
    rw [e1] at e2
    have e3 : x * 2 ^ (64 - L) = ((x.toNat * 2 ^ (64 - L) : Nat) : Int) := by rw [Int.natCast_mul, Int.toNat_of_nonneg (by omega)]; simp
    rw [e3]
    omega
  · refine fun_W mixed Tryz.func177 rfl (Nat.le_of_ble_eq_true rfl) (by kernel_rfl) fun cx hN hR hF hL => ?_; apply args_k; (case hA => (simp only [go_sem, ↓reduceIte]; rfl))
    (repeat' first|((try (revert K;refine bK ?_));refine' run w ?_;(repeat' first|exact True.intro|refine Lv.mk ?_ ?_|(refine oK ?_;intro K hK)|intro hq);all_goals refine Lf.mk ?_)|refine callZ cl106 (k) ?_)

/-! ### One digit -/
theorem dig_bd {A b Y : Int} (hA : 0 ≤ A) (hAY : A < Y) (hb : 0 ≤ b) (hb2 : b < 4294967296) : 0 ≤ (A * 4294967296 + b) / Y ∧ (A * 4294967296 + b) / Y < 4294967296 := by
  refine ⟨Int.ediv_nonneg (by omega) (by omega), ?_⟩
  rw [Int.ediv_lt_iff_lt_mul (by omega)]
  omega
theorem dig_le {A b Y q : Int} (hY : 0 < Y) (h : q * Y ≤ A * 4294967296 + b) : q ≤ (A * 4294967296 + b) / Y := by
  rwa [Int.le_ediv_iff_mul_le hY]
theorem dig_gt {A b Y q : Int} (hY : 0 < Y) (h : A * 4294967296 + b < q * Y) : (A * 4294967296 + b) / Y < q := by
  rwa [Int.ediv_lt_iff_lt_mul hY]
theorem mul_split (q y1 y0 : Int) : q * (y1 * 4294967296 + y0) = q * y1 * 4294967296 + q * y0 := by grind
theorem dig_first {A b Y y1 y0 : Int} (hYe : Y = y1 * 4294967296 + y0) (h1 : 0 < y1) (h0 : 0 ≤ y0) (hA : 0 ≤ A) (hb : 0 ≤ b) (hb2 : b < 4294967296) : (A * 4294967296 + b) / Y ≤ A / y1 := by
  have hY : 0 < Y := by omega
  rw [Int.le_ediv_iff_mul_le h1]
  have h := Int.ediv_mul_le (A * 4294967296 + b) (show Y ≠ 0 by omega)
  have hn : 0 ≤ (A * 4294967296 + b) / Y := Int.ediv_nonneg (by omega) (by omega)
  generalize (A * 4294967296 + b) / Y = q at *
  rw [hYe, mul_split] at h
  have := Int.mul_nonneg hn h0
  omega
theorem dig_no {A b Y y1 y0 q r : Int} (hYe : Y = y1 * 4294967296 + y0) (h1 : 0 < y1) (h0 : 0 ≤ y0) (hr : q * y1 + r = A) (h : q * y0 ≤ 4294967296 * r + b) : q ≤ (A * 4294967296 + b) / Y := by
  refine dig_le (by omega) ?_
  rw [hYe, mul_split]
  omega
theorem dig_yes {A b Y y1 y0 q r : Int} (hYe : Y = y1 * 4294967296 + y0) (h1 : 0 < y1) (h0 : 0 ≤ y0) (hr : q * y1 + r = A) (h : 4294967296 * r + b < q * y0) : (A * 4294967296 + b) / Y < q := by
  refine dig_gt (by omega) ?_
  rw [hYe, mul_split]
  omega
theorem dig_break {A b Y y1 y0 q r : Int} (hYe : Y = y1 * 4294967296 + y0) (h1 : 0 < y1) (h0 : 0 ≤ y0) (h02 : y0 < 4294967296) (hb : 0 ≤ b) (hAY : A < Y) (hr : q * y1 + r = A) (hq0 : 0 ≤ q) (h : 4294967296 ≤ r) : q ≤ (A * 4294967296 + b) / Y := by
  have hq : q < 4294967296 := by
    by_cases hq : q < 4294967296
    · exact hq
    · have := Int.mul_le_mul_of_nonneg_right (show 4294967296 ≤ q by omega) (show 0 ≤ y1 by omega)
      omega
  refine dig_le (by omega) ?_
  rw [hYe, mul_split]
  have p1 := Int.mul_le_mul_of_nonneg_right (show q ≤ 4294967296 by omega) h0
  omega

/-! ### Products -/
def m32 (a : Int) : Int := IntKind.u64.wrap (((BitVec.ofInt 64 a &&& BitVec.ofInt 64 4294967295).toNat : Nat) : Int)
theorem and32 {a : Int} (h1 : 0 ≤ a) (h2 : a < 18446744073709551616) : m32 a = a % 4294967296 := by
  unfold m32
  obtain ⟨n, rfl⟩ : ∃ n : Nat, a = n := ⟨a.toNat, by omega⟩
  have e : (BitVec.ofInt 64 (n : Int) &&& BitVec.ofInt 64 4294967295).toNat = n % 4294967296 := by
    rw [BitVec.toNat_and]
    have h3 : (BitVec.ofInt 64 (n : Int)).toNat = n := by
      rw [BitVec.toNat_ofInt]
      omega
    have h4 : (BitVec.ofInt 64 4294967295).toNat = 2 ^ 32 - 1 := by decide
    rw [h3, h4, Nat.and_two_pow_sub_one_eq_mod]
  rw [e, wrapU (by omega) (by omega)]
  omega
theorem shr32 (k : IntKind) (hk : k = .u64) (a : Int) : intBin .shr k a 32 = some (.v (.int k (a / 4294967296))) := by
  subst hk
  rw [ib_shr _ _ _ (by decide)]
  have : (2 : Int) ^ min (32 : Int).toNat IntKind.u64.bits = 4294967296 := by decide
  rw [this, Int.fdiv_eq_ediv_of_nonneg _ (by decide)]
theorem wrap_bd (n : Int) : 0 ≤ IntKind.u64.wrap n ∧ IntKind.u64.wrap n < 18446744073709551616 := by rw [IntKind.wrap_u64]; omega
set_option maxHeartbeats 4000000 in
theorem mulG_f (x y : Int) (h1 : 0 ≤ x) (h2 : x < 18446744073709551616) (h3 : 0 ≤ y) (h4 : y < 18446744073709551616) : Fun Tryz.prog 174 [u64 x, u64 y] (.tup [u64 (x * y / 18446744073709551616), u64 (x * y % 18446744073709551616)]) := by
  have sh := fun a => shr32 .u64 rfl a
  have a1 := and32 h1 h2
  have a2 := and32 h3 h4
  have ma := mul64_arith x y h1 h2 h3 h4
  refine fun_W mixed Tryz.func174 rfl (Nat.le_of_ble_eq_true rfl) (by kernel_rfl) fun cx hN hR hF hL => ?_; apply args_k; (case hA => (simp only [go_sem, ↓reduceIte]; rfl))
  (try ((try (revert K;refine bK ?_));refine' run sh ?_;(repeat' first|exact True.intro|refine Lv.mk ?_ ?_|(refine oK ?_;intro K hK)|intro hq);all_goals refine Lf.mk ?_))
  show IntKind.u64.wrap (IntKind.u64.wrap (IntKind.u64.wrap (x / 4294967296 * (y / 4294967296)) + IntKind.u64.wrap (IntKind.u64.wrap (x / 4294967296 * m32 y) + IntKind.u64.wrap (m32 x * m32 y) / 4294967296) / 4294967296) + IntKind.u64.wrap (m32 (IntKind.u64.wrap (IntKind.u64.wrap (x / 4294967296 * m32 y) + IntKind.u64.wrap (m32 x * m32 y) / 4294967296)) + IntKind.u64.wrap (m32 x * (y / 4294967296))) / 4294967296) = x * y / 18446744073709551616 ∧ IntKind.u64.wrap (x * y) = x * y % 18446744073709551616
  rw [a1, a2]
  rw [and32 (wrap_bd _).1 (wrap_bd _).2]
  simp only [IntKind.wrap_u64]
  exact ⟨ma, trivial⟩

/-! ### Quotients -/
theorem or_hi {a : Int} {s : Nat} {L : Int} (hs : s ≤ 63) (ha : 0 ≤ a) (hL : 0 ≤ L) (hL2 : L < 2 ^ s) (hm : a * 2 ^ s + L < 18446744073709551616) : intBin .or .u64 (a * 2 ^ s) L = some (u64 (a * 2 ^ s + L)) := by
  obtain ⟨n, rfl⟩ : ∃ n : Nat, a = n := ⟨a.toNat, by omega⟩
  obtain ⟨l, rfl⟩ : ∃ l : Nat, L = l := ⟨L.toNat, by omega⟩
  have e0 : (n : Int) * 2 ^ s = ((n * 2 ^ s : Nat) : Int) := by simp
  have l0 : l < 2 ^ s := by
    have : ((l : Nat) : Int) < ((2 ^ s : Nat) : Int) := by simpa using hL2
    omega
  rw [e0] at hm ⊢
  have hn : n * 2 ^ s + l < 18446744073709551616 := by omega
  have b1 : (BitVec.ofInt 64 ((n * 2 ^ s : Nat) : Int)).toNat = n * 2 ^ s := by rw [BitVec.toNat_ofInt]; omega
  have b2 : (BitVec.ofInt 64 (l : Int)).toNat = l := by rw [BitVec.toNat_ofInt]; omega
  have e : (BitVec.ofInt 64 ((n * 2 ^ s : Nat) : Int) ||| BitVec.ofInt 64 (l : Int)).toNat = n * 2 ^ s + l := by
    rw [BitVec.toNat_or, b1, b2, Nat.mul_comm, Nat.two_pow_add_eq_or_of_lt l0]
  have : intBin .or .u64 ((n * 2 ^ s : Nat) : Int) (l : Int) = some (u64 (IntKind.u64.wrap ((BitVec.ofInt 64 ((n * 2 ^ s : Nat) : Int) ||| BitVec.ofInt 64 (l : Int)).toNat : Nat))) := rfl
  rw [this, e, wrapU (by omega) (by omega)]
  congr 3
theorem shl_s {s : Nat} (hs : s ≤ 63) (a : Int) : intBin .shl .u64 a (s : Int) = some (u64 (IntKind.u64.wrap (a * 2 ^ s))) := by
  have : intBin .shl .u64 a (s : Int) = some (u64 (IntKind.u64.wrap (a * 2 ^ min ((s : Int)).toNat 64))) := by
    unfold intBin
    simp only
    rw [if_neg (by omega)]
    rfl
  rw [this, Int.toNat_natCast, Nat.min_eq_left (by omega)]
theorem shr_s {s : Nat} (hs : s ≤ 64) (a : Int) : intBin .shr .u64 a (s : Int) = some (u64 (a / 2 ^ s)) := by
  rw [ib_shr _ _ _ (by omega), Int.toNat_natCast, show IntKind.u64.bits = 64 from rfl, Nat.min_eq_left (by omega)]
  rw [Int.fdiv_eq_ediv_of_nonneg _ (Int.pow_nonneg (by decide))]
/-- The reckoning: two digits make the quotient. -/
theorem two_digits {N P y Y A u1 u0 R : Int} (hy : 0 < y) (hP : 0 < P) (hY : Y = y * P) (hN : N * P = (A * 4294967296 + u1) * 4294967296 + u0) (hR : R = (A * 4294967296 + u1) % Y) :
    (A * 4294967296 + u1) / Y * 4294967296 + (R * 4294967296 + u0) / Y = N / y ∧ (R * 4294967296 + u0) % Y / P = N % y := by
  have hYp : 0 < Y := by rw [hY]; exact Int.mul_pos hy hP
  have d1 := Int.mul_ediv_add_emod (A * 4294967296 + u1) Y
  have d2 := Int.mul_ediv_add_emod (R * 4294967296 + u0) Y
  have m2 := Int.emod_nonneg (R * 4294967296 + u0) (show Y ≠ 0 by omega)
  have m3 := Int.emod_lt_of_pos (R * 4294967296 + u0) hYp
  rw [← hR] at d1
  generalize (A * 4294967296 + u1) / Y = Q1 at *
  generalize (R * 4294967296 + u0) / Y = Q0 at *
  generalize (R * 4294967296 + u0) % Y = R0 at *
  have e : N * P = (Q1 * 4294967296 + Q0) * y * P + R0 := by
    rw [hN, ← d1]
    subst hY
    grind
  have e2 : R0 = (N - (Q1 * 4294967296 + Q0) * y) * P := by rw [Int.sub_mul]; omega
  have e3 : R0 / P = N - (Q1 * 4294967296 + Q0) * y := by rw [e2]; exact Int.mul_ediv_cancel _ (by omega)
  rw [e3]
  have b1 : 0 ≤ N - (Q1 * 4294967296 + Q0) * y := by rw [← e3]; exact Int.ediv_nonneg m2 (by omega)
  have b2 : N - (Q1 * 4294967296 + Q0) * y < y := by
    rw [← e3, Int.ediv_lt_iff_lt_mul hP, ← hY]; exact m3
  generalize hQ : Q1 * 4294967296 + Q0 = Q at *
  have h1 : N / y = Q := by
    have : N = (N - Q * y) + Q * y := by omega
    rw [this, Int.add_mul_ediv_right _ _ (by omega), Int.ediv_eq_zero_of_lt b1 b2]
    omega
  refine ⟨h1.symm, ?_⟩
  have := Int.mul_ediv_add_emod N y
  rw [h1, Int.mul_comm] at this
  omega
theorem dig_rem {a b c R : Int} (h : a + b - c = R) (h0 : 0 ≤ R) (h1 : R < 18446744073709551616) : IntKind.u64.wrap (IntKind.u64.wrap (IntKind.u64.wrap a + b) - IntKind.u64.wrap c) = R := by
  simp only [IntKind.wrap_u64]
  omega
attribute [local go_sem] decide_false in
set_option maxHeartbeats 8000000 in
theorem divG_f (hi lo y : Int) (h1 : 0 < hi) (h2 : hi < y) (h3 : y < 18446744073709551616) (h4 : 0 ≤ lo) (h5 : lo < 18446744073709551616) : Fun Tryz.prog 175 [u64 hi, u64 lo, u64 y] (.tup [u64 ((hi * 18446744073709551616 + lo) / y), u64 ((hi * 18446744073709551616 + lo) % y)]) := by
  obtain ⟨s, s1, s2, s3, k⟩ := lz64_f y (by omega) (by omega)
  have hP : (0 : Int) < 2 ^ s := Int.pow_pos (by decide)
  have shl := fun a => shl_s s1 a
  have shr := fun a => shr_s (show s ≤ 64 by omega) a
  have shr2 := fun a => shr_s (show 64 - s ≤ 64 by omega) a
  have sh32 := fun a => shr32 .u64 rfl a
  have hM : (2 : Int) ^ s * 2 ^ (64 - s) = 18446744073709551616 := by rw [← Int.pow_add, show s + (64 - s) = 64 by omega]; decide
  have orr := fun (L : Int) (hL : 0 ≤ L) (hL2 : L < 2 ^ s) (hm : hi * 2 ^ s + L < 18446744073709551616) => or_hi (a := hi) s1 (by omega) hL hL2 hm
  have hHP : hi * 2 ^ s + 2 ^ s ≤ y * 2 ^ s := by
    have := Int.mul_le_mul_of_nonneg_right (show hi + 1 ≤ y by omega) (Int.le_of_lt hP)
    rw [Int.add_mul] at this; omega
  have hL0 : 0 ≤ lo / 2 ^ (64 - s) := Int.ediv_nonneg h4 (Int.pow_nonneg (by decide))
  have hL1 : lo / 2 ^ (64 - s) < 2 ^ s := by
    rw [Int.ediv_lt_iff_lt_mul (Int.pow_pos (by decide)), hM]; exact h5
  have hLe : lo / 2 ^ (64 - s) = lo * 2 ^ s / 18446744073709551616 := by
    rw [← hM, Int.mul_comm lo, Int.mul_ediv_mul_of_pos _ _ hP]
  have orr := orr _ hL0 hL1 (by omega)
  have ws : IntKind.u64.wrap (s : Int) = s := wrapU (by omega) (by omega)
  have ws2 : IntKind.u64.wrap (64 - (s : Int)) = ((64 - s : Nat) : Int) := by rw [wrapU (by omega) (by omega)]; omega
  have wy : IntKind.u64.wrap (y * 2 ^ s) = y * 2 ^ s := wrapU (by omega) (by omega)
  have wh : IntKind.u64.wrap (hi * 2 ^ s) = hi * 2 ^ s := wrapU (Int.mul_nonneg (by omega) (by omega)) (by omega)
  have wl : IntKind.u64.wrap (lo * 2 ^ s) = lo * 2 ^ s % 18446744073709551616 := by rw [IntKind.wrap_u64]
  have hA0 : 0 ≤ hi * 2 ^ s + lo / 2 ^ (64 - s) := by have := Int.mul_nonneg (show 0 ≤ hi by omega) (Int.le_of_lt hP); omega
  have hAY : hi * 2 ^ s + lo / 2 ^ (64 - s) < y * 2 ^ s := by omega
  have hNN : (hi * 18446744073709551616 + lo) * 2 ^ s = ((hi * 2 ^ s + lo / 2 ^ (64 - s)) * 4294967296 + lo * 2 ^ s % 18446744073709551616 / 4294967296) * 4294967296 + lo * 2 ^ s % 18446744073709551616 % 4294967296 := by
    rw [hLe]
    have e : (hi * 18446744073709551616 + lo) * 2 ^ s = hi * 2 ^ s * 18446744073709551616 + lo * 2 ^ s := by grind
    rw [e]
    generalize hi * 2 ^ s = a
    generalize lo * 2 ^ s = c
    omega
  have u1a : 0 ≤ lo * 2 ^ s % 18446744073709551616 ∧ lo * 2 ^ s % 18446744073709551616 < 18446744073709551616 := by omega
  generalize hA : hi * 2 ^ s + lo / 2 ^ (64 - s) = A at *
  generalize hU : lo * 2 ^ s % 18446744073709551616 = U at *
  generalize hY : y * 2 ^ s = Y at *
  have an1 := and32 (a := Y) (by omega) (by omega)
  have an2 := and32 (a := U) (by omega) (by omega)
  have hz : (y = 0) = False := eq_false (by omega)
  have hle : (y ≤ hi) = False := eq_false (by omega)
  have hz0 : (hi = 0) = False := eq_false (by omega)
  have hy1 : (Y / 4294967296 = 0) = False := eq_false (by omega)
  have td : IntKind.u64.wrap (A.tdiv (Y / 4294967296)) = A / (Y / 4294967296) := by
    have g2 := Int.ediv_le_self (Y / 4294967296) hA0
    rw [Int.tdiv_eq_ediv_of_nonneg hA0, wrapU (Int.ediv_nonneg hA0 (by omega)) (by omega)]
  have wr : IntKind.u64.wrap (A - IntKind.u64.wrap (A / (Y / 4294967296) * (Y / 4294967296))) = A % (Y / 4294967296) := by
    have d := Int.mul_ediv_add_emod A (Y / 4294967296)
    rw [Int.mul_comm] at d
    have m1 := Int.emod_nonneg A (show Y / 4294967296 ≠ 0 by omega)
    have m2 := Int.emod_lt_of_pos A (show 0 < Y / 4294967296 by omega)
    simp only [IntKind.wrap_u64]
    omega
  refine fun_W mixed Tryz.func175 rfl (Nat.le_of_ble_eq_true rfl) (by kernel_rfl) fun cx hN hR hF hL => ?_; apply args_k; (case hA => (simp only [go_sem, ↓reduceIte]; rfl))
  have hY1 : Y = Y / 4294967296 * 4294967296 + Y % 4294967296 := by omega
  have hyp : 0 < Y / 4294967296 ∧ Y / 4294967296 < 4294967296 := by omega
  have hy0 : 0 ≤ Y % 4294967296 ∧ Y % 4294967296 < 4294967296 := by omega
  have hb1 : 0 ≤ U / 4294967296 ∧ U / 4294967296 < 4294967296 := by omega
  have hb0 : 0 ≤ U % 4294967296 ∧ U % 4294967296 < 4294967296 := by omega
  have two := two_digits (N := hi * 18446744073709551616 + lo) (P := 2 ^ s) (y := y) (Y := Y) (A := A) (u1 := U / 4294967296) (u0 := U % 4294967296) (by omega) hP hY.symm hNN rfl
  (repeat' first|((try (revert K;refine bK ?_));refine' run (I shl (I shr (I shr2 (I sh32 (I orr (I ws (I ws2 (I wy (I wh (I wl (I hA (I hY (I hz (I hle (I hz0 (I hy1 (I td wr))))))))))))))))) ?_;(repeat' first|exact True.intro|refine Lv.mk ?_ ?_|(refine oK ?_;intro K hK)|intro hq);all_goals refine Lf.mk ?_)|refine callZ cl177 (k) ?_)
  generalize hQ : (A * 4294967296 + U / 4294967296) / Y = Q at *
  have hQb := dig_bd (A := A) (b := U / 4294967296) (Y := Y) hA0 hAY hb1.1 hb1.2
  rw [hQ] at hQb
  have hR0 := Int.emod_nonneg (A * 4294967296 + U / 4294967296) (show Y ≠ 0 by omega)
  have hRY := Int.emod_lt_of_pos (A * 4294967296 + U / 4294967296) (show 0 < Y by omega)
  have hRd := Int.mul_ediv_add_emod (A * 4294967296 + U / 4294967296) Y
  rw [hQ, Int.mul_comm] at hRd
  generalize (A * 4294967296 + U / 4294967296) % Y = R at *
  have rr := dig_rem (a := A * 4294967296) (b := U / 4294967296) (c := Q * Y) (R := R) (by omega) hR0 (by omega)
  have td2 : IntKind.u64.wrap (R.tdiv (Y / 4294967296)) = R / (Y / 4294967296) := by
    have g2 := Int.ediv_le_self (Y / 4294967296) hR0
    rw [Int.tdiv_eq_ediv_of_nonneg hR0, wrapU (Int.ediv_nonneg hR0 (by omega)) (by omega)]
  have wr2 : IntKind.u64.wrap (R - IntKind.u64.wrap (R / (Y / 4294967296) * (Y / 4294967296))) = R % (Y / 4294967296) := by
    have d := Int.mul_ediv_add_emod R (Y / 4294967296)
    rw [Int.mul_comm] at d
    have m1 := Int.emod_nonneg R (show Y / 4294967296 ≠ 0 by omega)
    have m2 := Int.emod_lt_of_pos R (show 0 < Y / 4294967296 by omega)
    simp only [IntKind.wrap_u64]
    omega
  refine loopW mixed (σ := {p : Int × Int // p.1 * (Y / 4294967296) + p.2 = A ∧ Q ≤ p.1 ∧ 0 ≤ p.2 ∧ p.2 < 4294967296}) (fun p => ⟨[(15, u64 p.1.1), (16, u64 p.1.2), (9, u64 (Y / 4294967296)), (10, u64 (Y % 4294967296)), (13, u64 (U / 4294967296)), (2, u64 Y), (8, u64 s), (11, u64 A), (14, u64 (U % 4294967296)), (6, u64 0), (7, u64 0)], [], 40000⟩) (fun p => p.1.1.toNat) id ⟨(A / (Y / 4294967296), A % (Y / 4294967296)), ?_, ?_, ?_, ?_⟩ (by rw [hN]; kernel_rfl) ?_ ?_
  · have := Int.mul_ediv_add_emod A (Y / 4294967296)
    rw [Int.mul_comm] at this
    exact this
  · rw [← hQ]
    exact dig_first hY1 hyp.1 hy0.1 hA0 hb1.1 hb1.2
  · exact Int.emod_nonneg _ (by omega)
  · have := Int.emod_lt_of_pos A hyp.1
    show A % (Y / 4294967296) < 4294967296
    omega
  · simp only [go_sem, ↓reduceIte, hF]
    exact ⟨an1, an2⟩
  · rintro ⟨⟨q, r⟩, g1, g2, g3, g4⟩
    simp only at g1 g2 g3 g4 ⊢
    have hqA : q ≤ A := by
      have := Int.mul_le_mul_of_nonneg_left (show 1 ≤ Y / 4294967296 by omega) (show 0 ≤ q by omega)
      omega
    have hy0q := Int.mul_nonneg (show 0 ≤ q by omega) hy0.1
    have w2 : IntKind.u64.wrap (r + Y / 4294967296) = r + Y / 4294967296 := wrapU (by omega) (by omega)
    have w3 : IntKind.u64.wrap (4294967296 * r) = 4294967296 * r := wrapU (by omega) (by omega)
    have w4 : IntKind.u64.wrap (4294967296 * r + U / 4294967296) = 4294967296 * r + U / 4294967296 := wrapU (by omega) (by omega)
    have w5 : q < 4294967296 → IntKind.u64.wrap (q * (Y % 4294967296)) = q * (Y % 4294967296) := fun h => by
      have := Int.mul_le_mul (show q ≤ 4294967295 by omega) (show Y % 4294967296 ≤ 4294967295 by omega) hy0.1 (by omega)
      exact wrapU hy0q (by omega)
    obtain hFF | hB | hC : (q < 4294967296 ∧ q * (Y % 4294967296) ≤ 4294967296 * r + U / 4294967296) ∨ (¬ (q < 4294967296 ∧ q * (Y % 4294967296) ≤ 4294967296 * r + U / 4294967296) ∧ 4294967296 ≤ r + Y / 4294967296) ∨ (¬ (q < 4294967296 ∧ q * (Y % 4294967296) ≤ 4294967296 * r + U / 4294967296) ∧ ¬ 4294967296 ≤ r + Y / 4294967296) := by omega
    rotate_left 2
    · have hqQ : Q < q := by
        by_cases hb : q < 4294967296
        · have := dig_yes hY1 hyp.1 hy0.1 (b := U / 4294967296) g1 (by omega)
          omega
        · omega
      have hc : (decide (4294967296 ≤ q) || decide (4294967296 * r + U / 4294967296 < IntKind.u64.wrap (q * (Y % 4294967296)))) = true := by
        by_cases hb : q < 4294967296
        · rw [w5 hb]; simp; omega
        · simp; omega
      have wd : IntKind.u64.wrap (q - 1) = q - 1 := wrapU (by omega) (by omega)
      (try ((try (revert K;refine bK ?_));refine' run (I shl (I shr (I shr2 (I sh32 (I w2 (I w3 (I w4 (I hc (I hC.2 wd))))))))) ?_;(repeat' first|exact True.intro|refine Lv.mk ?_ ?_|(refine oK ?_;intro K hK)|intro hq);all_goals refine Lf.mk ?_))
      refine ⟨⟨(q - 1, r + Y / 4294967296), ?_, by show Q ≤ q - 1; omega, by show 0 ≤ r + Y / 4294967296; omega, by show r + Y / 4294967296 < 4294967296; omega⟩, id, ?_, by show (q - 1).toNat < q.toNat; omega⟩
      · show (q - 1) * (Y / 4294967296) + (r + Y / 4294967296) = A
        rw [Int.sub_mul]; omega
      · simp only [go_sem, ↓reduceIte, hF]
    all_goals
      first
        | (have hh := hFF
           have hqQ : Q = q := by
             have := dig_no hY1 hyp.1 hy0.1 (b := U / 4294967296) g1 hFF.2
             omega
           have hc : (decide (4294967296 ≤ q) || decide (4294967296 * r + U / 4294967296 < IntKind.u64.wrap (q * (Y % 4294967296)))) = false := by
             rw [w5 hFF.1]; simp; omega
           subst hqQ
           (try ((try (revert K;refine bK ?_));refine' run (I shl (I shr (I shr2 (I sh32 (I w2 (I w3 (I w4 (I hc (I rr (I td2 (I wr2 hy1))))))))))) ?_;(repeat' first|exact True.intro|refine Lv.mk ?_ ?_|(refine oK ?_;intro K hK)|intro hq);all_goals refine Lf.mk ?_)))
        | (have hh := hB
           have hqQ : q = Q + 1 := by
             have h6 : Q < q := by
               by_cases hb : q < 4294967296
               · have := dig_yes hY1 hyp.1 hy0.1 (b := U / 4294967296) g1 (by omega)
                 omega
               · omega
             have := dig_break (q := q - 1) (r := r + Y / 4294967296) hY1 hyp.1 hy0.1 hy0.2 hb1.1 hAY (by rw [Int.sub_mul]; omega) (by omega) hB.2
             omega
           have hc : (decide (4294967296 ≤ q) || decide (4294967296 * r + U / 4294967296 < IntKind.u64.wrap (q * (Y % 4294967296)))) = true := by
             by_cases hb : q < 4294967296
             · rw [w5 hb]; simp; omega
             · simp; omega
           subst hqQ
           have wd : IntKind.u64.wrap (Q + 1 - 1) = Q := by rw [Int.add_sub_cancel]; exact wrapU (by omega) (by omega)
           (try ((try (revert K;refine bK ?_));refine' run (I shl (I shr (I shr2 (I sh32 (I w2 (I w3 (I w4 (I hc (I hB.2 (I wd (I rr (I td2 (I wr2 hy1))))))))))))) ?_;(repeat' first|exact True.intro|refine Lv.mk ?_ ?_|(refine oK ?_;intro K hK)|intro hq);all_goals refine Lf.mk ?_)))
    all_goals
      have hQ2b := dig_bd (A := R) (b := U % 4294967296) (Y := Y) hR0 hRY hb0.1 hb0.2
      generalize hQ2 : (R * 4294967296 + U % 4294967296) / Y = Q2 at *
      have hS0 := Int.emod_nonneg (R * 4294967296 + U % 4294967296) (show Y ≠ 0 by omega)
      have hSY := Int.emod_lt_of_pos (R * 4294967296 + U % 4294967296) (show 0 < Y by omega)
      have hSd := Int.mul_ediv_add_emod (R * 4294967296 + U % 4294967296) Y
      rw [hQ2, Int.mul_comm] at hSd
      generalize (R * 4294967296 + U % 4294967296) % Y = S at *
      have rs := dig_rem (a := R * 4294967296) (b := U % 4294967296) (c := Q2 * Y) (R := S) (by omega) hS0 (by omega)
      have f1 : IntKind.u64.wrap (IntKind.u64.wrap (Q * 4294967296) + Q2) = Q * 4294967296 + Q2 := by
        rw [wrapU (n := Q * 4294967296) (by omega) (by omega), wrapU (by omega) (by omega)]
      refine loopW mixed (σ := {p : Int × Int // p.1 * (Y / 4294967296) + p.2 = R ∧ Q2 ≤ p.1 ∧ 0 ≤ p.2 ∧ p.2 < 4294967296}) (fun p => ⟨[(18, u64 p.1.1), (16, u64 p.1.2), (9, u64 (Y / 4294967296)), (10, u64 (Y % 4294967296)), (14, u64 (U % 4294967296)), (2, u64 Y), (8, u64 s), (15, u64 Q), (17, u64 R), (6, u64 0), (7, u64 0)], [], 90000⟩) (fun p => p.1.1.toNat) id ⟨(R / (Y / 4294967296), R % (Y / 4294967296)), ?_, ?_, ?_, ?_⟩ (by rw [hN]; kernel_rfl) ?_ ?_
      · have := Int.mul_ediv_add_emod R (Y / 4294967296)
        rw [Int.mul_comm] at this
        exact this
      · rw [← hQ2]
        exact dig_first hY1 hyp.1 hy0.1 hR0 hb0.1 hb0.2
      · exact Int.emod_nonneg _ (by omega)
      · have := Int.emod_lt_of_pos R hyp.1
        show R % (Y / 4294967296) < 4294967296
        omega
      · simp only [go_sem, ↓reduceIte, hF]
      · clear hh g1 g2 g3 g4 hqA hy0q w2 w3 w4 w5 hc
        rintro ⟨⟨q, r⟩, g1, g2, g3, g4⟩
        simp only at g1 g2 g3 g4 ⊢
        have hqA : q ≤ R := by
          have := Int.mul_le_mul_of_nonneg_left (show 1 ≤ Y / 4294967296 by omega) (show 0 ≤ q by omega)
          omega
        have hy0q := Int.mul_nonneg (show 0 ≤ q by omega) hy0.1
        have w2 : IntKind.u64.wrap (r + Y / 4294967296) = r + Y / 4294967296 := wrapU (by omega) (by omega)
        have w3 : IntKind.u64.wrap (4294967296 * r) = 4294967296 * r := wrapU (by omega) (by omega)
        have w4 : IntKind.u64.wrap (4294967296 * r + U % 4294967296) = 4294967296 * r + U % 4294967296 := wrapU (by omega) (by omega)
        have w5 : q < 4294967296 → IntKind.u64.wrap (q * (Y % 4294967296)) = q * (Y % 4294967296) := fun h => by
          have := Int.mul_le_mul (show q ≤ 4294967295 by omega) (show Y % 4294967296 ≤ 4294967295 by omega) hy0.1 (by omega)
          exact wrapU hy0q (by omega)
        by_cases hFF : q < 4294967296 ∧ q * (Y % 4294967296) ≤ 4294967296 * r + U % 4294967296
        · have hqQ : Q2 = q := by
            have := dig_no hY1 hyp.1 hy0.1 (b := U % 4294967296) g1 hFF.2
            omega
          have hc : (decide (4294967296 ≤ q) || decide (4294967296 * r + U % 4294967296 < IntKind.u64.wrap (q * (Y % 4294967296)))) = false := by
            rw [w5 hFF.1]; simp; omega
          subst hqQ
          (try ((try (revert K;refine bK ?_));refine' run (I shl (I shr (I w2 (I w3 (I w4 (I hc (I rs f1))))))) ?_;(repeat' first|exact True.intro|refine Lv.mk ?_ ?_|(refine oK ?_;intro K hK)|intro hq);all_goals refine Lf.mk ?_))
          all_goals exact two
        · have h6 : Q2 < q := by
            by_cases hb : q < 4294967296
            · have := dig_yes hY1 hyp.1 hy0.1 (b := U % 4294967296) g1 (by omega)
              omega
            · omega
          have hc : (decide (4294967296 ≤ q) || decide (4294967296 * r + U % 4294967296 < IntKind.u64.wrap (q * (Y % 4294967296)))) = true := by
            by_cases hb : q < 4294967296
            · rw [w5 hb]; simp; omega
            · simp; omega
          have wd : IntKind.u64.wrap (q - 1) = q - 1 := wrapU (by omega) (by omega)
          by_cases hB : 4294967296 ≤ r + Y / 4294967296
          · have hqQ : q = Q2 + 1 := by
              have := dig_break (q := q - 1) (r := r + Y / 4294967296) hY1 hyp.1 hy0.1 hy0.2 hb0.1 hRY (by rw [Int.sub_mul]; omega) (by omega) hB
              omega
            subst hqQ
            have wd2 : IntKind.u64.wrap (Q2 + 1 - 1) = Q2 := by rw [Int.add_sub_cancel]; exact wrapU (by omega) (by omega)
            (try ((try (revert K;refine bK ?_));refine' run (I shl (I shr (I w2 (I w3 (I w4 (I hc (I hB (I wd2 (I rs f1))))))))) ?_;(repeat' first|exact True.intro|refine Lv.mk ?_ ?_|(refine oK ?_;intro K hK)|intro hq);all_goals refine Lf.mk ?_))
            all_goals exact two
          · (try ((try (revert K;refine bK ?_));refine' run (I shl (I shr (I w2 (I w3 (I w4 (I hc (I hB wd))))))) ?_;(repeat' first|exact True.intro|refine Lv.mk ?_ ?_|(refine oK ?_;intro K hK)|intro hq);all_goals refine Lf.mk ?_))
            refine ⟨⟨(q - 1, r + Y / 4294967296), ?_, by show Q2 ≤ q - 1; omega, by show 0 ≤ r + Y / 4294967296; omega, by show r + Y / 4294967296 < 4294967296; omega⟩, id, ?_, by show (q - 1).toNat < q.toNat; omega⟩
            · show (q - 1) * (Y / 4294967296) + (r + Y / 4294967296) = R
              rw [Int.sub_mul]; omega
            · simp only [go_sem, ↓reduceIte, hF]
attribute [local go_sem] decide_false in
theorem div0_f (lo d : Int) (h1 : 0 ≤ lo) (h2 : lo < 18446744073709551616) (h3 : 0 < d) : Fun Tryz.prog 175 [u64 0, u64 lo, u64 d] (.tup [u64 (lo / d), u64 (lo % d)]) := by
  have hz : (d = 0) = False := eq_false (by omega)
  have hz2 : ¬ d = 0 := by omega
  have hle : (d ≤ 0) = False := eq_false (by omega)
  have q1 : lo.tdiv d = lo / d := Int.tdiv_eq_ediv_of_nonneg h1
  have q2 : lo.tmod d = lo % d := Int.tmod_eq_emod_of_nonneg h1
  have g1 : 0 ≤ lo / d := Int.ediv_nonneg h1 (by omega)
  have g2 : lo / d ≤ lo := Int.ediv_le_self _ h1
  have w : IntKind.u64.wrap (lo / d) = lo / d := wrapU g1 (by omega)
  refine fun_W mixed Tryz.func175 rfl (Nat.le_of_ble_eq_true rfl) (by kernel_rfl) fun cx hN hR hF hL => ?_; apply args_k; (case hA => (simp only [go_sem, ↓reduceIte]; rfl))
  (try ((try (revert K;refine bK ?_));refine' run (I hz (I hle (I q1 (I q2 w)))) ?_;(repeat' first|exact True.intro|refine Lv.mk ?_ ?_|(refine oK ?_;intro K hK)|intro hq);all_goals refine Lf.mk ?_))
theorem divA_f (hi lo y : Int) (h1 : 0 ≤ hi) (h2 : hi < y) (h3 : y < 18446744073709551616) (h4 : 0 ≤ lo) (h5 : lo < 18446744073709551616) : Fun Tryz.prog 175 [u64 hi, u64 lo, u64 y] (.tup [u64 ((hi * 18446744073709551616 + lo) / y), u64 ((hi * 18446744073709551616 + lo) % y)]) := by
  by_cases h : hi = 0
  · subst h
    have := div0_f lo y h4 h5 (by omega)
    simpa using this
  · exact divG_f hi lo y (by omega) h2 h3 h4 h5

/-! ### Rounding -/
def rnd (q r c : Int) : Int := if r > c - r ∨ (r = c - r ∧ q % 2 = 1) then q + 1 else q
theorem upG_f (q r c : Int) (h1 : 0 ≤ q) (h2 : 0 ≤ r) (h3 : r < c) (h4 : c ≤ 9223372036854775807) : Fun Tryz.prog 173 [u64 q, u64 r, u64 c] (bool (decide (r > c - r) || (decide (r = c - r) && decide (q % 2 = 1)))) := by
  have w : IntKind.u64.wrap (c - r) = c - r := wrapU (by omega) (by omega)
  have q2 : q.tmod 2 = q % 2 := Int.tmod_eq_emod_of_nonneg h1
  refine fun_W mixed Tryz.func173 rfl (Nat.le_of_ble_eq_true rfl) (by kernel_rfl) fun cx hN hR hF hL => ?_; apply args_k; (case hA => (simp only [go_sem, ↓reduceIte]; rfl))
  have rr : intBin .rem .u64 q 2 = some (.v (.int .u64 (q % 2))) := by rw [ib_rem _ _ _ (by decide), q2]
  (try ((try (revert K;refine bK ?_));refine' run (I w rr) ?_;(repeat' first|exact True.intro|refine Lv.mk ?_ ?_|(refine oK ?_;intro K hK)|intro hq);all_goals refine Lf.mk ?_))
  all_goals exact fun h _ => h
theorem evenN_f : Fun Tryz.prog 166 [] (.agg [.v (.func (.func 173) #[] #[])]) := by
  refine fun_W mixed Tryz.func166 rfl (Nat.le_of_ble_eq_true rfl) (by kernel_rfl) fun cx hN hR hF hL => ?_; apply args_k; (case hA => (simp only [go_sem, ↓reduceIte]; rfl))
  (try ((try (revert K;refine bK ?_));refine' run trivial ?_;(repeat' first|exact True.intro|refine Lv.mk ?_ ?_|(refine oK ?_;intro K hK)|intro hq);all_goals refine Lf.mk ?_))
def evenQ (a b c : Int) : Int := rnd (a * b / c) (a * b % c) c
def evenV (a b c : Int) : Int := if 4000000000000000000 < evenQ a b c then 0 else evenQ a b c
def evenE (a b c : Int) : Int := if 4000000000000000000 < evenQ a b c then 5 else 0
theorem rnd_le (q r c : Int) : q ≤ rnd q r c ∧ rnd q r c ≤ q + 1 := by unfold rnd; split <;> omega
attribute [local go_sem] decide_false in
set_option maxHeartbeats 4000000 in
theorem ofG_f (a b c : Int) (ha : 0 ≤ a) (ha2 : a ≤ 9223372036854775807) (hb : 0 ≤ b) (hb2 : b ≤ 9223372036854775807) (hc : 0 < c) (hc2 : c ≤ 9223372036854775807) :
    Fun Tryz.prog 167 [.agg [.v (.func (.func 173) #[] #[])], int a, int b, int c] (.tup [int (evenV a b c), int (evenE a b c)]) := by
  have p0 : 0 ≤ a * b := Int.mul_nonneg ha hb
  have p1 : a * b ≤ 85070591730234615847396907784232501249 := by
    have := Int.mul_le_mul ha2 hb2 hb (by omega)
    omega
  have g1 : (a < 0) = False := eq_false (by omega)
  have g2 : (b < 0) = False := eq_false (by omega)
  have g3 : (c < 0) = False := eq_false (by omega)
  have g4 : (c = 0) = False := eq_false (by omega)
  have c1 : IntKind.u64.wrap a = a := wrapU (by omega) (by omega)
  have c2 : IntKind.u64.wrap b = b := wrapU (by omega) (by omega)
  have c3 : IntKind.u64.wrap c = c := wrapU (by omega) (by omega)
  have k1 := mulG_f a b ha (by omega) hb (by omega)
  unfold evenV evenE evenQ
  generalize a * b = x at *
  have hx0 : 0 ≤ x / 18446744073709551616 := by omega
  have hr := rnd_le (x / c) (x % c) c
  by_cases h : c ≤ x / 18446744073709551616
  · have hq : 18446744073709551616 ≤ x / c := by
      rw [Int.le_ediv_iff_mul_le hc]
      omega
    rw [if_pos (by omega), if_pos (by omega)]
    refine fun_W mixed Tryz.func167 rfl (Nat.le_of_ble_eq_true rfl) (by kernel_rfl) fun cx hN hR hF hL => ?_; apply args_k; (case hA => (simp only [go_sem, ↓reduceIte]; rfl))
    (repeat' first|((try (revert K;refine bK ?_));refine' run (I g1 (I g2 (I g3 (I g4 (I c1 (I c2 (I c3 (I (eq_true h) (decide_eq_true h))))))))) ?_;(repeat' first|exact True.intro|refine Lv.mk ?_ ?_|(refine oK ?_;intro K hK)|intro hq);all_goals refine Lf.mk ?_)|refine callZ cl174 (k1) ?_)
  · have hh : (c ≤ x / 18446744073709551616) = False := eq_false h
    have k2 := divA_f (x / 18446744073709551616) (x % 18446744073709551616) c hx0 (by omega) (by omega) (by omega) (by omega)
    rw [show x / 18446744073709551616 * 18446744073709551616 + x % 18446744073709551616 = x by omega] at k2
    have r0 := Int.emod_nonneg x (show c ≠ 0 by omega)
    have r1 := Int.emod_lt_of_pos x hc
    have q0 : 0 ≤ x / c := Int.ediv_nonneg p0 (by omega)
    have q1 : x / c < 18446744073709551616 := by
      rw [Int.ediv_lt_iff_lt_mul hc]
      omega
    have k3 := upG_f (x / c) (x % c) c q0 r0 r1 hc2
    unfold rnd at *
    generalize x / c = q at *
    generalize x % c = r at *
    by_cases hq1 : q > 4000000000000000000
    · rw [if_pos (by omega), if_pos (by omega)]
      refine fun_W mixed Tryz.func167 rfl (Nat.le_of_ble_eq_true rfl) (by kernel_rfl) fun cx hN hR hF hL => ?_; apply args_k; (case hA => (simp only [go_sem, ↓reduceIte]; rfl))
      (repeat' first|((try (revert K;refine bK ?_));refine' run (I g1 (I g2 (I g3 (I g4 (I c1 (I c2 (I c3 (I hh (I (eq_true hq1) (decide_eq_true hq1)))))))))) ?_;(repeat' first|exact True.intro|refine Lv.mk ?_ ?_|(refine oK ?_;intro K hK)|intro hq);all_goals refine Lf.mk ?_)|refine callZ cl174 (k1) ?_|refine callZ cl175 (k2) ?_)
    · have f1 : (q > 4000000000000000000) = False := eq_false hq1
      have w1 : IntKind.u64.wrap (q + 1) = q + 1 := wrapU (by omega) (by omega)
      have w2 : IntKind.i64.wrap q = q := wrap_id (by omega) (by omega)
      have w3 : IntKind.i64.wrap (q + 1) = q + 1 := wrap_id (by omega) (by omega)
      by_cases hu : r > c - r ∨ (r = c - r ∧ q % 2 = 1)
      · have hd : (decide (r > c - r) || (decide (r = c - r) && decide (q % 2 = 1))) = true := by simpa using hu
        rw [hd] at k3
        simp only [if_pos hu]
        by_cases hq2 : q + 1 > 4000000000000000000
        · rw [if_pos (by omega), if_pos (by omega)]
          refine fun_W mixed Tryz.func167 rfl (Nat.le_of_ble_eq_true rfl) (by kernel_rfl) fun cx hN hR hF hL => ?_; apply args_k; (case hA => (simp only [go_sem, ↓reduceIte]; rfl))
          (repeat' first|((try (revert K;refine bK ?_));refine' run (I g1 (I g2 (I g3 (I g4 (I c1 (I c2 (I c3 (I hh (I f1 (I w1 (I (eq_true hq2) (decide_eq_true hq2)))))))))))) ?_;(repeat' first|exact True.intro|refine Lv.mk ?_ ?_|(refine oK ?_;intro K hK)|intro hq);all_goals refine Lf.mk ?_)|refine callZ cl174 (k1) ?_|refine callZ cl175 (k2) ?_|refine callZ cl173 (k3) ?_)
        · rw [if_neg (by omega), if_neg (by omega)]
          refine fun_W mixed Tryz.func167 rfl (Nat.le_of_ble_eq_true rfl) (by kernel_rfl) fun cx hN hR hF hL => ?_; apply args_k; (case hA => (simp only [go_sem, ↓reduceIte]; rfl))
          (repeat' first|((try (revert K;refine bK ?_));refine' run (I g1 (I g2 (I g3 (I g4 (I c1 (I c2 (I c3 (I hh (I f1 (I w1 (I w3 (I (eq_false hq2) (decide_eq_false hq2))))))))))))) ?_;(repeat' first|exact True.intro|refine Lv.mk ?_ ?_|(refine oK ?_;intro K hK)|intro hq);all_goals refine Lf.mk ?_)|refine callZ cl174 (k1) ?_|refine callZ cl175 (k2) ?_|refine callZ cl173 (k3) ?_)
      · have hd : (decide (r > c - r) || (decide (r = c - r) && decide (q % 2 = 1))) = false := by rw [Bool.eq_false_iff]; simpa using hu
        rw [hd] at k3
        simp only [if_neg hu]
        rw [if_neg (by omega), if_neg (by omega)]
        refine fun_W mixed Tryz.func167 rfl (Nat.le_of_ble_eq_true rfl) (by kernel_rfl) fun cx hN hR hF hL => ?_; apply args_k; (case hA => (simp only [go_sem, ↓reduceIte]; rfl))
        (repeat' first|((try (revert K;refine bK ?_));refine' run (I g1 (I g2 (I g3 (I g4 (I c1 (I c2 (I c3 (I hh (I f1 w2))))))))) ?_;(repeat' first|exact True.intro|refine Lv.mk ?_ ?_|(refine oK ?_;intro K hK)|intro hq);all_goals refine Lf.mk ?_)|refine callZ cl174 (k1) ?_|refine callZ cl175 (k2) ?_|refine callZ cl173 (k3) ?_)
theorem evenG_f (a b c : Int) (ha : 0 ≤ a) (ha2 : a ≤ 9223372036854775807) (hb : 0 ≤ b) (hb2 : b ≤ 9223372036854775807) (hc : 0 < c) (hc2 : c ≤ 9223372036854775807) : Fun Tryz.prog 154 [int a, int b, int c] (.tup [int (evenV a b c), int (evenE a b c)]) := by
  refine fun_W mixed Tryz.func154 rfl (Nat.le_of_ble_eq_true rfl) (by kernel_rfl) fun cx hN hR hF hL => ?_; apply args_k; (case hA => (simp only [go_sem, ↓reduceIte]; rfl))
  (repeat' first|((try (revert K;refine bK ?_));refine' run trivial ?_;(repeat' first|exact True.intro|refine Lv.mk ?_ ?_|(refine oK ?_;intro K hK)|intro hq);all_goals refine Lf.mk ?_)|refine callZ cl166 (evenN_f) ?_|refine callZ cl167 (ofG_f a b c ha ha2 hb hb2 hc hc2) ?_)
theorem bpG_f (m bp : Int) (h1 : 0 ≤ m) (h2 : m ≤ 9223372036854775807) (h3 : 0 ≤ bp) (h4 : bp ≤ 9223372036854775807) : Fun Tryz.prog 126 [int m, int bp] (.tup [int (evenV m bp 10000), int (evenE m bp 10000)]) := by
  have k := evenG_f m bp 10000 h1 h2 h3 h4 (by omega) (by omega)
  refine fun_W mixed Tryz.func126 rfl (Nat.le_of_ble_eq_true rfl) (by kernel_rfl) fun cx hN hR hF hL => ?_; apply args_k; (case hA => (simp only [go_sem, ↓reduceIte]; rfl))
  (repeat' first|((try (revert K;refine bK ?_));refine' run trivial ?_;(repeat' first|exact True.intro|refine Lv.mk ?_ ?_|(refine oK ?_;intro K hK)|intro hq);all_goals refine Lf.mk ?_)|refine callZ cl154 (k) ?_)
end Go.Proofs.YtkonljmmdifnaaaGreat.V
set_option linter.unusedSimpArgs false
set_option linter.unusedVariables false
namespace Go.Proofs.YtkonljmmdifnaaaGreat.V
open Go.RowKit
set_option maxRecDepth 100000
attribute [local go_sem] Option.toList_some Option.toList_none

theorem evenV_bd {a b c : Int} (ha : 0 ≤ a) (hb : 0 ≤ b) (hc : 0 < c) : 0 ≤ evenV a b c ∧ evenV a b c ≤ 4000000000000000000 := by
  have h1 := rnd_le (a * b / c) (a * b % c) c
  have h2 : 0 ≤ a * b / c := Int.ediv_nonneg (Int.mul_nonneg ha hb) (by omega)
  unfold evenV evenQ
  split <;> omega
/-- Factor by factor. -/
def bpC (m : Int) : List Int → Int × Int
  | [] => (m, 0)
  | x :: l => if evenE m x 10000 = 0 then bpC (evenV m x 10000) l else (0, evenE m x 10000)
theorem bpC_bd : ∀ (l : List Int) (m : Int), 0 ≤ m → m ≤ 4000000000000000000 → (∀ x, x ∈ l → 0 ≤ x) → 0 ≤ (bpC m l).1 ∧ (bpC m l).1 ≤ 4000000000000000000
  | [], m, h0, h1, _ => ⟨h0, h1⟩
  | x :: l, m, h0, h1, hx => by
    rw [bpC]
    split
    · have := evenV_bd (c := 10000) h0 (hx x (by simp)) (by omega)
      exact bpC_bd l _ this.1 this.2 fun y hy => hx y (by simp [hy])
    · exact ⟨Int.le_refl _, by show (0 : Int) ≤ _; omega⟩
def facs (v : Version) (rk ra rz : Int) (c : Cover) : List Int := [([v.b0, v.b1, v.b2, v.b3][rk.toNat]?).getD 0, bandR ra v.age, (v.zone[rz.toNat]?).getD 0, (v.peril[c.peril.toNat]?).getD 0, c.share]
def oneP (v : Version) (rk rv ra rz : Int) (c : Cover) : Int × Int :=
  if (v.okB && riskRight rk rv ra rz && c.right) = false then (0, 1) else if (v.zone.length : Int) ≤ rz then (0, 7)
  else if (bpC rv (facs v rk ra rz c)).2 = 0 then (max (bpC rv (facs v rk ra rz c)).1 v.min, 0) else (0, (bpC rv (facs v rk ra rz c)).2)
theorem bandR_nn {age : Int} : ∀ {l : List Band} {last : Int}, bandsFrom last l = true → 0 ≤ bandR age l ∧ bandR age l ≤ 100000
  | [], _, _ => by simp [bandR]
  | b :: l, last, h => by
    rw [bandsFrom, Bool.and_eq_true] at h
    rw [bandR]
    split
    · exact bandR_nn h.2
    · have := h.1
      simp [bandOk] at this
      omega
theorem right_of {c : Cover} (h : c.right = true) : 0 ≤ c.peril ∧ c.peril < 8 ∧ 1 ≤ c.share ∧ c.share ≤ 10000 := by
  simp [Cover.right, coverRight] at h
  omega
theorem facs_nn {v : Version} {rk rv ra rz : Int} {c : Cover} (h1 : v.okB = true) (h2 : riskRight rk rv ra rz = true) (h3 : c.right = true) : ∀ x, x ∈ facs v rk ra rz c → 0 ≤ x ∧ x ≤ 100000 := by
  rw [okB_iff] at h1
  obtain ⟨a1, a2, ⟨a3, a4, a5, a6⟩, a7, a8, a9⟩ := h1
  have hr := right_of h3
  have hbz : ∀ {l : List Int} (i : Nat), l.all factorB = true → 0 ≤ (l[i]?).getD 0 ∧ (l[i]?).getD 0 ≤ 100000 := by
    intro l i hl
    rcases he : l[i]? with _ | y
    · simp
    · have := facB_iff.1 (List.all_eq_true.1 hl y (List.mem_of_getElem? he))
      simpa using this
  have hb0 : [v.b0, v.b1, v.b2, v.b3].all factorB = true := by
    simp only [List.all_cons, List.all_nil, Bool.and_true, Bool.and_eq_true, facB_iff]
    omega
  have hb : bandsFrom (-1) v.age = true := by rw [bandsB, Bool.and_eq_true] at a9; exact a9.1
  intro x hx
  simp only [facs, List.mem_cons, List.not_mem_nil, or_false] at hx
  rcases hx with rfl | rfl | rfl | rfl | rfl
  · exact hbz _ hb0
  · exact bandR_nn hb
  · exact hbz _ a7
  · exact hbz _ a8
  · omega
theorem facs_len (v : Version) (rk ra rz : Int) (c : Cover) : (facs v rk ra rz c).length = 5 := rfl
set_option maxHeartbeats 8000000 in
theorem one_f (v : Version) (rk rv ra rz : Int) (c : Cover) : Fun Tryz.prog 86 [.agg v.flat, .agg [int rk, int rv, int ra, int rz], .agg c.flat] (.tup [int (oneP v rk rv ra rz c).1, int (oneP v rk rv ra rz c).2]) := by
  by_cases hok : (v.okB && riskRight rk rv ra rz && c.right) = true
  · simp only [Bool.and_eq_true] at hok
    obtain ⟨⟨o1, o2⟩, o3⟩ := hok
    have hr := right_of o3
    have hf := facs_nn o1 o2 o3
    have hz := okB_iff.1 o1
    have hk : 0 ≤ rk ∧ rk < 4 ∧ 1 ≤ rv ∧ rv ≤ 1000000000000000 ∧ 0 ≤ rz := by simp [riskRight] at o2; omega
    by_cases hzz : (v.zone.length : Int) ≤ rz
    · have e : oneP v rk rv ra rz c = (0, 7) := by rw [oneP, if_neg (by simp [o1, o2, o3]), if_pos hzz]
      rw [e]
      refine fun_W mixed Tryz.func86 rfl (Nat.le_of_ble_eq_true rfl) (by kernel_rfl) fun cx hN hR hF hL => ?_; apply args_k; (case hA => (simp only [go_sem, ↓reduceIte]; rfl))
      (repeat' first|((try (revert K;refine bK ?_));refine' run trivial ?_;(repeat' first|exact True.intro|refine Lv.mk ?_ ?_|(refine oK ?_;intro K hK)|intro hq);all_goals refine Lf.mk ?_)|refine Da ?_|refine Db ?_|refine Dc ?_|refine De ?_|refine Df ?_|refine Dg ?_)
      refine code_scope0 (code_w mixed (by rw [hN]; kernel_rfl) ?_)
      (repeat' first|((try (revert K;refine bK ?_));refine' run (I o1 (I o2 (I o3 (I (eq_true hzz) (decide_eq_true hzz))))) ?_;(repeat' first|exact True.intro|refine Lv.mk ?_ ?_|(refine oK ?_;intro K hK)|intro hq);all_goals refine Lf.mk ?_)|refine callZ cl123 (version_f v) ?_|refine callZ cl111 (riskRight_f _ _ _ _) ?_|refine callZ cl124 (coverRight_f c) ?_|refine Da ?_|refine Db ?_|refine Dc ?_|refine De ?_|refine Df ?_|refine Dg ?_)
    · have e : oneP v rk rv ra rz c = if (bpC rv (facs v rk ra rz c)).2 = 0 then (max (bpC rv (facs v rk ra rz c)).1 v.min, 0) else (0, (bpC rv (facs v rk ra rz c)).2) := by rw [oneP, if_neg (by simp [o1, o2, o3]), if_neg hzz]
      rw [e]
      have z1 : v.zone[rz.toNat]? = some ((v.zone[rz.toNat]?).getD 0) := by rw [List.getElem?_eq_getElem (by omega)]; rfl
      have z2 : v.peril[c.peril.toNat]? = some ((v.peril[c.peril.toNat]?).getD 0) := by rw [List.getElem?_eq_getElem (by omega)]; rfl
      have hL := facs_len v rk ra rz c
      unfold facs at *
      generalize (v.zone[rz.toNat]?).getD 0 = z at *
      generalize (v.peril[c.peril.toNat]?).getD 0 = p at *
      have b1 : 0 ≤ rz := by omega
      have b2 : rz < (v.zone.length : Int) := by omega
      have b3 : 0 ≤ c.peril := by omega
      have b4 : c.peril < (v.peril.length : Int) := by omega
      have kb := band_f v.age ra
      have hB : [int v.from_, int v.b0, int v.b1, int v.b2, int v.b3, .sl false 2 (v.age.map Band.flat), ints v.zone, ints v.peril, int v.min][1 + rk.toNat]? = some (int (([v.b0, v.b1, v.b2, v.b3][rk.toNat]?).getD 0)) := by
        have h4 : rk = 0 ∨ rk = 1 ∨ rk = 2 ∨ rk = 3 := by omega
        rcases h4 with rfl | rfl | rfl | rfl <;> rfl
      generalize ([v.b0, v.b1, v.b2, v.b3][rk.toNat]?).getD 0 = b at *
      generalize hbr : bandR ra v.age = br at *
      have b5 : 0 ≤ rk := by omega
      have b6 : rk < 4 := by omega
      refine fun_W mixed Tryz.func86 rfl (Nat.le_of_ble_eq_true rfl) (by kernel_rfl) fun cx hN hR hF hL => ?_; apply args_k; (case hA => (simp only [go_sem, ↓reduceIte]; rfl))
      (repeat' first|((try (revert K;refine bK ?_));refine' run trivial ?_;(repeat' first|exact True.intro|refine Lv.mk ?_ ?_|(refine oK ?_;intro K hK)|intro hq);all_goals refine Lf.mk ?_)|refine Da ?_|refine Db ?_|refine Dc ?_|refine De ?_|refine Df ?_|refine Dg ?_)
      refine code_scope0 (code_w mixed (by rw [hN]; kernel_rfl) ?_)
      (repeat' first|((try (revert K;refine bK ?_));refine' run (I o1 (I o2 (I o3 (I (eq_false hzz) (I (decide_eq_false hzz) (I z1 (I z2 hB))))))) ?_;(repeat' first|exact True.intro|refine Lv.mk ?_ ?_|(refine oK ?_;intro K hK)|intro hq);all_goals refine Lf.mk ?_)|refine callZ cl123 (version_f v) ?_|refine callZ cl111 (riskRight_f _ _ _ _) ?_|refine callZ cl124 (coverRight_f c) ?_|refine callZ cl125 (kb) ?_|refine Da ?_|refine Db ?_|refine Dc ?_|refine De ?_|refine Df ?_|refine Dg ?_)
      refine loopW mixed (σ := {s : Nat × Int // s.1 ≤ 5 ∧ 0 ≤ s.2 ∧ s.2 ≤ 4000000000000000000 ∧ bpC rv [b, br, z, p, c.share] = bpC s.2 ([b, br, z, p, c.share].drop s.1)}) (fun s => ⟨[(60, int s.1.1), (8, int s.1.2), (9, int 0), (59, .agg [int b, int br, int z, int p, int c.share]), (3, .ptr 0 0), (6, int 0), (7, int 0)], [(0, some ⟨67, v.flat⟩)], 5000⟩) (fun s => 5 - s.1.1) id ⟨(0, rv), by omega, by show 0 ≤ rv; omega, by show rv ≤ _; omega, rfl⟩ (by rw [hN]; kernel_rfl) ?_ ?_
      · simp only [go_sem, ↓reduceIte, hF]
        rfl
      · rintro ⟨⟨i, m⟩, h1, h2, h3, h4⟩
        simp only at h1 h2 h3 h4 ⊢
        rw [h4]
        by_cases hi : i < 5
        · have hiL : i < [b, br, z, p, c.share].length := hi
          have e0 : [int b, int br, int z, int p, int c.share] = [b, br, z, p, c.share].map fun n => int n := rfl
          have e1 : [int b, int br, int z, int p, int c.share][i]? = some (int ([b, br, z, p, c.share][i]'hiL)) := by rw [e0, List.getElem?_map, List.getElem?_eq_getElem hiL]; rfl
          have e2 : IntKind.i64.wrap ((i : Int) + 1) = ((i + 1 : Nat) : Int) := by rw [wrap_id] <;> omega
          have hx := hf _ (List.getElem_mem hiL)
          rw [List.drop_eq_getElem_cons hiL] at h4 ⊢
          generalize [b, br, z, p, c.share][i]'hiL = x at *
          have k := bpG_f m x h2 (by omega) hx.1 (by omega)
          have hv := evenV_bd (c := 10000) h2 hx.1 (by omega)
          rw [show ∀ l, bpC m (x :: l) = if evenE m x 10000 = 0 then bpC (evenV m x 10000) l else (0, evenE m x 10000) from fun _ => rfl] at h4 ⊢
          by_cases hE : evenE m x 10000 = 0
          · rw [if_pos hE] at h4 ⊢
            (repeat' first|((try (revert K;refine bK ?_));refine' run (I e1 (I e2 hE)) ?_;(repeat' first|exact True.intro|refine Lv.mk ?_ ?_|(refine oK ?_;intro K hK)|intro hq);all_goals refine Lf.mk ?_)|refine callZ cl126 (k) ?_|refine Da ?_|refine Db ?_|refine Dc ?_|refine De ?_|refine Df ?_|refine Dg ?_)
            refine ⟨⟨(i + 1, evenV m x 10000), by show i + 1 ≤ 5; omega, hv.1, hv.2, rfl⟩, id, ?_, by show 5 - (i + 1) < 5 - i; omega⟩
            simp only [go_sem, ↓reduceIte, hF]
          · rw [if_neg hE, if_neg hE]
            (repeat' first|((try (revert K;refine bK ?_));refine' run (I e1 (I e2 (I (eq_false hE) (decide_eq_false hE)))) ?_;(repeat' first|exact True.intro|refine Lv.mk ?_ ?_|(refine oK ?_;intro K hK)|intro hq);all_goals refine Lf.mk ?_)|refine callZ cl126 (k) ?_|refine Da ?_|refine Db ?_|refine Dc ?_|refine De ?_|refine Df ?_|refine Dg ?_)
        · obtain rfl : i = 5 := by omega
          have e5 : [b, br, z, p, c.share].drop 5 = [] := rfl
          rw [e5, bpC, if_pos rfl]
          (repeat' first|((try (revert K;refine bK ?_));refine' run trivial ?_;(repeat' first|exact True.intro|refine Lv.mk ?_ ?_|(refine oK ?_;intro K hK)|intro hq);all_goals refine Lf.mk ?_)|refine Da ?_|refine Db ?_|refine Dc ?_|refine De ?_|refine Df ?_|refine Dg ?_)
  · have hok : (v.okB && riskRight rk rv ra rz && c.right) = false := by simpa using hok
    have e : oneP v rk rv ra rz c = (0, 1) := by rw [oneP, if_pos hok]
    rw [e]
    have h' : (!v.okB || !riskRight rk rv ra rz || !c.right) = true := by revert hok; simp; grind
    refine fun_W mixed Tryz.func86 rfl (Nat.le_of_ble_eq_true rfl) (by kernel_rfl) fun cx hN hR hF hL => ?_; apply args_k; (case hA => (simp only [go_sem, ↓reduceIte]; rfl))
    (repeat' first|((try (revert K;refine bK ?_));refine' run trivial ?_;(repeat' first|exact True.intro|refine Lv.mk ?_ ?_|(refine oK ?_;intro K hK)|intro hq);all_goals refine Lf.mk ?_)|refine Da ?_|refine Db ?_|refine Dc ?_|refine De ?_|refine Df ?_|refine Dg ?_)
    refine code_scope0 (code_w mixed (by rw [hN]; kernel_rfl) ?_)
    (repeat' first|((try (revert K;refine bK ?_));refine' run h' ?_;(repeat' first|exact True.intro|refine Lv.mk ?_ ?_|(refine oK ?_;intro K hK)|intro hq);all_goals refine Lf.mk ?_)|refine callZ cl123 (version_f v) ?_|refine callZ cl111 (riskRight_f _ _ _ _) ?_|refine callZ cl124 (coverRight_f c) ?_|refine Da ?_|refine Db ?_|refine Dc ?_|refine De ?_|refine Df ?_|refine Dg ?_)
theorem oneP_bd (v : Version) (rk rv ra rz : Int) (c : Cover) : 0 ≤ (oneP v rk rv ra rz c).1 ∧ (oneP v rk rv ra rz c).1 ≤ 4000000000000000000 := by
  unfold oneP
  split
  · exact ⟨by simp, by simp⟩
  · rename_i h
    simp only [Bool.not_eq_false, Bool.and_eq_true] at h
    split
    · exact ⟨by simp, by simp⟩
    · have hb := bpC_bd (facs v rk ra rz c) rv (by have := h.1.2; simp [riskRight] at this; omega) (by have := h.1.2; simp [riskRight] at this; omega) fun x hx => (facs_nn h.1.1 h.1.2 h.2 x hx).1
      have hm := okB_iff.1 h.1.1
      split
      · show 0 ≤ max _ _ ∧ max _ _ ≤ _
        omega
      · exact ⟨by simp, by simp⟩
end Go.Proofs.YtkonljmmdifnaaaGreat.V
set_option linter.unusedSimpArgs false
set_option linter.unusedVariables false
namespace Go.Proofs.YtkonljmmdifnaaaGreat.V
open Go.RowKit
set_option maxRecDepth 100000
attribute [local go_sem] Option.toList_some Option.toList_none

/-- What a year of covers costs: the sum, or why not. -/
def yearF (v : Version) (rk rv ra rz : Int) (n : Int) (fits : Bool) : List Cover → Int × Int
  | [] => if fits then (n, 0) else (0, 5)
  | c :: l => if (oneP v rk rv ra rz c).2 = 0 then (if fits ∧ ¬ 4000000000000000000 - n < (oneP v rk rv ra rz c).1 then yearF v rk rv ra rz (n + (oneP v rk rv ra rz c).1) true l else yearF v rk rv ra rz (if fits then 0 else n) false l) else (0, (oneP v rk rv ra rz c).2)
def yearP (v : Version) (rk rv ra rz : Int) (l : List Cover) : Int × Int := yearF v rk rv ra rz 0 true l
theorem adder_f : FunB Tryz.prog 85 [] [] (.fn (.func 122) [] [.ptr 0 0]) [(0, some ⟨3, [int 0]⟩)] := by
  refine funB_C 0 Tryz.func85 rfl (Nat.le_of_ble_eq_true rfl) (by simp [go_sem]) fun cx hN hR hF hL => ?_; apply code_argsB; (case hA => (simp only [go_sem, ↓reduceIte]; rfl)); (case hB => (simp only [go_sem, ↓reduceIte]; rfl))
  refine code_end (code_w mixed (by rw [hN]; kernel_rfl) ?_)
  (try ((try (revert K;refine bK ?_));refine' run trivial ?_;(repeat' first|exact True.intro|refine Lv.mk ?_ ?_|(refine oK ?_;intro K hK)|intro hq);all_goals refine Lf.mk ?_))
  refine ⟨nm2 0 1000 0 1000, ⟨[(0, .fn (.func 122) [] [.ptr 0 0])], [(0, some ⟨3, [int 0]⟩)], 1⟩, ?_, ?_⟩
  · simp only [go_sem, ↓reduceIte, hF]
    exact fun b g h => by have := hF b g h; simp [inl] at this
  · (try ((try (revert K;refine bK ?_));refine' run trivial ?_;(repeat' first|exact True.intro|refine Lv.mk ?_ ?_|(refine oK ?_;intro K hK)|intro hq);all_goals refine Lf.mk ?_))
theorem add1_f (n m : Int) (h0 : 0 ≤ n) (h1 : n ≤ 4000000000000000000) (hm : 0 ≤ m) (hm2 : m ≤ 4000000000000000000) (h : ¬ 4000000000000000000 - n < m) : FunB Tryz.prog 122 [(0, ⟨3, [int n]⟩)] [int m, .ptr 0 0] (.tup [int (n + m), bool true]) [(0, some ⟨3, [int (n + m)]⟩)] := by
  have e3 : IntKind.i64.wrap (4000000000000000000 - n) = 4000000000000000000 - n := wrap_id (by omega) (by omega)
  have e4 : IntKind.i64.wrap (n + m) = n + m := wrap_id (by omega) (by omega)
  refine fun_WB 1 mixed Tryz.func122 rfl (Nat.le_of_ble_eq_true rfl) (by kernel_rfl) (by simp [go_sem]) fun cx hN hR hF hL => ?_; apply args_kb; (case hA => (simp only [go_sem, ↓reduceIte]; rfl)); (case hB => (simp only [go_sem, ↓reduceIte]; rfl))
  (try ((try (revert K;refine bK ?_));refine' run (I e3 (I e4 (I (eq_false h) (decide_eq_false h)))) ?_;(repeat' first|exact True.intro|refine Lv.mk ?_ ?_|(refine oK ?_;intro K hK)|intro hq);all_goals refine Lf.mk ?_))
theorem add0_f (n m : Int) (h0 : 0 ≤ n) (h1 : n ≤ 4000000000000000000) (hm : 0 ≤ m) (hm2 : m ≤ 4000000000000000000) (h : 4000000000000000000 - n < m) : FunB Tryz.prog 122 [(0, ⟨3, [int n]⟩)] [int m, .ptr 0 0] (.tup [int 0, bool false]) [] := by
  have e3 : IntKind.i64.wrap (4000000000000000000 - n) = 4000000000000000000 - n := wrap_id (by omega) (by omega)
  refine fun_WB 1 mixed Tryz.func122 rfl (Nat.le_of_ble_eq_true rfl) (by kernel_rfl) (by simp [go_sem]) fun cx hN hR hF hL => ?_; apply args_kb; (case hA => (simp only [go_sem, ↓reduceIte]; rfl)); (case hB => (simp only [go_sem, ↓reduceIte]; rfl))
  (try ((try (revert K;refine bK ?_));refine' run (I e3 (I (eq_true h) (decide_eq_true h))) ?_;(repeat' first|exact True.intro|refine Lv.mk ?_ ?_|(refine oK ?_;intro K hK)|intro hq);all_goals refine Lf.mk ?_))
theorem yearF_cons (v : Version) (rk rv ra rz n : Int) (b : Bool) (c : Cover) (l : List Cover) : yearF v rk rv ra rz n b (c :: l) = if (oneP v rk rv ra rz c).2 = 0 then (if b ∧ ¬ 4000000000000000000 - n < (oneP v rk rv ra rz c).1 then yearF v rk rv ra rz (n + (oneP v rk rv ra rz c).1) true l else yearF v rk rv ra rz (if b then 0 else n) false l) else (0, (oneP v rk rv ra rz c).2) := rfl
set_option maxHeartbeats 4000000 in
theorem year_f (v : Version) (rk rv ra rz : Int) (l : List Cover) (f : Bool) (hl : l.length ≤ 100000) : Fun Tryz.prog 54 [.agg v.flat, .agg [int rk, int rv, int ra, int rz], .sl f 5 (l.map Cover.flat)] (.tup [int (yearP v rk rv ra rz l).1, int (yearP v rk rv ra rz l).2]) := by
  refine fun_W mixed Tryz.func54 rfl (Nat.le_of_ble_eq_true rfl) (by kernel_rfl) fun cx hN hR hF hL => ?_; apply args_k; (case hA => (simp only [go_sem, ↓reduceIte]; rfl))
  (try ((try (revert K;refine bK ?_));refine' run trivial ?_;(repeat' first|exact True.intro|refine Lv.mk ?_ ?_|(refine oK ?_;intro K hK)|intro hq);all_goals refine Lf.mk ?_))
  (apply callB' [1000] cl85 (adder_f); (case h1 | h2 | h3 => (simp only [go_sem, ↓reduceIte]; try rfl)); (case hl | hs | hfp | hfr => (simp [go_sem]; done)))
  (try ((try (revert K;refine bK ?_));refine' run trivial ?_;(repeat' first|exact True.intro|refine Lv.mk ?_ ?_|(refine oK ?_;intro K hK)|intro hq);all_goals refine Lf.mk ?_))
  refine loopW mixed (σ := {s : Nat × Int × Int × Bool // s.1 ≤ l.length ∧ 0 ≤ s.2.2.1 ∧ s.2.2.1 ≤ 4000000000000000000 ∧ (s.2.2.2 = true → s.2.1 = s.2.2.1) ∧ yearP v rk rv ra rz l = yearF v rk rv ra rz s.2.1 s.2.2.2 (l.drop s.1)}) (fun s => ⟨[(10, bool s.1.2.2.2), (18, int s.1.1), (9, int s.1.2.1), (8, .fn (.func 122) [] [.ptr 1000 0]), (3, .ptr 0 0), (4, .ptr 8 0), (16, .sl f 5 (l.map Cover.flat)), (17, int l.length), (6, int 0), (7, int 0)], [(0, some ⟨67, v.flat⟩), (8, some ⟨25, [int rk, int rv, int ra, int rz]⟩), (1000, some ⟨3, [int s.1.2.2.1]⟩)], 3000⟩) (fun s => l.length - s.1.1) id ⟨(0, 0, 0, true), Nat.zero_le _, by simp, by simp, fun _ => rfl, rfl⟩ (by rw [hN]; kernel_rfl) ?_ ?_
  · simp only [go_sem, ↓reduceIte, hF]
    all_goals rfl
  · rintro ⟨⟨i, n, m, b⟩, h1, h2, h3, h4, h5⟩
    simp only at h1 h2 h3 h4 h5 ⊢
    rw [h5]
    by_cases hi : i < l.length
    · have e1 : (l.map Cover.flat)[i]? = some (l[i].flat) := by rw [List.getElem?_map, List.getElem?_eq_getElem hi]; rfl
      have e2 : IntKind.i64.wrap ((i : Int) + 1) = ((i + 1 : Nat) : Int) := by rw [wrap_id] <;> omega
      rw [List.drop_eq_getElem_cons hi] at h5 ⊢
      generalize l[i] = c at *
      rw [yearF_cons] at h5 ⊢
      have k := one_f v rk rv ra rz c
      have hb := oneP_bd v rk rv ra rz c
      generalize oneP v rk rv ra rz c = o at *
      by_cases ho : o.2 = 0
      · rw [if_pos ho] at h5 ⊢
        cases b with
        | false =>
          simp only [Bool.false_eq_true, false_and, if_false] at h5 ⊢
          (repeat' first|((try (revert K;refine bK ?_));refine' run (I e1 (I e2 ho)) ?_;(repeat' first|exact True.intro|refine Lv.mk ?_ ?_|(refine oK ?_;intro K hK)|intro hq);all_goals refine Lf.mk ?_)|refine callZ cl86 (k) ?_)
          refine ⟨⟨(i + 1, n, m, false), hi, h2, h3, by simp, by simp⟩, id, ?_, by show l.length - (i + 1) < l.length - i; omega⟩
          simp only [go_sem, ↓reduceIte, hF]
        | true =>
          obtain rfl := h4 rfl
          simp only [true_and, if_true] at h5 ⊢
          by_cases hov : 4000000000000000000 - n < o.1
          · rw [if_neg (by simpa using hov)] at h5 ⊢
            (repeat' first|((try (revert K;refine bK ?_));refine' run (I e1 (I e2 ho)) ?_;(repeat' first|exact True.intro|refine Lv.mk ?_ ?_|(refine oK ?_;intro K hK)|intro hq);all_goals refine Lf.mk ?_)|refine callZ cl86 (k) ?_)
            (apply callB' [1000] cl122 (add0_f n o.1 h2 h3 hb.1 hb.2 hov); (case h1 | h2 | h3 => (simp only [go_sem, ↓reduceIte]; try rfl)); (case hl | hs | hfp | hfr => (simp [go_sem]; done)))
            (repeat' first|((try (revert K;refine bK ?_));refine' run (I e1 (I e2 ho)) ?_;(repeat' first|exact True.intro|refine Lv.mk ?_ ?_|(refine oK ?_;intro K hK)|intro hq);all_goals refine Lf.mk ?_)|refine callZ cl86 (k) ?_)
            refine ⟨⟨(i + 1, 0, n, false), hi, h2, h3, by simp, by simp⟩, id, ?_, by show l.length - (i + 1) < l.length - i; omega⟩
            simp only [go_sem, ↓reduceIte, hF]
          · rw [if_pos hov] at h5 ⊢
            (repeat' first|((try (revert K;refine bK ?_));refine' run (I e1 (I e2 ho)) ?_;(repeat' first|exact True.intro|refine Lv.mk ?_ ?_|(refine oK ?_;intro K hK)|intro hq);all_goals refine Lf.mk ?_)|refine callZ cl86 (k) ?_)
            (apply callB' [1000] cl122 (add1_f n o.1 h2 h3 hb.1 hb.2 hov); (case h1 | h2 | h3 => (simp only [go_sem, ↓reduceIte]; try rfl)); (case hl | hs | hfp | hfr => (simp [go_sem]; done)))
            (repeat' first|((try (revert K;refine bK ?_));refine' run (I e1 (I e2 ho)) ?_;(repeat' first|exact True.intro|refine Lv.mk ?_ ?_|(refine oK ?_;intro K hK)|intro hq);all_goals refine Lf.mk ?_)|refine callZ cl86 (k) ?_)
            refine ⟨⟨(i + 1, n + o.1, n + o.1, true), hi, by show 0 ≤ n + o.1; omega, by show n + o.1 ≤ _; omega, fun _ => rfl, by simp; exact fun h => absurd h hov⟩, id, ?_, by show l.length - (i + 1) < l.length - i; omega⟩
            simp only [go_sem, ↓reduceIte, hF]
      · rw [if_neg ho]
        (repeat' first|((try (revert K;refine bK ?_));refine' run (I e1 (I e2 (I (eq_false ho) (decide_eq_false ho)))) ?_;(repeat' first|exact True.intro|refine Lv.mk ?_ ?_|(refine oK ?_;intro K hK)|intro hq);all_goals refine Lf.mk ?_)|refine callZ cl86 (k) ?_)
    · obtain rfl : i = l.length := by omega
      rw [List.drop_length]
      cases b <;> simp only [yearF, if_true, if_false, Bool.false_eq_true]
      · (try ((try (revert K;refine bK ?_));refine' run trivial ?_;(repeat' first|exact True.intro|refine Lv.mk ?_ ?_|(refine oK ?_;intro K hK)|intro hq);all_goals refine Lf.mk ?_))
      · (try ((try (revert K;refine bK ?_));refine' run trivial ?_;(repeat' first|exact True.intro|refine Lv.mk ?_ ?_|(refine oK ?_;intro K hK)|intro hq);all_goals refine Lf.mk ?_))
end Go.Proofs.YtkonljmmdifnaaaGreat.V
set_option linter.unusedSimpArgs false
set_option linter.unusedVariables false
namespace Go.Proofs.YtkonljmmdifnaaaGreat.V
open Go.RowKit
set_option maxRecDepth 100000
attribute [local go_sem] Option.toList_some Option.toList_none

theorem dm_of {x q c l : Int} (h : x = q * c + l) (h0 : 0 ≤ l) (h1 : l < c) : x / c = q ∧ x % c = l := by
  have hc : 0 < c := by omega
  have e : x / c = q := by
    rw [h, Int.add_comm, Int.add_mul_ediv_right _ _ (by omega), Int.ediv_eq_zero_of_lt h0 h1]
    omega
  refine ⟨e, ?_⟩
  have := Int.mul_ediv_add_emod x c
  rw [e, Int.mul_comm] at this
  omega
theorem shrI (a : Int) {k : Nat} (hk : k ≤ 63) : intBin .shr .i64 a (k : Int) = some (int (a / 2 ^ k)) := by
  rw [ib_shr _ _ _ (by omega), Int.toNat_natCast, show IntKind.i64.bits = 64 from rfl, Nat.min_eq_left (by omega)]
  rw [Int.fdiv_eq_ediv_of_nonneg _ (Int.pow_nonneg (by decide))]
theorem half_div (a : Int) (k : Nat) : a / 2 ^ k = 2 * (a / 2 ^ (k + 1)) + (a / 2 ^ k) % 2 := by
  have e : a / 2 ^ (k + 1) = a / 2 ^ k / 2 := by rw [Int.pow_succ, Int.ediv_ediv_of_nonneg (Int.pow_nonneg (by decide))]
  omega
def stp (c w r d q l : Int) : Int × Int :=
  if c ≤ 2 * l then (if d = 1 then (if c ≤ 2 * l - c + r then (2 * q + 1 + w + 1, 2 * l - c + r - c) else (2 * q + 1 + w, 2 * l - c + r)) else (2 * q + 1, 2 * l - c))
  else (if d = 1 then (if c ≤ 2 * l + r then (2 * q + w + 1, 2 * l + r - c) else (2 * q + w, 2 * l + r)) else (2 * q, 2 * l))
theorem stp_ok {X X' b c d q l w r : Int} (hX : X = q * c + l) (hb : b = w * c + r) (hX' : X' = 2 * X + d * b) (hd : d = 0 ∨ d = 1) (l0 : 0 ≤ l) (l1 : l < c) (r0 : 0 ≤ r) (r1 : r < c) :
    X' / c = (stp c w r d q l).1 ∧ X' % c = (stp c w r d q l).2 ∧ 0 ≤ (stp c w r d q l).2 ∧ (stp c w r d q l).2 < c := by
  have key : X' = (stp c w r d q l).1 * c + (stp c w r d q l).2 ∧ 0 ≤ (stp c w r d q l).2 ∧ (stp c w r d q l).2 < c := by
    unfold stp
    rcases hd with rfl | rfl
    · split
      · simp only [if_neg (show ¬ (0 : Int) = 1 by omega)]
        exact ⟨by grind, by omega, by omega⟩
      · simp only [if_neg (show ¬ (0 : Int) = 1 by omega)]
        exact ⟨by grind, by omega, by omega⟩
    · simp only [if_true]
      split <;> split <;> exact ⟨by grind, by simp only; omega, by simp only; omega⟩
  have := dm_of key.1 key.2.1 key.2.2
  exact ⟨this.1, this.2, key.2⟩
def twoF (a b c : Int) : AV := if 4000000000000000000 < a * b / c then .tup [int 0, int 0, bool false] else .tup [int (a * b / c), int (a * b % c), bool true]
attribute [local go_sem] decide_false in
set_option maxHeartbeats 8000000 in
theorem two_f (a b c : Int) (ha : 0 ≤ a) (ha2 : a ≤ 9223372036854775807) (hb : 0 ≤ b) (hb2 : b ≤ 9223372036854775807) (hc : 0 < c) (hc2 : c ≤ 9223372036854775807) : Fun Tryz.prog 169 [int a, int b, int c] (twoF a b c) := by
  have c2 : IntKind.u64.wrap b = b := wrapU (by omega) (by omega)
  have c3 : IntKind.u64.wrap c = c := wrapU (by omega) (by omega)
  have hz : (c = 0) = False := eq_false (by omega)
  have q1 : b.tdiv c = b / c := Int.tdiv_eq_ediv_of_nonneg hb
  have q2 : b.tmod c = b % c := Int.tmod_eq_emod_of_nonneg hb
  have hw0 : 0 ≤ b / c := Int.ediv_nonneg hb (by omega)
  have hw1 : b / c ≤ b := Int.ediv_le_self _ hb
  have hr0 := Int.emod_nonneg b (show c ≠ 0 by omega)
  have hr1 := Int.emod_lt_of_pos b hc
  have hbd := Int.mul_ediv_add_emod b c
  have w1 : IntKind.u64.wrap (b / c) = b / c := wrapU hw0 (by omega)
  refine fun_W mixed Tryz.func169 rfl (Nat.le_of_ble_eq_true rfl) (by kernel_rfl) fun cx hN hR hF hL => ?_; apply args_k; (case hA => (simp only [go_sem, ↓reduceIte]; rfl))
  (try ((try (revert K;refine bK ?_));refine' run (I c2 (I c3 (I hz (I q1 (I q2 w1))))) ?_;(repeat' first|exact True.intro|refine Lv.mk ?_ ?_|(refine oK ?_;intro K hK)|intro hq);all_goals refine Lf.mk ?_))
  refine loopW mixed (σ := {k : Nat // k ≤ 63 ∧ a / 2 ^ k * b / c ≤ 4000000000000000000}) (fun s => ⟨[(14, int ((s.1 : Int) - 1)), (9, u64 (a / 2 ^ s.1 * b / c)), (10, u64 (a / 2 ^ s.1 * b % c)), (0, int a), (11, u64 c), (12, u64 (b / c)), (13, u64 (b % c)), (6, int 0), (7, int 0), (8, bool false)], [], 10000⟩) (fun s => s.1) id ⟨63, ?_⟩ (by rw [hN]; kernel_rfl) ?_ ?_
  · have e : a / 2 ^ 63 = 0 := Int.ediv_eq_zero_of_lt ha (by omega)
    rw [e, Int.zero_mul, Int.zero_ediv]
    omega
  · have e : a / 2 ^ 63 = 0 := Int.ediv_eq_zero_of_lt ha (by omega)
    simp only [go_sem, ↓reduceIte, hF, e, Int.zero_mul, Int.zero_ediv, Int.zero_emod]
    rfl
  · rintro ⟨k, h1, h2⟩
    simp only at h2 ⊢
    rcases k with _ | k
    · have e0 : a / 2 ^ 0 = a := by simp
      rw [e0] at h2 ⊢
      have f1 : IntKind.i64.wrap (a * b / c) = a * b / c := wrap_id (by have := Int.ediv_nonneg (Int.mul_nonneg ha hb) (show 0 ≤ c by omega); omega) (by omega)
      have f2 : IntKind.i64.wrap (a * b % c) = a * b % c := wrap_id (by have := Int.emod_nonneg (a * b) (show c ≠ 0 by omega); omega) (by have := Int.emod_lt_of_pos (a * b) hc; omega)
      rw [twoF, if_neg (by omega)]
      (try ((try (revert K;refine bK ?_));refine' run (I f1 f2) ?_;(repeat' first|exact True.intro|refine Lv.mk ?_ ?_|(refine oK ?_;intro K hK)|intro hq);all_goals refine Lf.mk ?_))
    · have k1 : ((k + 1 : Nat) : Int) - 1 = (k : Int) := by omega
      have k2 : IntKind.i64.wrap ((k : Int) - 1) = (k : Int) - 1 := wrap_id (by omega) (by omega)
      have sh := shrI a (show k ≤ 63 by omega)
      have ha0 : 0 ≤ a / 2 ^ k := Int.ediv_nonneg ha (Int.pow_nonneg (by decide))
      have td : (a / 2 ^ k).tmod 2 = (a / 2 ^ k) % 2 := Int.tmod_eq_emod_of_nonneg ha0
      have hh := half_div a k
      have hak : a / 2 ^ k ≤ a := Int.ediv_le_self _ ha
      have hab : a / 2 ^ k * b / c ≤ a * b / c := Int.ediv_le_ediv hc (Int.mul_le_mul_of_nonneg_right hak hb)
      have hX0 : 0 ≤ a / 2 ^ (k + 1) * b := Int.mul_nonneg (by omega) hb
      have hq0 : 0 ≤ a / 2 ^ (k + 1) * b / c := Int.ediv_nonneg hX0 (by omega)
      have hl0 := Int.emod_nonneg (a / 2 ^ (k + 1) * b) (show c ≠ 0 by omega)
      have hl1 := Int.emod_lt_of_pos (a / 2 ^ (k + 1) * b) hc
      have hXd := Int.mul_ediv_add_emod (a / 2 ^ (k + 1) * b) c
      have hX' : a / 2 ^ k * b = 2 * (a / 2 ^ (k + 1) * b) + (a / 2 ^ k) % 2 * b := by
        conv => lhs; rw [hh]
        rw [Int.add_mul, Int.mul_assoc]
      have hd : (a / 2 ^ k) % 2 = 0 ∨ (a / 2 ^ k) % 2 = 1 := by omega
      have hst := stp_ok (X := a / 2 ^ (k + 1) * b) (X' := a / 2 ^ k * b) (q := a / 2 ^ (k + 1) * b / c) (l := a / 2 ^ (k + 1) * b % c) (w := b / c) (r := b % c) (by rw [Int.mul_comm _ c]; exact hXd.symm) (by rw [Int.mul_comm _ c]; exact hbd.symm) hX' hd hl0 hl1 hr0 hr1
      simp only [k1]
      generalize a / 2 ^ (k + 1) * b = X at *
      generalize hq : X / c = q at *
      generalize hl : X % c = l at *
      generalize hw : b / c = w at *
      generalize hr : b % c = r at *
      generalize hD : (a / 2 ^ k) % 2 = d at *
      have v1 : IntKind.u64.wrap (2 * q) = 2 * q := wrapU (by omega) (by omega)
      have v2 : IntKind.u64.wrap (2 * l) = 2 * l := wrapU (by omega) (by omega)
      have v3 : IntKind.u64.wrap (2 * q + 1) = 2 * q + 1 := wrapU (by omega) (by omega)
      have rr : intBin .rem .i64 (a / 2 ^ k) 2 = some (int d) := by rw [ib_rem _ _ _ (by decide), td]
      rw [hst.1] at hab
      (try ((try (revert K;refine bK ?_));refine' run (I k2 (I sh (I rr (I v1 (I v2 v3))))) ?_;(repeat' first|exact True.intro|refine Lv.mk ?_ ?_|(refine oK ?_;intro K hK)|intro hq);all_goals refine Lf.mk ?_))
      all_goals first
        | (rw [twoF, if_pos (by
            refine Int.lt_of_lt_of_le ?_ hab
            simp only [IntKind.wrap_u64] at *
            unfold stp
            (repeat' split) <;> omega)]
           exact ⟨rfl, rfl, rfl⟩)
        | (refine ⟨⟨k, by omega, ?_⟩, id, ?_, by show k < k + 1; omega⟩
           · rw [hst.1]
             simp only [IntKind.wrap_u64] at *
             unfold stp
             (repeat' split) <;> omega
           · simp only [go_sem, ↓reduceIte, hF, hst.1, hst.2.1]
             simp only [IntKind.wrap_u64] at *
             unfold stp
             constructor <;> ((repeat' split) <;> first | omega | (exfalso; omega) | (simp only; omega) | grind))
attribute [local go_sem] decide_false in
theorem rCheck_f (a b c : Int) (ha : 0 ≤ a) (hb : 0 ≤ b) (hc : 0 < c) : Fun Tryz.prog 168 [int a, int b, int c] (int 0) := by
  have g1 : (a < 0) = False := eq_false (by omega)
  have g2 : (b < 0) = False := eq_false (by omega)
  have g3 : (c < 0) = False := eq_false (by omega)
  have g4 : (c = 0) = False := eq_false (by omega)
  refine fun_W mixed Tryz.func168 rfl (Nat.le_of_ble_eq_true rfl) (by kernel_rfl) fun cx hN hR hF hL => ?_; apply args_k; (case hA => (simp only [go_sem, ↓reduceIte]; rfl))
  (try ((try (revert K;refine bK ?_));refine' run (I g1 (I g2 (I g3 g4))) ?_;(repeat' first|exact True.intro|refine Lv.mk ?_ ?_|(refine oK ?_;intro K hK)|intro hq);all_goals refine Lf.mk ?_))
set_option maxHeartbeats 4000000 in
theorem rEven_f (a b c : Int) (ha : 0 ≤ a) (ha2 : a ≤ 9223372036854775807) (hb : 0 ≤ b) (hb2 : b ≤ 9223372036854775807) (hc : 0 < c) (hc2 : c ≤ 9223372036854775807) : Fun Tryz.prog 157 [int a, int b, int c] (.tup [int (evenV a b c), int (evenE a b c)]) := by
  have k1 := rCheck_f a b c ha hb hc
  have k2 := two_f a b c ha ha2 hb hb2 hc hc2
  unfold twoF at k2
  unfold evenV evenE evenQ
  have p0 : 0 ≤ a * b := Int.mul_nonneg ha hb
  have r0 := Int.emod_nonneg (a * b) (show c ≠ 0 by omega)
  have r1 := Int.emod_lt_of_pos (a * b) hc
  have q0 : 0 ≤ a * b / c := Int.ediv_nonneg p0 (by omega)
  have hr := rnd_le (a * b / c) (a * b % c) c
  unfold rnd at *
  generalize a * b / c = q at *
  generalize a * b % c = r at *
  by_cases hq1 : 4000000000000000000 < q
  · rw [if_pos hq1] at k2
    rw [if_pos (by omega), if_pos (by omega)]
    refine fun_W mixed Tryz.func157 rfl (Nat.le_of_ble_eq_true rfl) (by kernel_rfl) fun cx hN hR hF hL => ?_; apply args_k; (case hA => (simp only [go_sem, ↓reduceIte]; rfl))
    (repeat' first|((try (revert K;refine bK ?_));refine' run trivial ?_;(repeat' first|exact True.intro|refine Lv.mk ?_ ?_|(refine oK ?_;intro K hK)|intro hq);all_goals refine Lf.mk ?_)|refine callZ cl168 (k1) ?_|refine callZ cl169 (k2) ?_)
  · rw [if_neg hq1] at k2
    have w1 : IntKind.i64.wrap (c - r) = c - r := wrap_id (by omega) (by omega)
    have w2 : IntKind.i64.wrap (q + 1) = q + 1 := wrap_id (by omega) (by omega)
    have rr : intBin .rem .i64 q 2 = some (int (q % 2)) := by rw [ib_rem _ _ _ (by decide), Int.tmod_eq_emod_of_nonneg q0]
    by_cases hu : r > c - r ∨ (r = c - r ∧ q % 2 = 1)
    · have hd : (decide (c - r < r) || (decide (r = c - r) && decide (q % 2 = 1))) = true := by simpa using hu
      simp only [if_pos hu]
      by_cases hq2 : 4000000000000000000 < q + 1
      · rw [if_pos hq2, if_pos hq2]
        refine fun_W mixed Tryz.func157 rfl (Nat.le_of_ble_eq_true rfl) (by kernel_rfl) fun cx hN hR hF hL => ?_; apply args_k; (case hA => (simp only [go_sem, ↓reduceIte]; rfl))
        (repeat' first|((try (revert K;refine bK ?_));refine' run (I w1 (I w2 (I rr (I hd (I (eq_true hq2) (decide_eq_true hq2)))))) ?_;(repeat' first|exact True.intro|refine Lv.mk ?_ ?_|(refine oK ?_;intro K hK)|intro hq);all_goals refine Lf.mk ?_)|refine callZ cl168 (k1) ?_|refine callZ cl169 (k2) ?_)
        all_goals exact fun h _ => h
      · rw [if_neg hq2, if_neg hq2]
        refine fun_W mixed Tryz.func157 rfl (Nat.le_of_ble_eq_true rfl) (by kernel_rfl) fun cx hN hR hF hL => ?_; apply args_k; (case hA => (simp only [go_sem, ↓reduceIte]; rfl))
        (repeat' first|((try (revert K;refine bK ?_));refine' run (I w1 (I w2 (I rr (I hd (I (eq_false hq2) (decide_eq_false hq2)))))) ?_;(repeat' first|exact True.intro|refine Lv.mk ?_ ?_|(refine oK ?_;intro K hK)|intro hq);all_goals refine Lf.mk ?_)|refine callZ cl168 (k1) ?_|refine callZ cl169 (k2) ?_)
        all_goals exact fun h _ => h
    · have hd : (decide (c - r < r) || (decide (r = c - r) && decide (q % 2 = 1))) = false := by rw [Bool.eq_false_iff]; simpa using hu
      simp only [if_neg hu]
      rw [if_neg hq1, if_neg hq1]
      refine fun_W mixed Tryz.func157 rfl (Nat.le_of_ble_eq_true rfl) (by kernel_rfl) fun cx hN hR hF hL => ?_; apply args_k; (case hA => (simp only [go_sem, ↓reduceIte]; rfl))
      (repeat' first|((try (revert K;refine bK ?_));refine' run (I w1 (I w2 (I rr (I hd (I (eq_false hq1) (decide_eq_false hq1)))))) ?_;(repeat' first|exact True.intro|refine Lv.mk ?_ ?_|(refine oK ?_;intro K hK)|intro hq);all_goals refine Lf.mk ?_)|refine callZ cl168 (k1) ?_|refine callZ cl169 (k2) ?_)
      all_goals exact fun h _ => h
theorem rBp_f (m bp : Int) (h1 : 0 ≤ m) (h2 : m ≤ 9223372036854775807) (h3 : 0 ≤ bp) (h4 : bp ≤ 9223372036854775807) : Fun Tryz.prog 134 [int m, int bp] (.tup [int (evenV m bp 10000), int (evenE m bp 10000)]) := by
  have k := rEven_f m bp 10000 h1 h2 h3 h4 (by omega) (by omega)
  refine fun_W mixed Tryz.func134 rfl (Nat.le_of_ble_eq_true rfl) (by kernel_rfl) fun cx hN hR hF hL => ?_; apply args_k; (case hA => (simp only [go_sem, ↓reduceIte]; rfl))
  (repeat' first|((try (revert K;refine bK ?_));refine' run trivial ?_;(repeat' first|exact True.intro|refine Lv.mk ?_ ?_|(refine oK ?_;intro K hK)|intro hq);all_goals refine Lf.mk ?_)|refine callZ cl157 (k) ?_)
/-- The sum of amounts, or 0: it is too much. -/
def sumC (n : Int) : List Int → Option Int
  | [] => some n
  | x :: l => if 4000000000000000000 - n < x then none else sumC (n + x) l
theorem rSum_f (l : List Int) (h0 : ∀ x, x ∈ l → 0 ≤ x ∧ x ≤ 4000000000000000000) : Fun Tryz.prog 94 [ints l] (match sumC 0 l with | some n => .tup [int n, bool true] | none => .tup [int 0, bool false]) := by
  refine fun_W mixed Tryz.func94 rfl (Nat.le_of_ble_eq_true rfl) (by kernel_rfl) fun cx hN hR hF hL => ?_; apply args_k; (case hA => (simp only [go_sem, ↓reduceIte]; rfl))
  simp at hL
  have hl := hL.1
  simp [maxLen] at hl
  (try ((try (revert K;refine bK ?_));refine' run trivial ?_;(repeat' first|exact True.intro|refine Lv.mk ?_ ?_|(refine oK ?_;intro K hK)|intro hq);all_goals refine Lf.mk ?_))
  refine loopW mixed (σ := {s : Nat × Int // s.1 ≤ l.length ∧ 0 ≤ s.2 ∧ s.2 ≤ 4000000000000000000 ∧ sumC 0 l = sumC s.2 (l.drop s.1)}) (fun s => ⟨[(5, int s.1.1), (4, int s.1.2), (3, bool false), (2, int 0), (0, ints l)], [], 3000⟩) (fun s => l.length - s.1.1) id ⟨(0, 0), Nat.zero_le _, Int.le_refl _, by decide, rfl⟩ (by rw [hN]; kernel_rfl) ?_ ?_
  · simp only [go_sem, ↓reduceIte, hF]
    rfl
  · rintro ⟨⟨i, n⟩, h1, h2, h3, h4⟩
    simp only at h1 h2 h3 h4 ⊢
    rw [h4]
    by_cases hi : i < l.length
    · have e1 : l[i]? = some l[i] := List.getElem?_eq_getElem hi
      have e2 : IntKind.i64.wrap ((i : Int) + 1) = ((i + 1 : Nat) : Int) := by rw [wrap_id] <;> omega
      have hx := h0 _ (List.getElem_mem hi)
      have e3 : IntKind.i64.wrap (4000000000000000000 - n) = 4000000000000000000 - n := wrap_id (by omega) (by omega)
      rw [List.drop_eq_getElem_cons hi] at h4 ⊢
      generalize l[i] = x at *
      rw [show ∀ l, sumC n (x :: l) = if 4000000000000000000 - n < x then none else sumC (n + x) l from fun _ => rfl] at h4 ⊢
      by_cases hx2 : 4000000000000000000 - n < x
      · rw [if_pos hx2] at h4 ⊢
        (try ((try (revert K;refine bK ?_));refine' run (I e1 (I e2 (I e3 (I (eq_true hx2) (decide_eq_true hx2))))) ?_;(repeat' first|exact True.intro|refine Lv.mk ?_ ?_|(refine oK ?_;intro K hK)|intro hq);all_goals refine Lf.mk ?_))
      · rw [if_neg hx2] at h4 ⊢
        have e4 : IntKind.i64.wrap (n + x) = n + x := wrap_id (by omega) (by omega)
        (try ((try (revert K;refine bK ?_));refine' run (I e1 (I e2 (I e3 (I e4 (I (eq_false hx2) (decide_eq_false hx2)))))) ?_;(repeat' first|exact True.intro|refine Lv.mk ?_ ?_|(refine oK ?_;intro K hK)|intro hq);all_goals refine Lf.mk ?_))
        refine ⟨⟨(i + 1, n + x), by show i + 1 ≤ l.length; omega, by show 0 ≤ n + x; omega, by show n + x ≤ _; omega, rfl⟩, id, ?_, by show l.length - (i + 1) < l.length - i; omega⟩
        simp only [go_sem, ↓reduceIte, hF]
    · have e5 : l.drop i = [] := List.drop_eq_nil_of_le (by omega)
      rw [e5, show sumC n [] = some n from rfl]
      (try ((try (revert K;refine bK ?_));refine' run trivial ?_;(repeat' first|exact True.intro|refine Lv.mk ?_ ?_|(refine oK ?_;intro K hK)|intro hq);all_goals refine Lf.mk ?_))
end Go.Proofs.YtkonljmmdifnaaaGreat.V
set_option linter.unusedSimpArgs false
set_option linter.unusedVariables false
namespace Go.Proofs.YtkonljmmdifnaaaGreat.V
open Go.RowKit
set_option maxRecDepth 100000
attribute [local go_sem] Option.toList_some Option.toList_none

theorem cloneI_f (l : List Int) (f : Bool) (hl : l.length ≤ 100000) : Fun Tryz.prog 65 [.sl f 1 (l.map irow)] (ints l) := by
  refine fun_W mixed Tryz.func65 rfl (Nat.le_of_ble_eq_true rfl) (by kernel_rfl) fun cx hN hR hF hL => ?_; apply args_k; (case hA => (simp only [go_sem, ↓reduceIte]; rfl))
  (try ((try (revert K;refine bK ?_));refine' run trivial ?_;(repeat' first|exact True.intro|refine Lv.mk ?_ ?_|(refine oK ?_;intro K hK)|intro hq);all_goals refine Lf.mk ?_))
  · exact ⟨rows_len (F := irow) (fun _ => rfl) _, fzo_rows (F := irow) (k := 1) (fun _ => rfl) (fun _ => by simp [irow]) _ rfl⟩
  · simp [maxLen]; omega
theorem cloneB_f (l : List Band) (f : Bool) (hl : l.length ≤ 100000) : Fun Tryz.prog 119 [.sl f 2 (l.map Band.flat)] (.sl false 2 (l.map Band.flat)) := by
  refine fun_W mixed Tryz.func119 rfl (Nat.le_of_ble_eq_true rfl) (by kernel_rfl) fun cx hN hR hF hL => ?_; apply args_k; (case hA => (simp only [go_sem, ↓reduceIte]; rfl))
  (try ((try (revert K;refine bK ?_));refine' run trivial ?_;(repeat' first|exact True.intro|refine Lv.mk ?_ ?_|(refine oK ?_;intro K hK)|intro hq);all_goals refine Lf.mk ?_))
  · exact ⟨rows_len (F := Band.flat) (fun _ => rfl) _, fzo_rows (F := Band.flat) (k := 2) (fun _ => rfl) (fun _ => by simp [Band.flat]) _ rfl⟩
  · simp [maxLen]; omega
theorem vown_f (v : Version) (ha : v.age.length ≤ 100000) (hz : v.zone.length ≤ 100000) (hp : v.peril.length ≤ 100000) : Fun Tryz.prog 81 [.agg v.flat] (.agg v.flat) := by
  have k1 := cloneB_f v.age false ha
  have k2 := cloneI_f v.zone false hz
  have k3 := cloneI_f v.peril false hp
  refine fun_W mixed Tryz.func81 rfl (Nat.le_of_ble_eq_true rfl) (by kernel_rfl) fun cx hN hR hF hL => ?_; apply args_k; (case hA => (simp only [go_sem, ↓reduceIte]; rfl))
  (repeat' first|((try (revert K;refine bK ?_));refine' run trivial ?_;(repeat' first|exact True.intro|refine Lv.mk ?_ ?_|(refine oK ?_;intro K hK)|intro hq);all_goals refine Lf.mk ?_)|refine callZ cl119 (k1) ?_|refine callZ cl65 (k2) ?_|refine callZ cl65 (k3) ?_)
/-- The version of a day: the last one that begins by then. -/
def verAt (l : List Version) (d : Int) : Option Version := (l.reverse.find? fun v => decide (v.from_ ≤ d))
def verO : Option Version → AV
  | some v => .tup [.agg v.flat, int 0]
  | none => .tup [.agg [int 0, int 0, int 0, int 0, int 0, .v (.slice none 0 0), .v (.slice none 0 0), .v (.slice none 0 0), int 0], int 7]
attribute [local go_sem] verO
theorem verAt_snoc (l : List Version) (v : Version) (d : Int) : verAt (l ++ [v]) d = if v.from_ ≤ d then some v else verAt l d := by
  rw [verAt, List.reverse_append, List.reverse_singleton, List.singleton_append, List.find?_cons]
  by_cases h : v.from_ ≤ d
  · rw [decide_eq_true h, if_pos h]
  · rw [decide_eq_false h, if_neg h, verAt]
theorem take_snoc {α : Type} {l : List α} {j : Nat} (hj : j < l.length) : l.take (j + 1) = l.take j ++ [l[j]] := by rw [List.take_add_one, List.getElem?_eq_getElem hj]; rfl
attribute [local go_sem] decide_false in
set_option maxHeartbeats 4000000 in
theorem rAt_f (l : List Version) (f : Bool) (d : Int) (hl : l.length ≤ 100000) (o : Option Version) (ho : o = verAt l d) : Fun Tryz.prog 58 [.agg [.sl f 9 (l.map Version.flat)], int d] (verO o) := by
  have w0 : IntKind.i64.wrap ((l.length : Int) - 1) = (l.length : Int) - 1 := wrap_id (by omega) (by omega)
  refine fun_W mixed Tryz.func58 rfl (Nat.le_of_ble_eq_true rfl) (by kernel_rfl) fun cx hN hR hF hL => ?_; apply args_k; (case hA => (simp only [go_sem, ↓reduceIte]; rfl))
  (try ((try (revert K;refine bK ?_));refine' run w0 ?_;(repeat' first|exact True.intro|refine Lv.mk ?_ ?_|(refine oK ?_;intro K hK)|intro hq);all_goals refine Lf.mk ?_))
  refine loopW mixed (σ := {j : Nat // j ≤ l.length ∧ o = verAt (l.take j) d}) (fun j => ⟨[(6, int ((j.1 : Int) - 1)), (1, int d), (2, .ptr 0 0), (4, .ptr 8 0), (5, int 0)], [(0, some ⟨34, [.sl f 9 (l.map Version.flat)]⟩), (8, some ⟨67, [int 0, int 0, int 0, int 0, int 0, .v (.slice none 0 0), .v (.slice none 0 0), .v (.slice none 0 0), int 0]⟩)], 3000⟩) (fun j => j.1) id ⟨l.length, Nat.le_refl _, by rw [List.take_length]; exact ho⟩ (by rw [hN]; kernel_rfl) ?_ ?_
  · simp only [go_sem, ↓reduceIte, hF]
    all_goals rfl
  · rintro ⟨j, h1, h2⟩
    simp only at h1 h2 ⊢
    rcases j with _ | j
    · have c0 : ((0 : Int) ≤ ((0 : Nat) : Int) - 1) = False := by simp
      obtain rfl : o = none := h2
      (try ((try (revert K;refine bK ?_));refine' run c0 ?_;(repeat' first|exact True.intro|refine Lv.mk ?_ ?_|(refine oK ?_;intro K hK)|intro hq);all_goals refine Lf.mk ?_))
    · have hj : j < l.length := h1
      have e1 : (l.map Version.flat)[j]? = some (l[j].flat) := by rw [List.getElem?_map, List.getElem?_eq_getElem hj]; rfl
      have e0 : (((j + 1 : Nat) : Int) - 1) = (j : Int) := by omega
      have e2 : IntKind.i64.wrap ((j : Int) - 1) = (j : Int) - 1 := wrap_id (by omega) (by omega)
      rw [take_snoc hj, verAt_snoc] at h2
      simp only [e0]
      generalize l[j] = v at *
      by_cases hd : v.from_ ≤ d
      · rw [if_pos hd] at h2
        subst h2
        (try ((try (revert K;refine bK ?_));refine' run (I e1 (I e2 (I (eq_true hd) (decide_eq_true hd)))) ?_;(repeat' first|exact True.intro|refine Lv.mk ?_ ?_|(refine oK ?_;intro K hK)|intro hq);all_goals refine Lf.mk ?_))
      · rw [if_neg hd] at h2
        (try ((try (revert K;refine bK ?_));refine' run (I e1 (I e2 (I (eq_false hd) (decide_eq_false hd)))) ?_;(repeat' first|exact True.intro|refine Lv.mk ?_ ?_|(refine oK ?_;intro K hK)|intro hq);all_goals refine Lf.mk ?_))
        refine ⟨⟨j, by omega, h2⟩, id, ?_, by show j < j + 1; omega⟩
        simp only [go_sem, ↓reduceIte, hF]
end Go.Proofs.YtkonljmmdifnaaaGreat.V
set_option linter.unusedSimpArgs false
set_option linter.unusedVariables false
namespace Go.Proofs.YtkonljmmdifnaaaGreat.V
open Go.RowKit
set_option maxRecDepth 100000
attribute [local go_sem] Option.toList_some Option.toList_none

attribute [local go_sem] decide_true in
set_option maxHeartbeats 8000000 in
theorem rOne_f (v : Version) (rk rv ra rz : Int) (c : Cover) (hc : c.ok) : Fun Tryz.prog 93 [.agg v.flat, .agg [int rk, int rv, int ra, int rz], .agg c.flat] (.tup [int (oneP v rk rv ra rz c).1, int (oneP v rk rv ra rz c).2]) := by
  by_cases hok : (v.okB && riskRight rk rv ra rz && c.right) = true
  · simp only [Bool.and_eq_true] at hok
    obtain ⟨⟨o1, o2⟩, o3⟩ := hok
    have hr := right_of o3
    have hf := facs_nn o1 o2 o3
    have hz := okB_iff.1 o1
    have hk : 0 ≤ rk ∧ rk < 4 ∧ 1 ≤ rv ∧ rv ≤ 1000000000000000 ∧ 0 ≤ rz := by simp [riskRight] at o2; omega
    by_cases hzz : (v.zone.length : Int) ≤ rz
    · have e : oneP v rk rv ra rz c = (0, 7) := by rw [oneP, if_neg (by simp [o1, o2, o3]), if_pos hzz]
      rw [e]
      refine fun_W mixed Tryz.func93 rfl (Nat.le_of_ble_eq_true rfl) (by kernel_rfl) fun cx hN hR hF hL => ?_; apply args_k; (case hA => (simp only [go_sem, ↓reduceIte]; rfl))
      (repeat' first|((try (revert K;refine bK ?_));refine' run (I o1 (I o2 (I o3 (I (eq_true hzz) (decide_eq_true hzz))))) ?_;(repeat' first|exact True.intro|refine Lv.mk ?_ ?_|(refine oK ?_;intro K hK)|intro hq);all_goals refine Lf.mk ?_)|refine callZ cl131 (rVersion_f v) ?_|refine callZ cl128 (ref06_f _ _ _ _) ?_|refine callZ cl132 (ref08_f c hc) ?_)
    · have e : oneP v rk rv ra rz c = if (bpC rv (facs v rk ra rz c)).2 = 0 then (max (bpC rv (facs v rk ra rz c)).1 v.min, 0) else (0, (bpC rv (facs v rk ra rz c)).2) := by rw [oneP, if_neg (by simp [o1, o2, o3]), if_neg hzz]
      rw [e]
      have z1 : v.zone[rz.toNat]? = some ((v.zone[rz.toNat]?).getD 0) := by rw [List.getElem?_eq_getElem (by omega)]; rfl
      have z2 : v.peril[c.peril.toNat]? = some ((v.peril[c.peril.toNat]?).getD 0) := by rw [List.getElem?_eq_getElem (by omega)]; rfl
      have hL := facs_len v rk ra rz c
      unfold facs at *
      generalize (v.zone[rz.toNat]?).getD 0 = z at *
      generalize (v.peril[c.peril.toNat]?).getD 0 = p at *
      have b1 : 0 ≤ rz := by omega
      have b2 : rz < (v.zone.length : Int) := by omega
      have b3 : 0 ≤ c.peril := by omega
      have b4 : c.peril < (v.peril.length : Int) := by omega
      have kb := rBand_f v.age ra
      have hB : [int v.from_, int v.b0, int v.b1, int v.b2, int v.b3, .sl false 2 (v.age.map Band.flat), ints v.zone, ints v.peril, int v.min][1 + rk.toNat]? = some (int (([v.b0, v.b1, v.b2, v.b3][rk.toNat]?).getD 0)) := by
        have h4 : rk = 0 ∨ rk = 1 ∨ rk = 2 ∨ rk = 3 := by omega
        rcases h4 with rfl | rfl | rfl | rfl <;> rfl
      generalize ([v.b0, v.b1, v.b2, v.b3][rk.toNat]?).getD 0 = b at *
      generalize hbr : bandR ra v.age = br at *
      have b5 : 0 ≤ rk := by omega
      have b6 : rk < 4 := by omega
      refine fun_W mixed Tryz.func93 rfl (Nat.le_of_ble_eq_true rfl) (by kernel_rfl) fun cx hN hR hF hL => ?_; apply args_k; (case hA => (simp only [go_sem, ↓reduceIte]; rfl))
      (repeat' first|((try (revert K;refine bK ?_));refine' run (I o1 (I o2 (I o3 (I (eq_false hzz) (I (decide_eq_false hzz) (I z1 (I z2 hB))))))) ?_;(repeat' first|exact True.intro|refine Lv.mk ?_ ?_|(refine oK ?_;intro K hK)|intro hq);all_goals refine Lf.mk ?_)|refine callZ cl131 (rVersion_f v) ?_|refine callZ cl128 (ref06_f _ _ _ _) ?_|refine callZ cl132 (ref08_f c hc) ?_|refine callZ cl133 (kb) ?_)
      refine loopW mixed (σ := {s : Nat × Int // s.1 ≤ 5 ∧ 0 ≤ s.2 ∧ s.2 ≤ 4000000000000000000 ∧ bpC rv [b, br, z, p, c.share] = bpC s.2 ([b, br, z, p, c.share].drop s.1)}) (fun s => ⟨[(10, int s.1.1), (9, int s.1.2), (8, .osl 3192 1 0 5), (3, .ptr 0 0), (6, int 0), (7, int 0)], [(3192, some ⟨3, [int b, int br, int z, int p, int c.share]⟩), (0, some ⟨67, v.flat⟩)], 6000⟩) (fun s => 5 - s.1.1) id ⟨(0, rv), by omega, by show 0 ≤ rv; omega, by show rv ≤ _; omega, rfl⟩ (by rw [hN]; kernel_rfl) ?_ ?_
      · simp only [go_sem, ↓reduceIte, hF]
        all_goals rfl
      · rintro ⟨⟨i, m⟩, h1, h2, h3, h4⟩
        simp only at h1 h2 h3 h4 ⊢
        rw [h4]
        by_cases hi : i < 5
        · have hiL : i < [b, br, z, p, c.share].length := hi
          have e0 : [int b, int br, int z, int p, int c.share] = [b, br, z, p, c.share].map fun n => int n := rfl
          have e1 : [int b, int br, int z, int p, int c.share][i]? = some (int ([b, br, z, p, c.share][i]'hiL)) := by rw [e0, List.getElem?_map, List.getElem?_eq_getElem hiL]; rfl
          have e2 : IntKind.i64.wrap ((i : Int) + 1) = ((i + 1 : Nat) : Int) := by rw [wrap_id] <;> omega
          have e3 : ((i : Int) < 5) = True := eq_true (by omega)
          have hx := hf _ (List.getElem_mem hiL)
          rw [List.drop_eq_getElem_cons hiL] at h4 ⊢
          generalize [b, br, z, p, c.share][i]'hiL = x at *
          have k := rBp_f m x h2 (by omega) hx.1 (by omega)
          have hv := evenV_bd (c := 10000) h2 hx.1 (by omega)
          rw [show ∀ l, bpC m (x :: l) = if evenE m x 10000 = 0 then bpC (evenV m x 10000) l else (0, evenE m x 10000) from fun _ => rfl] at h4 ⊢
          by_cases hE : evenE m x 10000 = 0
          · rw [if_pos hE] at h4 ⊢
            (repeat' first|((try (revert K;refine bK ?_));refine' run (I e1 (I e2 (I e3 hE))) ?_;(repeat' first|exact True.intro|refine Lv.mk ?_ ?_|(refine oK ?_;intro K hK)|intro hq);all_goals refine Lf.mk ?_)|refine callZ cl134 (k) ?_)
            refine ⟨⟨(i + 1, evenV m x 10000), by show i + 1 ≤ 5; omega, hv.1, hv.2, rfl⟩, id, ?_, by show 5 - (i + 1) < 5 - i; omega⟩
            simp only [go_sem, ↓reduceIte, hF]
          · rw [if_neg hE, if_neg hE]
            (repeat' first|((try (revert K;refine bK ?_));refine' run (I e1 (I e2 (I e3 (I (eq_false hE) (decide_eq_false hE))))) ?_;(repeat' first|exact True.intro|refine Lv.mk ?_ ?_|(refine oK ?_;intro K hK)|intro hq);all_goals refine Lf.mk ?_)|refine callZ cl134 (k) ?_)
        · obtain rfl : i = 5 := by omega
          have e5 : [b, br, z, p, c.share].drop 5 = [] := rfl
          rw [e5, bpC, if_pos rfl]
          by_cases hm : m < v.min
          · have e6 : max m v.min = v.min := by omega
            simp only [e6]
            (try ((try (revert K;refine bK ?_));refine' run (I (eq_true hm) (decide_eq_true hm)) ?_;(repeat' first|exact True.intro|refine Lv.mk ?_ ?_|(refine oK ?_;intro K hK)|intro hq);all_goals refine Lf.mk ?_))
          · have e6 : max m v.min = m := by omega
            simp only [e6]
            (try ((try (revert K;refine bK ?_));refine' run (I (eq_false hm) (decide_eq_false hm)) ?_;(repeat' first|exact True.intro|refine Lv.mk ?_ ?_|(refine oK ?_;intro K hK)|intro hq);all_goals refine Lf.mk ?_))
  · have hok : (v.okB && riskRight rk rv ra rz && c.right) = false := by simpa using hok
    have e : oneP v rk rv ra rz c = (0, 1) := by rw [oneP, if_pos hok]
    rw [e]
    have h' : (!v.okB || !riskRight rk rv ra rz || !c.right) = true := by revert hok; simp; grind
    refine fun_W mixed Tryz.func93 rfl (Nat.le_of_ble_eq_true rfl) (by kernel_rfl) fun cx hN hR hF hL => ?_; apply args_k; (case hA => (simp only [go_sem, ↓reduceIte]; rfl))
    (repeat' first|((try (revert K;refine bK ?_));refine' run h' ?_;(repeat' first|exact True.intro|refine Lv.mk ?_ ?_|(refine oK ?_;intro K hK)|intro hq);all_goals refine Lf.mk ?_)|refine callZ cl131 (rVersion_f v) ?_|refine callZ cl128 (ref06_f _ _ _ _) ?_|refine callZ cl132 (ref08_f c hc) ?_)
end Go.Proofs.YtkonljmmdifnaaaGreat.V
set_option linter.unusedSimpArgs false
set_option linter.unusedVariables false
namespace Go.Proofs.YtkonljmmdifnaaaGreat.V
open Go.RowKit
set_option maxRecDepth 100000
attribute [local go_sem] Option.toList_some Option.toList_none

theorem fz_ints {box : Boxes} {b n : Nat} {t : TypeId} {L : List Int} (d : Nat) (h : bget box b = some ⟨t, rowC irow L⟩) (hn : n = L.length) : fz box (d + 1) (.osl b 1 0 n) (ints L) := by
  rw [fz_osl, h]
  exact ⟨⟨rfl, rfl, by omega, by simp [hn], rows_len (F := irow) (fun _ => rfl) L⟩, fzo_rows (F := irow) (k := 1) (fun _ => rfl) (fun _ => by simp [irow]) L hn⟩
/-- The first reason why a cover has no price; 0: there is none. -/
def errC (v : Version) (rk rv ra rz : Int) : List Cover → Int
  | [] => 0
  | c :: l => if (oneP v rk rv ra rz c).2 = 0 then errC v rk rv ra rz l else (oneP v rk rv ra rz c).2
def prices (v : Version) (rk rv ra rz : Int) (l : List Cover) : List Int := l.map fun c => (oneP v rk rv ra rz c).1
def yearE (e : Int) (s : Option Int) : Int × Int := if e = 0 then (match s with | some n => (n, 0) | none => (0, 5)) else (0, e)
theorem year_no (v : Version) (rk rv ra rz n : Int) : ∀ (l : List Cover), yearF v rk rv ra rz n false l = yearE (errC v rk rv ra rz l) none
  | [] => rfl
  | c :: l => by
    rw [yearF_cons, errC]
    split
    · rw [if_neg (by simp), if_neg (by simp), year_no v rk rv ra rz n l]
    · rename_i h; simp [yearE, h]
theorem year_yes (v : Version) (rk rv ra rz : Int) : ∀ (l : List Cover) (n : Int), yearF v rk rv ra rz n true l = yearE (errC v rk rv ra rz l) (sumC n (prices v rk rv ra rz l))
  | [], _ => rfl
  | c :: l, n => by
    rw [yearF_cons, errC, prices, List.map_cons, sumC]
    split
    · by_cases ho : 4000000000000000000 - n < (oneP v rk rv ra rz c).1
      · rw [if_neg (by simp; exact ho), if_pos rfl, if_pos ho, year_no]
      · rw [if_pos ⟨rfl, ho⟩, if_neg ho, year_yes v rk rv ra rz l]; rfl
    · rename_i h; simp [yearE, h]
theorem year_eq (v : Version) (rk rv ra rz : Int) (l : List Cover) : yearP v rk rv ra rz l = yearE (errC v rk rv ra rz l) (sumC 0 (prices v rk rv ra rz l)) := year_yes v rk rv ra rz l 0
set_option maxHeartbeats 4000000 in
theorem rYear_f (v : Version) (rk rv ra rz : Int) (l : List Cover) (f : Bool) (hl : l.length ≤ 100000) (hc : ∀ c, c ∈ l → c.ok) : Fun Tryz.prog 62 [.agg v.flat, .agg [int rk, int rv, int ra, int rz], .sl f 5 (l.map Cover.flat)] (.tup [int (yearP v rk rv ra rz l).1, int (yearP v rk rv ra rz l).2]) := by
  rw [year_eq]
  have kS := rSum_f (prices v rk rv ra rz l) (fun x hx => by
    rw [prices, List.mem_map] at hx
    obtain ⟨c, -, rfl⟩ := hx
    exact oneP_bd v rk rv ra rz c)
  generalize he : errC v rk rv ra rz l = e
  refine fun_W mixed Tryz.func62 rfl (Nat.le_of_ble_eq_true rfl) (by kernel_rfl) fun cx hN hR hF hL => ?_; apply args_k; (case hA => (simp only [go_sem, ↓reduceIte]; rfl))
  (try ((try (revert K;refine bK ?_));refine' run trivial ?_;(repeat' first|exact True.intro|refine Lv.mk ?_ ?_|(refine oK ?_;intro K hK)|intro hq);all_goals refine Lf.mk ?_))
  refine loop_nil 8 6001 1 3 rfl (Nat.le_of_ble_eq_true rfl) ?_
  refine loopW mixed (σ := {i : Nat // i ≤ l.length ∧ errC v rk rv ra rz (l.drop i) = e}) (fun i => ⟨[(8, .osl 6001 1 0 i.1), (9, int i.1), (2, .sl f 5 (l.map Cover.flat)), (3, .ptr 0 0), (4, .ptr 8 0), (6, int 0), (7, int 0)], [(0, some ⟨67, v.flat⟩), (8, some ⟨25, [int rk, int rv, int ra, int rz]⟩), (6001, some ⟨3, rowC irow (prices v rk rv ra rz (l.take i.1))⟩)], 7000⟩) (fun i => l.length - i.1) id ⟨0, Nat.zero_le _, he⟩ (by rw [hN]; kernel_rfl) ?_ ?_
  · simp only [go_sem, ↓reduceIte, hF]
    exact ⟨rfl, rfl⟩
  · rintro ⟨i, h1, h2⟩
    simp only at h1 h2 ⊢
    by_cases hi : i < l.length
    · have e1 : (l.map Cover.flat)[i]? = some (l[i].flat) := by rw [List.getElem?_map, List.getElem?_eq_getElem hi]; rfl
      have e2 : IntKind.i64.wrap ((i : Int) + 1) = ((i + 1 : Nat) : Int) := by rw [wrap_id] <;> omega
      have e3 := take_snoc hi
      have hci := hc l[i] (List.getElem_mem hi)
      rw [List.drop_eq_getElem_cons hi, errC] at h2
      have hpl : (prices v rk rv ra rz (l.take i)).length = i := by rw [prices, List.length_map, List.length_take]; omega
      have hps : prices v rk rv ra rz (l.take (i + 1)) = prices v rk rv ra rz (l.take i) ++ [(oneP v rk rv ra rz l[i]).1] := by rw [e3, prices, List.map_append]; rfl
      have k := rOne_f v rk rv ra rz l[i] hci
      generalize l[i] = c at *
      generalize oneP v rk rv ra rz c = o at *
      generalize prices v rk rv ra rz (l.take i) = O at *
      by_cases ho : o.2 = 0
      · rw [if_pos ho] at h2
        (repeat' first|((try (revert K;refine bK ?_));refine' run (I e1 (I e2 ho)) ?_;(repeat' first|exact True.intro|refine Lv.mk ?_ ?_|(refine oK ?_;intro K hK)|intro hq);all_goals refine Lf.mk ?_)|refine callZ cl93 (k) ?_)
        · refine ⟨⟨i + 1, hi, h2⟩, nm1 6001 10024, ?_, by show l.length - (i + 1) < l.length - i; omega⟩
          simp only [hps]
          simp only [go_sem, ↓reduceIte, hF, List.map_append, List.all_append]
          simp [rowC, irow]
        · refine ⟨by rw [← hpl]; have := rows_count (F := irow) (k := 1) (fun _ => rfl) O; rw [Nat.mul_one] at this; exact this, ?_⟩
          simp [maxLen]; omega
      · rw [if_neg ho] at h2
        subst h2
        (repeat' first|((try (revert K;refine bK ?_));refine' run (I e1 (I e2 (I (eq_false ho) (decide_eq_false ho)))) ?_;(repeat' first|exact True.intro|refine Lv.mk ?_ ?_|(refine oK ?_;intro K hK)|intro hq);all_goals refine Lf.mk ?_)|refine callZ cl93 (k) ?_)
        simp [yearE, ho]
    · obtain rfl : i = l.length := by omega
      rw [List.drop_length] at h2
      obtain rfl : e = 0 := h2.symm
      rw [List.take_length]
      have hOl : l.length = (prices v rk rv ra rz l).length := by rw [prices, List.length_map]
      generalize prices v rk rv ra rz l = O at *
      cases hs : sumC 0 O <;> rw [hs] at kS <;> simp only [yearE, if_true] at kS ⊢
      all_goals (try ((try (revert K;refine bK ?_));refine' run trivial ?_;(repeat' first|exact True.intro|refine Lv.mk ?_ ?_|(refine oK ?_;intro K hK)|intro hq);all_goals refine Lf.mk ?_))
      all_goals (apply callF' [6001] cl94 (kS); (case hp | hl | hk => (simp only [go_sem, ↓reduceIte]; try rfl)); (try (case hfz => (first | (simp only [go_sem]; done) | (simp [go_sem, fzo]; done)))))
      · exact ⟨fz_ints 5 rfl hOl, trivial⟩
      · (try ((try (revert K;refine bK ?_));refine' run trivial ?_;(repeat' first|exact True.intro|refine Lv.mk ?_ ?_|(refine oK ?_;intro K hK)|intro hq);all_goals refine Lf.mk ?_))
      · exact ⟨fz_ints 5 rfl hOl, trivial⟩
      · (try ((try (revert K;refine bK ?_));refine' run trivial ?_;(repeat' first|exact True.intro|refine Lv.mk ?_ ?_|(refine oK ?_;intro K hK)|intro hq);all_goals refine Lf.mk ?_))
end Go.Proofs.YtkonljmmdifnaaaGreat.V
