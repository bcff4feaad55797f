/- Division of two words by one, plain. -/
import Derived.Test.YtonjibjghijacaaLen
namespace Go.Proofs.Ytonjibjghijacaa
set_option linter.unusedVariables false
set_option linter.unusedSimpArgs false
set_option linter.unnecessarySimpa false
open Go

/-- A guess q of (u * 2^32 + d) / y, y = y1 * 2^32 + y0, and what it leaves of u. -/
structure Kn (u d y1 y0 q r : Int) : Prop where
  q0 : 0 ≤ q
  r0 : 0 ≤ r
  r1 : r < 4294967296
  sum : q * y1 + r = u
  up : u * 4294967296 + d < (q + 1) * (y1 * 4294967296 + y0)
structure Kd (u d y1 y0 : Int) : Prop where
  u0 : 0 ≤ u
  u1 : u < y1 * 4294967296 + y0
  d0 : 0 ≤ d
  d1 : d < 4294967296
  y1l : 2147483648 ≤ y1
  y1h : y1 < 4294967296
  y0l : 0 ≤ y0
  y0h : y0 < 4294967296
theorem kn_init {u d y1 y0 : Int} (h : Kd u d y1 y0) : Kn u d y1 y0 (u / y1) (u - u / y1 * y1) ∧ u / y1 < 18446744073709551616 := by
  obtain ⟨u0, u1, d0, d1, a1, a2, b1, b2⟩ := h
  have e := Int.mul_ediv_add_emod u y1
  have m0 := Int.emod_nonneg u (show y1 ≠ 0 by omega)
  have m1 := Int.emod_lt_of_pos u (show 0 < y1 by omega)
  have q0 := Int.ediv_nonneg u0 (show 0 ≤ y1 by omega)
  have ql : u / y1 ≤ u := Int.ediv_le_self y1 u0
  have e2 : u / y1 * y1 = y1 * (u / y1) := Int.mul_comm _ _
  generalize u / y1 = q at *
  generalize u % y1 = m at *
  refine ⟨⟨q0, by omega, by omega, by omega, ?_⟩, by omega⟩
  have e3 : (q + 1) * (y1 * 4294967296 + y0) = (y1 * q) * 4294967296 + q * y0 + y1 * 4294967296 + y0 := by
    rw [Int.add_mul, Int.mul_add, Int.one_mul, ← Int.mul_assoc, Int.mul_comm q y1]; omega
  have h4 := Int.mul_nonneg q0 b1
  rw [e3]
  omega
theorem kn_exp (q y1 y0 : Int) : q * (y1 * 4294967296 + y0) = q * y1 * 4294967296 + q * y0 := by
  rw [Int.mul_add, ← Int.mul_assoc]
theorem div_is {N Y q : Int} (hY : 0 < Y) (h1 : q * Y ≤ N) (h2 : N < (q + 1) * Y) : q = N / Y := by
  have a := (Int.le_ediv_iff_mul_le hY).2 h1
  have b := (Int.ediv_lt_iff_lt_mul hY).2 h2
  omega
theorem kn_no {u d y1 y0 q r : Int} (hd : Kd u d y1 y0) (h : Kn u d y1 y0 q r) (h2 : q * y0 ≤ 4294967296 * r + d) : q = (u * 4294967296 + d) / (y1 * 4294967296 + y0) := by
  obtain ⟨u0, u1, d0, d1, a1, a2, b1, b2⟩ := hd
  obtain ⟨q0, r0, r1, hs, hu⟩ := h
  refine div_is (by omega) ?_ hu
  rw [kn_exp]
  generalize q * y1 = A at *
  generalize q * y0 = B at *
  omega
theorem kn_gt {u d y1 y0 q r : Int} (hd : Kd u d y1 y0) (h : Kn u d y1 y0 q r) (h2 : 4294967296 ≤ q ∨ 4294967296 * r + d < q * y0) : u * 4294967296 + d < q * (y1 * 4294967296 + y0) ∧ 1 ≤ q := by
  obtain ⟨u0, u1, d0, d1, a1, a2, b1, b2⟩ := hd
  obtain ⟨q0, r0, r1, hs, hu⟩ := h
  have key : u * 4294967296 + d < q * (y1 * 4294967296 + y0) := by
    rcases h2 with h2 | h2
    · have := Int.mul_le_mul_of_nonneg_right h2 (show 0 ≤ y1 * 4294967296 + y0 by omega)
      omega
    · rw [kn_exp]
      generalize q * y1 = A at *
      generalize q * y0 = B at *
      omega
  refine ⟨key, ?_⟩
  rcases (show q = 0 ∨ 1 ≤ q by omega) with rfl | h
  · rw [Int.zero_mul] at key; omega
  · exact h
theorem kn_yes {u d y1 y0 q r : Int} (hd : Kd u d y1 y0) (h : Kn u d y1 y0 q r) (h2 : 4294967296 ≤ q ∨ 4294967296 * r + d < q * y0) (h3 : r + y1 < 4294967296) : Kn u d y1 y0 (q - 1) (r + y1) := by
  obtain ⟨g1, g2⟩ := kn_gt hd h h2
  obtain ⟨u0, u1, d0, d1, a1, a2, b1, b2⟩ := hd
  obtain ⟨q0, r0, r1, hs, hu⟩ := h
  refine ⟨by omega, by omega, h3, ?_, by rw [show q - 1 + 1 = q from by omega]; exact g1⟩
  rw [Int.sub_mul]
  omega
theorem kn_brk {u d y1 y0 q r : Int} (hd : Kd u d y1 y0) (h : Kn u d y1 y0 q r) (h2 : 4294967296 ≤ q ∨ 4294967296 * r + d < q * y0) (h3 : 4294967296 ≤ r + y1) : q - 1 = (u * 4294967296 + d) / (y1 * 4294967296 + y0) := by
  obtain ⟨g1, g2⟩ := kn_gt hd h h2
  obtain ⟨u0, u1, d0, d1, a1, a2, b1, b2⟩ := hd
  obtain ⟨q0, r0, r1, hs, hu⟩ := h
  refine div_is (by omega) ?_ (by rw [show q - 1 + 1 = q from by omega]; exact g1)
  have hs2 : (q - 1) * y1 + (r + y1) = u := by rw [Int.sub_mul]; omega
  rw [kn_exp]
  have hq : q - 1 < 4294967296 := by
    refine Int.not_le.1 fun hq => ?_
    have := Int.mul_le_mul_of_nonneg_right hq (show 0 ≤ y1 by omega)
    omega
  have hb : (q - 1) * y0 ≤ 4294967295 * 4294967295 := Int.mul_le_mul (by omega) (by omega) b1 (by decide)
  generalize (q - 1) * y1 = A at *
  generalize (q - 1) * y0 = B at *
  omega
/-- What is left behind a division. -/
theorem rest_is {N Y q : Int} (hY : 0 < Y) (h : q = N / Y) : q * Y ≤ N ∧ N < q * Y + Y := by
  have e := Int.mul_ediv_add_emod N Y
  have m0 := Int.emod_nonneg N (show Y ≠ 0 by omega)
  have m1 := Int.emod_lt_of_pos N hY
  rw [h, Int.mul_comm]
  omega
theorem or_add {a b k : Nat} (ha : a % 2 ^ k = 0) (hb : b < 2 ^ k) (h : a + b < 18446744073709551616) : bits .or .u64 (a : Int) (b : Int) = ((a + b : Nat) : Int) := by
  rw [bits_or_u64_nat a b (by omega) (by omega)]
  have h1 := Nat.div_add_mod a (2 ^ k)
  rw [ha, Nat.add_zero] at h1
  rw [← h1, Nat.two_pow_add_eq_or_of_lt hb]
/-- The numbers of the long way, from hi, lo, y moved up by k. -/
theorem long_is {hi lo y : Int} {k : Nat} (h0 : 0 ≤ hi) (l0 : 0 ≤ lo) (l1 : lo < 18446744073709551616) (hlt : hi < y) (hk : k ≤ 63) (hy : y * 2 ^ k < 18446744073709551616) :
    IntKind.u64.wrap (hi * 2 ^ k) = hi * 2 ^ k ∧ ∃ u L : Int, bits .or .u64 (hi * 2 ^ k) (lo / 2 ^ (64 - k)) = u ∧ IntKind.u64.wrap (lo * 2 ^ k) = L ∧ 0 ≤ u ∧ u < y * 2 ^ k ∧ 0 ≤ L ∧ L < 18446744073709551616 ∧ u * 18446744073709551616 + L = (hi * 18446744073709551616 + lo) * 2 ^ k := by
  obtain ⟨a, rfl⟩ := Int.eq_ofNat_of_zero_le h0
  obtain ⟨b, rfl⟩ := Int.eq_ofNat_of_zero_le l0
  obtain ⟨c, rfl⟩ := Int.eq_ofNat_of_zero_le (show 0 ≤ y by omega)
  have e64 : (2 : Nat) ^ (64 - k) * 2 ^ k = 18446744073709551616 := by rw [← Nat.pow_add, show 64 - k + k = 64 from by omega]
  have p1 : 0 < 2 ^ k := Nat.pow_pos (by omega)
  have p2 : 0 < 2 ^ (64 - k) := Nat.pow_pos (by omega)
  have c1 : ((c * 2 ^ k : Nat) : Int) = (c : Int) * 2 ^ k := by simp
  have c2 : ((a * 2 ^ k : Nat) : Int) = (a : Int) * 2 ^ k := by simp
  have c3 : ((b * 2 ^ k : Nat) : Int) = (b : Int) * 2 ^ k := by simp
  have c4 : ((b / 2 ^ (64 - k) : Nat) : Int) = (b : Int) / 2 ^ (64 - k) := by simp
  have hac : (a + 1) * 2 ^ k ≤ c * 2 ^ k := Nat.mul_le_mul_right _ (by omega)
  rw [Nat.add_mul, Nat.one_mul] at hac
  rw [← c1] at hy
  have hb1 : b / 2 ^ (64 - k) < 2 ^ k := by
    rw [Nat.div_lt_iff_lt_mul p2, Nat.mul_comm, e64]; omega
  have hdm : 2 ^ (64 - k) * (b / 2 ^ (64 - k)) + b % 2 ^ (64 - k) = b := Nat.div_add_mod _ _
  have hm : b % 2 ^ (64 - k) < 2 ^ (64 - k) := Nat.mod_lt _ p2
  have hL : b * 2 ^ k = b / 2 ^ (64 - k) * 18446744073709551616 + b % 2 ^ (64 - k) * 2 ^ k := by
    rw [← e64, ← Nat.mul_assoc, ← Nat.add_mul, Nat.mul_comm (b / 2 ^ (64 - k)), hdm]
  have hml : b % 2 ^ (64 - k) * 2 ^ k < 18446744073709551616 := by rw [← e64]; exact Nat.mul_lt_mul_of_pos_right hm p1
  have hor := or_add (a := a * 2 ^ k) (b := b / 2 ^ (64 - k)) (k := k) (Nat.mul_mod_left _ _) hb1 (by omega)
  rw [c2, c4] at hor
  refine ⟨by rw [← c2, Mul64.wrapN _ (by omega)], _, _, hor, by rw [← c3, Mul64.wrapM], by omega, by rw [← c1]; omega, by omega, by omega, ?_⟩
  have e9 : ((a : Int) * 18446744073709551616 + b) * 2 ^ k = (((a * 18446744073709551616 + b) * 2 ^ k : Nat) : Int) := by simp
  rw [e9, Nat.add_mul, hL, show a * 18446744073709551616 * 2 ^ k = a * 2 ^ k * 18446744073709551616 from by rw [Nat.mul_right_comm]]
  have hmod : (b / 2 ^ (64 - k) * 18446744073709551616 + b % 2 ^ (64 - k) * 2 ^ k) % 18446744073709551616 = b % 2 ^ (64 - k) * 2 ^ k := by omega
  rw [hmod]
  omega
/-- And back. -/
theorem back_is {M y t Q : Int} {k : Nat} (hy : 0 < y) (h : M * 2 ^ k = Q * (y * 2 ^ k) + t) (t0 : 0 ≤ t) (t1 : t < y * 2 ^ k) : Q = M / y ∧ t / 2 ^ k = M % y := by
  have p1 : (0 : Int) < 2 ^ k := Int.pow_pos (by decide)
  have e : t = (M - Q * y) * 2 ^ k := by rw [Int.sub_mul, Int.mul_assoc]; omega
  have g0 : 0 ≤ M - Q * y := by
    refine Int.not_lt.1 fun hn => ?_
    have := Int.mul_neg_of_neg_of_pos hn p1
    omega
  have g1 : M - Q * y < y := by
    refine Int.not_le.1 fun hn => ?_
    have := Int.mul_le_mul_of_nonneg_right hn (Int.le_of_lt p1)
    omega
  have hQ : Q = M / y := div_is hy (by omega) (by rw [Int.add_mul]; omega)
  refine ⟨hQ, ?_⟩
  rw [e, Int.mul_ediv_cancel _ (by omega)]
  have := Int.mul_ediv_add_emod M y
  rw [← hQ, Int.mul_comm y Q] at this
  omega
end Go.Proofs.Ytonjibjghijacaa
