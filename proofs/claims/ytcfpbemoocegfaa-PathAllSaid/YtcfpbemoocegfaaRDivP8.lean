/- Walk over the document's division, bit by bit. -/
import Derived.Test.YtcfpbemoocegfaaWide8
namespace Go.Proofs.Ytcfpbemoocegfaa
set_option linter.unusedVariables false
set_option linter.unusedSimpArgs false
set_option linter.unnecessarySimpa false
open Go.RowKit

/-- Behind the first bits p: the quotient, what is left, and whether the quotient is too great. -/
def DRel (p d q l : Int) (o : Bool) : Prop := 0 ≤ p ∧ l = p % d ∧ 0 ≤ q ∧ q < 18446744073709551616 ∧ (o = false → q = p / d) ∧ (o = true → 18446744073709551616 ≤ p / d)
theorem div2 {p d bit : Int} (hd : 0 < d) (hb : 0 ≤ bit ∧ bit ≤ 1) : (d ≤ 2 * (p % d) + bit → (2 * p + bit) / d = 2 * (p / d) + 1 ∧ (2 * p + bit) % d = 2 * (p % d) + bit - d) ∧ (2 * (p % d) + bit < d → (2 * p + bit) / d = 2 * (p / d) ∧ (2 * p + bit) % d = 2 * (p % d) + bit) := by
  have e := Int.mul_ediv_add_emod p d
  have m0 := Int.emod_nonneg p (show d ≠ 0 by omega)
  have m1 := Int.emod_lt_of_pos p hd
  have key : ∀ q r : Int, 2 * p + bit = d * q + r → 0 ≤ r → r < d → (2 * p + bit) / d = q ∧ (2 * p + bit) % d = r := by
    intro q r h h0 h1
    rw [h]
    refine ⟨?_, ?_⟩
    · rw [Int.add_comm, Int.add_mul_ediv_left _ _ (by omega), Int.ediv_eq_zero_of_lt h0 h1, Int.zero_add]
    · rw [Int.add_comm, Int.add_mul_emod_self_left, Int.emod_eq_of_lt h0 h1]
  refine ⟨fun h => key _ _ ?_ (by omega) (by omega), fun h => key _ _ ?_ (by omega) h⟩
  · rw [Int.mul_add, Int.mul_left_comm]; omega
  · rw [Int.mul_left_comm]; omega
theorem drel_step {p d q l bit : Int} {o : Bool} (hd : 0 < d) (hb : 0 ≤ bit ∧ bit ≤ 1) (h : DRel p d q l o) {q' l' : Int} {o' : Bool}
    (hl : (d ≤ 2 * l + bit ∧ l' = 2 * l + bit - d) ∨ (2 * l + bit < d ∧ l' = 2 * l + bit)) (ho : o' = true ∨ (o' = o ∧ q < 9223372036854775808)) (hq0 : 0 ≤ q') (hq1 : q' < 18446744073709551616)
    (hq : q < 9223372036854775808 → q' = 2 * q + if d ≤ 2 * l + bit then 1 else 0) (ho' : o' = true → o = true ∨ 9223372036854775808 ≤ q) : DRel (2 * p + bit) d q' l' o' := by
  obtain ⟨p0, rfl, q0, q1, h1, h2⟩ := h
  obtain ⟨a, b⟩ := div2 (p := p) hd hb
  have hdq : (2 * p + bit) / d = 2 * (p / d) + if d ≤ 2 * (p % d) + bit then 1 else 0 := by
    rcases hl with ⟨g, _⟩ | ⟨g, _⟩
    · rw [if_pos g]; exact (a g).1
    · rw [if_neg (by omega)]; rw [(b g).1]; omega
  refine ⟨by omega, ?_, hq0, hq1, fun h => ?_, fun h => ?_⟩
  · rcases hl with ⟨g, rfl⟩ | ⟨g, rfl⟩
    · exact (a g).2.symm
    · exact (b g).2.symm
  · rcases ho with h' | ⟨h', hlt⟩
    · rw [h] at h'; cases h'
    · rw [hdq, ← h1 (h' ▸ h)]
      exact hq hlt
  · rw [hdq]
    rcases ho' h with h' | h'
    · have := h2 h'
      split <;> omega
    · cases o with
      | true => have := h2 rfl; split <;> omega
      | false => have := h1 rfl; split <;> omega
/-- A bit of a number in four parts. -/
theorem limb_bit {N w0 w1 w2 w3 : Int} (h : Limbs N w0 w1 w2 w3) : 0 ≤ N ∧ N < 340282366920938463463374607431768211456 ∧ ∀ j : Nat, j ≤ 127 → ∃ l : Int, [w0, w1, w2, w3][j / 32]? = some l ∧ 0 ≤ l ∧ l < 4294967296 ∧ l / 2 ^ (j % 32) % 2 = N / 2 ^ j % 2 := by
  obtain ⟨⟨a0, a1⟩, ⟨b0, b1⟩, ⟨c0, c1⟩, ⟨d0, d1⟩, rfl⟩ := h
  refine ⟨by omega, by omega, fun j hj => ?_⟩
  have key : ∀ (l hi lo : Int) (m k : Nat), k < 32 → 0 ≤ lo → lo < 2 ^ m → 0 ≤ hi → (l / 2 ^ k) % 2 = ((hi * 4294967296 + l) * 2 ^ m + lo) / 2 ^ (m + k) % 2 := by
    intro l hi lo m k hk l0 l1 h0
    have p1 : (0 : Int) < 2 ^ m := Int.pow_pos (by decide)
    have p2 : (0 : Int) < 2 ^ k := Int.pow_pos (by decide)
    rw [Int.pow_add, ← Int.ediv_ediv_of_nonneg (Int.le_of_lt p1), Int.add_comm, Int.add_mul_ediv_right _ _ (by omega), Int.ediv_eq_zero_of_lt l0 l1, Int.zero_add]
    have e : (4294967296 : Int) = 2 ^ (31 - k) * 2 * 2 ^ k := by
      rw [Int.mul_assoc, Int.mul_comm 2, ← Int.mul_assoc, ← Int.pow_add, show 31 - k + k = 31 from by omega]; decide
    rw [e, ← Int.mul_assoc, Int.add_comm, Int.add_mul_ediv_right _ _ (by omega), ← Int.mul_assoc, Int.add_comm, Int.mul_comm _ 2, Int.add_comm]
    omega
  have hm : j / 32 = 0 ∨ j / 32 = 1 ∨ j / 32 = 2 ∨ j / 32 = 3 := by omega
  rcases hm with h | h | h | h
  · refine ⟨w0, by rw [h]; rfl, a0, a1, ?_⟩
    have := key w0 (w1 + w2 * 4294967296 + w3 * 18446744073709551616) 0 0 (j % 32) (by omega) (by decide) (by decide) (by omega)
    rw [this]
    have e : 0 + j % 32 = j := by omega
    rw [e, Int.pow_zero]
    congr 2; omega
  · refine ⟨w1, by rw [h]; rfl, b0, b1, ?_⟩
    have := key w1 (w2 + w3 * 4294967296) w0 32 (j % 32) (by omega) a0 (by rw [show (2 : Int) ^ 32 = 4294967296 from by decide]; exact a1) (by omega)
    rw [this]
    have e : 32 + j % 32 = j := by omega
    rw [e, show (2 : Int) ^ 32 = 4294967296 from by decide]
    congr 2; omega
  · refine ⟨w2, by rw [h]; rfl, c0, c1, ?_⟩
    have := key w2 w3 (w0 + w1 * 4294967296) 64 (j % 32) (by omega) (by omega) (by rw [show (2 : Int) ^ 64 = 18446744073709551616 from by decide]; omega) (by omega)
    rw [this]
    have e : 64 + j % 32 = j := by omega
    rw [e, show (2 : Int) ^ 64 = 18446744073709551616 from by decide]
    congr 2; omega
  · refine ⟨w3, by rw [h]; rfl, d0, d1, ?_⟩
    have := key w3 0 (w0 + w1 * 4294967296 + w2 * 18446744073709551616) 96 (j % 32) (by omega) (by omega) (by rw [show (2 : Int) ^ 96 = 79228162514264337593543950336 from by decide]; omega) (by omega)
    rw [this]
    have e : 96 + j % 32 = j := by omega
    rw [e, show (2 : Int) ^ 96 = 79228162514264337593543950336 from by decide]
    congr 2; omega
theorem pow_half {N : Int} (j : Nat) : N / 2 ^ j = 2 * (N / 2 ^ (j + 1)) + N / 2 ^ j % 2 := by
  have e : N / 2 ^ (j + 1) = N / 2 ^ j / 2 := by rw [Int.pow_succ, Int.ediv_ediv_of_nonneg (Int.le_of_lt (Int.pow_pos (by decide)))]
  rw [e]; omega
def DLoop (N d : Int) (q l o i : Value) : Prop := ∃ Q L : Int, ∃ O : Bool, q = .int .u64 Q ∧ l = .int .u64 L ∧ o = .bool O ∧ ((∃ j : Nat, j ≤ 127 ∧ i = .int .i64 j ∧ DRel (N / 2 ^ (j + 1)) d Q L O) ∨ (i = .int .i64 (-1) ∧ DRel N d Q L O))
end Go.Proofs.Ytcfpbemoocegfaa
