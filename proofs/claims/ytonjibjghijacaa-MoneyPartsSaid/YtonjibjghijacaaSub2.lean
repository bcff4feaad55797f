/- Walks over differences and products: the document's difference, Mul64, Mul. -/
import Derived.Test.YtonjibjghijacaaAdd
import Derived.Shelf.Bits.Mul64
namespace Go.Proofs.Ytonjibjghijacaa
set_option linter.unusedVariables false
set_option linter.unusedSimpArgs false
set_option linter.unnecessarySimpa false
open Go.RowKit

theorem rsub_any (a b : Int) (ha : U64 a) (hb : U64 b) (w : World) : Calls Try.prog 26 #[.int .u64 a, .int .u64 b] w fun e w' =>
    e = .returned (.tuple #[.int .u64 (subP a b).1, .int .i64 (subP a b).2]) ∧ w' = w := by
  obtain ⟨a0, a1⟩ := ha
  obtain ⟨b0, b1⟩ := hb
  unfold subP
  rcases (show b ≤ a ∨ a < b by omega) with h | h
  · rw [if_pos h]
    have e1 : IntKind.u64.wrap (a - b) = a - b := by unfold IntKind.wrap; simp [IntKind.bits, IntKind.signed]; omega
    go_enter Try.func26, Try.ntmps26
    go_wp2
    go_ret2
    exact ⟨rfl, rfl⟩
  · rw [if_neg (by omega)]
    go_enter Try.func26, Try.ntmps26
    go_wp2
    go_ret2
    exact ⟨rfl, rfl⟩
/-- Where the shelf's law of Mul64 lies in this program, in plain words. -/
def mulRen : Go.Shelf.Ren := ⟨fun | 264 => 33 | n => n, fun | 46 => 63 | 53 => 22 | n => n, fun | n => n⟩
theorem mulLay : Go.Proofs.Lays.n264 Try.prog mulRen := {
  mixed := by kernel_rfl
  f264 := Try.func33.trans (congrArg some (by kernel_rfl))
  t46 := Try.underlying63
  a46 := Try.isAgg63
  z46 := Try.sizeOf63
  v46 := Try.zeroValue63
  t53 := Try.underlying22
  a53 := Try.isAgg22
  z53 := Try.sizeOf22
  v53 := Try.zeroValue22 }
theorem mul64_any (x y : Int) (hx : U64 x) (hy : U64 y) (w : World) :
    Calls Try.prog 33 #[.int .u64 x, .int .u64 y] w fun e w' => e = .returned (.tuple #[.int .u64 (x * y / 18446744073709551616), .int .u64 (x * y % 18446744073709551616)]) ∧ w' = w := by
  obtain ⟨x0, x1⟩ := hx
  obtain ⟨y0, y1⟩ := hy
  obtain ⟨x, rfl⟩ := Int.eq_ofNat_of_zero_le x0
  obtain ⟨y, rfl⟩ := Int.eq_ofNat_of_zero_le y0
  refine (Any.bits_Mul64 mulLay x y (by omega) (by omega) w).mono ?_
  rintro e w' ⟨rfl, rfl⟩
  refine ⟨?_, rfl⟩
  rw [← Int.natCast_mul]
  rfl
set_option maxHeartbeats 1000000 in
theorem mul_any (a b : Int) (ha : U64 a) (hb : U64 b) (w : World) : Calls Try.prog 27 #[.int .u64 a, .int .u64 b] w fun e w' =>
    e = .returned (.tuple #[.int .u64 (mulP a b).1, .int .i64 (mulP a b).2]) ∧ w' = w := by
  have hm := Int.mul_nonneg ha.1 hb.1
  have hq := mul64_any a b ha hb
  unfold mulP
  generalize a * b = p at *
  rcases (show p < 18446744073709551616 ∨ 18446744073709551616 ≤ p by omega) with h | h
  · have e1 : p % 18446744073709551616 = p := by omega
    have e2 : p / 18446744073709551616 = 0 := by omega
    rw [if_pos h]
    rw [e1, e2] at hq
    have HQ := Lib.hid hq
    clear e1 e2 hq
    go_enter Try.func27, Try.ntmps27
    go_wp2_with fail
    refine (HQ.out _).mono ?_
    rintro e w' ⟨rfl, rfl⟩
    go_wp2
    go_ret2
    exact ⟨rfl, rfl⟩
  · have e2 : ((p / 18446744073709551616) == 0) = false := beq_eq_false_iff_ne.2 (by omega)
    rw [if_neg (by omega)]
    generalize p / 18446744073709551616 = q at *
    generalize p % 18446744073709551616 = r at *
    have HQ := Lib.hid hq
    clear hq
    go_enter Try.func27, Try.ntmps27
    go_wp2_with fail
    refine (HQ.out _).mono ?_
    rintro e w' ⟨rfl, rfl⟩
    go_wp2
    go_ret2
    exact ⟨rfl, rfl⟩
end Go.Proofs.Ytonjibjghijacaa
