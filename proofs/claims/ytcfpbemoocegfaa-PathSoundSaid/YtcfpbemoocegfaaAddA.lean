/- Walks over sums, differences, products. -/
import Derived.Test.YtcfpbemoocegfaaMoneyP
import Derived.WalkSpells
import Derived.WalkLawsBesides
import Derived.StillTactics
import Derived.Laws.Pointers
import Derived.RowKit3
import Derived.Lib.Hide
import Derived.Lib.Mul64
import Derived.Lib.BitFns
import Derived.Laws.Bits64b
import Derived.Laws.Externs
import Derived.Test.YtcfpbemoocegfaaChecked
namespace Go.Proofs.Ytcfpbemoocegfaa
set_option linter.unusedVariables false
set_option linter.unusedSimpArgs false
set_option linter.unnecessarySimpa false
open Go.RowKit

theorem add64_0 (x y : Int) (hx : 0 ≤ x) (hy : 0 ≤ y) (w : World) : (callFunc 108 #[.int .u64 x, .int .u64 y, .int .u64 0]).run Try.prog w =
    .ok (.value (.tuple #[.int .u64 ((x + y) % 18446744073709551616), .int .u64 ((x + y) / 18446744073709551616)])) w := by
  rw [run_callFunc_extern Try.func108 (by kernel_rfl) (by kernel_rfl) (by kernel_rfl) (e := add64Entry) (by kernel_rfl), run_add64 x y 0 hx hy (Int.le_refl _) (by decide)]
  simp [Result.andThen]

set_option maxHeartbeats 1000000 in
theorem add_any (a b : Int) (ha : U64 a) (hb : U64 b) (w : World) : Calls Try.prog 98 #[.int .u64 a, .int .u64 b] w fun e w' =>
    e = .returned (.tuple #[.int .u64 (addP a b).1, .int .i64 (addP a b).2]) ∧ w' = w := by
  obtain ⟨a0, a1⟩ := ha
  obtain ⟨b0, b1⟩ := hb
  have h1 := add64_0 a b a0 b0
  unfold addP
  rcases (show a + b < 18446744073709551616 ∨ 18446744073709551616 ≤ a + b by omega) with h | h
  · have e1 : (a + b) % 18446744073709551616 = a + b := by omega
    have e2 : (a + b) / 18446744073709551616 = 0 := by omega
    rw [if_pos h]
    rw [e1, e2] at h1
    clear e1 e2
    go_enter Try.func98, Try.ntmps98
    go_wp2
    go_ret2
    exact ⟨rfl, rfl⟩
  · have e1 : (a + b) % 18446744073709551616 = a + b - 18446744073709551616 := by omega
    have e2 : (a + b) / 18446744073709551616 = 1 := by omega
    rw [if_neg (by omega)]
    rw [e1, e2] at h1
    clear e1 e2
    go_enter Try.func98, Try.ntmps98
    go_wp2
    go_ret2
    exact ⟨rfl, rfl⟩
theorem radd_any (a b : Int) (ha : U64 a) (hb : U64 b) (w : World) : Calls Try.prog 64 #[.int .u64 a, .int .u64 b] w fun e w' =>
    e = .returned (.tuple #[.int .u64 (addP a b).1, .int .i64 (addP a b).2]) ∧ w' = w := by
  obtain ⟨a0, a1⟩ := ha
  obtain ⟨b0, b1⟩ := hb
  unfold addP
  have e2 : IntKind.u64.wrap (18446744073709551615 - a) = 18446744073709551615 - a := by unfold IntKind.wrap; simp [IntKind.bits, IntKind.signed]; omega
  rcases (show a + b < 18446744073709551616 ∨ 18446744073709551616 ≤ a + b by omega) with h | h
  · rw [if_pos h]
    have e1 : IntKind.u64.wrap (a + b) = a + b := by unfold IntKind.wrap; simp [IntKind.bits, IntKind.signed]; omega
    have h2 : b ≤ 18446744073709551615 - a := by omega
    go_enter Try.func64, Try.ntmps64
    go_wp2
    go_ret2
    exact ⟨rfl, rfl⟩
  · rw [if_neg (by omega)]
    have h2 : 18446744073709551615 - a < b := by omega
    go_enter Try.func64, Try.ntmps64
    go_wp2
    go_ret2
    exact ⟨rfl, rfl⟩
end Go.Proofs.Ytcfpbemoocegfaa
