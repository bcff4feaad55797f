/- Part, of chapter 02. -/
import Derived.Test.YtcfpbemoocegfaaDiv8
namespace Go.Proofs.Ytcfpbemoocegfaa
set_option linter.unusedVariables false
set_option linter.unusedSimpArgs false
set_option linter.unnecessarySimpa false
open Go.RowKit

theorem part_over {p d : Int} (hp : 0 ≤ p) (hd : 0 < d) : (d ≤ p / 18446744073709551616 ↔ ¬ p / d < 18446744073709551616) := by
  rw [Int.not_lt, Int.le_ediv_iff_mul_le (by decide), Int.le_ediv_iff_mul_le hd, Int.mul_comm]
set_option maxHeartbeats 1000000 in
theorem part_any (a m d : Int) (ha : U64 a) (hm : U64 m) (hd : U64 d) (w : World) : Calls Try.prog 121 #[.int .u64 a, .int .u64 m, .int .u64 d] w fun e w' =>
    e = .returned (.tuple #[.int .u64 (partP a m d).1, .int .i64 (partP a m d).2]) ∧ Below w.heap.size w w' := by
  have hq := mul64_any a m ha hm
  have hp := Int.mul_nonneg ha.1 hm.1
  have hpu : a * m < 18446744073709551616 * 18446744073709551616 := by
    have h1 := Int.mul_le_mul_of_nonneg_right (Int.le_of_lt ha.2) hm.1
    have h2 := hm.2
    omega
  unfold partP
  obtain ⟨d0, d1⟩ := hd
  generalize a * m = p at *
  have HQ := Lib.hid hq
  clear hq
  rcases (show d = 0 ∨ 0 < d by omega) with h | h
  · subst h
    rw [if_pos rfl]
    go_enter Try.func121, Try.ntmps121
    go_wp2_with fail
    refine (HQ.out _).mono ?_
    rintro e w' ⟨rfl, rfl⟩
    go_wp2
    go_ret2
    exact ⟨rfl, Below.refl _ _⟩
  · have hd0 : (d == 0) = false := beq_eq_false_iff_ne.2 (by omega)
    have ho := part_over hp h
    have hdiv : p / 18446744073709551616 * 18446744073709551616 + p % 18446744073709551616 = p := by omega
    have hU1 : U64 (p / 18446744073709551616) := ⟨by omega, by omega⟩
    have hU2 : U64 (p % 18446744073709551616) := ⟨by omega, by omega⟩
    have hdv := div_any (p / 18446744073709551616) (p % 18446744073709551616) d hU1 hU2 ⟨d0, d1⟩
    rw [hdiv] at hdv
    rw [if_neg (by omega)]
    have hU1l := hU1.1
    have hU1h := hU1.2
    generalize p / 18446744073709551616 = hi at *
    generalize p % 18446744073709551616 = lo at *
    have HD := Lib.hid hdv
    clear hdv hdiv
    rcases (show d ≤ hi ∨ hi < d by omega) with hlt | hlt
    · rw [if_neg (ho.1 hlt)]
      clear ho
      go_enter Try.func121, Try.ntmps121
      go_wp2_with fail
      refine (HQ.out _).mono ?_
      rintro e w' ⟨rfl, rfl⟩
      go_wp2
      go_ret2
      exact ⟨rfl, Below.refl _ _⟩
    · rw [if_pos (Decidable.byContradiction fun h => absurd (ho.2 h) (by omega))]
      clear ho
      go_enter Try.func121, Try.ntmps121
      go_wp2_with fail
      refine (HQ.out _).mono ?_
      rintro e w' ⟨rfl, rfl⟩
      go_wp2_with fail
      refine (HD.out hlt _).mono ?_
      rintro e w2 ⟨rfl, hb⟩
      have HB := Lib.hid hb
      clear hb
      go_wp2
      go_ret2
      exact ⟨rfl, HB.out⟩
end Go.Proofs.Ytcfpbemoocegfaa
