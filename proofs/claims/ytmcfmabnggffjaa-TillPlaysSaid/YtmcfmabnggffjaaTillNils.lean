/- The till's calls at nil. -/
import Derived.Test.YtmcfmabnggffjaaTillAll
namespace Go.Proofs.Ytmcfmabnggffjaa
set_option linter.unusedVariables false
set_option linter.unusedSimpArgs false
set_option linter.unnecessarySimpa false
open Go.RowKit

theorem in_nil (v : Value) (w : World) : Calls Try.prog 29 #[.pointer none, v] w fun e w' => e = .returned (.int .i64 2) ∧ w' = w := by
  go_enter Try.func29, Try.ntmps29
  go_wp2
  go_ret
  exact ⟨rfl, rfl⟩
theorem order_nil (a : Value) (b : Value) (w : World) : Calls Try.prog 15 #[.pointer none, a, b] w fun e w' => e = .returned (.int .i64 2) ∧ w' = w := by
  go_enter Try.func15, Try.ntmps15
  go_wp2_with fail
  refine (in_nil _ _).mono ?_
  rintro e w1 ⟨rfl, rfl⟩
  go_wp2
  go_ret
  exact ⟨rfl, rfl⟩
theorem keep_nil (a : Value) (b : Value) (w : World) : Calls Try.prog 10 #[.pointer none, a, b] w fun e w' => e = .returned (.int .i64 2) ∧ w' = w := by
  go_enter Try.func10, Try.ntmps10
  go_wp2_with fail
  refine (in_nil _ _).mono ?_
  rintro e w1 ⟨rfl, rfl⟩
  go_wp2
  go_ret
  exact ⟨rfl, rfl⟩
theorem give_nil (a : Value) (b : Value) (w : World) : Calls Try.prog 11 #[.pointer none, a, b] w fun e w' => e = .returned (.int .i64 2) ∧ w' = w := by
  go_enter Try.func11, Try.ntmps11
  go_wp2_with fail
  refine (in_nil _ _).mono ?_
  rintro e w1 ⟨rfl, rfl⟩
  go_wp2
  go_ret
  exact ⟨rfl, rfl⟩
theorem move_nil (a : Value) (b : Value) (c : Value) (w : World) : Calls Try.prog 12 #[.pointer none, a, b, c] w fun e w' => e = .returned (.int .i64 2) ∧ w' = w := by
  go_enter Try.func12, Try.ntmps12
  go_wp2_with fail
  refine (in_nil _ _).mono ?_
  rintro e w1 ⟨rfl, rfl⟩
  go_wp2
  go_ret
  exact ⟨rfl, rfl⟩
theorem many_nil (w : World) : Calls Try.prog 25 #[.pointer none] w fun e w' => e = .returned (.int .i64 0) ∧ w' = w := by
  go_enter Try.func25, Try.ntmps25
  go_wp2
  go_ret
  exact ⟨rfl, rfl⟩
theorem has_nil (a : Value) (w : World) : Calls Try.prog 13 #[.pointer none, a] w fun e w' => e = .returned (.int .u64 0) ∧ w' = w := by
  go_enter Try.func13, Try.ntmps13
  go_wp2_with fail
  refine (in_nil _ _).mono ?_
  rintro e w1 ⟨rfl, rfl⟩
  go_wp2
  go_ret
  exact ⟨rfl, rfl⟩
theorem next_nil (a : Value) (w : World) : Calls Try.prog 16 #[.pointer none, a] w fun e w' => e = .returned (.int .u64 0) ∧ w' = w := by
  go_enter Try.func16, Try.ntmps16
  go_wp2_with fail
  refine (in_nil _ _).mono ?_
  rintro e w1 ⟨rfl, rfl⟩
  go_wp2
  go_ret
  exact ⟨rfl, rfl⟩
theorem kept_nil (w : World) : Calls Try.prog 14 #[.pointer none] w fun e w' => e = .returned (.int .u64 0) ∧ w' = w := by
  go_enter Try.func14, Try.ntmps14
  go_wp2
  go_ret
  exact ⟨rfl, rfl⟩
theorem all_nil (w : World) : Calls Try.prog 19 #[.pointer none] w fun e w' => e = .returned (.int .u64 0) ∧ w' = w := by
  go_enter Try.func19, Try.ntmps19
  go_wp2
  go_ret
  exact ⟨rfl, rfl⟩
theorem twin_nil (w : World) : Calls Try.prog 18 #[.pointer none] w fun e w' => e = .returned (.pointer none) ∧ w' = w := by
  go_enter Try.func18, Try.ntmps18
  go_wp2
  go_ret
  exact ⟨rfl, rfl⟩
end Go.Proofs.Ytmcfmabnggffjaa
