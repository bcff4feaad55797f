/- The slab's calls at nil. -/
import Derived.Test.YtofhcdjnnbpkbaaSlabCrash
namespace Go.Proofs.Ytofhcdjnnbpkbaa
set_option linter.unusedVariables false
set_option linter.unusedSimpArgs false
set_option linter.unnecessarySimpa false
open Go.RowKit

theorem append_nil (w : World) (v : Value) : Calls Try.prog 8 #[.pointer none, v] w fun e w' => e = .returned (.int .i64 2) ∧ w' = w := by
  have HU := Lib.hid (up_nil w)
  go_enter Try.func8, Try.ntmps8
  go_wp2_with fail
  refine HU.out.mono ?_
  rintro e w1 ⟨rfl, rfl⟩
  go_wp2
  go_ret
  exact ⟨rfl, rfl⟩
theorem sync_nil (w : World) : Calls Try.prog 9 #[.pointer none] w fun e w' => e = .returned (.int .i64 2) ∧ w' = w := by
  have HU := Lib.hid (up_nil w)
  go_enter Try.func9, Try.ntmps9
  go_wp2_with fail
  refine HU.out.mono ?_
  rintro e w1 ⟨rfl, rfl⟩
  go_wp2
  go_ret
  exact ⟨rfl, rfl⟩
theorem erase_nil (w : World) : Calls Try.prog 11 #[.pointer none] w fun e w' => e = .returned (.int .i64 2) ∧ w' = w := by
  have HU := Lib.hid (up_nil w)
  go_enter Try.func11, Try.ntmps11
  go_wp2_with fail
  refine HU.out.mono ?_
  rintro e w1 ⟨rfl, rfl⟩
  go_wp2
  go_ret
  exact ⟨rfl, rfl⟩
theorem read_nil (w : World) : Calls Try.prog 10 #[.pointer none] w fun e w' => e = .returned (.tuple #[.slice none 0 0, .int .i64 2]) ∧ w' = w := by
  have HU := Lib.hid (up_nil w)
  go_enter Try.func10, Try.ntmps10
  go_wp2_with fail
  refine HU.out.mono ?_
  rintro e w1 ⟨rfl, rfl⟩
  go_wp2
  first | go_ret | go_ret2
  exact ⟨rfl, rfl⟩
theorem crash_nil (w : World) (a b : Int) : Calls Try.prog 13 #[.pointer none, .int .i64 a, .int .i64 b] w fun e w' => e = .returned (.int .i64 2) ∧ w' = w := by
  go_enter Try.func13, Try.ntmps13
  go_wp2
  go_ret
  exact ⟨rfl, rfl⟩
end Go.Proofs.Ytofhcdjnnbpkbaa
