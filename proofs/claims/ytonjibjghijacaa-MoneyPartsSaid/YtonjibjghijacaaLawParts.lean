/- Walk over the law MoneyParts. -/
import Derived.Test.YtonjibjghijacaaAwake02
namespace Go.Proofs.Ytonjibjghijacaa
set_option linter.unusedVariables false
set_option linter.unusedSimpArgs false
set_option linter.unnecessarySimpa false
open Go.RowKit

set_option maxHeartbeats 1000000 in
theorem parts_any (a m d : Int) (ha : U64 a) (hm : U64 m) (hd : U64 d) (w : World) : Calls Try.prog 3 #[.int .u64 a, .int .u64 m, .int .u64 d] w fun e w' => e = .returned (.bool true) ∧ Below w.heap.size w w' := by
  have H1 := Lib.hid (part_any a m d ha hm hd)
  have H2 := Lib.hid (rpart_any a m d ha hm hd)
  have H3 := Lib.hid (up_any a m d ha hm hd)
  have H4 := Lib.hid (rup_any a m d ha hm hd)
  have HI := Lib.hid is_any
  generalize partP a m d = P at *
  generalize upP a m d = U at *
  go_enter Try.func3, Try.ntmps3
  go_wp2_with fail
  refine (H1.out _).mono ?_
  rintro e w0 ⟨rfl, b⟩
  have B0 := Lib.hid b
  clear b
  go_wp2_with fail
  refine (H2.out _).mono ?_
  rintro e w1 ⟨rfl, b⟩
  have B1 := Lib.hid (B0.out.trans (b.mono B0.out.size))
  clear b
  go_wp2_with fail
  refine (H3.out _).mono ?_
  rintro e w2 ⟨rfl, b⟩
  have B2 := Lib.hid (B1.out.trans (b.mono B1.out.size))
  clear b
  go_wp2_with fail
  refine (H4.out _).mono ?_
  rintro e w3 ⟨rfl, b⟩
  have B3 := Lib.hid (B2.out.trans (b.mono B2.out.size))
  clear b
  go_wp2_with fail
  refine (awake_any _).mono ?_
  rintro e w4 ⟨rfl, b⟩
  have B4 := Lib.hid (B3.out.trans (b.mono B3.out.size))
  clear b
  go_wp2_with fail
  refine (HI.out _ _ _).mono ?_
  rintro e w5 ⟨rfl, rfl⟩
  go_wp2_with fail
  refine (HI.out _ _ _).mono ?_
  rintro e w6 ⟨rfl, rfl⟩
  go_wp2
  go_ret
  exact ⟨rfl, B4.out⟩
end Go.Proofs.Ytonjibjghijacaa
