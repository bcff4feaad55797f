/- Walk over the law MoneySums. -/
import Derived.Test.YtonjibjghijacaaAwake02
import Derived.Test.YtonjibjghijacaaSum
namespace Go.Proofs.Ytonjibjghijacaa
set_option linter.unusedVariables false
set_option linter.unusedSimpArgs false
set_option linter.unnecessarySimpa false
open Go.RowKit

theorem words_below {w w' : World} {A : Option Addr} {c : Nat} {xs : List Int} (h : Words w A c xs) (hb : Below w.heap.size w w') : Words w' A c xs := by
  refine h.mono fun ad had j u hj => ?_
  have h1 := h.src ad had j u hj
  rw [← h1]
  have hlt := src_lt h.src ad had (by rintro e; rw [e] at hj; simp at hj)
  have e : (ad.add j).block = ad.block := by unfold Addr.add; split <;> rfl
  exact World.cell?_of_block (hb.block _ (by rw [e]; exact hlt))
set_option maxHeartbeats 2000000 in
theorem sums_any (a b : Int) (ha : U64 a) (hb : U64 b) (A : Option Addr) (c : Nat) (l : List Int) (w : World) (hw : Words w A c l) : Calls Try.prog 8 #[.int .u64 a, .int .u64 b, .slice A l.length c] w fun e w' => e = .returned (.bool true) ∧ Below w.heap.size w w' := by
  have HI := Lib.hid is_any
  have HW := Lib.hid hw
  have H1 := Lib.hid (add_any a b ha hb)
  have H2 := Lib.hid (radd_any a b ha hb)
  have H3 := Lib.hid (sub_any a b ha hb)
  have H4 := Lib.hid (rsub_any a b ha hb)
  have H5 := Lib.hid (mul_any a b ha hb)
  have H6 := Lib.hid (rmul_any a b ha hb)
  have H7 := Lib.hid fun w1 => sum_any w1 A c l
  have H8 := Lib.hid fun w1 => rsum_any w1 A c l
  clear hw
  generalize addP a b = P1 at *
  generalize subP a b = P2 at *
  generalize mulP a b = P3 at *
  generalize sumP 0 l = P4 at *
  go_enter Try.func8, Try.ntmps8
  go_wp2_with fail
  refine (H1.out _).mono ?_
  rintro e w1 ⟨rfl, rfl⟩
  go_wp2_with fail
  refine (H2.out _).mono ?_
  rintro e w1 ⟨rfl, rfl⟩
  go_wp2_with fail
  refine (H3.out _).mono ?_
  rintro e w1 ⟨rfl, rfl⟩
  go_wp2_with fail
  refine (H4.out _).mono ?_
  rintro e w1 ⟨rfl, rfl⟩
  go_wp2_with fail
  refine (H5.out _).mono ?_
  rintro e w1 ⟨rfl, rfl⟩
  go_wp2_with fail
  refine (H6.out _).mono ?_
  rintro e w2 ⟨rfl, b⟩
  have HW2 := Lib.hid (words_below HW.out b)
  have B2 := Lib.hid b
  clear b
  go_wp2_with fail
  refine (H7.out _ HW2.out).mono ?_
  rintro e w3 ⟨rfl, rfl⟩
  go_wp2_with fail
  refine (H8.out _ HW2.out).mono ?_
  rintro e w3 ⟨rfl, rfl⟩
  go_wp2_with fail
  refine (awake_any _).mono ?_
  rintro e w4 ⟨rfl, b⟩
  have B4 := Lib.hid (B2.out.trans (b.mono B2.out.size))
  clear b
  go_wp2_with fail
  refine (HI.out _ _ _).mono ?_
  rintro e w5 ⟨rfl, rfl⟩
  go_wp2_with fail
  refine (HI.out _ _ _).mono ?_
  rintro e w6 ⟨rfl, rfl⟩
  go_wp2_with fail
  refine (HI.out _ _ _).mono ?_
  rintro e w7 ⟨rfl, rfl⟩
  go_wp2_with fail
  refine (HI.out _ _ _).mono ?_
  rintro e w8 ⟨rfl, rfl⟩
  go_wp2
  go_ret
  exact ⟨rfl, B4.out⟩
end Go.Proofs.Ytonjibjghijacaa
