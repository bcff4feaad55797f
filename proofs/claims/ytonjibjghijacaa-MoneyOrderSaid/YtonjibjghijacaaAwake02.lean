/- Walks over the law's examples, and over: is an amount, with an error, the document's? -/
import Derived.Test.YtonjibjghijacaaRefM
namespace Go.Proofs.Ytonjibjghijacaa
set_option linter.unusedVariables false
set_option linter.unusedSimpArgs false
set_option linter.unnecessarySimpa false
open Go.RowKit

theorem is_any (a e : Int) (w : World) : Calls Try.prog 15 #[.int .u64 a, .int .i64 e, .int .u64 a, .int .i64 e] w fun x w' => x = .returned (.bool true) ∧ w' = w := by
  go_enter Try.func15, Try.ntmps15
  go_wp2
  go_ret
  exact ⟨rfl, rfl⟩
set_option maxHeartbeats 1000000 in
theorem of_any (base rate a : Int) (hb : U64 base) (hr : U64 rate) (ha : U64 a) (w : World) : Calls Try.prog 21 #[.agg #[.int .u64 base, .int .u64 rate], .int .u64 a] w fun e w' =>
    e = .returned (.tuple #[.int .u64 (ofP base rate a).1, .int .i64 (ofP base rate a).2]) ∧ Below w.heap.size w w' := by
  have HP := Lib.hid (part_any a rate 1000000 ha hr ⟨by decide, by decide⟩)
  have hu := partP_u (d := 1000000) ha hr (by decide)
  unfold ofP
  generalize partP a rate 1000000 = x at *
  obtain ⟨v, e⟩ := x
  have HA := Lib.hid (add_any base v hb hu)
  dsimp only at *
  rcases (show e = 0 ∨ e ≠ 0 by omega) with h | h
  · subst h
    rw [if_pos rfl]
    go_enter Try.func21, Try.ntmps21
    go_wp2_with fail
    refine (HP.out _).mono ?_
    rintro e w1 ⟨rfl, hbl⟩
    obtain ⟨hc, hf⟩ := bcell hbl
    have hz := hbl.size
    simp only [World.size_alloc] at hc hf hz
    have HB := Lib.hid (((Below.refl _ w).alloc (Nat.le_refl _) _).trans (hbl.mono (by simp)))
    clear hbl
    go_wp2_with fail
    refine (HA.out _).mono ?_
    rintro e w2 ⟨rfl, rfl⟩
    go_wp2
    go_ret2
    exact ⟨rfl, HB.out⟩
  · have h2 : (e == 0) = false := beq_eq_false_iff_ne.2 h
    have h3 : (e != 0) = true := by simp [h]
    rw [if_neg h]
    go_enter Try.func21, Try.ntmps21
    go_wp2_with fail
    refine (HP.out _).mono ?_
    rintro e w1 ⟨rfl, hbl⟩
    have HB := Lib.hid (((Below.refl _ w).alloc (Nat.le_refl _) _).trans (hbl.mono (by simp)))
    clear hbl
    go_wp2
    go_ret2
    exact ⟨rfl, HB.out⟩
theorem awake_any (w : World) : Calls Try.prog 14 #[] w fun e w' => e = .returned (.bool true) ∧ Below w.heap.size w w' := by
  have H1 := Lib.hid (part_any 7 1 2 ⟨by decide, by decide⟩ ⟨by decide, by decide⟩ ⟨by decide, by decide⟩)
  have H2 := Lib.hid (up_any 7 1 2 ⟨by decide, by decide⟩ ⟨by decide, by decide⟩ ⟨by decide, by decide⟩)
  have H3 := Lib.hid (of_any 1 10000 500 ⟨by decide, by decide⟩ ⟨by decide, by decide⟩ ⟨by decide, by decide⟩)
  have e1 : partP 7 1 2 = (3, 0) := by decide
  have e2 : upP 7 1 2 = (4, 0) := by decide
  have e3 : ofP 1 10000 500 = (6, 0) := by decide
  rw [e1] at H1; rw [e2] at H2; rw [e3] at H3
  clear e1 e2 e3
  go_enter Try.func14, Try.ntmps14
  go_wp2_with fail
  refine (H1.out _).mono ?_
  rintro e w1 ⟨rfl, b1⟩
  have B1 := Lib.hid b1
  clear b1
  go_wp2_with fail
  refine (H2.out _).mono ?_
  rintro e w2 ⟨rfl, b2⟩
  have B2 := Lib.hid (B1.out.trans (b2.mono B1.out.size))
  clear b2
  go_wp2_with fail
  refine (H3.out _).mono ?_
  rintro e w3 ⟨rfl, b3⟩
  have B3 := Lib.hid (B2.out.trans (b3.mono B2.out.size))
  clear b3
  go_wp2
  go_ret
  exact ⟨rfl, B3.out⟩
end Go.Proofs.Ytonjibjghijacaa
