/- Part as the document says, of chapter 02. -/
import Derived.Test.YtcfpbemoocegfaaRDiv8
import Derived.Test.YtcfpbemoocegfaaMoves
namespace Go.Proofs.Ytcfpbemoocegfaa
set_option linter.unusedVariables false
set_option linter.unusedSimpArgs false
set_option linter.unnecessarySimpa false
open Go.RowKit

set_option maxHeartbeats 1000000 in
theorem rpart_any (a m d : Int) (ha : U64 a) (hm : U64 m) (hd : U64 d) (w : World) : Calls Try.prog 122 #[.int .u64 a, .int .u64 m, .int .u64 d] w fun e w' =>
    e = .returned (.tuple #[.int .u64 (partP a m d).1, .int .i64 (partP a m d).2]) ∧ Below w.heap.size w w' := by
  have hq := wide_any a m ha hm w
  obtain ⟨p, hp⟩ : ∃ p, a * m = p := ⟨_, rfl⟩
  rw [hp] at hq
  have HQ := Lib.hid hq
  have HP := Lib.hid hp
  clear hp hq
  obtain ⟨d0, d1⟩ := hd
  rcases (show d = 0 ∨ 0 < d by omega) with h | h
  · subst h
    have hv : partP a m 0 = (0, 1) := by unfold partP; rw [if_pos rfl]
    have HV := Lib.hid hv
    clear hv
    go_enter Try.func122, Try.ntmps122
    go_wp2
    go_ret2
    rw [HV.out]
    exact ⟨rfl, Below.refl _ _⟩
  · have hd0 : (d == 0) = false := beq_eq_false_iff_ne.2 (by omega)
    have hdn : d ≠ 0 := by omega
    go_enter Try.func122, Try.ntmps122
    go_wp2_with fail
    refine HQ.out.mono ?_
    rintro e w1 ⟨w0, v1, v2, v3, rfl, hl, hbl⟩
    have HD := Lib.hid (rdiv_any p w0 v1 v2 v3 d hl h d1 w1)
    have HB := Lib.hid hbl
    clear hl hbl
    go_wp2_with fail
    refine HD.out.mono ?_
    rintro e w2 ⟨Q, L, O, rfl, ⟨p0, hL, q0, q1, r1, r2⟩, hb2⟩
    have HB2 := Lib.hid (HB.out.trans (hb2.mono HB.out.size))
    have l0 : 0 ≤ L := by rw [hL]; exact Int.emod_nonneg p (by omega)
    have HL := Lib.hid hL
    clear hb2 hL
    cases O with
    | true =>
      have hv : partP a m d = (0, 11) := by unfold partP; rw [if_neg hdn, HP.out, if_neg (by have := r2 rfl; omega)]
      have HV := Lib.hid hv
      clear hv
      clear r1 r2
      go_wp2
      go_ret2
      rw [HV.out]
      exact ⟨rfl, HB2.out⟩
    | false =>
      have hv : partP a m d = (Q, 0) := by unfold partP; rw [if_neg hdn, HP.out, if_pos (by have := r1 rfl; omega), ← r1 rfl]
      have HV := Lib.hid hv
      clear hv
      clear r1 r2
      go_wp2
      go_ret2
      rw [HV.out]
      exact ⟨rfl, HB2.out⟩
end Go.Proofs.Ytcfpbemoocegfaa
