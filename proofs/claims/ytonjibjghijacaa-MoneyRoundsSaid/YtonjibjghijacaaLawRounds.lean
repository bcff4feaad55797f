/- Walk over the law MoneyRounds. -/
import Derived.Test.YtonjibjghijacaaAwake02
namespace Go.Proofs.Ytonjibjghijacaa
set_option linter.unusedVariables false
set_option linter.unusedSimpArgs false
set_option linter.unnecessarySimpa false
open Go.RowKit

/-- Down and up: alike, or one apart; or neither. -/
theorem round_cases (a m d : Int) : (partP a m d).2 ≠ 0 ∧ (upP a m d).2 ≠ 0 ∨ (∃ q, partP a m d = (q, 0) ∧ upP a m d = (q, 0)) ∨ (∃ q, partP a m d = (q, 0) ∧ upP a m d = (q + 1, 0)) ∨ (∃ q, partP a m d = (q, 0) ∧ upP a m d = (0, 11)) := by
  unfold partP upP addP
  split
  · exact .inl ⟨by decide, by decide⟩
  · split
    · split
      · split
        · exact .inr (.inr (.inl ⟨_, rfl, rfl⟩))
        · exact .inr (.inr (.inr ⟨_, rfl, rfl⟩))
      · exact .inr (.inl ⟨_, rfl, rfl⟩)
    · exact .inl ⟨by decide, by decide⟩
theorem part_mono {a b m d : Int} (hab : a ≤ b) (hm : 0 ≤ m) (hd : 0 ≤ d) (h1 : (partP a m d).2 = 0) (h2 : (partP b m d).2 = 0) : (partP a m d).1 ≤ (partP b m d).1 := by
  unfold partP at *
  by_cases h0 : d = 0
  · rw [if_pos h0] at h1; cases h1
  · rw [if_neg h0] at h1 h2 ⊢
    by_cases g1 : a * m / d < 18446744073709551616
    · by_cases g2 : b * m / d < 18446744073709551616
      · rw [if_neg h0, if_pos g1, if_pos g2]
        exact Int.ediv_le_ediv (show 0 < d by omega) (Int.mul_le_mul_of_nonneg_right hab hm)
      · rw [if_neg g2] at h2; cases h2
    · rw [if_neg g1] at h1; cases h1

set_option maxHeartbeats 2000000 in
theorem rounds_any (a m d x : Int) (ha : U64 a) (hm : U64 m) (hd : U64 d) (hx : U64 x) (w : World) : Calls Try.prog 4 #[.int .u64 a, .int .u64 m, .int .u64 d, .int .u64 x] w fun e w' => e = .returned (.bool true) ∧ Below w.heap.size w w' := by
  have H1 := Lib.hid (part_any a m d ha hm hd)
  have H2 := Lib.hid (up_any a m d ha hm hd)
  have H3 := Lib.hid (add_any a x ha hx)
  have hp := partP_u ha hm hd.1
  have hu0 := addP_u ha hx
  have hrc := round_cases a m d
  have hadd : (addP a x).2 ≠ 0 ∨ ∃ b, addP a x = (b, 0) ∧ a ≤ b ∧ U64 b := by
    unfold addP at hu0 ⊢
    split at hu0
    · rename_i h; rw [if_pos h]; exact .inr ⟨_, rfl, by have := hx.1; omega, hu0⟩
    · rename_i h; rw [if_neg h]; exact .inl (by decide)
  generalize hP : partP a m d = P at *
  generalize upP a m d = U at *
  generalize addP a x = S at *
  obtain ⟨p, e⟩ := P
  obtain ⟨u, g⟩ := U
  obtain ⟨s, c⟩ := S
  dsimp only at *
  have HPP := Lib.hid hP
  clear hP hu0
  rcases hrc with ⟨he, hg⟩ | ⟨q, hq, hq'⟩ | ⟨q, hq, hq'⟩ | ⟨q, hq, hq'⟩
  · have h1 : (e == 0) = false := beq_eq_false_iff_ne.2 he
    have h2 : (e != 0) = true := by simp [he]
    have h3 : (g == 0) = false := beq_eq_false_iff_ne.2 hg
    have h4 : (g != 0) = true := by simp [hg]
    rcases hadd with hc | ⟨b, hc, hab, hbu⟩
    · have h5 : (c == 0) = false := beq_eq_false_iff_ne.2 hc
      have h6 : (c != 0) = true := by simp [hc]
      go_enter Try.func4, Try.ntmps4
      go_wp2_with fail
      refine (H1.out _).mono ?_
      rintro e w1 ⟨rfl, b⟩
      have B1 := Lib.hid b
      clear b
      go_wp2_with fail
      refine (H2.out _).mono ?_
      rintro e w2 ⟨rfl, b⟩
      have B2 := Lib.hid (B1.out.trans (b.mono B1.out.size))
      clear b
      go_wp2_with fail
      refine (H3.out _).mono ?_
      rintro e w3 ⟨rfl, rfl⟩
      go_wp2_with fail
      refine (awake_any _).mono ?_
      rintro e w4 ⟨rfl, b⟩
      have B4 := Lib.hid (B2.out.trans (b.mono B2.out.size))
      clear b
      go_wp2
      go_ret
      exact ⟨rfl, B4.out⟩
    · obtain ⟨rfl, rfl⟩ := Prod.mk.inj hc
      have H4 := Lib.hid (part_any s m d hbu hm hd)
      have hmo := fun h1 h2 => part_mono (a := a) (b := s) (m := m) (d := d) hab hm.1 hd.1 h1 h2
      rw [HPP.out] at hmo
      have hqu := partP_u hbu hm hd.1
      generalize partP s m d = Q at *
      obtain ⟨q2, h⟩ := Q
      dsimp only at *
      clear hmo
      go_enter Try.func4, Try.ntmps4
      go_wp2_with fail
      refine (H1.out _).mono ?_
      rintro e w1 ⟨rfl, b⟩
      have B1 := Lib.hid b
      clear b
      go_wp2_with fail
      refine (H2.out _).mono ?_
      rintro e w2 ⟨rfl, b⟩
      have B2 := Lib.hid (B1.out.trans (b.mono B1.out.size))
      clear b
      go_wp2_with fail
      refine (H3.out _).mono ?_
      rintro e w3 ⟨rfl, rfl⟩
      go_wp2_with fail
      refine (H4.out _).mono ?_
      rintro e w4 ⟨rfl, b⟩
      have B3 := Lib.hid (B2.out.trans (b.mono B2.out.size))
      clear b
      go_wp2_with fail
      refine (awake_any _).mono ?_
      rintro e w5 ⟨rfl, b⟩
      have B4 := Lib.hid (B3.out.trans (b.mono B3.out.size))
      clear b
      go_wp2
      go_ret
      exact ⟨rfl, B4.out⟩
  · obtain ⟨rfl, rfl⟩ := Prod.mk.inj hq
    obtain ⟨rfl, rfl⟩ := Prod.mk.inj hq'
    rcases hadd with hc | ⟨b, hc, hab, hbu⟩
    · have h5 : (c == 0) = false := beq_eq_false_iff_ne.2 hc
      have h6 : (c != 0) = true := by simp [hc]
      go_enter Try.func4, Try.ntmps4
      go_wp2_with fail
      refine (H1.out _).mono ?_
      rintro e w1 ⟨rfl, b⟩
      have B1 := Lib.hid b
      clear b
      go_wp2_with fail
      refine (H2.out _).mono ?_
      rintro e w2 ⟨rfl, b⟩
      have B2 := Lib.hid (B1.out.trans (b.mono B1.out.size))
      clear b
      go_wp2_with fail
      refine (H3.out _).mono ?_
      rintro e w3 ⟨rfl, rfl⟩
      go_wp2_with fail
      refine (awake_any _).mono ?_
      rintro e w4 ⟨rfl, b⟩
      have B4 := Lib.hid (B2.out.trans (b.mono B2.out.size))
      clear b
      go_wp2
      go_ret
      exact ⟨rfl, B4.out⟩
    · obtain ⟨rfl, rfl⟩ := Prod.mk.inj hc
      have H4 := Lib.hid (part_any s m d hbu hm hd)
      have hmo := fun h1 h2 => part_mono (a := a) (b := s) (m := m) (d := d) hab hm.1 hd.1 h1 h2
      rw [HPP.out] at hmo
      have hqu := partP_u hbu hm hd.1
      generalize partP s m d = Q at *
      obtain ⟨q2, h⟩ := Q
      dsimp only at *
      rcases (show h = 0 ∨ h ≠ 0 by omega) with rfl | hh
      · have hle := hmo rfl rfl
        clear hmo
        go_enter Try.func4, Try.ntmps4
        go_wp2_with fail
        refine (H1.out _).mono ?_
        rintro e w1 ⟨rfl, b⟩
        have B1 := Lib.hid b
        clear b
        go_wp2_with fail
        refine (H2.out _).mono ?_
        rintro e w2 ⟨rfl, b⟩
        have B2 := Lib.hid (B1.out.trans (b.mono B1.out.size))
        clear b
        go_wp2_with fail
        refine (H3.out _).mono ?_
        rintro e w3 ⟨rfl, rfl⟩
        go_wp2_with fail
        refine (H4.out _).mono ?_
        rintro e w4 ⟨rfl, b⟩
        have B3 := Lib.hid (B2.out.trans (b.mono B2.out.size))
        clear b
        go_wp2_with fail
        refine (awake_any _).mono ?_
        rintro e w5 ⟨rfl, b⟩
        have B4 := Lib.hid (B3.out.trans (b.mono B3.out.size))
        clear b
        go_wp2
        go_ret
        exact ⟨rfl, B4.out⟩
      · have h7 : (h == 0) = false := beq_eq_false_iff_ne.2 hh
        have h8 : (h != 0) = true := by simp [hh]
        clear hmo
        go_enter Try.func4, Try.ntmps4
        go_wp2_with fail
        refine (H1.out _).mono ?_
        rintro e w1 ⟨rfl, b⟩
        have B1 := Lib.hid b
        clear b
        go_wp2_with fail
        refine (H2.out _).mono ?_
        rintro e w2 ⟨rfl, b⟩
        have B2 := Lib.hid (B1.out.trans (b.mono B1.out.size))
        clear b
        go_wp2_with fail
        refine (H3.out _).mono ?_
        rintro e w3 ⟨rfl, rfl⟩
        go_wp2_with fail
        refine (H4.out _).mono ?_
        rintro e w4 ⟨rfl, b⟩
        have B3 := Lib.hid (B2.out.trans (b.mono B2.out.size))
        clear b
        go_wp2_with fail
        refine (awake_any _).mono ?_
        rintro e w5 ⟨rfl, b⟩
        have B4 := Lib.hid (B3.out.trans (b.mono B3.out.size))
        clear b
        go_wp2
        go_ret
        exact ⟨rfl, B4.out⟩
  · obtain ⟨rfl, rfl⟩ := Prod.mk.inj hq
    obtain ⟨hu, rfl⟩ := Prod.mk.inj hq'
    have h1 : (u == p) = false := beq_eq_false_iff_ne.2 (by omega)
    have h2 : (u != p) = true := by simp; omega
    have h3 : u - p = 1 := by omega
    have h4 : IntKind.u64.wrap (u - p) = 1 := by rw [h3]; rfl
    clear hu
    rcases hadd with hc | ⟨b, hc, hab, hbu⟩
    · have h5 : (c == 0) = false := beq_eq_false_iff_ne.2 hc
      have h6 : (c != 0) = true := by simp [hc]
      go_enter Try.func4, Try.ntmps4
      go_wp2_with fail
      refine (H1.out _).mono ?_
      rintro e w1 ⟨rfl, b⟩
      have B1 := Lib.hid b
      clear b
      go_wp2_with fail
      refine (H2.out _).mono ?_
      rintro e w2 ⟨rfl, b⟩
      have B2 := Lib.hid (B1.out.trans (b.mono B1.out.size))
      clear b
      go_wp2_with fail
      refine (H3.out _).mono ?_
      rintro e w3 ⟨rfl, rfl⟩
      go_wp2_with fail
      refine (awake_any _).mono ?_
      rintro e w4 ⟨rfl, b⟩
      have B4 := Lib.hid (B2.out.trans (b.mono B2.out.size))
      clear b
      go_wp2
      go_ret
      exact ⟨rfl, B4.out⟩
    · obtain ⟨rfl, rfl⟩ := Prod.mk.inj hc
      have H4 := Lib.hid (part_any s m d hbu hm hd)
      have hmo := fun h1 h2 => part_mono (a := a) (b := s) (m := m) (d := d) hab hm.1 hd.1 h1 h2
      rw [HPP.out] at hmo
      have hqu := partP_u hbu hm hd.1
      generalize partP s m d = Q at *
      obtain ⟨q2, h⟩ := Q
      dsimp only at *
      rcases (show h = 0 ∨ h ≠ 0 by omega) with rfl | hh
      · have hle := hmo rfl rfl
        clear hmo
        go_enter Try.func4, Try.ntmps4
        go_wp2_with fail
        refine (H1.out _).mono ?_
        rintro e w1 ⟨rfl, b⟩
        have B1 := Lib.hid b
        clear b
        go_wp2_with fail
        refine (H2.out _).mono ?_
        rintro e w2 ⟨rfl, b⟩
        have B2 := Lib.hid (B1.out.trans (b.mono B1.out.size))
        clear b
        go_wp2_with fail
        refine (H3.out _).mono ?_
        rintro e w3 ⟨rfl, rfl⟩
        go_wp2_with fail
        refine (H4.out _).mono ?_
        rintro e w4 ⟨rfl, b⟩
        have B3 := Lib.hid (B2.out.trans (b.mono B2.out.size))
        clear b
        go_wp2_with fail
        refine (awake_any _).mono ?_
        rintro e w5 ⟨rfl, b⟩
        have B4 := Lib.hid (B3.out.trans (b.mono B3.out.size))
        clear b
        go_wp2
        go_ret
        exact ⟨rfl, B4.out⟩
      · have h7 : (h == 0) = false := beq_eq_false_iff_ne.2 hh
        have h8 : (h != 0) = true := by simp [hh]
        clear hmo
        go_enter Try.func4, Try.ntmps4
        go_wp2_with fail
        refine (H1.out _).mono ?_
        rintro e w1 ⟨rfl, b⟩
        have B1 := Lib.hid b
        clear b
        go_wp2_with fail
        refine (H2.out _).mono ?_
        rintro e w2 ⟨rfl, b⟩
        have B2 := Lib.hid (B1.out.trans (b.mono B1.out.size))
        clear b
        go_wp2_with fail
        refine (H3.out _).mono ?_
        rintro e w3 ⟨rfl, rfl⟩
        go_wp2_with fail
        refine (H4.out _).mono ?_
        rintro e w4 ⟨rfl, b⟩
        have B3 := Lib.hid (B2.out.trans (b.mono B2.out.size))
        clear b
        go_wp2_with fail
        refine (awake_any _).mono ?_
        rintro e w5 ⟨rfl, b⟩
        have B4 := Lib.hid (B3.out.trans (b.mono B3.out.size))
        clear b
        go_wp2
        go_ret
        exact ⟨rfl, B4.out⟩
  · obtain ⟨rfl, rfl⟩ := Prod.mk.inj hq
    obtain ⟨rfl, rfl⟩ := Prod.mk.inj hq'
    rcases hadd with hc | ⟨b, hc, hab, hbu⟩
    · have h5 : (c == 0) = false := beq_eq_false_iff_ne.2 hc
      have h6 : (c != 0) = true := by simp [hc]
      go_enter Try.func4, Try.ntmps4
      go_wp2_with fail
      refine (H1.out _).mono ?_
      rintro e w1 ⟨rfl, b⟩
      have B1 := Lib.hid b
      clear b
      go_wp2_with fail
      refine (H2.out _).mono ?_
      rintro e w2 ⟨rfl, b⟩
      have B2 := Lib.hid (B1.out.trans (b.mono B1.out.size))
      clear b
      go_wp2_with fail
      refine (H3.out _).mono ?_
      rintro e w3 ⟨rfl, rfl⟩
      go_wp2_with fail
      refine (awake_any _).mono ?_
      rintro e w4 ⟨rfl, b⟩
      have B4 := Lib.hid (B2.out.trans (b.mono B2.out.size))
      clear b
      go_wp2
      go_ret
      exact ⟨rfl, B4.out⟩
    · obtain ⟨rfl, rfl⟩ := Prod.mk.inj hc
      have H4 := Lib.hid (part_any s m d hbu hm hd)
      have hmo := fun h1 h2 => part_mono (a := a) (b := s) (m := m) (d := d) hab hm.1 hd.1 h1 h2
      rw [HPP.out] at hmo
      have hqu := partP_u hbu hm hd.1
      generalize partP s m d = Q at *
      obtain ⟨q2, h⟩ := Q
      dsimp only at *
      rcases (show h = 0 ∨ h ≠ 0 by omega) with rfl | hh
      · have hle := hmo rfl rfl
        clear hmo
        go_enter Try.func4, Try.ntmps4
        go_wp2_with fail
        refine (H1.out _).mono ?_
        rintro e w1 ⟨rfl, b⟩
        have B1 := Lib.hid b
        clear b
        go_wp2_with fail
        refine (H2.out _).mono ?_
        rintro e w2 ⟨rfl, b⟩
        have B2 := Lib.hid (B1.out.trans (b.mono B1.out.size))
        clear b
        go_wp2_with fail
        refine (H3.out _).mono ?_
        rintro e w3 ⟨rfl, rfl⟩
        go_wp2_with fail
        refine (H4.out _).mono ?_
        rintro e w4 ⟨rfl, b⟩
        have B3 := Lib.hid (B2.out.trans (b.mono B2.out.size))
        clear b
        go_wp2_with fail
        refine (awake_any _).mono ?_
        rintro e w5 ⟨rfl, b⟩
        have B4 := Lib.hid (B3.out.trans (b.mono B3.out.size))
        clear b
        go_wp2
        go_ret
        exact ⟨rfl, B4.out⟩
      · have h7 : (h == 0) = false := beq_eq_false_iff_ne.2 hh
        have h8 : (h != 0) = true := by simp [hh]
        clear hmo
        go_enter Try.func4, Try.ntmps4
        go_wp2_with fail
        refine (H1.out _).mono ?_
        rintro e w1 ⟨rfl, b⟩
        have B1 := Lib.hid b
        clear b
        go_wp2_with fail
        refine (H2.out _).mono ?_
        rintro e w2 ⟨rfl, b⟩
        have B2 := Lib.hid (B1.out.trans (b.mono B1.out.size))
        clear b
        go_wp2_with fail
        refine (H3.out _).mono ?_
        rintro e w3 ⟨rfl, rfl⟩
        go_wp2_with fail
        refine (H4.out _).mono ?_
        rintro e w4 ⟨rfl, b⟩
        have B3 := Lib.hid (B2.out.trans (b.mono B2.out.size))
        clear b
        go_wp2_with fail
        refine (awake_any _).mono ?_
        rintro e w5 ⟨rfl, b⟩
        have B4 := Lib.hid (B3.out.trans (b.mono B3.out.size))
        clear b
        go_wp2
        go_ret
        exact ⟨rfl, B4.out⟩
end Go.Proofs.Ytonjibjghijacaa
