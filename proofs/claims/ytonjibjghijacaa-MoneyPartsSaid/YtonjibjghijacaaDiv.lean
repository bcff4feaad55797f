/- Walk over math/bits.Div64. -/
import Derived.Test.YtonjibjghijacaaDivP
import Derived.Test.YtonjibjghijacaaFlow
import Derived.LoopTactic
import Derived.Outline
namespace Go.Proofs.Ytonjibjghijacaa
set_option linter.unusedVariables false
set_option linter.unusedSimpArgs false
set_option linter.unnecessarySimpa false
open Go.RowKit

theorem wrap_u {n : Int} (h0 : 0 ≤ n) (h1 : n < 18446744073709551616) : IntKind.u64.wrap n = n := by rw [IntKind.wrap_u64]; omega
/-- The loop's relation. -/
def KRel (u d y1 y0 : Int) (a b : Value) : Prop := ∃ q r : Int, a = .int .u64 q ∧ b = .int .u64 r ∧ Kn u d y1 y0 q r ∧ q < 18446744073709551616

set_option maxRecDepth 100000 in
set_option maxHeartbeats 4000000 in
theorem div_any (hi lo y : Int) (hh : U64 hi) (hl : U64 lo) (hy : U64 y) (hlt : hi < y) (w : World) :
    Calls Try.prog 34 #[.int .u64 hi, .int .u64 lo, .int .u64 y] w fun e w' => e = .returned (.tuple #[.int .u64 ((hi * 18446744073709551616 + lo) / y), .int .u64 ((hi * 18446744073709551616 + lo) % y)]) ∧ Below w.heap.size w w' := by
  obtain ⟨h0, h1⟩ := hh
  obtain ⟨l0, l1⟩ := hl
  obtain ⟨y0, y1⟩ := hy
  have hy0 : (y == 0) = false := beq_eq_false_iff_ne.2 (by omega)
  rcases (show hi = 0 ∨ 0 < hi by omega) with h | h
  · subst h
    have a0 := Int.ediv_nonneg l0 y0
    have a1 : lo / y ≤ lo := Int.ediv_le_self y l0
    have b0 := Int.emod_nonneg lo (show y ≠ 0 by omega)
    have b1 := Int.emod_lt_of_pos lo hlt
    have e1 : lo.tdiv y = lo / y := Int.tdiv_eq_ediv_of_nonneg l0
    have e2 : lo.tmod y = lo % y := Int.tmod_eq_emod_of_nonneg l0
    have e3 := wrap_u a0 (by omega : lo / y < 18446744073709551616)
    have e4 := wrap_u b0 (by omega : lo % y < 18446744073709551616)
    rw [Int.zero_mul, Int.zero_add]
    have hyn : y ≠ 0 := by omega
    go_enter Try.func34, Try.ntmps34
    go_wp2_with fail
    refine region_flow (S := fun w' => w' = w.drew) (vs := [?va0, ?va1, ?va2, ?va3, ?va4, ?va5, ?va6, ?va7]) (by kernel_rfl) (by kernel_rfl) (by kernel_rfl) (by kernel_rfl) (by kernel_rfl) rfl ?hSa ?hopsa ?henda
    case hSa => exact rfl
    case hopsa =>
      simp only [OpsOk, fillT, List.setIfInBounds_toArray, List.set_cons_zero, List.set_cons_succ]
      refine ⟨.inl ⟨by rfl, opOk_pure fun wS hS => ?_⟩, ?_⟩
      · ((subst hS; go_simp; try rw [if_neg hyn])); try (with_reducible rfl)
      refine ⟨.inl ⟨by rfl, opOk_pure fun wS hS => ?_⟩, ?_⟩
      · ((subst hS; go_simp; try rw [if_neg hyn])); try (with_reducible rfl)
      refine ⟨.inl ⟨by rfl, opOk_pure fun wS hS => ?_⟩, ?_⟩
      · ((subst hS; go_simp; try rw [if_neg hyn])); try (with_reducible rfl)
      refine ⟨.inl ⟨by rfl, opOk_pure fun wS hS => ?_⟩, ?_⟩
      · ((subst hS; go_simp; try rw [if_neg hyn])); try (with_reducible rfl)
      refine ⟨.inl ⟨by rfl, opOk_pure fun wS hS => ?_⟩, ?_⟩
      · ((subst hS; go_simp; try rw [if_neg hyn])); try (with_reducible rfl)
      refine ⟨.inl ⟨by rfl, opOk_pure fun wS hS => ?_⟩, ?_⟩
      · ((subst hS; go_simp; try rw [if_neg hyn])); try (with_reducible rfl)
      refine ⟨.inl ⟨by rfl, opOk_pure fun wS hS => ?_⟩, ?_⟩
      · ((subst hS; go_simp; try rw [if_neg hyn])); try (with_reducible rfl)
      refine ⟨.inl ⟨by rfl, opOk_pure fun wS hS => ?_⟩, ?_⟩
      · ((subst hS; go_simp; try rw [if_neg hyn])); try (with_reducible rfl)
      trivial
    case henda =>
      intro wE hE
      simp only [OpsOk, fillT, List.setIfInBounds_toArray, List.set_cons_zero, List.set_cons_succ]
      subst hE
      go_wp2
      go_ret2
      exact ⟨rfl, (Below.refl _ _).drew⟩
  · have hh0 : (hi == 0) = false := beq_eq_false_iff_ne.2 (by omega)
    obtain ⟨k, k0, k1, k2, k3, k4⟩ := lead_spec (by omega) y1
    have HL := Lib.hid (lead_any y w (by omega) (by omega) k2)
    rw [k1] at HL
    clear k1 k2
    obtain ⟨c1, u, L, c2, c3, u0, u1, L0, L1, hN⟩ := long_is h0 l0 l1 hlt k0 k4
    have HN := Lib.hid hN
    have hY : ∃ Y, y * 2 ^ k = Y := ⟨_, rfl⟩
    obtain ⟨Y, hY⟩ := hY
    rw [hY] at k3 k4 u1
    obtain ⟨p1, hp1⟩ : ∃ p, Y / 4294967296 = p := ⟨_, rfl⟩
    obtain ⟨p0, hp0⟩ : ∃ p, Y % 4294967296 = p := ⟨_, rfl⟩
    have hb0 : bits .and .u64 Y 4294967295 = p0 := by
      obtain ⟨n, rfl⟩ := Int.eq_ofNat_of_zero_le (show 0 ≤ Y by omega)
      rw [Mul64.maskN n (by omega), ← hp0]; omega
    obtain ⟨d1, hd1⟩ : ∃ p, L / 4294967296 = p := ⟨_, rfl⟩
    obtain ⟨d0, hd0⟩ : ∃ p, L % 4294967296 = p := ⟨_, rfl⟩
    have hbd : bits .and .u64 L 4294967295 = d0 := by
      obtain ⟨n, rfl⟩ := Int.eq_ofNat_of_zero_le L0
      rw [Mul64.maskN n (by omega), ← hd0]; omega
    have hY1 : p1 * 4294967296 + p0 = Y := by omega
    have hL1 : d1 * 4294967296 + d0 = L := by omega
    have K1 : Kd u d1 p1 p0 := ⟨u0, by omega, by omega, by omega, by omega, by omega, by omega, by omega⟩
    obtain ⟨q0, r0, hq0, hr0, i1, i2⟩ : ∃ q0 r0, u / p1 = q0 ∧ u - q0 * p1 = r0 ∧ Kn u d1 p1 p0 q0 r0 ∧ q0 < 18446744073709551616 := ⟨_, _, rfl, rfl, (kn_init K1).1, (kn_init K1).2⟩
    have hq1 : u.tdiv p1 = q0 := by rw [Int.tdiv_eq_ediv_of_nonneg u0]; exact hq0
    have hqq := i1.q0
    have hrr := i1.r0
    have hrl := i1.r1
    have hqs := i1.sum
    have e1 := wrap_u hqq i2
    obtain ⟨m, hm⟩ : ∃ m, q0 * p1 = m := ⟨_, rfl⟩
    rw [hm] at hr0 hqs
    have hmm : 0 ≤ m := by rw [← hm]; exact Int.mul_nonneg hqq (by omega)
    have e2 := wrap_u hmm (by omega)
    have e3 := wrap_u hrr (by omega)
    have e4 := wrap_u (n := u) u0 (by omega)
    have HK := Lib.hid K1
    have HI := Lib.hid i1
    have HY1 := Lib.hid hY1
    have HL1 := Lib.hid hL1
    have ya := K1.y1l
    have yb := K1.y1h
    have yc := K1.y0l
    have yd := K1.y0h
    have da := K1.d0
    have db := K1.d1
    have d0a : 0 ≤ d0 := by omega
    have d0b : d0 < 4294967296 := by omega
    have HYd := Lib.hid hY
    clear K1 i1 hY1 hL1 hqs hN
    go_enter Try.func34, Try.ntmps34
    go_wp2_with fail
    refine HL.out.mono ?_
    rintro e w' ⟨rfl, rfl⟩
    go_wp2
    go_loop [15, 16] (KRel u d1 p1 p0) (fun a _ => (intOf a).toNat)
    case atStart => exact ⟨_, _, rfl, rfl, HI.out, by assumption⟩
    case round =>
      obtain ⟨q, r, rfl, rfl, hk, hq64⟩ := hrel
      have qa := hk.q0
      have ra := hk.r0
      have rb := hk.r1
      have HKn := Lib.hid hk
      clear hk
      rcases (show 4294967296 ≤ q ∨ q < 4294967296 by omega) with hb | hb
      · rcases (show r + p1 < 4294967296 ∨ 4294967296 ≤ r + p1 by omega) with hc | hc
        · go_wp2
          go_round
          case rel => exact ⟨_, _, rfl, rfl, kn_yes HK.out HKn.out (.inl hb) hc, by omega⟩
          case measure => simp [intOf]; omega
        · obtain ⟨QA, hQQA⟩ : ∃ Q, q - 1 = Q := ⟨_, rfl⟩
          have hQd := kn_brk HK.out HKn.out (.inl hb) hc
          rw [hQQA] at hQd
          have hQY := rest_is (by omega) hQd
          rw [HY1.out] at hQY
          obtain ⟨P1, hP1⟩ : ∃ P, QA * Y = P := ⟨_, rfl⟩
          have HP1 := Lib.hid hP1
          rw [hP1] at hQY
          obtain ⟨v, hv⟩ : ∃ v, u * 4294967296 + d1 - P1 = v := ⟨_, rfl⟩
          have HV := Lib.hid hv
          have Q1a : 0 ≤ QA := by rw [hQd]; exact Int.ediv_nonneg (by omega) (by omega)
          have Q1b : QA < 4294967296 := by rw [hQd, HY1.out]; exact (Int.ediv_lt_iff_lt_mul (by omega)).2 (by omega)
          have e21 : IntKind.u64.wrap (IntKind.u64.wrap (IntKind.u64.wrap (u * 4294967296) + d1) - IntKind.u64.wrap P1) = v := by simp only [IntKind.wrap_u64]; omega
          have va : 0 ≤ v := by omega
          have vb : v < Y := by omega
          have K2 : Kd v d0 p1 p0 := ⟨va, by rw [HY1.out]; exact vb, d0a, d0b, ya, yb, yc, yd⟩
          obtain ⟨q2, r2, hq2, hr2, j1, j2⟩ : ∃ q0 r0, v / p1 = q0 ∧ v - q0 * p1 = r0 ∧ Kn v d0 p1 p0 q0 r0 ∧ q0 < 18446744073709551616 := ⟨_, _, rfl, rfl, (kn_init K2).1, (kn_init K2).2⟩
          have hq3 : v.tdiv p1 = q2 := by rw [Int.tdiv_eq_ediv_of_nonneg va]; exact hq2
          have jqq := j1.q0
          have jrr := j1.r0
          have jrl := j1.r1
          have jqs := j1.sum
          have e22 := wrap_u jqq j2
          obtain ⟨m2, hm2⟩ : ∃ m, q2 * p1 = m := ⟨_, rfl⟩
          rw [hm2] at hr2 jqs
          have hmm2 : 0 ≤ m2 := by rw [← hm2]; exact Int.mul_nonneg jqq (by omega)
          have e23 := wrap_u hmm2 (by omega)
          have e24 := wrap_u jrr (by omega)
          have e25 := wrap_u (n := v) va (by omega)
          have HK2 := Lib.hid K2
          have HI2 := Lib.hid j1
          clear K2 j1 jqs hQd hv hQY
          go_wp2
          go_loop [18, 16] (KRel v d0 p1 p0) (fun a _ => (intOf a).toNat)
          case atStart => exact ⟨_, _, rfl, rfl, HI2.out, by assumption⟩
          case round =>
            obtain ⟨q, r, rfl, rfl, hk, hq64⟩ := hrel
            have qa := hk.q0
            have ra := hk.r0
            have rb := hk.r1
            have HKn := Lib.hid hk
            clear hk
            rcases (show 4294967296 ≤ q ∨ q < 4294967296 by omega) with hb | hb
            · rcases (show r + p1 < 4294967296 ∨ 4294967296 ≤ r + p1 by omega) with hc | hc
              · go_wp2
                go_round
                case rel => exact ⟨_, _, rfl, rfl, kn_yes HK2.out HKn.out (.inl hb) hc, by omega⟩
                case measure => simp [intOf]; omega
              · obtain ⟨QB, hQQB⟩ : ∃ Q, q - 1 = Q := ⟨_, rfl⟩
                have hQd := kn_brk HK2.out HKn.out (.inl hb) hc
                rw [hQQB] at hQd
                have hQY := rest_is (by omega) hQd
                rw [HY1.out] at hQY
                obtain ⟨P, hP⟩ : ∃ P, QB * Y = P := ⟨_, rfl⟩
                have HP2 := Lib.hid hP
                rw [hP] at hQY
                obtain ⟨t, ht⟩ : ∃ t, v * 4294967296 + d0 - P = t := ⟨_, rfl⟩
                have Qa : 0 ≤ QB := by rw [hQd]; exact Int.ediv_nonneg (by omega) (by omega)
                have Qb : QB < 4294967296 := by rw [hQd, HY1.out]; exact (Int.ediv_lt_iff_lt_mul (by omega)).2 (by omega)
                have hbk : ((hi * 18446744073709551616 + lo) * 2 ^ k) = (QA * 4294967296 + QB) * (y * 2 ^ k) + t := by
                  have g1 := HP1.out; have g2 := HP2.out; have g3 := HN.out; have g4 := HYd.out; have g5 := HV.out; have g6 := HL1.out
                  have ee : (QA * 4294967296 + QB) * Y = QA * Y * 4294967296 + QB * Y := by rw [Int.add_mul, Int.mul_right_comm]
                  rw [g4, ee, g1, g2, ← g3]; omega
                obtain ⟨f1, f2⟩ := back_is (by omega) hbk (by omega) (by rw [HYd.out]; omega)
                have F1 := Lib.hid f1
                have F2 := Lib.hid f2
                have e31 : IntKind.u64.wrap (IntKind.u64.wrap (IntKind.u64.wrap (v * 4294967296) + d0) - IntKind.u64.wrap P) = t := by simp only [IntKind.wrap_u64]; omega
                clear f1 f2 hbk hQd ht
                go_wp2
                go_ret2
                rw [← F1.out, ← F2.out]
                exact ⟨rfl, Below.refl _ _⟩
            · have pa : 0 ≤ q * p0 := Int.mul_nonneg qa yc
              have pb : q * p0 ≤ 4294967295 * 4294967295 := Int.mul_le_mul (by omega) (by omega) yc (by decide)
              obtain ⟨p, hp⟩ : ∃ p, q * p0 = p := ⟨_, rfl⟩
              rcases (show 4294967296 * r + d0 < p ∨ p ≤ 4294967296 * r + d0 by omega) with hg | hg
              · have hgt : 4294967296 ≤ q ∨ 4294967296 * r + d0 < q * p0 := .inr (by rw [hp]; exact hg)
                have HGT := Lib.hid hgt
                have q1p := (kn_gt HK2.out HKn.out hgt).2
                rw [hp] at pa pb
                clear hgt
                rcases (show r + p1 < 4294967296 ∨ 4294967296 ≤ r + p1 by omega) with hc | hc
                · go_wp2
                  go_round
                  case rel => exact ⟨_, _, rfl, rfl, kn_yes HK2.out HKn.out HGT.out hc, by omega⟩
                  case measure => simp [intOf]; omega
                · obtain ⟨QB, hQQB⟩ : ∃ Q, q - 1 = Q := ⟨_, rfl⟩
                  have hQd := kn_brk HK2.out HKn.out HGT.out hc
                  rw [hQQB] at hQd
                  have hQY := rest_is (by omega) hQd
                  rw [HY1.out] at hQY
                  obtain ⟨P, hP⟩ : ∃ P, QB * Y = P := ⟨_, rfl⟩
                  have HP2 := Lib.hid hP
                  rw [hP] at hQY
                  obtain ⟨t, ht⟩ : ∃ t, v * 4294967296 + d0 - P = t := ⟨_, rfl⟩
                  have Qa : 0 ≤ QB := by rw [hQd]; exact Int.ediv_nonneg (by omega) (by omega)
                  have Qb : QB < 4294967296 := by rw [hQd, HY1.out]; exact (Int.ediv_lt_iff_lt_mul (by omega)).2 (by omega)
                  have hbk : ((hi * 18446744073709551616 + lo) * 2 ^ k) = (QA * 4294967296 + QB) * (y * 2 ^ k) + t := by
                    have g1 := HP1.out; have g2 := HP2.out; have g3 := HN.out; have g4 := HYd.out; have g5 := HV.out; have g6 := HL1.out
                    have ee : (QA * 4294967296 + QB) * Y = QA * Y * 4294967296 + QB * Y := by rw [Int.add_mul, Int.mul_right_comm]
                    rw [g4, ee, g1, g2, ← g3]; omega
                  obtain ⟨f1, f2⟩ := back_is (by omega) hbk (by omega) (by rw [HYd.out]; omega)
                  have F1 := Lib.hid f1
                  have F2 := Lib.hid f2
                  have e31 : IntKind.u64.wrap (IntKind.u64.wrap (IntKind.u64.wrap (v * 4294967296) + d0) - IntKind.u64.wrap P) = t := by simp only [IntKind.wrap_u64]; omega
                  clear f1 f2 hbk hQd ht
                  go_wp2
                  go_ret2
                  rw [← F1.out, ← F2.out]
                  exact ⟨rfl, Below.refl _ _⟩
              · have hQd := kn_no HK2.out HKn.out (by rw [hp]; exact hg)
                rw [hp] at pa pb
                obtain ⟨QB, hQQB⟩ : ∃ Q, Q = q := ⟨_, rfl⟩
                subst hQQB
                have hQY := rest_is (by omega) hQd
                rw [HY1.out] at hQY
                obtain ⟨P, hP⟩ : ∃ P, QB * Y = P := ⟨_, rfl⟩
                have HP2 := Lib.hid hP
                rw [hP] at hQY
                obtain ⟨t, ht⟩ : ∃ t, v * 4294967296 + d0 - P = t := ⟨_, rfl⟩
                have Qa : 0 ≤ QB := by rw [hQd]; exact Int.ediv_nonneg (by omega) (by omega)
                have Qb : QB < 4294967296 := by rw [hQd, HY1.out]; exact (Int.ediv_lt_iff_lt_mul (by omega)).2 (by omega)
                have hbk : ((hi * 18446744073709551616 + lo) * 2 ^ k) = (QA * 4294967296 + QB) * (y * 2 ^ k) + t := by
                  have g1 := HP1.out; have g2 := HP2.out; have g3 := HN.out; have g4 := HYd.out; have g5 := HV.out; have g6 := HL1.out
                  have ee : (QA * 4294967296 + QB) * Y = QA * Y * 4294967296 + QB * Y := by rw [Int.add_mul, Int.mul_right_comm]
                  rw [g4, ee, g1, g2, ← g3]; omega
                obtain ⟨f1, f2⟩ := back_is (by omega) hbk (by omega) (by rw [HYd.out]; omega)
                have F1 := Lib.hid f1
                have F2 := Lib.hid f2
                have e31 : IntKind.u64.wrap (IntKind.u64.wrap (IntKind.u64.wrap (v * 4294967296) + d0) - IntKind.u64.wrap P) = t := by simp only [IntKind.wrap_u64]; omega
                clear f1 f2 hbk hQd ht
                go_wp2
                go_ret2
                rw [← F1.out, ← F2.out]
                exact ⟨rfl, Below.refl _ _⟩
      · have pa : 0 ≤ q * p0 := Int.mul_nonneg qa yc
        have pb : q * p0 ≤ 4294967295 * 4294967295 := Int.mul_le_mul (by omega) (by omega) yc (by decide)
        obtain ⟨p, hp⟩ : ∃ p, q * p0 = p := ⟨_, rfl⟩
        rcases (show 4294967296 * r + d1 < p ∨ p ≤ 4294967296 * r + d1 by omega) with hg | hg
        · have hgt : 4294967296 ≤ q ∨ 4294967296 * r + d1 < q * p0 := .inr (by rw [hp]; exact hg)
          have HGT := Lib.hid hgt
          have q1p := (kn_gt HK.out HKn.out hgt).2
          rw [hp] at pa pb
          clear hgt
          rcases (show r + p1 < 4294967296 ∨ 4294967296 ≤ r + p1 by omega) with hc | hc
          · go_wp2
            go_round
            case rel => exact ⟨_, _, rfl, rfl, kn_yes HK.out HKn.out HGT.out hc, by omega⟩
            case measure => simp [intOf]; omega
          · obtain ⟨QA, hQQA⟩ : ∃ Q, q - 1 = Q := ⟨_, rfl⟩
            have hQd := kn_brk HK.out HKn.out HGT.out hc
            rw [hQQA] at hQd
            have hQY := rest_is (by omega) hQd
            rw [HY1.out] at hQY
            obtain ⟨P1, hP1⟩ : ∃ P, QA * Y = P := ⟨_, rfl⟩
            have HP1 := Lib.hid hP1
            rw [hP1] at hQY
            obtain ⟨v, hv⟩ : ∃ v, u * 4294967296 + d1 - P1 = v := ⟨_, rfl⟩
            have HV := Lib.hid hv
            have Q1a : 0 ≤ QA := by rw [hQd]; exact Int.ediv_nonneg (by omega) (by omega)
            have Q1b : QA < 4294967296 := by rw [hQd, HY1.out]; exact (Int.ediv_lt_iff_lt_mul (by omega)).2 (by omega)
            have e21 : IntKind.u64.wrap (IntKind.u64.wrap (IntKind.u64.wrap (u * 4294967296) + d1) - IntKind.u64.wrap P1) = v := by simp only [IntKind.wrap_u64]; omega
            have va : 0 ≤ v := by omega
            have vb : v < Y := by omega
            have K2 : Kd v d0 p1 p0 := ⟨va, by rw [HY1.out]; exact vb, d0a, d0b, ya, yb, yc, yd⟩
            obtain ⟨q2, r2, hq2, hr2, j1, j2⟩ : ∃ q0 r0, v / p1 = q0 ∧ v - q0 * p1 = r0 ∧ Kn v d0 p1 p0 q0 r0 ∧ q0 < 18446744073709551616 := ⟨_, _, rfl, rfl, (kn_init K2).1, (kn_init K2).2⟩
            have hq3 : v.tdiv p1 = q2 := by rw [Int.tdiv_eq_ediv_of_nonneg va]; exact hq2
            have jqq := j1.q0
            have jrr := j1.r0
            have jrl := j1.r1
            have jqs := j1.sum
            have e22 := wrap_u jqq j2
            obtain ⟨m2, hm2⟩ : ∃ m, q2 * p1 = m := ⟨_, rfl⟩
            rw [hm2] at hr2 jqs
            have hmm2 : 0 ≤ m2 := by rw [← hm2]; exact Int.mul_nonneg jqq (by omega)
            have e23 := wrap_u hmm2 (by omega)
            have e24 := wrap_u jrr (by omega)
            have e25 := wrap_u (n := v) va (by omega)
            have HK2 := Lib.hid K2
            have HI2 := Lib.hid j1
            clear K2 j1 jqs hQd hv hQY
            go_wp2
            go_loop [18, 16] (KRel v d0 p1 p0) (fun a _ => (intOf a).toNat)
            case atStart => exact ⟨_, _, rfl, rfl, HI2.out, by assumption⟩
            case round =>
              obtain ⟨q, r, rfl, rfl, hk, hq64⟩ := hrel
              have qa := hk.q0
              have ra := hk.r0
              have rb := hk.r1
              have HKn := Lib.hid hk
              clear hk
              rcases (show 4294967296 ≤ q ∨ q < 4294967296 by omega) with hb | hb
              · rcases (show r + p1 < 4294967296 ∨ 4294967296 ≤ r + p1 by omega) with hc | hc
                · go_wp2
                  go_round
                  case rel => exact ⟨_, _, rfl, rfl, kn_yes HK2.out HKn.out (.inl hb) hc, by omega⟩
                  case measure => simp [intOf]; omega
                · obtain ⟨QB, hQQB⟩ : ∃ Q, q - 1 = Q := ⟨_, rfl⟩
                  have hQd := kn_brk HK2.out HKn.out (.inl hb) hc
                  rw [hQQB] at hQd
                  have hQY := rest_is (by omega) hQd
                  rw [HY1.out] at hQY
                  obtain ⟨P, hP⟩ : ∃ P, QB * Y = P := ⟨_, rfl⟩
                  have HP2 := Lib.hid hP
                  rw [hP] at hQY
                  obtain ⟨t, ht⟩ : ∃ t, v * 4294967296 + d0 - P = t := ⟨_, rfl⟩
                  have Qa : 0 ≤ QB := by rw [hQd]; exact Int.ediv_nonneg (by omega) (by omega)
                  have Qb : QB < 4294967296 := by rw [hQd, HY1.out]; exact (Int.ediv_lt_iff_lt_mul (by omega)).2 (by omega)
                  have hbk : ((hi * 18446744073709551616 + lo) * 2 ^ k) = (QA * 4294967296 + QB) * (y * 2 ^ k) + t := by
                    have g1 := HP1.out; have g2 := HP2.out; have g3 := HN.out; have g4 := HYd.out; have g5 := HV.out; have g6 := HL1.out
                    have ee : (QA * 4294967296 + QB) * Y = QA * Y * 4294967296 + QB * Y := by rw [Int.add_mul, Int.mul_right_comm]
                    rw [g4, ee, g1, g2, ← g3]; omega
                  obtain ⟨f1, f2⟩ := back_is (by omega) hbk (by omega) (by rw [HYd.out]; omega)
                  have F1 := Lib.hid f1
                  have F2 := Lib.hid f2
                  have e31 : IntKind.u64.wrap (IntKind.u64.wrap (IntKind.u64.wrap (v * 4294967296) + d0) - IntKind.u64.wrap P) = t := by simp only [IntKind.wrap_u64]; omega
                  clear f1 f2 hbk hQd ht
                  go_wp2
                  go_ret2
                  rw [← F1.out, ← F2.out]
                  exact ⟨rfl, Below.refl _ _⟩
              · have pa : 0 ≤ q * p0 := Int.mul_nonneg qa yc
                have pb : q * p0 ≤ 4294967295 * 4294967295 := Int.mul_le_mul (by omega) (by omega) yc (by decide)
                obtain ⟨p, hp⟩ : ∃ p, q * p0 = p := ⟨_, rfl⟩
                rcases (show 4294967296 * r + d0 < p ∨ p ≤ 4294967296 * r + d0 by omega) with hg | hg
                · have hgt : 4294967296 ≤ q ∨ 4294967296 * r + d0 < q * p0 := .inr (by rw [hp]; exact hg)
                  have HGT := Lib.hid hgt
                  have q1p := (kn_gt HK2.out HKn.out hgt).2
                  rw [hp] at pa pb
                  clear hgt
                  rcases (show r + p1 < 4294967296 ∨ 4294967296 ≤ r + p1 by omega) with hc | hc
                  · go_wp2
                    go_round
                    case rel => exact ⟨_, _, rfl, rfl, kn_yes HK2.out HKn.out HGT.out hc, by omega⟩
                    case measure => simp [intOf]; omega
                  · obtain ⟨QB, hQQB⟩ : ∃ Q, q - 1 = Q := ⟨_, rfl⟩
                    have hQd := kn_brk HK2.out HKn.out HGT.out hc
                    rw [hQQB] at hQd
                    have hQY := rest_is (by omega) hQd
                    rw [HY1.out] at hQY
                    obtain ⟨P, hP⟩ : ∃ P, QB * Y = P := ⟨_, rfl⟩
                    have HP2 := Lib.hid hP
                    rw [hP] at hQY
                    obtain ⟨t, ht⟩ : ∃ t, v * 4294967296 + d0 - P = t := ⟨_, rfl⟩
                    have Qa : 0 ≤ QB := by rw [hQd]; exact Int.ediv_nonneg (by omega) (by omega)
                    have Qb : QB < 4294967296 := by rw [hQd, HY1.out]; exact (Int.ediv_lt_iff_lt_mul (by omega)).2 (by omega)
                    have hbk : ((hi * 18446744073709551616 + lo) * 2 ^ k) = (QA * 4294967296 + QB) * (y * 2 ^ k) + t := by
                      have g1 := HP1.out; have g2 := HP2.out; have g3 := HN.out; have g4 := HYd.out; have g5 := HV.out; have g6 := HL1.out
                      have ee : (QA * 4294967296 + QB) * Y = QA * Y * 4294967296 + QB * Y := by rw [Int.add_mul, Int.mul_right_comm]
                      rw [g4, ee, g1, g2, ← g3]; omega
                    obtain ⟨f1, f2⟩ := back_is (by omega) hbk (by omega) (by rw [HYd.out]; omega)
                    have F1 := Lib.hid f1
                    have F2 := Lib.hid f2
                    have e31 : IntKind.u64.wrap (IntKind.u64.wrap (IntKind.u64.wrap (v * 4294967296) + d0) - IntKind.u64.wrap P) = t := by simp only [IntKind.wrap_u64]; omega
                    clear f1 f2 hbk hQd ht
                    go_wp2
                    go_ret2
                    rw [← F1.out, ← F2.out]
                    exact ⟨rfl, Below.refl _ _⟩
                · have hQd := kn_no HK2.out HKn.out (by rw [hp]; exact hg)
                  rw [hp] at pa pb
                  obtain ⟨QB, hQQB⟩ : ∃ Q, Q = q := ⟨_, rfl⟩
                  subst hQQB
                  have hQY := rest_is (by omega) hQd
                  rw [HY1.out] at hQY
                  obtain ⟨P, hP⟩ : ∃ P, QB * Y = P := ⟨_, rfl⟩
                  have HP2 := Lib.hid hP
                  rw [hP] at hQY
                  obtain ⟨t, ht⟩ : ∃ t, v * 4294967296 + d0 - P = t := ⟨_, rfl⟩
                  have Qa : 0 ≤ QB := by rw [hQd]; exact Int.ediv_nonneg (by omega) (by omega)
                  have Qb : QB < 4294967296 := by rw [hQd, HY1.out]; exact (Int.ediv_lt_iff_lt_mul (by omega)).2 (by omega)
                  have hbk : ((hi * 18446744073709551616 + lo) * 2 ^ k) = (QA * 4294967296 + QB) * (y * 2 ^ k) + t := by
                    have g1 := HP1.out; have g2 := HP2.out; have g3 := HN.out; have g4 := HYd.out; have g5 := HV.out; have g6 := HL1.out
                    have ee : (QA * 4294967296 + QB) * Y = QA * Y * 4294967296 + QB * Y := by rw [Int.add_mul, Int.mul_right_comm]
                    rw [g4, ee, g1, g2, ← g3]; omega
                  obtain ⟨f1, f2⟩ := back_is (by omega) hbk (by omega) (by rw [HYd.out]; omega)
                  have F1 := Lib.hid f1
                  have F2 := Lib.hid f2
                  have e31 : IntKind.u64.wrap (IntKind.u64.wrap (IntKind.u64.wrap (v * 4294967296) + d0) - IntKind.u64.wrap P) = t := by simp only [IntKind.wrap_u64]; omega
                  clear f1 f2 hbk hQd ht
                  go_wp2
                  go_ret2
                  rw [← F1.out, ← F2.out]
                  exact ⟨rfl, Below.refl _ _⟩
        · have hQd := kn_no HK.out HKn.out (by rw [hp]; exact hg)
          rw [hp] at pa pb
          obtain ⟨QA, hQQA⟩ : ∃ Q, Q = q := ⟨_, rfl⟩
          subst hQQA
          have hQY := rest_is (by omega) hQd
          rw [HY1.out] at hQY
          obtain ⟨P1, hP1⟩ : ∃ P, QA * Y = P := ⟨_, rfl⟩
          have HP1 := Lib.hid hP1
          rw [hP1] at hQY
          obtain ⟨v, hv⟩ : ∃ v, u * 4294967296 + d1 - P1 = v := ⟨_, rfl⟩
          have HV := Lib.hid hv
          have Q1a : 0 ≤ QA := by rw [hQd]; exact Int.ediv_nonneg (by omega) (by omega)
          have Q1b : QA < 4294967296 := by rw [hQd, HY1.out]; exact (Int.ediv_lt_iff_lt_mul (by omega)).2 (by omega)
          have e21 : IntKind.u64.wrap (IntKind.u64.wrap (IntKind.u64.wrap (u * 4294967296) + d1) - IntKind.u64.wrap P1) = v := by simp only [IntKind.wrap_u64]; omega
          have va : 0 ≤ v := by omega
          have vb : v < Y := by omega
          have K2 : Kd v d0 p1 p0 := ⟨va, by rw [HY1.out]; exact vb, d0a, d0b, ya, yb, yc, yd⟩
          obtain ⟨q2, r2, hq2, hr2, j1, j2⟩ : ∃ q0 r0, v / p1 = q0 ∧ v - q0 * p1 = r0 ∧ Kn v d0 p1 p0 q0 r0 ∧ q0 < 18446744073709551616 := ⟨_, _, rfl, rfl, (kn_init K2).1, (kn_init K2).2⟩
          have hq3 : v.tdiv p1 = q2 := by rw [Int.tdiv_eq_ediv_of_nonneg va]; exact hq2
          have jqq := j1.q0
          have jrr := j1.r0
          have jrl := j1.r1
          have jqs := j1.sum
          have e22 := wrap_u jqq j2
          obtain ⟨m2, hm2⟩ : ∃ m, q2 * p1 = m := ⟨_, rfl⟩
          rw [hm2] at hr2 jqs
          have hmm2 : 0 ≤ m2 := by rw [← hm2]; exact Int.mul_nonneg jqq (by omega)
          have e23 := wrap_u hmm2 (by omega)
          have e24 := wrap_u jrr (by omega)
          have e25 := wrap_u (n := v) va (by omega)
          have HK2 := Lib.hid K2
          have HI2 := Lib.hid j1
          clear K2 j1 jqs hQd hv hQY
          go_wp2
          go_loop [18, 16] (KRel v d0 p1 p0) (fun a _ => (intOf a).toNat)
          case atStart => exact ⟨_, _, rfl, rfl, HI2.out, by assumption⟩
          case round =>
            obtain ⟨q, r, rfl, rfl, hk, hq64⟩ := hrel
            have qa := hk.q0
            have ra := hk.r0
            have rb := hk.r1
            have HKn := Lib.hid hk
            clear hk
            rcases (show 4294967296 ≤ q ∨ q < 4294967296 by omega) with hb | hb
            · rcases (show r + p1 < 4294967296 ∨ 4294967296 ≤ r + p1 by omega) with hc | hc
              · go_wp2
                go_round
                case rel => exact ⟨_, _, rfl, rfl, kn_yes HK2.out HKn.out (.inl hb) hc, by omega⟩
                case measure => simp [intOf]; omega
              · obtain ⟨QB, hQQB⟩ : ∃ Q, q - 1 = Q := ⟨_, rfl⟩
                have hQd := kn_brk HK2.out HKn.out (.inl hb) hc
                rw [hQQB] at hQd
                have hQY := rest_is (by omega) hQd
                rw [HY1.out] at hQY
                obtain ⟨P, hP⟩ : ∃ P, QB * Y = P := ⟨_, rfl⟩
                have HP2 := Lib.hid hP
                rw [hP] at hQY
                obtain ⟨t, ht⟩ : ∃ t, v * 4294967296 + d0 - P = t := ⟨_, rfl⟩
                have Qa : 0 ≤ QB := by rw [hQd]; exact Int.ediv_nonneg (by omega) (by omega)
                have Qb : QB < 4294967296 := by rw [hQd, HY1.out]; exact (Int.ediv_lt_iff_lt_mul (by omega)).2 (by omega)
                have hbk : ((hi * 18446744073709551616 + lo) * 2 ^ k) = (QA * 4294967296 + QB) * (y * 2 ^ k) + t := by
                  have g1 := HP1.out; have g2 := HP2.out; have g3 := HN.out; have g4 := HYd.out; have g5 := HV.out; have g6 := HL1.out
                  have ee : (QA * 4294967296 + QB) * Y = QA * Y * 4294967296 + QB * Y := by rw [Int.add_mul, Int.mul_right_comm]
                  rw [g4, ee, g1, g2, ← g3]; omega
                obtain ⟨f1, f2⟩ := back_is (by omega) hbk (by omega) (by rw [HYd.out]; omega)
                have F1 := Lib.hid f1
                have F2 := Lib.hid f2
                have e31 : IntKind.u64.wrap (IntKind.u64.wrap (IntKind.u64.wrap (v * 4294967296) + d0) - IntKind.u64.wrap P) = t := by simp only [IntKind.wrap_u64]; omega
                clear f1 f2 hbk hQd ht
                go_wp2
                go_ret2
                rw [← F1.out, ← F2.out]
                exact ⟨rfl, Below.refl _ _⟩
            · have pa : 0 ≤ q * p0 := Int.mul_nonneg qa yc
              have pb : q * p0 ≤ 4294967295 * 4294967295 := Int.mul_le_mul (by omega) (by omega) yc (by decide)
              obtain ⟨p, hp⟩ : ∃ p, q * p0 = p := ⟨_, rfl⟩
              rcases (show 4294967296 * r + d0 < p ∨ p ≤ 4294967296 * r + d0 by omega) with hg | hg
              · have hgt : 4294967296 ≤ q ∨ 4294967296 * r + d0 < q * p0 := .inr (by rw [hp]; exact hg)
                have HGT := Lib.hid hgt
                have q1p := (kn_gt HK2.out HKn.out hgt).2
                rw [hp] at pa pb
                clear hgt
                rcases (show r + p1 < 4294967296 ∨ 4294967296 ≤ r + p1 by omega) with hc | hc
                · go_wp2
                  go_round
                  case rel => exact ⟨_, _, rfl, rfl, kn_yes HK2.out HKn.out HGT.out hc, by omega⟩
                  case measure => simp [intOf]; omega
                · obtain ⟨QB, hQQB⟩ : ∃ Q, q - 1 = Q := ⟨_, rfl⟩
                  have hQd := kn_brk HK2.out HKn.out HGT.out hc
                  rw [hQQB] at hQd
                  have hQY := rest_is (by omega) hQd
                  rw [HY1.out] at hQY
                  obtain ⟨P, hP⟩ : ∃ P, QB * Y = P := ⟨_, rfl⟩
                  have HP2 := Lib.hid hP
                  rw [hP] at hQY
                  obtain ⟨t, ht⟩ : ∃ t, v * 4294967296 + d0 - P = t := ⟨_, rfl⟩
                  have Qa : 0 ≤ QB := by rw [hQd]; exact Int.ediv_nonneg (by omega) (by omega)
                  have Qb : QB < 4294967296 := by rw [hQd, HY1.out]; exact (Int.ediv_lt_iff_lt_mul (by omega)).2 (by omega)
                  have hbk : ((hi * 18446744073709551616 + lo) * 2 ^ k) = (QA * 4294967296 + QB) * (y * 2 ^ k) + t := by
                    have g1 := HP1.out; have g2 := HP2.out; have g3 := HN.out; have g4 := HYd.out; have g5 := HV.out; have g6 := HL1.out
                    have ee : (QA * 4294967296 + QB) * Y = QA * Y * 4294967296 + QB * Y := by rw [Int.add_mul, Int.mul_right_comm]
                    rw [g4, ee, g1, g2, ← g3]; omega
                  obtain ⟨f1, f2⟩ := back_is (by omega) hbk (by omega) (by rw [HYd.out]; omega)
                  have F1 := Lib.hid f1
                  have F2 := Lib.hid f2
                  have e31 : IntKind.u64.wrap (IntKind.u64.wrap (IntKind.u64.wrap (v * 4294967296) + d0) - IntKind.u64.wrap P) = t := by simp only [IntKind.wrap_u64]; omega
                  clear f1 f2 hbk hQd ht
                  go_wp2
                  go_ret2
                  rw [← F1.out, ← F2.out]
                  exact ⟨rfl, Below.refl _ _⟩
              · have hQd := kn_no HK2.out HKn.out (by rw [hp]; exact hg)
                rw [hp] at pa pb
                obtain ⟨QB, hQQB⟩ : ∃ Q, Q = q := ⟨_, rfl⟩
                subst hQQB
                have hQY := rest_is (by omega) hQd
                rw [HY1.out] at hQY
                obtain ⟨P, hP⟩ : ∃ P, QB * Y = P := ⟨_, rfl⟩
                have HP2 := Lib.hid hP
                rw [hP] at hQY
                obtain ⟨t, ht⟩ : ∃ t, v * 4294967296 + d0 - P = t := ⟨_, rfl⟩
                have Qa : 0 ≤ QB := by rw [hQd]; exact Int.ediv_nonneg (by omega) (by omega)
                have Qb : QB < 4294967296 := by rw [hQd, HY1.out]; exact (Int.ediv_lt_iff_lt_mul (by omega)).2 (by omega)
                have hbk : ((hi * 18446744073709551616 + lo) * 2 ^ k) = (QA * 4294967296 + QB) * (y * 2 ^ k) + t := by
                  have g1 := HP1.out; have g2 := HP2.out; have g3 := HN.out; have g4 := HYd.out; have g5 := HV.out; have g6 := HL1.out
                  have ee : (QA * 4294967296 + QB) * Y = QA * Y * 4294967296 + QB * Y := by rw [Int.add_mul, Int.mul_right_comm]
                  rw [g4, ee, g1, g2, ← g3]; omega
                obtain ⟨f1, f2⟩ := back_is (by omega) hbk (by omega) (by rw [HYd.out]; omega)
                have F1 := Lib.hid f1
                have F2 := Lib.hid f2
                have e31 : IntKind.u64.wrap (IntKind.u64.wrap (IntKind.u64.wrap (v * 4294967296) + d0) - IntKind.u64.wrap P) = t := by simp only [IntKind.wrap_u64]; omega
                clear f1 f2 hbk hQd ht
                go_wp2
                go_ret2
                rw [← F1.out, ← F2.out]
                exact ⟨rfl, Below.refl _ _⟩
end Go.Proofs.Ytonjibjghijacaa
