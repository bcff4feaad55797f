/- Walk over the document's product of two words. -/
import Derived.Test.YtcfpbemoocegfaaPart8
import Derived.LoopN
namespace Go.Proofs.Ytcfpbemoocegfaa
set_option linter.unusedVariables false
set_option linter.unusedSimpArgs false
set_option linter.unnecessarySimpa false
open Go.RowKit

theorem limb_mul {x y : Int} (x0 : 0 ≤ x) (x1 : x ≤ 4294967295) (y0 : 0 ≤ y) (y1 : y ≤ 4294967295) : 0 ≤ x * y ∧ x * y ≤ 18446744065119617025 := by
  refine ⟨Int.mul_nonneg x0 y0, ?_⟩
  have := Int.mul_le_mul x1 y1 y0 (by decide)
  exact this
/-- Four parts of 32 bits, and what they come to. -/
def Limbs (N w0 w1 w2 w3 : Int) : Prop := (0 ≤ w0 ∧ w0 < 4294967296) ∧ (0 ≤ w1 ∧ w1 < 4294967296) ∧ (0 ≤ w2 ∧ w2 < 4294967296) ∧ (0 ≤ w3 ∧ w3 < 4294967296) ∧ N = w0 + w1 * 4294967296 + w2 * 18446744073709551616 + w3 * 79228162514264337593543950336
theorem limbs_of {a b x0 x1 y0 y1 p00 p01 p10 p11 : Int} (hx0 : a % 4294967296 = x0) (hx1 : a / 4294967296 = x1) (hy0 : b % 4294967296 = y0) (hy1 : b / 4294967296 = y1) (h00 : x0 * y0 = p00) (h01 : x0 * y1 = p01) (h10 : x1 * y0 = p10) (h11 : x1 * y1 = p11) :
    a * b = p00 + p01 * 4294967296 + p10 * 4294967296 + p11 * 18446744073709551616 := by
  have ea : a = x0 + x1 * 4294967296 := by omega
  have eb : b = y0 + y1 * 4294967296 := by omega
  rw [ea, eb, Int.add_mul, Int.mul_add, Int.mul_add, h00, ← Int.mul_assoc, h01, Int.mul_right_comm, h10, Int.mul_assoc x1, Int.mul_left_comm 4294967296 y1, ← Int.mul_assoc, h11]
  omega

set_option maxRecDepth 100000 in
set_option maxHeartbeats 4000000 in
theorem wide_any (a b : Int) (ha : U64 a) (hb : U64 b) (w : World) :
    Calls Try.prog 132 #[.int .u64 a, .int .u64 b] w fun e w' => ∃ w0 w1 w2 w3, e = .returned (.agg #[.int .u64 w0, .int .u64 w1, .int .u64 w2, .int .u64 w3]) ∧ Limbs (a * b) w0 w1 w2 w3 ∧ Below w.heap.size w w' := by
  obtain ⟨a0, a1⟩ := ha
  obtain ⟨b0, b1⟩ := hb
  obtain ⟨x0, hx0⟩ : ∃ x, a % 4294967296 = x := ⟨_, rfl⟩
  obtain ⟨x1, hx1⟩ : ∃ x, a / 4294967296 = x := ⟨_, rfl⟩
  obtain ⟨y0, hy0⟩ : ∃ x, b % 4294967296 = x := ⟨_, rfl⟩
  obtain ⟨y1, hy1⟩ : ∃ x, b / 4294967296 = x := ⟨_, rfl⟩
  have X0 : 0 ≤ x0 ∧ x0 ≤ 4294967295 := by omega
  have X1 : 0 ≤ x1 ∧ x1 ≤ 4294967295 := by omega
  have Y0 : 0 ≤ y0 ∧ y0 ≤ 4294967295 := by omega
  have Y1 : 0 ≤ y1 ∧ y1 ≤ 4294967295 := by omega
  have b00 := limb_mul X0.1 X0.2 Y0.1 Y0.2
  have b01 := limb_mul X0.1 X0.2 Y1.1 Y1.2
  have b10 := limb_mul X1.1 X1.2 Y0.1 Y0.2
  have b11 := limb_mul X1.1 X1.2 Y1.1 Y1.2
  obtain ⟨p00, h00⟩ : ∃ x, x0 * y0 = x := ⟨_, rfl⟩
  obtain ⟨p01, h01⟩ : ∃ x, x0 * y1 = x := ⟨_, rfl⟩
  obtain ⟨p10, h10⟩ : ∃ x, x1 * y0 = x := ⟨_, rfl⟩
  obtain ⟨p11, h11⟩ : ∃ x, x1 * y1 = x := ⟨_, rfl⟩
  have hsum := limbs_of hx0 hx1 hy0 hy1 h00 h01 h10 h11
  rw [hsum]
  rw [h00] at b00; rw [h01] at b01; rw [h10] at b10; rw [h11] at b11
  clear hsum
  obtain ⟨v0, hv0⟩ : ∃ x, p00 % 4294967296 = x := ⟨_, rfl⟩
  obtain ⟨c0, hc0⟩ : ∃ x, p00 / 4294967296 = x := ⟨_, rfl⟩
  obtain ⟨o1, ho1⟩ : ∃ x, (p01 + c0) % 4294967296 = x := ⟨_, rfl⟩
  obtain ⟨c1, hc1⟩ : ∃ x, (p01 + c0) / 4294967296 = x := ⟨_, rfl⟩
  obtain ⟨v1, hv1⟩ : ∃ x, (o1 + p10) % 4294967296 = x := ⟨_, rfl⟩
  obtain ⟨c2, hc2⟩ : ∃ x, (o1 + p10) / 4294967296 = x := ⟨_, rfl⟩
  obtain ⟨v2, hv2⟩ : ∃ x, (c1 + p11 + c2) % 4294967296 = x := ⟨_, rfl⟩
  obtain ⟨v3, hv3⟩ : ∃ x, (c1 + p11 + c2) / 4294967296 = x := ⟨_, rfl⟩
  have i0 : 0 ≤ c0 ∧ c0 ≤ 4294967294 := by omega
  have i1 : 0 ≤ c1 ∧ c1 ≤ 4294967294 := by omega
  have i2 : 0 ≤ c2 ∧ c2 ≤ 4294967295 := by omega
  have i3 : 0 ≤ o1 ∧ o1 ≤ 4294967295 := by omega
  have hlim : Limbs (p00 + p01 * 4294967296 + p10 * 4294967296 + p11 * 18446744073709551616) v0 v1 v2 v3 := ⟨by omega, by omega, by omega, by omega, by omega⟩
  have HLIM := Lib.hid hlim
  clear hlim
  have z0 : IntKind.i64.wrap 0 = 0 := rfl
  have z1 : IntKind.i64.wrap 1 = 1 := rfl
  have z2 : IntKind.i64.wrap 2 = 2 := rfl
  have z3 : IntKind.i64.wrap 3 = 3 := rfl
  have zu : IntKind.u64.wrap 0 = 0 := rfl
  go_enter Try.func132, Try.ntmps132
  go_wp2
  refine wp_loop_rounds 3 ?_
  rw [rounds_succ]
  go_wp2
  refine wp_loop_rounds 3 ?_
  rw [rounds_succ]
  go_wp2
  refine region_flow (S := fun w' => w' = ?Wa) (vs := [?va0, ?va1, ?va2, ?va3, ?va4, ?va5, ?va6, ?va7, ?va8, ?va9, ?va10, ?va11, ?va12, ?va13, ?va14, ?va15]) (by kernel_rfl) (by kernel_rfl) (by kernel_rfl) (by kernel_rfl) (by kernel_rfl) rfl ?hSa ?hopsa ?henda
  case hSa => exact rfl
  case hopsa =>
    simp only [OpsOk, fillT, List.setIfInBounds_toArray, List.set_cons_zero, List.set_cons_succ]
    refine ⟨.inl ⟨by rfl, opOk_pure fun wS hS => ?_⟩, ?_⟩
    · ((subst hS; go_simp; try simp (disch := omega) only [wrap_u])); try (with_reducible rfl)
    refine ⟨.inl ⟨by rfl, opOk_pure fun wS hS => ?_⟩, ?_⟩
    · ((subst hS; go_simp; try simp (disch := omega) only [wrap_u])); try (with_reducible rfl)
    refine ⟨.inl ⟨by rfl, opOk_pure fun wS hS => ?_⟩, ?_⟩
    · ((subst hS; go_simp; try simp (disch := omega) only [wrap_u])); try (with_reducible rfl)
    refine ⟨.inl ⟨by rfl, opOk_pure fun wS hS => ?_⟩, ?_⟩
    · ((subst hS; go_simp; try simp (disch := omega) only [wrap_u])); try (with_reducible rfl)
    refine ⟨.inl ⟨by rfl, opOk_pure fun wS hS => ?_⟩, ?_⟩
    · ((subst hS; go_simp; try simp (disch := omega) only [wrap_u])); try (with_reducible rfl)
    refine ⟨.inl ⟨by rfl, opOk_pure fun wS hS => ?_⟩, ?_⟩
    · ((subst hS; go_simp; try simp (disch := omega) only [wrap_u])); try (with_reducible rfl)
    refine ⟨.inl ⟨by rfl, opOk_pure fun wS hS => ?_⟩, ?_⟩
    · ((subst hS; go_simp; try simp (disch := omega) only [wrap_u])); try (with_reducible rfl)
    refine ⟨.inl ⟨by rfl, opOk_pure fun wS hS => ?_⟩, ?_⟩
    · ((subst hS; go_simp; try simp (disch := omega) only [wrap_u])); try (with_reducible rfl)
    refine ⟨.inl ⟨by rfl, opOk_pure fun wS hS => ?_⟩, ?_⟩
    · ((subst hS; go_simp; try simp (disch := omega) only [wrap_u])); try (with_reducible rfl)
    refine ⟨.inl ⟨by rfl, opOk_pure fun wS hS => ?_⟩, ?_⟩
    · ((subst hS; go_simp; try simp (disch := omega) only [wrap_u])); try (with_reducible rfl)
    refine ⟨.inl ⟨by rfl, opOk_pure fun wS hS => ?_⟩, ?_⟩
    · ((subst hS; go_simp; try simp (disch := omega) only [wrap_u])); try (with_reducible rfl)
    refine ⟨.inl ⟨by rfl, opOk_pure fun wS hS => ?_⟩, ?_⟩
    · ((subst hS; go_simp; try simp (disch := omega) only [wrap_u])); try (with_reducible rfl)
    refine ⟨.inl ⟨by rfl, opOk_pure fun wS hS => ?_⟩, ?_⟩
    · ((subst hS; go_simp; try simp (disch := omega) only [wrap_u])); try (with_reducible rfl)
    refine ⟨.inl ⟨by rfl, opOk_pure fun wS hS => ?_⟩, ?_⟩
    · ((subst hS; go_simp; try simp (disch := omega) only [wrap_u])); try (with_reducible rfl)
    refine ⟨.inl ⟨by rfl, opOk_pure fun wS hS => ?_⟩, ?_⟩
    · ((subst hS; go_simp; try simp (disch := omega) only [wrap_u])); try (with_reducible rfl)
    refine ⟨.inl ⟨by rfl, opOk_pure fun wS hS => ?_⟩, ?_⟩
    · ((subst hS; go_simp; try simp (disch := omega) only [wrap_u])); try (with_reducible rfl)
    trivial
  case henda =>
    intro wE hE
    simp only [OpsOk, fillT, List.setIfInBounds_toArray, List.set_cons_zero, List.set_cons_succ]
    subst hE
    go_wp2
    rw [rounds_succ]
    go_wp2
    refine region_flow (S := fun w' => w' = ?Wb) (vs := [?vb0, ?vb1, ?vb2, ?vb3, ?vb4, ?vb5, ?vb6, ?vb7, ?vb8, ?vb9, ?vb10, ?vb11, ?vb12, ?vb13, ?vb14, ?vb15]) (by kernel_rfl) (by kernel_rfl) (by kernel_rfl) (by kernel_rfl) (by kernel_rfl) rfl ?hSb ?hopsb ?hendb
    case hSb => exact rfl
    case hopsb =>
      simp only [OpsOk, fillT, List.setIfInBounds_toArray, List.set_cons_zero, List.set_cons_succ]
      refine ⟨.inl ⟨by rfl, opOk_pure fun wS hS => ?_⟩, ?_⟩
      · ((subst hS; go_simp; try simp (disch := omega) only [wrap_u])); try (with_reducible rfl)
      refine ⟨.inl ⟨by rfl, opOk_pure fun wS hS => ?_⟩, ?_⟩
      · ((subst hS; go_simp; try simp (disch := omega) only [wrap_u])); try (with_reducible rfl)
      refine ⟨.inl ⟨by rfl, opOk_pure fun wS hS => ?_⟩, ?_⟩
      · ((subst hS; go_simp; try simp (disch := omega) only [wrap_u])); try (with_reducible rfl)
      refine ⟨.inl ⟨by rfl, opOk_pure fun wS hS => ?_⟩, ?_⟩
      · ((subst hS; go_simp; try simp (disch := omega) only [wrap_u])); try (with_reducible rfl)
      refine ⟨.inl ⟨by rfl, opOk_pure fun wS hS => ?_⟩, ?_⟩
      · ((subst hS; go_simp; try simp (disch := omega) only [wrap_u])); try (with_reducible rfl)
      refine ⟨.inl ⟨by rfl, opOk_pure fun wS hS => ?_⟩, ?_⟩
      · ((subst hS; go_simp; try simp (disch := omega) only [wrap_u])); try (with_reducible rfl)
      refine ⟨.inl ⟨by rfl, opOk_pure fun wS hS => ?_⟩, ?_⟩
      · ((subst hS; go_simp; try simp (disch := omega) only [wrap_u])); try (with_reducible rfl)
      refine ⟨.inl ⟨by rfl, opOk_pure fun wS hS => ?_⟩, ?_⟩
      · ((subst hS; go_simp; try simp (disch := omega) only [wrap_u])); try (with_reducible rfl)
      refine ⟨.inl ⟨by rfl, opOk_pure fun wS hS => ?_⟩, ?_⟩
      · ((subst hS; go_simp; try simp (disch := omega) only [wrap_u])); try (with_reducible rfl)
      refine ⟨.inl ⟨by rfl, opOk_pure fun wS hS => ?_⟩, ?_⟩
      · ((subst hS; go_simp; try simp (disch := omega) only [wrap_u])); try (with_reducible rfl)
      refine ⟨.inl ⟨by rfl, opOk_pure fun wS hS => ?_⟩, ?_⟩
      · ((subst hS; go_simp; try simp (disch := omega) only [wrap_u])); try (with_reducible rfl)
      refine ⟨.inl ⟨by rfl, opOk_pure fun wS hS => ?_⟩, ?_⟩
      · ((subst hS; go_simp; try simp (disch := omega) only [wrap_u])); try (with_reducible rfl)
      refine ⟨.inl ⟨by rfl, opOk_pure fun wS hS => ?_⟩, ?_⟩
      · ((subst hS; go_simp; try simp (disch := omega) only [wrap_u])); try (with_reducible rfl)
      refine ⟨.inl ⟨by rfl, opOk_pure fun wS hS => ?_⟩, ?_⟩
      · ((subst hS; go_simp; try simp (disch := omega) only [wrap_u])); try (with_reducible rfl)
      refine ⟨.inl ⟨by rfl, opOk_pure fun wS hS => ?_⟩, ?_⟩
      · ((subst hS; go_simp; try simp (disch := omega) only [wrap_u])); try (with_reducible rfl)
      refine ⟨.inl ⟨by rfl, opOk_pure fun wS hS => ?_⟩, ?_⟩
      · ((subst hS; go_simp; try simp (disch := omega) only [wrap_u])); try (with_reducible rfl)
      trivial
    case hendb =>
      intro wE hE
      simp only [OpsOk, fillT, List.setIfInBounds_toArray, List.set_cons_zero, List.set_cons_succ]
      subst hE
      go_wp2
      rw [rounds_succ]
      go_wp2
      rw [rounds_succ]
      go_wp2
      refine wp_loop_rounds 3 ?_
      rw [rounds_succ]
      go_wp2
      refine region_flow (S := fun w' => w' = ?Wc) (vs := [?vc0, ?vc1, ?vc2, ?vc3, ?vc4, ?vc5, ?vc6, ?vc7, ?vc8, ?vc9, ?vc10, ?vc11, ?vc12, ?vc13, ?vc14, ?vc15]) (by kernel_rfl) (by kernel_rfl) (by kernel_rfl) (by kernel_rfl) (by kernel_rfl) rfl ?hSc ?hopsc ?hendc
      case hSc => exact rfl
      case hopsc =>
        simp only [OpsOk, fillT, List.setIfInBounds_toArray, List.set_cons_zero, List.set_cons_succ]
        refine ⟨.inl ⟨by rfl, opOk_pure fun wS hS => ?_⟩, ?_⟩
        · ((subst hS; go_simp; try simp (disch := omega) only [wrap_u])); try (with_reducible rfl)
        refine ⟨.inl ⟨by rfl, opOk_pure fun wS hS => ?_⟩, ?_⟩
        · ((subst hS; go_simp; try simp (disch := omega) only [wrap_u])); try (with_reducible rfl)
        refine ⟨.inl ⟨by rfl, opOk_pure fun wS hS => ?_⟩, ?_⟩
        · ((subst hS; go_simp; try simp (disch := omega) only [wrap_u])); try (with_reducible rfl)
        refine ⟨.inl ⟨by rfl, opOk_pure fun wS hS => ?_⟩, ?_⟩
        · ((subst hS; go_simp; try simp (disch := omega) only [wrap_u])); try (with_reducible rfl)
        refine ⟨.inl ⟨by rfl, opOk_pure fun wS hS => ?_⟩, ?_⟩
        · ((subst hS; go_simp; try simp (disch := omega) only [wrap_u])); try (with_reducible rfl)
        refine ⟨.inl ⟨by rfl, opOk_pure fun wS hS => ?_⟩, ?_⟩
        · ((subst hS; go_simp; try simp (disch := omega) only [wrap_u])); try (with_reducible rfl)
        refine ⟨.inl ⟨by rfl, opOk_pure fun wS hS => ?_⟩, ?_⟩
        · ((subst hS; go_simp; try simp (disch := omega) only [wrap_u])); try (with_reducible rfl)
        refine ⟨.inl ⟨by rfl, opOk_pure fun wS hS => ?_⟩, ?_⟩
        · ((subst hS; go_simp; try simp (disch := omega) only [wrap_u])); try (with_reducible rfl)
        refine ⟨.inl ⟨by rfl, opOk_pure fun wS hS => ?_⟩, ?_⟩
        · ((subst hS; go_simp; try simp (disch := omega) only [wrap_u])); try (with_reducible rfl)
        refine ⟨.inl ⟨by rfl, opOk_pure fun wS hS => ?_⟩, ?_⟩
        · ((subst hS; go_simp; try simp (disch := omega) only [wrap_u])); try (with_reducible rfl)
        refine ⟨.inl ⟨by rfl, opOk_pure fun wS hS => ?_⟩, ?_⟩
        · ((subst hS; go_simp; try simp (disch := omega) only [wrap_u])); try (with_reducible rfl)
        refine ⟨.inl ⟨by rfl, opOk_pure fun wS hS => ?_⟩, ?_⟩
        · ((subst hS; go_simp; try simp (disch := omega) only [wrap_u])); try (with_reducible rfl)
        refine ⟨.inl ⟨by rfl, opOk_pure fun wS hS => ?_⟩, ?_⟩
        · ((subst hS; go_simp; try simp (disch := omega) only [wrap_u])); try (with_reducible rfl)
        refine ⟨.inl ⟨by rfl, opOk_pure fun wS hS => ?_⟩, ?_⟩
        · ((subst hS; go_simp; try simp (disch := omega) only [wrap_u])); try (with_reducible rfl)
        refine ⟨.inl ⟨by rfl, opOk_pure fun wS hS => ?_⟩, ?_⟩
        · ((subst hS; go_simp; try simp (disch := omega) only [wrap_u])); try (with_reducible rfl)
        refine ⟨.inl ⟨by rfl, opOk_pure fun wS hS => ?_⟩, ?_⟩
        · ((subst hS; go_simp; try simp (disch := omega) only [wrap_u])); try (with_reducible rfl)
        trivial
      case hendc =>
        intro wE hE
        simp only [OpsOk, fillT, List.setIfInBounds_toArray, List.set_cons_zero, List.set_cons_succ]
        subst hE
        go_wp2
        rw [rounds_succ]
        go_wp2
        refine region_flow (S := fun w' => w' = ?Wd) (vs := [?vd0, ?vd1, ?vd2, ?vd3, ?vd4, ?vd5, ?vd6, ?vd7, ?vd8, ?vd9, ?vd10, ?vd11, ?vd12, ?vd13, ?vd14, ?vd15]) (by kernel_rfl) (by kernel_rfl) (by kernel_rfl) (by kernel_rfl) (by kernel_rfl) rfl ?hSd ?hopsd ?hendd
        case hSd => exact rfl
        case hopsd =>
          simp only [OpsOk, fillT, List.setIfInBounds_toArray, List.set_cons_zero, List.set_cons_succ]
          refine ⟨.inl ⟨by rfl, opOk_pure fun wS hS => ?_⟩, ?_⟩
          · ((subst hS; go_simp; try simp (disch := omega) only [wrap_u])); try (with_reducible rfl)
          refine ⟨.inl ⟨by rfl, opOk_pure fun wS hS => ?_⟩, ?_⟩
          · ((subst hS; go_simp; try simp (disch := omega) only [wrap_u])); try (with_reducible rfl)
          refine ⟨.inl ⟨by rfl, opOk_pure fun wS hS => ?_⟩, ?_⟩
          · ((subst hS; go_simp; try simp (disch := omega) only [wrap_u])); try (with_reducible rfl)
          refine ⟨.inl ⟨by rfl, opOk_pure fun wS hS => ?_⟩, ?_⟩
          · ((subst hS; go_simp; try simp (disch := omega) only [wrap_u])); try (with_reducible rfl)
          refine ⟨.inl ⟨by rfl, opOk_pure fun wS hS => ?_⟩, ?_⟩
          · ((subst hS; go_simp; try simp (disch := omega) only [wrap_u])); try (with_reducible rfl)
          refine ⟨.inl ⟨by rfl, opOk_pure fun wS hS => ?_⟩, ?_⟩
          · ((subst hS; go_simp; try simp (disch := omega) only [wrap_u])); try (with_reducible rfl)
          refine ⟨.inl ⟨by rfl, opOk_pure fun wS hS => ?_⟩, ?_⟩
          · ((subst hS; go_simp; try simp (disch := omega) only [wrap_u])); try (with_reducible rfl)
          refine ⟨.inl ⟨by rfl, opOk_pure fun wS hS => ?_⟩, ?_⟩
          · ((subst hS; go_simp; try simp (disch := omega) only [wrap_u])); try (with_reducible rfl)
          refine ⟨.inl ⟨by rfl, opOk_pure fun wS hS => ?_⟩, ?_⟩
          · ((subst hS; go_simp; try simp (disch := omega) only [wrap_u])); try (with_reducible rfl)
          refine ⟨.inl ⟨by rfl, opOk_pure fun wS hS => ?_⟩, ?_⟩
          · ((subst hS; go_simp; try simp (disch := omega) only [wrap_u])); try (with_reducible rfl)
          refine ⟨.inl ⟨by rfl, opOk_pure fun wS hS => ?_⟩, ?_⟩
          · ((subst hS; go_simp; try simp (disch := omega) only [wrap_u])); try (with_reducible rfl)
          refine ⟨.inl ⟨by rfl, opOk_pure fun wS hS => ?_⟩, ?_⟩
          · ((subst hS; go_simp; try simp (disch := omega) only [wrap_u])); try (with_reducible rfl)
          refine ⟨.inl ⟨by rfl, opOk_pure fun wS hS => ?_⟩, ?_⟩
          · ((subst hS; go_simp; try simp (disch := omega) only [wrap_u])); try (with_reducible rfl)
          refine ⟨.inl ⟨by rfl, opOk_pure fun wS hS => ?_⟩, ?_⟩
          · ((subst hS; go_simp; try simp (disch := omega) only [wrap_u])); try (with_reducible rfl)
          refine ⟨.inl ⟨by rfl, opOk_pure fun wS hS => ?_⟩, ?_⟩
          · ((subst hS; go_simp; try simp (disch := omega) only [wrap_u])); try (with_reducible rfl)
          refine ⟨.inl ⟨by rfl, opOk_pure fun wS hS => ?_⟩, ?_⟩
          · ((subst hS; go_simp; try simp (disch := omega) only [wrap_u])); try (with_reducible rfl)
          trivial
        case hendd =>
          intro wE hE
          simp only [OpsOk, fillT, List.setIfInBounds_toArray, List.set_cons_zero, List.set_cons_succ]
          subst hE
          go_wp2
          rw [rounds_succ]
          go_wp2
          rw [rounds_succ]
          go_wp2
          skip
          exact bodyPost_ret (v := .agg #[.int .u64 v0, .int .u64 v1, .int .u64 v2, .int .u64 v3]) (by simp only [results, Try.results132]; go_simp) rfl ⟨v0, v1, v2, v3, rfl, HLIM.out, (by repeat (first | exact Below.refl _ _ | refine Below.alloc ?_ (by first | (simp; done) | (simp; omega)) _ | refine Below.setCell ?_ (by first | (simp; done) | (simp; omega)) _ | refine Below.drew ?_))⟩
end Go.Proofs.Ytcfpbemoocegfaa
