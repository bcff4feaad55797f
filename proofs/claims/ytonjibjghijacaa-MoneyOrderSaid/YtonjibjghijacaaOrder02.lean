/- Walk over the law MoneyOrder. -/
import Derived.Test.YtonjibjghijacaaLaws02
namespace Go.Proofs.Ytonjibjghijacaa
set_option linter.unusedVariables false
set_option linter.unusedSimpArgs false
set_option linter.unnecessarySimpa false
open Go.RowKit

set_option maxRecDepth 100000 in
set_option maxHeartbeats 2000000 in
theorem order_law (w : World) (x0 y0 a m : Int) (hx0 : U64 x0) (hy0 : U64 y0) (ha : U64 a) (hm : U64 m) (A : Option Addr) (c : Nat) (l : List (Int × Int)) (h : Recs 2 feeC w A c l) (hu : P64 l) : Calls Try.prog 7 #[.int .u64 x0, .int .u64 y0, .int .u64 a, .int .u64 m, .slice A l.length c] w fun e w' => e = .returned (.bool true) ∧ Below w.heap.size w w' := by
  have H0 := Lib.hid (Sat.pushRest w)
  have HR := Lib.hid h
  have HU := Lib.hid hu
  have hlen := h.len
  clear h hu
  rcases (show 200 < l.length ∨ l.length ≤ 200 by omega) with hn | hn
  · go_enter Try.func7, Try.ntmps7
    go_wp2_with fail
    refine (awake_any _).mono ?_
    rintro e w1 ⟨rfl, hb⟩
    have h1 := H0.out.grow hb
    have H1 := Lib.hid h1
    clear hb h1
    go_wp2
    go_ret
    exact ⟨rfl, H1.out.below (i := 0) rfl⟩
  · have HA1 := Lib.hid (add_any a m ha hm)
    have hbu := addP_u ha hm
    have hab : (addP a m).2 = 0 → a ≤ (addP a m).1 := by unfold addP; split <;> intro h <;> dsimp only at * <;> first | (have := hm.1; omega) | cases h
    generalize addP a m = r1 at *
    obtain ⟨b, e⟩ := r1
    dsimp only at HA1 hbu hab
    have HO1 := Lib.hid (over_any x0 y0 a hx0 hy0 ha)
    have HO2 := Lib.hid (over_any x0 y0 b hx0 hy0 hbu)
    have hmo := fun h1 h2 h3 => overP_mono ha hbu hx0 hy0 h1 h2 h3
    generalize overP x0 y0 a = r2 at *
    generalize overP x0 y0 b = r3 at *
    obtain ⟨x, g⟩ := r2
    obtain ⟨y, h⟩ := r3
    dsimp only at HO1 HO2 hmo
    rcases (show (backP a l).2 = 0 ∨ (backP a l).2 ≠ 0 by omega) with hbe | hbe
    · have HP := Lib.hid (fun i hi => pays_of ha HU.out hbe (i := i) hi)
      have hlen2 := backP_len l hbe
      obtain ⟨s, hs⟩ : ∃ s, (backP a l).1 = s := ⟨_, rfl⟩
      rw [hs] at HP hlen2
      have HSE := Lib.hid hs
      have HSL := Lib.hid hlen2
      have HBE := Lib.hid hbe
      clear hs hlen2 hbe
      rcases (show e ≠ 0 ∨ (e = 0 ∧ g ≠ 0) ∨ (e = 0 ∧ g = 0 ∧ h ≠ 0) ∨ (e = 0 ∧ g = 0 ∧ h = 0) by omega) with he | ⟨he, hg⟩ | ⟨he, hg, hh⟩ | ⟨he, hg, hh⟩
      · have e1 : (e == 0) = false := beq_eq_false_iff_ne.2 he
        clear he hmo hab hbu
        go_enter Try.func7, Try.ntmps7
        have h1 := H0.out.alloc #[.int .u64 x0, .int .u64 y0] 43
        try simp only [List.cons_append, List.nil_append, List.set_cons_succ, List.set_cons_zero, Nat.zero_add, Nat.reduceAdd] at h1
        have H1 := Lib.hid h1
        clear h1
        go_wp2_with fail
        refine (HA1.out _).mono ?_
        rintro e w2 ⟨rfl, rfl⟩
        go_wp2_with fail
        refine (HO1.out _).mono ?_
        rintro e w3 ⟨rfl, hb⟩
        have h3 := H1.out.grow hb
        have k3 := h3.all
        simp only [allFacts, box_facts, row_facts, emp_facts, cellFacts, Nat.zero_add, Nat.reduceAdd, true_and, and_true] at k3
        have H3 := Lib.hid h3
        clear hb h3
        go_wp2_with fail
        refine (HO2.out _).mono ?_
        rintro e w4 ⟨rfl, hb⟩
        have h4 := H3.out.grow hb
        have k4 := h4.all
        simp only [allFacts, box_facts, row_facts, emp_facts, cellFacts, Nat.zero_add, Nat.reduceAdd, true_and, and_true] at k4
        clear k3
        have H4 := Lib.hid h4
        clear hb h4
        clear k4
        go_wp2_with fail
        go_wp2_with fail
        refine (fees_any _ A c l (HR.out.mono (src_rest H4.out (i := 0) rfl HR.out.src (src_lt HR.out.src))) (by omega)).mono ?_
        rintro e w5 ⟨A1, c1, rfl, g⟩
        have h5 := H4.out.pushThings g
        try simp only [List.cons_append, List.nil_append, List.set_cons_succ, List.set_cons_zero, Nat.zero_add, Nat.reduceAdd] at h5
        have H5 := Lib.hid h5
        clear g h5
        have hf := Recs.ofRow (k := 2) (f := feeC) (H5.out.rowOf (i := 2) rfl) (by omega)
        have hbk1 := back_any w5 a ha A1 c1 l hf HU.out (by omega)
        rw [HBE.out, HSE.out, HSL.out] at hbk1
        have HBK1 := Lib.hid hbk1
        clear hbk1 hf
        go_wp2_with fail
        refine (HBK1.out).mono ?_
        rintro e w6 ⟨A2, c2, rfl, g⟩
        have h6 := H5.out.pushThings g
        try simp only [List.cons_append, List.nil_append, List.set_cons_succ, List.set_cons_zero, Nat.zero_add, Nat.reduceAdd] at h6
        have H6 := Lib.hid h6
        clear g h6
        go_wp2
        go_loopw [75] (fun i wr => ∃ k : Nat, k ≤ l.length + 1 ∧ i = .int .i64 k ∧ Sat w wr [rest w (· < w.heap.size), row 22 1 (.slice A2 (l.length + 1) c2) (l.length + 1) (words s)]) (fun i _ => l.length + 1 - (intOf i).toNat)
        case atStart => exact ⟨0, Nat.zero_le _, rfl, by have h9 := H6.out.pick [0, 3] (by decide); simpa using h9⟩
        case round =>
          obtain ⟨k, hk, rfl, hS⟩ := hrel
          clear H6 HBK1
          by_cases hlt : k < l.length + 1
          · rcases (show k = 0 ∨ 0 < k by omega) with hk0 | hk0
            · obtain rfl : k = 0 := by omega
              have HS := Lib.hid hS.drew
              clear hS hlt
              go_wp2_with fail
              refine region_chain (E := []) (kn := [true, true, true, true, true, true, true, true, true, true, true, true, true, true]) (mask := [true, true, true, true, true, true, true, true, true, true, true, true, true, true]) (vs := [?vq0_0_u1, ?vq0_1_u1, ?vq0_2_u1, undef, undef, undef, undef, undef, undef, undef, undef, undef, undef, ?vq0_13_u1]) (S := fun w' => w' = wr.drew) (by kernel_rfl) (by kernel_rfl) (by kernel_rfl) (by kernel_rfl) (by kernel_rfl) ?hSq_u1 ?hchq_u1
              case hSq_u1 => exact rfl
              case hchq_u1 =>
                refine chain_nil (by kernel_rfl) rfl ?opsq0_u1 ?endq0_u1
                case opsq0_u1 =>
                  simp only [OpsAt, fillT, List.setIfInBounds_toArray, List.set_cons_zero, List.set_cons_succ]
                  refine ⟨.inl ⟨by rfl, opOk_pure fun wS hS => ?_⟩, ?_⟩
                  · ((subst hS; go_simp)); try (with_reducible rfl)
                  refine ⟨.inl ⟨by rfl, opOk_pure fun wS hS => ?_⟩, ?_⟩
                  · ((subst hS; go_simp)); try (with_reducible rfl)
                  refine ⟨.inl ⟨by rfl, opOk_pure fun wS hS => ?_⟩, ?_⟩
                  · ((subst hS; go_simp)); try (with_reducible rfl)
                  refine ⟨.inr ⟨by rfl, by trivial⟩, ?_⟩
                  refine ⟨.inr ⟨by rfl, by trivial⟩, ?_⟩
                  refine ⟨.inr ⟨by rfl, by trivial⟩, ?_⟩
                  refine ⟨.inr ⟨by rfl, by trivial⟩, ?_⟩
                  refine ⟨.inr ⟨by rfl, by trivial⟩, ?_⟩
                  refine ⟨.inr ⟨by rfl, by trivial⟩, ?_⟩
                  refine ⟨.inr ⟨by rfl, by trivial⟩, ?_⟩
                  refine ⟨.inr ⟨by rfl, by trivial⟩, ?_⟩
                  refine ⟨.inr ⟨by rfl, by trivial⟩, ?_⟩
                  refine ⟨.inr ⟨by rfl, by trivial⟩, ?_⟩
                  refine ⟨.inl ⟨by rfl, opOk_pure fun wS hS => ?_⟩, ?_⟩
                  · ((subst hS; go_simp)); try (with_reducible rfl)
                  try trivial
                case endq0_u1 =>
                  intro wE hE
                  simp only [fillT, List.setIfInBounds_toArray, List.set_cons_zero, List.set_cons_succ]
                  rw [hE]
                  go_wp2
                  go_roundw
                  case rel => exact ⟨1, by omega, by go_num, HS.out⟩
                  case measure => (simp [intOf]; try omega)
            · have hSd := hS.drew
              obtain ⟨q, hq⟩ : ∃ q, k = q + 1 := ⟨k - 1, by omega⟩
              obtain ⟨g1, hg1, gc1, -, hglt1⟩ := row_at (hSd.rowOf (i := 1) rfl) (j := q) (by omega)
              obtain ⟨g2, hg2, gc2, -, hglt2⟩ := row_at (hSd.rowOf (i := 1) rfl) (j := k) (by omega)
              subst hg1
              cases hg2
              have r0 := gc1 _ (words_at (i := q) (by rw [HSL.out]; omega))
              have r1 := gc2 _ (words_at (i := k) (by rw [HSL.out]; omega))
              have hpp := (HP.out q (by omega)).of
              rw [← hq] at hpp
              obtain ⟨fee, -, hz, hf0⟩ := hpp
              generalize s.getD q 0 = z at *
              generalize s.getD k 0 = z1 at *
              have t1 : decide (z < z1) = false := by simp; omega
              have t2 : ¬ z < z1 := by omega
              have n1 : (1 : Int) ≤ (k : Int) := by omega
              have n2 : (0 : Int) ≤ (k : Int) - 1 := by omega
              have n3 : (k : Int) - 1 < (l.length : Int) + 1 := by omega
              have n4 : ((k : Int) - 1).toNat = q := by omega
              have n5 : (k : Int) < (l.length : Int) + 1 := by omega
              have n6 : 0 < k := by omega
              have HS := Lib.hid hSd
              clear hS hSd gc1 gc2 hz hf0 hq
              go_wp2_with fail
              refine region_chain (E := []) (kn := [true, true, true, true, true, true, true, true, true, true, true, true, true, true]) (mask := [true, true, true, true, true, true, true, true, true, true, true, true, true, true]) (vs := [?vp0_0_u1, ?vp0_1_u1, ?vp0_2_u1, ?vp0_3_u1, ?vp0_4_u1, ?vp0_5_u1, ?vp0_6_u1, ?vp0_7_u1, ?vp0_8_u1, ?vp0_9_u1, ?vp0_10_u1, ?vp0_11_u1, ?vp0_12_u1, ?vp0_13_u1]) (S := fun w' => w' = wr.drew) (by kernel_rfl) (by kernel_rfl) (by kernel_rfl) (by kernel_rfl) (by kernel_rfl) ?hSp_u1 ?hchp_u1
              case hSp_u1 => exact rfl
              case hchp_u1 =>
                refine chain_nil (by kernel_rfl) rfl ?opsp0_u1 ?endp0_u1
                case opsp0_u1 =>
                  simp only [OpsAt, fillT, List.setIfInBounds_toArray, List.set_cons_zero, List.set_cons_succ]
                  refine ⟨.inl ⟨by rfl, opOk_pure fun wS hS => ?_⟩, ?_⟩
                  · ((subst hS; go_simp; try simp (disch := omega) only [wrap64_id])); try (with_reducible rfl)
                  refine ⟨.inl ⟨by rfl, opOk_pure fun wS hS => ?_⟩, ?_⟩
                  · ((subst hS; go_simp; try simp (disch := omega) only [wrap64_id])); try (with_reducible rfl)
                  refine ⟨.inl ⟨by rfl, opOk_pure fun wS hS => ?_⟩, ?_⟩
                  · ((subst hS; go_simp; try simp (disch := omega) only [wrap64_id])); try (with_reducible rfl)
                  refine ⟨.inl ⟨by rfl, opOk_pure fun wS hS => ?_⟩, ?_⟩
                  · ((subst hS; go_simp; try simp (disch := omega) only [wrap64_id])); try (with_reducible rfl)
                  refine ⟨.inl ⟨by rfl, opOk_pure fun wS hS => ?_⟩, ?_⟩
                  · ((subst hS; go_simp; try simp (disch := omega) only [wrap64_id])); try (with_reducible rfl)
                  refine ⟨.inl ⟨by rfl, opOk_pure fun wS hS => ?_⟩, ?_⟩
                  · ((subst hS; go_simp; try simp (disch := omega) only [wrap64_id])); try (with_reducible rfl)
                  refine ⟨.inl ⟨by rfl, opOk_pure fun wS hS => ?_⟩, ?_⟩
                  · ((subst hS; go_simp; try simp (disch := omega) only [wrap64_id])); try (with_reducible rfl)
                  refine ⟨.inl ⟨by rfl, opOk_pure fun wS hS => ?_⟩, ?_⟩
                  · ((subst hS; go_simp; try simp (disch := omega) only [wrap64_id])); try (with_reducible rfl)
                  refine ⟨.inl ⟨by rfl, opOk_pure fun wS hS => ?_⟩, ?_⟩
                  · ((subst hS; go_simp; try simp (disch := omega) only [wrap64_id])); try (with_reducible rfl)
                  refine ⟨.inl ⟨by rfl, opOk_pure fun wS hS => ?_⟩, ?_⟩
                  · ((subst hS; go_simp; try simp (disch := omega) only [wrap64_id])); try (with_reducible rfl)
                  refine ⟨.inl ⟨by rfl, opOk_pure fun wS hS => ?_⟩, ?_⟩
                  · ((subst hS; go_simp; try simp (disch := omega) only [wrap64_id])); try (with_reducible rfl)
                  refine ⟨.inl ⟨by rfl, opOk_pure fun wS hS => ?_⟩, ?_⟩
                  · ((subst hS; go_simp; try simp (disch := omega) only [wrap64_id])); try (with_reducible rfl)
                  refine ⟨.inl ⟨by rfl, opOk_pure fun wS hS => ?_⟩, ?_⟩
                  · ((subst hS; go_simp; try simp (disch := omega) only [wrap64_id])); try (with_reducible rfl)
                  refine ⟨.inl ⟨by rfl, opOk_pure fun wS hS => ?_⟩, ?_⟩
                  · ((subst hS; go_simp; try simp (disch := omega) only [wrap64_id])); try (with_reducible rfl)
                  try trivial
                case endp0_u1 =>
                  intro wE hE
                  simp only [fillT, List.setIfInBounds_toArray, List.set_cons_zero, List.set_cons_succ]
                  clear r0 r1 t1 t2 n1 n2 n3 n4 n5 n6
                  rw [hE]
                  go_wp2
                  go_roundw
                  case rel => exact ⟨k + 1, by omega, by go_num, HS.out⟩
                  case measure => (simp [intOf]; try omega)
          · obtain rfl : k = l.length + 1 := by omega
            have HS := Lib.hid hS
            clear hS
            go_wp2_with fail
            refine (awake_any _).mono ?_
            rintro e w61 ⟨rfl, hb⟩
            have h61 := HS.out.grow hb
            have H61 := Lib.hid h61
            clear hb h61
            go_wp2
            go_ret
            exact ⟨rfl, H61.out.below (i := 0) rfl⟩
      · have g1 : (g == 0) = false := beq_eq_false_iff_ne.2 hg
        subst he
        clear hg hmo hab hbu
        go_enter Try.func7, Try.ntmps7
        have h1 := H0.out.alloc #[.int .u64 x0, .int .u64 y0] 43
        try simp only [List.cons_append, List.nil_append, List.set_cons_succ, List.set_cons_zero, Nat.zero_add, Nat.reduceAdd] at h1
        have H1 := Lib.hid h1
        clear h1
        go_wp2_with fail
        refine (HA1.out _).mono ?_
        rintro e w2 ⟨rfl, rfl⟩
        go_wp2_with fail
        refine (HO1.out _).mono ?_
        rintro e w3 ⟨rfl, hb⟩
        have h3 := H1.out.grow hb
        have k3 := h3.all
        simp only [allFacts, box_facts, row_facts, emp_facts, cellFacts, Nat.zero_add, Nat.reduceAdd, true_and, and_true] at k3
        have H3 := Lib.hid h3
        clear hb h3
        go_wp2_with fail
        refine (HO2.out _).mono ?_
        rintro e w4 ⟨rfl, hb⟩
        have h4 := H3.out.grow hb
        have k4 := h4.all
        simp only [allFacts, box_facts, row_facts, emp_facts, cellFacts, Nat.zero_add, Nat.reduceAdd, true_and, and_true] at k4
        clear k3
        have H4 := Lib.hid h4
        clear hb h4
        clear k4
        go_wp2_with fail
        go_wp2_with fail
        refine (fees_any _ A c l (HR.out.mono (src_rest H4.out (i := 0) rfl HR.out.src (src_lt HR.out.src))) (by omega)).mono ?_
        rintro e w5 ⟨A1, c1, rfl, g⟩
        have h5 := H4.out.pushThings g
        try simp only [List.cons_append, List.nil_append, List.set_cons_succ, List.set_cons_zero, Nat.zero_add, Nat.reduceAdd] at h5
        have H5 := Lib.hid h5
        clear g h5
        have hf := Recs.ofRow (k := 2) (f := feeC) (H5.out.rowOf (i := 2) rfl) (by omega)
        have hbk1 := back_any w5 a ha A1 c1 l hf HU.out (by omega)
        rw [HBE.out, HSE.out, HSL.out] at hbk1
        have HBK1 := Lib.hid hbk1
        clear hbk1 hf
        go_wp2_with fail
        refine (HBK1.out).mono ?_
        rintro e w6 ⟨A2, c2, rfl, g⟩
        have h6 := H5.out.pushThings g
        try simp only [List.cons_append, List.nil_append, List.set_cons_succ, List.set_cons_zero, Nat.zero_add, Nat.reduceAdd] at h6
        have H6 := Lib.hid h6
        clear g h6
        go_wp2
        go_loopw [75] (fun i wr => ∃ k : Nat, k ≤ l.length + 1 ∧ i = .int .i64 k ∧ Sat w wr [rest w (· < w.heap.size), row 22 1 (.slice A2 (l.length + 1) c2) (l.length + 1) (words s)]) (fun i _ => l.length + 1 - (intOf i).toNat)
        case atStart => exact ⟨0, Nat.zero_le _, rfl, by have h9 := H6.out.pick [0, 3] (by decide); simpa using h9⟩
        case round =>
          obtain ⟨k, hk, rfl, hS⟩ := hrel
          clear H6 HBK1
          by_cases hlt : k < l.length + 1
          · rcases (show k = 0 ∨ 0 < k by omega) with hk0 | hk0
            · obtain rfl : k = 0 := by omega
              have HS := Lib.hid hS.drew
              clear hS hlt
              go_wp2_with fail
              refine region_chain (E := []) (kn := [true, true, true, true, true, true, true, true, true, true, true, true, true, true]) (mask := [true, true, true, true, true, true, true, true, true, true, true, true, true, true]) (vs := [?vq0_0_u2, ?vq0_1_u2, ?vq0_2_u2, undef, undef, undef, undef, undef, undef, undef, undef, undef, undef, ?vq0_13_u2]) (S := fun w' => w' = wr.drew) (by kernel_rfl) (by kernel_rfl) (by kernel_rfl) (by kernel_rfl) (by kernel_rfl) ?hSq_u2 ?hchq_u2
              case hSq_u2 => exact rfl
              case hchq_u2 =>
                refine chain_nil (by kernel_rfl) rfl ?opsq0_u2 ?endq0_u2
                case opsq0_u2 =>
                  simp only [OpsAt, fillT, List.setIfInBounds_toArray, List.set_cons_zero, List.set_cons_succ]
                  refine ⟨.inl ⟨by rfl, opOk_pure fun wS hS => ?_⟩, ?_⟩
                  · ((subst hS; go_simp)); try (with_reducible rfl)
                  refine ⟨.inl ⟨by rfl, opOk_pure fun wS hS => ?_⟩, ?_⟩
                  · ((subst hS; go_simp)); try (with_reducible rfl)
                  refine ⟨.inl ⟨by rfl, opOk_pure fun wS hS => ?_⟩, ?_⟩
                  · ((subst hS; go_simp)); try (with_reducible rfl)
                  refine ⟨.inr ⟨by rfl, by trivial⟩, ?_⟩
                  refine ⟨.inr ⟨by rfl, by trivial⟩, ?_⟩
                  refine ⟨.inr ⟨by rfl, by trivial⟩, ?_⟩
                  refine ⟨.inr ⟨by rfl, by trivial⟩, ?_⟩
                  refine ⟨.inr ⟨by rfl, by trivial⟩, ?_⟩
                  refine ⟨.inr ⟨by rfl, by trivial⟩, ?_⟩
                  refine ⟨.inr ⟨by rfl, by trivial⟩, ?_⟩
                  refine ⟨.inr ⟨by rfl, by trivial⟩, ?_⟩
                  refine ⟨.inr ⟨by rfl, by trivial⟩, ?_⟩
                  refine ⟨.inr ⟨by rfl, by trivial⟩, ?_⟩
                  refine ⟨.inl ⟨by rfl, opOk_pure fun wS hS => ?_⟩, ?_⟩
                  · ((subst hS; go_simp)); try (with_reducible rfl)
                  try trivial
                case endq0_u2 =>
                  intro wE hE
                  simp only [fillT, List.setIfInBounds_toArray, List.set_cons_zero, List.set_cons_succ]
                  rw [hE]
                  go_wp2
                  go_roundw
                  case rel => exact ⟨1, by omega, by go_num, HS.out⟩
                  case measure => (simp [intOf]; try omega)
            · have hSd := hS.drew
              obtain ⟨q, hq⟩ : ∃ q, k = q + 1 := ⟨k - 1, by omega⟩
              obtain ⟨g1, hg1, gc1, -, hglt1⟩ := row_at (hSd.rowOf (i := 1) rfl) (j := q) (by omega)
              obtain ⟨g2, hg2, gc2, -, hglt2⟩ := row_at (hSd.rowOf (i := 1) rfl) (j := k) (by omega)
              subst hg1
              cases hg2
              have r0 := gc1 _ (words_at (i := q) (by rw [HSL.out]; omega))
              have r1 := gc2 _ (words_at (i := k) (by rw [HSL.out]; omega))
              have hpp := (HP.out q (by omega)).of
              rw [← hq] at hpp
              obtain ⟨fee, -, hz, hf0⟩ := hpp
              generalize s.getD q 0 = z at *
              generalize s.getD k 0 = z1 at *
              have t1 : decide (z < z1) = false := by simp; omega
              have t2 : ¬ z < z1 := by omega
              have n1 : (1 : Int) ≤ (k : Int) := by omega
              have n2 : (0 : Int) ≤ (k : Int) - 1 := by omega
              have n3 : (k : Int) - 1 < (l.length : Int) + 1 := by omega
              have n4 : ((k : Int) - 1).toNat = q := by omega
              have n5 : (k : Int) < (l.length : Int) + 1 := by omega
              have n6 : 0 < k := by omega
              have HS := Lib.hid hSd
              clear hS hSd gc1 gc2 hz hf0 hq
              go_wp2_with fail
              refine region_chain (E := []) (kn := [true, true, true, true, true, true, true, true, true, true, true, true, true, true]) (mask := [true, true, true, true, true, true, true, true, true, true, true, true, true, true]) (vs := [?vp0_0_u2, ?vp0_1_u2, ?vp0_2_u2, ?vp0_3_u2, ?vp0_4_u2, ?vp0_5_u2, ?vp0_6_u2, ?vp0_7_u2, ?vp0_8_u2, ?vp0_9_u2, ?vp0_10_u2, ?vp0_11_u2, ?vp0_12_u2, ?vp0_13_u2]) (S := fun w' => w' = wr.drew) (by kernel_rfl) (by kernel_rfl) (by kernel_rfl) (by kernel_rfl) (by kernel_rfl) ?hSp_u2 ?hchp_u2
              case hSp_u2 => exact rfl
              case hchp_u2 =>
                refine chain_nil (by kernel_rfl) rfl ?opsp0_u2 ?endp0_u2
                case opsp0_u2 =>
                  simp only [OpsAt, fillT, List.setIfInBounds_toArray, List.set_cons_zero, List.set_cons_succ]
                  refine ⟨.inl ⟨by rfl, opOk_pure fun wS hS => ?_⟩, ?_⟩
                  · ((subst hS; go_simp; try simp (disch := omega) only [wrap64_id])); try (with_reducible rfl)
                  refine ⟨.inl ⟨by rfl, opOk_pure fun wS hS => ?_⟩, ?_⟩
                  · ((subst hS; go_simp; try simp (disch := omega) only [wrap64_id])); try (with_reducible rfl)
                  refine ⟨.inl ⟨by rfl, opOk_pure fun wS hS => ?_⟩, ?_⟩
                  · ((subst hS; go_simp; try simp (disch := omega) only [wrap64_id])); try (with_reducible rfl)
                  refine ⟨.inl ⟨by rfl, opOk_pure fun wS hS => ?_⟩, ?_⟩
                  · ((subst hS; go_simp; try simp (disch := omega) only [wrap64_id])); try (with_reducible rfl)
                  refine ⟨.inl ⟨by rfl, opOk_pure fun wS hS => ?_⟩, ?_⟩
                  · ((subst hS; go_simp; try simp (disch := omega) only [wrap64_id])); try (with_reducible rfl)
                  refine ⟨.inl ⟨by rfl, opOk_pure fun wS hS => ?_⟩, ?_⟩
                  · ((subst hS; go_simp; try simp (disch := omega) only [wrap64_id])); try (with_reducible rfl)
                  refine ⟨.inl ⟨by rfl, opOk_pure fun wS hS => ?_⟩, ?_⟩
                  · ((subst hS; go_simp; try simp (disch := omega) only [wrap64_id])); try (with_reducible rfl)
                  refine ⟨.inl ⟨by rfl, opOk_pure fun wS hS => ?_⟩, ?_⟩
                  · ((subst hS; go_simp; try simp (disch := omega) only [wrap64_id])); try (with_reducible rfl)
                  refine ⟨.inl ⟨by rfl, opOk_pure fun wS hS => ?_⟩, ?_⟩
                  · ((subst hS; go_simp; try simp (disch := omega) only [wrap64_id])); try (with_reducible rfl)
                  refine ⟨.inl ⟨by rfl, opOk_pure fun wS hS => ?_⟩, ?_⟩
                  · ((subst hS; go_simp; try simp (disch := omega) only [wrap64_id])); try (with_reducible rfl)
                  refine ⟨.inl ⟨by rfl, opOk_pure fun wS hS => ?_⟩, ?_⟩
                  · ((subst hS; go_simp; try simp (disch := omega) only [wrap64_id])); try (with_reducible rfl)
                  refine ⟨.inl ⟨by rfl, opOk_pure fun wS hS => ?_⟩, ?_⟩
                  · ((subst hS; go_simp; try simp (disch := omega) only [wrap64_id])); try (with_reducible rfl)
                  refine ⟨.inl ⟨by rfl, opOk_pure fun wS hS => ?_⟩, ?_⟩
                  · ((subst hS; go_simp; try simp (disch := omega) only [wrap64_id])); try (with_reducible rfl)
                  refine ⟨.inl ⟨by rfl, opOk_pure fun wS hS => ?_⟩, ?_⟩
                  · ((subst hS; go_simp; try simp (disch := omega) only [wrap64_id])); try (with_reducible rfl)
                  try trivial
                case endp0_u2 =>
                  intro wE hE
                  simp only [fillT, List.setIfInBounds_toArray, List.set_cons_zero, List.set_cons_succ]
                  clear r0 r1 t1 t2 n1 n2 n3 n4 n5 n6
                  rw [hE]
                  go_wp2
                  go_roundw
                  case rel => exact ⟨k + 1, by omega, by go_num, HS.out⟩
                  case measure => (simp [intOf]; try omega)
          · obtain rfl : k = l.length + 1 := by omega
            have HS := Lib.hid hS
            clear hS
            go_wp2_with fail
            refine (awake_any _).mono ?_
            rintro e w61 ⟨rfl, hb⟩
            have h61 := HS.out.grow hb
            have H61 := Lib.hid h61
            clear hb h61
            go_wp2
            go_ret
            exact ⟨rfl, H61.out.below (i := 0) rfl⟩
      · have h1 : (h == 0) = false := beq_eq_false_iff_ne.2 hh
        subst he hg
        clear hh hmo hab hbu
        go_enter Try.func7, Try.ntmps7
        have h1 := H0.out.alloc #[.int .u64 x0, .int .u64 y0] 43
        try simp only [List.cons_append, List.nil_append, List.set_cons_succ, List.set_cons_zero, Nat.zero_add, Nat.reduceAdd] at h1
        have H1 := Lib.hid h1
        clear h1
        go_wp2_with fail
        refine (HA1.out _).mono ?_
        rintro e w2 ⟨rfl, rfl⟩
        go_wp2_with fail
        refine (HO1.out _).mono ?_
        rintro e w3 ⟨rfl, hb⟩
        have h3 := H1.out.grow hb
        have k3 := h3.all
        simp only [allFacts, box_facts, row_facts, emp_facts, cellFacts, Nat.zero_add, Nat.reduceAdd, true_and, and_true] at k3
        have H3 := Lib.hid h3
        clear hb h3
        go_wp2_with fail
        refine (HO2.out _).mono ?_
        rintro e w4 ⟨rfl, hb⟩
        have h4 := H3.out.grow hb
        have k4 := h4.all
        simp only [allFacts, box_facts, row_facts, emp_facts, cellFacts, Nat.zero_add, Nat.reduceAdd, true_and, and_true] at k4
        clear k3
        have H4 := Lib.hid h4
        clear hb h4
        clear k4
        go_wp2_with fail
        go_wp2_with fail
        refine (fees_any _ A c l (HR.out.mono (src_rest H4.out (i := 0) rfl HR.out.src (src_lt HR.out.src))) (by omega)).mono ?_
        rintro e w5 ⟨A1, c1, rfl, g⟩
        have h5 := H4.out.pushThings g
        try simp only [List.cons_append, List.nil_append, List.set_cons_succ, List.set_cons_zero, Nat.zero_add, Nat.reduceAdd] at h5
        have H5 := Lib.hid h5
        clear g h5
        have hf := Recs.ofRow (k := 2) (f := feeC) (H5.out.rowOf (i := 2) rfl) (by omega)
        have hbk1 := back_any w5 a ha A1 c1 l hf HU.out (by omega)
        rw [HBE.out, HSE.out, HSL.out] at hbk1
        have HBK1 := Lib.hid hbk1
        clear hbk1 hf
        go_wp2_with fail
        refine (HBK1.out).mono ?_
        rintro e w6 ⟨A2, c2, rfl, g⟩
        have h6 := H5.out.pushThings g
        try simp only [List.cons_append, List.nil_append, List.set_cons_succ, List.set_cons_zero, Nat.zero_add, Nat.reduceAdd] at h6
        have H6 := Lib.hid h6
        clear g h6
        go_wp2
        go_loopw [75] (fun i wr => ∃ k : Nat, k ≤ l.length + 1 ∧ i = .int .i64 k ∧ Sat w wr [rest w (· < w.heap.size), row 22 1 (.slice A2 (l.length + 1) c2) (l.length + 1) (words s)]) (fun i _ => l.length + 1 - (intOf i).toNat)
        case atStart => exact ⟨0, Nat.zero_le _, rfl, by have h9 := H6.out.pick [0, 3] (by decide); simpa using h9⟩
        case round =>
          obtain ⟨k, hk, rfl, hS⟩ := hrel
          clear H6 HBK1
          by_cases hlt : k < l.length + 1
          · rcases (show k = 0 ∨ 0 < k by omega) with hk0 | hk0
            · obtain rfl : k = 0 := by omega
              have HS := Lib.hid hS.drew
              clear hS hlt
              go_wp2_with fail
              refine region_chain (E := []) (kn := [true, true, true, true, true, true, true, true, true, true, true, true, true, true]) (mask := [true, true, true, true, true, true, true, true, true, true, true, true, true, true]) (vs := [?vq0_0_u3, ?vq0_1_u3, ?vq0_2_u3, undef, undef, undef, undef, undef, undef, undef, undef, undef, undef, ?vq0_13_u3]) (S := fun w' => w' = wr.drew) (by kernel_rfl) (by kernel_rfl) (by kernel_rfl) (by kernel_rfl) (by kernel_rfl) ?hSq_u3 ?hchq_u3
              case hSq_u3 => exact rfl
              case hchq_u3 =>
                refine chain_nil (by kernel_rfl) rfl ?opsq0_u3 ?endq0_u3
                case opsq0_u3 =>
                  simp only [OpsAt, fillT, List.setIfInBounds_toArray, List.set_cons_zero, List.set_cons_succ]
                  refine ⟨.inl ⟨by rfl, opOk_pure fun wS hS => ?_⟩, ?_⟩
                  · ((subst hS; go_simp)); try (with_reducible rfl)
                  refine ⟨.inl ⟨by rfl, opOk_pure fun wS hS => ?_⟩, ?_⟩
                  · ((subst hS; go_simp)); try (with_reducible rfl)
                  refine ⟨.inl ⟨by rfl, opOk_pure fun wS hS => ?_⟩, ?_⟩
                  · ((subst hS; go_simp)); try (with_reducible rfl)
                  refine ⟨.inr ⟨by rfl, by trivial⟩, ?_⟩
                  refine ⟨.inr ⟨by rfl, by trivial⟩, ?_⟩
                  refine ⟨.inr ⟨by rfl, by trivial⟩, ?_⟩
                  refine ⟨.inr ⟨by rfl, by trivial⟩, ?_⟩
                  refine ⟨.inr ⟨by rfl, by trivial⟩, ?_⟩
                  refine ⟨.inr ⟨by rfl, by trivial⟩, ?_⟩
                  refine ⟨.inr ⟨by rfl, by trivial⟩, ?_⟩
                  refine ⟨.inr ⟨by rfl, by trivial⟩, ?_⟩
                  refine ⟨.inr ⟨by rfl, by trivial⟩, ?_⟩
                  refine ⟨.inr ⟨by rfl, by trivial⟩, ?_⟩
                  refine ⟨.inl ⟨by rfl, opOk_pure fun wS hS => ?_⟩, ?_⟩
                  · ((subst hS; go_simp)); try (with_reducible rfl)
                  try trivial
                case endq0_u3 =>
                  intro wE hE
                  simp only [fillT, List.setIfInBounds_toArray, List.set_cons_zero, List.set_cons_succ]
                  rw [hE]
                  go_wp2
                  go_roundw
                  case rel => exact ⟨1, by omega, by go_num, HS.out⟩
                  case measure => (simp [intOf]; try omega)
            · have hSd := hS.drew
              obtain ⟨q, hq⟩ : ∃ q, k = q + 1 := ⟨k - 1, by omega⟩
              obtain ⟨g1, hg1, gc1, -, hglt1⟩ := row_at (hSd.rowOf (i := 1) rfl) (j := q) (by omega)
              obtain ⟨g2, hg2, gc2, -, hglt2⟩ := row_at (hSd.rowOf (i := 1) rfl) (j := k) (by omega)
              subst hg1
              cases hg2
              have r0 := gc1 _ (words_at (i := q) (by rw [HSL.out]; omega))
              have r1 := gc2 _ (words_at (i := k) (by rw [HSL.out]; omega))
              have hpp := (HP.out q (by omega)).of
              rw [← hq] at hpp
              obtain ⟨fee, -, hz, hf0⟩ := hpp
              generalize s.getD q 0 = z at *
              generalize s.getD k 0 = z1 at *
              have t1 : decide (z < z1) = false := by simp; omega
              have t2 : ¬ z < z1 := by omega
              have n1 : (1 : Int) ≤ (k : Int) := by omega
              have n2 : (0 : Int) ≤ (k : Int) - 1 := by omega
              have n3 : (k : Int) - 1 < (l.length : Int) + 1 := by omega
              have n4 : ((k : Int) - 1).toNat = q := by omega
              have n5 : (k : Int) < (l.length : Int) + 1 := by omega
              have n6 : 0 < k := by omega
              have HS := Lib.hid hSd
              clear hS hSd gc1 gc2 hz hf0 hq
              go_wp2_with fail
              refine region_chain (E := []) (kn := [true, true, true, true, true, true, true, true, true, true, true, true, true, true]) (mask := [true, true, true, true, true, true, true, true, true, true, true, true, true, true]) (vs := [?vp0_0_u3, ?vp0_1_u3, ?vp0_2_u3, ?vp0_3_u3, ?vp0_4_u3, ?vp0_5_u3, ?vp0_6_u3, ?vp0_7_u3, ?vp0_8_u3, ?vp0_9_u3, ?vp0_10_u3, ?vp0_11_u3, ?vp0_12_u3, ?vp0_13_u3]) (S := fun w' => w' = wr.drew) (by kernel_rfl) (by kernel_rfl) (by kernel_rfl) (by kernel_rfl) (by kernel_rfl) ?hSp_u3 ?hchp_u3
              case hSp_u3 => exact rfl
              case hchp_u3 =>
                refine chain_nil (by kernel_rfl) rfl ?opsp0_u3 ?endp0_u3
                case opsp0_u3 =>
                  simp only [OpsAt, fillT, List.setIfInBounds_toArray, List.set_cons_zero, List.set_cons_succ]
                  refine ⟨.inl ⟨by rfl, opOk_pure fun wS hS => ?_⟩, ?_⟩
                  · ((subst hS; go_simp; try simp (disch := omega) only [wrap64_id])); try (with_reducible rfl)
                  refine ⟨.inl ⟨by rfl, opOk_pure fun wS hS => ?_⟩, ?_⟩
                  · ((subst hS; go_simp; try simp (disch := omega) only [wrap64_id])); try (with_reducible rfl)
                  refine ⟨.inl ⟨by rfl, opOk_pure fun wS hS => ?_⟩, ?_⟩
                  · ((subst hS; go_simp; try simp (disch := omega) only [wrap64_id])); try (with_reducible rfl)
                  refine ⟨.inl ⟨by rfl, opOk_pure fun wS hS => ?_⟩, ?_⟩
                  · ((subst hS; go_simp; try simp (disch := omega) only [wrap64_id])); try (with_reducible rfl)
                  refine ⟨.inl ⟨by rfl, opOk_pure fun wS hS => ?_⟩, ?_⟩
                  · ((subst hS; go_simp; try simp (disch := omega) only [wrap64_id])); try (with_reducible rfl)
                  refine ⟨.inl ⟨by rfl, opOk_pure fun wS hS => ?_⟩, ?_⟩
                  · ((subst hS; go_simp; try simp (disch := omega) only [wrap64_id])); try (with_reducible rfl)
                  refine ⟨.inl ⟨by rfl, opOk_pure fun wS hS => ?_⟩, ?_⟩
                  · ((subst hS; go_simp; try simp (disch := omega) only [wrap64_id])); try (with_reducible rfl)
                  refine ⟨.inl ⟨by rfl, opOk_pure fun wS hS => ?_⟩, ?_⟩
                  · ((subst hS; go_simp; try simp (disch := omega) only [wrap64_id])); try (with_reducible rfl)
                  refine ⟨.inl ⟨by rfl, opOk_pure fun wS hS => ?_⟩, ?_⟩
                  · ((subst hS; go_simp; try simp (disch := omega) only [wrap64_id])); try (with_reducible rfl)
                  refine ⟨.inl ⟨by rfl, opOk_pure fun wS hS => ?_⟩, ?_⟩
                  · ((subst hS; go_simp; try simp (disch := omega) only [wrap64_id])); try (with_reducible rfl)
                  refine ⟨.inl ⟨by rfl, opOk_pure fun wS hS => ?_⟩, ?_⟩
                  · ((subst hS; go_simp; try simp (disch := omega) only [wrap64_id])); try (with_reducible rfl)
                  refine ⟨.inl ⟨by rfl, opOk_pure fun wS hS => ?_⟩, ?_⟩
                  · ((subst hS; go_simp; try simp (disch := omega) only [wrap64_id])); try (with_reducible rfl)
                  refine ⟨.inl ⟨by rfl, opOk_pure fun wS hS => ?_⟩, ?_⟩
                  · ((subst hS; go_simp; try simp (disch := omega) only [wrap64_id])); try (with_reducible rfl)
                  refine ⟨.inl ⟨by rfl, opOk_pure fun wS hS => ?_⟩, ?_⟩
                  · ((subst hS; go_simp; try simp (disch := omega) only [wrap64_id])); try (with_reducible rfl)
                  try trivial
                case endp0_u3 =>
                  intro wE hE
                  simp only [fillT, List.setIfInBounds_toArray, List.set_cons_zero, List.set_cons_succ]
                  clear r0 r1 t1 t2 n1 n2 n3 n4 n5 n6
                  rw [hE]
                  go_wp2
                  go_roundw
                  case rel => exact ⟨k + 1, by omega, by go_num, HS.out⟩
                  case measure => (simp [intOf]; try omega)
          · obtain rfl : k = l.length + 1 := by omega
            have HS := Lib.hid hS
            clear hS
            go_wp2_with fail
            refine (awake_any _).mono ?_
            rintro e w61 ⟨rfl, hb⟩
            have h61 := HS.out.grow hb
            have H61 := Lib.hid h61
            clear hb h61
            go_wp2
            go_ret
            exact ⟨rfl, H61.out.below (i := 0) rfl⟩
      · subst he hg hh
        obtain ⟨m1, m2⟩ := hmo (hab rfl) rfl rfl
        have t1 : decide (y < x) = false := by simpa using m1
        have t2 : decide (x < a) = false := by simpa using m2
        clear hmo hab hbu
        go_enter Try.func7, Try.ntmps7
        have h1 := H0.out.alloc #[.int .u64 x0, .int .u64 y0] 43
        try simp only [List.cons_append, List.nil_append, List.set_cons_succ, List.set_cons_zero, Nat.zero_add, Nat.reduceAdd] at h1
        have H1 := Lib.hid h1
        clear h1
        go_wp2_with fail
        refine (HA1.out _).mono ?_
        rintro e w2 ⟨rfl, rfl⟩
        go_wp2_with fail
        refine (HO1.out _).mono ?_
        rintro e w3 ⟨rfl, hb⟩
        have h3 := H1.out.grow hb
        have k3 := h3.all
        simp only [allFacts, box_facts, row_facts, emp_facts, cellFacts, Nat.zero_add, Nat.reduceAdd, true_and, and_true] at k3
        have H3 := Lib.hid h3
        clear hb h3
        go_wp2_with fail
        refine (HO2.out _).mono ?_
        rintro e w4 ⟨rfl, hb⟩
        have h4 := H3.out.grow hb
        have k4 := h4.all
        simp only [allFacts, box_facts, row_facts, emp_facts, cellFacts, Nat.zero_add, Nat.reduceAdd, true_and, and_true] at k4
        clear k3
        have H4 := Lib.hid h4
        clear hb h4
        clear k4
        go_wp2_with fail
        go_wp2_with fail
        refine (fees_any _ A c l (HR.out.mono (src_rest H4.out (i := 0) rfl HR.out.src (src_lt HR.out.src))) (by omega)).mono ?_
        rintro e w5 ⟨A1, c1, rfl, g⟩
        have h5 := H4.out.pushThings g
        try simp only [List.cons_append, List.nil_append, List.set_cons_succ, List.set_cons_zero, Nat.zero_add, Nat.reduceAdd] at h5
        have H5 := Lib.hid h5
        clear g h5
        have hf := Recs.ofRow (k := 2) (f := feeC) (H5.out.rowOf (i := 2) rfl) (by omega)
        have hbk1 := back_any w5 a ha A1 c1 l hf HU.out (by omega)
        rw [HBE.out, HSE.out, HSL.out] at hbk1
        have HBK1 := Lib.hid hbk1
        clear hbk1 hf
        go_wp2_with fail
        refine (HBK1.out).mono ?_
        rintro e w6 ⟨A2, c2, rfl, g⟩
        have h6 := H5.out.pushThings g
        try simp only [List.cons_append, List.nil_append, List.set_cons_succ, List.set_cons_zero, Nat.zero_add, Nat.reduceAdd] at h6
        have H6 := Lib.hid h6
        clear g h6
        go_wp2
        go_loopw [75] (fun i wr => ∃ k : Nat, k ≤ l.length + 1 ∧ i = .int .i64 k ∧ Sat w wr [rest w (· < w.heap.size), row 22 1 (.slice A2 (l.length + 1) c2) (l.length + 1) (words s)]) (fun i _ => l.length + 1 - (intOf i).toNat)
        case atStart => exact ⟨0, Nat.zero_le _, rfl, by have h9 := H6.out.pick [0, 3] (by decide); simpa using h9⟩
        case round =>
          obtain ⟨k, hk, rfl, hS⟩ := hrel
          clear H6 HBK1
          by_cases hlt : k < l.length + 1
          · rcases (show k = 0 ∨ 0 < k by omega) with hk0 | hk0
            · obtain rfl : k = 0 := by omega
              have HS := Lib.hid hS.drew
              clear hS hlt
              go_wp2_with fail
              refine region_chain (E := []) (kn := [true, true, true, true, true, true, true, true, true, true, true, true, true, true]) (mask := [true, true, true, true, true, true, true, true, true, true, true, true, true, true]) (vs := [?vq0_0_u4, ?vq0_1_u4, ?vq0_2_u4, undef, undef, undef, undef, undef, undef, undef, undef, undef, undef, ?vq0_13_u4]) (S := fun w' => w' = wr.drew) (by kernel_rfl) (by kernel_rfl) (by kernel_rfl) (by kernel_rfl) (by kernel_rfl) ?hSq_u4 ?hchq_u4
              case hSq_u4 => exact rfl
              case hchq_u4 =>
                refine chain_nil (by kernel_rfl) rfl ?opsq0_u4 ?endq0_u4
                case opsq0_u4 =>
                  simp only [OpsAt, fillT, List.setIfInBounds_toArray, List.set_cons_zero, List.set_cons_succ]
                  refine ⟨.inl ⟨by rfl, opOk_pure fun wS hS => ?_⟩, ?_⟩
                  · ((subst hS; go_simp)); try (with_reducible rfl)
                  refine ⟨.inl ⟨by rfl, opOk_pure fun wS hS => ?_⟩, ?_⟩
                  · ((subst hS; go_simp)); try (with_reducible rfl)
                  refine ⟨.inl ⟨by rfl, opOk_pure fun wS hS => ?_⟩, ?_⟩
                  · ((subst hS; go_simp)); try (with_reducible rfl)
                  refine ⟨.inr ⟨by rfl, by trivial⟩, ?_⟩
                  refine ⟨.inr ⟨by rfl, by trivial⟩, ?_⟩
                  refine ⟨.inr ⟨by rfl, by trivial⟩, ?_⟩
                  refine ⟨.inr ⟨by rfl, by trivial⟩, ?_⟩
                  refine ⟨.inr ⟨by rfl, by trivial⟩, ?_⟩
                  refine ⟨.inr ⟨by rfl, by trivial⟩, ?_⟩
                  refine ⟨.inr ⟨by rfl, by trivial⟩, ?_⟩
                  refine ⟨.inr ⟨by rfl, by trivial⟩, ?_⟩
                  refine ⟨.inr ⟨by rfl, by trivial⟩, ?_⟩
                  refine ⟨.inr ⟨by rfl, by trivial⟩, ?_⟩
                  refine ⟨.inl ⟨by rfl, opOk_pure fun wS hS => ?_⟩, ?_⟩
                  · ((subst hS; go_simp)); try (with_reducible rfl)
                  try trivial
                case endq0_u4 =>
                  intro wE hE
                  simp only [fillT, List.setIfInBounds_toArray, List.set_cons_zero, List.set_cons_succ]
                  rw [hE]
                  go_wp2
                  go_roundw
                  case rel => exact ⟨1, by omega, by go_num, HS.out⟩
                  case measure => (simp [intOf]; try omega)
            · have hSd := hS.drew
              obtain ⟨q, hq⟩ : ∃ q, k = q + 1 := ⟨k - 1, by omega⟩
              obtain ⟨g1, hg1, gc1, -, hglt1⟩ := row_at (hSd.rowOf (i := 1) rfl) (j := q) (by omega)
              obtain ⟨g2, hg2, gc2, -, hglt2⟩ := row_at (hSd.rowOf (i := 1) rfl) (j := k) (by omega)
              subst hg1
              cases hg2
              have r0 := gc1 _ (words_at (i := q) (by rw [HSL.out]; omega))
              have r1 := gc2 _ (words_at (i := k) (by rw [HSL.out]; omega))
              have hpp := (HP.out q (by omega)).of
              rw [← hq] at hpp
              obtain ⟨fee, -, hz, hf0⟩ := hpp
              generalize s.getD q 0 = z at *
              generalize s.getD k 0 = z1 at *
              have t1 : decide (z < z1) = false := by simp; omega
              have t2 : ¬ z < z1 := by omega
              have n1 : (1 : Int) ≤ (k : Int) := by omega
              have n2 : (0 : Int) ≤ (k : Int) - 1 := by omega
              have n3 : (k : Int) - 1 < (l.length : Int) + 1 := by omega
              have n4 : ((k : Int) - 1).toNat = q := by omega
              have n5 : (k : Int) < (l.length : Int) + 1 := by omega
              have n6 : 0 < k := by omega
              have HS := Lib.hid hSd
              clear hS hSd gc1 gc2 hz hf0 hq
              go_wp2_with fail
              refine region_chain (E := []) (kn := [true, true, true, true, true, true, true, true, true, true, true, true, true, true]) (mask := [true, true, true, true, true, true, true, true, true, true, true, true, true, true]) (vs := [?vp0_0_u4, ?vp0_1_u4, ?vp0_2_u4, ?vp0_3_u4, ?vp0_4_u4, ?vp0_5_u4, ?vp0_6_u4, ?vp0_7_u4, ?vp0_8_u4, ?vp0_9_u4, ?vp0_10_u4, ?vp0_11_u4, ?vp0_12_u4, ?vp0_13_u4]) (S := fun w' => w' = wr.drew) (by kernel_rfl) (by kernel_rfl) (by kernel_rfl) (by kernel_rfl) (by kernel_rfl) ?hSp_u4 ?hchp_u4
              case hSp_u4 => exact rfl
              case hchp_u4 =>
                refine chain_nil (by kernel_rfl) rfl ?opsp0_u4 ?endp0_u4
                case opsp0_u4 =>
                  simp only [OpsAt, fillT, List.setIfInBounds_toArray, List.set_cons_zero, List.set_cons_succ]
                  refine ⟨.inl ⟨by rfl, opOk_pure fun wS hS => ?_⟩, ?_⟩
                  · ((subst hS; go_simp; try simp (disch := omega) only [wrap64_id])); try (with_reducible rfl)
                  refine ⟨.inl ⟨by rfl, opOk_pure fun wS hS => ?_⟩, ?_⟩
                  · ((subst hS; go_simp; try simp (disch := omega) only [wrap64_id])); try (with_reducible rfl)
                  refine ⟨.inl ⟨by rfl, opOk_pure fun wS hS => ?_⟩, ?_⟩
                  · ((subst hS; go_simp; try simp (disch := omega) only [wrap64_id])); try (with_reducible rfl)
                  refine ⟨.inl ⟨by rfl, opOk_pure fun wS hS => ?_⟩, ?_⟩
                  · ((subst hS; go_simp; try simp (disch := omega) only [wrap64_id])); try (with_reducible rfl)
                  refine ⟨.inl ⟨by rfl, opOk_pure fun wS hS => ?_⟩, ?_⟩
                  · ((subst hS; go_simp; try simp (disch := omega) only [wrap64_id])); try (with_reducible rfl)
                  refine ⟨.inl ⟨by rfl, opOk_pure fun wS hS => ?_⟩, ?_⟩
                  · ((subst hS; go_simp; try simp (disch := omega) only [wrap64_id])); try (with_reducible rfl)
                  refine ⟨.inl ⟨by rfl, opOk_pure fun wS hS => ?_⟩, ?_⟩
                  · ((subst hS; go_simp; try simp (disch := omega) only [wrap64_id])); try (with_reducible rfl)
                  refine ⟨.inl ⟨by rfl, opOk_pure fun wS hS => ?_⟩, ?_⟩
                  · ((subst hS; go_simp; try simp (disch := omega) only [wrap64_id])); try (with_reducible rfl)
                  refine ⟨.inl ⟨by rfl, opOk_pure fun wS hS => ?_⟩, ?_⟩
                  · ((subst hS; go_simp; try simp (disch := omega) only [wrap64_id])); try (with_reducible rfl)
                  refine ⟨.inl ⟨by rfl, opOk_pure fun wS hS => ?_⟩, ?_⟩
                  · ((subst hS; go_simp; try simp (disch := omega) only [wrap64_id])); try (with_reducible rfl)
                  refine ⟨.inl ⟨by rfl, opOk_pure fun wS hS => ?_⟩, ?_⟩
                  · ((subst hS; go_simp; try simp (disch := omega) only [wrap64_id])); try (with_reducible rfl)
                  refine ⟨.inl ⟨by rfl, opOk_pure fun wS hS => ?_⟩, ?_⟩
                  · ((subst hS; go_simp; try simp (disch := omega) only [wrap64_id])); try (with_reducible rfl)
                  refine ⟨.inl ⟨by rfl, opOk_pure fun wS hS => ?_⟩, ?_⟩
                  · ((subst hS; go_simp; try simp (disch := omega) only [wrap64_id])); try (with_reducible rfl)
                  refine ⟨.inl ⟨by rfl, opOk_pure fun wS hS => ?_⟩, ?_⟩
                  · ((subst hS; go_simp; try simp (disch := omega) only [wrap64_id])); try (with_reducible rfl)
                  try trivial
                case endp0_u4 =>
                  intro wE hE
                  simp only [fillT, List.setIfInBounds_toArray, List.set_cons_zero, List.set_cons_succ]
                  clear r0 r1 t1 t2 n1 n2 n3 n4 n5 n6
                  rw [hE]
                  go_wp2
                  go_roundw
                  case rel => exact ⟨k + 1, by omega, by go_num, HS.out⟩
                  case measure => (simp [intOf]; try omega)
          · obtain rfl : k = l.length + 1 := by omega
            have HS := Lib.hid hS
            clear hS
            go_wp2_with fail
            refine (awake_any _).mono ?_
            rintro e w61 ⟨rfl, hb⟩
            have h61 := HS.out.grow hb
            have H61 := Lib.hid h61
            clear hb h61
            go_wp2
            go_ret
            exact ⟨rfl, H61.out.below (i := 0) rfl⟩
    · have HBL := Lib.hid (backP_bad l hbe)
      obtain ⟨be, hbd⟩ : ∃ be, (backP a l).2 = be := ⟨_, rfl⟩
      rw [hbd] at hbe
      have HBAD := Lib.hid hbd
      have bb1 : (be == 0) = false := beq_eq_false_iff_ne.2 hbe
      have bb2 : (be != 0) = true := by simp [hbe]
      clear hbd hbe
      rcases (show e ≠ 0 ∨ (e = 0 ∧ g ≠ 0) ∨ (e = 0 ∧ g = 0 ∧ h ≠ 0) ∨ (e = 0 ∧ g = 0 ∧ h = 0) by omega) with he | ⟨he, hg⟩ | ⟨he, hg, hh⟩ | ⟨he, hg, hh⟩
      · have e1 : (e == 0) = false := beq_eq_false_iff_ne.2 he
        clear he hmo hab hbu
        go_enter Try.func7, Try.ntmps7
        have h1 := H0.out.alloc #[.int .u64 x0, .int .u64 y0] 43
        try simp only [List.cons_append, List.nil_append, List.set_cons_succ, List.set_cons_zero, Nat.zero_add, Nat.reduceAdd] at h1
        have H1 := Lib.hid h1
        clear h1
        go_wp2_with fail
        refine (HA1.out _).mono ?_
        rintro e w2 ⟨rfl, rfl⟩
        go_wp2_with fail
        refine (HO1.out _).mono ?_
        rintro e w3 ⟨rfl, hb⟩
        have h3 := H1.out.grow hb
        have k3 := h3.all
        simp only [allFacts, box_facts, row_facts, emp_facts, cellFacts, Nat.zero_add, Nat.reduceAdd, true_and, and_true] at k3
        have H3 := Lib.hid h3
        clear hb h3
        go_wp2_with fail
        refine (HO2.out _).mono ?_
        rintro e w4 ⟨rfl, hb⟩
        have h4 := H3.out.grow hb
        have k4 := h4.all
        simp only [allFacts, box_facts, row_facts, emp_facts, cellFacts, Nat.zero_add, Nat.reduceAdd, true_and, and_true] at k4
        clear k3
        have H4 := Lib.hid h4
        clear hb h4
        clear k4
        go_wp2_with fail
        go_wp2_with fail
        refine (fees_any _ A c l (HR.out.mono (src_rest H4.out (i := 0) rfl HR.out.src (src_lt HR.out.src))) (by omega)).mono ?_
        rintro e w5 ⟨A1, c1, rfl, g⟩
        have h5 := H4.out.pushThings g
        try simp only [List.cons_append, List.nil_append, List.set_cons_succ, List.set_cons_zero, Nat.zero_add, Nat.reduceAdd] at h5
        have H5 := Lib.hid h5
        clear g h5
        have hf := Recs.ofRow (k := 2) (f := feeC) (H5.out.rowOf (i := 2) rfl) (by omega)
        have hbk1 := back_any w5 a ha A1 c1 l hf HU.out (by omega)
        rw [HBAD.out, HBL.out] at hbk1
        try dsimp only at hbk1
        have HBK1 := Lib.hid hbk1
        clear hbk1 hf
        go_wp2_with fail
        refine (HBK1.out).mono ?_
        rintro e w6 ⟨A2, c2, rfl, g⟩
        have h6 := H5.out.pushThings g
        try simp only [List.cons_append, List.nil_append, List.set_cons_succ, List.set_cons_zero, Nat.zero_add, Nat.reduceAdd] at h6
        have H6 := Lib.hid h6
        clear g h6
        go_wp2
        go_loopw [75] (fun i wr => i = .int .i64 0 ∧ Sat w wr [rest w (· < w.heap.size)]) (fun i _ => 0)
        case atStart => exact ⟨rfl, H6.out.left (l := [_]) (l' := [_, _, _])⟩
        case round =>
          obtain ⟨rfl, hS⟩ := hrel
          have HS := Lib.hid hS
          clear hS H6
          go_wp2_with fail
          refine (awake_any _).mono ?_
          rintro e w61 ⟨rfl, hb⟩
          have h61 := HS.out.grow hb
          have H61 := Lib.hid h61
          clear hb h61
          go_wp2
          go_ret
          exact ⟨rfl, H61.out.below (i := 0) rfl⟩
      · have g1 : (g == 0) = false := beq_eq_false_iff_ne.2 hg
        subst he
        clear hg hmo hab hbu
        go_enter Try.func7, Try.ntmps7
        have h1 := H0.out.alloc #[.int .u64 x0, .int .u64 y0] 43
        try simp only [List.cons_append, List.nil_append, List.set_cons_succ, List.set_cons_zero, Nat.zero_add, Nat.reduceAdd] at h1
        have H1 := Lib.hid h1
        clear h1
        go_wp2_with fail
        refine (HA1.out _).mono ?_
        rintro e w2 ⟨rfl, rfl⟩
        go_wp2_with fail
        refine (HO1.out _).mono ?_
        rintro e w3 ⟨rfl, hb⟩
        have h3 := H1.out.grow hb
        have k3 := h3.all
        simp only [allFacts, box_facts, row_facts, emp_facts, cellFacts, Nat.zero_add, Nat.reduceAdd, true_and, and_true] at k3
        have H3 := Lib.hid h3
        clear hb h3
        go_wp2_with fail
        refine (HO2.out _).mono ?_
        rintro e w4 ⟨rfl, hb⟩
        have h4 := H3.out.grow hb
        have k4 := h4.all
        simp only [allFacts, box_facts, row_facts, emp_facts, cellFacts, Nat.zero_add, Nat.reduceAdd, true_and, and_true] at k4
        clear k3
        have H4 := Lib.hid h4
        clear hb h4
        clear k4
        go_wp2_with fail
        go_wp2_with fail
        refine (fees_any _ A c l (HR.out.mono (src_rest H4.out (i := 0) rfl HR.out.src (src_lt HR.out.src))) (by omega)).mono ?_
        rintro e w5 ⟨A1, c1, rfl, g⟩
        have h5 := H4.out.pushThings g
        try simp only [List.cons_append, List.nil_append, List.set_cons_succ, List.set_cons_zero, Nat.zero_add, Nat.reduceAdd] at h5
        have H5 := Lib.hid h5
        clear g h5
        have hf := Recs.ofRow (k := 2) (f := feeC) (H5.out.rowOf (i := 2) rfl) (by omega)
        have hbk1 := back_any w5 a ha A1 c1 l hf HU.out (by omega)
        rw [HBAD.out, HBL.out] at hbk1
        try dsimp only at hbk1
        have HBK1 := Lib.hid hbk1
        clear hbk1 hf
        go_wp2_with fail
        refine (HBK1.out).mono ?_
        rintro e w6 ⟨A2, c2, rfl, g⟩
        have h6 := H5.out.pushThings g
        try simp only [List.cons_append, List.nil_append, List.set_cons_succ, List.set_cons_zero, Nat.zero_add, Nat.reduceAdd] at h6
        have H6 := Lib.hid h6
        clear g h6
        go_wp2
        go_loopw [75] (fun i wr => i = .int .i64 0 ∧ Sat w wr [rest w (· < w.heap.size)]) (fun i _ => 0)
        case atStart => exact ⟨rfl, H6.out.left (l := [_]) (l' := [_, _, _])⟩
        case round =>
          obtain ⟨rfl, hS⟩ := hrel
          have HS := Lib.hid hS
          clear hS H6
          go_wp2_with fail
          refine (awake_any _).mono ?_
          rintro e w61 ⟨rfl, hb⟩
          have h61 := HS.out.grow hb
          have H61 := Lib.hid h61
          clear hb h61
          go_wp2
          go_ret
          exact ⟨rfl, H61.out.below (i := 0) rfl⟩
      · have h1 : (h == 0) = false := beq_eq_false_iff_ne.2 hh
        subst he hg
        clear hh hmo hab hbu
        go_enter Try.func7, Try.ntmps7
        have h1 := H0.out.alloc #[.int .u64 x0, .int .u64 y0] 43
        try simp only [List.cons_append, List.nil_append, List.set_cons_succ, List.set_cons_zero, Nat.zero_add, Nat.reduceAdd] at h1
        have H1 := Lib.hid h1
        clear h1
        go_wp2_with fail
        refine (HA1.out _).mono ?_
        rintro e w2 ⟨rfl, rfl⟩
        go_wp2_with fail
        refine (HO1.out _).mono ?_
        rintro e w3 ⟨rfl, hb⟩
        have h3 := H1.out.grow hb
        have k3 := h3.all
        simp only [allFacts, box_facts, row_facts, emp_facts, cellFacts, Nat.zero_add, Nat.reduceAdd, true_and, and_true] at k3
        have H3 := Lib.hid h3
        clear hb h3
        go_wp2_with fail
        refine (HO2.out _).mono ?_
        rintro e w4 ⟨rfl, hb⟩
        have h4 := H3.out.grow hb
        have k4 := h4.all
        simp only [allFacts, box_facts, row_facts, emp_facts, cellFacts, Nat.zero_add, Nat.reduceAdd, true_and, and_true] at k4
        clear k3
        have H4 := Lib.hid h4
        clear hb h4
        clear k4
        go_wp2_with fail
        go_wp2_with fail
        refine (fees_any _ A c l (HR.out.mono (src_rest H4.out (i := 0) rfl HR.out.src (src_lt HR.out.src))) (by omega)).mono ?_
        rintro e w5 ⟨A1, c1, rfl, g⟩
        have h5 := H4.out.pushThings g
        try simp only [List.cons_append, List.nil_append, List.set_cons_succ, List.set_cons_zero, Nat.zero_add, Nat.reduceAdd] at h5
        have H5 := Lib.hid h5
        clear g h5
        have hf := Recs.ofRow (k := 2) (f := feeC) (H5.out.rowOf (i := 2) rfl) (by omega)
        have hbk1 := back_any w5 a ha A1 c1 l hf HU.out (by omega)
        rw [HBAD.out, HBL.out] at hbk1
        try dsimp only at hbk1
        have HBK1 := Lib.hid hbk1
        clear hbk1 hf
        go_wp2_with fail
        refine (HBK1.out).mono ?_
        rintro e w6 ⟨A2, c2, rfl, g⟩
        have h6 := H5.out.pushThings g
        try simp only [List.cons_append, List.nil_append, List.set_cons_succ, List.set_cons_zero, Nat.zero_add, Nat.reduceAdd] at h6
        have H6 := Lib.hid h6
        clear g h6
        go_wp2
        go_loopw [75] (fun i wr => i = .int .i64 0 ∧ Sat w wr [rest w (· < w.heap.size)]) (fun i _ => 0)
        case atStart => exact ⟨rfl, H6.out.left (l := [_]) (l' := [_, _, _])⟩
        case round =>
          obtain ⟨rfl, hS⟩ := hrel
          have HS := Lib.hid hS
          clear hS H6
          go_wp2_with fail
          refine (awake_any _).mono ?_
          rintro e w61 ⟨rfl, hb⟩
          have h61 := HS.out.grow hb
          have H61 := Lib.hid h61
          clear hb h61
          go_wp2
          go_ret
          exact ⟨rfl, H61.out.below (i := 0) rfl⟩
      · subst he hg hh
        obtain ⟨m1, m2⟩ := hmo (hab rfl) rfl rfl
        have t1 : decide (y < x) = false := by simpa using m1
        have t2 : decide (x < a) = false := by simpa using m2
        clear hmo hab hbu
        go_enter Try.func7, Try.ntmps7
        have h1 := H0.out.alloc #[.int .u64 x0, .int .u64 y0] 43
        try simp only [List.cons_append, List.nil_append, List.set_cons_succ, List.set_cons_zero, Nat.zero_add, Nat.reduceAdd] at h1
        have H1 := Lib.hid h1
        clear h1
        go_wp2_with fail
        refine (HA1.out _).mono ?_
        rintro e w2 ⟨rfl, rfl⟩
        go_wp2_with fail
        refine (HO1.out _).mono ?_
        rintro e w3 ⟨rfl, hb⟩
        have h3 := H1.out.grow hb
        have k3 := h3.all
        simp only [allFacts, box_facts, row_facts, emp_facts, cellFacts, Nat.zero_add, Nat.reduceAdd, true_and, and_true] at k3
        have H3 := Lib.hid h3
        clear hb h3
        go_wp2_with fail
        refine (HO2.out _).mono ?_
        rintro e w4 ⟨rfl, hb⟩
        have h4 := H3.out.grow hb
        have k4 := h4.all
        simp only [allFacts, box_facts, row_facts, emp_facts, cellFacts, Nat.zero_add, Nat.reduceAdd, true_and, and_true] at k4
        clear k3
        have H4 := Lib.hid h4
        clear hb h4
        clear k4
        go_wp2_with fail
        go_wp2_with fail
        refine (fees_any _ A c l (HR.out.mono (src_rest H4.out (i := 0) rfl HR.out.src (src_lt HR.out.src))) (by omega)).mono ?_
        rintro e w5 ⟨A1, c1, rfl, g⟩
        have h5 := H4.out.pushThings g
        try simp only [List.cons_append, List.nil_append, List.set_cons_succ, List.set_cons_zero, Nat.zero_add, Nat.reduceAdd] at h5
        have H5 := Lib.hid h5
        clear g h5
        have hf := Recs.ofRow (k := 2) (f := feeC) (H5.out.rowOf (i := 2) rfl) (by omega)
        have hbk1 := back_any w5 a ha A1 c1 l hf HU.out (by omega)
        rw [HBAD.out, HBL.out] at hbk1
        try dsimp only at hbk1
        have HBK1 := Lib.hid hbk1
        clear hbk1 hf
        go_wp2_with fail
        refine (HBK1.out).mono ?_
        rintro e w6 ⟨A2, c2, rfl, g⟩
        have h6 := H5.out.pushThings g
        try simp only [List.cons_append, List.nil_append, List.set_cons_succ, List.set_cons_zero, Nat.zero_add, Nat.reduceAdd] at h6
        have H6 := Lib.hid h6
        clear g h6
        go_wp2
        go_loopw [75] (fun i wr => i = .int .i64 0 ∧ Sat w wr [rest w (· < w.heap.size)]) (fun i _ => 0)
        case atStart => exact ⟨rfl, H6.out.left (l := [_]) (l' := [_, _, _])⟩
        case round =>
          obtain ⟨rfl, hS⟩ := hrel
          have HS := Lib.hid hS
          clear hS H6
          go_wp2_with fail
          refine (awake_any _).mono ?_
          rintro e w61 ⟨rfl, hb⟩
          have h61 := HS.out.grow hb
          have H61 := Lib.hid h61
          clear hb h61
          go_wp2
          go_ret
          exact ⟨rfl, H61.out.below (i := 0) rfl⟩
end Go.Proofs.Ytonjibjghijacaa
