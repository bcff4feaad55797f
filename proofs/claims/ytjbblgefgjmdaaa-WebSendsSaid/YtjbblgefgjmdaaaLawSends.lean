/- Walk over the law WebSends. -/
import Derived.Test.YtjbblgefgjmdaaaReadWeb
import Derived.Test.YtjbblgefgjmdaaaRSent07
namespace Go.Proofs.Ytjbblgefgjmdaaa
set_option linter.unusedVariables false
set_option linter.unusedSimpArgs false
set_option linter.unnecessarySimpa false
open Go.RowKit

theorem noWeb_ok : noWeb.Ok := ⟨(fun e he => by cases he), (fun p hp => by cases hp)⟩
theorem sent_ok {x : Wb} (ok : x.Ok) {edge node n : Int} (hn : U64 n) : (sentP x edge node n).1.Ok ∧ (sentP x edge node n).1.spots.length ≤ x.spots.length ∧ (sentP x edge node n).1.edges.length ≤ x.edges.length := by
  have none_ : noWeb.Ok ∧ noWeb.spots.length ≤ x.spots.length ∧ noWeb.edges.length ≤ x.edges.length := ⟨noWeb_ok, by simp [noWeb], by simp [noWeb]⟩
  unfold sentP
  split
  · exact none_
  · split
    · rename_i hh
      split
      · exact none_
      · rename_i hs
        split
        · exact none_
        · rename_i hc
          split
          · rename_i ha
            refine ⟨⟨fun e he => ?_, ok.s⟩, Nat.le_refl _, by simp⟩
            rcases List.mem_or_eq_of_mem_set he with he | rfl
            · exact ok.e e he
            · have oe := ok.e x.edges[edge.toNat] (List.getElem_mem hh.2)
              generalize x.edges[edge.toNat] = e at *
              have hv := addP_val ha
              obtain ⟨n0, n1⟩ := hn
              have hsd : sideP e node = 0 ∨ sideP e node = 1 := by rcases side_cases e node with h | h | h <;> omega
              rcases hsd with h | h <;> rw [h] at hc hv ⊢
              · have c0 := oe.c0.1
                have c1 := oe.c0.2
                have d0 := oe.c1.1
                simp [Edg.can] at hc hv
                refine ⟨oe.a, oe.b, ⟨?_, ?_⟩, ⟨?_, ?_⟩, oe.b0, oe.r0, oe.b1, oe.r1⟩ <;> simp [Edg.sent] <;> omega
              · have c0 := oe.c1.1
                have c1 := oe.c1.2
                have d0 := oe.c0.1
                simp [Edg.can] at hc hv
                refine ⟨oe.a, oe.b, ⟨?_, ?_⟩, ⟨?_, ?_⟩, oe.b0, oe.r0, oe.b1, oe.r1⟩ <;> simp [Edg.sent] <;> omega
          · exact none_
    · exact none_
set_option maxRecDepth 100000 in
set_option maxHeartbeats 4000000 in
theorem sends_law (w : World) (As : Option Addr) (cs : Nat) (Ae : Option Addr) (ce : Nat) (x : Wb) (h : WebAt w As cs Ae ce x) (ok : x.Ok) (edge node n : Int) (he : I64 edge) (hnd : I64 node) (hn : U64 n) : Calls Try.prog 4 #[.agg #[.slice As x.spots.length cs, .slice Ae x.edges.length ce], .int .i64 edge, .int .i64 node, .int .u64 n] w fun e w' => e = .returned (.bool true) ∧ Below w.heap.size w w' := by
  have h1 := (Sat.pushRest w).alloc #[.slice As x.spots.length cs, .slice Ae x.edges.length ce] 25
  try simp only [List.cons_append, List.nil_append, List.set_cons_succ, List.set_cons_zero, Nat.zero_add, Nat.reduceAdd, World.size_alloc, World.size_drew] at h1
  have HW := Lib.hid h
  have HL := Lib.hid (light_any (w.alloc (.cells #[.slice As x.spots.length cs, .slice Ae x.edges.length ce] 25)) As cs Ae ce x)
  have H1 := Lib.hid h1
  clear h h1
  cases hlp : lightP x with
  | false =>
    rw [hlp] at HL
    clear hlp
    go_enter Try.func4, Try.ntmps4
    go_wp2_with fail
    refine (HL.out).mono ?_
    rintro e w2 ⟨rfl, hb⟩
    have h2 := H1.out.grow hb
    have H2 := Lib.hid h2
    clear hb h2
    go_wp2_with fail
    refine (awake_any _).mono ?_
    rintro e w3 ⟨rfl, hb⟩
    have h3 := H2.out.grow hb
    have H3 := Lib.hid h3
    clear hb h3
    go_wp2
    go_ret
    exact ⟨rfl, H3.out.below (i := 0) rfl⟩
  | true =>
    obtain ⟨l1, l2, l3, l4⟩ := light_small hlp
    rw [hlp] at HL
    clear hlp
    obtain ⟨yok, ys, ye⟩ := sent_ok ok (edge := edge) (node := node) hn
    have HSE := Lib.hid (fun w As cs Ae ce h => sent_any w As cs Ae ce x h ok edge node n hn he hnd)
    have HRS := Lib.hid (fun w As cs Ae ce h => rsent_any w As cs Ae ce x h ok edge node n hn he hnd)
    have HAL := Lib.hid (fun w As cs Ae ce h => all_any w As cs Ae ce x h ok l2)
    have HRA := Lib.hid (fun w As cs Ae ce h => rall_any w As cs Ae ce x h ok l2)
    generalize sentP x edge node n = r at *
    obtain ⟨y, e⟩ := r
    dsimp only at yok ys ye HSE HRS
    generalize allP x = r at *
    obtain ⟨av, ae⟩ := r
    dsimp only at HAL HRA
    have YOK := Lib.hid yok
    clear yok he hnd hn
    go_enter Try.func4, Try.ntmps4
    go_wp2_with fail
    refine (HL.out).mono ?_
    rintro e w2 ⟨rfl, hb⟩
    have h2 := H1.out.grow hb
    have k2 := h2.all
    simp only [allFacts, box_facts, row_facts, emp_facts, cellFacts, Nat.zero_add, Nat.reduceAdd, true_and, and_true] at k2
    have H2 := Lib.hid h2
    clear hb h2
    go_wp2_with fail
    refine (to_any _ As cs Ae ce x (HW.out.move H2.out rfl) ok ⟨l1, l2⟩).mono ?_
    rintro e w3 ⟨A1, c1, A2, c2, rfl, g⟩
    have h3 := H2.out.pushThings g
    try simp only [List.cons_append, List.nil_append, List.set_cons_succ, List.set_cons_zero, Nat.zero_add, Nat.reduceAdd, World.size_alloc, World.size_drew] at h3
    have H3 := Lib.hid h3
    clear g h3
    clear k2
    have h4 := H3.out.alloc #[.slice A1 x.spots.length c1, .slice A2 x.edges.length c2] 31
    try simp only [List.cons_append, List.nil_append, List.set_cons_succ, List.set_cons_zero, Nat.zero_add, Nat.reduceAdd, World.size_alloc, World.size_drew] at h4
    have H4 := Lib.hid h4
    clear h4
    have k1 := H4.out.all
    simp only [allFacts, box_facts, row_facts, emp_facts, cellFacts, Nat.zero_add, Nat.reduceAdd, true_and, and_true] at k1
    go_wp2_with fail
    refine (HSE.out _ A1 c1 A2 c2 (WebAt.ofNew (x := x) (w := w) H4.out (i := 2) (j := 3) rfl rfl ⟨l1, l2⟩)).mono ?_
    rintro e z1 ⟨A3, c3, A4, c4, rfl, hy, hb⟩
    have h9 := H4.out.grow hb
    have HY := Lib.hid hy
    have h10 := h9.alloc #[.slice A3 y.spots.length c3, .slice A4 y.edges.length c4] 31
    try simp only [List.cons_append, List.nil_append, List.set_cons_succ, List.set_cons_zero, Nat.zero_add, Nat.reduceAdd, World.size_alloc, World.size_drew] at h10
    have k2 := h10.all
    simp only [allFacts, box_facts, row_facts, emp_facts, cellFacts, Nat.zero_add, Nat.reduceAdd, true_and, and_true] at k2
    have H20 := Lib.hid h10
    clear h9 h10 hb hy k1
    have hb0 := (Below.refl z1.heap.size z1).alloc (Nat.le_refl _) (.cells #[.slice A3 y.spots.length c3, .slice A4 y.edges.length c4] 31)
    have HB0 := Lib.hid hb0
    clear hb0
    go_wp2_with fail
    refine (HRS.out _ As cs Ae ce (HW.out.move H20.out rfl)).mono ?_
    rintro e z2 ⟨A5, c5, A6, c6, rfl, hy, hb⟩
    have h9 := H20.out.grow hb
    have HZ := Lib.hid hy
    have HB1 := Lib.hid (HB0.out.trans (hb.mono HB0.out.size))
    have h10 := h9.alloc #[.slice A5 y.spots.length c5, .slice A6 y.edges.length c6] 25
    try simp only [List.cons_append, List.nil_append, List.set_cons_succ, List.set_cons_zero, Nat.zero_add, Nat.reduceAdd, World.size_alloc, World.size_drew] at h10
    have k3 := h10.all
    simp only [allFacts, box_facts, row_facts, emp_facts, cellFacts, Nat.zero_add, Nat.reduceAdd, true_and, and_true] at k3
    have H21 := Lib.hid h10
    clear h9 h10 hb hy k2
    have HB2 := Lib.hid (HB1.out.alloc HB1.out.size (.cells #[.slice A5 y.spots.length c5, .slice A6 y.edges.length c6] 25))
    have HC2 := Lib.hid ((Below.refl z2.heap.size z2).alloc (Nat.le_refl _) (.cells #[.slice A5 y.spots.length c5, .slice A6 y.edges.length c6] 25))
    go_wp2_with fail
    refine (HAL.out _ A1 c1 A2 c2 (WebAt.ofNew (x := x) (w := w) H21.out (i := 2) (j := 3) rfl rfl ⟨l1, l2⟩)).mono ?_
    rintro e z3 ⟨rfl, hb⟩
    have h9 := H21.out.grow hb
    have k4 := h9.all
    simp only [allFacts, box_facts, row_facts, emp_facts, cellFacts, Nat.zero_add, Nat.reduceAdd, true_and, and_true] at k4
    have H22 := Lib.hid h9
    have HB3 := Lib.hid (HB2.out.trans (hb.mono HB2.out.size))
    have HC3 := Lib.hid (HC2.out.trans (hb.mono HC2.out.size))
    clear h9 hb k3
    go_wp2_with fail
    refine (HRA.out _ As cs Ae ce (HW.out.move H22.out rfl)).mono ?_
    rintro e z4 ⟨rfl, hb⟩
    have h9 := H22.out.grow hb
    have k5 := h9.all
    simp only [allFacts, box_facts, row_facts, emp_facts, cellFacts, Nat.zero_add, Nat.reduceAdd, true_and, and_true] at k5
    have H23 := Lib.hid h9
    have HB4 := Lib.hid (HB3.out.trans (hb.mono HB3.out.size))
    have HC4 := Lib.hid (HC3.out.trans (hb.mono HC3.out.size))
    clear h9 hb k4
    go_wp2_with fail
    refine region_chain (E := [0, 8, 10, 24, 26]) (kn := [false, false, false, false, false, false, false, false, false, false, false, false, false, false, false, false, false, false, false, false, false, false, false, false, false, false, false, false, false]) (mask := [false, false, false, false, false, false, false, false, false, false, false, false, false, false, false, false, false, false, false, false, false, false, false, false, false, false, false, false, false]) (vs := [undef, undef, undef, undef, undef, undef, undef, undef, undef, undef, undef, undef, undef, undef, undef, undef, undef, undef, undef, undef, undef, undef, undef, undef, undef, undef, undef, undef, undef]) (S := fun w' => w' = z4.drew) (by kernel_rfl) (by kernel_rfl) (by kernel_rfl) (by kernel_rfl) (by kernel_rfl) ?hSa ?hcha
    case hSa => exact rfl
    case hcha =>
      refine chain_cons _ (by kernel_rfl) rfl rfl ?opsa0 ?wanta0 ?effa0
      case opsa0 =>
        simp only [OpsAt, fillT, List.setIfInBounds_toArray, List.set_cons_zero, List.set_cons_succ]
        try trivial
      case wanta0 => (try simp only [fillT, List.setIfInBounds_toArray, List.set_cons_zero, List.set_cons_succ]) <;> rfl
      case effa0 =>
        intro wS hS
        simp only [fillT, List.setIfInBounds_toArray, List.set_cons_zero, List.set_cons_succ]
        rw [hS]
        refine eff_call (f := 8) (args := #[]) (by go_simp) ?_
        refine (awake_any _).mono ?_
        rintro e z5 ⟨rfl, hb⟩
        have h9 := H23.out.drew.grow hb
        have k6 := h9.all
        simp only [allFacts, box_facts, row_facts, emp_facts, cellFacts, Nat.zero_add, Nat.reduceAdd, true_and, and_true] at k6
        have H24 := Lib.hid h9
        have HB5 := Lib.hid (HB4.out.drew.trans (hb.mono HB4.out.drew.size))
        have HC5 := Lib.hid (HC4.out.drew.trans (hb.mono HC4.out.drew.size))
        clear h9 hb
        refine ⟨_, rfl, ?_⟩
        refine ⟨_, [true, true, true, true, true, true, true, true, false, true, false, false, false, false, false, false, false, false, false, false, false, false, false, false, false, false, false, false, false], [false, true, true, true, true, true, true, true, false, true, false, false, false, false, false, false, false, false, false, false, false, false, false, false, false, false, false, false, false], [], [(.bool true), ?va1_1, ?va1_2, ?va1_3, ?va1_4, ?va1_5, ?va1_6, ?va1_7, undef, ?va1_9, undef, undef, undef, undef, undef, undef, undef, undef, undef, undef, undef, undef, undef, undef, undef, undef, undef, undef, undef], fun w' => w' = z5, rfl, rfl, ?samea0, by kernel_rfl, ?hSa0, ?nxa0⟩
        case samea0 =>
          trivial
        case hSa0 => rfl
        case nxa0 =>
          refine chain_cons _ (by kernel_rfl) rfl rfl ?opsa1 ?wanta1 ?effa1
          case opsa1 =>
            simp only [OpsAt, fillT, List.setIfInBounds_toArray, List.set_cons_zero, List.set_cons_succ]
            refine ⟨.inl ⟨by rfl, opOk_pure fun wS hS => ?_⟩, ?_⟩
            · ((subst hS; go_simp; try simp (disch := omega) only [wrap64_id])); try (with_reducible rfl)
            refine ⟨.inl ⟨by rfl, opOk_pure fun wS hS => ?_⟩, ?_⟩
            · ((subst hS; go_simp; try simp (disch := omega) only [wrap64_id])); try (with_reducible rfl)
            refine ⟨.inl ⟨by rfl, opOk_pure fun wS hS => ?_⟩, ?_⟩
            · ((subst hS; go_simp; try simp (disch := omega) only [wrap64_id])); try (with_reducible rfl)
            refine ⟨.inl ⟨by rfl, opOk_pure fun wS hS => ?_⟩, ?_⟩
            · ((subst hS; go_simp; try simp (disch := omega) only [wrap64_id])); try (with_reducible rfl)
            refine ⟨.inl ⟨by rfl, opOk_pure fun wS hS => ?_⟩, ?_⟩
            · ((subst hS; go_simp; try simp (disch := omega) only [wrap64_id])); try (with_reducible rfl)
            refine ⟨.inl ⟨by rfl, opOk_pure fun wS hS => ?_⟩, ?_⟩
            · ((subst hS; go_simp; try simp (disch := omega) only [wrap64_id])); try (with_reducible rfl)
            refine ⟨.inl ⟨by rfl, opOk_pure fun wS hS => ?_⟩, ?_⟩
            · ((subst hS; go_simp; try simp (disch := omega) only [wrap64_id])); try (with_reducible rfl)
            refine ⟨.inl ⟨by rfl, opOk_pure fun wS hS => ?_⟩, ?_⟩
            · ((subst hS; go_simp; try simp (disch := omega) only [wrap64_id])); try (with_reducible rfl)
            try trivial
          case wanta1 => (try simp only [fillT, List.setIfInBounds_toArray, List.set_cons_zero, List.set_cons_succ]) <;> rfl
          case effa1 =>
            intro wS hS
            simp only [fillT, List.setIfInBounds_toArray, List.set_cons_zero, List.set_cons_succ]
            rw [hS]
            refine eff_call (f := 20) (args := #[.agg #[.slice A3 y.spots.length c3, .slice A4 y.edges.length c4]]) (by go_simp) ?_
            refine (from_any _ A3 c3 A4 c4 y (HY.out.below HB5.out) YOK.out ⟨by omega, by omega⟩).mono ?_
            rintro e z6 ⟨A7, c7, A8, c8, rfl, gq⟩
            have hb := gq.below (i := 0) rfl
            have h9 := H24.out.pushThings gq
            try simp only [List.cons_append, List.nil_append, List.set_cons_succ, List.set_cons_zero, Nat.zero_add, Nat.reduceAdd, World.size_alloc, World.size_drew] at h9
            have k7 := h9.all
            simp only [allFacts, box_facts, row_facts, emp_facts, cellFacts, Nat.zero_add, Nat.reduceAdd, true_and, and_true] at k7
            have H25 := Lib.hid h9
            have HC6 := Lib.hid (HC5.out.trans (hb.mono HC5.out.size))
            clear h9 hb gq
            refine ⟨_, rfl, ?_⟩
            refine ⟨_, [true, true, true, true, true, true, true, true, true, true, false, false, false, false, false, false, false, false, false, false, false, false, false, false, false, false, false, false, false], [false, false, false, false, false, false, false, false, false, true, false, false, false, false, false, false, false, false, false, false, false, false, false, false, false, false, false, false, false], [7, 6, 5, 1, 4, 2, 3], [(.bool true), ?va2_1, ?va2_2, ?va2_3, ?va2_4, ?va2_5, ?va2_6, ?va2_7, (.agg #[.slice A7 y.spots.length c7, .slice A8 y.edges.length c8]), ?va2_9, undef, undef, undef, undef, undef, undef, undef, undef, undef, undef, undef, undef, undef, undef, undef, undef, undef, undef, undef], fun w' => w' = z6, rfl, rfl, ?samea1, by kernel_rfl, ?hSa1, ?nxa1⟩
            case samea1 =>
              refine And.intro ?_ ?_
              · with_reducible rfl
              refine And.intro ?_ ?_
              · with_reducible rfl
              refine And.intro ?_ ?_
              · with_reducible rfl
              refine And.intro ?_ ?_
              · with_reducible rfl
              refine And.intro ?_ ?_
              · with_reducible rfl
              refine And.intro ?_ ?_
              · with_reducible rfl
              refine And.intro ?_ ?_
              · with_reducible rfl
              refine And.intro ?_ ?_
              · with_reducible rfl
              refine And.intro ?_ ?_
              · with_reducible rfl
              trivial
            case hSa1 => rfl
            case nxa1 =>
              refine chain_cons _ (by kernel_rfl) rfl rfl ?opsa2 ?wanta2 ?effa2
              case opsa2 =>
                simp only [OpsAt, fillT, List.setIfInBounds_toArray, List.set_cons_zero, List.set_cons_succ]
                refine ⟨.inl ⟨by rfl, opOk_pure fun wS hS => ?_⟩, ?_⟩
                · ((subst hS; go_simp; try simp (disch := omega) only [wrap64_id])); try (with_reducible rfl)
                try trivial
              case wanta2 => (try simp only [fillT, List.setIfInBounds_toArray, List.set_cons_zero, List.set_cons_succ]) <;> rfl
              case effa2 =>
                intro wS hS
                simp only [fillT, List.setIfInBounds_toArray, List.set_cons_zero, List.set_cons_succ]
                rw [hS]
                refine eff_call (f := 19) (args := #[.agg #[.slice A7 y.spots.length c7, .slice A8 y.edges.length c8], .agg #[.slice A5 y.spots.length c5, .slice A6 y.edges.length c6]]) (by go_simp) ?_
                refine (same_any _ A7 c7 A8 c8 y (WebAt.ofNew (x := y) (w := w) H25.out (i := 7) (j := 8) rfl rfl ⟨by omega, by omega⟩) YOK.out A5 c5 A6 c6 (HZ.out.below HC6.out)).mono ?_
                rintro e z7 ⟨rfl, hb⟩
                have h9 := H25.out.grow hb
                have k8 := h9.all
                simp only [allFacts, box_facts, row_facts, emp_facts, cellFacts, Nat.zero_add, Nat.reduceAdd, true_and, and_true] at k8
                have H26 := Lib.hid h9
                clear h9 hb
                refine ⟨_, rfl, ?_⟩
                refine ⟨_, [true, true, true, true, true, true, true, true, true, true, true, true, true, true, true, true, true, true, true, true, true, true, true, true, false, true, false, false, false], [false, false, false, false, false, false, false, false, false, false, false, true, true, true, true, true, true, true, true, true, true, true, true, true, false, true, false, false, false], [9], [(.bool true), ?va3_1, ?va3_2, ?va3_3, ?va3_4, ?va3_5, ?va3_6, ?va3_7, (.agg #[.slice A7 y.spots.length c7, .slice A8 y.edges.length c8]), ?va3_9, (.bool true), ?va3_11, ?va3_12, ?va3_13, ?va3_14, ?va3_15, ?va3_16, ?va3_17, ?va3_18, ?va3_19, ?va3_20, ?va3_21, ?va3_22, ?va3_23, undef, ?va3_25, undef, undef, undef], fun w' => w' = z7, rfl, rfl, ?samea2, by kernel_rfl, ?hSa2, ?nxa2⟩
                case samea2 =>
                  refine And.intro ?_ ?_
                  · with_reducible rfl
                  refine And.intro ?_ ?_
                  · with_reducible rfl
                  refine And.intro ?_ ?_
                  · with_reducible rfl
                  refine And.intro ?_ ?_
                  · with_reducible rfl
                  refine And.intro ?_ ?_
                  · with_reducible rfl
                  refine And.intro ?_ ?_
                  · with_reducible rfl
                  refine And.intro ?_ ?_
                  · with_reducible rfl
                  refine And.intro ?_ ?_
                  · with_reducible rfl
                  refine And.intro ?_ ?_
                  · with_reducible rfl
                  refine And.intro ?_ ?_
                  · with_reducible rfl
                  trivial
                case hSa2 => rfl
                case nxa2 =>
                  refine chain_cons _ (by kernel_rfl) rfl rfl ?opsa3 ?wanta3 ?effa3
                  case opsa3 =>
                    simp only [OpsAt, fillT, List.setIfInBounds_toArray, List.set_cons_zero, List.set_cons_succ]
                    refine ⟨.inl ⟨by rfl, opOk_pure fun wS hS => ?_⟩, ?_⟩
                    · ((subst hS; go_simp; try simp (disch := omega) only [wrap64_id])); try (with_reducible rfl)
                    refine ⟨.inl ⟨by rfl, opOk_pure fun wS hS => ?_⟩, ?_⟩
                    · ((subst hS; go_simp; try simp (disch := omega) only [wrap64_id])); try (with_reducible rfl)
                    refine ⟨.inl ⟨by rfl, opOk_pure fun wS hS => ?_⟩, ?_⟩
                    · ((subst hS; go_simp; try simp (disch := omega) only [wrap64_id])); try (with_reducible rfl)
                    refine ⟨.inl ⟨by rfl, opOk_pure fun wS hS => ?_⟩, ?_⟩
                    · ((subst hS; go_simp; try simp (disch := omega) only [wrap64_id])); try (with_reducible rfl)
                    refine ⟨.inl ⟨by rfl, opOk_pure fun wS hS => ?_⟩, ?_⟩
                    · ((subst hS; go_simp; try simp (disch := omega) only [wrap64_id])); try (with_reducible rfl)
                    refine ⟨.inl ⟨by rfl, opOk_pure fun wS hS => ?_⟩, ?_⟩
                    · ((subst hS; go_simp; try simp (disch := omega) only [wrap64_id])); try (with_reducible rfl)
                    refine ⟨.inl ⟨by rfl, opOk_pure fun wS hS => ?_⟩, ?_⟩
                    · ((subst hS; go_simp; try simp (disch := omega) only [wrap64_id])); try (with_reducible rfl)
                    refine ⟨.inl ⟨by rfl, opOk_pure fun wS hS => ?_⟩, ?_⟩
                    · ((subst hS; go_simp; try simp (disch := omega) only [wrap64_id])); try (with_reducible rfl)
                    refine ⟨.inl ⟨by rfl, opOk_pure fun wS hS => ?_⟩, ?_⟩
                    · ((subst hS; go_simp; try simp (disch := omega) only [wrap64_id])); try (with_reducible rfl)
                    refine ⟨.inl ⟨by rfl, opOk_pure fun wS hS => ?_⟩, ?_⟩
                    · ((subst hS; go_simp; try simp (disch := omega) only [wrap64_id])); try (with_reducible rfl)
                    refine ⟨.inl ⟨by rfl, opOk_pure fun wS hS => ?_⟩, ?_⟩
                    · ((subst hS; go_simp; try simp (disch := omega) only [wrap64_id])); try (with_reducible rfl)
                    refine ⟨.inl ⟨by rfl, opOk_pure fun wS hS => ?_⟩, ?_⟩
                    · ((subst hS; go_simp; try simp (disch := omega) only [wrap64_id])); try (with_reducible rfl)
                    refine ⟨.inl ⟨by rfl, opOk_pure fun wS hS => ?_⟩, ?_⟩
                    · ((subst hS; go_simp; try simp (disch := omega) only [wrap64_id])); try (with_reducible rfl)
                    refine ⟨.inl ⟨by rfl, opOk_pure fun wS hS => ?_⟩, ?_⟩
                    · ((subst hS; go_simp; try simp (disch := omega) only [wrap64_id])); try (with_reducible rfl)
                    try trivial
                  case wanta3 => (try simp only [fillT, List.setIfInBounds_toArray, List.set_cons_zero, List.set_cons_succ]) <;> rfl
                  case effa3 =>
                    intro wS hS
                    simp only [fillT, List.setIfInBounds_toArray, List.set_cons_zero, List.set_cons_succ]
                    rw [hS]
                    refine eff_call (f := 20) (args := #[.agg #[.slice A1 x.spots.length c1, .slice A2 x.edges.length c2]]) (by go_simp) ?_
                    refine (from_any _ A1 c1 A2 c2 x (WebAt.ofNew (x := x) (w := w) H26.out (i := 2) (j := 3) rfl rfl ⟨l1, l2⟩) ok ⟨l1, l2⟩).mono ?_
                    rintro e z8 ⟨A9, c9, A10, c10, rfl, gq⟩
                    have h9 := H26.out.pushThings gq
                    try simp only [List.cons_append, List.nil_append, List.set_cons_succ, List.set_cons_zero, Nat.zero_add, Nat.reduceAdd, World.size_alloc, World.size_drew] at h9
                    have k9 := h9.all
                    simp only [allFacts, box_facts, row_facts, emp_facts, cellFacts, Nat.zero_add, Nat.reduceAdd, true_and, and_true] at k9
                    have H27 := Lib.hid h9
                    clear h9 gq
                    refine ⟨_, rfl, ?_⟩
                    refine ⟨_, [true, true, true, true, true, true, true, true, true, true, true, true, true, true, true, true, true, true, true, true, true, true, true, true, true, true, false, false, false], [false, false, false, false, false, false, false, false, false, false, false, false, false, false, false, false, false, false, false, false, false, false, false, false, false, true, false, false, false], [23, 22, 21, 17, 20, 16, 12, 18, 19, 15, 11, 13, 14], [(.bool true), ?va4_1, ?va4_2, ?va4_3, ?va4_4, ?va4_5, ?va4_6, ?va4_7, (.agg #[.slice A7 y.spots.length c7, .slice A8 y.edges.length c8]), ?va4_9, (.bool true), ?va4_11, ?va4_12, ?va4_13, ?va4_14, ?va4_15, ?va4_16, ?va4_17, ?va4_18, ?va4_19, ?va4_20, ?va4_21, ?va4_22, ?va4_23, (.agg #[.slice A9 x.spots.length c9, .slice A10 x.edges.length c10]), ?va4_25, undef, undef, undef], fun w' => w' = z8, rfl, rfl, ?samea3, by kernel_rfl, ?hSa3, ?nxa3⟩
                    case samea3 =>
                      refine And.intro ?_ ?_
                      · with_reducible rfl
                      refine And.intro ?_ ?_
                      · with_reducible rfl
                      refine And.intro ?_ ?_
                      · with_reducible rfl
                      refine And.intro ?_ ?_
                      · with_reducible rfl
                      refine And.intro ?_ ?_
                      · with_reducible rfl
                      refine And.intro ?_ ?_
                      · with_reducible rfl
                      refine And.intro ?_ ?_
                      · with_reducible rfl
                      refine And.intro ?_ ?_
                      · with_reducible rfl
                      refine And.intro ?_ ?_
                      · with_reducible rfl
                      refine And.intro ?_ ?_
                      · with_reducible rfl
                      refine And.intro ?_ ?_
                      · with_reducible rfl
                      refine And.intro ?_ ?_
                      · with_reducible rfl
                      refine And.intro ?_ ?_
                      · with_reducible rfl
                      refine And.intro ?_ ?_
                      · with_reducible rfl
                      refine And.intro ?_ ?_
                      · with_reducible rfl
                      refine And.intro ?_ ?_
                      · with_reducible rfl
                      refine And.intro ?_ ?_
                      · with_reducible rfl
                      refine And.intro ?_ ?_
                      · with_reducible rfl
                      refine And.intro ?_ ?_
                      · with_reducible rfl
                      refine And.intro ?_ ?_
                      · with_reducible rfl
                      refine And.intro ?_ ?_
                      · with_reducible rfl
                      refine And.intro ?_ ?_
                      · with_reducible rfl
                      refine And.intro ?_ ?_
                      · with_reducible rfl
                      refine And.intro ?_ ?_
                      · with_reducible rfl
                      refine And.intro ?_ ?_
                      · with_reducible rfl
                      trivial
                    case hSa3 => rfl
                    case nxa3 =>
                      refine chain_cons _ (by kernel_rfl) rfl rfl ?opsa4 ?wanta4 ?effa4
                      case opsa4 =>
                        simp only [OpsAt, fillT, List.setIfInBounds_toArray, List.set_cons_zero, List.set_cons_succ]
                        refine ⟨.inl ⟨by rfl, opOk_pure fun wS hS => ?_⟩, ?_⟩
                        · ((subst hS; go_simp; try simp (disch := omega) only [wrap64_id])); try (with_reducible rfl)
                        try trivial
                      case wanta4 => (try simp only [fillT, List.setIfInBounds_toArray, List.set_cons_zero, List.set_cons_succ]) <;> rfl
                      case effa4 =>
                        intro wS hS
                        simp only [fillT, List.setIfInBounds_toArray, List.set_cons_zero, List.set_cons_succ]
                        rw [hS]
                        refine eff_call (f := 19) (args := #[.agg #[.slice A9 x.spots.length c9, .slice A10 x.edges.length c10], .agg #[.slice As x.spots.length cs, .slice Ae x.edges.length ce]]) (by go_simp) ?_
                        refine (same_any _ A9 c9 A10 c10 x (WebAt.ofNew (x := x) (w := w) H27.out (i := 9) (j := 10) rfl rfl ⟨l1, l2⟩) ok As cs Ae ce (HW.out.move H27.out rfl)).mono ?_
                        rintro e z9 ⟨rfl, hb⟩
                        have h9 := (H27.out.grow hb).below (i := 0) rfl
                        have HBF := Lib.hid h9
                        clear h9 hb
                        refine ⟨_, rfl, ?_⟩
                        refine ⟨_, [true, true, true, true, true, true, true, true, true, true, true, true, true, true, true, true, true, true, true, true, true, true, true, true, true, true, true, true, true], [false, false, false, false, false, false, false, false, false, false, false, false, false, false, false, false, false, false, false, false, false, false, false, false, false, false, false, true, true], [25], [(.bool true), ?va5_1, ?va5_2, ?va5_3, ?va5_4, ?va5_5, ?va5_6, ?va5_7, (.agg #[.slice A7 y.spots.length c7, .slice A8 y.edges.length c8]), ?va5_9, (.bool true), ?va5_11, ?va5_12, ?va5_13, ?va5_14, ?va5_15, ?va5_16, ?va5_17, ?va5_18, ?va5_19, ?va5_20, ?va5_21, ?va5_22, ?va5_23, (.agg #[.slice A9 x.spots.length c9, .slice A10 x.edges.length c10]), ?va5_25, (.bool true), ?va5_27, ?va5_28], fun w' => w' = z9, rfl, rfl, ?samea4, by kernel_rfl, ?hSa4, ?nxa4⟩
                        case samea4 =>
                          refine And.intro ?_ ?_
                          · with_reducible rfl
                          refine And.intro ?_ ?_
                          · with_reducible rfl
                          refine And.intro ?_ ?_
                          · with_reducible rfl
                          refine And.intro ?_ ?_
                          · with_reducible rfl
                          refine And.intro ?_ ?_
                          · with_reducible rfl
                          refine And.intro ?_ ?_
                          · with_reducible rfl
                          refine And.intro ?_ ?_
                          · with_reducible rfl
                          refine And.intro ?_ ?_
                          · with_reducible rfl
                          refine And.intro ?_ ?_
                          · with_reducible rfl
                          refine And.intro ?_ ?_
                          · with_reducible rfl
                          refine And.intro ?_ ?_
                          · with_reducible rfl
                          refine And.intro ?_ ?_
                          · with_reducible rfl
                          refine And.intro ?_ ?_
                          · with_reducible rfl
                          refine And.intro ?_ ?_
                          · with_reducible rfl
                          refine And.intro ?_ ?_
                          · with_reducible rfl
                          refine And.intro ?_ ?_
                          · with_reducible rfl
                          refine And.intro ?_ ?_
                          · with_reducible rfl
                          refine And.intro ?_ ?_
                          · with_reducible rfl
                          refine And.intro ?_ ?_
                          · with_reducible rfl
                          refine And.intro ?_ ?_
                          · with_reducible rfl
                          refine And.intro ?_ ?_
                          · with_reducible rfl
                          refine And.intro ?_ ?_
                          · with_reducible rfl
                          refine And.intro ?_ ?_
                          · with_reducible rfl
                          refine And.intro ?_ ?_
                          · with_reducible rfl
                          refine And.intro ?_ ?_
                          · with_reducible rfl
                          refine And.intro ?_ ?_
                          · with_reducible rfl
                          trivial
                        case hSa4 => rfl
                        case nxa4 =>
                          refine chain_nil (by kernel_rfl) rfl ?opsa5 ?enda5
                          case opsa5 =>
                            simp only [OpsAt, fillT, List.setIfInBounds_toArray, List.set_cons_zero, List.set_cons_succ]
                            refine ⟨.inl ⟨by rfl, opOk_pure fun wS hS => ?_⟩, ?_⟩
                            · ((subst hS; go_simp; try simp (disch := omega) only [wrap64_id])); try (with_reducible rfl)
                            refine ⟨.inl ⟨by rfl, opOk_pure fun wS hS => ?_⟩, ?_⟩
                            · ((subst hS; go_simp; try simp (disch := omega) only [wrap64_id])); try (with_reducible rfl)
                            try trivial
                          case enda5 =>
                            intro wE hE
                            simp only [fillT, List.setIfInBounds_toArray, List.set_cons_zero, List.set_cons_succ]
                            rw [hE]
                            go_wp2
                            go_ret
                            exact ⟨rfl, HBF.out⟩
end Go.Proofs.Ytjbblgefgjmdaaa
