/- Walks over webs: the ways out of a node. -/
import Derived.Test.YtcfpbemoocegfaaWebTo
import Derived.Test.YtcfpbemoocegfaaLast
namespace Go.Proofs.Ytcfpbemoocegfaa
set_option linter.unusedVariables false
set_option linter.unusedSimpArgs false
set_option linter.unnecessarySimpa false
open Go.RowKit

theorem restCell {w w' : World} {l : List Asn} (h : Sat w w' l) (hi : l[0]? = some (rest w (· < w.heap.size))) {g o : Nat} {v : Value} (hg : g < w.heap.size) (hc : w.cell? ⟨g, o, none⟩ = some v) : w'.cell? ⟨g, o, none⟩ = some v :=
  (World.cell?_of_block (a := ⟨g, o, none⟩) (h.fact hi g hg)).trans hc
theorem info_st : (Try.prog.info? 133).map (fun i => (i.zero, i.size, i.bytes)) = some (some (.agg #[.int .i64 0, .int .i64 0, .int .u64 0, .int .u64 0, .int .u64 0]), 5, 40) := by kernel_rfl
theorem info_rst : (Try.prog.info? 126).map (fun i => (i.zero, i.size, i.bytes)) = some (some (.agg #[.int .i64 0, .int .i64 0, .int .u64 0, .int .u64 0, .int .u64 0]), 5, 40) := by kernel_rfl
theorem ret_sl {A : Option Addr} {n m c d : Nat} (h1 : n = m) (h2 : c = d) : Ending.returned (.slice A n c) = .returned (.slice A m d) := by rw [h1, h2]
theorem st_snoc (l : List Stp) (e t c b r : Int) : l.flatMap stC ++ [.int .i64 e, .int .i64 t, .int .u64 c, .int .u64 b, .int .u64 r] = (l ++ [(⟨e, t, c, b, r⟩ : Stp)]).flatMap stC := by simp [stC]
theorem len_snoc (l : List Stp) (e t c b r : Int) : l.length + 1 = (l ++ [(⟨e, t, c, b, r⟩ : Stp)]).length := by simp
set_option maxRecDepth 100000 in
set_option maxHeartbeats 2000000 in
theorem steps_any (w : World) (As : Option Addr) (cs : Nat) (Ae : Option Addr) (ce : Nat) (x : Wb) (h : WebAt w As cs Ae ce x) (ok : x.Ok) (n : Int) : Calls Try.prog 70 #[.agg #[.slice As x.spots.length cs, .slice Ae x.edges.length ce], .int .i64 n] w fun e w' => ∃ A' c', e = .returned (.slice A' (stepsP x n).length c') ∧ Sat w w' [rest w (· < w.heap.size), row 133 5 (.slice A' (stepsP x n).length c') (stepsP x n).length ((stepsP x n).flatMap stC)] := by
  have h1 := (Sat.pushRest w).alloc #[.slice As x.spots.length cs, .slice Ae x.edges.length ce] 32
  try simp only [List.cons_append, List.nil_append, List.set_cons_succ, List.set_cons_zero, Nat.zero_add, Nat.reduceAdd, World.size_alloc] at h1
  have hck := check_any _ As cs Ae ce x (h.move h1 rfl) ok
  have HW := Lib.hid h
  have H1 := Lib.hid h1
  clear h h1
  rcases (show chkP x = 0 ∨ chkP x ≠ 0 by omega) with hz | hz
  · obtain ⟨z1, z2, z3⟩ := chk_zero hz
    have HZ := Lib.hid (show stepsP x n = stepsF n 0 x.edges from if_pos hz)
    rw [hz] at hck
    have HCK := Lib.hid hck
    have HB := Lib.hid z3
    clear hck hz z3
    go_enter Try.func70, Try.ntmps70
    go_wp2_with fail
    refine (HCK.out).mono ?_
    rintro e w2 ⟨rfl, hb⟩
    have h2 := H1.out.grow hb
    have k2 := h2.all
    simp only [allFacts, box_facts, row_facts, emp_facts, cellFacts, Nat.zero_add, Nat.reduceAdd, true_and, and_true] at k2
    have H2 := Lib.hid h2
    clear hb h2
    have h9 := H2.out.nilRow 133 5
    try simp only [List.cons_append, List.nil_append, List.set_cons_succ, List.set_cons_zero, Nat.zero_add, Nat.reduceAdd, World.size_alloc] at h9
    have H9 := Lib.hid h9
    clear h9
    go_wp2
    clear k2
    go_loopw [5, 15] (fun v i wr => ∃ (k : Nat) (A' : Option Addr) (c' : Nat), k ≤ x.edges.length ∧ i = .int .i64 k ∧ v = .slice A' (stepsF n 0 (x.edges.take k)).length c' ∧ Sat w wr [rest w (· < w.heap.size), box w.heap.size 32 [.slice As x.spots.length cs, .slice Ae x.edges.length ce], row 133 5 (.slice A' (stepsF n 0 (x.edges.take k)).length c') (stepsF n 0 (x.edges.take k)).length ((stepsF n 0 (x.edges.take k)).flatMap stC)]) (fun _ i _ => x.edges.length - (intOf i).toNat)
    case atStart => exact ⟨0, none, 0, Nat.zero_le _, rfl, rfl, H9.out⟩
    case round =>
      obtain ⟨k, A', c', hk, rfl, rfl, hS⟩ := hrel
      clear H9
      have HS := Lib.hid hS
      clear hS
      by_cases hlt : k < x.edges.length
      · obtain ⟨g, off, rfl, hb, hc⟩ := HW.out.e.at edC_len (by decide) hlt
        have hsn := stepsF_snoc n hlt
        have hnb := HB.out x.edges[k] (List.getElem_mem hlt)
        generalize hed : x.edges[k] = ed at *
        obtain ⟨a, b, c0, c1, b0, r0, b1, r1⟩ := ed
        try dsimp only at hnb
        have HC := Lib.hid hc
        clear hed hc
        have hab : a ≠ b := fun h => hnb (.inr (.inr (.inr (.inr h))))
        have hml : (stepsF n 0 (x.edges.take k)).length ≤ 16 := by have := stepsF_len n (x.edges.take k) 0; simp at this; omega
        generalize stepsF n 0 (x.edges.take k) = ls at *
        clear hnb
        have HSN := Lib.hid hsn
        clear hsn
        rcases side_cases ⟨a, b, c0, c1, b0, r0, b1, r1⟩ n with ⟨hs, ha⟩ | ⟨hs, hb1, ha⟩ | ⟨hs, ha, hb1⟩
        · have Z1 := Lib.hid (show stpOf k ⟨a, b, c0, c1, b0, r0, b1, r1⟩ n = [⟨(k : Int), b, c0, b0, r0⟩] by unfold stpOf; simp [show a = n from ha])
          have hsd := fun w => side_any w a b c0 c1 b0 r0 b1 r1 n
          rw [hs] at hsd
          have HSD := Lib.hid hsd
          clear hs hsd ha hab
          have q0 := restCell HS.out rfl hb (HC.out 0 _ rfl)
          have q1 := restCell HS.out rfl hb (HC.out 1 _ rfl)
          have q2 := restCell HS.out rfl hb (HC.out 2 _ rfl)
          have q3 := restCell HS.out rfl hb (HC.out 3 _ rfl)
          have q4 := restCell HS.out rfl hb (HC.out 4 _ rfl)
          have q5 := restCell HS.out rfl hb (HC.out 5 _ rfl)
          have q6 := restCell HS.out rfl hb (HC.out 6 _ rfl)
          have q7 := restCell HS.out rfl hb (HC.out 7 _ rfl)
          rw [Nat.add_zero] at q0
          have k1 := HS.out.all
          simp only [allFacts, box_facts, row_facts, emp_facts, cellFacts, Nat.zero_add, Nat.reduceAdd, true_and, and_true] at k1
          have h31 := HS.out.alloc #[.int .i64 a, .int .i64 b, .int .u64 c0, .int .u64 c1, .int .u64 b0, .int .u64 r0, .int .u64 b1, .int .u64 r1] 62
          try simp only [List.cons_append, List.nil_append, List.set_cons_succ, List.set_cons_zero, Nat.zero_add, Nat.reduceAdd, World.size_alloc] at h31
          have H31 := Lib.hid h31
          clear h31
          go_wp2_with fail
          refine (HSD.out _).mono ?_
          rintro e w32 ⟨rfl, hb⟩
          clear q0 q1 q2 q3 q4 q5 q6 q7 k1
          have h32 := H31.out.grow hb
          have k32 := h32.all
          simp only [allFacts, box_facts, row_facts, emp_facts, cellFacts, Nat.zero_add, Nat.reduceAdd, true_and, and_true] at k32
          have H32 := Lib.hid h32
          clear hb h32
          go_wp2_with fail
          refine region_any (by kernel_rfl) ?_
          refine any_lastO ⟨by kernel_rfl, by kernel_rfl, by kernel_rfl, by kernel_rfl⟩ ?_
          simp only [initO, lastO]
          refine any_chain (E := [16, 17]) (kn := [true, true, true, true, true, true, true, true, true, true, true, true, true, true, true, true, false, false]) (mask := [true, true, true, true, true, true, true, true, true, true, true, true, true, true, true, true, false, false]) (vs := [?vq0_0_u1, ?vq0_1_u1, ?vq0_2_u1, ?vq0_3_u1, ?vq0_4_u1, ?vq0_5_u1, ?vq0_6_u1, ?vq0_7_u1, ?vq0_8_u1, ?vq0_9_u1, ?vq0_10_u1, ?vq0_11_u1, ?vq0_12_u1, ?vq0_13_u1, ?vq0_14_u1, ?vq0_15_u1, undef, undef]) (S := fun w' => w' = w32.drew) (by kernel_rfl) (by kernel_rfl) (by kernel_rfl) (by kernel_rfl) ?hSq_u1 ?hchq_u1
          case hSq_u1 => exact rfl
          case hchq_u1 =>
            refine chain_cons _ (by kernel_rfl) rfl rfl ?opsq0_u1 ?wantq0_u1 ?effq0_u1
            case opsq0_u1 =>
              simp only [OpsAt, fillT, List.setIfInBounds_toArray, List.set_cons_zero, List.set_cons_succ]
              refine ⟨.inl ⟨by rfl, opOk_pure fun wS hS => ?_⟩, ?_⟩
              · ((subst hS; go_simp; try simp (disch := omega) only [wrap64_id])); try (with_reducible rfl)
              refine ⟨.inl ⟨by rfl, opOk_pure fun wS hS => ?_⟩, ?_⟩
              · ((subst hS; go_simp; try simp (disch := omega) only [wrap64_id])); try (with_reducible rfl)
              refine ⟨.inl ⟨by rfl, opOk_pure fun wS hS => ?_⟩, ?_⟩
              · ((subst hS; go_simp; try simp (disch := omega) only [wrap64_id])); try (with_reducible rfl)
              refine ⟨.inl ⟨by rfl, opOk_pure fun wS hS => ?_⟩, ?_⟩
              · ((subst hS; go_simp; try simp (disch := omega) only [wrap64_id])); try (with_reducible rfl)
              refine ⟨.inl ⟨by rfl, opOk_pure fun wS hS => ?_⟩, ?_⟩
              · ((subst hS; go_simp; try simp (disch := omega) only [wrap64_id])); try (with_reducible rfl)
              refine ⟨.inl ⟨by rfl, opOk_pure fun wS hS => ?_⟩, ?_⟩
              · ((subst hS; go_simp; try simp (disch := omega) only [wrap64_id])); try (with_reducible rfl)
              refine ⟨.inl ⟨by rfl, opOk_pure fun wS hS => ?_⟩, ?_⟩
              · ((subst hS; go_simp; try simp (disch := omega) only [wrap64_id])); try (with_reducible rfl)
              refine ⟨.inl ⟨by rfl, opOk_pure fun wS hS => ?_⟩, ?_⟩
              · ((subst hS; go_simp; try simp (disch := omega) only [wrap64_id])); try (with_reducible rfl)
              refine ⟨.inl ⟨by rfl, opOk_pure fun wS hS => ?_⟩, ?_⟩
              · ((subst hS; go_simp; try simp (disch := omega) only [wrap64_id])); try (with_reducible rfl)
              refine ⟨.inl ⟨by rfl, opOk_pure fun wS hS => ?_⟩, ?_⟩
              · ((subst hS; go_simp; try simp (disch := omega) only [wrap64_id])); try (with_reducible rfl)
              refine ⟨.inl ⟨by rfl, opOk_pure fun wS hS => ?_⟩, ?_⟩
              · ((subst hS; go_simp; try simp (disch := omega) only [wrap64_id])); try (with_reducible rfl)
              refine ⟨.inl ⟨by rfl, opOk_pure fun wS hS => ?_⟩, ?_⟩
              · ((subst hS; go_simp; try simp (disch := omega) only [wrap64_id])); try (with_reducible rfl)
              refine ⟨.inl ⟨by rfl, opOk_pure fun wS hS => ?_⟩, ?_⟩
              · ((subst hS; go_simp; try simp (disch := omega) only [wrap64_id])); try (with_reducible rfl)
              refine ⟨.inl ⟨by rfl, opOk_pure fun wS hS => ?_⟩, ?_⟩
              · ((subst hS; go_simp; try simp (disch := omega) only [wrap64_id])); try (with_reducible rfl)
              refine ⟨.inl ⟨by rfl, opOk_pure fun wS hS => ?_⟩, ?_⟩
              · ((subst hS; go_simp; try simp (disch := omega) only [wrap64_id])); try (with_reducible rfl)
              refine ⟨.inl ⟨by rfl, opOk_pure fun wS hS => ?_⟩, ?_⟩
              · ((subst hS; go_simp; try simp (disch := omega) only [wrap64_id])); try (with_reducible rfl)
              try trivial
            case wantq0_u1 => (try simp only [fillT, List.setIfInBounds_toArray, List.set_cons_zero, List.set_cons_succ]) <;> rfl
            case effq0_u1 =>
              intro wS hS
              simp only [fillT, List.setIfInBounds_toArray, List.set_cons_zero, List.set_cons_succ]
              rw [hS]
              refine eff_run (w' := w32.drew.alloc (.cells #[.int .i64 (k : Int), .int .i64 b, .int .u64 c0, .int .u64 b0, .int .u64 r0] 133)) (by go_simp; try rfl) ?_
              have h3 := H32.out.drew.alloc #[.int .i64 (k : Int), .int .i64 b, .int .u64 c0, .int .u64 b0, .int .u64 r0] 133
              try simp only [List.cons_append, List.nil_append, List.set_cons_succ, List.set_cons_zero, Nat.zero_add, Nat.reduceAdd, World.size_alloc] at h3
              have H3 := Lib.hid h3
              clear h3
              refine ⟨_, [true, true, true, true, true, true, true, true, true, true, true, true, true, true, true, true, true, false], [true, false, false, false, false, false, false, false, false, false, false, false, false, false, false, false, false, false], [15, 1, 6, 10, 14, 5, 9, 13, 4, 3, 8, 7, 12, 11, 2], [?vq1_0_u1, ?vq1_1_u1, ?vq1_2_u1, ?vq1_3_u1, ?vq1_4_u1, ?vq1_5_u1, ?vq1_6_u1, ?vq1_7_u1, ?vq1_8_u1, ?vq1_9_u1, ?vq1_10_u1, ?vq1_11_u1, ?vq1_12_u1, ?vq1_13_u1, ?vq1_14_u1, ?vq1_15_u1, (.slice (some ⟨w32.drew.heap.size, 0, none⟩) 1 1), undef], fun w' => w' = w32.drew.alloc (.cells #[.int .i64 (k : Int), .int .i64 b, .int .u64 c0, .int .u64 b0, .int .u64 r0] 133), rfl, rfl, ?sameq0_u1, by kernel_rfl, ?hSq0_u1, ?nxq0_u1⟩
              case sameq0_u1 =>
                refine And.intro ?_ ?_
                · with_reducible rfl
                refine And.intro ?_ ?_
                · with_reducible rfl
                refine And.intro ?_ ?_
                · with_reducible rfl
                refine And.intro ?_ ?_
                · with_reducible rfl
                refine And.intro ?_ ?_
                · with_reducible rfl
                refine And.intro ?_ ?_
                · with_reducible rfl
                refine And.intro ?_ ?_
                · with_reducible rfl
                refine And.intro ?_ ?_
                · with_reducible rfl
                refine And.intro ?_ ?_
                · with_reducible rfl
                refine And.intro ?_ ?_
                · with_reducible rfl
                refine And.intro ?_ ?_
                · with_reducible rfl
                refine And.intro ?_ ?_
                · with_reducible rfl
                refine And.intro ?_ ?_
                · with_reducible rfl
                refine And.intro ?_ ?_
                · with_reducible rfl
                refine And.intro ?_ ?_
                · with_reducible rfl
                refine And.intro ?_ ?_
                · with_reducible rfl
                trivial
              case hSq0_u1 => rfl
              case nxq0_u1 =>
                refine chain_cons _ (by kernel_rfl) rfl rfl ?opsq1_u1 ?wantq1_u1 ?effq1_u1
                case opsq1_u1 =>
                  simp only [OpsAt, fillT, List.setIfInBounds_toArray, List.set_cons_zero, List.set_cons_succ]
                  refine ⟨.inl ⟨by rfl, opOk_pure fun wS hS => ?_⟩, ?_⟩
                  · ((subst hS; go_simp; try simp (disch := omega) only [wrap64_id])); try (with_reducible rfl)
                  try trivial
                case wantq1_u1 => (try simp only [fillT, List.setIfInBounds_toArray, List.set_cons_zero, List.set_cons_succ]) <;> rfl
                case effq1_u1 =>
                  intro wS hS
                  simp only [fillT, List.setIfInBounds_toArray, List.set_cons_zero, List.set_cons_succ]
                  rw [hS]
                  refine wp_append_sat _ _ 131 rfl H3.out 2 133 (.agg #[.int .i64 0, .int .i64 0, .int .u64 0, .int .u64 0, .int .u64 0]) 5 40 Try.underlying131 info_st rfl (by decide) (.slice A' ls.length c') ls.length (ls.flatMap stC) ?a0_u1 rfl (some ⟨_, 0, none⟩) 1 1 [.int .i64 (k : Int), .int .i64 b, .int .u64 c0, .int .u64 b0, .int .u64 r0] ?a1_u1 (fun h => by cases h) ?a2_u1 (box_src H3.out (i := 4) rfl) ?a3_u1 ?a4_u1 ?a5_u1 ?a6_u1
                  try (case a0_u1 => go_simp)
                  try (case a1_u1 => go_simp)
                  try (case a2_u1 => rfl)
                  case a3_u1 => (intro u hu; simp at hu; rcases hu with rfl | rfl | rfl | rfl | rfl <;> rfl)
                  case a4_u1 => unfold maxLen; omega
                  case a5_u1 => omega
                  case a6_u1 =>
                    intro A2 c2 w3 h4 hA2 hg2
                    try simp only [List.cons_append, List.nil_append, List.set_cons_succ, List.set_cons_zero, Nat.zero_add, Nat.reduceAdd, World.size_alloc] at h4
                    rw [st_snoc, len_snoc ls (k : Int) b c0 b0 r0] at h4
                    rw [len_snoc ls (k : Int) b c0 b0 r0]
                    have h5 := h4.left (l := [_, _, _]) (l' := [_, _])
                    have k5 := h5.all
                    simp only [allFacts, box_facts, row_facts, emp_facts, cellFacts, Nat.zero_add, Nat.reduceAdd, true_and, and_true] at k5
                    have H5 := Lib.hid h5
                    clear h4 h5 hA2 hg2
                    refine ⟨_, [true, true, true, true, true, true, true, true, true, true, true, true, true, true, true, true, true, true], [false, false, false, false, false, false, false, false, false, false, false, false, false, false, false, false, false, false], [0], [?vq2_0_u1, ?vq2_1_u1, ?vq2_2_u1, ?vq2_3_u1, ?vq2_4_u1, ?vq2_5_u1, ?vq2_6_u1, ?vq2_7_u1, ?vq2_8_u1, ?vq2_9_u1, ?vq2_10_u1, ?vq2_11_u1, ?vq2_12_u1, ?vq2_13_u1, ?vq2_14_u1, ?vq2_15_u1, (.slice (some ⟨w32.drew.heap.size, 0, none⟩) 1 1), (.slice A2 (ls ++ [(⟨(k : Int), b, c0, b0, r0⟩ : Stp)]).length c2)], fun w' => w' = w3, rfl, rfl, ?sameq1_u1, by kernel_rfl, ?hSq1_u1, ?nxq1_u1⟩
                    case sameq1_u1 =>
                      refine And.intro ?_ ?_
                      · with_reducible rfl
                      refine And.intro ?_ ?_
                      · with_reducible rfl
                      refine And.intro ?_ ?_
                      · with_reducible rfl
                      refine And.intro ?_ ?_
                      · with_reducible rfl
                      refine And.intro ?_ ?_
                      · with_reducible rfl
                      refine And.intro ?_ ?_
                      · with_reducible rfl
                      refine And.intro ?_ ?_
                      · with_reducible rfl
                      refine And.intro ?_ ?_
                      · with_reducible rfl
                      refine And.intro ?_ ?_
                      · with_reducible rfl
                      refine And.intro ?_ ?_
                      · with_reducible rfl
                      refine And.intro ?_ ?_
                      · with_reducible rfl
                      refine And.intro ?_ ?_
                      · with_reducible rfl
                      refine And.intro ?_ ?_
                      · with_reducible rfl
                      refine And.intro ?_ ?_
                      · with_reducible rfl
                      refine And.intro ?_ ?_
                      · with_reducible rfl
                      refine And.intro ?_ ?_
                      · with_reducible rfl
                      refine And.intro ?_ ?_
                      · with_reducible rfl
                      trivial
                    case hSq1_u1 => rfl
                    case nxq1_u1 =>
                      refine chain_nil (by kernel_rfl) rfl ?opsq2_u1 ?endq2_u1
                      case opsq2_u1 =>
                        simp only [OpsAt, fillT, List.setIfInBounds_toArray, List.set_cons_zero, List.set_cons_succ]
                        try trivial
                      case endq2_u1 =>
                        intro wE hE
                        simp only [fillT, List.setIfInBounds_toArray, List.set_cons_zero, List.set_cons_succ]
                        refine ⟨rfl, last_pure (v := (.slice A2 (ls ++ [(⟨(k : Int), b, c0, b0, r0⟩ : Stp)]).length c2)) (by go_simp; try rfl) ?_⟩
                        simp only [Act.put, List.setIfInBounds_toArray, List.set_cons_zero, List.set_cons_succ]
                        rw [hE]
                        clear k5
                        go_wp2
                        go_roundw
                        case rel => exact ⟨k + 1, A2, c2, by omega, by go_num, by rw [HSN.out, show stpOf k ⟨a, b, c0, c1, b0, r0, b1, r1⟩ n = [⟨(k : Int), b, c0, b0, r0⟩] from Z1.out] <;> simp, by rw [HSN.out, show stpOf k ⟨a, b, c0, c1, b0, r0, b1, r1⟩ n = [⟨(k : Int), b, c0, b0, r0⟩] from Z1.out]; exact H5.out⟩
                        case measure => (simp [intOf]; try omega)
        · have Z1 := Lib.hid (show stpOf k ⟨a, b, c0, c1, b0, r0, b1, r1⟩ n = [⟨(k : Int), a, c1, b1, r1⟩] by unfold stpOf; simp [show a ≠ n from ha, show b = n from hb1])
          have hsd := fun w => side_any w a b c0 c1 b0 r0 b1 r1 n
          rw [hs] at hsd
          have HSD := Lib.hid hsd
          clear hs hsd ha hab hb1
          have q0 := restCell HS.out rfl hb (HC.out 0 _ rfl)
          have q1 := restCell HS.out rfl hb (HC.out 1 _ rfl)
          have q2 := restCell HS.out rfl hb (HC.out 2 _ rfl)
          have q3 := restCell HS.out rfl hb (HC.out 3 _ rfl)
          have q4 := restCell HS.out rfl hb (HC.out 4 _ rfl)
          have q5 := restCell HS.out rfl hb (HC.out 5 _ rfl)
          have q6 := restCell HS.out rfl hb (HC.out 6 _ rfl)
          have q7 := restCell HS.out rfl hb (HC.out 7 _ rfl)
          rw [Nat.add_zero] at q0
          have k1 := HS.out.all
          simp only [allFacts, box_facts, row_facts, emp_facts, cellFacts, Nat.zero_add, Nat.reduceAdd, true_and, and_true] at k1
          have h31 := HS.out.alloc #[.int .i64 a, .int .i64 b, .int .u64 c0, .int .u64 c1, .int .u64 b0, .int .u64 r0, .int .u64 b1, .int .u64 r1] 62
          try simp only [List.cons_append, List.nil_append, List.set_cons_succ, List.set_cons_zero, Nat.zero_add, Nat.reduceAdd, World.size_alloc] at h31
          have H31 := Lib.hid h31
          clear h31
          go_wp2_with fail
          refine (HSD.out _).mono ?_
          rintro e w32 ⟨rfl, hb⟩
          clear q0 q1 q2 q3 q4 q5 q6 q7 k1
          have h32 := H31.out.grow hb
          have k32 := h32.all
          simp only [allFacts, box_facts, row_facts, emp_facts, cellFacts, Nat.zero_add, Nat.reduceAdd, true_and, and_true] at k32
          have H32 := Lib.hid h32
          clear hb h32
          go_wp2_with fail
          refine region_any (by kernel_rfl) ?_
          refine any_lastO ⟨by kernel_rfl, by kernel_rfl, by kernel_rfl, by kernel_rfl⟩ ?_
          simp only [initO, lastO]
          refine any_chain (E := [16, 17]) (kn := [true, true, true, true, true, true, true, true, true, true, true, true, true, true, true, true, false, false]) (mask := [true, true, true, true, true, true, true, true, true, true, true, true, true, true, true, true, false, false]) (vs := [?vq0_0_u2, ?vq0_1_u2, ?vq0_2_u2, ?vq0_3_u2, ?vq0_4_u2, ?vq0_5_u2, ?vq0_6_u2, ?vq0_7_u2, ?vq0_8_u2, ?vq0_9_u2, ?vq0_10_u2, ?vq0_11_u2, ?vq0_12_u2, ?vq0_13_u2, ?vq0_14_u2, ?vq0_15_u2, undef, undef]) (S := fun w' => w' = w32.drew) (by kernel_rfl) (by kernel_rfl) (by kernel_rfl) (by kernel_rfl) ?hSq_u2 ?hchq_u2
          case hSq_u2 => exact rfl
          case hchq_u2 =>
            refine chain_cons _ (by kernel_rfl) rfl rfl ?opsq0_u2 ?wantq0_u2 ?effq0_u2
            case opsq0_u2 =>
              simp only [OpsAt, fillT, List.setIfInBounds_toArray, List.set_cons_zero, List.set_cons_succ]
              refine ⟨.inl ⟨by rfl, opOk_pure fun wS hS => ?_⟩, ?_⟩
              · ((subst hS; go_simp; try simp (disch := omega) only [wrap64_id])); try (with_reducible rfl)
              refine ⟨.inl ⟨by rfl, opOk_pure fun wS hS => ?_⟩, ?_⟩
              · ((subst hS; go_simp; try simp (disch := omega) only [wrap64_id])); try (with_reducible rfl)
              refine ⟨.inl ⟨by rfl, opOk_pure fun wS hS => ?_⟩, ?_⟩
              · ((subst hS; go_simp; try simp (disch := omega) only [wrap64_id])); try (with_reducible rfl)
              refine ⟨.inl ⟨by rfl, opOk_pure fun wS hS => ?_⟩, ?_⟩
              · ((subst hS; go_simp; try simp (disch := omega) only [wrap64_id])); try (with_reducible rfl)
              refine ⟨.inl ⟨by rfl, opOk_pure fun wS hS => ?_⟩, ?_⟩
              · ((subst hS; go_simp; try simp (disch := omega) only [wrap64_id])); try (with_reducible rfl)
              refine ⟨.inl ⟨by rfl, opOk_pure fun wS hS => ?_⟩, ?_⟩
              · ((subst hS; go_simp; try simp (disch := omega) only [wrap64_id])); try (with_reducible rfl)
              refine ⟨.inl ⟨by rfl, opOk_pure fun wS hS => ?_⟩, ?_⟩
              · ((subst hS; go_simp; try simp (disch := omega) only [wrap64_id])); try (with_reducible rfl)
              refine ⟨.inl ⟨by rfl, opOk_pure fun wS hS => ?_⟩, ?_⟩
              · ((subst hS; go_simp; try simp (disch := omega) only [wrap64_id])); try (with_reducible rfl)
              refine ⟨.inl ⟨by rfl, opOk_pure fun wS hS => ?_⟩, ?_⟩
              · ((subst hS; go_simp; try simp (disch := omega) only [wrap64_id])); try (with_reducible rfl)
              refine ⟨.inl ⟨by rfl, opOk_pure fun wS hS => ?_⟩, ?_⟩
              · ((subst hS; go_simp; try simp (disch := omega) only [wrap64_id])); try (with_reducible rfl)
              refine ⟨.inl ⟨by rfl, opOk_pure fun wS hS => ?_⟩, ?_⟩
              · ((subst hS; go_simp; try simp (disch := omega) only [wrap64_id])); try (with_reducible rfl)
              refine ⟨.inl ⟨by rfl, opOk_pure fun wS hS => ?_⟩, ?_⟩
              · ((subst hS; go_simp; try simp (disch := omega) only [wrap64_id])); try (with_reducible rfl)
              refine ⟨.inl ⟨by rfl, opOk_pure fun wS hS => ?_⟩, ?_⟩
              · ((subst hS; go_simp; try simp (disch := omega) only [wrap64_id])); try (with_reducible rfl)
              refine ⟨.inl ⟨by rfl, opOk_pure fun wS hS => ?_⟩, ?_⟩
              · ((subst hS; go_simp; try simp (disch := omega) only [wrap64_id])); try (with_reducible rfl)
              refine ⟨.inl ⟨by rfl, opOk_pure fun wS hS => ?_⟩, ?_⟩
              · ((subst hS; go_simp; try simp (disch := omega) only [wrap64_id])); try (with_reducible rfl)
              refine ⟨.inl ⟨by rfl, opOk_pure fun wS hS => ?_⟩, ?_⟩
              · ((subst hS; go_simp; try simp (disch := omega) only [wrap64_id])); try (with_reducible rfl)
              try trivial
            case wantq0_u2 => (try simp only [fillT, List.setIfInBounds_toArray, List.set_cons_zero, List.set_cons_succ]) <;> rfl
            case effq0_u2 =>
              intro wS hS
              simp only [fillT, List.setIfInBounds_toArray, List.set_cons_zero, List.set_cons_succ]
              rw [hS]
              refine eff_run (w' := w32.drew.alloc (.cells #[.int .i64 (k : Int), .int .i64 a, .int .u64 c1, .int .u64 b1, .int .u64 r1] 133)) (by go_simp; try rfl) ?_
              have h3 := H32.out.drew.alloc #[.int .i64 (k : Int), .int .i64 a, .int .u64 c1, .int .u64 b1, .int .u64 r1] 133
              try simp only [List.cons_append, List.nil_append, List.set_cons_succ, List.set_cons_zero, Nat.zero_add, Nat.reduceAdd, World.size_alloc] at h3
              have H3 := Lib.hid h3
              clear h3
              refine ⟨_, [true, true, true, true, true, true, true, true, true, true, true, true, true, true, true, true, true, false], [true, false, false, false, false, false, false, false, false, false, false, false, false, false, false, false, false, false], [15, 1, 6, 10, 14, 5, 9, 13, 4, 3, 8, 7, 12, 11, 2], [?vq1_0_u2, ?vq1_1_u2, ?vq1_2_u2, ?vq1_3_u2, ?vq1_4_u2, ?vq1_5_u2, ?vq1_6_u2, ?vq1_7_u2, ?vq1_8_u2, ?vq1_9_u2, ?vq1_10_u2, ?vq1_11_u2, ?vq1_12_u2, ?vq1_13_u2, ?vq1_14_u2, ?vq1_15_u2, (.slice (some ⟨w32.drew.heap.size, 0, none⟩) 1 1), undef], fun w' => w' = w32.drew.alloc (.cells #[.int .i64 (k : Int), .int .i64 a, .int .u64 c1, .int .u64 b1, .int .u64 r1] 133), rfl, rfl, ?sameq0_u2, by kernel_rfl, ?hSq0_u2, ?nxq0_u2⟩
              case sameq0_u2 =>
                refine And.intro ?_ ?_
                · with_reducible rfl
                refine And.intro ?_ ?_
                · with_reducible rfl
                refine And.intro ?_ ?_
                · with_reducible rfl
                refine And.intro ?_ ?_
                · with_reducible rfl
                refine And.intro ?_ ?_
                · with_reducible rfl
                refine And.intro ?_ ?_
                · with_reducible rfl
                refine And.intro ?_ ?_
                · with_reducible rfl
                refine And.intro ?_ ?_
                · with_reducible rfl
                refine And.intro ?_ ?_
                · with_reducible rfl
                refine And.intro ?_ ?_
                · with_reducible rfl
                refine And.intro ?_ ?_
                · with_reducible rfl
                refine And.intro ?_ ?_
                · with_reducible rfl
                refine And.intro ?_ ?_
                · with_reducible rfl
                refine And.intro ?_ ?_
                · with_reducible rfl
                refine And.intro ?_ ?_
                · with_reducible rfl
                refine And.intro ?_ ?_
                · with_reducible rfl
                trivial
              case hSq0_u2 => rfl
              case nxq0_u2 =>
                refine chain_cons _ (by kernel_rfl) rfl rfl ?opsq1_u2 ?wantq1_u2 ?effq1_u2
                case opsq1_u2 =>
                  simp only [OpsAt, fillT, List.setIfInBounds_toArray, List.set_cons_zero, List.set_cons_succ]
                  refine ⟨.inl ⟨by rfl, opOk_pure fun wS hS => ?_⟩, ?_⟩
                  · ((subst hS; go_simp; try simp (disch := omega) only [wrap64_id])); try (with_reducible rfl)
                  try trivial
                case wantq1_u2 => (try simp only [fillT, List.setIfInBounds_toArray, List.set_cons_zero, List.set_cons_succ]) <;> rfl
                case effq1_u2 =>
                  intro wS hS
                  simp only [fillT, List.setIfInBounds_toArray, List.set_cons_zero, List.set_cons_succ]
                  rw [hS]
                  refine wp_append_sat _ _ 131 rfl H3.out 2 133 (.agg #[.int .i64 0, .int .i64 0, .int .u64 0, .int .u64 0, .int .u64 0]) 5 40 Try.underlying131 info_st rfl (by decide) (.slice A' ls.length c') ls.length (ls.flatMap stC) ?a0_u2 rfl (some ⟨_, 0, none⟩) 1 1 [.int .i64 (k : Int), .int .i64 a, .int .u64 c1, .int .u64 b1, .int .u64 r1] ?a1_u2 (fun h => by cases h) ?a2_u2 (box_src H3.out (i := 4) rfl) ?a3_u2 ?a4_u2 ?a5_u2 ?a6_u2
                  try (case a0_u2 => go_simp)
                  try (case a1_u2 => go_simp)
                  try (case a2_u2 => rfl)
                  case a3_u2 => (intro u hu; simp at hu; rcases hu with rfl | rfl | rfl | rfl | rfl <;> rfl)
                  case a4_u2 => unfold maxLen; omega
                  case a5_u2 => omega
                  case a6_u2 =>
                    intro A2 c2 w3 h4 hA2 hg2
                    try simp only [List.cons_append, List.nil_append, List.set_cons_succ, List.set_cons_zero, Nat.zero_add, Nat.reduceAdd, World.size_alloc] at h4
                    rw [st_snoc, len_snoc ls (k : Int) a c1 b1 r1] at h4
                    rw [len_snoc ls (k : Int) a c1 b1 r1]
                    have h5 := h4.left (l := [_, _, _]) (l' := [_, _])
                    have k5 := h5.all
                    simp only [allFacts, box_facts, row_facts, emp_facts, cellFacts, Nat.zero_add, Nat.reduceAdd, true_and, and_true] at k5
                    have H5 := Lib.hid h5
                    clear h4 h5 hA2 hg2
                    refine ⟨_, [true, true, true, true, true, true, true, true, true, true, true, true, true, true, true, true, true, true], [false, false, false, false, false, false, false, false, false, false, false, false, false, false, false, false, false, false], [0], [?vq2_0_u2, ?vq2_1_u2, ?vq2_2_u2, ?vq2_3_u2, ?vq2_4_u2, ?vq2_5_u2, ?vq2_6_u2, ?vq2_7_u2, ?vq2_8_u2, ?vq2_9_u2, ?vq2_10_u2, ?vq2_11_u2, ?vq2_12_u2, ?vq2_13_u2, ?vq2_14_u2, ?vq2_15_u2, (.slice (some ⟨w32.drew.heap.size, 0, none⟩) 1 1), (.slice A2 (ls ++ [(⟨(k : Int), a, c1, b1, r1⟩ : Stp)]).length c2)], fun w' => w' = w3, rfl, rfl, ?sameq1_u2, by kernel_rfl, ?hSq1_u2, ?nxq1_u2⟩
                    case sameq1_u2 =>
                      refine And.intro ?_ ?_
                      · with_reducible rfl
                      refine And.intro ?_ ?_
                      · with_reducible rfl
                      refine And.intro ?_ ?_
                      · with_reducible rfl
                      refine And.intro ?_ ?_
                      · with_reducible rfl
                      refine And.intro ?_ ?_
                      · with_reducible rfl
                      refine And.intro ?_ ?_
                      · with_reducible rfl
                      refine And.intro ?_ ?_
                      · with_reducible rfl
                      refine And.intro ?_ ?_
                      · with_reducible rfl
                      refine And.intro ?_ ?_
                      · with_reducible rfl
                      refine And.intro ?_ ?_
                      · with_reducible rfl
                      refine And.intro ?_ ?_
                      · with_reducible rfl
                      refine And.intro ?_ ?_
                      · with_reducible rfl
                      refine And.intro ?_ ?_
                      · with_reducible rfl
                      refine And.intro ?_ ?_
                      · with_reducible rfl
                      refine And.intro ?_ ?_
                      · with_reducible rfl
                      refine And.intro ?_ ?_
                      · with_reducible rfl
                      refine And.intro ?_ ?_
                      · with_reducible rfl
                      trivial
                    case hSq1_u2 => rfl
                    case nxq1_u2 =>
                      refine chain_nil (by kernel_rfl) rfl ?opsq2_u2 ?endq2_u2
                      case opsq2_u2 =>
                        simp only [OpsAt, fillT, List.setIfInBounds_toArray, List.set_cons_zero, List.set_cons_succ]
                        try trivial
                      case endq2_u2 =>
                        intro wE hE
                        simp only [fillT, List.setIfInBounds_toArray, List.set_cons_zero, List.set_cons_succ]
                        refine ⟨rfl, last_pure (v := (.slice A2 (ls ++ [(⟨(k : Int), a, c1, b1, r1⟩ : Stp)]).length c2)) (by go_simp; try rfl) ?_⟩
                        simp only [Act.put, List.setIfInBounds_toArray, List.set_cons_zero, List.set_cons_succ]
                        rw [hE]
                        clear k5
                        go_wp2
                        go_roundw
                        case rel => exact ⟨k + 1, A2, c2, by omega, by go_num, by rw [HSN.out, show stpOf k ⟨a, b, c0, c1, b0, r0, b1, r1⟩ n = [⟨(k : Int), a, c1, b1, r1⟩] from Z1.out] <;> simp, by rw [HSN.out, show stpOf k ⟨a, b, c0, c1, b0, r0, b1, r1⟩ n = [⟨(k : Int), a, c1, b1, r1⟩] from Z1.out]; exact H5.out⟩
                        case measure => (simp [intOf]; try omega)
        · have Z1 := Lib.hid (show stpOf k ⟨a, b, c0, c1, b0, r0, b1, r1⟩ n = [] by unfold stpOf; simp [show a ≠ n from ha, show b ≠ n from hb1])
          have hsd := fun w => side_any w a b c0 c1 b0 r0 b1 r1 n
          rw [hs] at hsd
          have HSD := Lib.hid hsd
          clear hs hsd ha hab hb1
          have q0 := restCell HS.out rfl hb (HC.out 0 _ rfl)
          have q1 := restCell HS.out rfl hb (HC.out 1 _ rfl)
          have q2 := restCell HS.out rfl hb (HC.out 2 _ rfl)
          have q3 := restCell HS.out rfl hb (HC.out 3 _ rfl)
          have q4 := restCell HS.out rfl hb (HC.out 4 _ rfl)
          have q5 := restCell HS.out rfl hb (HC.out 5 _ rfl)
          have q6 := restCell HS.out rfl hb (HC.out 6 _ rfl)
          have q7 := restCell HS.out rfl hb (HC.out 7 _ rfl)
          rw [Nat.add_zero] at q0
          have k1 := HS.out.all
          simp only [allFacts, box_facts, row_facts, emp_facts, cellFacts, Nat.zero_add, Nat.reduceAdd, true_and, and_true] at k1
          have h31 := HS.out.alloc #[.int .i64 a, .int .i64 b, .int .u64 c0, .int .u64 c1, .int .u64 b0, .int .u64 r0, .int .u64 b1, .int .u64 r1] 62
          try simp only [List.cons_append, List.nil_append, List.set_cons_succ, List.set_cons_zero, Nat.zero_add, Nat.reduceAdd, World.size_alloc] at h31
          have H31 := Lib.hid h31
          clear h31
          go_wp2_with fail
          refine (HSD.out _).mono ?_
          rintro e w32 ⟨rfl, hb⟩
          clear q0 q1 q2 q3 q4 q5 q6 q7 k1
          have h32 := H31.out.grow hb
          have k32 := h32.all
          simp only [allFacts, box_facts, row_facts, emp_facts, cellFacts, Nat.zero_add, Nat.reduceAdd, true_and, and_true] at k32
          have H32 := Lib.hid h32
          clear hb h32
          clear k32
          have h8 := H32.out.left (l := [_, _, _]) (l' := [_])
          have H8 := Lib.hid h8
          clear h8
          go_wp2
          go_roundw
          case rel => exact ⟨k + 1, A', c', by omega, by go_num, by rw [HSN.out, show stpOf k ⟨a, b, c0, c1, b0, r0, b1, r1⟩ n = [] from Z1.out, List.append_nil], by rw [HSN.out, show stpOf k ⟨a, b, c0, c1, b0, r0, b1, r1⟩ n = [] from Z1.out, List.append_nil]; exact H8.out⟩
          case measure => (simp [intOf]; try omega)
      · obtain rfl : k = x.edges.length := by omega
        have k1 := HS.out.all
        simp only [allFacts, box_facts, row_facts, emp_facts, cellFacts, Nat.zero_add, Nat.reduceAdd, true_and, and_true] at k1
        have h8 := HS.out.pick [0, 2] (by decide)
        simp only [List.filterMap_cons, List.filterMap_nil, List.getElem?_cons_zero, List.getElem?_cons_succ, List.take_length] at h8
        rw [List.take_length]
        have H8 := Lib.hid h8
        clear h8
        go_wp2
        go_ret
        exact ⟨A', c', ret_sl (by rw [HZ.out]) rfl, by rw [HZ.out]; exact H8.out⟩
  · have HZ := Lib.hid (show stepsP x n = [] from if_neg hz)
    obtain ⟨v, hv⟩ : ∃ v, chkP x = v := ⟨_, rfl⟩
    rw [hv] at hck hz
    have d1 : (v == 0) = false := beq_eq_false_iff_ne.2 hz
    have d2 : (v != 0) = true := by simp [hz]
    have HCK := Lib.hid hck
    clear hck hz hv
    go_enter Try.func70, Try.ntmps70
    go_wp2_with fail
    refine (HCK.out).mono ?_
    rintro e w2 ⟨rfl, hb⟩
    have h2 := H1.out.grow hb
    have H2 := Lib.hid h2
    clear hb h2
    have h8 := (H2.out.left (l := [_]) (l' := [_])).nilRow 133 5
    try simp only [List.cons_append, List.nil_append, List.set_cons_succ, List.set_cons_zero, Nat.zero_add, Nat.reduceAdd, World.size_alloc] at h8
    have H8 := Lib.hid h8
    clear h8
    go_wp2
    go_ret
    exact ⟨none, 0, ret_sl (by rw [HZ.out]; rfl) rfl, by rw [HZ.out]; exact H8.out⟩
set_option maxRecDepth 100000 in
set_option maxHeartbeats 2000000 in
theorem rsteps_any (w : World) (As : Option Addr) (cs : Nat) (Ae : Option Addr) (ce : Nat) (x : Wb) (h : WebAt w As cs Ae ce x) (ok : x.Ok) (n : Int) : Calls Try.prog 65 #[.agg #[.slice As x.spots.length cs, .slice Ae x.edges.length ce], .int .i64 n] w fun e w' => ∃ A' c', e = .returned (.slice A' (stepsP x n).length c') ∧ Sat w w' [rest w (· < w.heap.size), row 126 5 (.slice A' (stepsP x n).length c') (stepsP x n).length ((stepsP x n).flatMap stC)] := by
  have h1 := (Sat.pushRest w).alloc #[.slice As x.spots.length cs, .slice Ae x.edges.length ce] 25
  try simp only [List.cons_append, List.nil_append, List.set_cons_succ, List.set_cons_zero, Nat.zero_add, Nat.reduceAdd, World.size_alloc] at h1
  have hck := rcheck_any _ As cs Ae ce x (h.move h1 rfl) ok
  have HW := Lib.hid h
  have H1 := Lib.hid h1
  clear h h1
  rcases (show chkP x = 0 ∨ chkP x ≠ 0 by omega) with hz | hz
  · obtain ⟨z1, z2, z3⟩ := chk_zero hz
    have HZ := Lib.hid (show stepsP x n = stepsF n 0 x.edges from if_pos hz)
    rw [hz] at hck
    have HCK := Lib.hid hck
    have HB := Lib.hid z3
    clear hck hz z3
    go_enter Try.func65, Try.ntmps65
    go_wp2_with fail
    refine (HCK.out).mono ?_
    rintro e w2 ⟨rfl, hb⟩
    have h2 := H1.out.grow hb
    have k2 := h2.all
    simp only [allFacts, box_facts, row_facts, emp_facts, cellFacts, Nat.zero_add, Nat.reduceAdd, true_and, and_true] at k2
    have H2 := Lib.hid h2
    clear hb h2
    have h9 := H2.out.nilRow 126 5
    try simp only [List.cons_append, List.nil_append, List.set_cons_succ, List.set_cons_zero, Nat.zero_add, Nat.reduceAdd, World.size_alloc] at h9
    have H9 := Lib.hid h9
    clear h9
    go_wp2
    clear k2
    go_loopw [5, 6] (fun v i wr => ∃ (k : Nat) (A' : Option Addr) (c' : Nat), k ≤ x.edges.length ∧ i = .int .i64 k ∧ v = .slice A' (stepsF n 0 (x.edges.take k)).length c' ∧ Sat w wr [rest w (· < w.heap.size), box w.heap.size 25 [.slice As x.spots.length cs, .slice Ae x.edges.length ce], row 126 5 (.slice A' (stepsF n 0 (x.edges.take k)).length c') (stepsF n 0 (x.edges.take k)).length ((stepsF n 0 (x.edges.take k)).flatMap stC)]) (fun _ i _ => x.edges.length - (intOf i).toNat)
    case atStart => exact ⟨0, none, 0, Nat.zero_le _, rfl, rfl, H9.out⟩
    case round =>
      obtain ⟨k, A', c', hk, rfl, rfl, hS⟩ := hrel
      clear H9
      have HS := Lib.hid hS
      clear hS
      by_cases hlt : k < x.edges.length
      · obtain ⟨g, off, rfl, hb, hc⟩ := HW.out.e.at edC_len (by decide) hlt
        have hsn := stepsF_snoc n hlt
        have hnb := HB.out x.edges[k] (List.getElem_mem hlt)
        generalize hed : x.edges[k] = ed at *
        obtain ⟨a, b, c0, c1, b0, r0, b1, r1⟩ := ed
        try dsimp only at hnb
        have HC := Lib.hid hc
        clear hed hc
        have hab : a ≠ b := fun h => hnb (.inr (.inr (.inr (.inr h))))
        have hml : (stepsF n 0 (x.edges.take k)).length ≤ 16 := by have := stepsF_len n (x.edges.take k) 0; simp at this; omega
        generalize stepsF n 0 (x.edges.take k) = ls at *
        clear hnb
        have HSN := Lib.hid hsn
        clear hsn
        rcases side_cases ⟨a, b, c0, c1, b0, r0, b1, r1⟩ n with ⟨hs, ha⟩ | ⟨hs, hb1, ha⟩ | ⟨hs, ha, hb1⟩
        · have Z1 := Lib.hid (show stpOf k ⟨a, b, c0, c1, b0, r0, b1, r1⟩ n = [⟨(k : Int), b, c0, b0, r0⟩] by unfold stpOf; simp [show a = n from ha])
          clear hs
          have d1 : (a == n) = true := by simpa using ha
          have d2 : (b == n) = false := beq_eq_false_iff_ne.2 (fun h => hab ((show a = n from ha).trans h.symm))
          clear ha hab
          have q0 := restCell HS.out rfl hb (HC.out 0 _ rfl)
          have q1 := restCell HS.out rfl hb (HC.out 1 _ rfl)
          have q2 := restCell HS.out rfl hb (HC.out 2 _ rfl)
          have q3 := restCell HS.out rfl hb (HC.out 3 _ rfl)
          have q4 := restCell HS.out rfl hb (HC.out 4 _ rfl)
          have q5 := restCell HS.out rfl hb (HC.out 5 _ rfl)
          have q6 := restCell HS.out rfl hb (HC.out 6 _ rfl)
          have q7 := restCell HS.out rfl hb (HC.out 7 _ rfl)
          rw [Nat.add_zero] at q0
          have k1 := HS.out.all
          simp only [allFacts, box_facts, row_facts, emp_facts, cellFacts, Nat.zero_add, Nat.reduceAdd, true_and, and_true] at k1
          go_wp2
          refine wp_loop_rounds 3 ?_
          rw [rounds_succ]
          go_wp2_with fail
          refine region_any (by kernel_rfl) ?_
          refine any_lastO ⟨by kernel_rfl, by kernel_rfl, by kernel_rfl, by kernel_rfl⟩ ?_
          simp only [initO, lastO]
          refine any_chain (E := [28, 29]) (kn := [true, true, true, true, true, true, true, true, true, true, true, true, true, true, true, true, true, true, true, true, true, true, true, true, true, true, true, true, false, false]) (mask := [true, true, true, true, true, true, true, true, true, true, true, true, true, true, true, true, true, true, true, true, true, true, true, true, true, true, true, true, false, false]) (vs := [?vq0_0_u3, ?vq0_1_u3, ?vq0_2_u3, ?vq0_3_u3, ?vq0_4_u3, ?vq0_5_u3, ?vq0_6_u3, ?vq0_7_u3, ?vq0_8_u3, ?vq0_9_u3, ?vq0_10_u3, ?vq0_11_u3, ?vq0_12_u3, ?vq0_13_u3, ?vq0_14_u3, ?vq0_15_u3, ?vq0_16_u3, ?vq0_17_u3, ?vq0_18_u3, ?vq0_19_u3, ?vq0_20_u3, ?vq0_21_u3, ?vq0_22_u3, ?vq0_23_u3, ?vq0_24_u3, ?vq0_25_u3, ?vq0_26_u3, ?vq0_27_u3, undef, undef]) (S := fun w' => w' = wr.drew) (by kernel_rfl) (by kernel_rfl) (by kernel_rfl) (by kernel_rfl) ?hSq_u3 ?hchq_u3
          case hSq_u3 => exact rfl
          case hchq_u3 =>
            refine chain_cons _ (by kernel_rfl) rfl rfl ?opsq0_u3 ?wantq0_u3 ?effq0_u3
            case opsq0_u3 =>
              simp only [OpsAt, fillT, List.setIfInBounds_toArray, List.set_cons_zero, List.set_cons_succ]
              refine ⟨.inl ⟨by rfl, opOk_pure fun wS hS => ?_⟩, ?_⟩
              · ((subst hS; go_simp; try simp (disch := omega) only [wrap64_id])); try (with_reducible rfl)
              refine ⟨.inl ⟨by rfl, opOk_pure fun wS hS => ?_⟩, ?_⟩
              · ((subst hS; go_simp; try simp (disch := omega) only [wrap64_id])); try (with_reducible rfl)
              refine ⟨.inl ⟨by rfl, opOk_pure fun wS hS => ?_⟩, ?_⟩
              · ((subst hS; go_simp; try simp (disch := omega) only [wrap64_id])); try (with_reducible rfl)
              refine ⟨.inl ⟨by rfl, opOk_pure fun wS hS => ?_⟩, ?_⟩
              · ((subst hS; go_simp; try simp (disch := omega) only [wrap64_id])); try (with_reducible rfl)
              refine ⟨.inl ⟨by rfl, opOk_pure fun wS hS => ?_⟩, ?_⟩
              · ((subst hS; go_simp; try simp (disch := omega) only [wrap64_id])); try (with_reducible rfl)
              refine ⟨.inl ⟨by rfl, opOk_pure fun wS hS => ?_⟩, ?_⟩
              · ((subst hS; go_simp; try simp (disch := omega) only [wrap64_id])); try (with_reducible rfl)
              refine ⟨.inl ⟨by rfl, opOk_pure fun wS hS => ?_⟩, ?_⟩
              · ((subst hS; go_simp; try simp (disch := omega) only [wrap64_id])); try (with_reducible rfl)
              refine ⟨.inl ⟨by rfl, opOk_pure fun wS hS => ?_⟩, ?_⟩
              · ((subst hS; go_simp; try simp (disch := omega) only [wrap64_id])); try (with_reducible rfl)
              refine ⟨.inl ⟨by rfl, opOk_pure fun wS hS => ?_⟩, ?_⟩
              · ((subst hS; go_simp; try simp (disch := omega) only [wrap64_id])); try (with_reducible rfl)
              refine ⟨.inl ⟨by rfl, opOk_pure fun wS hS => ?_⟩, ?_⟩
              · ((subst hS; go_simp; try simp (disch := omega) only [wrap64_id])); try (with_reducible rfl)
              refine ⟨.inl ⟨by rfl, opOk_pure fun wS hS => ?_⟩, ?_⟩
              · ((subst hS; go_simp; try simp (disch := omega) only [wrap64_id])); try (with_reducible rfl)
              refine ⟨.inl ⟨by rfl, opOk_pure fun wS hS => ?_⟩, ?_⟩
              · ((subst hS; go_simp; try simp (disch := omega) only [wrap64_id])); try (with_reducible rfl)
              refine ⟨.inl ⟨by rfl, opOk_pure fun wS hS => ?_⟩, ?_⟩
              · ((subst hS; go_simp; try simp (disch := omega) only [wrap64_id])); try (with_reducible rfl)
              refine ⟨.inl ⟨by rfl, opOk_pure fun wS hS => ?_⟩, ?_⟩
              · ((subst hS; go_simp; try simp (disch := omega) only [wrap64_id])); try (with_reducible rfl)
              refine ⟨.inl ⟨by rfl, opOk_pure fun wS hS => ?_⟩, ?_⟩
              · ((subst hS; go_simp; try simp (disch := omega) only [wrap64_id])); try (with_reducible rfl)
              refine ⟨.inl ⟨by rfl, opOk_pure fun wS hS => ?_⟩, ?_⟩
              · ((subst hS; go_simp; try simp (disch := omega) only [wrap64_id])); try (with_reducible rfl)
              refine ⟨.inl ⟨by rfl, opOk_pure fun wS hS => ?_⟩, ?_⟩
              · ((subst hS; go_simp; try simp (disch := omega) only [wrap64_id])); try (with_reducible rfl)
              refine ⟨.inl ⟨by rfl, opOk_pure fun wS hS => ?_⟩, ?_⟩
              · ((subst hS; go_simp; try simp (disch := omega) only [wrap64_id])); try (with_reducible rfl)
              refine ⟨.inl ⟨by rfl, opOk_pure fun wS hS => ?_⟩, ?_⟩
              · ((subst hS; go_simp; try simp (disch := omega) only [wrap64_id])); try (with_reducible rfl)
              refine ⟨.inl ⟨by rfl, opOk_pure fun wS hS => ?_⟩, ?_⟩
              · ((subst hS; go_simp; try simp (disch := omega) only [wrap64_id])); try (with_reducible rfl)
              refine ⟨.inl ⟨by rfl, opOk_pure fun wS hS => ?_⟩, ?_⟩
              · ((subst hS; go_simp; try simp (disch := omega) only [wrap64_id])); try (with_reducible rfl)
              refine ⟨.inl ⟨by rfl, opOk_pure fun wS hS => ?_⟩, ?_⟩
              · ((subst hS; go_simp; try simp (disch := omega) only [wrap64_id])); try (with_reducible rfl)
              refine ⟨.inl ⟨by rfl, opOk_pure fun wS hS => ?_⟩, ?_⟩
              · ((subst hS; go_simp; try simp (disch := omega) only [wrap64_id])); try (with_reducible rfl)
              refine ⟨.inl ⟨by rfl, opOk_pure fun wS hS => ?_⟩, ?_⟩
              · ((subst hS; go_simp; try simp (disch := omega) only [wrap64_id])); try (with_reducible rfl)
              refine ⟨.inl ⟨by rfl, opOk_pure fun wS hS => ?_⟩, ?_⟩
              · ((subst hS; go_simp; try simp (disch := omega) only [wrap64_id])); try (with_reducible rfl)
              refine ⟨.inl ⟨by rfl, opOk_pure fun wS hS => ?_⟩, ?_⟩
              · ((subst hS; go_simp; try simp (disch := omega) only [wrap64_id])); try (with_reducible rfl)
              refine ⟨.inl ⟨by rfl, opOk_pure fun wS hS => ?_⟩, ?_⟩
              · ((subst hS; go_simp; try simp (disch := omega) only [wrap64_id])); try (with_reducible rfl)
              refine ⟨.inl ⟨by rfl, opOk_pure fun wS hS => ?_⟩, ?_⟩
              · ((subst hS; go_simp; try simp (disch := omega) only [wrap64_id])); try (with_reducible rfl)
              try trivial
            case wantq0_u3 => (try simp only [fillT, List.setIfInBounds_toArray, List.set_cons_zero, List.set_cons_succ]) <;> rfl
            case effq0_u3 =>
              intro wS hS
              simp only [fillT, List.setIfInBounds_toArray, List.set_cons_zero, List.set_cons_succ]
              rw [hS]
              refine eff_run (w' := wr.drew.alloc (.cells #[.int .i64 (k : Int), .int .i64 b, .int .u64 c0, .int .u64 b0, .int .u64 r0] 126)) (by go_simp; try rfl) ?_
              have h3 := HS.out.drew.alloc #[.int .i64 (k : Int), .int .i64 b, .int .u64 c0, .int .u64 b0, .int .u64 r0] 126
              try simp only [List.cons_append, List.nil_append, List.set_cons_succ, List.set_cons_zero, Nat.zero_add, Nat.reduceAdd, World.size_alloc] at h3
              have H3 := Lib.hid h3
              clear h3
              refine ⟨_, [true, true, true, true, true, true, true, true, true, true, true, true, true, true, true, true, true, true, true, true, true, true, true, true, true, true, true, true, true, false], [true, false, false, false, false, false, false, false, false, false, false, false, false, false, false, false, false, false, false, false, false, false, false, false, false, false, false, false, false, false], [27, 1, 10, 18, 26, 9, 17, 25, 8, 6, 16, 14, 24, 22, 7, 5, 15, 23, 3, 4, 12, 13, 20, 21, 2, 11, 19], [?vq1_0_u3, ?vq1_1_u3, ?vq1_2_u3, ?vq1_3_u3, ?vq1_4_u3, ?vq1_5_u3, ?vq1_6_u3, ?vq1_7_u3, ?vq1_8_u3, ?vq1_9_u3, ?vq1_10_u3, ?vq1_11_u3, ?vq1_12_u3, ?vq1_13_u3, ?vq1_14_u3, ?vq1_15_u3, ?vq1_16_u3, ?vq1_17_u3, ?vq1_18_u3, ?vq1_19_u3, ?vq1_20_u3, ?vq1_21_u3, ?vq1_22_u3, ?vq1_23_u3, ?vq1_24_u3, ?vq1_25_u3, ?vq1_26_u3, ?vq1_27_u3, (.slice (some ⟨wr.drew.heap.size, 0, none⟩) 1 1), undef], fun w' => w' = wr.drew.alloc (.cells #[.int .i64 (k : Int), .int .i64 b, .int .u64 c0, .int .u64 b0, .int .u64 r0] 126), rfl, rfl, ?sameq0_u3, by kernel_rfl, ?hSq0_u3, ?nxq0_u3⟩
              case sameq0_u3 =>
                refine And.intro ?_ ?_
                · with_reducible rfl
                refine And.intro ?_ ?_
                · with_reducible rfl
                refine And.intro ?_ ?_
                · with_reducible rfl
                refine And.intro ?_ ?_
                · with_reducible rfl
                refine And.intro ?_ ?_
                · with_reducible rfl
                refine And.intro ?_ ?_
                · with_reducible rfl
                refine And.intro ?_ ?_
                · with_reducible rfl
                refine And.intro ?_ ?_
                · with_reducible rfl
                refine And.intro ?_ ?_
                · with_reducible rfl
                refine And.intro ?_ ?_
                · with_reducible rfl
                refine And.intro ?_ ?_
                · with_reducible rfl
                refine And.intro ?_ ?_
                · with_reducible rfl
                refine And.intro ?_ ?_
                · with_reducible rfl
                refine And.intro ?_ ?_
                · with_reducible rfl
                refine And.intro ?_ ?_
                · with_reducible rfl
                refine And.intro ?_ ?_
                · with_reducible rfl
                refine And.intro ?_ ?_
                · with_reducible rfl
                refine And.intro ?_ ?_
                · with_reducible rfl
                refine And.intro ?_ ?_
                · with_reducible rfl
                refine And.intro ?_ ?_
                · with_reducible rfl
                refine And.intro ?_ ?_
                · with_reducible rfl
                refine And.intro ?_ ?_
                · with_reducible rfl
                refine And.intro ?_ ?_
                · with_reducible rfl
                refine And.intro ?_ ?_
                · with_reducible rfl
                refine And.intro ?_ ?_
                · with_reducible rfl
                refine And.intro ?_ ?_
                · with_reducible rfl
                refine And.intro ?_ ?_
                · with_reducible rfl
                refine And.intro ?_ ?_
                · with_reducible rfl
                trivial
              case hSq0_u3 => rfl
              case nxq0_u3 =>
                refine chain_cons _ (by kernel_rfl) rfl rfl ?opsq1_u3 ?wantq1_u3 ?effq1_u3
                case opsq1_u3 =>
                  simp only [OpsAt, fillT, List.setIfInBounds_toArray, List.set_cons_zero, List.set_cons_succ]
                  refine ⟨.inl ⟨by rfl, opOk_pure fun wS hS => ?_⟩, ?_⟩
                  · ((subst hS; go_simp; try simp (disch := omega) only [wrap64_id])); try (with_reducible rfl)
                  try trivial
                case wantq1_u3 => (try simp only [fillT, List.setIfInBounds_toArray, List.set_cons_zero, List.set_cons_succ]) <;> rfl
                case effq1_u3 =>
                  intro wS hS
                  simp only [fillT, List.setIfInBounds_toArray, List.set_cons_zero, List.set_cons_succ]
                  rw [hS]
                  refine wp_append_sat _ _ 123 rfl H3.out 2 126 (.agg #[.int .i64 0, .int .i64 0, .int .u64 0, .int .u64 0, .int .u64 0]) 5 40 Try.underlying123 info_rst rfl (by decide) (.slice A' ls.length c') ls.length (ls.flatMap stC) ?a0_u3 rfl (some ⟨_, 0, none⟩) 1 1 [.int .i64 (k : Int), .int .i64 b, .int .u64 c0, .int .u64 b0, .int .u64 r0] ?a1_u3 (fun h => by cases h) ?a2_u3 (box_src H3.out (i := 3) rfl) ?a3_u3 ?a4_u3 ?a5_u3 ?a6_u3
                  try (case a0_u3 => go_simp)
                  try (case a1_u3 => go_simp)
                  try (case a2_u3 => rfl)
                  case a3_u3 => (intro u hu; simp at hu; rcases hu with rfl | rfl | rfl | rfl | rfl <;> rfl)
                  case a4_u3 => unfold maxLen; omega
                  case a5_u3 => omega
                  case a6_u3 =>
                    intro A2 c2 w3 h4 hA2 hg2
                    try simp only [List.cons_append, List.nil_append, List.set_cons_succ, List.set_cons_zero, Nat.zero_add, Nat.reduceAdd, World.size_alloc] at h4
                    rw [st_snoc, len_snoc ls (k : Int) b c0 b0 r0] at h4
                    rw [len_snoc ls (k : Int) b c0 b0 r0]
                    have h5 := h4.left (l := [_, _, _]) (l' := [_])
                    have k5 := h5.all
                    simp only [allFacts, box_facts, row_facts, emp_facts, cellFacts, Nat.zero_add, Nat.reduceAdd, true_and, and_true] at k5
                    have H5 := Lib.hid h5
                    clear h4 h5 hA2 hg2
                    refine ⟨_, [true, true, true, true, true, true, true, true, true, true, true, true, true, true, true, true, true, true, true, true, true, true, true, true, true, true, true, true, true, true], [false, false, false, false, false, false, false, false, false, false, false, false, false, false, false, false, false, false, false, false, false, false, false, false, false, false, false, false, false, false], [0], [?vq2_0_u3, ?vq2_1_u3, ?vq2_2_u3, ?vq2_3_u3, ?vq2_4_u3, ?vq2_5_u3, ?vq2_6_u3, ?vq2_7_u3, ?vq2_8_u3, ?vq2_9_u3, ?vq2_10_u3, ?vq2_11_u3, ?vq2_12_u3, ?vq2_13_u3, ?vq2_14_u3, ?vq2_15_u3, ?vq2_16_u3, ?vq2_17_u3, ?vq2_18_u3, ?vq2_19_u3, ?vq2_20_u3, ?vq2_21_u3, ?vq2_22_u3, ?vq2_23_u3, ?vq2_24_u3, ?vq2_25_u3, ?vq2_26_u3, ?vq2_27_u3, (.slice (some ⟨wr.drew.heap.size, 0, none⟩) 1 1), (.slice A2 (ls ++ [(⟨(k : Int), b, c0, b0, r0⟩ : Stp)]).length c2)], fun w' => w' = w3, rfl, rfl, ?sameq1_u3, by kernel_rfl, ?hSq1_u3, ?nxq1_u3⟩
                    case sameq1_u3 =>
                      refine And.intro ?_ ?_
                      · with_reducible rfl
                      refine And.intro ?_ ?_
                      · with_reducible rfl
                      refine And.intro ?_ ?_
                      · with_reducible rfl
                      refine And.intro ?_ ?_
                      · with_reducible rfl
                      refine And.intro ?_ ?_
                      · with_reducible rfl
                      refine And.intro ?_ ?_
                      · with_reducible rfl
                      refine And.intro ?_ ?_
                      · with_reducible rfl
                      refine And.intro ?_ ?_
                      · with_reducible rfl
                      refine And.intro ?_ ?_
                      · with_reducible rfl
                      refine And.intro ?_ ?_
                      · with_reducible rfl
                      refine And.intro ?_ ?_
                      · with_reducible rfl
                      refine And.intro ?_ ?_
                      · with_reducible rfl
                      refine And.intro ?_ ?_
                      · with_reducible rfl
                      refine And.intro ?_ ?_
                      · with_reducible rfl
                      refine And.intro ?_ ?_
                      · with_reducible rfl
                      refine And.intro ?_ ?_
                      · with_reducible rfl
                      refine And.intro ?_ ?_
                      · with_reducible rfl
                      refine And.intro ?_ ?_
                      · with_reducible rfl
                      refine And.intro ?_ ?_
                      · with_reducible rfl
                      refine And.intro ?_ ?_
                      · with_reducible rfl
                      refine And.intro ?_ ?_
                      · with_reducible rfl
                      refine And.intro ?_ ?_
                      · with_reducible rfl
                      refine And.intro ?_ ?_
                      · with_reducible rfl
                      refine And.intro ?_ ?_
                      · with_reducible rfl
                      refine And.intro ?_ ?_
                      · with_reducible rfl
                      refine And.intro ?_ ?_
                      · with_reducible rfl
                      refine And.intro ?_ ?_
                      · with_reducible rfl
                      refine And.intro ?_ ?_
                      · with_reducible rfl
                      refine And.intro ?_ ?_
                      · with_reducible rfl
                      trivial
                    case hSq1_u3 => rfl
                    case nxq1_u3 =>
                      refine chain_nil (by kernel_rfl) rfl ?opsq2_u3 ?endq2_u3
                      case opsq2_u3 =>
                        simp only [OpsAt, fillT, List.setIfInBounds_toArray, List.set_cons_zero, List.set_cons_succ]
                        try trivial
                      case endq2_u3 =>
                        intro wE hE
                        simp only [fillT, List.setIfInBounds_toArray, List.set_cons_zero, List.set_cons_succ]
                        refine ⟨rfl, last_pure (v := (.slice A2 (ls ++ [(⟨(k : Int), b, c0, b0, r0⟩ : Stp)]).length c2)) (by go_simp; try rfl) ?_⟩
                        simp only [Act.put, List.setIfInBounds_toArray, List.set_cons_zero, List.set_cons_succ]
                        rw [hE]
                        clear q0 q1 q2 q3 q4 q5 q6 q7 k1 d1
                        have q0 := restCell H5.out rfl hb (HC.out 0 _ rfl)
                        have q1 := restCell H5.out rfl hb (HC.out 1 _ rfl)
                        have q2 := restCell H5.out rfl hb (HC.out 2 _ rfl)
                        have q3 := restCell H5.out rfl hb (HC.out 3 _ rfl)
                        have q4 := restCell H5.out rfl hb (HC.out 4 _ rfl)
                        have q5 := restCell H5.out rfl hb (HC.out 5 _ rfl)
                        have q6 := restCell H5.out rfl hb (HC.out 6 _ rfl)
                        have q7 := restCell H5.out rfl hb (HC.out 7 _ rfl)
                        rw [Nat.add_zero] at q0
                        go_wp2
                        rw [rounds_succ]
                        go_wp2
                        rw [rounds_succ]
                        go_wp2
                        clear k5 q0 q1 q2 q3 q4 q5 q6 q7
                        go_roundw
                        case rel => exact ⟨k + 1, A2, c2, by omega, by go_num, by rw [HSN.out, show stpOf k ⟨a, b, c0, c1, b0, r0, b1, r1⟩ n = [⟨(k : Int), b, c0, b0, r0⟩] from Z1.out] <;> simp, by rw [HSN.out, show stpOf k ⟨a, b, c0, c1, b0, r0, b1, r1⟩ n = [⟨(k : Int), b, c0, b0, r0⟩] from Z1.out]; exact H5.out⟩
                        case measure => (simp [intOf]; try omega)
        · have Z1 := Lib.hid (show stpOf k ⟨a, b, c0, c1, b0, r0, b1, r1⟩ n = [⟨(k : Int), a, c1, b1, r1⟩] by unfold stpOf; simp [show a ≠ n from ha, show b = n from hb1])
          clear hs
          have d1 : (a == n) = false := beq_eq_false_iff_ne.2 ha
          have d2 : (b == n) = true := by simpa using hb1
          clear ha hab hb1
          have q0 := restCell HS.out rfl hb (HC.out 0 _ rfl)
          have q1 := restCell HS.out rfl hb (HC.out 1 _ rfl)
          have q2 := restCell HS.out rfl hb (HC.out 2 _ rfl)
          have q3 := restCell HS.out rfl hb (HC.out 3 _ rfl)
          have q4 := restCell HS.out rfl hb (HC.out 4 _ rfl)
          have q5 := restCell HS.out rfl hb (HC.out 5 _ rfl)
          have q6 := restCell HS.out rfl hb (HC.out 6 _ rfl)
          have q7 := restCell HS.out rfl hb (HC.out 7 _ rfl)
          rw [Nat.add_zero] at q0
          have k1 := HS.out.all
          simp only [allFacts, box_facts, row_facts, emp_facts, cellFacts, Nat.zero_add, Nat.reduceAdd, true_and, and_true] at k1
          go_wp2
          refine wp_loop_rounds 3 ?_
          rw [rounds_succ]
          go_wp2
          rw [rounds_succ]
          go_wp2_with fail
          refine region_any (by kernel_rfl) ?_
          refine any_lastO ⟨by kernel_rfl, by kernel_rfl, by kernel_rfl, by kernel_rfl⟩ ?_
          simp only [initO, lastO]
          refine any_chain (E := [28, 29]) (kn := [true, true, true, true, true, true, true, true, true, true, true, true, true, true, true, true, true, true, true, true, true, true, true, true, true, true, true, true, false, false]) (mask := [true, true, true, true, true, true, true, true, true, true, true, true, true, true, true, true, true, true, true, true, true, true, true, true, true, true, true, true, false, false]) (vs := [?vq0_0_u4, ?vq0_1_u4, ?vq0_2_u4, ?vq0_3_u4, ?vq0_4_u4, ?vq0_5_u4, ?vq0_6_u4, ?vq0_7_u4, ?vq0_8_u4, ?vq0_9_u4, ?vq0_10_u4, ?vq0_11_u4, ?vq0_12_u4, ?vq0_13_u4, ?vq0_14_u4, ?vq0_15_u4, ?vq0_16_u4, ?vq0_17_u4, ?vq0_18_u4, ?vq0_19_u4, ?vq0_20_u4, ?vq0_21_u4, ?vq0_22_u4, ?vq0_23_u4, ?vq0_24_u4, ?vq0_25_u4, ?vq0_26_u4, ?vq0_27_u4, undef, undef]) (S := fun w' => w' = wr.drew) (by kernel_rfl) (by kernel_rfl) (by kernel_rfl) (by kernel_rfl) ?hSq_u4 ?hchq_u4
          case hSq_u4 => exact rfl
          case hchq_u4 =>
            refine chain_cons _ (by kernel_rfl) rfl rfl ?opsq0_u4 ?wantq0_u4 ?effq0_u4
            case opsq0_u4 =>
              simp only [OpsAt, fillT, List.setIfInBounds_toArray, List.set_cons_zero, List.set_cons_succ]
              refine ⟨.inl ⟨by rfl, opOk_pure fun wS hS => ?_⟩, ?_⟩
              · ((subst hS; go_simp; try simp (disch := omega) only [wrap64_id])); try (with_reducible rfl)
              refine ⟨.inl ⟨by rfl, opOk_pure fun wS hS => ?_⟩, ?_⟩
              · ((subst hS; go_simp; try simp (disch := omega) only [wrap64_id])); try (with_reducible rfl)
              refine ⟨.inl ⟨by rfl, opOk_pure fun wS hS => ?_⟩, ?_⟩
              · ((subst hS; go_simp; try simp (disch := omega) only [wrap64_id])); try (with_reducible rfl)
              refine ⟨.inl ⟨by rfl, opOk_pure fun wS hS => ?_⟩, ?_⟩
              · ((subst hS; go_simp; try simp (disch := omega) only [wrap64_id])); try (with_reducible rfl)
              refine ⟨.inl ⟨by rfl, opOk_pure fun wS hS => ?_⟩, ?_⟩
              · ((subst hS; go_simp; try simp (disch := omega) only [wrap64_id])); try (with_reducible rfl)
              refine ⟨.inl ⟨by rfl, opOk_pure fun wS hS => ?_⟩, ?_⟩
              · ((subst hS; go_simp; try simp (disch := omega) only [wrap64_id])); try (with_reducible rfl)
              refine ⟨.inl ⟨by rfl, opOk_pure fun wS hS => ?_⟩, ?_⟩
              · ((subst hS; go_simp; try simp (disch := omega) only [wrap64_id])); try (with_reducible rfl)
              refine ⟨.inl ⟨by rfl, opOk_pure fun wS hS => ?_⟩, ?_⟩
              · ((subst hS; go_simp; try simp (disch := omega) only [wrap64_id])); try (with_reducible rfl)
              refine ⟨.inl ⟨by rfl, opOk_pure fun wS hS => ?_⟩, ?_⟩
              · ((subst hS; go_simp; try simp (disch := omega) only [wrap64_id])); try (with_reducible rfl)
              refine ⟨.inl ⟨by rfl, opOk_pure fun wS hS => ?_⟩, ?_⟩
              · ((subst hS; go_simp; try simp (disch := omega) only [wrap64_id])); try (with_reducible rfl)
              refine ⟨.inl ⟨by rfl, opOk_pure fun wS hS => ?_⟩, ?_⟩
              · ((subst hS; go_simp; try simp (disch := omega) only [wrap64_id])); try (with_reducible rfl)
              refine ⟨.inl ⟨by rfl, opOk_pure fun wS hS => ?_⟩, ?_⟩
              · ((subst hS; go_simp; try simp (disch := omega) only [wrap64_id])); try (with_reducible rfl)
              refine ⟨.inl ⟨by rfl, opOk_pure fun wS hS => ?_⟩, ?_⟩
              · ((subst hS; go_simp; try simp (disch := omega) only [wrap64_id])); try (with_reducible rfl)
              refine ⟨.inl ⟨by rfl, opOk_pure fun wS hS => ?_⟩, ?_⟩
              · ((subst hS; go_simp; try simp (disch := omega) only [wrap64_id])); try (with_reducible rfl)
              refine ⟨.inl ⟨by rfl, opOk_pure fun wS hS => ?_⟩, ?_⟩
              · ((subst hS; go_simp; try simp (disch := omega) only [wrap64_id])); try (with_reducible rfl)
              refine ⟨.inl ⟨by rfl, opOk_pure fun wS hS => ?_⟩, ?_⟩
              · ((subst hS; go_simp; try simp (disch := omega) only [wrap64_id])); try (with_reducible rfl)
              refine ⟨.inl ⟨by rfl, opOk_pure fun wS hS => ?_⟩, ?_⟩
              · ((subst hS; go_simp; try simp (disch := omega) only [wrap64_id])); try (with_reducible rfl)
              refine ⟨.inl ⟨by rfl, opOk_pure fun wS hS => ?_⟩, ?_⟩
              · ((subst hS; go_simp; try simp (disch := omega) only [wrap64_id])); try (with_reducible rfl)
              refine ⟨.inl ⟨by rfl, opOk_pure fun wS hS => ?_⟩, ?_⟩
              · ((subst hS; go_simp; try simp (disch := omega) only [wrap64_id])); try (with_reducible rfl)
              refine ⟨.inl ⟨by rfl, opOk_pure fun wS hS => ?_⟩, ?_⟩
              · ((subst hS; go_simp; try simp (disch := omega) only [wrap64_id])); try (with_reducible rfl)
              refine ⟨.inl ⟨by rfl, opOk_pure fun wS hS => ?_⟩, ?_⟩
              · ((subst hS; go_simp; try simp (disch := omega) only [wrap64_id])); try (with_reducible rfl)
              refine ⟨.inl ⟨by rfl, opOk_pure fun wS hS => ?_⟩, ?_⟩
              · ((subst hS; go_simp; try simp (disch := omega) only [wrap64_id])); try (with_reducible rfl)
              refine ⟨.inl ⟨by rfl, opOk_pure fun wS hS => ?_⟩, ?_⟩
              · ((subst hS; go_simp; try simp (disch := omega) only [wrap64_id])); try (with_reducible rfl)
              refine ⟨.inl ⟨by rfl, opOk_pure fun wS hS => ?_⟩, ?_⟩
              · ((subst hS; go_simp; try simp (disch := omega) only [wrap64_id])); try (with_reducible rfl)
              refine ⟨.inl ⟨by rfl, opOk_pure fun wS hS => ?_⟩, ?_⟩
              · ((subst hS; go_simp; try simp (disch := omega) only [wrap64_id])); try (with_reducible rfl)
              refine ⟨.inl ⟨by rfl, opOk_pure fun wS hS => ?_⟩, ?_⟩
              · ((subst hS; go_simp; try simp (disch := omega) only [wrap64_id])); try (with_reducible rfl)
              refine ⟨.inl ⟨by rfl, opOk_pure fun wS hS => ?_⟩, ?_⟩
              · ((subst hS; go_simp; try simp (disch := omega) only [wrap64_id])); try (with_reducible rfl)
              refine ⟨.inl ⟨by rfl, opOk_pure fun wS hS => ?_⟩, ?_⟩
              · ((subst hS; go_simp; try simp (disch := omega) only [wrap64_id])); try (with_reducible rfl)
              try trivial
            case wantq0_u4 => (try simp only [fillT, List.setIfInBounds_toArray, List.set_cons_zero, List.set_cons_succ]) <;> rfl
            case effq0_u4 =>
              intro wS hS
              simp only [fillT, List.setIfInBounds_toArray, List.set_cons_zero, List.set_cons_succ]
              rw [hS]
              refine eff_run (w' := wr.drew.alloc (.cells #[.int .i64 (k : Int), .int .i64 a, .int .u64 c1, .int .u64 b1, .int .u64 r1] 126)) (by go_simp; try rfl) ?_
              have h3 := HS.out.drew.alloc #[.int .i64 (k : Int), .int .i64 a, .int .u64 c1, .int .u64 b1, .int .u64 r1] 126
              try simp only [List.cons_append, List.nil_append, List.set_cons_succ, List.set_cons_zero, Nat.zero_add, Nat.reduceAdd, World.size_alloc] at h3
              have H3 := Lib.hid h3
              clear h3
              refine ⟨_, [true, true, true, true, true, true, true, true, true, true, true, true, true, true, true, true, true, true, true, true, true, true, true, true, true, true, true, true, true, false], [true, false, false, false, false, false, false, false, false, false, false, false, false, false, false, false, false, false, false, false, false, false, false, false, false, false, false, false, false, false], [27, 1, 10, 18, 26, 9, 17, 25, 8, 6, 16, 14, 24, 22, 7, 5, 15, 23, 3, 4, 12, 13, 20, 21, 2, 11, 19], [?vq1_0_u4, ?vq1_1_u4, ?vq1_2_u4, ?vq1_3_u4, ?vq1_4_u4, ?vq1_5_u4, ?vq1_6_u4, ?vq1_7_u4, ?vq1_8_u4, ?vq1_9_u4, ?vq1_10_u4, ?vq1_11_u4, ?vq1_12_u4, ?vq1_13_u4, ?vq1_14_u4, ?vq1_15_u4, ?vq1_16_u4, ?vq1_17_u4, ?vq1_18_u4, ?vq1_19_u4, ?vq1_20_u4, ?vq1_21_u4, ?vq1_22_u4, ?vq1_23_u4, ?vq1_24_u4, ?vq1_25_u4, ?vq1_26_u4, ?vq1_27_u4, (.slice (some ⟨wr.drew.heap.size, 0, none⟩) 1 1), undef], fun w' => w' = wr.drew.alloc (.cells #[.int .i64 (k : Int), .int .i64 a, .int .u64 c1, .int .u64 b1, .int .u64 r1] 126), rfl, rfl, ?sameq0_u4, by kernel_rfl, ?hSq0_u4, ?nxq0_u4⟩
              case sameq0_u4 =>
                refine And.intro ?_ ?_
                · with_reducible rfl
                refine And.intro ?_ ?_
                · with_reducible rfl
                refine And.intro ?_ ?_
                · with_reducible rfl
                refine And.intro ?_ ?_
                · with_reducible rfl
                refine And.intro ?_ ?_
                · with_reducible rfl
                refine And.intro ?_ ?_
                · with_reducible rfl
                refine And.intro ?_ ?_
                · with_reducible rfl
                refine And.intro ?_ ?_
                · with_reducible rfl
                refine And.intro ?_ ?_
                · with_reducible rfl
                refine And.intro ?_ ?_
                · with_reducible rfl
                refine And.intro ?_ ?_
                · with_reducible rfl
                refine And.intro ?_ ?_
                · with_reducible rfl
                refine And.intro ?_ ?_
                · with_reducible rfl
                refine And.intro ?_ ?_
                · with_reducible rfl
                refine And.intro ?_ ?_
                · with_reducible rfl
                refine And.intro ?_ ?_
                · with_reducible rfl
                refine And.intro ?_ ?_
                · with_reducible rfl
                refine And.intro ?_ ?_
                · with_reducible rfl
                refine And.intro ?_ ?_
                · with_reducible rfl
                refine And.intro ?_ ?_
                · with_reducible rfl
                refine And.intro ?_ ?_
                · with_reducible rfl
                refine And.intro ?_ ?_
                · with_reducible rfl
                refine And.intro ?_ ?_
                · with_reducible rfl
                refine And.intro ?_ ?_
                · with_reducible rfl
                refine And.intro ?_ ?_
                · with_reducible rfl
                refine And.intro ?_ ?_
                · with_reducible rfl
                refine And.intro ?_ ?_
                · with_reducible rfl
                refine And.intro ?_ ?_
                · with_reducible rfl
                trivial
              case hSq0_u4 => rfl
              case nxq0_u4 =>
                refine chain_cons _ (by kernel_rfl) rfl rfl ?opsq1_u4 ?wantq1_u4 ?effq1_u4
                case opsq1_u4 =>
                  simp only [OpsAt, fillT, List.setIfInBounds_toArray, List.set_cons_zero, List.set_cons_succ]
                  refine ⟨.inl ⟨by rfl, opOk_pure fun wS hS => ?_⟩, ?_⟩
                  · ((subst hS; go_simp; try simp (disch := omega) only [wrap64_id])); try (with_reducible rfl)
                  try trivial
                case wantq1_u4 => (try simp only [fillT, List.setIfInBounds_toArray, List.set_cons_zero, List.set_cons_succ]) <;> rfl
                case effq1_u4 =>
                  intro wS hS
                  simp only [fillT, List.setIfInBounds_toArray, List.set_cons_zero, List.set_cons_succ]
                  rw [hS]
                  refine wp_append_sat _ _ 123 rfl H3.out 2 126 (.agg #[.int .i64 0, .int .i64 0, .int .u64 0, .int .u64 0, .int .u64 0]) 5 40 Try.underlying123 info_rst rfl (by decide) (.slice A' ls.length c') ls.length (ls.flatMap stC) ?a0_u4 rfl (some ⟨_, 0, none⟩) 1 1 [.int .i64 (k : Int), .int .i64 a, .int .u64 c1, .int .u64 b1, .int .u64 r1] ?a1_u4 (fun h => by cases h) ?a2_u4 (box_src H3.out (i := 3) rfl) ?a3_u4 ?a4_u4 ?a5_u4 ?a6_u4
                  try (case a0_u4 => go_simp)
                  try (case a1_u4 => go_simp)
                  try (case a2_u4 => rfl)
                  case a3_u4 => (intro u hu; simp at hu; rcases hu with rfl | rfl | rfl | rfl | rfl <;> rfl)
                  case a4_u4 => unfold maxLen; omega
                  case a5_u4 => omega
                  case a6_u4 =>
                    intro A2 c2 w3 h4 hA2 hg2
                    try simp only [List.cons_append, List.nil_append, List.set_cons_succ, List.set_cons_zero, Nat.zero_add, Nat.reduceAdd, World.size_alloc] at h4
                    rw [st_snoc, len_snoc ls (k : Int) a c1 b1 r1] at h4
                    rw [len_snoc ls (k : Int) a c1 b1 r1]
                    have h5 := h4.left (l := [_, _, _]) (l' := [_])
                    have k5 := h5.all
                    simp only [allFacts, box_facts, row_facts, emp_facts, cellFacts, Nat.zero_add, Nat.reduceAdd, true_and, and_true] at k5
                    have H5 := Lib.hid h5
                    clear h4 h5 hA2 hg2
                    refine ⟨_, [true, true, true, true, true, true, true, true, true, true, true, true, true, true, true, true, true, true, true, true, true, true, true, true, true, true, true, true, true, true], [false, false, false, false, false, false, false, false, false, false, false, false, false, false, false, false, false, false, false, false, false, false, false, false, false, false, false, false, false, false], [0], [?vq2_0_u4, ?vq2_1_u4, ?vq2_2_u4, ?vq2_3_u4, ?vq2_4_u4, ?vq2_5_u4, ?vq2_6_u4, ?vq2_7_u4, ?vq2_8_u4, ?vq2_9_u4, ?vq2_10_u4, ?vq2_11_u4, ?vq2_12_u4, ?vq2_13_u4, ?vq2_14_u4, ?vq2_15_u4, ?vq2_16_u4, ?vq2_17_u4, ?vq2_18_u4, ?vq2_19_u4, ?vq2_20_u4, ?vq2_21_u4, ?vq2_22_u4, ?vq2_23_u4, ?vq2_24_u4, ?vq2_25_u4, ?vq2_26_u4, ?vq2_27_u4, (.slice (some ⟨wr.drew.heap.size, 0, none⟩) 1 1), (.slice A2 (ls ++ [(⟨(k : Int), a, c1, b1, r1⟩ : Stp)]).length c2)], fun w' => w' = w3, rfl, rfl, ?sameq1_u4, by kernel_rfl, ?hSq1_u4, ?nxq1_u4⟩
                    case sameq1_u4 =>
                      refine And.intro ?_ ?_
                      · with_reducible rfl
                      refine And.intro ?_ ?_
                      · with_reducible rfl
                      refine And.intro ?_ ?_
                      · with_reducible rfl
                      refine And.intro ?_ ?_
                      · with_reducible rfl
                      refine And.intro ?_ ?_
                      · with_reducible rfl
                      refine And.intro ?_ ?_
                      · with_reducible rfl
                      refine And.intro ?_ ?_
                      · with_reducible rfl
                      refine And.intro ?_ ?_
                      · with_reducible rfl
                      refine And.intro ?_ ?_
                      · with_reducible rfl
                      refine And.intro ?_ ?_
                      · with_reducible rfl
                      refine And.intro ?_ ?_
                      · with_reducible rfl
                      refine And.intro ?_ ?_
                      · with_reducible rfl
                      refine And.intro ?_ ?_
                      · with_reducible rfl
                      refine And.intro ?_ ?_
                      · with_reducible rfl
                      refine And.intro ?_ ?_
                      · with_reducible rfl
                      refine And.intro ?_ ?_
                      · with_reducible rfl
                      refine And.intro ?_ ?_
                      · with_reducible rfl
                      refine And.intro ?_ ?_
                      · with_reducible rfl
                      refine And.intro ?_ ?_
                      · with_reducible rfl
                      refine And.intro ?_ ?_
                      · with_reducible rfl
                      refine And.intro ?_ ?_
                      · with_reducible rfl
                      refine And.intro ?_ ?_
                      · with_reducible rfl
                      refine And.intro ?_ ?_
                      · with_reducible rfl
                      refine And.intro ?_ ?_
                      · with_reducible rfl
                      refine And.intro ?_ ?_
                      · with_reducible rfl
                      refine And.intro ?_ ?_
                      · with_reducible rfl
                      refine And.intro ?_ ?_
                      · with_reducible rfl
                      refine And.intro ?_ ?_
                      · with_reducible rfl
                      refine And.intro ?_ ?_
                      · with_reducible rfl
                      trivial
                    case hSq1_u4 => rfl
                    case nxq1_u4 =>
                      refine chain_nil (by kernel_rfl) rfl ?opsq2_u4 ?endq2_u4
                      case opsq2_u4 =>
                        simp only [OpsAt, fillT, List.setIfInBounds_toArray, List.set_cons_zero, List.set_cons_succ]
                        try trivial
                      case endq2_u4 =>
                        intro wE hE
                        simp only [fillT, List.setIfInBounds_toArray, List.set_cons_zero, List.set_cons_succ]
                        refine ⟨rfl, last_pure (v := (.slice A2 (ls ++ [(⟨(k : Int), a, c1, b1, r1⟩ : Stp)]).length c2)) (by go_simp; try rfl) ?_⟩
                        simp only [Act.put, List.setIfInBounds_toArray, List.set_cons_zero, List.set_cons_succ]
                        rw [hE]
                        clear q0 q1 q2 q3 q4 q5 q6 q7 k1
                        go_wp2
                        rw [rounds_succ]
                        go_wp2
                        clear k5
                        go_roundw
                        case rel => exact ⟨k + 1, A2, c2, by omega, by go_num, by rw [HSN.out, show stpOf k ⟨a, b, c0, c1, b0, r0, b1, r1⟩ n = [⟨(k : Int), a, c1, b1, r1⟩] from Z1.out] <;> simp, by rw [HSN.out, show stpOf k ⟨a, b, c0, c1, b0, r0, b1, r1⟩ n = [⟨(k : Int), a, c1, b1, r1⟩] from Z1.out]; exact H5.out⟩
                        case measure => (simp [intOf]; try omega)
        · have Z1 := Lib.hid (show stpOf k ⟨a, b, c0, c1, b0, r0, b1, r1⟩ n = [] by unfold stpOf; simp [show a ≠ n from ha, show b ≠ n from hb1])
          clear hs
          have d1 : (a == n) = false := beq_eq_false_iff_ne.2 ha
          have d2 : (b == n) = false := beq_eq_false_iff_ne.2 hb1
          clear ha hab hb1
          have q0 := restCell HS.out rfl hb (HC.out 0 _ rfl)
          have q1 := restCell HS.out rfl hb (HC.out 1 _ rfl)
          have q2 := restCell HS.out rfl hb (HC.out 2 _ rfl)
          have q3 := restCell HS.out rfl hb (HC.out 3 _ rfl)
          have q4 := restCell HS.out rfl hb (HC.out 4 _ rfl)
          have q5 := restCell HS.out rfl hb (HC.out 5 _ rfl)
          have q6 := restCell HS.out rfl hb (HC.out 6 _ rfl)
          have q7 := restCell HS.out rfl hb (HC.out 7 _ rfl)
          rw [Nat.add_zero] at q0
          have k1 := HS.out.all
          simp only [allFacts, box_facts, row_facts, emp_facts, cellFacts, Nat.zero_add, Nat.reduceAdd, true_and, and_true] at k1
          go_wp2
          refine wp_loop_rounds 3 ?_
          rw [rounds_succ]
          go_wp2
          rw [rounds_succ]
          go_wp2
          rw [rounds_succ]
          go_wp2
          clear q0 q1 q2 q3 q4 q5 q6 q7 k1
          go_roundw
          case rel => exact ⟨k + 1, A', c', by omega, by go_num, by rw [HSN.out, show stpOf k ⟨a, b, c0, c1, b0, r0, b1, r1⟩ n = [] from Z1.out, List.append_nil], by rw [HSN.out, show stpOf k ⟨a, b, c0, c1, b0, r0, b1, r1⟩ n = [] from Z1.out, List.append_nil]; exact HS.out⟩
          case measure => (simp [intOf]; try omega)
      · obtain rfl : k = x.edges.length := by omega
        have k1 := HS.out.all
        simp only [allFacts, box_facts, row_facts, emp_facts, cellFacts, Nat.zero_add, Nat.reduceAdd, true_and, and_true] at k1
        have h8 := HS.out.pick [0, 2] (by decide)
        simp only [List.filterMap_cons, List.filterMap_nil, List.getElem?_cons_zero, List.getElem?_cons_succ, List.take_length] at h8
        rw [List.take_length]
        have H8 := Lib.hid h8
        clear h8
        go_wp2
        go_ret
        exact ⟨A', c', ret_sl (by rw [HZ.out]) rfl, by rw [HZ.out]; exact H8.out⟩
  · have HZ := Lib.hid (show stepsP x n = [] from if_neg hz)
    obtain ⟨v, hv⟩ : ∃ v, chkP x = v := ⟨_, rfl⟩
    rw [hv] at hck hz
    have d1 : (v == 0) = false := beq_eq_false_iff_ne.2 hz
    have d2 : (v != 0) = true := by simp [hz]
    have HCK := Lib.hid hck
    clear hck hz hv
    go_enter Try.func65, Try.ntmps65
    go_wp2_with fail
    refine (HCK.out).mono ?_
    rintro e w2 ⟨rfl, hb⟩
    have h2 := H1.out.grow hb
    have H2 := Lib.hid h2
    clear hb h2
    have h8 := (H2.out.left (l := [_]) (l' := [_])).nilRow 126 5
    try simp only [List.cons_append, List.nil_append, List.set_cons_succ, List.set_cons_zero, Nat.zero_add, Nat.reduceAdd, World.size_alloc] at h8
    have H8 := Lib.hid h8
    clear h8
    go_wp2
    go_ret
    exact ⟨none, 0, ret_sl (by rw [HZ.out]; rfl) rfl, by rw [HZ.out]; exact H8.out⟩
end Go.Proofs.Ytcfpbemoocegfaa
