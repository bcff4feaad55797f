/- Walks over webs: an amount goes over a channel, from its second end. -/
import Derived.Test.YtjbblgefgjmdaaaSent07A
namespace Go.Proofs.Ytjbblgefgjmdaaa
set_option linter.unusedVariables false
set_option linter.unusedSimpArgs false
set_option linter.unnecessarySimpa false
open Go.RowKit

set_option maxRecDepth 100000 in
set_option maxHeartbeats 4000000 in
theorem sent_s1 (w : World) (As : Option Addr) (cs : Nat) (Ae : Option Addr) (ce : Nat) (x : Wb) (h : WebAt w As cs Ae ce x) (ok : x.Ok) (edge node n : Int) (hn : U64 n) (he : I64 edge) (hnd : I64 node) (HX : Hid (∀ e, x.edges[edge.toNat]? = some e → sideP e node ≠ 0)) : Calls Try.prog 15 #[.agg #[.slice As x.spots.length cs, .slice Ae x.edges.length ce], .int .i64 edge, .int .i64 node, .int .u64 n] w fun e w' => ∃ A1 c1 A2 c2, e = .returned (.tuple #[.agg #[.slice A1 (sentP x edge node n).1.spots.length c1, .slice A2 (sentP x edge node n).1.edges.length c2], .int .i64 (sentP x edge node n).2]) ∧ WebAt w' A1 c1 A2 c2 (sentP x edge node n).1 ∧ Below w.heap.size w w' := by
  have h1 := ((Sat.pushRest w).alloc #[.slice As x.spots.length cs, .slice Ae x.edges.length ce] 31).alloc #[.slice none 0 0, .slice none 0 0] 31
  try simp only [List.cons_append, List.nil_append, List.set_cons_succ, List.set_cons_zero, Nat.zero_add, Nat.reduceAdd, World.size_alloc, World.size_drew] at h1
  have hck := check_any _ As cs Ae ce x (h.move h1 rfl) ok
  have HW := Lib.hid h
  have H1 := Lib.hid h1
  obtain ⟨e0, e1⟩ := he
  obtain ⟨n0, n1⟩ := hn
  clear h h1
  rcases (show chkP x ≠ 0 ∨ chkP x = 0 by omega) with hz | hz
  · have HZ := Lib.hid (sent_bad (edge := edge) (node := node) (n := n) hz)
    obtain ⟨v, hv⟩ : ∃ v, chkP x = v := ⟨_, rfl⟩
    rw [hv] at hck hz HZ
    have d1 : (v == 0) = false := beq_eq_false_iff_ne.2 hz
    have d2 : (v != 0) = true := by simp [hz]
    have HCK := Lib.hid hck
    clear hck hz hv
    go_enter Try.func15, Try.ntmps15
    go_wp2_with fail
    refine (HCK.out).mono ?_
    rintro e w2 ⟨rfl, hb⟩
    have h2 := H1.out.grow hb
    have k2 := h2.all
    simp only [allFacts, box_facts, row_facts, emp_facts, cellFacts, Nat.zero_add, Nat.reduceAdd, true_and, and_true] at k2
    have H2 := Lib.hid h2
    clear hb h2
    go_wp2
    have hz9 := (H2.out.set 2 rfl 0 (.slice none 0 0)).set 2 rfl 1 (.slice none 0 0)
    have hz8 := hz9.below (i := 0) rfl
    have HZ8 := Lib.hid hz8
    clear hz9 hz8
    refine bodyPost_ret (v := .tuple #[.agg #[.slice none 0 0, .slice none 0 0], .int .i64 v]) (by simp only [results, Try.results15]; go_simp) rfl ⟨none, 0, none, 0, ret_web (by rw [HZ.out]; rfl) (by rw [HZ.out]; rfl) (by rw [HZ.out]), by rw [HZ.out]; exact WebAt.none _, HZ8.out⟩
  · obtain ⟨z1, z2, z3⟩ := chk_zero hz
    rw [hz] at hck
    have HCK := Lib.hid hck
    have HC := Lib.hid hz
    have HB := Lib.hid z3
    clear hck z3 hz
    rcases (show edge < 0 ∨ (0 ≤ edge ∧ (x.edges.length : Int) ≤ edge) ∨ (0 ≤ edge ∧ edge < x.edges.length) by omega) with g0 | ⟨g0, g1⟩ | ⟨g0, g1⟩
    · have HZ := Lib.hid (sent_out (node := node) (n := n) HC.out (.inl g0))
      go_enter Try.func15, Try.ntmps15
      go_wp2_with fail
      refine (HCK.out).mono ?_
      rintro e w2 ⟨rfl, hb⟩
      have h2 := H1.out.grow hb
      have k2 := h2.all
      simp only [allFacts, box_facts, row_facts, emp_facts, cellFacts, Nat.zero_add, Nat.reduceAdd, true_and, and_true] at k2
      have H2 := Lib.hid h2
      clear hb h2
      go_wp2
      have hz9 := (H2.out.set 2 rfl 0 (.slice none 0 0)).set 2 rfl 1 (.slice none 0 0)
      have hz8 := hz9.below (i := 0) rfl
      have HZ8 := Lib.hid hz8
      clear hz9 hz8
      refine bodyPost_ret (v := .tuple #[.agg #[.slice none 0 0, .slice none 0 0], .int .i64 1]) (by simp only [results, Try.results15]; go_simp) rfl ⟨none, 0, none, 0, ret_web (by rw [HZ.out]; rfl) (by rw [HZ.out]; rfl) (by rw [HZ.out]), by rw [HZ.out]; exact WebAt.none _, HZ8.out⟩
    · have HZ := Lib.hid (sent_out (node := node) (n := n) HC.out (.inr g1))
      go_enter Try.func15, Try.ntmps15
      go_wp2_with fail
      refine (HCK.out).mono ?_
      rintro e w2 ⟨rfl, hb⟩
      have h2 := H1.out.grow hb
      have k2 := h2.all
      simp only [allFacts, box_facts, row_facts, emp_facts, cellFacts, Nat.zero_add, Nat.reduceAdd, true_and, and_true] at k2
      have H2 := Lib.hid h2
      clear hb h2
      go_wp2
      have hz9 := (H2.out.set 2 rfl 0 (.slice none 0 0)).set 2 rfl 1 (.slice none 0 0)
      have hz8 := hz9.below (i := 0) rfl
      have HZ8 := Lib.hid hz8
      clear hz9 hz8
      refine bodyPost_ret (v := .tuple #[.agg #[.slice none 0 0, .slice none 0 0], .int .i64 1]) (by simp only [results, Try.results15]; go_simp) rfl ⟨none, 0, none, 0, ret_web (by rw [HZ.out]; rfl) (by rw [HZ.out]; rfl) (by rw [HZ.out]), by rw [HZ.out]; exact WebAt.none _, HZ8.out⟩
    · obtain ⟨k, rfl⟩ : ∃ k : Nat, edge = k := ⟨edge.toNat, by omega⟩
      have hlt : k < x.edges.length := by omega
      have hsa := sent_at HC.out hlt node n
      have hok := ok.e x.edges[k] (List.getElem_mem hlt)
      skip
      obtain ⟨g, off, rfl, hb, hc⟩ := HW.out.e.at edC_len (by decide) hlt
      have hlt2 : k < x.edges.length := hlt
      have hgk : x.edges[k]? = some x.edges[k] := List.getElem?_eq_getElem hlt
      generalize hed : x.edges[k] = ed at *
      obtain ⟨a, b, c0, c1, b0, r0, b1, r1⟩ := ed
      try dsimp only at hok
      have HC := Lib.hid hc
      clear hed hc
      have HSA := Lib.hid hsa
      have HGK := Lib.hid hgk
      obtain ⟨o1, o2, o3, o4, -, -, -, -⟩ := hok
      dsimp only at o1 o2 o3 o4
      clear hsa hgk hlt2
      rcases side_cases ⟨a, b, c0, c1, b0, r0, b1, r1⟩ node with ⟨hs, ha⟩ | ⟨hs, hb1, ha⟩ | ⟨hs, ha, hb1⟩
      · exact absurd hs (HX.out _ (by simpa using HGK.out))
      · have hsd := fun w => side_any w a b c0 c1 b0 r0 b1 r1 node
        rw [hs] at hsd
        have HSD := Lib.hid hsd
        have hsa := HSA.out
        rw [hs] at hsa
        have HAQ := Lib.hid (fun w => add_any c0 n o3 ⟨n0, n1⟩ w)
        obtain ⟨u0, u1⟩ := o4
        clear hs ha hsd hb1
        rcases (show c1 < n ∨ n ≤ c1 by omega) with r1' | r1'
        · have HZ := Lib.hid (hsa.trans ((if_neg (by decide)).trans (if_pos (show _ < n from r1'))))
          clear hsa HAQ
          go_enter Try.func15, Try.ntmps15
          go_wp2_with fail
          refine (HCK.out).mono ?_
          rintro e w2 ⟨rfl, hb⟩
          have h2 := H1.out.grow hb
          have k2 := h2.all
          simp only [allFacts, box_facts, row_facts, emp_facts, cellFacts, Nat.zero_add, Nat.reduceAdd, true_and, and_true] at k2
          have H2 := Lib.hid h2
          clear hb h2
          have q0 := restCell H2.out rfl hb (HC.out 0 _ rfl)
          have q1 := restCell H2.out rfl hb (HC.out 1 _ rfl)
          have q2 := restCell H2.out rfl hb (HC.out 2 _ rfl)
          have q3 := restCell H2.out rfl hb (HC.out 3 _ rfl)
          have q4 := restCell H2.out rfl hb (HC.out 4 _ rfl)
          have q5 := restCell H2.out rfl hb (HC.out 5 _ rfl)
          have q6 := restCell H2.out rfl hb (HC.out 6 _ rfl)
          have q7 := restCell H2.out rfl hb (HC.out 7 _ rfl)
          rw [Nat.add_zero] at q0
          go_wp2_with fail
          refine (HSD.out _).mono ?_
          rintro e w3 ⟨rfl, hb⟩
          clear q0 q1 q2 q3 q4 q5 q6 q7
          have h3 := H2.out.grow hb
          have k3 := h3.all
          simp only [allFacts, box_facts, row_facts, emp_facts, cellFacts, Nat.zero_add, Nat.reduceAdd, true_and, and_true] at k3
          clear k2
          have H3 := Lib.hid h3
          clear hb h3
          go_wp2_with fail
          refine region_chainT (m := 4) (E := [2, 5, 7, 8]) (kn := [true, true, false, true, true, false, false, false, false]) (mask := [true, true, false, true, true, false, false, false, false]) (vs := [?vr1r0_0_u25, ?vr1r0_1_u25, undef, ?vr1r0_3_u25, ?vr1r0_4_u25, undef, undef, undef, undef]) (S := fun w' => w' = w3.drew) (by kernel_rfl) (by kernel_rfl) (by kernel_rfl) (by kernel_rfl) (by kernel_rfl) ?hSr1r_u25 ?hchr1r_u25
          case hSr1r_u25 => exact rfl
          case hchr1r_u25 =>
            refine chainT_two 2 7 (by decide) (by kernel_rfl) rfl ?opsr1r0_u25 ?mr1r0_0_u25 ?mr1r0_1_u25
            case opsr1r0_u25 =>
              simp only [OpsAt, fillT, List.setIfInBounds_toArray, List.set_cons_zero, List.set_cons_succ]
              refine ⟨.inl ⟨by rfl, opOk_pure fun wS hS => ?_⟩, ?_⟩
              · ((subst hS; go_simp)); try (with_reducible rfl)
              refine ⟨.inl ⟨by rfl, opOk_pure fun wS hS => ?_⟩, ?_⟩
              · ((subst hS; go_simp)); try (with_reducible rfl)
              refine ⟨.inl ⟨by rfl, opOk_pure fun wS hS => ?_⟩, ?_⟩
              · ((subst hS; go_simp)); try (with_reducible rfl)
              refine ⟨.inl ⟨by rfl, opOk_pure fun wS hS => ?_⟩, ?_⟩
              · ((subst hS; go_simp)); try (with_reducible rfl)
              try trivial
            case mr1r0_0_u25 =>
              refine makeT _ rfl ?wantr1r0_0_u25 ?effr1r0_0_u25
              case wantr1r0_0_u25 => (try simp only [fillT, List.setIfInBounds_toArray, List.set_cons_zero, List.set_cons_succ]) <;> rfl
              intro wS hS
              simp only [fillT, List.setIfInBounds_toArray, List.set_cons_zero, List.set_cons_succ]
              rw [hS]
              refine eff_call (f := 28) (args := #[.slice As x.spots.length cs]) (by go_simp) ?_
              refine (cloneS_any (w3.drew) As cs x.spots (HW.out.s.mono (src_rest (H3.out.drew) (i := 0) rfl HW.out.s.src (src_lt HW.out.s.src))) (by omega)).mono ?_
              rintro e y1 ⟨A1, C1, rfl, gq⟩
              have hs1 := (H3.out.drew).pushThings gq
              try simp only [List.cons_append, List.nil_append, List.set_cons_succ, List.set_cons_zero, Nat.zero_add, Nat.reduceAdd, World.size_alloc, World.size_drew] at hs1
              have kk1 := hs1.all
              simp only [allFacts, box_facts, row_facts, emp_facts, cellFacts, Nat.zero_add, Nat.reduceAdd, true_and, and_true] at kk1
              have HS1 := Lib.hid hs1
              clear hs1
              clear gq
              refine ⟨_, rfl, ?_⟩
              refine ⟨_, [true, true, true, true, true, false, false, false, false], [false, false, false, true, true, false, false, false, false], [1, 0], [?vr1r1_0_u25, ?vr1r1_1_u25, (.slice A1 x.spots.length C1), ?vr1r1_3_u25, ?vr1r1_4_u25, undef, undef, undef, undef], fun w' => w' = y1, rfl, rfl, ?samer1r1_u25, by kernel_rfl, ?hSr1r1_u25, ?nxr1r1_u25⟩
              case samer1r1_u25 =>
                refine And.intro ?_ ?_
                · with_reducible rfl
                refine And.intro ?_ ?_
                · with_reducible rfl
                refine And.intro ?_ ?_
                · with_reducible rfl
                refine And.intro ?_ ?_
                · with_reducible rfl
                trivial
              case hSr1r1_u25 => rfl
              case nxr1r1_u25 =>
                refine chainT_two 5 7 (by decide) (by kernel_rfl) rfl ?opsr1r1_u25 ?mr1r1_0_u25 ?mr1r1_1_u25
                case opsr1r1_u25 =>
                  simp only [OpsAt, fillT, List.setIfInBounds_toArray, List.set_cons_zero, List.set_cons_succ]
                  refine ⟨.inl ⟨by rfl, opOk_pure fun wS hS => ?_⟩, ?_⟩
                  · ((subst hS; go_simp)); try (with_reducible rfl)
                  refine ⟨.inl ⟨by rfl, opOk_pure fun wS hS => ?_⟩, ?_⟩
                  · ((subst hS; go_simp)); try (with_reducible rfl)
                  try trivial
                case mr1r1_0_u25 =>
                  refine makeT _ rfl ?wantr1r1_0_u25 ?effr1r1_0_u25
                  case wantr1r1_0_u25 => (try simp only [fillT, List.setIfInBounds_toArray, List.set_cons_zero, List.set_cons_succ]) <;> rfl
                  intro wS hS
                  simp only [fillT, List.setIfInBounds_toArray, List.set_cons_zero, List.set_cons_succ]
                  rw [hS]
                  refine eff_call (f := 29) (args := #[.slice (some ⟨g, off, none⟩) x.edges.length ce]) (by go_simp) ?_
                  refine (cloneE_any (y1) (some ⟨g, off, none⟩) ce x.edges (HW.out.e.mono (src_rest (HS1.out) (i := 0) rfl HW.out.e.src (src_lt HW.out.e.src))) (by omega)).mono ?_
                  rintro e y2 ⟨A2, C2, rfl, gq⟩
                  have hs2 := (HS1.out).pushThings gq
                  try simp only [List.cons_append, List.nil_append, List.set_cons_succ, List.set_cons_zero, Nat.zero_add, Nat.reduceAdd, World.size_alloc, World.size_drew] at hs2
                  have kk2 := hs2.all
                  simp only [allFacts, box_facts, row_facts, emp_facts, cellFacts, Nat.zero_add, Nat.reduceAdd, true_and, and_true] at kk2
                  have HS2 := Lib.hid hs2
                  clear hs2
                  clear gq
                  refine ⟨_, rfl, ?_⟩
                  refine ⟨_, [true, true, true, true, true, true, true, false, false], [false, false, false, false, false, false, true, false, false], [4, 3], [?vr1r2_0_u25, ?vr1r2_1_u25, (.slice A1 x.spots.length C1), ?vr1r2_3_u25, ?vr1r2_4_u25, (.slice A2 x.edges.length C2), ?vr1r2_6_u25, undef, undef], fun w' => w' = y2, rfl, rfl, ?samer1r2_u25, by kernel_rfl, ?hSr1r2_u25, ?nxr1r2_u25⟩
                  case samer1r2_u25 =>
                    refine And.intro ?_ ?_
                    · with_reducible rfl
                    refine And.intro ?_ ?_
                    · with_reducible rfl
                    refine And.intro ?_ ?_
                    · with_reducible rfl
                    refine And.intro ?_ ?_
                    · with_reducible rfl
                    refine And.intro ?_ ?_
                    · with_reducible rfl
                    trivial
                  case hSr1r2_u25 => rfl
                  case nxr1r2_u25 =>
                    refine chainT_one 7 (by decide) (by kernel_rfl) rfl ?opsr1r2_u25 ?mr1r2_0_u25
                    case opsr1r2_u25 =>
                      simp only [OpsAt, fillT, List.setIfInBounds_toArray, List.set_cons_zero, List.set_cons_succ]
                      refine ⟨.inl ⟨by rfl, opOk_pure fun wS hS => ?_⟩, ?_⟩
                      · ((subst hS; go_simp)); try (with_reducible rfl)
                      try trivial
                    case mr1r2_0_u25 =>
                      refine makeT _ rfl ?wantr1r2_0_u25 ?effr1r2_0_u25
                      case wantr1r2_0_u25 => (try simp only [fillT, List.setIfInBounds_toArray, List.set_cons_zero, List.set_cons_succ]) <;> rfl
                      intro wS hS
                      simp only [fillT, List.setIfInBounds_toArray, List.set_cons_zero, List.set_cons_succ]
                      rw [hS]
                      refine eff_run (w' := (y2).alloc (.cells #[.slice none 0 0, .slice none 0 0] 31)) (by go_simp; try rfl) ?_
                      have hs3 := (HS2.out).alloc #[.slice none 0 0, .slice none 0 0] 31
                      try simp only [List.cons_append, List.nil_append, List.set_cons_succ, List.set_cons_zero, Nat.zero_add, Nat.reduceAdd, World.size_alloc, World.size_drew] at hs3
                      have kk3 := hs3.all
                      simp only [allFacts, box_facts, row_facts, emp_facts, cellFacts, Nat.zero_add, Nat.reduceAdd, true_and, and_true] at kk3
                      have HS3 := Lib.hid hs3
                      clear hs3
                      refine ⟨_, [true, true, true, true, true, true, true, true, false], [false, false, false, false, false, false, true, false, false], [], [?vr1r3_0_u25, ?vr1r3_1_u25, (.slice A1 x.spots.length C1), ?vr1r3_3_u25, ?vr1r3_4_u25, (.slice A2 x.edges.length C2), ?vr1r3_6_u25, (.pointer (some ⟨(y2).heap.size, 0, none⟩)), undef], fun w' => w' = (y2).alloc (.cells #[.slice none 0 0, .slice none 0 0] 31), rfl, rfl, ?samer1r3_u25, by kernel_rfl, ?hSr1r3_u25, ?nxr1r3_u25⟩
                      case samer1r3_u25 =>
                        refine And.intro ?_ ?_
                        · with_reducible rfl
                        refine And.intro ?_ ?_
                        · with_reducible rfl
                        refine And.intro ?_ ?_
                        · with_reducible rfl
                        refine And.intro ?_ ?_
                        · with_reducible rfl
                        refine And.intro ?_ ?_
                        · with_reducible rfl
                        refine And.intro ?_ ?_
                        · with_reducible rfl
                        refine And.intro ?_ ?_
                        · with_reducible rfl
                        trivial
                      case hSr1r3_u25 => rfl
                      case nxr1r3_u25 =>
                        refine chainT_one 8 (by decide) (by kernel_rfl) rfl ?opsr1r3_u25 ?mr1r3_0_u25
                        case opsr1r3_u25 =>
                          simp only [OpsAt, fillT, List.setIfInBounds_toArray, List.set_cons_zero, List.set_cons_succ]
                          refine ⟨.inl ⟨by rfl, opOk_pure fun wS hS => ?_⟩, ?_⟩
                          · ((subst hS; go_simp)); try (with_reducible rfl)
                          try trivial
                        case mr1r3_0_u25 =>
                          refine makeT _ rfl ?wantr1r3_0_u25 ?effr1r3_0_u25
                          case wantr1r3_0_u25 => (try simp only [fillT, List.setIfInBounds_toArray, List.set_cons_zero, List.set_cons_succ]) <;> rfl
                          intro wS hS
                          simp only [fillT, List.setIfInBounds_toArray, List.set_cons_zero, List.set_cons_succ]
                          rw [hS]
                          refine eff_skip (w' := (((y2).alloc (.cells #[.slice none 0 0, .slice none 0 0] 31)).setCell ⟨(y2).heap.size, 0, none⟩ (.slice A1 x.spots.length C1)).setCell ⟨(y2).heap.size, 1, none⟩ (.slice A2 x.edges.length C2)) ?run_u22_u25 ?pp_u22_u25
                          case run_u22_u25 => go_simp
                          case pp_u22_u25 =>
                            have hs4 := ((HS3.out).set 5 rfl 0 (.slice A1 x.spots.length C1)).set 5 rfl 1 (.slice A2 x.edges.length C2)
                            try simp only [List.cons_append, List.nil_append, List.set_cons_succ, List.set_cons_zero, Nat.zero_add, Nat.reduceAdd, World.size_alloc, World.size_drew] at hs4
                            have HS4 := Lib.hid hs4
                            clear hs4
                            refine ⟨_, [true, true, true, true, true, true, true, true, true], [false, false, false, false, false, false, false, false, false], [6], [?vr1r4_0_u25, ?vr1r4_1_u25, (.slice A1 x.spots.length C1), ?vr1r4_3_u25, ?vr1r4_4_u25, (.slice A2 x.edges.length C2), ?vr1r4_6_u25, (.pointer (some ⟨(y2).heap.size, 0, none⟩)), undef], fun w' => w' = (((y2).alloc (.cells #[.slice none 0 0, .slice none 0 0] 31)).setCell ⟨(y2).heap.size, 0, none⟩ (.slice A1 x.spots.length C1)).setCell ⟨(y2).heap.size, 1, none⟩ (.slice A2 x.edges.length C2), rfl, rfl, ?samer1r4_u25, by kernel_rfl, ?hSr1r4_u25, ?nxr1r4_u25⟩
                            case samer1r4_u25 =>
                              refine And.intro ?_ ?_
                              · with_reducible rfl
                              refine And.intro ?_ ?_
                              · with_reducible rfl
                              refine And.intro ?_ ?_
                              · with_reducible rfl
                              refine And.intro ?_ ?_
                              · with_reducible rfl
                              refine And.intro ?_ ?_
                              · with_reducible rfl
                              refine And.intro ?_ ?_
                              · with_reducible rfl
                              refine And.intro ?_ ?_
                              · with_reducible rfl
                              refine And.intro ?_ ?_
                              · with_reducible rfl
                              trivial
                            case hSr1r4_u25 => rfl
                            case nxr1r4_u25 =>
                              refine chainT_nil (by rfl) (by kernel_rfl) rfl ?opsr1r4_u25 ?endr1r4_u25
                              case opsr1r4_u25 =>
                                simp only [OpsAt, fillT, List.setIfInBounds_toArray, List.set_cons_zero, List.set_cons_succ]
                                try trivial
                              case endr1r4_u25 =>
                                intro wE hE
                                simp only [fillT, List.setIfInBounds_toArray, List.set_cons_zero, List.set_cons_succ]
                                rw [hE]
                                have ht := (HS4.out).pick [0, 1, 2, 3, 4, 5] (by decide)
                                simp only [List.filterMap_cons, List.filterMap_nil, List.getElem?_cons_zero, List.getElem?_cons_succ] at ht
                                try clear kk1
                                try clear kk2
                                try clear kk3
                                try clear kk4
                                clear hE
                                generalize (y2).heap.size = p at ht ⊢
                                generalize (((y2).alloc (.cells #[.slice none 0 0, .slice none 0 0] 31)).setCell ⟨p, 0, none⟩ (.slice A1 x.spots.length C1)).setCell ⟨p, 1, none⟩ (.slice A2 x.edges.length C2) = wx at ht ⊢
                                have HT := Lib.hid ht
                                clear ht
                                obtain ⟨gE, hgE, gc, gf, glt⟩ := rowK_at edC_len (by decide) (HT.out.rowOf (i := 4) rfl) (i := k) hlt
                                subst hgE
                                have hek : x.edges[k] = ⟨a, b, c0, c1, b0, r0, b1, r1⟩ := Option.some.inj ((List.getElem?_eq_getElem hlt).symm.trans HGK.out)
                                rw [hek] at gc
                                have s2 := gc 2 _ rfl
                                have s3 := gc 3 _ rfl
                                have f2 := gf (k * 8 + 2)
                                have f3 := gf (k * 8 + 3)
                                clear gc gf hek
                                have k9 := HT.out.all
                                simp only [allFacts, box_facts, row_facts, emp_facts, cellFacts, Nat.zero_add, Nat.reduceAdd, true_and, and_true] at k9
                                go_wp2
                                have hz9 := (HT.out.set 2 rfl 0 (.slice none 0 0)).set 2 rfl 1 (.slice none 0 0)
                                have hz8 := hz9.below (i := 0) rfl
                                have HZ8 := Lib.hid hz8
                                clear hz9 hz8
                                refine bodyPost_ret (v := .tuple #[.agg #[.slice none 0 0, .slice none 0 0], .int .i64 28]) (by simp only [results, Try.results15]; go_simp) rfl ⟨none, 0, none, 0, ret_web (by rw [HZ.out]; rfl) (by rw [HZ.out]; rfl) (by rw [HZ.out]), by rw [HZ.out]; exact WebAt.none _, HZ8.out⟩
                case mr1r1_1_u25 =>
                  refine makeT _ rfl ?wantr1r1_1_u25 ?effr1r1_1_u25
                  case wantr1r1_1_u25 => (try simp only [fillT, List.setIfInBounds_toArray, List.set_cons_zero, List.set_cons_succ]) <;> rfl
                  intro wS hS
                  simp only [fillT, List.setIfInBounds_toArray, List.set_cons_zero, List.set_cons_succ]
                  rw [hS]
                  refine eff_run (w' := (y1).alloc (.cells #[.slice none 0 0, .slice none 0 0] 31)) (by go_simp; try rfl) ?_
                  have hs5 := (HS1.out).alloc #[.slice none 0 0, .slice none 0 0] 31
                  try simp only [List.cons_append, List.nil_append, List.set_cons_succ, List.set_cons_zero, Nat.zero_add, Nat.reduceAdd, World.size_alloc, World.size_drew] at hs5
                  have kk5 := hs5.all
                  simp only [allFacts, box_facts, row_facts, emp_facts, cellFacts, Nat.zero_add, Nat.reduceAdd, true_and, and_true] at kk5
                  have HS5 := Lib.hid hs5
                  clear hs5
                  refine ⟨_, [true, true, true, true, true, false, false, true, false], [false, false, false, true, true, false, false, false, false], [], [?vr1r5_0_u25, ?vr1r5_1_u25, (.slice A1 x.spots.length C1), ?vr1r5_3_u25, ?vr1r5_4_u25, undef, undef, (.pointer (some ⟨(y1).heap.size, 0, none⟩)), undef], fun w' => w' = (y1).alloc (.cells #[.slice none 0 0, .slice none 0 0] 31), rfl, rfl, ?samer1r5_u25, by kernel_rfl, ?hSr1r5_u25, ?nxr1r5_u25⟩
                  case samer1r5_u25 =>
                    refine And.intro ?_ ?_
                    · with_reducible rfl
                    refine And.intro ?_ ?_
                    · with_reducible rfl
                    refine And.intro ?_ ?_
                    · with_reducible rfl
                    refine And.intro ?_ ?_
                    · with_reducible rfl
                    refine And.intro ?_ ?_
                    · with_reducible rfl
                    trivial
                  case hSr1r5_u25 => rfl
                  case nxr1r5_u25 =>
                    refine chainT_one 5 (by decide) (by kernel_rfl) rfl ?opsr1r5_u25 ?mr1r5_0_u25
                    case opsr1r5_u25 =>
                      simp only [OpsAt, fillT, List.setIfInBounds_toArray, List.set_cons_zero, List.set_cons_succ]
                      refine ⟨.inl ⟨by rfl, opOk_pure fun wS hS => ?_⟩, ?_⟩
                      · ((subst hS; go_simp)); try (with_reducible rfl)
                      refine ⟨.inl ⟨by rfl, opOk_pure fun wS hS => ?_⟩, ?_⟩
                      · ((subst hS; go_simp)); try (with_reducible rfl)
                      try trivial
                    case mr1r5_0_u25 =>
                      refine makeT _ rfl ?wantr1r5_0_u25 ?effr1r5_0_u25
                      case wantr1r5_0_u25 => (try simp only [fillT, List.setIfInBounds_toArray, List.set_cons_zero, List.set_cons_succ]) <;> rfl
                      intro wS hS
                      simp only [fillT, List.setIfInBounds_toArray, List.set_cons_zero, List.set_cons_succ]
                      rw [hS]
                      refine eff_call (f := 29) (args := #[.slice (some ⟨g, off, none⟩) x.edges.length ce]) (by go_simp) ?_
                      refine (cloneE_any ((y1).alloc (.cells #[.slice none 0 0, .slice none 0 0] 31)) (some ⟨g, off, none⟩) ce x.edges (HW.out.e.mono (src_rest (HS5.out) (i := 0) rfl HW.out.e.src (src_lt HW.out.e.src))) (by omega)).mono ?_
                      rintro e y6 ⟨A6, C6, rfl, gq⟩
                      have hs6 := (HS5.out).pushThings gq
                      try simp only [List.cons_append, List.nil_append, List.set_cons_succ, List.set_cons_zero, Nat.zero_add, Nat.reduceAdd, World.size_alloc, World.size_drew] at hs6
                      have kk6 := hs6.all
                      simp only [allFacts, box_facts, row_facts, emp_facts, cellFacts, Nat.zero_add, Nat.reduceAdd, true_and, and_true] at kk6
                      have HS6 := Lib.hid hs6
                      clear hs6
                      clear gq
                      refine ⟨_, rfl, ?_⟩
                      refine ⟨_, [true, true, true, true, true, true, true, true, false], [false, false, false, false, false, false, true, false, false], [4, 3], [?vr1r6_0_u25, ?vr1r6_1_u25, (.slice A1 x.spots.length C1), ?vr1r6_3_u25, ?vr1r6_4_u25, (.slice A6 x.edges.length C6), ?vr1r6_6_u25, (.pointer (some ⟨(y1).heap.size, 0, none⟩)), undef], fun w' => w' = y6, rfl, rfl, ?samer1r6_u25, by kernel_rfl, ?hSr1r6_u25, ?nxr1r6_u25⟩
                      case samer1r6_u25 =>
                        refine And.intro ?_ ?_
                        · with_reducible rfl
                        refine And.intro ?_ ?_
                        · with_reducible rfl
                        refine And.intro ?_ ?_
                        · with_reducible rfl
                        refine And.intro ?_ ?_
                        · with_reducible rfl
                        refine And.intro ?_ ?_
                        · with_reducible rfl
                        refine And.intro ?_ ?_
                        · with_reducible rfl
                        trivial
                      case hSr1r6_u25 => rfl
                      case nxr1r6_u25 =>
                        refine chainT_one 8 (by decide) (by kernel_rfl) rfl ?opsr1r6_u25 ?mr1r6_0_u25
                        case opsr1r6_u25 =>
                          simp only [OpsAt, fillT, List.setIfInBounds_toArray, List.set_cons_zero, List.set_cons_succ]
                          refine ⟨.inl ⟨by rfl, opOk_pure fun wS hS => ?_⟩, ?_⟩
                          · ((subst hS; go_simp)); try (with_reducible rfl)
                          try trivial
                        case mr1r6_0_u25 =>
                          refine makeT _ rfl ?wantr1r6_0_u25 ?effr1r6_0_u25
                          case wantr1r6_0_u25 => (try simp only [fillT, List.setIfInBounds_toArray, List.set_cons_zero, List.set_cons_succ]) <;> rfl
                          intro wS hS
                          simp only [fillT, List.setIfInBounds_toArray, List.set_cons_zero, List.set_cons_succ]
                          rw [hS]
                          refine eff_skip (w' := ((y6).setCell ⟨(y1).heap.size, 0, none⟩ (.slice A1 x.spots.length C1)).setCell ⟨(y1).heap.size, 1, none⟩ (.slice A6 x.edges.length C6)) ?run_u23_u25 ?pp_u23_u25
                          case run_u23_u25 => go_simp
                          case pp_u23_u25 =>
                            have hs7 := ((HS6.out).set 4 rfl 0 (.slice A1 x.spots.length C1)).set 4 rfl 1 (.slice A6 x.edges.length C6)
                            try simp only [List.cons_append, List.nil_append, List.set_cons_succ, List.set_cons_zero, Nat.zero_add, Nat.reduceAdd, World.size_alloc, World.size_drew] at hs7
                            have HS7 := Lib.hid hs7
                            clear hs7
                            refine ⟨_, [true, true, true, true, true, true, true, true, true], [false, false, false, false, false, false, false, false, false], [6], [?vr1r7_0_u25, ?vr1r7_1_u25, (.slice A1 x.spots.length C1), ?vr1r7_3_u25, ?vr1r7_4_u25, (.slice A6 x.edges.length C6), ?vr1r7_6_u25, (.pointer (some ⟨(y1).heap.size, 0, none⟩)), undef], fun w' => w' = ((y6).setCell ⟨(y1).heap.size, 0, none⟩ (.slice A1 x.spots.length C1)).setCell ⟨(y1).heap.size, 1, none⟩ (.slice A6 x.edges.length C6), rfl, rfl, ?samer1r7_u25, by kernel_rfl, ?hSr1r7_u25, ?nxr1r7_u25⟩
                            case samer1r7_u25 =>
                              refine And.intro ?_ ?_
                              · with_reducible rfl
                              refine And.intro ?_ ?_
                              · with_reducible rfl
                              refine And.intro ?_ ?_
                              · with_reducible rfl
                              refine And.intro ?_ ?_
                              · with_reducible rfl
                              refine And.intro ?_ ?_
                              · with_reducible rfl
                              refine And.intro ?_ ?_
                              · with_reducible rfl
                              refine And.intro ?_ ?_
                              · with_reducible rfl
                              refine And.intro ?_ ?_
                              · with_reducible rfl
                              trivial
                            case hSr1r7_u25 => rfl
                            case nxr1r7_u25 =>
                              refine chainT_nil (by rfl) (by kernel_rfl) rfl ?opsr1r7_u25 ?endr1r7_u25
                              case opsr1r7_u25 =>
                                simp only [OpsAt, fillT, List.setIfInBounds_toArray, List.set_cons_zero, List.set_cons_succ]
                                try trivial
                              case endr1r7_u25 =>
                                intro wE hE
                                simp only [fillT, List.setIfInBounds_toArray, List.set_cons_zero, List.set_cons_succ]
                                rw [hE]
                                have ht := (HS7.out).pick [0, 1, 2, 3, 5, 4] (by decide)
                                simp only [List.filterMap_cons, List.filterMap_nil, List.getElem?_cons_zero, List.getElem?_cons_succ] at ht
                                try clear kk1
                                try clear kk2
                                try clear kk3
                                try clear kk4
                                try clear kk5
                                try clear kk6
                                try clear kk7
                                clear hE
                                generalize (y1).heap.size = p at ht ⊢
                                generalize ((y6).setCell ⟨p, 0, none⟩ (.slice A1 x.spots.length C1)).setCell ⟨p, 1, none⟩ (.slice A6 x.edges.length C6) = wx at ht ⊢
                                have HT := Lib.hid ht
                                clear ht
                                obtain ⟨gE, hgE, gc, gf, glt⟩ := rowK_at edC_len (by decide) (HT.out.rowOf (i := 4) rfl) (i := k) hlt
                                subst hgE
                                have hek : x.edges[k] = ⟨a, b, c0, c1, b0, r0, b1, r1⟩ := Option.some.inj ((List.getElem?_eq_getElem hlt).symm.trans HGK.out)
                                rw [hek] at gc
                                have s2 := gc 2 _ rfl
                                have s3 := gc 3 _ rfl
                                have f2 := gf (k * 8 + 2)
                                have f3 := gf (k * 8 + 3)
                                clear gc gf hek
                                have k9 := HT.out.all
                                simp only [allFacts, box_facts, row_facts, emp_facts, cellFacts, Nat.zero_add, Nat.reduceAdd, true_and, and_true] at k9
                                go_wp2
                                have hz9 := (HT.out.set 2 rfl 0 (.slice none 0 0)).set 2 rfl 1 (.slice none 0 0)
                                have hz8 := hz9.below (i := 0) rfl
                                have HZ8 := Lib.hid hz8
                                clear hz9 hz8
                                refine bodyPost_ret (v := .tuple #[.agg #[.slice none 0 0, .slice none 0 0], .int .i64 28]) (by simp only [results, Try.results15]; go_simp) rfl ⟨none, 0, none, 0, ret_web (by rw [HZ.out]; rfl) (by rw [HZ.out]; rfl) (by rw [HZ.out]), by rw [HZ.out]; exact WebAt.none _, HZ8.out⟩
            case mr1r0_1_u25 =>
              refine makeT _ rfl ?wantr1r0_1_u25 ?effr1r0_1_u25
              case wantr1r0_1_u25 => (try simp only [fillT, List.setIfInBounds_toArray, List.set_cons_zero, List.set_cons_succ]) <;> rfl
              intro wS hS
              simp only [fillT, List.setIfInBounds_toArray, List.set_cons_zero, List.set_cons_succ]
              rw [hS]
              refine eff_run (w' := (w3.drew).alloc (.cells #[.slice none 0 0, .slice none 0 0] 31)) (by go_simp; try rfl) ?_
              have hs8 := (H3.out.drew).alloc #[.slice none 0 0, .slice none 0 0] 31
              try simp only [List.cons_append, List.nil_append, List.set_cons_succ, List.set_cons_zero, Nat.zero_add, Nat.reduceAdd, World.size_alloc, World.size_drew] at hs8
              have kk8 := hs8.all
              simp only [allFacts, box_facts, row_facts, emp_facts, cellFacts, Nat.zero_add, Nat.reduceAdd, true_and, and_true] at kk8
              have HS8 := Lib.hid hs8
              clear hs8
              refine ⟨_, [true, true, false, true, true, false, false, true, false], [true, true, false, true, true, false, false, false, false], [], [?vr1r8_0_u25, ?vr1r8_1_u25, undef, ?vr1r8_3_u25, ?vr1r8_4_u25, undef, undef, (.pointer (some ⟨(w3).heap.size, 0, none⟩)), undef], fun w' => w' = (w3.drew).alloc (.cells #[.slice none 0 0, .slice none 0 0] 31), rfl, rfl, ?samer1r8_u25, by kernel_rfl, ?hSr1r8_u25, ?nxr1r8_u25⟩
              case samer1r8_u25 =>
                refine And.intro ?_ ?_
                · with_reducible rfl
                refine And.intro ?_ ?_
                · with_reducible rfl
                refine And.intro ?_ ?_
                · with_reducible rfl
                refine And.intro ?_ ?_
                · with_reducible rfl
                trivial
              case hSr1r8_u25 => rfl
              case nxr1r8_u25 =>
                refine chainT_one 2 (by decide) (by kernel_rfl) rfl ?opsr1r8_u25 ?mr1r8_0_u25
                case opsr1r8_u25 =>
                  simp only [OpsAt, fillT, List.setIfInBounds_toArray, List.set_cons_zero, List.set_cons_succ]
                  refine ⟨.inl ⟨by rfl, opOk_pure fun wS hS => ?_⟩, ?_⟩
                  · ((subst hS; go_simp)); try (with_reducible rfl)
                  refine ⟨.inl ⟨by rfl, opOk_pure fun wS hS => ?_⟩, ?_⟩
                  · ((subst hS; go_simp)); try (with_reducible rfl)
                  refine ⟨.inl ⟨by rfl, opOk_pure fun wS hS => ?_⟩, ?_⟩
                  · ((subst hS; go_simp)); try (with_reducible rfl)
                  refine ⟨.inl ⟨by rfl, opOk_pure fun wS hS => ?_⟩, ?_⟩
                  · ((subst hS; go_simp)); try (with_reducible rfl)
                  try trivial
                case mr1r8_0_u25 =>
                  refine makeT _ rfl ?wantr1r8_0_u25 ?effr1r8_0_u25
                  case wantr1r8_0_u25 => (try simp only [fillT, List.setIfInBounds_toArray, List.set_cons_zero, List.set_cons_succ]) <;> rfl
                  intro wS hS
                  simp only [fillT, List.setIfInBounds_toArray, List.set_cons_zero, List.set_cons_succ]
                  rw [hS]
                  refine eff_call (f := 28) (args := #[.slice As x.spots.length cs]) (by go_simp) ?_
                  refine (cloneS_any ((w3.drew).alloc (.cells #[.slice none 0 0, .slice none 0 0] 31)) As cs x.spots (HW.out.s.mono (src_rest (HS8.out) (i := 0) rfl HW.out.s.src (src_lt HW.out.s.src))) (by omega)).mono ?_
                  rintro e y9 ⟨A9, C9, rfl, gq⟩
                  have hs9 := (HS8.out).pushThings gq
                  try simp only [List.cons_append, List.nil_append, List.set_cons_succ, List.set_cons_zero, Nat.zero_add, Nat.reduceAdd, World.size_alloc, World.size_drew] at hs9
                  have kk9 := hs9.all
                  simp only [allFacts, box_facts, row_facts, emp_facts, cellFacts, Nat.zero_add, Nat.reduceAdd, true_and, and_true] at kk9
                  have HS9 := Lib.hid hs9
                  clear hs9
                  clear gq
                  refine ⟨_, rfl, ?_⟩
                  refine ⟨_, [true, true, true, true, true, false, false, true, false], [false, false, false, true, true, false, false, false, false], [1, 0], [?vr1r9_0_u25, ?vr1r9_1_u25, (.slice A9 x.spots.length C9), ?vr1r9_3_u25, ?vr1r9_4_u25, undef, undef, (.pointer (some ⟨(w3).heap.size, 0, none⟩)), undef], fun w' => w' = y9, rfl, rfl, ?samer1r9_u25, by kernel_rfl, ?hSr1r9_u25, ?nxr1r9_u25⟩
                  case samer1r9_u25 =>
                    refine And.intro ?_ ?_
                    · with_reducible rfl
                    refine And.intro ?_ ?_
                    · with_reducible rfl
                    refine And.intro ?_ ?_
                    · with_reducible rfl
                    refine And.intro ?_ ?_
                    · with_reducible rfl
                    refine And.intro ?_ ?_
                    · with_reducible rfl
                    trivial
                  case hSr1r9_u25 => rfl
                  case nxr1r9_u25 =>
                    refine chainT_one 5 (by decide) (by kernel_rfl) rfl ?opsr1r9_u25 ?mr1r9_0_u25
                    case opsr1r9_u25 =>
                      simp only [OpsAt, fillT, List.setIfInBounds_toArray, List.set_cons_zero, List.set_cons_succ]
                      refine ⟨.inl ⟨by rfl, opOk_pure fun wS hS => ?_⟩, ?_⟩
                      · ((subst hS; go_simp)); try (with_reducible rfl)
                      refine ⟨.inl ⟨by rfl, opOk_pure fun wS hS => ?_⟩, ?_⟩
                      · ((subst hS; go_simp)); try (with_reducible rfl)
                      try trivial
                    case mr1r9_0_u25 =>
                      refine makeT _ rfl ?wantr1r9_0_u25 ?effr1r9_0_u25
                      case wantr1r9_0_u25 => (try simp only [fillT, List.setIfInBounds_toArray, List.set_cons_zero, List.set_cons_succ]) <;> rfl
                      intro wS hS
                      simp only [fillT, List.setIfInBounds_toArray, List.set_cons_zero, List.set_cons_succ]
                      rw [hS]
                      refine eff_call (f := 29) (args := #[.slice (some ⟨g, off, none⟩) x.edges.length ce]) (by go_simp) ?_
                      refine (cloneE_any (y9) (some ⟨g, off, none⟩) ce x.edges (HW.out.e.mono (src_rest (HS9.out) (i := 0) rfl HW.out.e.src (src_lt HW.out.e.src))) (by omega)).mono ?_
                      rintro e y10 ⟨A10, C10, rfl, gq⟩
                      have hs10 := (HS9.out).pushThings gq
                      try simp only [List.cons_append, List.nil_append, List.set_cons_succ, List.set_cons_zero, Nat.zero_add, Nat.reduceAdd, World.size_alloc, World.size_drew] at hs10
                      have kk10 := hs10.all
                      simp only [allFacts, box_facts, row_facts, emp_facts, cellFacts, Nat.zero_add, Nat.reduceAdd, true_and, and_true] at kk10
                      have HS10 := Lib.hid hs10
                      clear hs10
                      clear gq
                      refine ⟨_, rfl, ?_⟩
                      refine ⟨_, [true, true, true, true, true, true, true, true, false], [false, false, false, false, false, false, true, false, false], [4, 3], [?vr1r10_0_u25, ?vr1r10_1_u25, (.slice A9 x.spots.length C9), ?vr1r10_3_u25, ?vr1r10_4_u25, (.slice A10 x.edges.length C10), ?vr1r10_6_u25, (.pointer (some ⟨(w3).heap.size, 0, none⟩)), undef], fun w' => w' = y10, rfl, rfl, ?samer1r10_u25, by kernel_rfl, ?hSr1r10_u25, ?nxr1r10_u25⟩
                      case samer1r10_u25 =>
                        refine And.intro ?_ ?_
                        · with_reducible rfl
                        refine And.intro ?_ ?_
                        · with_reducible rfl
                        refine And.intro ?_ ?_
                        · with_reducible rfl
                        refine And.intro ?_ ?_
                        · with_reducible rfl
                        refine And.intro ?_ ?_
                        · with_reducible rfl
                        refine And.intro ?_ ?_
                        · with_reducible rfl
                        trivial
                      case hSr1r10_u25 => rfl
                      case nxr1r10_u25 =>
                        refine chainT_one 8 (by decide) (by kernel_rfl) rfl ?opsr1r10_u25 ?mr1r10_0_u25
                        case opsr1r10_u25 =>
                          simp only [OpsAt, fillT, List.setIfInBounds_toArray, List.set_cons_zero, List.set_cons_succ]
                          refine ⟨.inl ⟨by rfl, opOk_pure fun wS hS => ?_⟩, ?_⟩
                          · ((subst hS; go_simp)); try (with_reducible rfl)
                          try trivial
                        case mr1r10_0_u25 =>
                          refine makeT _ rfl ?wantr1r10_0_u25 ?effr1r10_0_u25
                          case wantr1r10_0_u25 => (try simp only [fillT, List.setIfInBounds_toArray, List.set_cons_zero, List.set_cons_succ]) <;> rfl
                          intro wS hS
                          simp only [fillT, List.setIfInBounds_toArray, List.set_cons_zero, List.set_cons_succ]
                          rw [hS]
                          refine eff_skip (w' := ((y10).setCell ⟨(w3).heap.size, 0, none⟩ (.slice A9 x.spots.length C9)).setCell ⟨(w3).heap.size, 1, none⟩ (.slice A10 x.edges.length C10)) ?run_u24_u25 ?pp_u24_u25
                          case run_u24_u25 => go_simp
                          case pp_u24_u25 =>
                            have hs11 := ((HS10.out).set 3 rfl 0 (.slice A9 x.spots.length C9)).set 3 rfl 1 (.slice A10 x.edges.length C10)
                            try simp only [List.cons_append, List.nil_append, List.set_cons_succ, List.set_cons_zero, Nat.zero_add, Nat.reduceAdd, World.size_alloc, World.size_drew] at hs11
                            have HS11 := Lib.hid hs11
                            clear hs11
                            refine ⟨_, [true, true, true, true, true, true, true, true, true], [false, false, false, false, false, false, false, false, false], [6], [?vr1r11_0_u25, ?vr1r11_1_u25, (.slice A9 x.spots.length C9), ?vr1r11_3_u25, ?vr1r11_4_u25, (.slice A10 x.edges.length C10), ?vr1r11_6_u25, (.pointer (some ⟨(w3).heap.size, 0, none⟩)), undef], fun w' => w' = ((y10).setCell ⟨(w3).heap.size, 0, none⟩ (.slice A9 x.spots.length C9)).setCell ⟨(w3).heap.size, 1, none⟩ (.slice A10 x.edges.length C10), rfl, rfl, ?samer1r11_u25, by kernel_rfl, ?hSr1r11_u25, ?nxr1r11_u25⟩
                            case samer1r11_u25 =>
                              refine And.intro ?_ ?_
                              · with_reducible rfl
                              refine And.intro ?_ ?_
                              · with_reducible rfl
                              refine And.intro ?_ ?_
                              · with_reducible rfl
                              refine And.intro ?_ ?_
                              · with_reducible rfl
                              refine And.intro ?_ ?_
                              · with_reducible rfl
                              refine And.intro ?_ ?_
                              · with_reducible rfl
                              refine And.intro ?_ ?_
                              · with_reducible rfl
                              refine And.intro ?_ ?_
                              · with_reducible rfl
                              trivial
                            case hSr1r11_u25 => rfl
                            case nxr1r11_u25 =>
                              refine chainT_nil (by rfl) (by kernel_rfl) rfl ?opsr1r11_u25 ?endr1r11_u25
                              case opsr1r11_u25 =>
                                simp only [OpsAt, fillT, List.setIfInBounds_toArray, List.set_cons_zero, List.set_cons_succ]
                                try trivial
                              case endr1r11_u25 =>
                                intro wE hE
                                simp only [fillT, List.setIfInBounds_toArray, List.set_cons_zero, List.set_cons_succ]
                                rw [hE]
                                have ht := (HS11.out).pick [0, 1, 2, 4, 5, 3] (by decide)
                                simp only [List.filterMap_cons, List.filterMap_nil, List.getElem?_cons_zero, List.getElem?_cons_succ] at ht
                                try clear kk1
                                try clear kk2
                                try clear kk3
                                try clear kk4
                                try clear kk5
                                try clear kk6
                                try clear kk7
                                try clear kk8
                                try clear kk9
                                try clear kk10
                                try clear kk11
                                clear hE
                                generalize (w3).heap.size = p at ht ⊢
                                generalize ((y10).setCell ⟨p, 0, none⟩ (.slice A9 x.spots.length C9)).setCell ⟨p, 1, none⟩ (.slice A10 x.edges.length C10) = wx at ht ⊢
                                have HT := Lib.hid ht
                                clear ht
                                obtain ⟨gE, hgE, gc, gf, glt⟩ := rowK_at edC_len (by decide) (HT.out.rowOf (i := 4) rfl) (i := k) hlt
                                subst hgE
                                have hek : x.edges[k] = ⟨a, b, c0, c1, b0, r0, b1, r1⟩ := Option.some.inj ((List.getElem?_eq_getElem hlt).symm.trans HGK.out)
                                rw [hek] at gc
                                have s2 := gc 2 _ rfl
                                have s3 := gc 3 _ rfl
                                have f2 := gf (k * 8 + 2)
                                have f3 := gf (k * 8 + 3)
                                clear gc gf hek
                                have k9 := HT.out.all
                                simp only [allFacts, box_facts, row_facts, emp_facts, cellFacts, Nat.zero_add, Nat.reduceAdd, true_and, and_true] at k9
                                go_wp2
                                have hz9 := (HT.out.set 2 rfl 0 (.slice none 0 0)).set 2 rfl 1 (.slice none 0 0)
                                have hz8 := hz9.below (i := 0) rfl
                                have HZ8 := Lib.hid hz8
                                clear hz9 hz8
                                refine bodyPost_ret (v := .tuple #[.agg #[.slice none 0 0, .slice none 0 0], .int .i64 28]) (by simp only [results, Try.results15]; go_simp) rfl ⟨none, 0, none, 0, ret_web (by rw [HZ.out]; rfl) (by rw [HZ.out]; rfl) (by rw [HZ.out]), by rw [HZ.out]; exact WebAt.none _, HZ8.out⟩
        · have hsb := hsa.trans ((if_neg (by decide)).trans (if_neg (show ¬ _ < n from by show ¬ c1 < n; omega)))
          have hval := fun h => addP_val (a := c0) (b := n) h
          have hsc : sentP x k node n = if (addP c0 n).2 = 0 then (⟨x.spots, x.edges.set k ⟨a, b, c0 + n, c1 - n, b0, r0, b1, r1⟩⟩, 0) else (noWeb, (addP c0 n).2) := hsb
          clear hsa hsb
          generalize addP c0 n = r9 at *
          obtain ⟨m, e⟩ := r9
          dsimp only at hsc hval HAQ
          rcases (show e ≠ 0 ∨ e = 0 by omega) with he0 | he0
          · have HZ := Lib.hid (hsc.trans (if_neg he0))
            have HAD := HAQ
            have d3 : (e == 0) = false := beq_eq_false_iff_ne.2 he0
            have d4 : (e != 0) = true := by simp [he0]
            clear hsc he0 hval
            go_enter Try.func15, Try.ntmps15
            go_wp2_with fail
            refine (HCK.out).mono ?_
            rintro e w2 ⟨rfl, hb⟩
            have h2 := H1.out.grow hb
            have k2 := h2.all
            simp only [allFacts, box_facts, row_facts, emp_facts, cellFacts, Nat.zero_add, Nat.reduceAdd, true_and, and_true] at k2
            have H2 := Lib.hid h2
            clear hb h2
            have q0 := restCell H2.out rfl hb (HC.out 0 _ rfl)
            have q1 := restCell H2.out rfl hb (HC.out 1 _ rfl)
            have q2 := restCell H2.out rfl hb (HC.out 2 _ rfl)
            have q3 := restCell H2.out rfl hb (HC.out 3 _ rfl)
            have q4 := restCell H2.out rfl hb (HC.out 4 _ rfl)
            have q5 := restCell H2.out rfl hb (HC.out 5 _ rfl)
            have q6 := restCell H2.out rfl hb (HC.out 6 _ rfl)
            have q7 := restCell H2.out rfl hb (HC.out 7 _ rfl)
            rw [Nat.add_zero] at q0
            go_wp2_with fail
            refine (HSD.out _).mono ?_
            rintro e w3 ⟨rfl, hb⟩
            clear q0 q1 q2 q3 q4 q5 q6 q7
            have h3 := H2.out.grow hb
            have k3 := h3.all
            simp only [allFacts, box_facts, row_facts, emp_facts, cellFacts, Nat.zero_add, Nat.reduceAdd, true_and, and_true] at k3
            clear k2
            have H3 := Lib.hid h3
            clear hb h3
            go_wp2_with fail
            refine region_chainT (m := 4) (E := [2, 5, 7, 8]) (kn := [true, true, false, true, true, false, false, false, false]) (mask := [true, true, false, true, true, false, false, false, false]) (vs := [?vr1e0_0_u29, ?vr1e0_1_u29, undef, ?vr1e0_3_u29, ?vr1e0_4_u29, undef, undef, undef, undef]) (S := fun w' => w' = w3.drew) (by kernel_rfl) (by kernel_rfl) (by kernel_rfl) (by kernel_rfl) (by kernel_rfl) ?hSr1e_u29 ?hchr1e_u29
            case hSr1e_u29 => exact rfl
            case hchr1e_u29 =>
              refine chainT_two 2 7 (by decide) (by kernel_rfl) rfl ?opsr1e0_u29 ?mr1e0_0_u29 ?mr1e0_1_u29
              case opsr1e0_u29 =>
                simp only [OpsAt, fillT, List.setIfInBounds_toArray, List.set_cons_zero, List.set_cons_succ]
                refine ⟨.inl ⟨by rfl, opOk_pure fun wS hS => ?_⟩, ?_⟩
                · ((subst hS; go_simp)); try (with_reducible rfl)
                refine ⟨.inl ⟨by rfl, opOk_pure fun wS hS => ?_⟩, ?_⟩
                · ((subst hS; go_simp)); try (with_reducible rfl)
                refine ⟨.inl ⟨by rfl, opOk_pure fun wS hS => ?_⟩, ?_⟩
                · ((subst hS; go_simp)); try (with_reducible rfl)
                refine ⟨.inl ⟨by rfl, opOk_pure fun wS hS => ?_⟩, ?_⟩
                · ((subst hS; go_simp)); try (with_reducible rfl)
                try trivial
              case mr1e0_0_u29 =>
                refine makeT _ rfl ?wantr1e0_0_u29 ?effr1e0_0_u29
                case wantr1e0_0_u29 => (try simp only [fillT, List.setIfInBounds_toArray, List.set_cons_zero, List.set_cons_succ]) <;> rfl
                intro wS hS
                simp only [fillT, List.setIfInBounds_toArray, List.set_cons_zero, List.set_cons_succ]
                rw [hS]
                refine eff_call (f := 28) (args := #[.slice As x.spots.length cs]) (by go_simp) ?_
                refine (cloneS_any (w3.drew) As cs x.spots (HW.out.s.mono (src_rest (H3.out.drew) (i := 0) rfl HW.out.s.src (src_lt HW.out.s.src))) (by omega)).mono ?_
                rintro e y1 ⟨A1, C1, rfl, gq⟩
                have hs1 := (H3.out.drew).pushThings gq
                try simp only [List.cons_append, List.nil_append, List.set_cons_succ, List.set_cons_zero, Nat.zero_add, Nat.reduceAdd, World.size_alloc, World.size_drew] at hs1
                have kk1 := hs1.all
                simp only [allFacts, box_facts, row_facts, emp_facts, cellFacts, Nat.zero_add, Nat.reduceAdd, true_and, and_true] at kk1
                have HS1 := Lib.hid hs1
                clear hs1
                clear gq
                refine ⟨_, rfl, ?_⟩
                refine ⟨_, [true, true, true, true, true, false, false, false, false], [false, false, false, true, true, false, false, false, false], [1, 0], [?vr1e1_0_u29, ?vr1e1_1_u29, (.slice A1 x.spots.length C1), ?vr1e1_3_u29, ?vr1e1_4_u29, undef, undef, undef, undef], fun w' => w' = y1, rfl, rfl, ?samer1e1_u29, by kernel_rfl, ?hSr1e1_u29, ?nxr1e1_u29⟩
                case samer1e1_u29 =>
                  refine And.intro ?_ ?_
                  · with_reducible rfl
                  refine And.intro ?_ ?_
                  · with_reducible rfl
                  refine And.intro ?_ ?_
                  · with_reducible rfl
                  refine And.intro ?_ ?_
                  · with_reducible rfl
                  trivial
                case hSr1e1_u29 => rfl
                case nxr1e1_u29 =>
                  refine chainT_two 5 7 (by decide) (by kernel_rfl) rfl ?opsr1e1_u29 ?mr1e1_0_u29 ?mr1e1_1_u29
                  case opsr1e1_u29 =>
                    simp only [OpsAt, fillT, List.setIfInBounds_toArray, List.set_cons_zero, List.set_cons_succ]
                    refine ⟨.inl ⟨by rfl, opOk_pure fun wS hS => ?_⟩, ?_⟩
                    · ((subst hS; go_simp)); try (with_reducible rfl)
                    refine ⟨.inl ⟨by rfl, opOk_pure fun wS hS => ?_⟩, ?_⟩
                    · ((subst hS; go_simp)); try (with_reducible rfl)
                    try trivial
                  case mr1e1_0_u29 =>
                    refine makeT _ rfl ?wantr1e1_0_u29 ?effr1e1_0_u29
                    case wantr1e1_0_u29 => (try simp only [fillT, List.setIfInBounds_toArray, List.set_cons_zero, List.set_cons_succ]) <;> rfl
                    intro wS hS
                    simp only [fillT, List.setIfInBounds_toArray, List.set_cons_zero, List.set_cons_succ]
                    rw [hS]
                    refine eff_call (f := 29) (args := #[.slice (some ⟨g, off, none⟩) x.edges.length ce]) (by go_simp) ?_
                    refine (cloneE_any (y1) (some ⟨g, off, none⟩) ce x.edges (HW.out.e.mono (src_rest (HS1.out) (i := 0) rfl HW.out.e.src (src_lt HW.out.e.src))) (by omega)).mono ?_
                    rintro e y2 ⟨A2, C2, rfl, gq⟩
                    have hs2 := (HS1.out).pushThings gq
                    try simp only [List.cons_append, List.nil_append, List.set_cons_succ, List.set_cons_zero, Nat.zero_add, Nat.reduceAdd, World.size_alloc, World.size_drew] at hs2
                    have kk2 := hs2.all
                    simp only [allFacts, box_facts, row_facts, emp_facts, cellFacts, Nat.zero_add, Nat.reduceAdd, true_and, and_true] at kk2
                    have HS2 := Lib.hid hs2
                    clear hs2
                    clear gq
                    refine ⟨_, rfl, ?_⟩
                    refine ⟨_, [true, true, true, true, true, true, true, false, false], [false, false, false, false, false, false, true, false, false], [4, 3], [?vr1e2_0_u29, ?vr1e2_1_u29, (.slice A1 x.spots.length C1), ?vr1e2_3_u29, ?vr1e2_4_u29, (.slice A2 x.edges.length C2), ?vr1e2_6_u29, undef, undef], fun w' => w' = y2, rfl, rfl, ?samer1e2_u29, by kernel_rfl, ?hSr1e2_u29, ?nxr1e2_u29⟩
                    case samer1e2_u29 =>
                      refine And.intro ?_ ?_
                      · with_reducible rfl
                      refine And.intro ?_ ?_
                      · with_reducible rfl
                      refine And.intro ?_ ?_
                      · with_reducible rfl
                      refine And.intro ?_ ?_
                      · with_reducible rfl
                      refine And.intro ?_ ?_
                      · with_reducible rfl
                      trivial
                    case hSr1e2_u29 => rfl
                    case nxr1e2_u29 =>
                      refine chainT_one 7 (by decide) (by kernel_rfl) rfl ?opsr1e2_u29 ?mr1e2_0_u29
                      case opsr1e2_u29 =>
                        simp only [OpsAt, fillT, List.setIfInBounds_toArray, List.set_cons_zero, List.set_cons_succ]
                        refine ⟨.inl ⟨by rfl, opOk_pure fun wS hS => ?_⟩, ?_⟩
                        · ((subst hS; go_simp)); try (with_reducible rfl)
                        try trivial
                      case mr1e2_0_u29 =>
                        refine makeT _ rfl ?wantr1e2_0_u29 ?effr1e2_0_u29
                        case wantr1e2_0_u29 => (try simp only [fillT, List.setIfInBounds_toArray, List.set_cons_zero, List.set_cons_succ]) <;> rfl
                        intro wS hS
                        simp only [fillT, List.setIfInBounds_toArray, List.set_cons_zero, List.set_cons_succ]
                        rw [hS]
                        refine eff_run (w' := (y2).alloc (.cells #[.slice none 0 0, .slice none 0 0] 31)) (by go_simp; try rfl) ?_
                        have hs3 := (HS2.out).alloc #[.slice none 0 0, .slice none 0 0] 31
                        try simp only [List.cons_append, List.nil_append, List.set_cons_succ, List.set_cons_zero, Nat.zero_add, Nat.reduceAdd, World.size_alloc, World.size_drew] at hs3
                        have kk3 := hs3.all
                        simp only [allFacts, box_facts, row_facts, emp_facts, cellFacts, Nat.zero_add, Nat.reduceAdd, true_and, and_true] at kk3
                        have HS3 := Lib.hid hs3
                        clear hs3
                        refine ⟨_, [true, true, true, true, true, true, true, true, false], [false, false, false, false, false, false, true, false, false], [], [?vr1e3_0_u29, ?vr1e3_1_u29, (.slice A1 x.spots.length C1), ?vr1e3_3_u29, ?vr1e3_4_u29, (.slice A2 x.edges.length C2), ?vr1e3_6_u29, (.pointer (some ⟨(y2).heap.size, 0, none⟩)), undef], fun w' => w' = (y2).alloc (.cells #[.slice none 0 0, .slice none 0 0] 31), rfl, rfl, ?samer1e3_u29, by kernel_rfl, ?hSr1e3_u29, ?nxr1e3_u29⟩
                        case samer1e3_u29 =>
                          refine And.intro ?_ ?_
                          · with_reducible rfl
                          refine And.intro ?_ ?_
                          · with_reducible rfl
                          refine And.intro ?_ ?_
                          · with_reducible rfl
                          refine And.intro ?_ ?_
                          · with_reducible rfl
                          refine And.intro ?_ ?_
                          · with_reducible rfl
                          refine And.intro ?_ ?_
                          · with_reducible rfl
                          refine And.intro ?_ ?_
                          · with_reducible rfl
                          trivial
                        case hSr1e3_u29 => rfl
                        case nxr1e3_u29 =>
                          refine chainT_one 8 (by decide) (by kernel_rfl) rfl ?opsr1e3_u29 ?mr1e3_0_u29
                          case opsr1e3_u29 =>
                            simp only [OpsAt, fillT, List.setIfInBounds_toArray, List.set_cons_zero, List.set_cons_succ]
                            refine ⟨.inl ⟨by rfl, opOk_pure fun wS hS => ?_⟩, ?_⟩
                            · ((subst hS; go_simp)); try (with_reducible rfl)
                            try trivial
                          case mr1e3_0_u29 =>
                            refine makeT _ rfl ?wantr1e3_0_u29 ?effr1e3_0_u29
                            case wantr1e3_0_u29 => (try simp only [fillT, List.setIfInBounds_toArray, List.set_cons_zero, List.set_cons_succ]) <;> rfl
                            intro wS hS
                            simp only [fillT, List.setIfInBounds_toArray, List.set_cons_zero, List.set_cons_succ]
                            rw [hS]
                            refine eff_skip (w' := (((y2).alloc (.cells #[.slice none 0 0, .slice none 0 0] 31)).setCell ⟨(y2).heap.size, 0, none⟩ (.slice A1 x.spots.length C1)).setCell ⟨(y2).heap.size, 1, none⟩ (.slice A2 x.edges.length C2)) ?run_u26_u29 ?pp_u26_u29
                            case run_u26_u29 => go_simp
                            case pp_u26_u29 =>
                              have hs4 := ((HS3.out).set 5 rfl 0 (.slice A1 x.spots.length C1)).set 5 rfl 1 (.slice A2 x.edges.length C2)
                              try simp only [List.cons_append, List.nil_append, List.set_cons_succ, List.set_cons_zero, Nat.zero_add, Nat.reduceAdd, World.size_alloc, World.size_drew] at hs4
                              have HS4 := Lib.hid hs4
                              clear hs4
                              refine ⟨_, [true, true, true, true, true, true, true, true, true], [false, false, false, false, false, false, false, false, false], [6], [?vr1e4_0_u29, ?vr1e4_1_u29, (.slice A1 x.spots.length C1), ?vr1e4_3_u29, ?vr1e4_4_u29, (.slice A2 x.edges.length C2), ?vr1e4_6_u29, (.pointer (some ⟨(y2).heap.size, 0, none⟩)), undef], fun w' => w' = (((y2).alloc (.cells #[.slice none 0 0, .slice none 0 0] 31)).setCell ⟨(y2).heap.size, 0, none⟩ (.slice A1 x.spots.length C1)).setCell ⟨(y2).heap.size, 1, none⟩ (.slice A2 x.edges.length C2), rfl, rfl, ?samer1e4_u29, by kernel_rfl, ?hSr1e4_u29, ?nxr1e4_u29⟩
                              case samer1e4_u29 =>
                                refine And.intro ?_ ?_
                                · with_reducible rfl
                                refine And.intro ?_ ?_
                                · with_reducible rfl
                                refine And.intro ?_ ?_
                                · with_reducible rfl
                                refine And.intro ?_ ?_
                                · with_reducible rfl
                                refine And.intro ?_ ?_
                                · with_reducible rfl
                                refine And.intro ?_ ?_
                                · with_reducible rfl
                                refine And.intro ?_ ?_
                                · with_reducible rfl
                                refine And.intro ?_ ?_
                                · with_reducible rfl
                                trivial
                              case hSr1e4_u29 => rfl
                              case nxr1e4_u29 =>
                                refine chainT_nil (by rfl) (by kernel_rfl) rfl ?opsr1e4_u29 ?endr1e4_u29
                                case opsr1e4_u29 =>
                                  simp only [OpsAt, fillT, List.setIfInBounds_toArray, List.set_cons_zero, List.set_cons_succ]
                                  try trivial
                                case endr1e4_u29 =>
                                  intro wE hE
                                  simp only [fillT, List.setIfInBounds_toArray, List.set_cons_zero, List.set_cons_succ]
                                  rw [hE]
                                  have ht := (HS4.out).pick [0, 1, 2, 3, 4, 5] (by decide)
                                  simp only [List.filterMap_cons, List.filterMap_nil, List.getElem?_cons_zero, List.getElem?_cons_succ] at ht
                                  try clear kk1
                                  try clear kk2
                                  try clear kk3
                                  try clear kk4
                                  clear hE
                                  generalize (y2).heap.size = p at ht ⊢
                                  generalize (((y2).alloc (.cells #[.slice none 0 0, .slice none 0 0] 31)).setCell ⟨p, 0, none⟩ (.slice A1 x.spots.length C1)).setCell ⟨p, 1, none⟩ (.slice A2 x.edges.length C2) = wx at ht ⊢
                                  have HT := Lib.hid ht
                                  clear ht
                                  obtain ⟨gE, hgE, gc, gf, glt⟩ := rowK_at edC_len (by decide) (HT.out.rowOf (i := 4) rfl) (i := k) hlt
                                  subst hgE
                                  have hek : x.edges[k] = ⟨a, b, c0, c1, b0, r0, b1, r1⟩ := Option.some.inj ((List.getElem?_eq_getElem hlt).symm.trans HGK.out)
                                  rw [hek] at gc
                                  have s2 := gc 2 _ rfl
                                  have s3 := gc 3 _ rfl
                                  have f2 := gf (k * 8 + 2)
                                  have f3 := gf (k * 8 + 3)
                                  clear gc gf hek
                                  have k9 := HT.out.all
                                  simp only [allFacts, box_facts, row_facts, emp_facts, cellFacts, Nat.zero_add, Nat.reduceAdd, true_and, and_true] at k9
                                  go_wp2_with fail
                                  refine (HAD.out _).mono ?_
                                  rintro e w61 ⟨rfl, hw⟩
                                  first | rw [show w61 = _ from hw] | rw [show w61 = _ from hw.symm]
                                  clear hw
                                  go_wp2
                                  have hz9 := (HT.out.set 2 rfl 0 (.slice none 0 0)).set 2 rfl 1 (.slice none 0 0)
                                  have hz8 := hz9.below (i := 0) rfl
                                  have HZ8 := Lib.hid hz8
                                  clear hz9 hz8
                                  refine bodyPost_ret (v := .tuple #[.agg #[.slice none 0 0, .slice none 0 0], .int .i64 e]) (by simp only [results, Try.results15]; go_simp) rfl ⟨none, 0, none, 0, ret_web (by rw [HZ.out]; rfl) (by rw [HZ.out]; rfl) (by rw [HZ.out]), by rw [HZ.out]; exact WebAt.none _, HZ8.out⟩
                  case mr1e1_1_u29 =>
                    refine makeT _ rfl ?wantr1e1_1_u29 ?effr1e1_1_u29
                    case wantr1e1_1_u29 => (try simp only [fillT, List.setIfInBounds_toArray, List.set_cons_zero, List.set_cons_succ]) <;> rfl
                    intro wS hS
                    simp only [fillT, List.setIfInBounds_toArray, List.set_cons_zero, List.set_cons_succ]
                    rw [hS]
                    refine eff_run (w' := (y1).alloc (.cells #[.slice none 0 0, .slice none 0 0] 31)) (by go_simp; try rfl) ?_
                    have hs5 := (HS1.out).alloc #[.slice none 0 0, .slice none 0 0] 31
                    try simp only [List.cons_append, List.nil_append, List.set_cons_succ, List.set_cons_zero, Nat.zero_add, Nat.reduceAdd, World.size_alloc, World.size_drew] at hs5
                    have kk5 := hs5.all
                    simp only [allFacts, box_facts, row_facts, emp_facts, cellFacts, Nat.zero_add, Nat.reduceAdd, true_and, and_true] at kk5
                    have HS5 := Lib.hid hs5
                    clear hs5
                    refine ⟨_, [true, true, true, true, true, false, false, true, false], [false, false, false, true, true, false, false, false, false], [], [?vr1e5_0_u29, ?vr1e5_1_u29, (.slice A1 x.spots.length C1), ?vr1e5_3_u29, ?vr1e5_4_u29, undef, undef, (.pointer (some ⟨(y1).heap.size, 0, none⟩)), undef], fun w' => w' = (y1).alloc (.cells #[.slice none 0 0, .slice none 0 0] 31), rfl, rfl, ?samer1e5_u29, by kernel_rfl, ?hSr1e5_u29, ?nxr1e5_u29⟩
                    case samer1e5_u29 =>
                      refine And.intro ?_ ?_
                      · with_reducible rfl
                      refine And.intro ?_ ?_
                      · with_reducible rfl
                      refine And.intro ?_ ?_
                      · with_reducible rfl
                      refine And.intro ?_ ?_
                      · with_reducible rfl
                      refine And.intro ?_ ?_
                      · with_reducible rfl
                      trivial
                    case hSr1e5_u29 => rfl
                    case nxr1e5_u29 =>
                      refine chainT_one 5 (by decide) (by kernel_rfl) rfl ?opsr1e5_u29 ?mr1e5_0_u29
                      case opsr1e5_u29 =>
                        simp only [OpsAt, fillT, List.setIfInBounds_toArray, List.set_cons_zero, List.set_cons_succ]
                        refine ⟨.inl ⟨by rfl, opOk_pure fun wS hS => ?_⟩, ?_⟩
                        · ((subst hS; go_simp)); try (with_reducible rfl)
                        refine ⟨.inl ⟨by rfl, opOk_pure fun wS hS => ?_⟩, ?_⟩
                        · ((subst hS; go_simp)); try (with_reducible rfl)
                        try trivial
                      case mr1e5_0_u29 =>
                        refine makeT _ rfl ?wantr1e5_0_u29 ?effr1e5_0_u29
                        case wantr1e5_0_u29 => (try simp only [fillT, List.setIfInBounds_toArray, List.set_cons_zero, List.set_cons_succ]) <;> rfl
                        intro wS hS
                        simp only [fillT, List.setIfInBounds_toArray, List.set_cons_zero, List.set_cons_succ]
                        rw [hS]
                        refine eff_call (f := 29) (args := #[.slice (some ⟨g, off, none⟩) x.edges.length ce]) (by go_simp) ?_
                        refine (cloneE_any ((y1).alloc (.cells #[.slice none 0 0, .slice none 0 0] 31)) (some ⟨g, off, none⟩) ce x.edges (HW.out.e.mono (src_rest (HS5.out) (i := 0) rfl HW.out.e.src (src_lt HW.out.e.src))) (by omega)).mono ?_
                        rintro e y6 ⟨A6, C6, rfl, gq⟩
                        have hs6 := (HS5.out).pushThings gq
                        try simp only [List.cons_append, List.nil_append, List.set_cons_succ, List.set_cons_zero, Nat.zero_add, Nat.reduceAdd, World.size_alloc, World.size_drew] at hs6
                        have kk6 := hs6.all
                        simp only [allFacts, box_facts, row_facts, emp_facts, cellFacts, Nat.zero_add, Nat.reduceAdd, true_and, and_true] at kk6
                        have HS6 := Lib.hid hs6
                        clear hs6
                        clear gq
                        refine ⟨_, rfl, ?_⟩
                        refine ⟨_, [true, true, true, true, true, true, true, true, false], [false, false, false, false, false, false, true, false, false], [4, 3], [?vr1e6_0_u29, ?vr1e6_1_u29, (.slice A1 x.spots.length C1), ?vr1e6_3_u29, ?vr1e6_4_u29, (.slice A6 x.edges.length C6), ?vr1e6_6_u29, (.pointer (some ⟨(y1).heap.size, 0, none⟩)), undef], fun w' => w' = y6, rfl, rfl, ?samer1e6_u29, by kernel_rfl, ?hSr1e6_u29, ?nxr1e6_u29⟩
                        case samer1e6_u29 =>
                          refine And.intro ?_ ?_
                          · with_reducible rfl
                          refine And.intro ?_ ?_
                          · with_reducible rfl
                          refine And.intro ?_ ?_
                          · with_reducible rfl
                          refine And.intro ?_ ?_
                          · with_reducible rfl
                          refine And.intro ?_ ?_
                          · with_reducible rfl
                          refine And.intro ?_ ?_
                          · with_reducible rfl
                          trivial
                        case hSr1e6_u29 => rfl
                        case nxr1e6_u29 =>
                          refine chainT_one 8 (by decide) (by kernel_rfl) rfl ?opsr1e6_u29 ?mr1e6_0_u29
                          case opsr1e6_u29 =>
                            simp only [OpsAt, fillT, List.setIfInBounds_toArray, List.set_cons_zero, List.set_cons_succ]
                            refine ⟨.inl ⟨by rfl, opOk_pure fun wS hS => ?_⟩, ?_⟩
                            · ((subst hS; go_simp)); try (with_reducible rfl)
                            try trivial
                          case mr1e6_0_u29 =>
                            refine makeT _ rfl ?wantr1e6_0_u29 ?effr1e6_0_u29
                            case wantr1e6_0_u29 => (try simp only [fillT, List.setIfInBounds_toArray, List.set_cons_zero, List.set_cons_succ]) <;> rfl
                            intro wS hS
                            simp only [fillT, List.setIfInBounds_toArray, List.set_cons_zero, List.set_cons_succ]
                            rw [hS]
                            refine eff_skip (w' := ((y6).setCell ⟨(y1).heap.size, 0, none⟩ (.slice A1 x.spots.length C1)).setCell ⟨(y1).heap.size, 1, none⟩ (.slice A6 x.edges.length C6)) ?run_u27_u29 ?pp_u27_u29
                            case run_u27_u29 => go_simp
                            case pp_u27_u29 =>
                              have hs7 := ((HS6.out).set 4 rfl 0 (.slice A1 x.spots.length C1)).set 4 rfl 1 (.slice A6 x.edges.length C6)
                              try simp only [List.cons_append, List.nil_append, List.set_cons_succ, List.set_cons_zero, Nat.zero_add, Nat.reduceAdd, World.size_alloc, World.size_drew] at hs7
                              have HS7 := Lib.hid hs7
                              clear hs7
                              refine ⟨_, [true, true, true, true, true, true, true, true, true], [false, false, false, false, false, false, false, false, false], [6], [?vr1e7_0_u29, ?vr1e7_1_u29, (.slice A1 x.spots.length C1), ?vr1e7_3_u29, ?vr1e7_4_u29, (.slice A6 x.edges.length C6), ?vr1e7_6_u29, (.pointer (some ⟨(y1).heap.size, 0, none⟩)), undef], fun w' => w' = ((y6).setCell ⟨(y1).heap.size, 0, none⟩ (.slice A1 x.spots.length C1)).setCell ⟨(y1).heap.size, 1, none⟩ (.slice A6 x.edges.length C6), rfl, rfl, ?samer1e7_u29, by kernel_rfl, ?hSr1e7_u29, ?nxr1e7_u29⟩
                              case samer1e7_u29 =>
                                refine And.intro ?_ ?_
                                · with_reducible rfl
                                refine And.intro ?_ ?_
                                · with_reducible rfl
                                refine And.intro ?_ ?_
                                · with_reducible rfl
                                refine And.intro ?_ ?_
                                · with_reducible rfl
                                refine And.intro ?_ ?_
                                · with_reducible rfl
                                refine And.intro ?_ ?_
                                · with_reducible rfl
                                refine And.intro ?_ ?_
                                · with_reducible rfl
                                refine And.intro ?_ ?_
                                · with_reducible rfl
                                trivial
                              case hSr1e7_u29 => rfl
                              case nxr1e7_u29 =>
                                refine chainT_nil (by rfl) (by kernel_rfl) rfl ?opsr1e7_u29 ?endr1e7_u29
                                case opsr1e7_u29 =>
                                  simp only [OpsAt, fillT, List.setIfInBounds_toArray, List.set_cons_zero, List.set_cons_succ]
                                  try trivial
                                case endr1e7_u29 =>
                                  intro wE hE
                                  simp only [fillT, List.setIfInBounds_toArray, List.set_cons_zero, List.set_cons_succ]
                                  rw [hE]
                                  have ht := (HS7.out).pick [0, 1, 2, 3, 5, 4] (by decide)
                                  simp only [List.filterMap_cons, List.filterMap_nil, List.getElem?_cons_zero, List.getElem?_cons_succ] at ht
                                  try clear kk1
                                  try clear kk2
                                  try clear kk3
                                  try clear kk4
                                  try clear kk5
                                  try clear kk6
                                  try clear kk7
                                  clear hE
                                  generalize (y1).heap.size = p at ht ⊢
                                  generalize ((y6).setCell ⟨p, 0, none⟩ (.slice A1 x.spots.length C1)).setCell ⟨p, 1, none⟩ (.slice A6 x.edges.length C6) = wx at ht ⊢
                                  have HT := Lib.hid ht
                                  clear ht
                                  obtain ⟨gE, hgE, gc, gf, glt⟩ := rowK_at edC_len (by decide) (HT.out.rowOf (i := 4) rfl) (i := k) hlt
                                  subst hgE
                                  have hek : x.edges[k] = ⟨a, b, c0, c1, b0, r0, b1, r1⟩ := Option.some.inj ((List.getElem?_eq_getElem hlt).symm.trans HGK.out)
                                  rw [hek] at gc
                                  have s2 := gc 2 _ rfl
                                  have s3 := gc 3 _ rfl
                                  have f2 := gf (k * 8 + 2)
                                  have f3 := gf (k * 8 + 3)
                                  clear gc gf hek
                                  have k9 := HT.out.all
                                  simp only [allFacts, box_facts, row_facts, emp_facts, cellFacts, Nat.zero_add, Nat.reduceAdd, true_and, and_true] at k9
                                  go_wp2_with fail
                                  refine (HAD.out _).mono ?_
                                  rintro e w61 ⟨rfl, hw⟩
                                  first | rw [show w61 = _ from hw] | rw [show w61 = _ from hw.symm]
                                  clear hw
                                  go_wp2
                                  have hz9 := (HT.out.set 2 rfl 0 (.slice none 0 0)).set 2 rfl 1 (.slice none 0 0)
                                  have hz8 := hz9.below (i := 0) rfl
                                  have HZ8 := Lib.hid hz8
                                  clear hz9 hz8
                                  refine bodyPost_ret (v := .tuple #[.agg #[.slice none 0 0, .slice none 0 0], .int .i64 e]) (by simp only [results, Try.results15]; go_simp) rfl ⟨none, 0, none, 0, ret_web (by rw [HZ.out]; rfl) (by rw [HZ.out]; rfl) (by rw [HZ.out]), by rw [HZ.out]; exact WebAt.none _, HZ8.out⟩
              case mr1e0_1_u29 =>
                refine makeT _ rfl ?wantr1e0_1_u29 ?effr1e0_1_u29
                case wantr1e0_1_u29 => (try simp only [fillT, List.setIfInBounds_toArray, List.set_cons_zero, List.set_cons_succ]) <;> rfl
                intro wS hS
                simp only [fillT, List.setIfInBounds_toArray, List.set_cons_zero, List.set_cons_succ]
                rw [hS]
                refine eff_run (w' := (w3.drew).alloc (.cells #[.slice none 0 0, .slice none 0 0] 31)) (by go_simp; try rfl) ?_
                have hs8 := (H3.out.drew).alloc #[.slice none 0 0, .slice none 0 0] 31
                try simp only [List.cons_append, List.nil_append, List.set_cons_succ, List.set_cons_zero, Nat.zero_add, Nat.reduceAdd, World.size_alloc, World.size_drew] at hs8
                have kk8 := hs8.all
                simp only [allFacts, box_facts, row_facts, emp_facts, cellFacts, Nat.zero_add, Nat.reduceAdd, true_and, and_true] at kk8
                have HS8 := Lib.hid hs8
                clear hs8
                refine ⟨_, [true, true, false, true, true, false, false, true, false], [true, true, false, true, true, false, false, false, false], [], [?vr1e8_0_u29, ?vr1e8_1_u29, undef, ?vr1e8_3_u29, ?vr1e8_4_u29, undef, undef, (.pointer (some ⟨(w3).heap.size, 0, none⟩)), undef], fun w' => w' = (w3.drew).alloc (.cells #[.slice none 0 0, .slice none 0 0] 31), rfl, rfl, ?samer1e8_u29, by kernel_rfl, ?hSr1e8_u29, ?nxr1e8_u29⟩
                case samer1e8_u29 =>
                  refine And.intro ?_ ?_
                  · with_reducible rfl
                  refine And.intro ?_ ?_
                  · with_reducible rfl
                  refine And.intro ?_ ?_
                  · with_reducible rfl
                  refine And.intro ?_ ?_
                  · with_reducible rfl
                  trivial
                case hSr1e8_u29 => rfl
                case nxr1e8_u29 =>
                  refine chainT_one 2 (by decide) (by kernel_rfl) rfl ?opsr1e8_u29 ?mr1e8_0_u29
                  case opsr1e8_u29 =>
                    simp only [OpsAt, fillT, List.setIfInBounds_toArray, List.set_cons_zero, List.set_cons_succ]
                    refine ⟨.inl ⟨by rfl, opOk_pure fun wS hS => ?_⟩, ?_⟩
                    · ((subst hS; go_simp)); try (with_reducible rfl)
                    refine ⟨.inl ⟨by rfl, opOk_pure fun wS hS => ?_⟩, ?_⟩
                    · ((subst hS; go_simp)); try (with_reducible rfl)
                    refine ⟨.inl ⟨by rfl, opOk_pure fun wS hS => ?_⟩, ?_⟩
                    · ((subst hS; go_simp)); try (with_reducible rfl)
                    refine ⟨.inl ⟨by rfl, opOk_pure fun wS hS => ?_⟩, ?_⟩
                    · ((subst hS; go_simp)); try (with_reducible rfl)
                    try trivial
                  case mr1e8_0_u29 =>
                    refine makeT _ rfl ?wantr1e8_0_u29 ?effr1e8_0_u29
                    case wantr1e8_0_u29 => (try simp only [fillT, List.setIfInBounds_toArray, List.set_cons_zero, List.set_cons_succ]) <;> rfl
                    intro wS hS
                    simp only [fillT, List.setIfInBounds_toArray, List.set_cons_zero, List.set_cons_succ]
                    rw [hS]
                    refine eff_call (f := 28) (args := #[.slice As x.spots.length cs]) (by go_simp) ?_
                    refine (cloneS_any ((w3.drew).alloc (.cells #[.slice none 0 0, .slice none 0 0] 31)) As cs x.spots (HW.out.s.mono (src_rest (HS8.out) (i := 0) rfl HW.out.s.src (src_lt HW.out.s.src))) (by omega)).mono ?_
                    rintro e y9 ⟨A9, C9, rfl, gq⟩
                    have hs9 := (HS8.out).pushThings gq
                    try simp only [List.cons_append, List.nil_append, List.set_cons_succ, List.set_cons_zero, Nat.zero_add, Nat.reduceAdd, World.size_alloc, World.size_drew] at hs9
                    have kk9 := hs9.all
                    simp only [allFacts, box_facts, row_facts, emp_facts, cellFacts, Nat.zero_add, Nat.reduceAdd, true_and, and_true] at kk9
                    have HS9 := Lib.hid hs9
                    clear hs9
                    clear gq
                    refine ⟨_, rfl, ?_⟩
                    refine ⟨_, [true, true, true, true, true, false, false, true, false], [false, false, false, true, true, false, false, false, false], [1, 0], [?vr1e9_0_u29, ?vr1e9_1_u29, (.slice A9 x.spots.length C9), ?vr1e9_3_u29, ?vr1e9_4_u29, undef, undef, (.pointer (some ⟨(w3).heap.size, 0, none⟩)), undef], fun w' => w' = y9, rfl, rfl, ?samer1e9_u29, by kernel_rfl, ?hSr1e9_u29, ?nxr1e9_u29⟩
                    case samer1e9_u29 =>
                      refine And.intro ?_ ?_
                      · with_reducible rfl
                      refine And.intro ?_ ?_
                      · with_reducible rfl
                      refine And.intro ?_ ?_
                      · with_reducible rfl
                      refine And.intro ?_ ?_
                      · with_reducible rfl
                      refine And.intro ?_ ?_
                      · with_reducible rfl
                      trivial
                    case hSr1e9_u29 => rfl
                    case nxr1e9_u29 =>
                      refine chainT_one 5 (by decide) (by kernel_rfl) rfl ?opsr1e9_u29 ?mr1e9_0_u29
                      case opsr1e9_u29 =>
                        simp only [OpsAt, fillT, List.setIfInBounds_toArray, List.set_cons_zero, List.set_cons_succ]
                        refine ⟨.inl ⟨by rfl, opOk_pure fun wS hS => ?_⟩, ?_⟩
                        · ((subst hS; go_simp)); try (with_reducible rfl)
                        refine ⟨.inl ⟨by rfl, opOk_pure fun wS hS => ?_⟩, ?_⟩
                        · ((subst hS; go_simp)); try (with_reducible rfl)
                        try trivial
                      case mr1e9_0_u29 =>
                        refine makeT _ rfl ?wantr1e9_0_u29 ?effr1e9_0_u29
                        case wantr1e9_0_u29 => (try simp only [fillT, List.setIfInBounds_toArray, List.set_cons_zero, List.set_cons_succ]) <;> rfl
                        intro wS hS
                        simp only [fillT, List.setIfInBounds_toArray, List.set_cons_zero, List.set_cons_succ]
                        rw [hS]
                        refine eff_call (f := 29) (args := #[.slice (some ⟨g, off, none⟩) x.edges.length ce]) (by go_simp) ?_
                        refine (cloneE_any (y9) (some ⟨g, off, none⟩) ce x.edges (HW.out.e.mono (src_rest (HS9.out) (i := 0) rfl HW.out.e.src (src_lt HW.out.e.src))) (by omega)).mono ?_
                        rintro e y10 ⟨A10, C10, rfl, gq⟩
                        have hs10 := (HS9.out).pushThings gq
                        try simp only [List.cons_append, List.nil_append, List.set_cons_succ, List.set_cons_zero, Nat.zero_add, Nat.reduceAdd, World.size_alloc, World.size_drew] at hs10
                        have kk10 := hs10.all
                        simp only [allFacts, box_facts, row_facts, emp_facts, cellFacts, Nat.zero_add, Nat.reduceAdd, true_and, and_true] at kk10
                        have HS10 := Lib.hid hs10
                        clear hs10
                        clear gq
                        refine ⟨_, rfl, ?_⟩
                        refine ⟨_, [true, true, true, true, true, true, true, true, false], [false, false, false, false, false, false, true, false, false], [4, 3], [?vr1e10_0_u29, ?vr1e10_1_u29, (.slice A9 x.spots.length C9), ?vr1e10_3_u29, ?vr1e10_4_u29, (.slice A10 x.edges.length C10), ?vr1e10_6_u29, (.pointer (some ⟨(w3).heap.size, 0, none⟩)), undef], fun w' => w' = y10, rfl, rfl, ?samer1e10_u29, by kernel_rfl, ?hSr1e10_u29, ?nxr1e10_u29⟩
                        case samer1e10_u29 =>
                          refine And.intro ?_ ?_
                          · with_reducible rfl
                          refine And.intro ?_ ?_
                          · with_reducible rfl
                          refine And.intro ?_ ?_
                          · with_reducible rfl
                          refine And.intro ?_ ?_
                          · with_reducible rfl
                          refine And.intro ?_ ?_
                          · with_reducible rfl
                          refine And.intro ?_ ?_
                          · with_reducible rfl
                          trivial
                        case hSr1e10_u29 => rfl
                        case nxr1e10_u29 =>
                          refine chainT_one 8 (by decide) (by kernel_rfl) rfl ?opsr1e10_u29 ?mr1e10_0_u29
                          case opsr1e10_u29 =>
                            simp only [OpsAt, fillT, List.setIfInBounds_toArray, List.set_cons_zero, List.set_cons_succ]
                            refine ⟨.inl ⟨by rfl, opOk_pure fun wS hS => ?_⟩, ?_⟩
                            · ((subst hS; go_simp)); try (with_reducible rfl)
                            try trivial
                          case mr1e10_0_u29 =>
                            refine makeT _ rfl ?wantr1e10_0_u29 ?effr1e10_0_u29
                            case wantr1e10_0_u29 => (try simp only [fillT, List.setIfInBounds_toArray, List.set_cons_zero, List.set_cons_succ]) <;> rfl
                            intro wS hS
                            simp only [fillT, List.setIfInBounds_toArray, List.set_cons_zero, List.set_cons_succ]
                            rw [hS]
                            refine eff_skip (w' := ((y10).setCell ⟨(w3).heap.size, 0, none⟩ (.slice A9 x.spots.length C9)).setCell ⟨(w3).heap.size, 1, none⟩ (.slice A10 x.edges.length C10)) ?run_u28_u29 ?pp_u28_u29
                            case run_u28_u29 => go_simp
                            case pp_u28_u29 =>
                              have hs11 := ((HS10.out).set 3 rfl 0 (.slice A9 x.spots.length C9)).set 3 rfl 1 (.slice A10 x.edges.length C10)
                              try simp only [List.cons_append, List.nil_append, List.set_cons_succ, List.set_cons_zero, Nat.zero_add, Nat.reduceAdd, World.size_alloc, World.size_drew] at hs11
                              have HS11 := Lib.hid hs11
                              clear hs11
                              refine ⟨_, [true, true, true, true, true, true, true, true, true], [false, false, false, false, false, false, false, false, false], [6], [?vr1e11_0_u29, ?vr1e11_1_u29, (.slice A9 x.spots.length C9), ?vr1e11_3_u29, ?vr1e11_4_u29, (.slice A10 x.edges.length C10), ?vr1e11_6_u29, (.pointer (some ⟨(w3).heap.size, 0, none⟩)), undef], fun w' => w' = ((y10).setCell ⟨(w3).heap.size, 0, none⟩ (.slice A9 x.spots.length C9)).setCell ⟨(w3).heap.size, 1, none⟩ (.slice A10 x.edges.length C10), rfl, rfl, ?samer1e11_u29, by kernel_rfl, ?hSr1e11_u29, ?nxr1e11_u29⟩
                              case samer1e11_u29 =>
                                refine And.intro ?_ ?_
                                · with_reducible rfl
                                refine And.intro ?_ ?_
                                · with_reducible rfl
                                refine And.intro ?_ ?_
                                · with_reducible rfl
                                refine And.intro ?_ ?_
                                · with_reducible rfl
                                refine And.intro ?_ ?_
                                · with_reducible rfl
                                refine And.intro ?_ ?_
                                · with_reducible rfl
                                refine And.intro ?_ ?_
                                · with_reducible rfl
                                refine And.intro ?_ ?_
                                · with_reducible rfl
                                trivial
                              case hSr1e11_u29 => rfl
                              case nxr1e11_u29 =>
                                refine chainT_nil (by rfl) (by kernel_rfl) rfl ?opsr1e11_u29 ?endr1e11_u29
                                case opsr1e11_u29 =>
                                  simp only [OpsAt, fillT, List.setIfInBounds_toArray, List.set_cons_zero, List.set_cons_succ]
                                  try trivial
                                case endr1e11_u29 =>
                                  intro wE hE
                                  simp only [fillT, List.setIfInBounds_toArray, List.set_cons_zero, List.set_cons_succ]
                                  rw [hE]
                                  have ht := (HS11.out).pick [0, 1, 2, 4, 5, 3] (by decide)
                                  simp only [List.filterMap_cons, List.filterMap_nil, List.getElem?_cons_zero, List.getElem?_cons_succ] at ht
                                  try clear kk1
                                  try clear kk2
                                  try clear kk3
                                  try clear kk4
                                  try clear kk5
                                  try clear kk6
                                  try clear kk7
                                  try clear kk8
                                  try clear kk9
                                  try clear kk10
                                  try clear kk11
                                  clear hE
                                  generalize (w3).heap.size = p at ht ⊢
                                  generalize ((y10).setCell ⟨p, 0, none⟩ (.slice A9 x.spots.length C9)).setCell ⟨p, 1, none⟩ (.slice A10 x.edges.length C10) = wx at ht ⊢
                                  have HT := Lib.hid ht
                                  clear ht
                                  obtain ⟨gE, hgE, gc, gf, glt⟩ := rowK_at edC_len (by decide) (HT.out.rowOf (i := 4) rfl) (i := k) hlt
                                  subst hgE
                                  have hek : x.edges[k] = ⟨a, b, c0, c1, b0, r0, b1, r1⟩ := Option.some.inj ((List.getElem?_eq_getElem hlt).symm.trans HGK.out)
                                  rw [hek] at gc
                                  have s2 := gc 2 _ rfl
                                  have s3 := gc 3 _ rfl
                                  have f2 := gf (k * 8 + 2)
                                  have f3 := gf (k * 8 + 3)
                                  clear gc gf hek
                                  have k9 := HT.out.all
                                  simp only [allFacts, box_facts, row_facts, emp_facts, cellFacts, Nat.zero_add, Nat.reduceAdd, true_and, and_true] at k9
                                  go_wp2_with fail
                                  refine (HAD.out _).mono ?_
                                  rintro e w61 ⟨rfl, hw⟩
                                  first | rw [show w61 = _ from hw] | rw [show w61 = _ from hw.symm]
                                  clear hw
                                  go_wp2
                                  have hz9 := (HT.out.set 2 rfl 0 (.slice none 0 0)).set 2 rfl 1 (.slice none 0 0)
                                  have hz8 := hz9.below (i := 0) rfl
                                  have HZ8 := Lib.hid hz8
                                  clear hz9 hz8
                                  refine bodyPost_ret (v := .tuple #[.agg #[.slice none 0 0, .slice none 0 0], .int .i64 e]) (by simp only [results, Try.results15]; go_simp) rfl ⟨none, 0, none, 0, ret_web (by rw [HZ.out]; rfl) (by rw [HZ.out]; rfl) (by rw [HZ.out]), by rw [HZ.out]; exact WebAt.none _, HZ8.out⟩
          · subst he0
            obtain ⟨v0, v1⟩ := hval rfl
            have HZ := Lib.hid (show sentP x k node n = (⟨x.spots, x.edges.set k ⟨a, b, m, c1 - n, b0, r0, b1, r1⟩⟩, 0) from by rw [v0]; exact hsc.trans (if_pos rfl))
            have HAD := HAQ
            have w1' : IntKind.u64.wrap (c1 - n) = c1 - n := by rw [IntKind.wrap_u64]; omega
            clear hsc hval v0 v1
            go_enter Try.func15, Try.ntmps15
            go_wp2_with fail
            refine (HCK.out).mono ?_
            rintro e w2 ⟨rfl, hb⟩
            have h2 := H1.out.grow hb
            have k2 := h2.all
            simp only [allFacts, box_facts, row_facts, emp_facts, cellFacts, Nat.zero_add, Nat.reduceAdd, true_and, and_true] at k2
            have H2 := Lib.hid h2
            clear hb h2
            have q0 := restCell H2.out rfl hb (HC.out 0 _ rfl)
            have q1 := restCell H2.out rfl hb (HC.out 1 _ rfl)
            have q2 := restCell H2.out rfl hb (HC.out 2 _ rfl)
            have q3 := restCell H2.out rfl hb (HC.out 3 _ rfl)
            have q4 := restCell H2.out rfl hb (HC.out 4 _ rfl)
            have q5 := restCell H2.out rfl hb (HC.out 5 _ rfl)
            have q6 := restCell H2.out rfl hb (HC.out 6 _ rfl)
            have q7 := restCell H2.out rfl hb (HC.out 7 _ rfl)
            rw [Nat.add_zero] at q0
            go_wp2_with fail
            refine (HSD.out _).mono ?_
            rintro e w3 ⟨rfl, hb⟩
            clear q0 q1 q2 q3 q4 q5 q6 q7
            have h3 := H2.out.grow hb
            have k3 := h3.all
            simp only [allFacts, box_facts, row_facts, emp_facts, cellFacts, Nat.zero_add, Nat.reduceAdd, true_and, and_true] at k3
            clear k2
            have H3 := Lib.hid h3
            clear hb h3
            go_wp2_with fail
            refine region_chainT (m := 4) (E := [2, 5, 7, 8]) (kn := [true, true, false, true, true, false, false, false, false]) (mask := [true, true, false, true, true, false, false, false, false]) (vs := [?vr1o0_0_u42, ?vr1o0_1_u42, undef, ?vr1o0_3_u42, ?vr1o0_4_u42, undef, undef, undef, undef]) (S := fun w' => w' = w3.drew) (by kernel_rfl) (by kernel_rfl) (by kernel_rfl) (by kernel_rfl) (by kernel_rfl) ?hSr1o_u42 ?hchr1o_u42
            case hSr1o_u42 => exact rfl
            case hchr1o_u42 =>
              refine chainT_two 2 7 (by decide) (by kernel_rfl) rfl ?opsr1o0_u42 ?mr1o0_0_u42 ?mr1o0_1_u42
              case opsr1o0_u42 =>
                simp only [OpsAt, fillT, List.setIfInBounds_toArray, List.set_cons_zero, List.set_cons_succ]
                refine ⟨.inl ⟨by rfl, opOk_pure fun wS hS => ?_⟩, ?_⟩
                · ((subst hS; go_simp)); try (with_reducible rfl)
                refine ⟨.inl ⟨by rfl, opOk_pure fun wS hS => ?_⟩, ?_⟩
                · ((subst hS; go_simp)); try (with_reducible rfl)
                refine ⟨.inl ⟨by rfl, opOk_pure fun wS hS => ?_⟩, ?_⟩
                · ((subst hS; go_simp)); try (with_reducible rfl)
                refine ⟨.inl ⟨by rfl, opOk_pure fun wS hS => ?_⟩, ?_⟩
                · ((subst hS; go_simp)); try (with_reducible rfl)
                try trivial
              case mr1o0_0_u42 =>
                refine makeT _ rfl ?wantr1o0_0_u42 ?effr1o0_0_u42
                case wantr1o0_0_u42 => (try simp only [fillT, List.setIfInBounds_toArray, List.set_cons_zero, List.set_cons_succ]) <;> rfl
                intro wS hS
                simp only [fillT, List.setIfInBounds_toArray, List.set_cons_zero, List.set_cons_succ]
                rw [hS]
                refine eff_call (f := 28) (args := #[.slice As x.spots.length cs]) (by go_simp) ?_
                refine (cloneS_any (w3.drew) As cs x.spots (HW.out.s.mono (src_rest (H3.out.drew) (i := 0) rfl HW.out.s.src (src_lt HW.out.s.src))) (by omega)).mono ?_
                rintro e y1 ⟨A1, C1, rfl, gq⟩
                have hs1 := (H3.out.drew).pushThings gq
                try simp only [List.cons_append, List.nil_append, List.set_cons_succ, List.set_cons_zero, Nat.zero_add, Nat.reduceAdd, World.size_alloc, World.size_drew] at hs1
                have kk1 := hs1.all
                simp only [allFacts, box_facts, row_facts, emp_facts, cellFacts, Nat.zero_add, Nat.reduceAdd, true_and, and_true] at kk1
                have HS1 := Lib.hid hs1
                clear hs1
                clear gq
                refine ⟨_, rfl, ?_⟩
                refine ⟨_, [true, true, true, true, true, false, false, false, false], [false, false, false, true, true, false, false, false, false], [1, 0], [?vr1o1_0_u42, ?vr1o1_1_u42, (.slice A1 x.spots.length C1), ?vr1o1_3_u42, ?vr1o1_4_u42, undef, undef, undef, undef], fun w' => w' = y1, rfl, rfl, ?samer1o1_u42, by kernel_rfl, ?hSr1o1_u42, ?nxr1o1_u42⟩
                case samer1o1_u42 =>
                  refine And.intro ?_ ?_
                  · with_reducible rfl
                  refine And.intro ?_ ?_
                  · with_reducible rfl
                  refine And.intro ?_ ?_
                  · with_reducible rfl
                  refine And.intro ?_ ?_
                  · with_reducible rfl
                  trivial
                case hSr1o1_u42 => rfl
                case nxr1o1_u42 =>
                  refine chainT_two 5 7 (by decide) (by kernel_rfl) rfl ?opsr1o1_u42 ?mr1o1_0_u42 ?mr1o1_1_u42
                  case opsr1o1_u42 =>
                    simp only [OpsAt, fillT, List.setIfInBounds_toArray, List.set_cons_zero, List.set_cons_succ]
                    refine ⟨.inl ⟨by rfl, opOk_pure fun wS hS => ?_⟩, ?_⟩
                    · ((subst hS; go_simp)); try (with_reducible rfl)
                    refine ⟨.inl ⟨by rfl, opOk_pure fun wS hS => ?_⟩, ?_⟩
                    · ((subst hS; go_simp)); try (with_reducible rfl)
                    try trivial
                  case mr1o1_0_u42 =>
                    refine makeT _ rfl ?wantr1o1_0_u42 ?effr1o1_0_u42
                    case wantr1o1_0_u42 => (try simp only [fillT, List.setIfInBounds_toArray, List.set_cons_zero, List.set_cons_succ]) <;> rfl
                    intro wS hS
                    simp only [fillT, List.setIfInBounds_toArray, List.set_cons_zero, List.set_cons_succ]
                    rw [hS]
                    refine eff_call (f := 29) (args := #[.slice (some ⟨g, off, none⟩) x.edges.length ce]) (by go_simp) ?_
                    refine (cloneE_any (y1) (some ⟨g, off, none⟩) ce x.edges (HW.out.e.mono (src_rest (HS1.out) (i := 0) rfl HW.out.e.src (src_lt HW.out.e.src))) (by omega)).mono ?_
                    rintro e y2 ⟨A2, C2, rfl, gq⟩
                    have hs2 := (HS1.out).pushThings gq
                    try simp only [List.cons_append, List.nil_append, List.set_cons_succ, List.set_cons_zero, Nat.zero_add, Nat.reduceAdd, World.size_alloc, World.size_drew] at hs2
                    have kk2 := hs2.all
                    simp only [allFacts, box_facts, row_facts, emp_facts, cellFacts, Nat.zero_add, Nat.reduceAdd, true_and, and_true] at kk2
                    have HS2 := Lib.hid hs2
                    clear hs2
                    clear gq
                    refine ⟨_, rfl, ?_⟩
                    refine ⟨_, [true, true, true, true, true, true, true, false, false], [false, false, false, false, false, false, true, false, false], [4, 3], [?vr1o2_0_u42, ?vr1o2_1_u42, (.slice A1 x.spots.length C1), ?vr1o2_3_u42, ?vr1o2_4_u42, (.slice A2 x.edges.length C2), ?vr1o2_6_u42, undef, undef], fun w' => w' = y2, rfl, rfl, ?samer1o2_u42, by kernel_rfl, ?hSr1o2_u42, ?nxr1o2_u42⟩
                    case samer1o2_u42 =>
                      refine And.intro ?_ ?_
                      · with_reducible rfl
                      refine And.intro ?_ ?_
                      · with_reducible rfl
                      refine And.intro ?_ ?_
                      · with_reducible rfl
                      refine And.intro ?_ ?_
                      · with_reducible rfl
                      refine And.intro ?_ ?_
                      · with_reducible rfl
                      trivial
                    case hSr1o2_u42 => rfl
                    case nxr1o2_u42 =>
                      refine chainT_one 7 (by decide) (by kernel_rfl) rfl ?opsr1o2_u42 ?mr1o2_0_u42
                      case opsr1o2_u42 =>
                        simp only [OpsAt, fillT, List.setIfInBounds_toArray, List.set_cons_zero, List.set_cons_succ]
                        refine ⟨.inl ⟨by rfl, opOk_pure fun wS hS => ?_⟩, ?_⟩
                        · ((subst hS; go_simp)); try (with_reducible rfl)
                        try trivial
                      case mr1o2_0_u42 =>
                        refine makeT _ rfl ?wantr1o2_0_u42 ?effr1o2_0_u42
                        case wantr1o2_0_u42 => (try simp only [fillT, List.setIfInBounds_toArray, List.set_cons_zero, List.set_cons_succ]) <;> rfl
                        intro wS hS
                        simp only [fillT, List.setIfInBounds_toArray, List.set_cons_zero, List.set_cons_succ]
                        rw [hS]
                        refine eff_run (w' := (y2).alloc (.cells #[.slice none 0 0, .slice none 0 0] 31)) (by go_simp; try rfl) ?_
                        have hs3 := (HS2.out).alloc #[.slice none 0 0, .slice none 0 0] 31
                        try simp only [List.cons_append, List.nil_append, List.set_cons_succ, List.set_cons_zero, Nat.zero_add, Nat.reduceAdd, World.size_alloc, World.size_drew] at hs3
                        have kk3 := hs3.all
                        simp only [allFacts, box_facts, row_facts, emp_facts, cellFacts, Nat.zero_add, Nat.reduceAdd, true_and, and_true] at kk3
                        have HS3 := Lib.hid hs3
                        clear hs3
                        refine ⟨_, [true, true, true, true, true, true, true, true, false], [false, false, false, false, false, false, true, false, false], [], [?vr1o3_0_u42, ?vr1o3_1_u42, (.slice A1 x.spots.length C1), ?vr1o3_3_u42, ?vr1o3_4_u42, (.slice A2 x.edges.length C2), ?vr1o3_6_u42, (.pointer (some ⟨(y2).heap.size, 0, none⟩)), undef], fun w' => w' = (y2).alloc (.cells #[.slice none 0 0, .slice none 0 0] 31), rfl, rfl, ?samer1o3_u42, by kernel_rfl, ?hSr1o3_u42, ?nxr1o3_u42⟩
                        case samer1o3_u42 =>
                          refine And.intro ?_ ?_
                          · with_reducible rfl
                          refine And.intro ?_ ?_
                          · with_reducible rfl
                          refine And.intro ?_ ?_
                          · with_reducible rfl
                          refine And.intro ?_ ?_
                          · with_reducible rfl
                          refine And.intro ?_ ?_
                          · with_reducible rfl
                          refine And.intro ?_ ?_
                          · with_reducible rfl
                          refine And.intro ?_ ?_
                          · with_reducible rfl
                          trivial
                        case hSr1o3_u42 => rfl
                        case nxr1o3_u42 =>
                          refine chainT_one 8 (by decide) (by kernel_rfl) rfl ?opsr1o3_u42 ?mr1o3_0_u42
                          case opsr1o3_u42 =>
                            simp only [OpsAt, fillT, List.setIfInBounds_toArray, List.set_cons_zero, List.set_cons_succ]
                            refine ⟨.inl ⟨by rfl, opOk_pure fun wS hS => ?_⟩, ?_⟩
                            · ((subst hS; go_simp)); try (with_reducible rfl)
                            try trivial
                          case mr1o3_0_u42 =>
                            refine makeT _ rfl ?wantr1o3_0_u42 ?effr1o3_0_u42
                            case wantr1o3_0_u42 => (try simp only [fillT, List.setIfInBounds_toArray, List.set_cons_zero, List.set_cons_succ]) <;> rfl
                            intro wS hS
                            simp only [fillT, List.setIfInBounds_toArray, List.set_cons_zero, List.set_cons_succ]
                            rw [hS]
                            refine eff_skip (w' := (((y2).alloc (.cells #[.slice none 0 0, .slice none 0 0] 31)).setCell ⟨(y2).heap.size, 0, none⟩ (.slice A1 x.spots.length C1)).setCell ⟨(y2).heap.size, 1, none⟩ (.slice A2 x.edges.length C2)) ?run_u30_u42 ?pp_u30_u42
                            case run_u30_u42 => go_simp
                            case pp_u30_u42 =>
                              have hs4 := ((HS3.out).set 5 rfl 0 (.slice A1 x.spots.length C1)).set 5 rfl 1 (.slice A2 x.edges.length C2)
                              try simp only [List.cons_append, List.nil_append, List.set_cons_succ, List.set_cons_zero, Nat.zero_add, Nat.reduceAdd, World.size_alloc, World.size_drew] at hs4
                              have HS4 := Lib.hid hs4
                              clear hs4
                              refine ⟨_, [true, true, true, true, true, true, true, true, true], [false, false, false, false, false, false, false, false, false], [6], [?vr1o4_0_u42, ?vr1o4_1_u42, (.slice A1 x.spots.length C1), ?vr1o4_3_u42, ?vr1o4_4_u42, (.slice A2 x.edges.length C2), ?vr1o4_6_u42, (.pointer (some ⟨(y2).heap.size, 0, none⟩)), undef], fun w' => w' = (((y2).alloc (.cells #[.slice none 0 0, .slice none 0 0] 31)).setCell ⟨(y2).heap.size, 0, none⟩ (.slice A1 x.spots.length C1)).setCell ⟨(y2).heap.size, 1, none⟩ (.slice A2 x.edges.length C2), rfl, rfl, ?samer1o4_u42, by kernel_rfl, ?hSr1o4_u42, ?nxr1o4_u42⟩
                              case samer1o4_u42 =>
                                refine And.intro ?_ ?_
                                · with_reducible rfl
                                refine And.intro ?_ ?_
                                · with_reducible rfl
                                refine And.intro ?_ ?_
                                · with_reducible rfl
                                refine And.intro ?_ ?_
                                · with_reducible rfl
                                refine And.intro ?_ ?_
                                · with_reducible rfl
                                refine And.intro ?_ ?_
                                · with_reducible rfl
                                refine And.intro ?_ ?_
                                · with_reducible rfl
                                refine And.intro ?_ ?_
                                · with_reducible rfl
                                trivial
                              case hSr1o4_u42 => rfl
                              case nxr1o4_u42 =>
                                refine chainT_nil (by rfl) (by kernel_rfl) rfl ?opsr1o4_u42 ?endr1o4_u42
                                case opsr1o4_u42 =>
                                  simp only [OpsAt, fillT, List.setIfInBounds_toArray, List.set_cons_zero, List.set_cons_succ]
                                  try trivial
                                case endr1o4_u42 =>
                                  intro wE hE
                                  simp only [fillT, List.setIfInBounds_toArray, List.set_cons_zero, List.set_cons_succ]
                                  rw [hE]
                                  have ht := (HS4.out).pick [0, 1, 2, 3, 4, 5] (by decide)
                                  simp only [List.filterMap_cons, List.filterMap_nil, List.getElem?_cons_zero, List.getElem?_cons_succ] at ht
                                  try clear kk1
                                  try clear kk2
                                  try clear kk3
                                  try clear kk4
                                  clear hE
                                  generalize (y2).heap.size = p at ht ⊢
                                  generalize (((y2).alloc (.cells #[.slice none 0 0, .slice none 0 0] 31)).setCell ⟨p, 0, none⟩ (.slice A1 x.spots.length C1)).setCell ⟨p, 1, none⟩ (.slice A2 x.edges.length C2) = wx at ht ⊢
                                  have HT := Lib.hid ht
                                  clear ht
                                  obtain ⟨gE, hgE, gc, gf, glt⟩ := rowK_at edC_len (by decide) (HT.out.rowOf (i := 4) rfl) (i := k) hlt
                                  subst hgE
                                  have hek : x.edges[k] = ⟨a, b, c0, c1, b0, r0, b1, r1⟩ := Option.some.inj ((List.getElem?_eq_getElem hlt).symm.trans HGK.out)
                                  rw [hek] at gc
                                  have s2 := gc 2 _ rfl
                                  have s3 := gc 3 _ rfl
                                  have f2 := gf (k * 8 + 2)
                                  have f3 := gf (k * 8 + 3)
                                  clear gc gf hek
                                  have k9 := HT.out.all
                                  simp only [allFacts, box_facts, row_facts, emp_facts, cellFacts, Nat.zero_add, Nat.reduceAdd, true_and, and_true] at k9
                                  go_wp2_with fail
                                  refine (HAD.out _).mono ?_
                                  rintro e w61 ⟨rfl, hw⟩
                                  first | rw [show w61 = _ from hw] | rw [show w61 = _ from hw.symm]
                                  clear hw
                                  have hk1 := HT.out.drew.setRowK edC_len 4 rfl (i := k) hlt (j := 3) (by decide) (.int .u64 (c1 - n)) (⟨a, b, c0, c1 - n, b0, r0, b1, r1⟩ : Edg) (by rw [show x.edges[k] = ⟨a, b, c0, c1, b0, r0, b1, r1⟩ from Option.some.inj ((List.getElem?_eq_getElem hlt).symm.trans HGK.out)]; rfl)
                                  try simp only [List.cons_append, List.nil_append, List.set_cons_succ, List.set_cons_zero, Nat.zero_add, Nat.reduceAdd, World.size_alloc, World.size_drew] at hk1
                                  have hk2 := hk1.setRowK edC_len 4 rfl (i := k) (by simpa using hlt) (j := 2) (by decide) (.int .u64 m) (⟨a, b, m, c1 - n, b0, r0, b1, r1⟩ : Edg) (by simp [edC])
                                  try simp only [List.cons_append, List.nil_append, List.set_cons_succ, List.set_cons_zero, Nat.zero_add, Nat.reduceAdd, World.size_alloc, World.size_drew] at hk2
                                  simp only [List.length_set, List.set_set] at hk2
                                  have HK0 := Lib.hid hk2
                                  clear hk1 hk2
                                  go_wp2_with fail
                                  refine region_chain (E := [17, 21]) (kn := [true, true, true, true, true, true, true, true, true, true, true, true, true, true, true, true, true, false, true, true, false, false]) (mask := [true, true, true, true, true, true, true, true, true, true, true, true, true, true, true, true, true, false, true, true, false, false]) (vs := [?vs0_0_u33_u42, ?vs0_1_u33_u42, ?vs0_2_u33_u42, ?vs0_3_u33_u42, ?vs0_4_u33_u42, ?vs0_5_u33_u42, ?vs0_6_u33_u42, ?vs0_7_u33_u42, ?vs0_8_u33_u42, ?vs0_9_u33_u42, ?vs0_10_u33_u42, ?vs0_11_u33_u42, ?vs0_12_u33_u42, ?vs0_13_u33_u42, ?vs0_14_u33_u42, ?vs0_15_u33_u42, ?vs0_16_u33_u42, undef, ?vs0_18_u33_u42, ?vs0_19_u33_u42, undef, undef]) (S := fun w' => w' = (wx).drew) (by kernel_rfl) (by kernel_rfl) (by kernel_rfl) (by kernel_rfl) (by kernel_rfl) ?hSs_u33_u42 ?hchs_u33_u42
                                  case hSs_u33_u42 => exact rfl
                                  case hchs_u33_u42 =>
                                    refine chain_cons _ (by kernel_rfl) rfl rfl ?opss0_u33_u42 ?wants0_u33_u42 ?effs0_u33_u42
                                    case opss0_u33_u42 =>
                                      simp only [OpsAt, fillT, List.setIfInBounds_toArray, List.set_cons_zero, List.set_cons_succ]
                                      refine ⟨.inl ⟨by rfl, opOk_pure fun wS hS => ?_⟩, ?_⟩
                                      · ((subst hS; go_simp; try simp (disch := omega) only [wrap64_id])); try (with_reducible rfl)
                                      refine ⟨.inl ⟨by rfl, opOk_pure fun wS hS => ?_⟩, ?_⟩
                                      · ((subst hS; go_simp; try simp (disch := omega) only [wrap64_id])); try (with_reducible rfl)
                                      refine ⟨.inl ⟨by rfl, opOk_pure fun wS hS => ?_⟩, ?_⟩
                                      · ((subst hS; go_simp; try simp (disch := omega) only [wrap64_id])); try (with_reducible rfl)
                                      refine ⟨.inl ⟨by rfl, opOk_pure fun wS hS => ?_⟩, ?_⟩
                                      · ((subst hS; go_simp; try simp (disch := omega) only [wrap64_id])); try (with_reducible rfl)
                                      refine ⟨.inl ⟨by rfl, opOk_pure fun wS hS => ?_⟩, ?_⟩
                                      · ((subst hS; go_simp; try simp (disch := omega) only [wrap64_id])); try (with_reducible rfl)
                                      refine ⟨.inl ⟨by rfl, opOk_pure fun wS hS => ?_⟩, ?_⟩
                                      · ((subst hS; go_simp; try simp (disch := omega) only [wrap64_id])); try (with_reducible rfl)
                                      refine ⟨.inl ⟨by rfl, opOk_pure fun wS hS => ?_⟩, ?_⟩
                                      · ((subst hS; go_simp; try simp (disch := omega) only [wrap64_id])); try (with_reducible rfl)
                                      refine ⟨.inl ⟨by rfl, opOk_pure fun wS hS => ?_⟩, ?_⟩
                                      · ((subst hS; go_simp; try simp (disch := omega) only [wrap64_id])); try (with_reducible rfl)
                                      refine ⟨.inl ⟨by rfl, opOk_pure fun wS hS => ?_⟩, ?_⟩
                                      · ((subst hS; go_simp; try simp (disch := omega) only [wrap64_id])); try (with_reducible rfl)
                                      refine ⟨.inl ⟨by rfl, opOk_pure fun wS hS => ?_⟩, ?_⟩
                                      · ((subst hS; go_simp; try simp (disch := omega) only [wrap64_id])); try (with_reducible rfl)
                                      refine ⟨.inl ⟨by rfl, opOk_pure fun wS hS => ?_⟩, ?_⟩
                                      · ((subst hS; go_simp; try simp (disch := omega) only [wrap64_id])); try (with_reducible rfl)
                                      refine ⟨.inl ⟨by rfl, opOk_pure fun wS hS => ?_⟩, ?_⟩
                                      · ((subst hS; go_simp; try simp (disch := omega) only [wrap64_id])); try (with_reducible rfl)
                                      refine ⟨.inl ⟨by rfl, opOk_pure fun wS hS => ?_⟩, ?_⟩
                                      · ((subst hS; go_simp; try simp (disch := omega) only [wrap64_id])); try (with_reducible rfl)
                                      refine ⟨.inl ⟨by rfl, opOk_pure fun wS hS => ?_⟩, ?_⟩
                                      · ((subst hS; go_simp; try simp (disch := omega) only [wrap64_id])); try (with_reducible rfl)
                                      refine ⟨.inl ⟨by rfl, opOk_pure fun wS hS => ?_⟩, ?_⟩
                                      · ((subst hS; go_simp; try simp (disch := omega) only [wrap64_id])); try (with_reducible rfl)
                                      refine ⟨.inl ⟨by rfl, opOk_pure fun wS hS => ?_⟩, ?_⟩
                                      · ((subst hS; go_simp; try simp (disch := omega) only [wrap64_id])); try (with_reducible rfl)
                                      refine ⟨.inl ⟨by rfl, opOk_pure fun wS hS => ?_⟩, ?_⟩
                                      · ((subst hS; go_simp; try simp (disch := omega) only [wrap64_id])); try (with_reducible rfl)
                                      refine ⟨.inl ⟨by rfl, opOk_pure fun wS hS => ?_⟩, ?_⟩
                                      · ((subst hS; go_simp; try simp (disch := omega) only [wrap64_id])); try (with_reducible rfl)
                                      refine ⟨.inl ⟨by rfl, opOk_pure fun wS hS => ?_⟩, ?_⟩
                                      · ((subst hS; go_simp; try simp (disch := omega) only [wrap64_id])); try (with_reducible rfl)
                                      try trivial
                                    case wants0_u33_u42 => (try simp only [fillT, List.setIfInBounds_toArray, List.set_cons_zero, List.set_cons_succ]) <;> rfl
                                    case effs0_u33_u42 =>
                                      intro wS hS
                                      simp only [fillT, List.setIfInBounds_toArray, List.set_cons_zero, List.set_cons_succ]
                                      rw [hS]
                                      refine eff_skip (w' := ((wx).drew).setCell ⟨gE, k * 8 + 3, none⟩ (.int .u64 (c1 - n))) ?run_u31_u33_u42 ?pp_u31_u33_u42
                                      case run_u31_u33_u42 => go_simp
                                      case pp_u31_u33_u42 =>
                                        refine ⟨_, [true, true, true, true, true, true, true, true, true, true, true, true, true, true, true, true, true, true, true, true, true, false], [false, false, true, true, true, false, false, false, false, false, false, false, false, true, false, false, false, false, true, true, true, false], [16, 12, 0, 1, 5, 6, 7, 8, 9, 10, 11, 15, 14], [?vs1_0_u33_u42, ?vs1_1_u33_u42, ?vs1_2_u33_u42, ?vs1_3_u33_u42, ?vs1_4_u33_u42, ?vs1_5_u33_u42, ?vs1_6_u33_u42, ?vs1_7_u33_u42, ?vs1_8_u33_u42, ?vs1_9_u33_u42, ?vs1_10_u33_u42, ?vs1_11_u33_u42, ?vs1_12_u33_u42, ?vs1_13_u33_u42, ?vs1_14_u33_u42, ?vs1_15_u33_u42, ?vs1_16_u33_u42, undef, ?vs1_18_u33_u42, ?vs1_19_u33_u42, ?vs1_20_u33_u42, undef], fun w' => w' = ((wx).drew).setCell ⟨gE, k * 8 + 3, none⟩ (.int .u64 (c1 - n)), rfl, rfl, ?sames0_u33_u42, by kernel_rfl, ?hSs0_u33_u42, ?nxs0_u33_u42⟩
                                        case sames0_u33_u42 =>
                                          refine And.intro ?_ ?_
                                          · with_reducible rfl
                                          refine And.intro ?_ ?_
                                          · with_reducible rfl
                                          refine And.intro ?_ ?_
                                          · with_reducible rfl
                                          refine And.intro ?_ ?_
                                          · with_reducible rfl
                                          refine And.intro ?_ ?_
                                          · with_reducible rfl
                                          refine And.intro ?_ ?_
                                          · with_reducible rfl
                                          refine And.intro ?_ ?_
                                          · with_reducible rfl
                                          refine And.intro ?_ ?_
                                          · with_reducible rfl
                                          refine And.intro ?_ ?_
                                          · with_reducible rfl
                                          refine And.intro ?_ ?_
                                          · with_reducible rfl
                                          refine And.intro ?_ ?_
                                          · with_reducible rfl
                                          refine And.intro ?_ ?_
                                          · with_reducible rfl
                                          refine And.intro ?_ ?_
                                          · with_reducible rfl
                                          refine And.intro ?_ ?_
                                          · with_reducible rfl
                                          refine And.intro ?_ ?_
                                          · with_reducible rfl
                                          refine And.intro ?_ ?_
                                          · with_reducible rfl
                                          refine And.intro ?_ ?_
                                          · with_reducible rfl
                                          refine And.intro ?_ ?_
                                          · with_reducible rfl
                                          refine And.intro ?_ ?_
                                          · with_reducible rfl
                                          trivial
                                        case hSs0_u33_u42 => rfl
                                        case nxs0_u33_u42 =>
                                          refine chain_cons _ (by kernel_rfl) rfl rfl ?opss1_u33_u42 ?wants1_u33_u42 ?effs1_u33_u42
                                          case opss1_u33_u42 =>
                                            simp only [OpsAt, fillT, List.setIfInBounds_toArray, List.set_cons_zero, List.set_cons_succ]
                                            refine ⟨.inl ⟨by rfl, opOk_pure fun wS hS => ?_⟩, ?_⟩
                                            · ((subst hS; go_simp; try simp (disch := omega) only [wrap64_id])); try (with_reducible rfl)
                                            refine ⟨.inl ⟨by rfl, opOk_pure fun wS hS => ?_⟩, ?_⟩
                                            · ((subst hS; go_simp; try simp (disch := omega) only [wrap64_id])); try (with_reducible rfl)
                                            refine ⟨.inl ⟨by rfl, opOk_pure fun wS hS => ?_⟩, ?_⟩
                                            · ((subst hS; go_simp; try simp (disch := omega) only [wrap64_id])); try (with_reducible rfl)
                                            refine ⟨.inl ⟨by rfl, opOk_pure fun wS hS => ?_⟩, ?_⟩
                                            · ((subst hS; go_simp; try simp (disch := omega) only [wrap64_id])); try (with_reducible rfl)
                                            refine ⟨.inl ⟨by rfl, opOk_pure fun wS hS => ?_⟩, ?_⟩
                                            · ((subst hS; go_simp; try simp (disch := omega) only [wrap64_id])); try (with_reducible rfl)
                                            refine ⟨.inl ⟨by rfl, opOk_pure fun wS hS => ?_⟩, ?_⟩
                                            · ((subst hS; go_simp; try simp (disch := omega) only [wrap64_id])); try (with_reducible rfl)
                                            refine ⟨.inl ⟨by rfl, opOk_pure fun wS hS => ?_⟩, ?_⟩
                                            · ((subst hS; go_simp; try simp (disch := omega) only [wrap64_id])); try (with_reducible rfl)
                                            try trivial
                                          case wants1_u33_u42 => (try simp only [fillT, List.setIfInBounds_toArray, List.set_cons_zero, List.set_cons_succ]) <;> rfl
                                          case effs1_u33_u42 =>
                                            intro wS hS
                                            simp only [fillT, List.setIfInBounds_toArray, List.set_cons_zero, List.set_cons_succ]
                                            rw [hS]
                                            refine eff_skip (w' := (((wx).drew).setCell ⟨gE, k * 8 + 3, none⟩ (.int .u64 (c1 - n))).setCell ⟨gE, k * 8 + 2, none⟩ (.int .u64 m)) ?run_u32_u33_u42 ?pp_u32_u33_u42
                                            case run_u32_u33_u42 => go_simp
                                            case pp_u32_u33_u42 =>
                                              refine ⟨_, [true, true, true, true, true, true, true, true, true, true, true, true, true, true, true, true, true, true, true, true, true, true], [false, false, false, false, false, false, false, false, false, false, false, false, false, false, false, false, false, false, false, false, false, false], [20, 13, 2, 3, 4, 19, 18], [?vs2_0_u33_u42, ?vs2_1_u33_u42, ?vs2_2_u33_u42, ?vs2_3_u33_u42, ?vs2_4_u33_u42, ?vs2_5_u33_u42, ?vs2_6_u33_u42, ?vs2_7_u33_u42, ?vs2_8_u33_u42, ?vs2_9_u33_u42, ?vs2_10_u33_u42, ?vs2_11_u33_u42, ?vs2_12_u33_u42, ?vs2_13_u33_u42, ?vs2_14_u33_u42, ?vs2_15_u33_u42, ?vs2_16_u33_u42, undef, ?vs2_18_u33_u42, ?vs2_19_u33_u42, ?vs2_20_u33_u42, undef], fun w' => w' = (((wx).drew).setCell ⟨gE, k * 8 + 3, none⟩ (.int .u64 (c1 - n))).setCell ⟨gE, k * 8 + 2, none⟩ (.int .u64 m), rfl, rfl, ?sames1_u33_u42, by kernel_rfl, ?hSs1_u33_u42, ?nxs1_u33_u42⟩
                                              case sames1_u33_u42 =>
                                                refine And.intro ?_ ?_
                                                · with_reducible rfl
                                                refine And.intro ?_ ?_
                                                · with_reducible rfl
                                                refine And.intro ?_ ?_
                                                · with_reducible rfl
                                                refine And.intro ?_ ?_
                                                · with_reducible rfl
                                                refine And.intro ?_ ?_
                                                · with_reducible rfl
                                                refine And.intro ?_ ?_
                                                · with_reducible rfl
                                                refine And.intro ?_ ?_
                                                · with_reducible rfl
                                                refine And.intro ?_ ?_
                                                · with_reducible rfl
                                                refine And.intro ?_ ?_
                                                · with_reducible rfl
                                                refine And.intro ?_ ?_
                                                · with_reducible rfl
                                                refine And.intro ?_ ?_
                                                · with_reducible rfl
                                                refine And.intro ?_ ?_
                                                · with_reducible rfl
                                                refine And.intro ?_ ?_
                                                · with_reducible rfl
                                                refine And.intro ?_ ?_
                                                · with_reducible rfl
                                                refine And.intro ?_ ?_
                                                · with_reducible rfl
                                                refine And.intro ?_ ?_
                                                · with_reducible rfl
                                                refine And.intro ?_ ?_
                                                · with_reducible rfl
                                                refine And.intro ?_ ?_
                                                · with_reducible rfl
                                                refine And.intro ?_ ?_
                                                · with_reducible rfl
                                                refine And.intro ?_ ?_
                                                · with_reducible rfl
                                                refine And.intro ?_ ?_
                                                · with_reducible rfl
                                                trivial
                                              case hSs1_u33_u42 => rfl
                                              case nxs1_u33_u42 =>
                                                refine chain_nil (by kernel_rfl) rfl ?opss2_u33_u42 ?ends2_u33_u42
                                                case opss2_u33_u42 =>
                                                  simp only [OpsAt, fillT, List.setIfInBounds_toArray, List.set_cons_zero, List.set_cons_succ]
                                                  try trivial
                                                case ends2_u33_u42 =>
                                                  intro wE hE
                                                  simp only [fillT, List.setIfInBounds_toArray, List.set_cons_zero, List.set_cons_succ]
                                                  rw [hE]
                                                  clear hE s2 s3 f2 f3 k9
                                                  have hk := HK0.out
                                                  generalize (((wx).drew).setCell ⟨gE, k * 8 + 3, none⟩ (.int .u64 (c1 - n))).setCell ⟨gE, k * 8 + 2, none⟩ (.int .u64 m) = wy at hk ⊢
                                                  have HK := Lib.hid hk
                                                  clear hk HK0
                                                  skip
                                                  have k7 := HK.out.all
                                                  simp only [allFacts, box_facts, row_facts, emp_facts, cellFacts, Nat.zero_add, Nat.reduceAdd, true_and, and_true] at k7
                                                  go_wp2
                                                  have h8 := (HK.out.set 2 rfl 0 (.slice A1 x.spots.length C1)).set 2 rfl 1 (.slice (some ⟨gE, 0, none⟩) x.edges.length C2)
                                                  try simp only [List.cons_append, List.nil_append, List.set_cons_succ, List.set_cons_zero, Nat.zero_add, Nat.reduceAdd, World.size_alloc, World.size_drew] at h8
                                                  have hW9 := WebAt.ofRows (i := 3) (j := 4) (x := ⟨x.spots, x.edges.set k (⟨a, b, m, c1 - n, b0, r0, b1, r1⟩ : Edg)⟩) (c2 := C2) (A2 := some ⟨gE, 0, none⟩) h8 rfl (by rw [List.length_set]; rfl) ⟨by first | omega | (dsimp only; omega), by first | (rw [List.length_set]; omega) | (rw [List.length_set]; dsimp only; omega)⟩
                                                  have HW9 := Lib.hid hW9
                                                  have hb9 := h8.below (i := 0) rfl
                                                  have HB9 := Lib.hid hb9
                                                  clear h8 hW9 hb9
                                                  refine bodyPost_ret (v := .tuple #[.agg #[.slice A1 x.spots.length C1, .slice (some ⟨gE, 0, none⟩) x.edges.length C2], .int .i64 0]) (by simp only [results, Try.results15]; go_simp) rfl ⟨A1, C1, some ⟨gE, 0, none⟩, C2, ret_web (by rw [HZ.out]) (by rw [HZ.out]; simp) (by rw [HZ.out]), by rw [HZ.out]; exact HW9.out, HB9.out⟩
                  case mr1o1_1_u42 =>
                    refine makeT _ rfl ?wantr1o1_1_u42 ?effr1o1_1_u42
                    case wantr1o1_1_u42 => (try simp only [fillT, List.setIfInBounds_toArray, List.set_cons_zero, List.set_cons_succ]) <;> rfl
                    intro wS hS
                    simp only [fillT, List.setIfInBounds_toArray, List.set_cons_zero, List.set_cons_succ]
                    rw [hS]
                    refine eff_run (w' := (y1).alloc (.cells #[.slice none 0 0, .slice none 0 0] 31)) (by go_simp; try rfl) ?_
                    have hs5 := (HS1.out).alloc #[.slice none 0 0, .slice none 0 0] 31
                    try simp only [List.cons_append, List.nil_append, List.set_cons_succ, List.set_cons_zero, Nat.zero_add, Nat.reduceAdd, World.size_alloc, World.size_drew] at hs5
                    have kk5 := hs5.all
                    simp only [allFacts, box_facts, row_facts, emp_facts, cellFacts, Nat.zero_add, Nat.reduceAdd, true_and, and_true] at kk5
                    have HS5 := Lib.hid hs5
                    clear hs5
                    refine ⟨_, [true, true, true, true, true, false, false, true, false], [false, false, false, true, true, false, false, false, false], [], [?vr1o5_0_u42, ?vr1o5_1_u42, (.slice A1 x.spots.length C1), ?vr1o5_3_u42, ?vr1o5_4_u42, undef, undef, (.pointer (some ⟨(y1).heap.size, 0, none⟩)), undef], fun w' => w' = (y1).alloc (.cells #[.slice none 0 0, .slice none 0 0] 31), rfl, rfl, ?samer1o5_u42, by kernel_rfl, ?hSr1o5_u42, ?nxr1o5_u42⟩
                    case samer1o5_u42 =>
                      refine And.intro ?_ ?_
                      · with_reducible rfl
                      refine And.intro ?_ ?_
                      · with_reducible rfl
                      refine And.intro ?_ ?_
                      · with_reducible rfl
                      refine And.intro ?_ ?_
                      · with_reducible rfl
                      refine And.intro ?_ ?_
                      · with_reducible rfl
                      trivial
                    case hSr1o5_u42 => rfl
                    case nxr1o5_u42 =>
                      refine chainT_one 5 (by decide) (by kernel_rfl) rfl ?opsr1o5_u42 ?mr1o5_0_u42
                      case opsr1o5_u42 =>
                        simp only [OpsAt, fillT, List.setIfInBounds_toArray, List.set_cons_zero, List.set_cons_succ]
                        refine ⟨.inl ⟨by rfl, opOk_pure fun wS hS => ?_⟩, ?_⟩
                        · ((subst hS; go_simp)); try (with_reducible rfl)
                        refine ⟨.inl ⟨by rfl, opOk_pure fun wS hS => ?_⟩, ?_⟩
                        · ((subst hS; go_simp)); try (with_reducible rfl)
                        try trivial
                      case mr1o5_0_u42 =>
                        refine makeT _ rfl ?wantr1o5_0_u42 ?effr1o5_0_u42
                        case wantr1o5_0_u42 => (try simp only [fillT, List.setIfInBounds_toArray, List.set_cons_zero, List.set_cons_succ]) <;> rfl
                        intro wS hS
                        simp only [fillT, List.setIfInBounds_toArray, List.set_cons_zero, List.set_cons_succ]
                        rw [hS]
                        refine eff_call (f := 29) (args := #[.slice (some ⟨g, off, none⟩) x.edges.length ce]) (by go_simp) ?_
                        refine (cloneE_any ((y1).alloc (.cells #[.slice none 0 0, .slice none 0 0] 31)) (some ⟨g, off, none⟩) ce x.edges (HW.out.e.mono (src_rest (HS5.out) (i := 0) rfl HW.out.e.src (src_lt HW.out.e.src))) (by omega)).mono ?_
                        rintro e y6 ⟨A6, C6, rfl, gq⟩
                        have hs6 := (HS5.out).pushThings gq
                        try simp only [List.cons_append, List.nil_append, List.set_cons_succ, List.set_cons_zero, Nat.zero_add, Nat.reduceAdd, World.size_alloc, World.size_drew] at hs6
                        have kk6 := hs6.all
                        simp only [allFacts, box_facts, row_facts, emp_facts, cellFacts, Nat.zero_add, Nat.reduceAdd, true_and, and_true] at kk6
                        have HS6 := Lib.hid hs6
                        clear hs6
                        clear gq
                        refine ⟨_, rfl, ?_⟩
                        refine ⟨_, [true, true, true, true, true, true, true, true, false], [false, false, false, false, false, false, true, false, false], [4, 3], [?vr1o6_0_u42, ?vr1o6_1_u42, (.slice A1 x.spots.length C1), ?vr1o6_3_u42, ?vr1o6_4_u42, (.slice A6 x.edges.length C6), ?vr1o6_6_u42, (.pointer (some ⟨(y1).heap.size, 0, none⟩)), undef], fun w' => w' = y6, rfl, rfl, ?samer1o6_u42, by kernel_rfl, ?hSr1o6_u42, ?nxr1o6_u42⟩
                        case samer1o6_u42 =>
                          refine And.intro ?_ ?_
                          · with_reducible rfl
                          refine And.intro ?_ ?_
                          · with_reducible rfl
                          refine And.intro ?_ ?_
                          · with_reducible rfl
                          refine And.intro ?_ ?_
                          · with_reducible rfl
                          refine And.intro ?_ ?_
                          · with_reducible rfl
                          refine And.intro ?_ ?_
                          · with_reducible rfl
                          trivial
                        case hSr1o6_u42 => rfl
                        case nxr1o6_u42 =>
                          refine chainT_one 8 (by decide) (by kernel_rfl) rfl ?opsr1o6_u42 ?mr1o6_0_u42
                          case opsr1o6_u42 =>
                            simp only [OpsAt, fillT, List.setIfInBounds_toArray, List.set_cons_zero, List.set_cons_succ]
                            refine ⟨.inl ⟨by rfl, opOk_pure fun wS hS => ?_⟩, ?_⟩
                            · ((subst hS; go_simp)); try (with_reducible rfl)
                            try trivial
                          case mr1o6_0_u42 =>
                            refine makeT _ rfl ?wantr1o6_0_u42 ?effr1o6_0_u42
                            case wantr1o6_0_u42 => (try simp only [fillT, List.setIfInBounds_toArray, List.set_cons_zero, List.set_cons_succ]) <;> rfl
                            intro wS hS
                            simp only [fillT, List.setIfInBounds_toArray, List.set_cons_zero, List.set_cons_succ]
                            rw [hS]
                            refine eff_skip (w' := ((y6).setCell ⟨(y1).heap.size, 0, none⟩ (.slice A1 x.spots.length C1)).setCell ⟨(y1).heap.size, 1, none⟩ (.slice A6 x.edges.length C6)) ?run_u34_u42 ?pp_u34_u42
                            case run_u34_u42 => go_simp
                            case pp_u34_u42 =>
                              have hs7 := ((HS6.out).set 4 rfl 0 (.slice A1 x.spots.length C1)).set 4 rfl 1 (.slice A6 x.edges.length C6)
                              try simp only [List.cons_append, List.nil_append, List.set_cons_succ, List.set_cons_zero, Nat.zero_add, Nat.reduceAdd, World.size_alloc, World.size_drew] at hs7
                              have HS7 := Lib.hid hs7
                              clear hs7
                              refine ⟨_, [true, true, true, true, true, true, true, true, true], [false, false, false, false, false, false, false, false, false], [6], [?vr1o7_0_u42, ?vr1o7_1_u42, (.slice A1 x.spots.length C1), ?vr1o7_3_u42, ?vr1o7_4_u42, (.slice A6 x.edges.length C6), ?vr1o7_6_u42, (.pointer (some ⟨(y1).heap.size, 0, none⟩)), undef], fun w' => w' = ((y6).setCell ⟨(y1).heap.size, 0, none⟩ (.slice A1 x.spots.length C1)).setCell ⟨(y1).heap.size, 1, none⟩ (.slice A6 x.edges.length C6), rfl, rfl, ?samer1o7_u42, by kernel_rfl, ?hSr1o7_u42, ?nxr1o7_u42⟩
                              case samer1o7_u42 =>
                                refine And.intro ?_ ?_
                                · with_reducible rfl
                                refine And.intro ?_ ?_
                                · with_reducible rfl
                                refine And.intro ?_ ?_
                                · with_reducible rfl
                                refine And.intro ?_ ?_
                                · with_reducible rfl
                                refine And.intro ?_ ?_
                                · with_reducible rfl
                                refine And.intro ?_ ?_
                                · with_reducible rfl
                                refine And.intro ?_ ?_
                                · with_reducible rfl
                                refine And.intro ?_ ?_
                                · with_reducible rfl
                                trivial
                              case hSr1o7_u42 => rfl
                              case nxr1o7_u42 =>
                                refine chainT_nil (by rfl) (by kernel_rfl) rfl ?opsr1o7_u42 ?endr1o7_u42
                                case opsr1o7_u42 =>
                                  simp only [OpsAt, fillT, List.setIfInBounds_toArray, List.set_cons_zero, List.set_cons_succ]
                                  try trivial
                                case endr1o7_u42 =>
                                  intro wE hE
                                  simp only [fillT, List.setIfInBounds_toArray, List.set_cons_zero, List.set_cons_succ]
                                  rw [hE]
                                  have ht := (HS7.out).pick [0, 1, 2, 3, 5, 4] (by decide)
                                  simp only [List.filterMap_cons, List.filterMap_nil, List.getElem?_cons_zero, List.getElem?_cons_succ] at ht
                                  try clear kk1
                                  try clear kk2
                                  try clear kk3
                                  try clear kk4
                                  try clear kk5
                                  try clear kk6
                                  try clear kk7
                                  clear hE
                                  generalize (y1).heap.size = p at ht ⊢
                                  generalize ((y6).setCell ⟨p, 0, none⟩ (.slice A1 x.spots.length C1)).setCell ⟨p, 1, none⟩ (.slice A6 x.edges.length C6) = wx at ht ⊢
                                  have HT := Lib.hid ht
                                  clear ht
                                  obtain ⟨gE, hgE, gc, gf, glt⟩ := rowK_at edC_len (by decide) (HT.out.rowOf (i := 4) rfl) (i := k) hlt
                                  subst hgE
                                  have hek : x.edges[k] = ⟨a, b, c0, c1, b0, r0, b1, r1⟩ := Option.some.inj ((List.getElem?_eq_getElem hlt).symm.trans HGK.out)
                                  rw [hek] at gc
                                  have s2 := gc 2 _ rfl
                                  have s3 := gc 3 _ rfl
                                  have f2 := gf (k * 8 + 2)
                                  have f3 := gf (k * 8 + 3)
                                  clear gc gf hek
                                  have k9 := HT.out.all
                                  simp only [allFacts, box_facts, row_facts, emp_facts, cellFacts, Nat.zero_add, Nat.reduceAdd, true_and, and_true] at k9
                                  go_wp2_with fail
                                  refine (HAD.out _).mono ?_
                                  rintro e w61 ⟨rfl, hw⟩
                                  first | rw [show w61 = _ from hw] | rw [show w61 = _ from hw.symm]
                                  clear hw
                                  have hk1 := HT.out.drew.setRowK edC_len 4 rfl (i := k) hlt (j := 3) (by decide) (.int .u64 (c1 - n)) (⟨a, b, c0, c1 - n, b0, r0, b1, r1⟩ : Edg) (by rw [show x.edges[k] = ⟨a, b, c0, c1, b0, r0, b1, r1⟩ from Option.some.inj ((List.getElem?_eq_getElem hlt).symm.trans HGK.out)]; rfl)
                                  try simp only [List.cons_append, List.nil_append, List.set_cons_succ, List.set_cons_zero, Nat.zero_add, Nat.reduceAdd, World.size_alloc, World.size_drew] at hk1
                                  have hk2 := hk1.setRowK edC_len 4 rfl (i := k) (by simpa using hlt) (j := 2) (by decide) (.int .u64 m) (⟨a, b, m, c1 - n, b0, r0, b1, r1⟩ : Edg) (by simp [edC])
                                  try simp only [List.cons_append, List.nil_append, List.set_cons_succ, List.set_cons_zero, Nat.zero_add, Nat.reduceAdd, World.size_alloc, World.size_drew] at hk2
                                  simp only [List.length_set, List.set_set] at hk2
                                  have HK0 := Lib.hid hk2
                                  clear hk1 hk2
                                  go_wp2_with fail
                                  refine region_chain (E := [17, 21]) (kn := [true, true, true, true, true, true, true, true, true, true, true, true, true, true, true, true, true, false, true, true, false, false]) (mask := [true, true, true, true, true, true, true, true, true, true, true, true, true, true, true, true, true, false, true, true, false, false]) (vs := [?vs0_0_u37_u42, ?vs0_1_u37_u42, ?vs0_2_u37_u42, ?vs0_3_u37_u42, ?vs0_4_u37_u42, ?vs0_5_u37_u42, ?vs0_6_u37_u42, ?vs0_7_u37_u42, ?vs0_8_u37_u42, ?vs0_9_u37_u42, ?vs0_10_u37_u42, ?vs0_11_u37_u42, ?vs0_12_u37_u42, ?vs0_13_u37_u42, ?vs0_14_u37_u42, ?vs0_15_u37_u42, ?vs0_16_u37_u42, undef, ?vs0_18_u37_u42, ?vs0_19_u37_u42, undef, undef]) (S := fun w' => w' = (wx).drew) (by kernel_rfl) (by kernel_rfl) (by kernel_rfl) (by kernel_rfl) (by kernel_rfl) ?hSs_u37_u42 ?hchs_u37_u42
                                  case hSs_u37_u42 => exact rfl
                                  case hchs_u37_u42 =>
                                    refine chain_cons _ (by kernel_rfl) rfl rfl ?opss0_u37_u42 ?wants0_u37_u42 ?effs0_u37_u42
                                    case opss0_u37_u42 =>
                                      simp only [OpsAt, fillT, List.setIfInBounds_toArray, List.set_cons_zero, List.set_cons_succ]
                                      refine ⟨.inl ⟨by rfl, opOk_pure fun wS hS => ?_⟩, ?_⟩
                                      · ((subst hS; go_simp; try simp (disch := omega) only [wrap64_id])); try (with_reducible rfl)
                                      refine ⟨.inl ⟨by rfl, opOk_pure fun wS hS => ?_⟩, ?_⟩
                                      · ((subst hS; go_simp; try simp (disch := omega) only [wrap64_id])); try (with_reducible rfl)
                                      refine ⟨.inl ⟨by rfl, opOk_pure fun wS hS => ?_⟩, ?_⟩
                                      · ((subst hS; go_simp; try simp (disch := omega) only [wrap64_id])); try (with_reducible rfl)
                                      refine ⟨.inl ⟨by rfl, opOk_pure fun wS hS => ?_⟩, ?_⟩
                                      · ((subst hS; go_simp; try simp (disch := omega) only [wrap64_id])); try (with_reducible rfl)
                                      refine ⟨.inl ⟨by rfl, opOk_pure fun wS hS => ?_⟩, ?_⟩
                                      · ((subst hS; go_simp; try simp (disch := omega) only [wrap64_id])); try (with_reducible rfl)
                                      refine ⟨.inl ⟨by rfl, opOk_pure fun wS hS => ?_⟩, ?_⟩
                                      · ((subst hS; go_simp; try simp (disch := omega) only [wrap64_id])); try (with_reducible rfl)
                                      refine ⟨.inl ⟨by rfl, opOk_pure fun wS hS => ?_⟩, ?_⟩
                                      · ((subst hS; go_simp; try simp (disch := omega) only [wrap64_id])); try (with_reducible rfl)
                                      refine ⟨.inl ⟨by rfl, opOk_pure fun wS hS => ?_⟩, ?_⟩
                                      · ((subst hS; go_simp; try simp (disch := omega) only [wrap64_id])); try (with_reducible rfl)
                                      refine ⟨.inl ⟨by rfl, opOk_pure fun wS hS => ?_⟩, ?_⟩
                                      · ((subst hS; go_simp; try simp (disch := omega) only [wrap64_id])); try (with_reducible rfl)
                                      refine ⟨.inl ⟨by rfl, opOk_pure fun wS hS => ?_⟩, ?_⟩
                                      · ((subst hS; go_simp; try simp (disch := omega) only [wrap64_id])); try (with_reducible rfl)
                                      refine ⟨.inl ⟨by rfl, opOk_pure fun wS hS => ?_⟩, ?_⟩
                                      · ((subst hS; go_simp; try simp (disch := omega) only [wrap64_id])); try (with_reducible rfl)
                                      refine ⟨.inl ⟨by rfl, opOk_pure fun wS hS => ?_⟩, ?_⟩
                                      · ((subst hS; go_simp; try simp (disch := omega) only [wrap64_id])); try (with_reducible rfl)
                                      refine ⟨.inl ⟨by rfl, opOk_pure fun wS hS => ?_⟩, ?_⟩
                                      · ((subst hS; go_simp; try simp (disch := omega) only [wrap64_id])); try (with_reducible rfl)
                                      refine ⟨.inl ⟨by rfl, opOk_pure fun wS hS => ?_⟩, ?_⟩
                                      · ((subst hS; go_simp; try simp (disch := omega) only [wrap64_id])); try (with_reducible rfl)
                                      refine ⟨.inl ⟨by rfl, opOk_pure fun wS hS => ?_⟩, ?_⟩
                                      · ((subst hS; go_simp; try simp (disch := omega) only [wrap64_id])); try (with_reducible rfl)
                                      refine ⟨.inl ⟨by rfl, opOk_pure fun wS hS => ?_⟩, ?_⟩
                                      · ((subst hS; go_simp; try simp (disch := omega) only [wrap64_id])); try (with_reducible rfl)
                                      refine ⟨.inl ⟨by rfl, opOk_pure fun wS hS => ?_⟩, ?_⟩
                                      · ((subst hS; go_simp; try simp (disch := omega) only [wrap64_id])); try (with_reducible rfl)
                                      refine ⟨.inl ⟨by rfl, opOk_pure fun wS hS => ?_⟩, ?_⟩
                                      · ((subst hS; go_simp; try simp (disch := omega) only [wrap64_id])); try (with_reducible rfl)
                                      refine ⟨.inl ⟨by rfl, opOk_pure fun wS hS => ?_⟩, ?_⟩
                                      · ((subst hS; go_simp; try simp (disch := omega) only [wrap64_id])); try (with_reducible rfl)
                                      try trivial
                                    case wants0_u37_u42 => (try simp only [fillT, List.setIfInBounds_toArray, List.set_cons_zero, List.set_cons_succ]) <;> rfl
                                    case effs0_u37_u42 =>
                                      intro wS hS
                                      simp only [fillT, List.setIfInBounds_toArray, List.set_cons_zero, List.set_cons_succ]
                                      rw [hS]
                                      refine eff_skip (w' := ((wx).drew).setCell ⟨gE, k * 8 + 3, none⟩ (.int .u64 (c1 - n))) ?run_u35_u37_u42 ?pp_u35_u37_u42
                                      case run_u35_u37_u42 => go_simp
                                      case pp_u35_u37_u42 =>
                                        refine ⟨_, [true, true, true, true, true, true, true, true, true, true, true, true, true, true, true, true, true, true, true, true, true, false], [false, false, true, true, true, false, false, false, false, false, false, false, false, true, false, false, false, false, true, true, true, false], [16, 12, 0, 1, 5, 6, 7, 8, 9, 10, 11, 15, 14], [?vs1_0_u37_u42, ?vs1_1_u37_u42, ?vs1_2_u37_u42, ?vs1_3_u37_u42, ?vs1_4_u37_u42, ?vs1_5_u37_u42, ?vs1_6_u37_u42, ?vs1_7_u37_u42, ?vs1_8_u37_u42, ?vs1_9_u37_u42, ?vs1_10_u37_u42, ?vs1_11_u37_u42, ?vs1_12_u37_u42, ?vs1_13_u37_u42, ?vs1_14_u37_u42, ?vs1_15_u37_u42, ?vs1_16_u37_u42, undef, ?vs1_18_u37_u42, ?vs1_19_u37_u42, ?vs1_20_u37_u42, undef], fun w' => w' = ((wx).drew).setCell ⟨gE, k * 8 + 3, none⟩ (.int .u64 (c1 - n)), rfl, rfl, ?sames0_u37_u42, by kernel_rfl, ?hSs0_u37_u42, ?nxs0_u37_u42⟩
                                        case sames0_u37_u42 =>
                                          refine And.intro ?_ ?_
                                          · with_reducible rfl
                                          refine And.intro ?_ ?_
                                          · with_reducible rfl
                                          refine And.intro ?_ ?_
                                          · with_reducible rfl
                                          refine And.intro ?_ ?_
                                          · with_reducible rfl
                                          refine And.intro ?_ ?_
                                          · with_reducible rfl
                                          refine And.intro ?_ ?_
                                          · with_reducible rfl
                                          refine And.intro ?_ ?_
                                          · with_reducible rfl
                                          refine And.intro ?_ ?_
                                          · with_reducible rfl
                                          refine And.intro ?_ ?_
                                          · with_reducible rfl
                                          refine And.intro ?_ ?_
                                          · with_reducible rfl
                                          refine And.intro ?_ ?_
                                          · with_reducible rfl
                                          refine And.intro ?_ ?_
                                          · with_reducible rfl
                                          refine And.intro ?_ ?_
                                          · with_reducible rfl
                                          refine And.intro ?_ ?_
                                          · with_reducible rfl
                                          refine And.intro ?_ ?_
                                          · with_reducible rfl
                                          refine And.intro ?_ ?_
                                          · with_reducible rfl
                                          refine And.intro ?_ ?_
                                          · with_reducible rfl
                                          refine And.intro ?_ ?_
                                          · with_reducible rfl
                                          refine And.intro ?_ ?_
                                          · with_reducible rfl
                                          trivial
                                        case hSs0_u37_u42 => rfl
                                        case nxs0_u37_u42 =>
                                          refine chain_cons _ (by kernel_rfl) rfl rfl ?opss1_u37_u42 ?wants1_u37_u42 ?effs1_u37_u42
                                          case opss1_u37_u42 =>
                                            simp only [OpsAt, fillT, List.setIfInBounds_toArray, List.set_cons_zero, List.set_cons_succ]
                                            refine ⟨.inl ⟨by rfl, opOk_pure fun wS hS => ?_⟩, ?_⟩
                                            · ((subst hS; go_simp; try simp (disch := omega) only [wrap64_id])); try (with_reducible rfl)
                                            refine ⟨.inl ⟨by rfl, opOk_pure fun wS hS => ?_⟩, ?_⟩
                                            · ((subst hS; go_simp; try simp (disch := omega) only [wrap64_id])); try (with_reducible rfl)
                                            refine ⟨.inl ⟨by rfl, opOk_pure fun wS hS => ?_⟩, ?_⟩
                                            · ((subst hS; go_simp; try simp (disch := omega) only [wrap64_id])); try (with_reducible rfl)
                                            refine ⟨.inl ⟨by rfl, opOk_pure fun wS hS => ?_⟩, ?_⟩
                                            · ((subst hS; go_simp; try simp (disch := omega) only [wrap64_id])); try (with_reducible rfl)
                                            refine ⟨.inl ⟨by rfl, opOk_pure fun wS hS => ?_⟩, ?_⟩
                                            · ((subst hS; go_simp; try simp (disch := omega) only [wrap64_id])); try (with_reducible rfl)
                                            refine ⟨.inl ⟨by rfl, opOk_pure fun wS hS => ?_⟩, ?_⟩
                                            · ((subst hS; go_simp; try simp (disch := omega) only [wrap64_id])); try (with_reducible rfl)
                                            refine ⟨.inl ⟨by rfl, opOk_pure fun wS hS => ?_⟩, ?_⟩
                                            · ((subst hS; go_simp; try simp (disch := omega) only [wrap64_id])); try (with_reducible rfl)
                                            try trivial
                                          case wants1_u37_u42 => (try simp only [fillT, List.setIfInBounds_toArray, List.set_cons_zero, List.set_cons_succ]) <;> rfl
                                          case effs1_u37_u42 =>
                                            intro wS hS
                                            simp only [fillT, List.setIfInBounds_toArray, List.set_cons_zero, List.set_cons_succ]
                                            rw [hS]
                                            refine eff_skip (w' := (((wx).drew).setCell ⟨gE, k * 8 + 3, none⟩ (.int .u64 (c1 - n))).setCell ⟨gE, k * 8 + 2, none⟩ (.int .u64 m)) ?run_u36_u37_u42 ?pp_u36_u37_u42
                                            case run_u36_u37_u42 => go_simp
                                            case pp_u36_u37_u42 =>
                                              refine ⟨_, [true, true, true, true, true, true, true, true, true, true, true, true, true, true, true, true, true, true, true, true, true, true], [false, false, false, false, false, false, false, false, false, false, false, false, false, false, false, false, false, false, false, false, false, false], [20, 13, 2, 3, 4, 19, 18], [?vs2_0_u37_u42, ?vs2_1_u37_u42, ?vs2_2_u37_u42, ?vs2_3_u37_u42, ?vs2_4_u37_u42, ?vs2_5_u37_u42, ?vs2_6_u37_u42, ?vs2_7_u37_u42, ?vs2_8_u37_u42, ?vs2_9_u37_u42, ?vs2_10_u37_u42, ?vs2_11_u37_u42, ?vs2_12_u37_u42, ?vs2_13_u37_u42, ?vs2_14_u37_u42, ?vs2_15_u37_u42, ?vs2_16_u37_u42, undef, ?vs2_18_u37_u42, ?vs2_19_u37_u42, ?vs2_20_u37_u42, undef], fun w' => w' = (((wx).drew).setCell ⟨gE, k * 8 + 3, none⟩ (.int .u64 (c1 - n))).setCell ⟨gE, k * 8 + 2, none⟩ (.int .u64 m), rfl, rfl, ?sames1_u37_u42, by kernel_rfl, ?hSs1_u37_u42, ?nxs1_u37_u42⟩
                                              case sames1_u37_u42 =>
                                                refine And.intro ?_ ?_
                                                · with_reducible rfl
                                                refine And.intro ?_ ?_
                                                · with_reducible rfl
                                                refine And.intro ?_ ?_
                                                · with_reducible rfl
                                                refine And.intro ?_ ?_
                                                · with_reducible rfl
                                                refine And.intro ?_ ?_
                                                · with_reducible rfl
                                                refine And.intro ?_ ?_
                                                · with_reducible rfl
                                                refine And.intro ?_ ?_
                                                · with_reducible rfl
                                                refine And.intro ?_ ?_
                                                · with_reducible rfl
                                                refine And.intro ?_ ?_
                                                · with_reducible rfl
                                                refine And.intro ?_ ?_
                                                · with_reducible rfl
                                                refine And.intro ?_ ?_
                                                · with_reducible rfl
                                                refine And.intro ?_ ?_
                                                · with_reducible rfl
                                                refine And.intro ?_ ?_
                                                · with_reducible rfl
                                                refine And.intro ?_ ?_
                                                · with_reducible rfl
                                                refine And.intro ?_ ?_
                                                · with_reducible rfl
                                                refine And.intro ?_ ?_
                                                · with_reducible rfl
                                                refine And.intro ?_ ?_
                                                · with_reducible rfl
                                                refine And.intro ?_ ?_
                                                · with_reducible rfl
                                                refine And.intro ?_ ?_
                                                · with_reducible rfl
                                                refine And.intro ?_ ?_
                                                · with_reducible rfl
                                                refine And.intro ?_ ?_
                                                · with_reducible rfl
                                                trivial
                                              case hSs1_u37_u42 => rfl
                                              case nxs1_u37_u42 =>
                                                refine chain_nil (by kernel_rfl) rfl ?opss2_u37_u42 ?ends2_u37_u42
                                                case opss2_u37_u42 =>
                                                  simp only [OpsAt, fillT, List.setIfInBounds_toArray, List.set_cons_zero, List.set_cons_succ]
                                                  try trivial
                                                case ends2_u37_u42 =>
                                                  intro wE hE
                                                  simp only [fillT, List.setIfInBounds_toArray, List.set_cons_zero, List.set_cons_succ]
                                                  rw [hE]
                                                  clear hE s2 s3 f2 f3 k9
                                                  have hk := HK0.out
                                                  generalize (((wx).drew).setCell ⟨gE, k * 8 + 3, none⟩ (.int .u64 (c1 - n))).setCell ⟨gE, k * 8 + 2, none⟩ (.int .u64 m) = wy at hk ⊢
                                                  have HK := Lib.hid hk
                                                  clear hk HK0
                                                  skip
                                                  have k7 := HK.out.all
                                                  simp only [allFacts, box_facts, row_facts, emp_facts, cellFacts, Nat.zero_add, Nat.reduceAdd, true_and, and_true] at k7
                                                  go_wp2
                                                  have h8 := (HK.out.set 2 rfl 0 (.slice A1 x.spots.length C1)).set 2 rfl 1 (.slice (some ⟨gE, 0, none⟩) x.edges.length C6)
                                                  try simp only [List.cons_append, List.nil_append, List.set_cons_succ, List.set_cons_zero, Nat.zero_add, Nat.reduceAdd, World.size_alloc, World.size_drew] at h8
                                                  have hW9 := WebAt.ofRows (i := 3) (j := 4) (x := ⟨x.spots, x.edges.set k (⟨a, b, m, c1 - n, b0, r0, b1, r1⟩ : Edg)⟩) (c2 := C6) (A2 := some ⟨gE, 0, none⟩) h8 rfl (by rw [List.length_set]; rfl) ⟨by first | omega | (dsimp only; omega), by first | (rw [List.length_set]; omega) | (rw [List.length_set]; dsimp only; omega)⟩
                                                  have HW9 := Lib.hid hW9
                                                  have hb9 := h8.below (i := 0) rfl
                                                  have HB9 := Lib.hid hb9
                                                  clear h8 hW9 hb9
                                                  refine bodyPost_ret (v := .tuple #[.agg #[.slice A1 x.spots.length C1, .slice (some ⟨gE, 0, none⟩) x.edges.length C6], .int .i64 0]) (by simp only [results, Try.results15]; go_simp) rfl ⟨A1, C1, some ⟨gE, 0, none⟩, C6, ret_web (by rw [HZ.out]) (by rw [HZ.out]; simp) (by rw [HZ.out]), by rw [HZ.out]; exact HW9.out, HB9.out⟩
              case mr1o0_1_u42 =>
                refine makeT _ rfl ?wantr1o0_1_u42 ?effr1o0_1_u42
                case wantr1o0_1_u42 => (try simp only [fillT, List.setIfInBounds_toArray, List.set_cons_zero, List.set_cons_succ]) <;> rfl
                intro wS hS
                simp only [fillT, List.setIfInBounds_toArray, List.set_cons_zero, List.set_cons_succ]
                rw [hS]
                refine eff_run (w' := (w3.drew).alloc (.cells #[.slice none 0 0, .slice none 0 0] 31)) (by go_simp; try rfl) ?_
                have hs8 := (H3.out.drew).alloc #[.slice none 0 0, .slice none 0 0] 31
                try simp only [List.cons_append, List.nil_append, List.set_cons_succ, List.set_cons_zero, Nat.zero_add, Nat.reduceAdd, World.size_alloc, World.size_drew] at hs8
                have kk8 := hs8.all
                simp only [allFacts, box_facts, row_facts, emp_facts, cellFacts, Nat.zero_add, Nat.reduceAdd, true_and, and_true] at kk8
                have HS8 := Lib.hid hs8
                clear hs8
                refine ⟨_, [true, true, false, true, true, false, false, true, false], [true, true, false, true, true, false, false, false, false], [], [?vr1o8_0_u42, ?vr1o8_1_u42, undef, ?vr1o8_3_u42, ?vr1o8_4_u42, undef, undef, (.pointer (some ⟨(w3).heap.size, 0, none⟩)), undef], fun w' => w' = (w3.drew).alloc (.cells #[.slice none 0 0, .slice none 0 0] 31), rfl, rfl, ?samer1o8_u42, by kernel_rfl, ?hSr1o8_u42, ?nxr1o8_u42⟩
                case samer1o8_u42 =>
                  refine And.intro ?_ ?_
                  · with_reducible rfl
                  refine And.intro ?_ ?_
                  · with_reducible rfl
                  refine And.intro ?_ ?_
                  · with_reducible rfl
                  refine And.intro ?_ ?_
                  · with_reducible rfl
                  trivial
                case hSr1o8_u42 => rfl
                case nxr1o8_u42 =>
                  refine chainT_one 2 (by decide) (by kernel_rfl) rfl ?opsr1o8_u42 ?mr1o8_0_u42
                  case opsr1o8_u42 =>
                    simp only [OpsAt, fillT, List.setIfInBounds_toArray, List.set_cons_zero, List.set_cons_succ]
                    refine ⟨.inl ⟨by rfl, opOk_pure fun wS hS => ?_⟩, ?_⟩
                    · ((subst hS; go_simp)); try (with_reducible rfl)
                    refine ⟨.inl ⟨by rfl, opOk_pure fun wS hS => ?_⟩, ?_⟩
                    · ((subst hS; go_simp)); try (with_reducible rfl)
                    refine ⟨.inl ⟨by rfl, opOk_pure fun wS hS => ?_⟩, ?_⟩
                    · ((subst hS; go_simp)); try (with_reducible rfl)
                    refine ⟨.inl ⟨by rfl, opOk_pure fun wS hS => ?_⟩, ?_⟩
                    · ((subst hS; go_simp)); try (with_reducible rfl)
                    try trivial
                  case mr1o8_0_u42 =>
                    refine makeT _ rfl ?wantr1o8_0_u42 ?effr1o8_0_u42
                    case wantr1o8_0_u42 => (try simp only [fillT, List.setIfInBounds_toArray, List.set_cons_zero, List.set_cons_succ]) <;> rfl
                    intro wS hS
                    simp only [fillT, List.setIfInBounds_toArray, List.set_cons_zero, List.set_cons_succ]
                    rw [hS]
                    refine eff_call (f := 28) (args := #[.slice As x.spots.length cs]) (by go_simp) ?_
                    refine (cloneS_any ((w3.drew).alloc (.cells #[.slice none 0 0, .slice none 0 0] 31)) As cs x.spots (HW.out.s.mono (src_rest (HS8.out) (i := 0) rfl HW.out.s.src (src_lt HW.out.s.src))) (by omega)).mono ?_
                    rintro e y9 ⟨A9, C9, rfl, gq⟩
                    have hs9 := (HS8.out).pushThings gq
                    try simp only [List.cons_append, List.nil_append, List.set_cons_succ, List.set_cons_zero, Nat.zero_add, Nat.reduceAdd, World.size_alloc, World.size_drew] at hs9
                    have kk9 := hs9.all
                    simp only [allFacts, box_facts, row_facts, emp_facts, cellFacts, Nat.zero_add, Nat.reduceAdd, true_and, and_true] at kk9
                    have HS9 := Lib.hid hs9
                    clear hs9
                    clear gq
                    refine ⟨_, rfl, ?_⟩
                    refine ⟨_, [true, true, true, true, true, false, false, true, false], [false, false, false, true, true, false, false, false, false], [1, 0], [?vr1o9_0_u42, ?vr1o9_1_u42, (.slice A9 x.spots.length C9), ?vr1o9_3_u42, ?vr1o9_4_u42, undef, undef, (.pointer (some ⟨(w3).heap.size, 0, none⟩)), undef], fun w' => w' = y9, rfl, rfl, ?samer1o9_u42, by kernel_rfl, ?hSr1o9_u42, ?nxr1o9_u42⟩
                    case samer1o9_u42 =>
                      refine And.intro ?_ ?_
                      · with_reducible rfl
                      refine And.intro ?_ ?_
                      · with_reducible rfl
                      refine And.intro ?_ ?_
                      · with_reducible rfl
                      refine And.intro ?_ ?_
                      · with_reducible rfl
                      refine And.intro ?_ ?_
                      · with_reducible rfl
                      trivial
                    case hSr1o9_u42 => rfl
                    case nxr1o9_u42 =>
                      refine chainT_one 5 (by decide) (by kernel_rfl) rfl ?opsr1o9_u42 ?mr1o9_0_u42
                      case opsr1o9_u42 =>
                        simp only [OpsAt, fillT, List.setIfInBounds_toArray, List.set_cons_zero, List.set_cons_succ]
                        refine ⟨.inl ⟨by rfl, opOk_pure fun wS hS => ?_⟩, ?_⟩
                        · ((subst hS; go_simp)); try (with_reducible rfl)
                        refine ⟨.inl ⟨by rfl, opOk_pure fun wS hS => ?_⟩, ?_⟩
                        · ((subst hS; go_simp)); try (with_reducible rfl)
                        try trivial
                      case mr1o9_0_u42 =>
                        refine makeT _ rfl ?wantr1o9_0_u42 ?effr1o9_0_u42
                        case wantr1o9_0_u42 => (try simp only [fillT, List.setIfInBounds_toArray, List.set_cons_zero, List.set_cons_succ]) <;> rfl
                        intro wS hS
                        simp only [fillT, List.setIfInBounds_toArray, List.set_cons_zero, List.set_cons_succ]
                        rw [hS]
                        refine eff_call (f := 29) (args := #[.slice (some ⟨g, off, none⟩) x.edges.length ce]) (by go_simp) ?_
                        refine (cloneE_any (y9) (some ⟨g, off, none⟩) ce x.edges (HW.out.e.mono (src_rest (HS9.out) (i := 0) rfl HW.out.e.src (src_lt HW.out.e.src))) (by omega)).mono ?_
                        rintro e y10 ⟨A10, C10, rfl, gq⟩
                        have hs10 := (HS9.out).pushThings gq
                        try simp only [List.cons_append, List.nil_append, List.set_cons_succ, List.set_cons_zero, Nat.zero_add, Nat.reduceAdd, World.size_alloc, World.size_drew] at hs10
                        have kk10 := hs10.all
                        simp only [allFacts, box_facts, row_facts, emp_facts, cellFacts, Nat.zero_add, Nat.reduceAdd, true_and, and_true] at kk10
                        have HS10 := Lib.hid hs10
                        clear hs10
                        clear gq
                        refine ⟨_, rfl, ?_⟩
                        refine ⟨_, [true, true, true, true, true, true, true, true, false], [false, false, false, false, false, false, true, false, false], [4, 3], [?vr1o10_0_u42, ?vr1o10_1_u42, (.slice A9 x.spots.length C9), ?vr1o10_3_u42, ?vr1o10_4_u42, (.slice A10 x.edges.length C10), ?vr1o10_6_u42, (.pointer (some ⟨(w3).heap.size, 0, none⟩)), undef], fun w' => w' = y10, rfl, rfl, ?samer1o10_u42, by kernel_rfl, ?hSr1o10_u42, ?nxr1o10_u42⟩
                        case samer1o10_u42 =>
                          refine And.intro ?_ ?_
                          · with_reducible rfl
                          refine And.intro ?_ ?_
                          · with_reducible rfl
                          refine And.intro ?_ ?_
                          · with_reducible rfl
                          refine And.intro ?_ ?_
                          · with_reducible rfl
                          refine And.intro ?_ ?_
                          · with_reducible rfl
                          refine And.intro ?_ ?_
                          · with_reducible rfl
                          trivial
                        case hSr1o10_u42 => rfl
                        case nxr1o10_u42 =>
                          refine chainT_one 8 (by decide) (by kernel_rfl) rfl ?opsr1o10_u42 ?mr1o10_0_u42
                          case opsr1o10_u42 =>
                            simp only [OpsAt, fillT, List.setIfInBounds_toArray, List.set_cons_zero, List.set_cons_succ]
                            refine ⟨.inl ⟨by rfl, opOk_pure fun wS hS => ?_⟩, ?_⟩
                            · ((subst hS; go_simp)); try (with_reducible rfl)
                            try trivial
                          case mr1o10_0_u42 =>
                            refine makeT _ rfl ?wantr1o10_0_u42 ?effr1o10_0_u42
                            case wantr1o10_0_u42 => (try simp only [fillT, List.setIfInBounds_toArray, List.set_cons_zero, List.set_cons_succ]) <;> rfl
                            intro wS hS
                            simp only [fillT, List.setIfInBounds_toArray, List.set_cons_zero, List.set_cons_succ]
                            rw [hS]
                            refine eff_skip (w' := ((y10).setCell ⟨(w3).heap.size, 0, none⟩ (.slice A9 x.spots.length C9)).setCell ⟨(w3).heap.size, 1, none⟩ (.slice A10 x.edges.length C10)) ?run_u38_u42 ?pp_u38_u42
                            case run_u38_u42 => go_simp
                            case pp_u38_u42 =>
                              have hs11 := ((HS10.out).set 3 rfl 0 (.slice A9 x.spots.length C9)).set 3 rfl 1 (.slice A10 x.edges.length C10)
                              try simp only [List.cons_append, List.nil_append, List.set_cons_succ, List.set_cons_zero, Nat.zero_add, Nat.reduceAdd, World.size_alloc, World.size_drew] at hs11
                              have HS11 := Lib.hid hs11
                              clear hs11
                              refine ⟨_, [true, true, true, true, true, true, true, true, true], [false, false, false, false, false, false, false, false, false], [6], [?vr1o11_0_u42, ?vr1o11_1_u42, (.slice A9 x.spots.length C9), ?vr1o11_3_u42, ?vr1o11_4_u42, (.slice A10 x.edges.length C10), ?vr1o11_6_u42, (.pointer (some ⟨(w3).heap.size, 0, none⟩)), undef], fun w' => w' = ((y10).setCell ⟨(w3).heap.size, 0, none⟩ (.slice A9 x.spots.length C9)).setCell ⟨(w3).heap.size, 1, none⟩ (.slice A10 x.edges.length C10), rfl, rfl, ?samer1o11_u42, by kernel_rfl, ?hSr1o11_u42, ?nxr1o11_u42⟩
                              case samer1o11_u42 =>
                                refine And.intro ?_ ?_
                                · with_reducible rfl
                                refine And.intro ?_ ?_
                                · with_reducible rfl
                                refine And.intro ?_ ?_
                                · with_reducible rfl
                                refine And.intro ?_ ?_
                                · with_reducible rfl
                                refine And.intro ?_ ?_
                                · with_reducible rfl
                                refine And.intro ?_ ?_
                                · with_reducible rfl
                                refine And.intro ?_ ?_
                                · with_reducible rfl
                                refine And.intro ?_ ?_
                                · with_reducible rfl
                                trivial
                              case hSr1o11_u42 => rfl
                              case nxr1o11_u42 =>
                                refine chainT_nil (by rfl) (by kernel_rfl) rfl ?opsr1o11_u42 ?endr1o11_u42
                                case opsr1o11_u42 =>
                                  simp only [OpsAt, fillT, List.setIfInBounds_toArray, List.set_cons_zero, List.set_cons_succ]
                                  try trivial
                                case endr1o11_u42 =>
                                  intro wE hE
                                  simp only [fillT, List.setIfInBounds_toArray, List.set_cons_zero, List.set_cons_succ]
                                  rw [hE]
                                  have ht := (HS11.out).pick [0, 1, 2, 4, 5, 3] (by decide)
                                  simp only [List.filterMap_cons, List.filterMap_nil, List.getElem?_cons_zero, List.getElem?_cons_succ] at ht
                                  try clear kk1
                                  try clear kk2
                                  try clear kk3
                                  try clear kk4
                                  try clear kk5
                                  try clear kk6
                                  try clear kk7
                                  try clear kk8
                                  try clear kk9
                                  try clear kk10
                                  try clear kk11
                                  clear hE
                                  generalize (w3).heap.size = p at ht ⊢
                                  generalize ((y10).setCell ⟨p, 0, none⟩ (.slice A9 x.spots.length C9)).setCell ⟨p, 1, none⟩ (.slice A10 x.edges.length C10) = wx at ht ⊢
                                  have HT := Lib.hid ht
                                  clear ht
                                  obtain ⟨gE, hgE, gc, gf, glt⟩ := rowK_at edC_len (by decide) (HT.out.rowOf (i := 4) rfl) (i := k) hlt
                                  subst hgE
                                  have hek : x.edges[k] = ⟨a, b, c0, c1, b0, r0, b1, r1⟩ := Option.some.inj ((List.getElem?_eq_getElem hlt).symm.trans HGK.out)
                                  rw [hek] at gc
                                  have s2 := gc 2 _ rfl
                                  have s3 := gc 3 _ rfl
                                  have f2 := gf (k * 8 + 2)
                                  have f3 := gf (k * 8 + 3)
                                  clear gc gf hek
                                  have k9 := HT.out.all
                                  simp only [allFacts, box_facts, row_facts, emp_facts, cellFacts, Nat.zero_add, Nat.reduceAdd, true_and, and_true] at k9
                                  go_wp2_with fail
                                  refine (HAD.out _).mono ?_
                                  rintro e w61 ⟨rfl, hw⟩
                                  first | rw [show w61 = _ from hw] | rw [show w61 = _ from hw.symm]
                                  clear hw
                                  have hk1 := HT.out.drew.setRowK edC_len 4 rfl (i := k) hlt (j := 3) (by decide) (.int .u64 (c1 - n)) (⟨a, b, c0, c1 - n, b0, r0, b1, r1⟩ : Edg) (by rw [show x.edges[k] = ⟨a, b, c0, c1, b0, r0, b1, r1⟩ from Option.some.inj ((List.getElem?_eq_getElem hlt).symm.trans HGK.out)]; rfl)
                                  try simp only [List.cons_append, List.nil_append, List.set_cons_succ, List.set_cons_zero, Nat.zero_add, Nat.reduceAdd, World.size_alloc, World.size_drew] at hk1
                                  have hk2 := hk1.setRowK edC_len 4 rfl (i := k) (by simpa using hlt) (j := 2) (by decide) (.int .u64 m) (⟨a, b, m, c1 - n, b0, r0, b1, r1⟩ : Edg) (by simp [edC])
                                  try simp only [List.cons_append, List.nil_append, List.set_cons_succ, List.set_cons_zero, Nat.zero_add, Nat.reduceAdd, World.size_alloc, World.size_drew] at hk2
                                  simp only [List.length_set, List.set_set] at hk2
                                  have HK0 := Lib.hid hk2
                                  clear hk1 hk2
                                  go_wp2_with fail
                                  refine region_chain (E := [17, 21]) (kn := [true, true, true, true, true, true, true, true, true, true, true, true, true, true, true, true, true, false, true, true, false, false]) (mask := [true, true, true, true, true, true, true, true, true, true, true, true, true, true, true, true, true, false, true, true, false, false]) (vs := [?vs0_0_u41_u42, ?vs0_1_u41_u42, ?vs0_2_u41_u42, ?vs0_3_u41_u42, ?vs0_4_u41_u42, ?vs0_5_u41_u42, ?vs0_6_u41_u42, ?vs0_7_u41_u42, ?vs0_8_u41_u42, ?vs0_9_u41_u42, ?vs0_10_u41_u42, ?vs0_11_u41_u42, ?vs0_12_u41_u42, ?vs0_13_u41_u42, ?vs0_14_u41_u42, ?vs0_15_u41_u42, ?vs0_16_u41_u42, undef, ?vs0_18_u41_u42, ?vs0_19_u41_u42, undef, undef]) (S := fun w' => w' = (wx).drew) (by kernel_rfl) (by kernel_rfl) (by kernel_rfl) (by kernel_rfl) (by kernel_rfl) ?hSs_u41_u42 ?hchs_u41_u42
                                  case hSs_u41_u42 => exact rfl
                                  case hchs_u41_u42 =>
                                    refine chain_cons _ (by kernel_rfl) rfl rfl ?opss0_u41_u42 ?wants0_u41_u42 ?effs0_u41_u42
                                    case opss0_u41_u42 =>
                                      simp only [OpsAt, fillT, List.setIfInBounds_toArray, List.set_cons_zero, List.set_cons_succ]
                                      refine ⟨.inl ⟨by rfl, opOk_pure fun wS hS => ?_⟩, ?_⟩
                                      · ((subst hS; go_simp; try simp (disch := omega) only [wrap64_id])); try (with_reducible rfl)
                                      refine ⟨.inl ⟨by rfl, opOk_pure fun wS hS => ?_⟩, ?_⟩
                                      · ((subst hS; go_simp; try simp (disch := omega) only [wrap64_id])); try (with_reducible rfl)
                                      refine ⟨.inl ⟨by rfl, opOk_pure fun wS hS => ?_⟩, ?_⟩
                                      · ((subst hS; go_simp; try simp (disch := omega) only [wrap64_id])); try (with_reducible rfl)
                                      refine ⟨.inl ⟨by rfl, opOk_pure fun wS hS => ?_⟩, ?_⟩
                                      · ((subst hS; go_simp; try simp (disch := omega) only [wrap64_id])); try (with_reducible rfl)
                                      refine ⟨.inl ⟨by rfl, opOk_pure fun wS hS => ?_⟩, ?_⟩
                                      · ((subst hS; go_simp; try simp (disch := omega) only [wrap64_id])); try (with_reducible rfl)
                                      refine ⟨.inl ⟨by rfl, opOk_pure fun wS hS => ?_⟩, ?_⟩
                                      · ((subst hS; go_simp; try simp (disch := omega) only [wrap64_id])); try (with_reducible rfl)
                                      refine ⟨.inl ⟨by rfl, opOk_pure fun wS hS => ?_⟩, ?_⟩
                                      · ((subst hS; go_simp; try simp (disch := omega) only [wrap64_id])); try (with_reducible rfl)
                                      refine ⟨.inl ⟨by rfl, opOk_pure fun wS hS => ?_⟩, ?_⟩
                                      · ((subst hS; go_simp; try simp (disch := omega) only [wrap64_id])); try (with_reducible rfl)
                                      refine ⟨.inl ⟨by rfl, opOk_pure fun wS hS => ?_⟩, ?_⟩
                                      · ((subst hS; go_simp; try simp (disch := omega) only [wrap64_id])); try (with_reducible rfl)
                                      refine ⟨.inl ⟨by rfl, opOk_pure fun wS hS => ?_⟩, ?_⟩
                                      · ((subst hS; go_simp; try simp (disch := omega) only [wrap64_id])); try (with_reducible rfl)
                                      refine ⟨.inl ⟨by rfl, opOk_pure fun wS hS => ?_⟩, ?_⟩
                                      · ((subst hS; go_simp; try simp (disch := omega) only [wrap64_id])); try (with_reducible rfl)
                                      refine ⟨.inl ⟨by rfl, opOk_pure fun wS hS => ?_⟩, ?_⟩
                                      · ((subst hS; go_simp; try simp (disch := omega) only [wrap64_id])); try (with_reducible rfl)
                                      refine ⟨.inl ⟨by rfl, opOk_pure fun wS hS => ?_⟩, ?_⟩
                                      · ((subst hS; go_simp; try simp (disch := omega) only [wrap64_id])); try (with_reducible rfl)
                                      refine ⟨.inl ⟨by rfl, opOk_pure fun wS hS => ?_⟩, ?_⟩
                                      · ((subst hS; go_simp; try simp (disch := omega) only [wrap64_id])); try (with_reducible rfl)
                                      refine ⟨.inl ⟨by rfl, opOk_pure fun wS hS => ?_⟩, ?_⟩
                                      · ((subst hS; go_simp; try simp (disch := omega) only [wrap64_id])); try (with_reducible rfl)
                                      refine ⟨.inl ⟨by rfl, opOk_pure fun wS hS => ?_⟩, ?_⟩
                                      · ((subst hS; go_simp; try simp (disch := omega) only [wrap64_id])); try (with_reducible rfl)
                                      refine ⟨.inl ⟨by rfl, opOk_pure fun wS hS => ?_⟩, ?_⟩
                                      · ((subst hS; go_simp; try simp (disch := omega) only [wrap64_id])); try (with_reducible rfl)
                                      refine ⟨.inl ⟨by rfl, opOk_pure fun wS hS => ?_⟩, ?_⟩
                                      · ((subst hS; go_simp; try simp (disch := omega) only [wrap64_id])); try (with_reducible rfl)
                                      refine ⟨.inl ⟨by rfl, opOk_pure fun wS hS => ?_⟩, ?_⟩
                                      · ((subst hS; go_simp; try simp (disch := omega) only [wrap64_id])); try (with_reducible rfl)
                                      try trivial
                                    case wants0_u41_u42 => (try simp only [fillT, List.setIfInBounds_toArray, List.set_cons_zero, List.set_cons_succ]) <;> rfl
                                    case effs0_u41_u42 =>
                                      intro wS hS
                                      simp only [fillT, List.setIfInBounds_toArray, List.set_cons_zero, List.set_cons_succ]
                                      rw [hS]
                                      refine eff_skip (w' := ((wx).drew).setCell ⟨gE, k * 8 + 3, none⟩ (.int .u64 (c1 - n))) ?run_u39_u41_u42 ?pp_u39_u41_u42
                                      case run_u39_u41_u42 => go_simp
                                      case pp_u39_u41_u42 =>
                                        refine ⟨_, [true, true, true, true, true, true, true, true, true, true, true, true, true, true, true, true, true, true, true, true, true, false], [false, false, true, true, true, false, false, false, false, false, false, false, false, true, false, false, false, false, true, true, true, false], [16, 12, 0, 1, 5, 6, 7, 8, 9, 10, 11, 15, 14], [?vs1_0_u41_u42, ?vs1_1_u41_u42, ?vs1_2_u41_u42, ?vs1_3_u41_u42, ?vs1_4_u41_u42, ?vs1_5_u41_u42, ?vs1_6_u41_u42, ?vs1_7_u41_u42, ?vs1_8_u41_u42, ?vs1_9_u41_u42, ?vs1_10_u41_u42, ?vs1_11_u41_u42, ?vs1_12_u41_u42, ?vs1_13_u41_u42, ?vs1_14_u41_u42, ?vs1_15_u41_u42, ?vs1_16_u41_u42, undef, ?vs1_18_u41_u42, ?vs1_19_u41_u42, ?vs1_20_u41_u42, undef], fun w' => w' = ((wx).drew).setCell ⟨gE, k * 8 + 3, none⟩ (.int .u64 (c1 - n)), rfl, rfl, ?sames0_u41_u42, by kernel_rfl, ?hSs0_u41_u42, ?nxs0_u41_u42⟩
                                        case sames0_u41_u42 =>
                                          refine And.intro ?_ ?_
                                          · with_reducible rfl
                                          refine And.intro ?_ ?_
                                          · with_reducible rfl
                                          refine And.intro ?_ ?_
                                          · with_reducible rfl
                                          refine And.intro ?_ ?_
                                          · with_reducible rfl
                                          refine And.intro ?_ ?_
                                          · with_reducible rfl
                                          refine And.intro ?_ ?_
                                          · with_reducible rfl
                                          refine And.intro ?_ ?_
                                          · with_reducible rfl
                                          refine And.intro ?_ ?_
                                          · with_reducible rfl
                                          refine And.intro ?_ ?_
                                          · with_reducible rfl
                                          refine And.intro ?_ ?_
                                          · with_reducible rfl
                                          refine And.intro ?_ ?_
                                          · with_reducible rfl
                                          refine And.intro ?_ ?_
                                          · with_reducible rfl
                                          refine And.intro ?_ ?_
                                          · with_reducible rfl
                                          refine And.intro ?_ ?_
                                          · with_reducible rfl
                                          refine And.intro ?_ ?_
                                          · with_reducible rfl
                                          refine And.intro ?_ ?_
                                          · with_reducible rfl
                                          refine And.intro ?_ ?_
                                          · with_reducible rfl
                                          refine And.intro ?_ ?_
                                          · with_reducible rfl
                                          refine And.intro ?_ ?_
                                          · with_reducible rfl
                                          trivial
                                        case hSs0_u41_u42 => rfl
                                        case nxs0_u41_u42 =>
                                          refine chain_cons _ (by kernel_rfl) rfl rfl ?opss1_u41_u42 ?wants1_u41_u42 ?effs1_u41_u42
                                          case opss1_u41_u42 =>
                                            simp only [OpsAt, fillT, List.setIfInBounds_toArray, List.set_cons_zero, List.set_cons_succ]
                                            refine ⟨.inl ⟨by rfl, opOk_pure fun wS hS => ?_⟩, ?_⟩
                                            · ((subst hS; go_simp; try simp (disch := omega) only [wrap64_id])); try (with_reducible rfl)
                                            refine ⟨.inl ⟨by rfl, opOk_pure fun wS hS => ?_⟩, ?_⟩
                                            · ((subst hS; go_simp; try simp (disch := omega) only [wrap64_id])); try (with_reducible rfl)
                                            refine ⟨.inl ⟨by rfl, opOk_pure fun wS hS => ?_⟩, ?_⟩
                                            · ((subst hS; go_simp; try simp (disch := omega) only [wrap64_id])); try (with_reducible rfl)
                                            refine ⟨.inl ⟨by rfl, opOk_pure fun wS hS => ?_⟩, ?_⟩
                                            · ((subst hS; go_simp; try simp (disch := omega) only [wrap64_id])); try (with_reducible rfl)
                                            refine ⟨.inl ⟨by rfl, opOk_pure fun wS hS => ?_⟩, ?_⟩
                                            · ((subst hS; go_simp; try simp (disch := omega) only [wrap64_id])); try (with_reducible rfl)
                                            refine ⟨.inl ⟨by rfl, opOk_pure fun wS hS => ?_⟩, ?_⟩
                                            · ((subst hS; go_simp; try simp (disch := omega) only [wrap64_id])); try (with_reducible rfl)
                                            refine ⟨.inl ⟨by rfl, opOk_pure fun wS hS => ?_⟩, ?_⟩
                                            · ((subst hS; go_simp; try simp (disch := omega) only [wrap64_id])); try (with_reducible rfl)
                                            try trivial
                                          case wants1_u41_u42 => (try simp only [fillT, List.setIfInBounds_toArray, List.set_cons_zero, List.set_cons_succ]) <;> rfl
                                          case effs1_u41_u42 =>
                                            intro wS hS
                                            simp only [fillT, List.setIfInBounds_toArray, List.set_cons_zero, List.set_cons_succ]
                                            rw [hS]
                                            refine eff_skip (w' := (((wx).drew).setCell ⟨gE, k * 8 + 3, none⟩ (.int .u64 (c1 - n))).setCell ⟨gE, k * 8 + 2, none⟩ (.int .u64 m)) ?run_u40_u41_u42 ?pp_u40_u41_u42
                                            case run_u40_u41_u42 => go_simp
                                            case pp_u40_u41_u42 =>
                                              refine ⟨_, [true, true, true, true, true, true, true, true, true, true, true, true, true, true, true, true, true, true, true, true, true, true], [false, false, false, false, false, false, false, false, false, false, false, false, false, false, false, false, false, false, false, false, false, false], [20, 13, 2, 3, 4, 19, 18], [?vs2_0_u41_u42, ?vs2_1_u41_u42, ?vs2_2_u41_u42, ?vs2_3_u41_u42, ?vs2_4_u41_u42, ?vs2_5_u41_u42, ?vs2_6_u41_u42, ?vs2_7_u41_u42, ?vs2_8_u41_u42, ?vs2_9_u41_u42, ?vs2_10_u41_u42, ?vs2_11_u41_u42, ?vs2_12_u41_u42, ?vs2_13_u41_u42, ?vs2_14_u41_u42, ?vs2_15_u41_u42, ?vs2_16_u41_u42, undef, ?vs2_18_u41_u42, ?vs2_19_u41_u42, ?vs2_20_u41_u42, undef], fun w' => w' = (((wx).drew).setCell ⟨gE, k * 8 + 3, none⟩ (.int .u64 (c1 - n))).setCell ⟨gE, k * 8 + 2, none⟩ (.int .u64 m), rfl, rfl, ?sames1_u41_u42, by kernel_rfl, ?hSs1_u41_u42, ?nxs1_u41_u42⟩
                                              case sames1_u41_u42 =>
                                                refine And.intro ?_ ?_
                                                · with_reducible rfl
                                                refine And.intro ?_ ?_
                                                · with_reducible rfl
                                                refine And.intro ?_ ?_
                                                · with_reducible rfl
                                                refine And.intro ?_ ?_
                                                · with_reducible rfl
                                                refine And.intro ?_ ?_
                                                · with_reducible rfl
                                                refine And.intro ?_ ?_
                                                · with_reducible rfl
                                                refine And.intro ?_ ?_
                                                · with_reducible rfl
                                                refine And.intro ?_ ?_
                                                · with_reducible rfl
                                                refine And.intro ?_ ?_
                                                · with_reducible rfl
                                                refine And.intro ?_ ?_
                                                · with_reducible rfl
                                                refine And.intro ?_ ?_
                                                · with_reducible rfl
                                                refine And.intro ?_ ?_
                                                · with_reducible rfl
                                                refine And.intro ?_ ?_
                                                · with_reducible rfl
                                                refine And.intro ?_ ?_
                                                · with_reducible rfl
                                                refine And.intro ?_ ?_
                                                · with_reducible rfl
                                                refine And.intro ?_ ?_
                                                · with_reducible rfl
                                                refine And.intro ?_ ?_
                                                · with_reducible rfl
                                                refine And.intro ?_ ?_
                                                · with_reducible rfl
                                                refine And.intro ?_ ?_
                                                · with_reducible rfl
                                                refine And.intro ?_ ?_
                                                · with_reducible rfl
                                                refine And.intro ?_ ?_
                                                · with_reducible rfl
                                                trivial
                                              case hSs1_u41_u42 => rfl
                                              case nxs1_u41_u42 =>
                                                refine chain_nil (by kernel_rfl) rfl ?opss2_u41_u42 ?ends2_u41_u42
                                                case opss2_u41_u42 =>
                                                  simp only [OpsAt, fillT, List.setIfInBounds_toArray, List.set_cons_zero, List.set_cons_succ]
                                                  try trivial
                                                case ends2_u41_u42 =>
                                                  intro wE hE
                                                  simp only [fillT, List.setIfInBounds_toArray, List.set_cons_zero, List.set_cons_succ]
                                                  rw [hE]
                                                  clear hE s2 s3 f2 f3 k9
                                                  have hk := HK0.out
                                                  generalize (((wx).drew).setCell ⟨gE, k * 8 + 3, none⟩ (.int .u64 (c1 - n))).setCell ⟨gE, k * 8 + 2, none⟩ (.int .u64 m) = wy at hk ⊢
                                                  have HK := Lib.hid hk
                                                  clear hk HK0
                                                  skip
                                                  have k7 := HK.out.all
                                                  simp only [allFacts, box_facts, row_facts, emp_facts, cellFacts, Nat.zero_add, Nat.reduceAdd, true_and, and_true] at k7
                                                  go_wp2
                                                  have h8 := (HK.out.set 2 rfl 0 (.slice A9 x.spots.length C9)).set 2 rfl 1 (.slice (some ⟨gE, 0, none⟩) x.edges.length C10)
                                                  try simp only [List.cons_append, List.nil_append, List.set_cons_succ, List.set_cons_zero, Nat.zero_add, Nat.reduceAdd, World.size_alloc, World.size_drew] at h8
                                                  have hW9 := WebAt.ofRows (i := 3) (j := 4) (x := ⟨x.spots, x.edges.set k (⟨a, b, m, c1 - n, b0, r0, b1, r1⟩ : Edg)⟩) (c2 := C10) (A2 := some ⟨gE, 0, none⟩) h8 rfl (by rw [List.length_set]; rfl) ⟨by first | omega | (dsimp only; omega), by first | (rw [List.length_set]; omega) | (rw [List.length_set]; dsimp only; omega)⟩
                                                  have HW9 := Lib.hid hW9
                                                  have hb9 := h8.below (i := 0) rfl
                                                  have HB9 := Lib.hid hb9
                                                  clear h8 hW9 hb9
                                                  refine bodyPost_ret (v := .tuple #[.agg #[.slice A9 x.spots.length C9, .slice (some ⟨gE, 0, none⟩) x.edges.length C10], .int .i64 0]) (by simp only [results, Try.results15]; go_simp) rfl ⟨A9, C9, some ⟨gE, 0, none⟩, C10, ret_web (by rw [HZ.out]) (by rw [HZ.out]; simp) (by rw [HZ.out]), by rw [HZ.out]; exact HW9.out, HB9.out⟩
      · have hsd := fun w => side_any w a b c0 c1 b0 r0 b1 r1 node
        rw [hs] at hsd
        have HSD := Lib.hid hsd
        have hsa := HSA.out
        rw [hs] at hsa
        have HZ := Lib.hid (hsa.trans (if_pos (by decide)))
        clear hs ha hb1 hsd hsa
        go_enter Try.func15, Try.ntmps15
        go_wp2_with fail
        refine (HCK.out).mono ?_
        rintro e w2 ⟨rfl, hb⟩
        have h2 := H1.out.grow hb
        have k2 := h2.all
        simp only [allFacts, box_facts, row_facts, emp_facts, cellFacts, Nat.zero_add, Nat.reduceAdd, true_and, and_true] at k2
        have H2 := Lib.hid h2
        clear hb h2
        have q0 := restCell H2.out rfl hb (HC.out 0 _ rfl)
        have q1 := restCell H2.out rfl hb (HC.out 1 _ rfl)
        have q2 := restCell H2.out rfl hb (HC.out 2 _ rfl)
        have q3 := restCell H2.out rfl hb (HC.out 3 _ rfl)
        have q4 := restCell H2.out rfl hb (HC.out 4 _ rfl)
        have q5 := restCell H2.out rfl hb (HC.out 5 _ rfl)
        have q6 := restCell H2.out rfl hb (HC.out 6 _ rfl)
        have q7 := restCell H2.out rfl hb (HC.out 7 _ rfl)
        rw [Nat.add_zero] at q0
        go_wp2_with fail
        refine (HSD.out _).mono ?_
        rintro e w3 ⟨rfl, hb⟩
        clear q0 q1 q2 q3 q4 q5 q6 q7
        have h3 := H2.out.grow hb
        have k3 := h3.all
        simp only [allFacts, box_facts, row_facts, emp_facts, cellFacts, Nat.zero_add, Nat.reduceAdd, true_and, and_true] at k3
        clear k2
        have H3 := Lib.hid h3
        clear hb h3
        go_wp2
        have hz9 := (H3.out.set 2 rfl 0 (.slice none 0 0)).set 2 rfl 1 (.slice none 0 0)
        have hz8 := hz9.below (i := 0) rfl
        have HZ8 := Lib.hid hz8
        clear hz9 hz8
        refine bodyPost_ret (v := .tuple #[.agg #[.slice none 0 0, .slice none 0 0], .int .i64 1]) (by simp only [results, Try.results15]; go_simp) rfl ⟨none, 0, none, 0, ret_web (by rw [HZ.out]; rfl) (by rw [HZ.out]; rfl) (by rw [HZ.out]), by rw [HZ.out]; exact WebAt.none _, HZ8.out⟩
end Go.Proofs.Ytjbblgefgjmdaaa
