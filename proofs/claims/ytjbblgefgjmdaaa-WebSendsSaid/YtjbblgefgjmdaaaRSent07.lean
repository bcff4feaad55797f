/- Walks over webs: an amount goes over a channel, as the document says. -/
import Derived.Test.YtjbblgefgjmdaaaSent07
namespace Go.Proofs.Ytjbblgefgjmdaaa
set_option linter.unusedVariables false
set_option linter.unusedSimpArgs false
set_option linter.unnecessarySimpa false
open Go.RowKit

set_option maxRecDepth 100000 in
set_option maxHeartbeats 4000000 in
theorem rsent_any (w : World) (As : Option Addr) (cs : Nat) (Ae : Option Addr) (ce : Nat) (x : Wb) (h : WebAt w As cs Ae ce x) (ok : x.Ok) (edge node n : Int) (hn : U64 n) (he : I64 edge) (hnd : I64 node) : Calls Try.prog 16 #[.agg #[.slice As x.spots.length cs, .slice Ae x.edges.length ce], .int .i64 edge, .int .i64 node, .int .u64 n] w fun e w' => ∃ A1 c1 A2 c2, e = .returned (.tuple #[.agg #[.slice A1 (sentP x edge node n).1.spots.length c1, .slice A2 (sentP x edge node n).1.edges.length c2], .int .i64 (sentP x edge node n).2]) ∧ WebAt w' A1 c1 A2 c2 (sentP x edge node n).1 ∧ Below w.heap.size w w' := by
  have h1 := ((Sat.pushRest w).alloc #[.slice As x.spots.length cs, .slice Ae x.edges.length ce] 25).alloc #[.slice none 0 0, .slice none 0 0] 25
  try simp only [List.cons_append, List.nil_append, List.set_cons_succ, List.set_cons_zero, Nat.zero_add, Nat.reduceAdd, World.size_alloc, World.size_drew] at h1
  have hck := rcheck_any _ As cs Ae ce x (h.move h1 rfl) ok
  have HW := Lib.hid h
  have H1 := Lib.hid h1
  obtain ⟨e0, e1⟩ := he
  obtain ⟨n0, n1⟩ := hn
  clear h h1
  rcases (show chkP x ≠ 0 ∨ chkP x = 0 by omega) with hz | hz
  · have HZ := Lib.hid (sent_bad (edge := edge) (node := node) (n := n) hz)
    obtain ⟨v, hv⟩ : ∃ v, chkP x = v := ⟨_, rfl⟩
    rw [hv] at hck hz HZ
    have d1 : (v == 0) = false := beq_eq_false_iff_ne.2 hz
    have d2 : (v != 0) = true := by simp [hz]
    have HCK := Lib.hid hck
    clear hck hz hv
    go_enter Try.func16, Try.ntmps16
    go_wp2_with fail
    refine (HCK.out).mono ?_
    rintro e w2 ⟨rfl, hb⟩
    have h2 := H1.out.grow hb
    have k2 := h2.all
    simp only [allFacts, box_facts, row_facts, emp_facts, cellFacts, Nat.zero_add, Nat.reduceAdd, true_and, and_true] at k2
    have H2 := Lib.hid h2
    clear hb h2
    go_wp2
    have hz9 := ((H2.out.set 2 rfl 0 (.slice none 0 0)).set 2 rfl 1 (.slice none 0 0))
    have hz8 := hz9.below (i := 0) rfl
    have HZ8 := Lib.hid hz8
    clear hz9 hz8
    refine bodyPost_ret (v := .tuple #[.agg #[.slice none 0 0, .slice none 0 0], .int .i64 v]) (by simp only [results, Try.results16]; go_simp) rfl ⟨none, 0, none, 0, ret_web (by rw [HZ.out]; rfl) (by rw [HZ.out]; rfl) (by rw [HZ.out]), by rw [HZ.out]; exact WebAt.none _, HZ8.out⟩
  · obtain ⟨z1, z2, z3⟩ := chk_zero hz
    rw [hz] at hck
    have HCK := Lib.hid hck
    have HC := Lib.hid hz
    have HB := Lib.hid z3
    clear hck z3 hz
    rcases (show edge < 0 ∨ (0 ≤ edge ∧ (x.edges.length : Int) ≤ edge) ∨ (0 ≤ edge ∧ edge < x.edges.length) by omega) with g0 | ⟨g0, g1⟩ | ⟨g0, g1⟩
    · have HZ := Lib.hid (sent_out (node := node) (n := n) HC.out (.inl g0))
      go_enter Try.func16, Try.ntmps16
      go_wp2_with fail
      refine (HCK.out).mono ?_
      rintro e w2 ⟨rfl, hb⟩
      have h2 := H1.out.grow hb
      have k2 := h2.all
      simp only [allFacts, box_facts, row_facts, emp_facts, cellFacts, Nat.zero_add, Nat.reduceAdd, true_and, and_true] at k2
      have H2 := Lib.hid h2
      clear hb h2
      go_wp2
      have hz9 := ((H2.out.set 2 rfl 0 (.slice none 0 0)).set 2 rfl 1 (.slice none 0 0))
      have hz8 := hz9.below (i := 0) rfl
      have HZ8 := Lib.hid hz8
      clear hz9 hz8
      refine bodyPost_ret (v := .tuple #[.agg #[.slice none 0 0, .slice none 0 0], .int .i64 1]) (by simp only [results, Try.results16]; go_simp) rfl ⟨none, 0, none, 0, ret_web (by rw [HZ.out]; rfl) (by rw [HZ.out]; rfl) (by rw [HZ.out]), by rw [HZ.out]; exact WebAt.none _, HZ8.out⟩
    · have HZ := Lib.hid (sent_out (node := node) (n := n) HC.out (.inr g1))
      go_enter Try.func16, Try.ntmps16
      go_wp2_with fail
      refine (HCK.out).mono ?_
      rintro e w2 ⟨rfl, hb⟩
      have h2 := H1.out.grow hb
      have k2 := h2.all
      simp only [allFacts, box_facts, row_facts, emp_facts, cellFacts, Nat.zero_add, Nat.reduceAdd, true_and, and_true] at k2
      have H2 := Lib.hid h2
      clear hb h2
      go_wp2
      have hz9 := ((H2.out.set 2 rfl 0 (.slice none 0 0)).set 2 rfl 1 (.slice none 0 0))
      have hz8 := hz9.below (i := 0) rfl
      have HZ8 := Lib.hid hz8
      clear hz9 hz8
      refine bodyPost_ret (v := .tuple #[.agg #[.slice none 0 0, .slice none 0 0], .int .i64 1]) (by simp only [results, Try.results16]; go_simp) rfl ⟨none, 0, none, 0, ret_web (by rw [HZ.out]; rfl) (by rw [HZ.out]; rfl) (by rw [HZ.out]), by rw [HZ.out]; exact WebAt.none _, HZ8.out⟩
    · obtain ⟨k, rfl⟩ : ∃ k : Nat, edge = k := ⟨edge.toNat, by omega⟩
      have hlt : k < x.edges.length := by omega
      have hsa := sent_at HC.out hlt node n
      have hok := ok.e x.edges[k] (List.getElem_mem hlt)
      obtain ⟨g, off, rfl, hb, hc⟩ := HW.out.e.at edC_len (by decide) hlt
      have hgk : x.edges[k]? = some x.edges[k] := List.getElem?_eq_getElem hlt
      have hnb := HB.out x.edges[k] (List.getElem_mem hlt)
      generalize hed : x.edges[k] = ed at *
      obtain ⟨a, b, c0, c1, b0, r0, b1, r1⟩ := ed
      try dsimp only at hok hnb
      have HC := Lib.hid hc
      clear hed hc
      have HSA := Lib.hid hsa
      have HGK := Lib.hid hgk
      obtain ⟨o1, o2, o3, o4, -, -, -, -⟩ := hok
      dsimp only at o1 o2 o3 o4
      have hab : a ≠ b := fun h => hnb (.inr (.inr (.inr (.inr h))))
      clear hsa hgk hnb
      rcases side_cases ⟨a, b, c0, c1, b0, r0, b1, r1⟩ node with ⟨hs, ha⟩ | ⟨hs, hb1, ha⟩ | ⟨hs, ha, hb1⟩
      · have d1 : (a == node) = true := by simpa using ha
        have d2 : (b == node) = false := beq_eq_false_iff_ne.2 (fun h => hab ((show a = node from ha).trans h.symm))
        have hsa := HSA.out
        rw [hs] at hsa
        have HAQ := Lib.hid (fun w => radd_any c1 n o4 ⟨n0, n1⟩ w)
        obtain ⟨u0, u1⟩ := o3
        clear hs ha hab
        rcases (show c0 < n ∨ n ≤ c0 by omega) with r1' | r1'
        · have HZ := Lib.hid (hsa.trans ((if_neg (by decide)).trans (if_pos (show _ < n from r1'))))
          clear hsa HAQ
          go_enter Try.func16, Try.ntmps16
          go_wp2_with fail
          refine (HCK.out).mono ?_
          rintro e w2 ⟨rfl, hb⟩
          have h2 := H1.out.grow hb
          have k2 := h2.all
          simp only [allFacts, box_facts, row_facts, emp_facts, cellFacts, Nat.zero_add, Nat.reduceAdd, true_and, and_true] at k2
          have H2 := Lib.hid h2
          clear hb h2
          have q0 := restCell H2.out rfl hb (HC.out 0 _ rfl)
          have q1 := restCell H2.out rfl hb (HC.out 1 _ rfl)
          have q2 := restCell H2.out rfl hb (HC.out 2 _ rfl)
          have q3 := restCell H2.out rfl hb (HC.out 3 _ rfl)
          have q4 := restCell H2.out rfl hb (HC.out 4 _ rfl)
          have q5 := restCell H2.out rfl hb (HC.out 5 _ rfl)
          have q6 := restCell H2.out rfl hb (HC.out 6 _ rfl)
          have q7 := restCell H2.out rfl hb (HC.out 7 _ rfl)
          rw [Nat.add_zero] at q0
          go_wp2
          refine wp_loop_rounds 3 ?_
          rw [rounds_succ]
          go_wp2_with fail
          rw [rounds_succ]
          go_wp2_with fail
          rw [rounds_succ]
          go_wp2_with fail
          clear q0 q1 q2 q3 q4 q5 q6 q7
          go_wp2
          have hz9 := ((H2.out.set 2 rfl 0 (.slice none 0 0)).set 2 rfl 1 (.slice none 0 0)).alloc #[.int .i64 a, .int .i64 b, .int .u64 c0, .int .u64 c1, .int .u64 b0, .int .u64 r0, .int .u64 b1, .int .u64 r1] 80
          have hz8 := hz9.below (i := 0) rfl
          have HZ8 := Lib.hid hz8
          clear hz9 hz8
          refine bodyPost_ret (v := .tuple #[.agg #[.slice none 0 0, .slice none 0 0], .int .i64 28]) (by simp only [results, Try.results16]; go_simp) rfl ⟨none, 0, none, 0, ret_web (by rw [HZ.out]; rfl) (by rw [HZ.out]; rfl) (by rw [HZ.out]), by rw [HZ.out]; exact WebAt.none _, HZ8.out⟩
        · have hsb := hsa.trans ((if_neg (by decide)).trans (if_neg (show ¬ _ < n from by show ¬ c0 < n; omega)))
          have hval := fun h => addP_val (a := c1) (b := n) h
          have hsc : sentP x k node n = if (addP c1 n).2 = 0 then (⟨x.spots, x.edges.set k ⟨a, b, c0 - n, c1 + n, b0, r0, b1, r1⟩⟩, 0) else (noWeb, (addP c1 n).2) := hsb
          clear hsa hsb
          generalize addP c1 n = r9 at *
          obtain ⟨m, e⟩ := r9
          dsimp only at hsc hval HAQ
          rcases (show e ≠ 0 ∨ e = 0 by omega) with he0 | he0
          · have HZ := Lib.hid (hsc.trans (if_neg he0))
            have HAD := HAQ
            have d3 : (e == 0) = false := beq_eq_false_iff_ne.2 he0
            have d4 : (e != 0) = true := by simp [he0]
            clear hsc he0 hval
            go_enter Try.func16, Try.ntmps16
            go_wp2_with fail
            refine (HCK.out).mono ?_
            rintro e w2 ⟨rfl, hb⟩
            have h2 := H1.out.grow hb
            have k2 := h2.all
            simp only [allFacts, box_facts, row_facts, emp_facts, cellFacts, Nat.zero_add, Nat.reduceAdd, true_and, and_true] at k2
            have H2 := Lib.hid h2
            clear hb h2
            have q0 := restCell H2.out rfl hb (HC.out 0 _ rfl)
            have q1 := restCell H2.out rfl hb (HC.out 1 _ rfl)
            have q2 := restCell H2.out rfl hb (HC.out 2 _ rfl)
            have q3 := restCell H2.out rfl hb (HC.out 3 _ rfl)
            have q4 := restCell H2.out rfl hb (HC.out 4 _ rfl)
            have q5 := restCell H2.out rfl hb (HC.out 5 _ rfl)
            have q6 := restCell H2.out rfl hb (HC.out 6 _ rfl)
            have q7 := restCell H2.out rfl hb (HC.out 7 _ rfl)
            rw [Nat.add_zero] at q0
            go_wp2
            refine wp_loop_rounds 3 ?_
            rw [rounds_succ]
            go_wp2_with fail
            rw [rounds_succ]
            go_wp2_with fail
            rw [rounds_succ]
            go_wp2_with fail
            have h4 := H2.out.alloc #[.int .i64 a, .int .i64 b, .int .u64 c0, .int .u64 c1, .int .u64 b0, .int .u64 r0, .int .u64 b1, .int .u64 r1] 80
            try simp only [List.cons_append, List.nil_append, List.set_cons_succ, List.set_cons_zero, Nat.zero_add, Nat.reduceAdd, World.size_alloc, World.size_drew] at h4
            have H4 := Lib.hid h4
            clear h4
            go_wp2_with fail
            refine (HAD.out _).mono ?_
            rintro e w5 ⟨rfl, hw⟩
            first | rw [show w5 = _ from hw] | rw [show w5 = _ from hw.symm]
            clear hw
            clear q0 q1 q2 q3 q4 q5 q6 q7
            go_wp2
            have hz9 := ((H2.out.set 2 rfl 0 (.slice none 0 0)).set 2 rfl 1 (.slice none 0 0)).alloc #[.int .i64 a, .int .i64 b, .int .u64 c0, .int .u64 c1, .int .u64 b0, .int .u64 r0, .int .u64 b1, .int .u64 r1] 80
            have hz8 := hz9.below (i := 0) rfl
            have HZ8 := Lib.hid hz8
            clear hz9 hz8
            refine bodyPost_ret (v := .tuple #[.agg #[.slice none 0 0, .slice none 0 0], .int .i64 e]) (by simp only [results, Try.results16]; go_simp) rfl ⟨none, 0, none, 0, ret_web (by rw [HZ.out]; rfl) (by rw [HZ.out]; rfl) (by rw [HZ.out]), by rw [HZ.out]; exact WebAt.none _, HZ8.out⟩
          · subst he0
            obtain ⟨v0, v1⟩ := hval rfl
            have HZ := Lib.hid (show sentP x k node n = (⟨x.spots, x.edges.set k ⟨a, b, c0 - n, m, b0, r0, b1, r1⟩⟩, 0) from by rw [v0]; exact hsc.trans (if_pos rfl))
            have HAD := HAQ
            have w1' : IntKind.u64.wrap (c0 - n) = c0 - n := by rw [IntKind.wrap_u64]; omega
            clear hsc hval v0 v1
            go_enter Try.func16, Try.ntmps16
            go_wp2_with fail
            refine (HCK.out).mono ?_
            rintro e w2 ⟨rfl, hb⟩
            have h2 := H1.out.grow hb
            have k2 := h2.all
            simp only [allFacts, box_facts, row_facts, emp_facts, cellFacts, Nat.zero_add, Nat.reduceAdd, true_and, and_true] at k2
            have H2 := Lib.hid h2
            clear hb h2
            have q0 := restCell H2.out rfl hb (HC.out 0 _ rfl)
            have q1 := restCell H2.out rfl hb (HC.out 1 _ rfl)
            have q2 := restCell H2.out rfl hb (HC.out 2 _ rfl)
            have q3 := restCell H2.out rfl hb (HC.out 3 _ rfl)
            have q4 := restCell H2.out rfl hb (HC.out 4 _ rfl)
            have q5 := restCell H2.out rfl hb (HC.out 5 _ rfl)
            have q6 := restCell H2.out rfl hb (HC.out 6 _ rfl)
            have q7 := restCell H2.out rfl hb (HC.out 7 _ rfl)
            rw [Nat.add_zero] at q0
            go_wp2
            refine wp_loop_rounds 3 ?_
            rw [rounds_succ]
            go_wp2_with fail
            rw [rounds_succ]
            go_wp2_with fail
            rw [rounds_succ]
            go_wp2_with fail
            have h4 := H2.out.alloc #[.int .i64 a, .int .i64 b, .int .u64 c0, .int .u64 c1, .int .u64 b0, .int .u64 r0, .int .u64 b1, .int .u64 r1] 80
            try simp only [List.cons_append, List.nil_append, List.set_cons_succ, List.set_cons_zero, Nat.zero_add, Nat.reduceAdd, World.size_alloc, World.size_drew] at h4
            have H4 := Lib.hid h4
            clear h4
            go_wp2_with fail
            refine (HAD.out _).mono ?_
            rintro e w5 ⟨rfl, hw⟩
            first | rw [show w5 = _ from hw] | rw [show w5 = _ from hw.symm]
            clear hw
            clear q0 q1 q2 q3 q4 q5 q6 q7
            go_wp2_with fail
            have hx2 := H2.out.alloc #[.int .i64 a, .int .i64 b, .int .u64 (c0 - n), .int .u64 m, .int .u64 b0, .int .u64 r0, .int .u64 b1, .int .u64 r1] 80
            try simp only [List.cons_append, List.nil_append, List.set_cons_succ, List.set_cons_zero, Nat.zero_add, Nat.reduceAdd, World.size_alloc, World.size_drew] at hx2
            generalize w2.alloc (.cells #[.int .i64 a, .int .i64 b, .int .u64 (c0 - n), .int .u64 m, .int .u64 b0, .int .u64 r0, .int .u64 b1, .int .u64 r1] 80) = wb at hx2 ⊢
            have HX2 := Lib.hid hx2
            have HY := Lib.hid hx2.drew
            have k6 := hx2.all
            simp only [allFacts, box_facts, row_facts, emp_facts, cellFacts, Nat.zero_add, Nat.reduceAdd, true_and, and_true] at k6
            clear hx2
            refine region_chainT (m := 4) (E := [2, 5, 7, 8]) (kn := [true, true, false, true, true, false, false, false, false]) (mask := [true, true, false, true, true, false, false, false, false]) (vs := [?vr0o0_0_u4, ?vr0o0_1_u4, undef, ?vr0o0_3_u4, ?vr0o0_4_u4, undef, undef, undef, undef]) (S := fun w' => w' = wb.drew) (by kernel_rfl) (by kernel_rfl) (by kernel_rfl) (by kernel_rfl) (by kernel_rfl) ?hSr0o_u4 ?hchr0o_u4
            case hSr0o_u4 => exact rfl
            case hchr0o_u4 =>
              refine chainT_two 2 7 (by decide) (by kernel_rfl) rfl ?opsr0o0_u4 ?mr0o0_0_u4 ?mr0o0_1_u4
              case opsr0o0_u4 =>
                simp only [OpsAt, fillT, List.setIfInBounds_toArray, List.set_cons_zero, List.set_cons_succ]
                refine ⟨.inl ⟨by rfl, opOk_pure fun wS hS => ?_⟩, ?_⟩
                · ((subst hS; go_simp)); try (with_reducible rfl)
                refine ⟨.inl ⟨by rfl, opOk_pure fun wS hS => ?_⟩, ?_⟩
                · ((subst hS; go_simp)); try (with_reducible rfl)
                refine ⟨.inl ⟨by rfl, opOk_pure fun wS hS => ?_⟩, ?_⟩
                · ((subst hS; go_simp)); try (with_reducible rfl)
                refine ⟨.inl ⟨by rfl, opOk_pure fun wS hS => ?_⟩, ?_⟩
                · ((subst hS; go_simp)); try (with_reducible rfl)
                try trivial
              case mr0o0_0_u4 =>
                refine makeT _ rfl ?wantr0o0_0_u4 ?effr0o0_0_u4
                case wantr0o0_0_u4 => (try simp only [fillT, List.setIfInBounds_toArray, List.set_cons_zero, List.set_cons_succ]) <;> rfl
                intro wS hS
                simp only [fillT, List.setIfInBounds_toArray, List.set_cons_zero, List.set_cons_succ]
                rw [hS]
                refine eff_run (w' := (wb.drew).alloc (.cells #[] 80)) (by go_simp; try rfl) ?_
                have hs1 := (HY.out).made #[] 80 8 0 0 rfl (Nat.le_refl _) (Nat.zero_le _)
                try simp only [List.cons_append, List.nil_append, List.set_cons_succ, List.set_cons_zero, Nat.zero_add, Nat.reduceAdd, World.size_alloc, World.size_drew] at hs1
                have kk1 := hs1.all
                simp only [allFacts, box_facts, row_facts, emp_facts, cellFacts, Nat.zero_add, Nat.reduceAdd, true_and, and_true] at kk1
                have HS1 := Lib.hid hs1
                clear hs1
                refine ⟨_, [true, true, true, true, true, false, false, false, false], [true, true, false, true, true, false, false, false, false], [], [?vr0o1_0_u4, ?vr0o1_1_u4, (.slice (some ⟨wb.heap.size, 0, none⟩) 0 0), ?vr0o1_3_u4, ?vr0o1_4_u4, undef, undef, undef, undef], fun w' => w' = (wb.drew).alloc (.cells #[] 80), rfl, rfl, ?samer0o1_u4, by kernel_rfl, ?hSr0o1_u4, ?nxr0o1_u4⟩
                case samer0o1_u4 =>
                  refine And.intro ?_ ?_
                  · with_reducible rfl
                  refine And.intro ?_ ?_
                  · with_reducible rfl
                  refine And.intro ?_ ?_
                  · with_reducible rfl
                  refine And.intro ?_ ?_
                  · with_reducible rfl
                  trivial
                case hSr0o1_u4 => rfl
                case nxr0o1_u4 =>
                  refine chainT_two 5 7 (by decide) (by kernel_rfl) rfl ?opsr0o1_u4 ?mr0o1_0_u4 ?mr0o1_1_u4
                  case opsr0o1_u4 =>
                    simp only [OpsAt, fillT, List.setIfInBounds_toArray, List.set_cons_zero, List.set_cons_succ]
                    refine ⟨.inl ⟨by rfl, opOk_pure fun wS hS => ?_⟩, ?_⟩
                    · ((subst hS; go_simp)); try (with_reducible rfl)
                    refine ⟨.inl ⟨by rfl, opOk_pure fun wS hS => ?_⟩, ?_⟩
                    · ((subst hS; go_simp)); try (with_reducible rfl)
                    refine ⟨.inl ⟨by rfl, opOk_pure fun wS hS => ?_⟩, ?_⟩
                    · ((subst hS; go_simp)); try (with_reducible rfl)
                    refine ⟨.inl ⟨by rfl, opOk_pure fun wS hS => ?_⟩, ?_⟩
                    · ((subst hS; go_simp)); try (with_reducible rfl)
                    try trivial
                  case mr0o1_0_u4 =>
                    refine makeT _ rfl ?wantr0o1_0_u4 ?effr0o1_0_u4
                    case wantr0o1_0_u4 => (try simp only [fillT, List.setIfInBounds_toArray, List.set_cons_zero, List.set_cons_succ]) <;> rfl
                    intro wS hS
                    simp only [fillT, List.setIfInBounds_toArray, List.set_cons_zero, List.set_cons_succ]
                    rw [hS]
                    refine wp_append_sat _ _ 23 rfl HS1.out 4 80 (.agg #[.int .i64 0, .int .i64 0, .int .u64 0, .int .u64 0, .int .u64 0, .int .u64 0, .int .u64 0, .int .u64 0]) 8 64 Try.underlying23 info_re rfl (by decide) (.slice (some ⟨wb.heap.size, 0, none⟩) 0 0) 0 [] ?z20_u4 rfl (some ⟨g, off, none⟩) x.edges.length ce (x.edges.flatMap edC) ?z21_u4 (fun h => by cases h) ?z22_u4 (src_rest (HS1.out) (i := 0) rfl HW.out.e.src (src_lt HW.out.e.src)) ?z23_u4 ?z24_u4 ?z25_u4 ?z26_u4
                    try (case z20_u4 => go_simp)
                    try (case z21_u4 => go_simp)
                    try (case z22_u4 => exact recs_len edC_len x.edges)
                    case z23_u4 => (intro u hu; simp only [List.mem_flatMap] at hu; obtain ⟨p, _, hp⟩ := hu; simp [edC] at hp; rcases hp with rfl | rfl | rfl | rfl | rfl | rfl | rfl | rfl <;> rfl)
                    case z24_u4 => unfold maxLen; omega
                    case z25_u4 => omega
                    case z26_u4 =>
                      intro A2 C2 y2 hs2 hA2 hg2
                      try simp only [List.cons_append, List.nil_append, List.set_cons_succ, List.set_cons_zero, Nat.zero_add, Nat.reduceAdd, World.size_alloc, World.size_drew] at hs2
                      have kk2 := hs2.all
                      simp only [allFacts, box_facts, row_facts, emp_facts, cellFacts, Nat.zero_add, Nat.reduceAdd, true_and, and_true] at kk2
                      have HS2 := Lib.hid hs2
                      clear hs2
                      clear hA2 hg2
                      simp only [Nat.zero_add]
                      refine ⟨_, [true, true, true, true, true, true, true, false, false], [true, true, false, false, false, false, true, false, false], [4, 3], [?vr0o2_0_u4, ?vr0o2_1_u4, (.slice (some ⟨wb.heap.size, 0, none⟩) 0 0), ?vr0o2_3_u4, ?vr0o2_4_u4, (.slice A2 x.edges.length C2), ?vr0o2_6_u4, undef, undef], fun w' => w' = y2, rfl, rfl, ?samer0o2_u4, by kernel_rfl, ?hSr0o2_u4, ?nxr0o2_u4⟩
                      case samer0o2_u4 =>
                        refine And.intro ?_ ?_
                        · with_reducible rfl
                        refine And.intro ?_ ?_
                        · with_reducible rfl
                        refine And.intro ?_ ?_
                        · with_reducible rfl
                        refine And.intro ?_ ?_
                        · with_reducible rfl
                        refine And.intro ?_ ?_
                        · with_reducible rfl
                        trivial
                      case hSr0o2_u4 => rfl
                      case nxr0o2_u4 =>
                        refine chainT_one 7 (by decide) (by kernel_rfl) rfl ?opsr0o2_u4 ?mr0o2_0_u4
                        case opsr0o2_u4 =>
                          simp only [OpsAt, fillT, List.setIfInBounds_toArray, List.set_cons_zero, List.set_cons_succ]
                          refine ⟨.inl ⟨by rfl, opOk_pure fun wS hS => ?_⟩, ?_⟩
                          · ((subst hS; go_simp)); try (with_reducible rfl)
                          refine ⟨.inl ⟨by rfl, opOk_pure fun wS hS => ?_⟩, ?_⟩
                          · ((subst hS; go_simp)); try (with_reducible rfl)
                          refine ⟨.inl ⟨by rfl, opOk_pure fun wS hS => ?_⟩, ?_⟩
                          · ((subst hS; go_simp)); try (with_reducible rfl)
                          try trivial
                        case mr0o2_0_u4 =>
                          refine makeT _ rfl ?wantr0o2_0_u4 ?effr0o2_0_u4
                          case wantr0o2_0_u4 => (try simp only [fillT, List.setIfInBounds_toArray, List.set_cons_zero, List.set_cons_succ]) <;> rfl
                          intro wS hS
                          simp only [fillT, List.setIfInBounds_toArray, List.set_cons_zero, List.set_cons_succ]
                          rw [hS]
                          refine eff_run (w' := (y2).alloc (.cells #[.slice none 0 0, .slice none 0 0] 25)) (by go_simp; try rfl) ?_
                          have hs3 := (HS2.out).alloc #[.slice none 0 0, .slice none 0 0] 25
                          try simp only [List.cons_append, List.nil_append, List.set_cons_succ, List.set_cons_zero, Nat.zero_add, Nat.reduceAdd, World.size_alloc, World.size_drew] at hs3
                          have kk3 := hs3.all
                          simp only [allFacts, box_facts, row_facts, emp_facts, cellFacts, Nat.zero_add, Nat.reduceAdd, true_and, and_true] at kk3
                          have HS3 := Lib.hid hs3
                          clear hs3
                          refine ⟨_, [true, true, true, true, true, true, true, true, false], [true, true, false, false, false, false, true, false, false], [], [?vr0o3_0_u4, ?vr0o3_1_u4, (.slice (some ⟨wb.heap.size, 0, none⟩) 0 0), ?vr0o3_3_u4, ?vr0o3_4_u4, (.slice A2 x.edges.length C2), ?vr0o3_6_u4, (.pointer (some ⟨y2.heap.size, 0, none⟩)), undef], fun w' => w' = (y2).alloc (.cells #[.slice none 0 0, .slice none 0 0] 25), rfl, rfl, ?samer0o3_u4, by kernel_rfl, ?hSr0o3_u4, ?nxr0o3_u4⟩
                          case samer0o3_u4 =>
                            refine And.intro ?_ ?_
                            · with_reducible rfl
                            refine And.intro ?_ ?_
                            · with_reducible rfl
                            refine And.intro ?_ ?_
                            · with_reducible rfl
                            refine And.intro ?_ ?_
                            · with_reducible rfl
                            refine And.intro ?_ ?_
                            · with_reducible rfl
                            refine And.intro ?_ ?_
                            · with_reducible rfl
                            refine And.intro ?_ ?_
                            · with_reducible rfl
                            trivial
                          case hSr0o3_u4 => rfl
                          case nxr0o3_u4 =>
                            refine chainT_one 8 (by decide) (by kernel_rfl) rfl ?opsr0o3_u4 ?mr0o3_0_u4
                            case opsr0o3_u4 =>
                              simp only [OpsAt, fillT, List.setIfInBounds_toArray, List.set_cons_zero, List.set_cons_succ]
                              refine ⟨.inl ⟨by rfl, opOk_pure fun wS hS => ?_⟩, ?_⟩
                              · ((subst hS; go_simp)); try (with_reducible rfl)
                              refine ⟨.inl ⟨by rfl, opOk_pure fun wS hS => ?_⟩, ?_⟩
                              · ((subst hS; go_simp)); try (with_reducible rfl)
                              refine ⟨.inl ⟨by rfl, opOk_pure fun wS hS => ?_⟩, ?_⟩
                              · ((subst hS; go_simp)); try (with_reducible rfl)
                              try trivial
                            case mr0o3_0_u4 =>
                              refine makeT _ rfl ?wantr0o3_0_u4 ?effr0o3_0_u4
                              case wantr0o3_0_u4 => (try simp only [fillT, List.setIfInBounds_toArray, List.set_cons_zero, List.set_cons_succ]) <;> rfl
                              intro wS hS
                              simp only [fillT, List.setIfInBounds_toArray, List.set_cons_zero, List.set_cons_succ]
                              rw [hS]
                              refine eff_skip (w' := (((y2).alloc (.cells #[.slice none 0 0, .slice none 0 0] 25)).setCell ⟨y2.heap.size, 0, none⟩ (.slice As x.spots.length cs)).setCell ⟨y2.heap.size, 1, none⟩ (.slice A2 x.edges.length C2)) ?run_u1_u4 ?pp_u1_u4
                              case run_u1_u4 => go_simp
                              case pp_u1_u4 =>
                                have hs4 := ((HS3.out).set 5 rfl 0 (.slice As x.spots.length cs)).set 5 rfl 1 (.slice A2 x.edges.length C2)
                                try simp only [List.cons_append, List.nil_append, List.set_cons_succ, List.set_cons_zero, Nat.zero_add, Nat.reduceAdd, World.size_alloc, World.size_drew] at hs4
                                have kk4 := hs4.all
                                simp only [allFacts, box_facts, row_facts, emp_facts, cellFacts, Nat.zero_add, Nat.reduceAdd, true_and, and_true] at kk4
                                have HS4 := Lib.hid hs4
                                clear hs4
                                refine ⟨_, [true, true, true, true, true, true, true, true, true], [false, false, false, false, false, false, false, false, false], [6, 0, 1], [?vr0o4_0_u4, ?vr0o4_1_u4, (.slice (some ⟨wb.heap.size, 0, none⟩) 0 0), ?vr0o4_3_u4, ?vr0o4_4_u4, (.slice A2 x.edges.length C2), ?vr0o4_6_u4, (.pointer (some ⟨y2.heap.size, 0, none⟩)), undef], fun w' => w' = (((y2).alloc (.cells #[.slice none 0 0, .slice none 0 0] 25)).setCell ⟨y2.heap.size, 0, none⟩ (.slice As x.spots.length cs)).setCell ⟨y2.heap.size, 1, none⟩ (.slice A2 x.edges.length C2), rfl, rfl, ?samer0o4_u4, by kernel_rfl, ?hSr0o4_u4, ?nxr0o4_u4⟩
                                case samer0o4_u4 =>
                                  refine And.intro ?_ ?_
                                  · with_reducible rfl
                                  refine And.intro ?_ ?_
                                  · with_reducible rfl
                                  refine And.intro ?_ ?_
                                  · with_reducible rfl
                                  refine And.intro ?_ ?_
                                  · with_reducible rfl
                                  refine And.intro ?_ ?_
                                  · with_reducible rfl
                                  refine And.intro ?_ ?_
                                  · with_reducible rfl
                                  refine And.intro ?_ ?_
                                  · with_reducible rfl
                                  refine And.intro ?_ ?_
                                  · with_reducible rfl
                                  trivial
                                case hSr0o4_u4 => rfl
                                case nxr0o4_u4 =>
                                  refine chainT_nil (by rfl) (by kernel_rfl) rfl ?opsr0o4_u4 ?endr0o4_u4
                                  case opsr0o4_u4 =>
                                    simp only [OpsAt, fillT, List.setIfInBounds_toArray, List.set_cons_zero, List.set_cons_succ]
                                    try trivial
                                  case endr0o4_u4 =>
                                    intro wE hE
                                    simp only [fillT, List.setIfInBounds_toArray, List.set_cons_zero, List.set_cons_succ]
                                    rw [hE]
                                    have ht := (HS4.out).pick [0, 1, 2, 3, 4, 5] (by decide)
                                    simp only [List.filterMap_cons, List.filterMap_nil, List.getElem?_cons_zero, List.getElem?_cons_succ] at ht
                                    try clear kk1
                                    try clear kk2
                                    try clear kk3
                                    try clear kk4
                                    clear hE
                                    generalize y2.heap.size = p at ht ⊢
                                    generalize (((y2).alloc (.cells #[.slice none 0 0, .slice none 0 0] 25)).setCell ⟨p, 0, none⟩ (.slice As x.spots.length cs)).setCell ⟨p, 1, none⟩ (.slice A2 x.edges.length C2) = wx at ht ⊢
                                    have HT := Lib.hid ht
                                    clear ht
                                    obtain ⟨gE, hgE, gc, gf, glt⟩ := rowK_at edC_len (by decide) (HT.out.rowOf (i := 4) rfl) (i := k) hlt
                                    subst hgE
                                    have hek : x.edges[k] = ⟨a, b, c0, c1, b0, r0, b1, r1⟩ := Option.some.inj ((List.getElem?_eq_getElem hlt).symm.trans HGK.out)
                                    rw [hek] at gc
                                    have s0 := gc 0 _ rfl
                                    have s1 := gc 1 _ rfl
                                    have s2 := gc 2 _ rfl
                                    have s3 := gc 3 _ rfl
                                    have s4 := gc 4 _ rfl
                                    have s5 := gc 5 _ rfl
                                    have s6 := gc 6 _ rfl
                                    have s7 := gc 7 _ rfl
                                    rw [Nat.add_zero] at s0
                                    have f0 := gf (k * 8 + 0)
                                    have f1 := gf (k * 8 + 1)
                                    have f2 := gf (k * 8 + 2)
                                    have f3 := gf (k * 8 + 3)
                                    have f4 := gf (k * 8 + 4)
                                    have f5 := gf (k * 8 + 5)
                                    have f6 := gf (k * 8 + 6)
                                    have f7 := gf (k * 8 + 7)
                                    rw [Nat.add_zero] at f0
                                    clear gc gf hek
                                    have k9 := HT.out.all
                                    simp only [allFacts, box_facts, row_facts, emp_facts, cellFacts, Nat.zero_add, Nat.reduceAdd, true_and, and_true] at k9
                                    have hk1 := HT.out.setRowK edC_len 4 rfl (i := k) (by simpa using hlt) (j := 0) (by decide) (.int .i64 a) (⟨a, b, c0, c1, b0, r0, b1, r1⟩ : Edg) (by rw [show x.edges[k] = ⟨a, b, c0, c1, b0, r0, b1, r1⟩ from Option.some.inj ((List.getElem?_eq_getElem hlt).symm.trans HGK.out)]; rfl)
                                    try simp only [List.cons_append, List.nil_append, List.set_cons_succ, List.set_cons_zero, Nat.zero_add, Nat.reduceAdd, World.size_alloc, World.size_drew] at hk1
                                    have hk2 := hk1.setRowK edC_len 4 rfl (i := k) (by simpa using hlt) (j := 1) (by decide) (.int .i64 b) (⟨a, b, c0, c1, b0, r0, b1, r1⟩ : Edg) (by simp [edC])
                                    try simp only [List.cons_append, List.nil_append, List.set_cons_succ, List.set_cons_zero, Nat.zero_add, Nat.reduceAdd, World.size_alloc, World.size_drew] at hk2
                                    have hk3 := hk2.setRowK edC_len 4 rfl (i := k) (by simpa using hlt) (j := 2) (by decide) (.int .u64 (c0 - n)) (⟨a, b, (c0 - n), c1, b0, r0, b1, r1⟩ : Edg) (by simp [edC])
                                    try simp only [List.cons_append, List.nil_append, List.set_cons_succ, List.set_cons_zero, Nat.zero_add, Nat.reduceAdd, World.size_alloc, World.size_drew] at hk3
                                    have hk4 := hk3.setRowK edC_len 4 rfl (i := k) (by simpa using hlt) (j := 3) (by decide) (.int .u64 m) (⟨a, b, (c0 - n), m, b0, r0, b1, r1⟩ : Edg) (by simp [edC])
                                    try simp only [List.cons_append, List.nil_append, List.set_cons_succ, List.set_cons_zero, Nat.zero_add, Nat.reduceAdd, World.size_alloc, World.size_drew] at hk4
                                    have hk5 := hk4.setRowK edC_len 4 rfl (i := k) (by simpa using hlt) (j := 4) (by decide) (.int .u64 b0) (⟨a, b, (c0 - n), m, b0, r0, b1, r1⟩ : Edg) (by simp [edC])
                                    try simp only [List.cons_append, List.nil_append, List.set_cons_succ, List.set_cons_zero, Nat.zero_add, Nat.reduceAdd, World.size_alloc, World.size_drew] at hk5
                                    have hk6 := hk5.setRowK edC_len 4 rfl (i := k) (by simpa using hlt) (j := 5) (by decide) (.int .u64 r0) (⟨a, b, (c0 - n), m, b0, r0, b1, r1⟩ : Edg) (by simp [edC])
                                    try simp only [List.cons_append, List.nil_append, List.set_cons_succ, List.set_cons_zero, Nat.zero_add, Nat.reduceAdd, World.size_alloc, World.size_drew] at hk6
                                    have hk7 := hk6.setRowK edC_len 4 rfl (i := k) (by simpa using hlt) (j := 6) (by decide) (.int .u64 b1) (⟨a, b, (c0 - n), m, b0, r0, b1, r1⟩ : Edg) (by simp [edC])
                                    try simp only [List.cons_append, List.nil_append, List.set_cons_succ, List.set_cons_zero, Nat.zero_add, Nat.reduceAdd, World.size_alloc, World.size_drew] at hk7
                                    have hk8 := hk7.setRowK edC_len 4 rfl (i := k) (by simpa using hlt) (j := 7) (by decide) (.int .u64 r1) (⟨a, b, (c0 - n), m, b0, r0, b1, r1⟩ : Edg) (by simp [edC])
                                    try simp only [List.cons_append, List.nil_append, List.set_cons_succ, List.set_cons_zero, Nat.zero_add, Nat.reduceAdd, World.size_alloc, World.size_drew] at hk8
                                    simp only [List.length_set, List.set_set, Nat.add_zero] at hk8
                                    have HK := Lib.hid hk8
                                    clear hk1 hk2 hk3 hk4 hk5 hk6 hk7 hk8
                                    skip
                                    have h8 := (HK.out.set 2 rfl 0 (.slice As x.spots.length cs)).set 2 rfl 1 (.slice (some ⟨gE, 0, none⟩) x.edges.length C2)
                                    try simp only [List.cons_append, List.nil_append, List.set_cons_succ, List.set_cons_zero, Nat.zero_add, Nat.reduceAdd, World.size_alloc, World.size_drew] at h8
                                    have hb9 := h8.below (i := 0) rfl
                                    have HB9 := Lib.hid hb9
                                    have hwe := Recs.ofRow (k := 8) (f := edC) (L := x.edges.set k (⟨a, b, c0 - n, m, b0, r0, b1, r1⟩ : Edg)) (c := C2) (A := some ⟨gE, 0, none⟩) (h8.rowOf (i := 4) (by rw [List.length_set]; rfl)) (by rw [List.length_set]; omega)
                                    have hws := HW.out.s.mono (src_rest h8 (i := 0) rfl HW.out.s.src (src_lt HW.out.s.src))
                                    have HW9 := Lib.hid (And.intro hws hwe)
                                    have k8 := HK.out.all
                                    simp only [allFacts, box_facts, row_facts, emp_facts, cellFacts, Nat.zero_add, Nat.reduceAdd, true_and, and_true] at k8
                                    clear h8 hb9 hwe hws
                                    go_wp2
                                    refine bodyPost_ret (v := .tuple #[.agg #[.slice As x.spots.length cs, .slice (some ⟨gE, 0, none⟩) x.edges.length C2], .int .i64 0]) (by simp only [results, Try.results16]; go_simp) rfl ⟨As, cs, some ⟨gE, 0, none⟩, C2, ret_web (by rw [HZ.out]) (by rw [HZ.out]; simp) (by rw [HZ.out]), by rw [HZ.out]; exact ⟨HW9.out.1, HW9.out.2⟩, HB9.out⟩
                  case mr0o1_1_u4 =>
                    refine makeT _ rfl ?wantr0o1_1_u4 ?effr0o1_1_u4
                    case wantr0o1_1_u4 => (try simp only [fillT, List.setIfInBounds_toArray, List.set_cons_zero, List.set_cons_succ]) <;> rfl
                    intro wS hS
                    simp only [fillT, List.setIfInBounds_toArray, List.set_cons_zero, List.set_cons_succ]
                    rw [hS]
                    refine eff_run (w' := ((wb.drew).alloc (.cells #[] 80)).alloc (.cells #[.slice none 0 0, .slice none 0 0] 25)) (by go_simp; try rfl) ?_
                    have hs5 := (HS1.out).alloc #[.slice none 0 0, .slice none 0 0] 25
                    try simp only [List.cons_append, List.nil_append, List.set_cons_succ, List.set_cons_zero, Nat.zero_add, Nat.reduceAdd, World.size_alloc, World.size_drew] at hs5
                    have kk5 := hs5.all
                    simp only [allFacts, box_facts, row_facts, emp_facts, cellFacts, Nat.zero_add, Nat.reduceAdd, true_and, and_true] at kk5
                    have HS5 := Lib.hid hs5
                    clear hs5
                    refine ⟨_, [true, true, true, true, true, false, false, true, false], [true, true, false, true, true, false, false, false, false], [], [?vr0o5_0_u4, ?vr0o5_1_u4, (.slice (some ⟨wb.heap.size, 0, none⟩) 0 0), ?vr0o5_3_u4, ?vr0o5_4_u4, undef, undef, (.pointer (some ⟨(wb.heap.size + 1), 0, none⟩)), undef], fun w' => w' = ((wb.drew).alloc (.cells #[] 80)).alloc (.cells #[.slice none 0 0, .slice none 0 0] 25), rfl, rfl, ?samer0o5_u4, by kernel_rfl, ?hSr0o5_u4, ?nxr0o5_u4⟩
                    case samer0o5_u4 =>
                      refine And.intro ?_ ?_
                      · with_reducible rfl
                      refine And.intro ?_ ?_
                      · with_reducible rfl
                      refine And.intro ?_ ?_
                      · with_reducible rfl
                      refine And.intro ?_ ?_
                      · with_reducible rfl
                      refine And.intro ?_ ?_
                      · with_reducible rfl
                      trivial
                    case hSr0o5_u4 => rfl
                    case nxr0o5_u4 =>
                      refine chainT_one 5 (by decide) (by kernel_rfl) rfl ?opsr0o5_u4 ?mr0o5_0_u4
                      case opsr0o5_u4 =>
                        simp only [OpsAt, fillT, List.setIfInBounds_toArray, List.set_cons_zero, List.set_cons_succ]
                        refine ⟨.inl ⟨by rfl, opOk_pure fun wS hS => ?_⟩, ?_⟩
                        · ((subst hS; go_simp)); try (with_reducible rfl)
                        refine ⟨.inl ⟨by rfl, opOk_pure fun wS hS => ?_⟩, ?_⟩
                        · ((subst hS; go_simp)); try (with_reducible rfl)
                        refine ⟨.inl ⟨by rfl, opOk_pure fun wS hS => ?_⟩, ?_⟩
                        · ((subst hS; go_simp)); try (with_reducible rfl)
                        refine ⟨.inl ⟨by rfl, opOk_pure fun wS hS => ?_⟩, ?_⟩
                        · ((subst hS; go_simp)); try (with_reducible rfl)
                        try trivial
                      case mr0o5_0_u4 =>
                        refine makeT _ rfl ?wantr0o5_0_u4 ?effr0o5_0_u4
                        case wantr0o5_0_u4 => (try simp only [fillT, List.setIfInBounds_toArray, List.set_cons_zero, List.set_cons_succ]) <;> rfl
                        intro wS hS
                        simp only [fillT, List.setIfInBounds_toArray, List.set_cons_zero, List.set_cons_succ]
                        rw [hS]
                        refine wp_append_sat _ _ 23 rfl HS5.out 4 80 (.agg #[.int .i64 0, .int .i64 0, .int .u64 0, .int .u64 0, .int .u64 0, .int .u64 0, .int .u64 0, .int .u64 0]) 8 64 Try.underlying23 info_re rfl (by decide) (.slice (some ⟨wb.heap.size, 0, none⟩) 0 0) 0 [] ?z60_u4 rfl (some ⟨g, off, none⟩) x.edges.length ce (x.edges.flatMap edC) ?z61_u4 (fun h => by cases h) ?z62_u4 (src_rest (HS5.out) (i := 0) rfl HW.out.e.src (src_lt HW.out.e.src)) ?z63_u4 ?z64_u4 ?z65_u4 ?z66_u4
                        try (case z60_u4 => go_simp)
                        try (case z61_u4 => go_simp)
                        try (case z62_u4 => exact recs_len edC_len x.edges)
                        case z63_u4 => (intro u hu; simp only [List.mem_flatMap] at hu; obtain ⟨p, _, hp⟩ := hu; simp [edC] at hp; rcases hp with rfl | rfl | rfl | rfl | rfl | rfl | rfl | rfl <;> rfl)
                        case z64_u4 => unfold maxLen; omega
                        case z65_u4 => omega
                        case z66_u4 =>
                          intro A6 C6 y6 hs6 hA6 hg6
                          try simp only [List.cons_append, List.nil_append, List.set_cons_succ, List.set_cons_zero, Nat.zero_add, Nat.reduceAdd, World.size_alloc, World.size_drew] at hs6
                          have kk6 := hs6.all
                          simp only [allFacts, box_facts, row_facts, emp_facts, cellFacts, Nat.zero_add, Nat.reduceAdd, true_and, and_true] at kk6
                          have HS6 := Lib.hid hs6
                          clear hs6
                          clear hA6 hg6
                          simp only [Nat.zero_add]
                          refine ⟨_, [true, true, true, true, true, true, true, true, false], [true, true, false, false, false, false, true, false, false], [4, 3], [?vr0o6_0_u4, ?vr0o6_1_u4, (.slice (some ⟨wb.heap.size, 0, none⟩) 0 0), ?vr0o6_3_u4, ?vr0o6_4_u4, (.slice A6 x.edges.length C6), ?vr0o6_6_u4, (.pointer (some ⟨(wb.heap.size + 1), 0, none⟩)), undef], fun w' => w' = y6, rfl, rfl, ?samer0o6_u4, by kernel_rfl, ?hSr0o6_u4, ?nxr0o6_u4⟩
                          case samer0o6_u4 =>
                            refine And.intro ?_ ?_
                            · with_reducible rfl
                            refine And.intro ?_ ?_
                            · with_reducible rfl
                            refine And.intro ?_ ?_
                            · with_reducible rfl
                            refine And.intro ?_ ?_
                            · with_reducible rfl
                            refine And.intro ?_ ?_
                            · with_reducible rfl
                            refine And.intro ?_ ?_
                            · with_reducible rfl
                            trivial
                          case hSr0o6_u4 => rfl
                          case nxr0o6_u4 =>
                            refine chainT_one 8 (by decide) (by kernel_rfl) rfl ?opsr0o6_u4 ?mr0o6_0_u4
                            case opsr0o6_u4 =>
                              simp only [OpsAt, fillT, List.setIfInBounds_toArray, List.set_cons_zero, List.set_cons_succ]
                              refine ⟨.inl ⟨by rfl, opOk_pure fun wS hS => ?_⟩, ?_⟩
                              · ((subst hS; go_simp)); try (with_reducible rfl)
                              refine ⟨.inl ⟨by rfl, opOk_pure fun wS hS => ?_⟩, ?_⟩
                              · ((subst hS; go_simp)); try (with_reducible rfl)
                              refine ⟨.inl ⟨by rfl, opOk_pure fun wS hS => ?_⟩, ?_⟩
                              · ((subst hS; go_simp)); try (with_reducible rfl)
                              try trivial
                            case mr0o6_0_u4 =>
                              refine makeT _ rfl ?wantr0o6_0_u4 ?effr0o6_0_u4
                              case wantr0o6_0_u4 => (try simp only [fillT, List.setIfInBounds_toArray, List.set_cons_zero, List.set_cons_succ]) <;> rfl
                              intro wS hS
                              simp only [fillT, List.setIfInBounds_toArray, List.set_cons_zero, List.set_cons_succ]
                              rw [hS]
                              refine eff_skip (w' := ((y6).setCell ⟨(wb.heap.size + 1), 0, none⟩ (.slice As x.spots.length cs)).setCell ⟨(wb.heap.size + 1), 1, none⟩ (.slice A6 x.edges.length C6)) ?run_u2_u4 ?pp_u2_u4
                              case run_u2_u4 => go_simp
                              case pp_u2_u4 =>
                                have hs7 := ((HS6.out).set 5 rfl 0 (.slice As x.spots.length cs)).set 5 rfl 1 (.slice A6 x.edges.length C6)
                                try simp only [List.cons_append, List.nil_append, List.set_cons_succ, List.set_cons_zero, Nat.zero_add, Nat.reduceAdd, World.size_alloc, World.size_drew] at hs7
                                have kk7 := hs7.all
                                simp only [allFacts, box_facts, row_facts, emp_facts, cellFacts, Nat.zero_add, Nat.reduceAdd, true_and, and_true] at kk7
                                have HS7 := Lib.hid hs7
                                clear hs7
                                refine ⟨_, [true, true, true, true, true, true, true, true, true], [false, false, false, false, false, false, false, false, false], [6, 0, 1], [?vr0o7_0_u4, ?vr0o7_1_u4, (.slice (some ⟨wb.heap.size, 0, none⟩) 0 0), ?vr0o7_3_u4, ?vr0o7_4_u4, (.slice A6 x.edges.length C6), ?vr0o7_6_u4, (.pointer (some ⟨(wb.heap.size + 1), 0, none⟩)), undef], fun w' => w' = ((y6).setCell ⟨(wb.heap.size + 1), 0, none⟩ (.slice As x.spots.length cs)).setCell ⟨(wb.heap.size + 1), 1, none⟩ (.slice A6 x.edges.length C6), rfl, rfl, ?samer0o7_u4, by kernel_rfl, ?hSr0o7_u4, ?nxr0o7_u4⟩
                                case samer0o7_u4 =>
                                  refine And.intro ?_ ?_
                                  · with_reducible rfl
                                  refine And.intro ?_ ?_
                                  · with_reducible rfl
                                  refine And.intro ?_ ?_
                                  · with_reducible rfl
                                  refine And.intro ?_ ?_
                                  · with_reducible rfl
                                  refine And.intro ?_ ?_
                                  · with_reducible rfl
                                  refine And.intro ?_ ?_
                                  · with_reducible rfl
                                  refine And.intro ?_ ?_
                                  · with_reducible rfl
                                  refine And.intro ?_ ?_
                                  · with_reducible rfl
                                  trivial
                                case hSr0o7_u4 => rfl
                                case nxr0o7_u4 =>
                                  refine chainT_nil (by rfl) (by kernel_rfl) rfl ?opsr0o7_u4 ?endr0o7_u4
                                  case opsr0o7_u4 =>
                                    simp only [OpsAt, fillT, List.setIfInBounds_toArray, List.set_cons_zero, List.set_cons_succ]
                                    try trivial
                                  case endr0o7_u4 =>
                                    intro wE hE
                                    simp only [fillT, List.setIfInBounds_toArray, List.set_cons_zero, List.set_cons_succ]
                                    rw [hE]
                                    have ht := (HS7.out).pick [0, 1, 2, 3, 4, 5] (by decide)
                                    simp only [List.filterMap_cons, List.filterMap_nil, List.getElem?_cons_zero, List.getElem?_cons_succ] at ht
                                    try clear kk1
                                    try clear kk2
                                    try clear kk3
                                    try clear kk4
                                    try clear kk5
                                    try clear kk6
                                    try clear kk7
                                    clear hE
                                    generalize (wb.heap.size + 1) = p at ht ⊢
                                    generalize ((y6).setCell ⟨p, 0, none⟩ (.slice As x.spots.length cs)).setCell ⟨p, 1, none⟩ (.slice A6 x.edges.length C6) = wx at ht ⊢
                                    have HT := Lib.hid ht
                                    clear ht
                                    obtain ⟨gE, hgE, gc, gf, glt⟩ := rowK_at edC_len (by decide) (HT.out.rowOf (i := 4) rfl) (i := k) hlt
                                    subst hgE
                                    have hek : x.edges[k] = ⟨a, b, c0, c1, b0, r0, b1, r1⟩ := Option.some.inj ((List.getElem?_eq_getElem hlt).symm.trans HGK.out)
                                    rw [hek] at gc
                                    have s0 := gc 0 _ rfl
                                    have s1 := gc 1 _ rfl
                                    have s2 := gc 2 _ rfl
                                    have s3 := gc 3 _ rfl
                                    have s4 := gc 4 _ rfl
                                    have s5 := gc 5 _ rfl
                                    have s6 := gc 6 _ rfl
                                    have s7 := gc 7 _ rfl
                                    rw [Nat.add_zero] at s0
                                    have f0 := gf (k * 8 + 0)
                                    have f1 := gf (k * 8 + 1)
                                    have f2 := gf (k * 8 + 2)
                                    have f3 := gf (k * 8 + 3)
                                    have f4 := gf (k * 8 + 4)
                                    have f5 := gf (k * 8 + 5)
                                    have f6 := gf (k * 8 + 6)
                                    have f7 := gf (k * 8 + 7)
                                    rw [Nat.add_zero] at f0
                                    clear gc gf hek
                                    have k9 := HT.out.all
                                    simp only [allFacts, box_facts, row_facts, emp_facts, cellFacts, Nat.zero_add, Nat.reduceAdd, true_and, and_true] at k9
                                    have hk1 := HT.out.setRowK edC_len 4 rfl (i := k) (by simpa using hlt) (j := 0) (by decide) (.int .i64 a) (⟨a, b, c0, c1, b0, r0, b1, r1⟩ : Edg) (by rw [show x.edges[k] = ⟨a, b, c0, c1, b0, r0, b1, r1⟩ from Option.some.inj ((List.getElem?_eq_getElem hlt).symm.trans HGK.out)]; rfl)
                                    try simp only [List.cons_append, List.nil_append, List.set_cons_succ, List.set_cons_zero, Nat.zero_add, Nat.reduceAdd, World.size_alloc, World.size_drew] at hk1
                                    have hk2 := hk1.setRowK edC_len 4 rfl (i := k) (by simpa using hlt) (j := 1) (by decide) (.int .i64 b) (⟨a, b, c0, c1, b0, r0, b1, r1⟩ : Edg) (by simp [edC])
                                    try simp only [List.cons_append, List.nil_append, List.set_cons_succ, List.set_cons_zero, Nat.zero_add, Nat.reduceAdd, World.size_alloc, World.size_drew] at hk2
                                    have hk3 := hk2.setRowK edC_len 4 rfl (i := k) (by simpa using hlt) (j := 2) (by decide) (.int .u64 (c0 - n)) (⟨a, b, (c0 - n), c1, b0, r0, b1, r1⟩ : Edg) (by simp [edC])
                                    try simp only [List.cons_append, List.nil_append, List.set_cons_succ, List.set_cons_zero, Nat.zero_add, Nat.reduceAdd, World.size_alloc, World.size_drew] at hk3
                                    have hk4 := hk3.setRowK edC_len 4 rfl (i := k) (by simpa using hlt) (j := 3) (by decide) (.int .u64 m) (⟨a, b, (c0 - n), m, b0, r0, b1, r1⟩ : Edg) (by simp [edC])
                                    try simp only [List.cons_append, List.nil_append, List.set_cons_succ, List.set_cons_zero, Nat.zero_add, Nat.reduceAdd, World.size_alloc, World.size_drew] at hk4
                                    have hk5 := hk4.setRowK edC_len 4 rfl (i := k) (by simpa using hlt) (j := 4) (by decide) (.int .u64 b0) (⟨a, b, (c0 - n), m, b0, r0, b1, r1⟩ : Edg) (by simp [edC])
                                    try simp only [List.cons_append, List.nil_append, List.set_cons_succ, List.set_cons_zero, Nat.zero_add, Nat.reduceAdd, World.size_alloc, World.size_drew] at hk5
                                    have hk6 := hk5.setRowK edC_len 4 rfl (i := k) (by simpa using hlt) (j := 5) (by decide) (.int .u64 r0) (⟨a, b, (c0 - n), m, b0, r0, b1, r1⟩ : Edg) (by simp [edC])
                                    try simp only [List.cons_append, List.nil_append, List.set_cons_succ, List.set_cons_zero, Nat.zero_add, Nat.reduceAdd, World.size_alloc, World.size_drew] at hk6
                                    have hk7 := hk6.setRowK edC_len 4 rfl (i := k) (by simpa using hlt) (j := 6) (by decide) (.int .u64 b1) (⟨a, b, (c0 - n), m, b0, r0, b1, r1⟩ : Edg) (by simp [edC])
                                    try simp only [List.cons_append, List.nil_append, List.set_cons_succ, List.set_cons_zero, Nat.zero_add, Nat.reduceAdd, World.size_alloc, World.size_drew] at hk7
                                    have hk8 := hk7.setRowK edC_len 4 rfl (i := k) (by simpa using hlt) (j := 7) (by decide) (.int .u64 r1) (⟨a, b, (c0 - n), m, b0, r0, b1, r1⟩ : Edg) (by simp [edC])
                                    try simp only [List.cons_append, List.nil_append, List.set_cons_succ, List.set_cons_zero, Nat.zero_add, Nat.reduceAdd, World.size_alloc, World.size_drew] at hk8
                                    simp only [List.length_set, List.set_set, Nat.add_zero] at hk8
                                    have HK := Lib.hid hk8
                                    clear hk1 hk2 hk3 hk4 hk5 hk6 hk7 hk8
                                    skip
                                    have h8 := (HK.out.set 2 rfl 0 (.slice As x.spots.length cs)).set 2 rfl 1 (.slice (some ⟨gE, 0, none⟩) x.edges.length C6)
                                    try simp only [List.cons_append, List.nil_append, List.set_cons_succ, List.set_cons_zero, Nat.zero_add, Nat.reduceAdd, World.size_alloc, World.size_drew] at h8
                                    have hb9 := h8.below (i := 0) rfl
                                    have HB9 := Lib.hid hb9
                                    have hwe := Recs.ofRow (k := 8) (f := edC) (L := x.edges.set k (⟨a, b, c0 - n, m, b0, r0, b1, r1⟩ : Edg)) (c := C6) (A := some ⟨gE, 0, none⟩) (h8.rowOf (i := 4) (by rw [List.length_set]; rfl)) (by rw [List.length_set]; omega)
                                    have hws := HW.out.s.mono (src_rest h8 (i := 0) rfl HW.out.s.src (src_lt HW.out.s.src))
                                    have HW9 := Lib.hid (And.intro hws hwe)
                                    have k8 := HK.out.all
                                    simp only [allFacts, box_facts, row_facts, emp_facts, cellFacts, Nat.zero_add, Nat.reduceAdd, true_and, and_true] at k8
                                    clear h8 hb9 hwe hws
                                    go_wp2
                                    refine bodyPost_ret (v := .tuple #[.agg #[.slice As x.spots.length cs, .slice (some ⟨gE, 0, none⟩) x.edges.length C6], .int .i64 0]) (by simp only [results, Try.results16]; go_simp) rfl ⟨As, cs, some ⟨gE, 0, none⟩, C6, ret_web (by rw [HZ.out]) (by rw [HZ.out]; simp) (by rw [HZ.out]), by rw [HZ.out]; exact ⟨HW9.out.1, HW9.out.2⟩, HB9.out⟩
              case mr0o0_1_u4 =>
                refine makeT _ rfl ?wantr0o0_1_u4 ?effr0o0_1_u4
                case wantr0o0_1_u4 => (try simp only [fillT, List.setIfInBounds_toArray, List.set_cons_zero, List.set_cons_succ]) <;> rfl
                intro wS hS
                simp only [fillT, List.setIfInBounds_toArray, List.set_cons_zero, List.set_cons_succ]
                rw [hS]
                refine eff_run (w' := (wb.drew).alloc (.cells #[.slice none 0 0, .slice none 0 0] 25)) (by go_simp; try rfl) ?_
                have hs8 := (HY.out).alloc #[.slice none 0 0, .slice none 0 0] 25
                try simp only [List.cons_append, List.nil_append, List.set_cons_succ, List.set_cons_zero, Nat.zero_add, Nat.reduceAdd, World.size_alloc, World.size_drew] at hs8
                have kk8 := hs8.all
                simp only [allFacts, box_facts, row_facts, emp_facts, cellFacts, Nat.zero_add, Nat.reduceAdd, true_and, and_true] at kk8
                have HS8 := Lib.hid hs8
                clear hs8
                refine ⟨_, [true, true, false, true, true, false, false, true, false], [true, true, false, true, true, false, false, false, false], [], [?vr0o8_0_u4, ?vr0o8_1_u4, undef, ?vr0o8_3_u4, ?vr0o8_4_u4, undef, undef, (.pointer (some ⟨wb.heap.size, 0, none⟩)), undef], fun w' => w' = (wb.drew).alloc (.cells #[.slice none 0 0, .slice none 0 0] 25), rfl, rfl, ?samer0o8_u4, by kernel_rfl, ?hSr0o8_u4, ?nxr0o8_u4⟩
                case samer0o8_u4 =>
                  refine And.intro ?_ ?_
                  · with_reducible rfl
                  refine And.intro ?_ ?_
                  · with_reducible rfl
                  refine And.intro ?_ ?_
                  · with_reducible rfl
                  refine And.intro ?_ ?_
                  · with_reducible rfl
                  trivial
                case hSr0o8_u4 => rfl
                case nxr0o8_u4 =>
                  refine chainT_one 2 (by decide) (by kernel_rfl) rfl ?opsr0o8_u4 ?mr0o8_0_u4
                  case opsr0o8_u4 =>
                    simp only [OpsAt, fillT, List.setIfInBounds_toArray, List.set_cons_zero, List.set_cons_succ]
                    refine ⟨.inl ⟨by rfl, opOk_pure fun wS hS => ?_⟩, ?_⟩
                    · ((subst hS; go_simp)); try (with_reducible rfl)
                    refine ⟨.inl ⟨by rfl, opOk_pure fun wS hS => ?_⟩, ?_⟩
                    · ((subst hS; go_simp)); try (with_reducible rfl)
                    refine ⟨.inl ⟨by rfl, opOk_pure fun wS hS => ?_⟩, ?_⟩
                    · ((subst hS; go_simp)); try (with_reducible rfl)
                    refine ⟨.inl ⟨by rfl, opOk_pure fun wS hS => ?_⟩, ?_⟩
                    · ((subst hS; go_simp)); try (with_reducible rfl)
                    try trivial
                  case mr0o8_0_u4 =>
                    refine makeT _ rfl ?wantr0o8_0_u4 ?effr0o8_0_u4
                    case wantr0o8_0_u4 => (try simp only [fillT, List.setIfInBounds_toArray, List.set_cons_zero, List.set_cons_succ]) <;> rfl
                    intro wS hS
                    simp only [fillT, List.setIfInBounds_toArray, List.set_cons_zero, List.set_cons_succ]
                    rw [hS]
                    refine eff_run (w' := ((wb.drew).alloc (.cells #[.slice none 0 0, .slice none 0 0] 25)).alloc (.cells #[] 80)) (by go_simp; try rfl) ?_
                    have hs9 := (HS8.out).made #[] 80 8 0 0 rfl (Nat.le_refl _) (Nat.zero_le _)
                    try simp only [List.cons_append, List.nil_append, List.set_cons_succ, List.set_cons_zero, Nat.zero_add, Nat.reduceAdd, World.size_alloc, World.size_drew] at hs9
                    have kk9 := hs9.all
                    simp only [allFacts, box_facts, row_facts, emp_facts, cellFacts, Nat.zero_add, Nat.reduceAdd, true_and, and_true] at kk9
                    have HS9 := Lib.hid hs9
                    clear hs9
                    refine ⟨_, [true, true, true, true, true, false, false, true, false], [true, true, false, true, true, false, false, false, false], [], [?vr0o9_0_u4, ?vr0o9_1_u4, (.slice (some ⟨(wb.heap.size + 1), 0, none⟩) 0 0), ?vr0o9_3_u4, ?vr0o9_4_u4, undef, undef, (.pointer (some ⟨wb.heap.size, 0, none⟩)), undef], fun w' => w' = ((wb.drew).alloc (.cells #[.slice none 0 0, .slice none 0 0] 25)).alloc (.cells #[] 80), rfl, rfl, ?samer0o9_u4, by kernel_rfl, ?hSr0o9_u4, ?nxr0o9_u4⟩
                    case samer0o9_u4 =>
                      refine And.intro ?_ ?_
                      · with_reducible rfl
                      refine And.intro ?_ ?_
                      · with_reducible rfl
                      refine And.intro ?_ ?_
                      · with_reducible rfl
                      refine And.intro ?_ ?_
                      · with_reducible rfl
                      refine And.intro ?_ ?_
                      · with_reducible rfl
                      trivial
                    case hSr0o9_u4 => rfl
                    case nxr0o9_u4 =>
                      refine chainT_one 5 (by decide) (by kernel_rfl) rfl ?opsr0o9_u4 ?mr0o9_0_u4
                      case opsr0o9_u4 =>
                        simp only [OpsAt, fillT, List.setIfInBounds_toArray, List.set_cons_zero, List.set_cons_succ]
                        refine ⟨.inl ⟨by rfl, opOk_pure fun wS hS => ?_⟩, ?_⟩
                        · ((subst hS; go_simp)); try (with_reducible rfl)
                        refine ⟨.inl ⟨by rfl, opOk_pure fun wS hS => ?_⟩, ?_⟩
                        · ((subst hS; go_simp)); try (with_reducible rfl)
                        refine ⟨.inl ⟨by rfl, opOk_pure fun wS hS => ?_⟩, ?_⟩
                        · ((subst hS; go_simp)); try (with_reducible rfl)
                        refine ⟨.inl ⟨by rfl, opOk_pure fun wS hS => ?_⟩, ?_⟩
                        · ((subst hS; go_simp)); try (with_reducible rfl)
                        try trivial
                      case mr0o9_0_u4 =>
                        refine makeT _ rfl ?wantr0o9_0_u4 ?effr0o9_0_u4
                        case wantr0o9_0_u4 => (try simp only [fillT, List.setIfInBounds_toArray, List.set_cons_zero, List.set_cons_succ]) <;> rfl
                        intro wS hS
                        simp only [fillT, List.setIfInBounds_toArray, List.set_cons_zero, List.set_cons_succ]
                        rw [hS]
                        refine wp_append_sat _ _ 23 rfl HS9.out 5 80 (.agg #[.int .i64 0, .int .i64 0, .int .u64 0, .int .u64 0, .int .u64 0, .int .u64 0, .int .u64 0, .int .u64 0]) 8 64 Try.underlying23 info_re rfl (by decide) (.slice (some ⟨(wb.heap.size + 1), 0, none⟩) 0 0) 0 [] ?z100_u4 rfl (some ⟨g, off, none⟩) x.edges.length ce (x.edges.flatMap edC) ?z101_u4 (fun h => by cases h) ?z102_u4 (src_rest (HS9.out) (i := 0) rfl HW.out.e.src (src_lt HW.out.e.src)) ?z103_u4 ?z104_u4 ?z105_u4 ?z106_u4
                        try (case z100_u4 => go_simp)
                        try (case z101_u4 => go_simp)
                        try (case z102_u4 => exact recs_len edC_len x.edges)
                        case z103_u4 => (intro u hu; simp only [List.mem_flatMap] at hu; obtain ⟨p, _, hp⟩ := hu; simp [edC] at hp; rcases hp with rfl | rfl | rfl | rfl | rfl | rfl | rfl | rfl <;> rfl)
                        case z104_u4 => unfold maxLen; omega
                        case z105_u4 => omega
                        case z106_u4 =>
                          intro A10 C10 y10 hs10 hA10 hg10
                          try simp only [List.cons_append, List.nil_append, List.set_cons_succ, List.set_cons_zero, Nat.zero_add, Nat.reduceAdd, World.size_alloc, World.size_drew] at hs10
                          have kk10 := hs10.all
                          simp only [allFacts, box_facts, row_facts, emp_facts, cellFacts, Nat.zero_add, Nat.reduceAdd, true_and, and_true] at kk10
                          have HS10 := Lib.hid hs10
                          clear hs10
                          clear hA10 hg10
                          simp only [Nat.zero_add]
                          refine ⟨_, [true, true, true, true, true, true, true, true, false], [true, true, false, false, false, false, true, false, false], [4, 3], [?vr0o10_0_u4, ?vr0o10_1_u4, (.slice (some ⟨(wb.heap.size + 1), 0, none⟩) 0 0), ?vr0o10_3_u4, ?vr0o10_4_u4, (.slice A10 x.edges.length C10), ?vr0o10_6_u4, (.pointer (some ⟨wb.heap.size, 0, none⟩)), undef], fun w' => w' = y10, rfl, rfl, ?samer0o10_u4, by kernel_rfl, ?hSr0o10_u4, ?nxr0o10_u4⟩
                          case samer0o10_u4 =>
                            refine And.intro ?_ ?_
                            · with_reducible rfl
                            refine And.intro ?_ ?_
                            · with_reducible rfl
                            refine And.intro ?_ ?_
                            · with_reducible rfl
                            refine And.intro ?_ ?_
                            · with_reducible rfl
                            refine And.intro ?_ ?_
                            · with_reducible rfl
                            refine And.intro ?_ ?_
                            · with_reducible rfl
                            trivial
                          case hSr0o10_u4 => rfl
                          case nxr0o10_u4 =>
                            refine chainT_one 8 (by decide) (by kernel_rfl) rfl ?opsr0o10_u4 ?mr0o10_0_u4
                            case opsr0o10_u4 =>
                              simp only [OpsAt, fillT, List.setIfInBounds_toArray, List.set_cons_zero, List.set_cons_succ]
                              refine ⟨.inl ⟨by rfl, opOk_pure fun wS hS => ?_⟩, ?_⟩
                              · ((subst hS; go_simp)); try (with_reducible rfl)
                              refine ⟨.inl ⟨by rfl, opOk_pure fun wS hS => ?_⟩, ?_⟩
                              · ((subst hS; go_simp)); try (with_reducible rfl)
                              refine ⟨.inl ⟨by rfl, opOk_pure fun wS hS => ?_⟩, ?_⟩
                              · ((subst hS; go_simp)); try (with_reducible rfl)
                              try trivial
                            case mr0o10_0_u4 =>
                              refine makeT _ rfl ?wantr0o10_0_u4 ?effr0o10_0_u4
                              case wantr0o10_0_u4 => (try simp only [fillT, List.setIfInBounds_toArray, List.set_cons_zero, List.set_cons_succ]) <;> rfl
                              intro wS hS
                              simp only [fillT, List.setIfInBounds_toArray, List.set_cons_zero, List.set_cons_succ]
                              rw [hS]
                              refine eff_skip (w' := ((y10).setCell ⟨wb.heap.size, 0, none⟩ (.slice As x.spots.length cs)).setCell ⟨wb.heap.size, 1, none⟩ (.slice A10 x.edges.length C10)) ?run_u3_u4 ?pp_u3_u4
                              case run_u3_u4 => go_simp
                              case pp_u3_u4 =>
                                have hs11 := ((HS10.out).set 4 rfl 0 (.slice As x.spots.length cs)).set 4 rfl 1 (.slice A10 x.edges.length C10)
                                try simp only [List.cons_append, List.nil_append, List.set_cons_succ, List.set_cons_zero, Nat.zero_add, Nat.reduceAdd, World.size_alloc, World.size_drew] at hs11
                                have kk11 := hs11.all
                                simp only [allFacts, box_facts, row_facts, emp_facts, cellFacts, Nat.zero_add, Nat.reduceAdd, true_and, and_true] at kk11
                                have HS11 := Lib.hid hs11
                                clear hs11
                                refine ⟨_, [true, true, true, true, true, true, true, true, true], [false, false, false, false, false, false, false, false, false], [6, 0, 1], [?vr0o11_0_u4, ?vr0o11_1_u4, (.slice (some ⟨(wb.heap.size + 1), 0, none⟩) 0 0), ?vr0o11_3_u4, ?vr0o11_4_u4, (.slice A10 x.edges.length C10), ?vr0o11_6_u4, (.pointer (some ⟨wb.heap.size, 0, none⟩)), undef], fun w' => w' = ((y10).setCell ⟨wb.heap.size, 0, none⟩ (.slice As x.spots.length cs)).setCell ⟨wb.heap.size, 1, none⟩ (.slice A10 x.edges.length C10), rfl, rfl, ?samer0o11_u4, by kernel_rfl, ?hSr0o11_u4, ?nxr0o11_u4⟩
                                case samer0o11_u4 =>
                                  refine And.intro ?_ ?_
                                  · with_reducible rfl
                                  refine And.intro ?_ ?_
                                  · with_reducible rfl
                                  refine And.intro ?_ ?_
                                  · with_reducible rfl
                                  refine And.intro ?_ ?_
                                  · with_reducible rfl
                                  refine And.intro ?_ ?_
                                  · with_reducible rfl
                                  refine And.intro ?_ ?_
                                  · with_reducible rfl
                                  refine And.intro ?_ ?_
                                  · with_reducible rfl
                                  refine And.intro ?_ ?_
                                  · with_reducible rfl
                                  trivial
                                case hSr0o11_u4 => rfl
                                case nxr0o11_u4 =>
                                  refine chainT_nil (by rfl) (by kernel_rfl) rfl ?opsr0o11_u4 ?endr0o11_u4
                                  case opsr0o11_u4 =>
                                    simp only [OpsAt, fillT, List.setIfInBounds_toArray, List.set_cons_zero, List.set_cons_succ]
                                    try trivial
                                  case endr0o11_u4 =>
                                    intro wE hE
                                    simp only [fillT, List.setIfInBounds_toArray, List.set_cons_zero, List.set_cons_succ]
                                    rw [hE]
                                    have ht := (HS11.out).pick [0, 1, 2, 3, 5, 4] (by decide)
                                    simp only [List.filterMap_cons, List.filterMap_nil, List.getElem?_cons_zero, List.getElem?_cons_succ] at ht
                                    try clear kk1
                                    try clear kk2
                                    try clear kk3
                                    try clear kk4
                                    try clear kk5
                                    try clear kk6
                                    try clear kk7
                                    try clear kk8
                                    try clear kk9
                                    try clear kk10
                                    try clear kk11
                                    clear hE
                                    generalize wb.heap.size = p at ht ⊢
                                    generalize ((y10).setCell ⟨p, 0, none⟩ (.slice As x.spots.length cs)).setCell ⟨p, 1, none⟩ (.slice A10 x.edges.length C10) = wx at ht ⊢
                                    have HT := Lib.hid ht
                                    clear ht
                                    obtain ⟨gE, hgE, gc, gf, glt⟩ := rowK_at edC_len (by decide) (HT.out.rowOf (i := 4) rfl) (i := k) hlt
                                    subst hgE
                                    have hek : x.edges[k] = ⟨a, b, c0, c1, b0, r0, b1, r1⟩ := Option.some.inj ((List.getElem?_eq_getElem hlt).symm.trans HGK.out)
                                    rw [hek] at gc
                                    have s0 := gc 0 _ rfl
                                    have s1 := gc 1 _ rfl
                                    have s2 := gc 2 _ rfl
                                    have s3 := gc 3 _ rfl
                                    have s4 := gc 4 _ rfl
                                    have s5 := gc 5 _ rfl
                                    have s6 := gc 6 _ rfl
                                    have s7 := gc 7 _ rfl
                                    rw [Nat.add_zero] at s0
                                    have f0 := gf (k * 8 + 0)
                                    have f1 := gf (k * 8 + 1)
                                    have f2 := gf (k * 8 + 2)
                                    have f3 := gf (k * 8 + 3)
                                    have f4 := gf (k * 8 + 4)
                                    have f5 := gf (k * 8 + 5)
                                    have f6 := gf (k * 8 + 6)
                                    have f7 := gf (k * 8 + 7)
                                    rw [Nat.add_zero] at f0
                                    clear gc gf hek
                                    have k9 := HT.out.all
                                    simp only [allFacts, box_facts, row_facts, emp_facts, cellFacts, Nat.zero_add, Nat.reduceAdd, true_and, and_true] at k9
                                    have hk1 := HT.out.setRowK edC_len 4 rfl (i := k) (by simpa using hlt) (j := 0) (by decide) (.int .i64 a) (⟨a, b, c0, c1, b0, r0, b1, r1⟩ : Edg) (by rw [show x.edges[k] = ⟨a, b, c0, c1, b0, r0, b1, r1⟩ from Option.some.inj ((List.getElem?_eq_getElem hlt).symm.trans HGK.out)]; rfl)
                                    try simp only [List.cons_append, List.nil_append, List.set_cons_succ, List.set_cons_zero, Nat.zero_add, Nat.reduceAdd, World.size_alloc, World.size_drew] at hk1
                                    have hk2 := hk1.setRowK edC_len 4 rfl (i := k) (by simpa using hlt) (j := 1) (by decide) (.int .i64 b) (⟨a, b, c0, c1, b0, r0, b1, r1⟩ : Edg) (by simp [edC])
                                    try simp only [List.cons_append, List.nil_append, List.set_cons_succ, List.set_cons_zero, Nat.zero_add, Nat.reduceAdd, World.size_alloc, World.size_drew] at hk2
                                    have hk3 := hk2.setRowK edC_len 4 rfl (i := k) (by simpa using hlt) (j := 2) (by decide) (.int .u64 (c0 - n)) (⟨a, b, (c0 - n), c1, b0, r0, b1, r1⟩ : Edg) (by simp [edC])
                                    try simp only [List.cons_append, List.nil_append, List.set_cons_succ, List.set_cons_zero, Nat.zero_add, Nat.reduceAdd, World.size_alloc, World.size_drew] at hk3
                                    have hk4 := hk3.setRowK edC_len 4 rfl (i := k) (by simpa using hlt) (j := 3) (by decide) (.int .u64 m) (⟨a, b, (c0 - n), m, b0, r0, b1, r1⟩ : Edg) (by simp [edC])
                                    try simp only [List.cons_append, List.nil_append, List.set_cons_succ, List.set_cons_zero, Nat.zero_add, Nat.reduceAdd, World.size_alloc, World.size_drew] at hk4
                                    have hk5 := hk4.setRowK edC_len 4 rfl (i := k) (by simpa using hlt) (j := 4) (by decide) (.int .u64 b0) (⟨a, b, (c0 - n), m, b0, r0, b1, r1⟩ : Edg) (by simp [edC])
                                    try simp only [List.cons_append, List.nil_append, List.set_cons_succ, List.set_cons_zero, Nat.zero_add, Nat.reduceAdd, World.size_alloc, World.size_drew] at hk5
                                    have hk6 := hk5.setRowK edC_len 4 rfl (i := k) (by simpa using hlt) (j := 5) (by decide) (.int .u64 r0) (⟨a, b, (c0 - n), m, b0, r0, b1, r1⟩ : Edg) (by simp [edC])
                                    try simp only [List.cons_append, List.nil_append, List.set_cons_succ, List.set_cons_zero, Nat.zero_add, Nat.reduceAdd, World.size_alloc, World.size_drew] at hk6
                                    have hk7 := hk6.setRowK edC_len 4 rfl (i := k) (by simpa using hlt) (j := 6) (by decide) (.int .u64 b1) (⟨a, b, (c0 - n), m, b0, r0, b1, r1⟩ : Edg) (by simp [edC])
                                    try simp only [List.cons_append, List.nil_append, List.set_cons_succ, List.set_cons_zero, Nat.zero_add, Nat.reduceAdd, World.size_alloc, World.size_drew] at hk7
                                    have hk8 := hk7.setRowK edC_len 4 rfl (i := k) (by simpa using hlt) (j := 7) (by decide) (.int .u64 r1) (⟨a, b, (c0 - n), m, b0, r0, b1, r1⟩ : Edg) (by simp [edC])
                                    try simp only [List.cons_append, List.nil_append, List.set_cons_succ, List.set_cons_zero, Nat.zero_add, Nat.reduceAdd, World.size_alloc, World.size_drew] at hk8
                                    simp only [List.length_set, List.set_set, Nat.add_zero] at hk8
                                    have HK := Lib.hid hk8
                                    clear hk1 hk2 hk3 hk4 hk5 hk6 hk7 hk8
                                    skip
                                    have h8 := (HK.out.set 2 rfl 0 (.slice As x.spots.length cs)).set 2 rfl 1 (.slice (some ⟨gE, 0, none⟩) x.edges.length C10)
                                    try simp only [List.cons_append, List.nil_append, List.set_cons_succ, List.set_cons_zero, Nat.zero_add, Nat.reduceAdd, World.size_alloc, World.size_drew] at h8
                                    have hb9 := h8.below (i := 0) rfl
                                    have HB9 := Lib.hid hb9
                                    have hwe := Recs.ofRow (k := 8) (f := edC) (L := x.edges.set k (⟨a, b, c0 - n, m, b0, r0, b1, r1⟩ : Edg)) (c := C10) (A := some ⟨gE, 0, none⟩) (h8.rowOf (i := 4) (by rw [List.length_set]; rfl)) (by rw [List.length_set]; omega)
                                    have hws := HW.out.s.mono (src_rest h8 (i := 0) rfl HW.out.s.src (src_lt HW.out.s.src))
                                    have HW9 := Lib.hid (And.intro hws hwe)
                                    have k8 := HK.out.all
                                    simp only [allFacts, box_facts, row_facts, emp_facts, cellFacts, Nat.zero_add, Nat.reduceAdd, true_and, and_true] at k8
                                    clear h8 hb9 hwe hws
                                    go_wp2
                                    refine bodyPost_ret (v := .tuple #[.agg #[.slice As x.spots.length cs, .slice (some ⟨gE, 0, none⟩) x.edges.length C10], .int .i64 0]) (by simp only [results, Try.results16]; go_simp) rfl ⟨As, cs, some ⟨gE, 0, none⟩, C10, ret_web (by rw [HZ.out]) (by rw [HZ.out]; simp) (by rw [HZ.out]), by rw [HZ.out]; exact ⟨HW9.out.1, HW9.out.2⟩, HB9.out⟩
      · have d1 : (a == node) = false := beq_eq_false_iff_ne.2 ha
        have d2 : (b == node) = true := by simpa using hb1
        have hsa := HSA.out
        rw [hs] at hsa
        have HAQ := Lib.hid (fun w => radd_any c0 n o3 ⟨n0, n1⟩ w)
        obtain ⟨u0, u1⟩ := o4
        clear hs ha hab hb1
        rcases (show c1 < n ∨ n ≤ c1 by omega) with r1' | r1'
        · have HZ := Lib.hid (hsa.trans ((if_neg (by decide)).trans (if_pos (show _ < n from r1'))))
          clear hsa HAQ
          go_enter Try.func16, Try.ntmps16
          go_wp2_with fail
          refine (HCK.out).mono ?_
          rintro e w2 ⟨rfl, hb⟩
          have h2 := H1.out.grow hb
          have k2 := h2.all
          simp only [allFacts, box_facts, row_facts, emp_facts, cellFacts, Nat.zero_add, Nat.reduceAdd, true_and, and_true] at k2
          have H2 := Lib.hid h2
          clear hb h2
          have q0 := restCell H2.out rfl hb (HC.out 0 _ rfl)
          have q1 := restCell H2.out rfl hb (HC.out 1 _ rfl)
          have q2 := restCell H2.out rfl hb (HC.out 2 _ rfl)
          have q3 := restCell H2.out rfl hb (HC.out 3 _ rfl)
          have q4 := restCell H2.out rfl hb (HC.out 4 _ rfl)
          have q5 := restCell H2.out rfl hb (HC.out 5 _ rfl)
          have q6 := restCell H2.out rfl hb (HC.out 6 _ rfl)
          have q7 := restCell H2.out rfl hb (HC.out 7 _ rfl)
          rw [Nat.add_zero] at q0
          go_wp2
          refine wp_loop_rounds 3 ?_
          rw [rounds_succ]
          go_wp2_with fail
          rw [rounds_succ]
          go_wp2_with fail
          rw [rounds_succ]
          go_wp2_with fail
          clear q0 q1 q2 q3 q4 q5 q6 q7
          go_wp2
          have hz9 := ((H2.out.set 2 rfl 0 (.slice none 0 0)).set 2 rfl 1 (.slice none 0 0)).alloc #[.int .i64 a, .int .i64 b, .int .u64 c0, .int .u64 c1, .int .u64 b0, .int .u64 r0, .int .u64 b1, .int .u64 r1] 80
          have hz8 := hz9.below (i := 0) rfl
          have HZ8 := Lib.hid hz8
          clear hz9 hz8
          refine bodyPost_ret (v := .tuple #[.agg #[.slice none 0 0, .slice none 0 0], .int .i64 28]) (by simp only [results, Try.results16]; go_simp) rfl ⟨none, 0, none, 0, ret_web (by rw [HZ.out]; rfl) (by rw [HZ.out]; rfl) (by rw [HZ.out]), by rw [HZ.out]; exact WebAt.none _, HZ8.out⟩
        · have hsb := hsa.trans ((if_neg (by decide)).trans (if_neg (show ¬ _ < n from by show ¬ c1 < n; omega)))
          have hval := fun h => addP_val (a := c0) (b := n) h
          have hsc : sentP x k node n = if (addP c0 n).2 = 0 then (⟨x.spots, x.edges.set k ⟨a, b, c0 + n, c1 - n, b0, r0, b1, r1⟩⟩, 0) else (noWeb, (addP c0 n).2) := hsb
          clear hsa hsb
          generalize addP c0 n = r9 at *
          obtain ⟨m, e⟩ := r9
          dsimp only at hsc hval HAQ
          rcases (show e ≠ 0 ∨ e = 0 by omega) with he0 | he0
          · have HZ := Lib.hid (hsc.trans (if_neg he0))
            have HAD := HAQ
            have d3 : (e == 0) = false := beq_eq_false_iff_ne.2 he0
            have d4 : (e != 0) = true := by simp [he0]
            clear hsc he0 hval
            go_enter Try.func16, Try.ntmps16
            go_wp2_with fail
            refine (HCK.out).mono ?_
            rintro e w2 ⟨rfl, hb⟩
            have h2 := H1.out.grow hb
            have k2 := h2.all
            simp only [allFacts, box_facts, row_facts, emp_facts, cellFacts, Nat.zero_add, Nat.reduceAdd, true_and, and_true] at k2
            have H2 := Lib.hid h2
            clear hb h2
            have q0 := restCell H2.out rfl hb (HC.out 0 _ rfl)
            have q1 := restCell H2.out rfl hb (HC.out 1 _ rfl)
            have q2 := restCell H2.out rfl hb (HC.out 2 _ rfl)
            have q3 := restCell H2.out rfl hb (HC.out 3 _ rfl)
            have q4 := restCell H2.out rfl hb (HC.out 4 _ rfl)
            have q5 := restCell H2.out rfl hb (HC.out 5 _ rfl)
            have q6 := restCell H2.out rfl hb (HC.out 6 _ rfl)
            have q7 := restCell H2.out rfl hb (HC.out 7 _ rfl)
            rw [Nat.add_zero] at q0
            go_wp2
            refine wp_loop_rounds 3 ?_
            rw [rounds_succ]
            go_wp2_with fail
            rw [rounds_succ]
            go_wp2_with fail
            rw [rounds_succ]
            go_wp2_with fail
            have h4 := H2.out.alloc #[.int .i64 a, .int .i64 b, .int .u64 c0, .int .u64 c1, .int .u64 b0, .int .u64 r0, .int .u64 b1, .int .u64 r1] 80
            try simp only [List.cons_append, List.nil_append, List.set_cons_succ, List.set_cons_zero, Nat.zero_add, Nat.reduceAdd, World.size_alloc, World.size_drew] at h4
            have H4 := Lib.hid h4
            clear h4
            go_wp2_with fail
            refine (HAD.out _).mono ?_
            rintro e w5 ⟨rfl, hw⟩
            first | rw [show w5 = _ from hw] | rw [show w5 = _ from hw.symm]
            clear hw
            clear q0 q1 q2 q3 q4 q5 q6 q7
            go_wp2
            have hz9 := ((H2.out.set 2 rfl 0 (.slice none 0 0)).set 2 rfl 1 (.slice none 0 0)).alloc #[.int .i64 a, .int .i64 b, .int .u64 c0, .int .u64 c1, .int .u64 b0, .int .u64 r0, .int .u64 b1, .int .u64 r1] 80
            have hz8 := hz9.below (i := 0) rfl
            have HZ8 := Lib.hid hz8
            clear hz9 hz8
            refine bodyPost_ret (v := .tuple #[.agg #[.slice none 0 0, .slice none 0 0], .int .i64 e]) (by simp only [results, Try.results16]; go_simp) rfl ⟨none, 0, none, 0, ret_web (by rw [HZ.out]; rfl) (by rw [HZ.out]; rfl) (by rw [HZ.out]), by rw [HZ.out]; exact WebAt.none _, HZ8.out⟩
          · subst he0
            obtain ⟨v0, v1⟩ := hval rfl
            have HZ := Lib.hid (show sentP x k node n = (⟨x.spots, x.edges.set k ⟨a, b, m, c1 - n, b0, r0, b1, r1⟩⟩, 0) from by rw [v0]; exact hsc.trans (if_pos rfl))
            have HAD := HAQ
            have w1' : IntKind.u64.wrap (c1 - n) = c1 - n := by rw [IntKind.wrap_u64]; omega
            clear hsc hval v0 v1
            go_enter Try.func16, Try.ntmps16
            go_wp2_with fail
            refine (HCK.out).mono ?_
            rintro e w2 ⟨rfl, hb⟩
            have h2 := H1.out.grow hb
            have k2 := h2.all
            simp only [allFacts, box_facts, row_facts, emp_facts, cellFacts, Nat.zero_add, Nat.reduceAdd, true_and, and_true] at k2
            have H2 := Lib.hid h2
            clear hb h2
            have q0 := restCell H2.out rfl hb (HC.out 0 _ rfl)
            have q1 := restCell H2.out rfl hb (HC.out 1 _ rfl)
            have q2 := restCell H2.out rfl hb (HC.out 2 _ rfl)
            have q3 := restCell H2.out rfl hb (HC.out 3 _ rfl)
            have q4 := restCell H2.out rfl hb (HC.out 4 _ rfl)
            have q5 := restCell H2.out rfl hb (HC.out 5 _ rfl)
            have q6 := restCell H2.out rfl hb (HC.out 6 _ rfl)
            have q7 := restCell H2.out rfl hb (HC.out 7 _ rfl)
            rw [Nat.add_zero] at q0
            go_wp2
            refine wp_loop_rounds 3 ?_
            rw [rounds_succ]
            go_wp2_with fail
            rw [rounds_succ]
            go_wp2_with fail
            rw [rounds_succ]
            go_wp2_with fail
            have h4 := H2.out.alloc #[.int .i64 a, .int .i64 b, .int .u64 c0, .int .u64 c1, .int .u64 b0, .int .u64 r0, .int .u64 b1, .int .u64 r1] 80
            try simp only [List.cons_append, List.nil_append, List.set_cons_succ, List.set_cons_zero, Nat.zero_add, Nat.reduceAdd, World.size_alloc, World.size_drew] at h4
            have H4 := Lib.hid h4
            clear h4
            go_wp2_with fail
            refine (HAD.out _).mono ?_
            rintro e w5 ⟨rfl, hw⟩
            first | rw [show w5 = _ from hw] | rw [show w5 = _ from hw.symm]
            clear hw
            clear q0 q1 q2 q3 q4 q5 q6 q7
            go_wp2_with fail
            have hx2 := H2.out.alloc #[.int .i64 a, .int .i64 b, .int .u64 m, .int .u64 (c1 - n), .int .u64 b0, .int .u64 r0, .int .u64 b1, .int .u64 r1] 80
            try simp only [List.cons_append, List.nil_append, List.set_cons_succ, List.set_cons_zero, Nat.zero_add, Nat.reduceAdd, World.size_alloc, World.size_drew] at hx2
            generalize w2.alloc (.cells #[.int .i64 a, .int .i64 b, .int .u64 m, .int .u64 (c1 - n), .int .u64 b0, .int .u64 r0, .int .u64 b1, .int .u64 r1] 80) = wb at hx2 ⊢
            have HX2 := Lib.hid hx2
            have HY := Lib.hid hx2.drew
            have k6 := hx2.all
            simp only [allFacts, box_facts, row_facts, emp_facts, cellFacts, Nat.zero_add, Nat.reduceAdd, true_and, and_true] at k6
            clear hx2
            refine region_chainT (m := 4) (E := [2, 5, 7, 8]) (kn := [true, true, false, true, true, false, false, false, false]) (mask := [true, true, false, true, true, false, false, false, false]) (vs := [?vr1o0_0_u8, ?vr1o0_1_u8, undef, ?vr1o0_3_u8, ?vr1o0_4_u8, undef, undef, undef, undef]) (S := fun w' => w' = wb.drew) (by kernel_rfl) (by kernel_rfl) (by kernel_rfl) (by kernel_rfl) (by kernel_rfl) ?hSr1o_u8 ?hchr1o_u8
            case hSr1o_u8 => exact rfl
            case hchr1o_u8 =>
              refine chainT_two 2 7 (by decide) (by kernel_rfl) rfl ?opsr1o0_u8 ?mr1o0_0_u8 ?mr1o0_1_u8
              case opsr1o0_u8 =>
                simp only [OpsAt, fillT, List.setIfInBounds_toArray, List.set_cons_zero, List.set_cons_succ]
                refine ⟨.inl ⟨by rfl, opOk_pure fun wS hS => ?_⟩, ?_⟩
                · ((subst hS; go_simp)); try (with_reducible rfl)
                refine ⟨.inl ⟨by rfl, opOk_pure fun wS hS => ?_⟩, ?_⟩
                · ((subst hS; go_simp)); try (with_reducible rfl)
                refine ⟨.inl ⟨by rfl, opOk_pure fun wS hS => ?_⟩, ?_⟩
                · ((subst hS; go_simp)); try (with_reducible rfl)
                refine ⟨.inl ⟨by rfl, opOk_pure fun wS hS => ?_⟩, ?_⟩
                · ((subst hS; go_simp)); try (with_reducible rfl)
                try trivial
              case mr1o0_0_u8 =>
                refine makeT _ rfl ?wantr1o0_0_u8 ?effr1o0_0_u8
                case wantr1o0_0_u8 => (try simp only [fillT, List.setIfInBounds_toArray, List.set_cons_zero, List.set_cons_succ]) <;> rfl
                intro wS hS
                simp only [fillT, List.setIfInBounds_toArray, List.set_cons_zero, List.set_cons_succ]
                rw [hS]
                refine eff_run (w' := (wb.drew).alloc (.cells #[] 80)) (by go_simp; try rfl) ?_
                have hs1 := (HY.out).made #[] 80 8 0 0 rfl (Nat.le_refl _) (Nat.zero_le _)
                try simp only [List.cons_append, List.nil_append, List.set_cons_succ, List.set_cons_zero, Nat.zero_add, Nat.reduceAdd, World.size_alloc, World.size_drew] at hs1
                have kk1 := hs1.all
                simp only [allFacts, box_facts, row_facts, emp_facts, cellFacts, Nat.zero_add, Nat.reduceAdd, true_and, and_true] at kk1
                have HS1 := Lib.hid hs1
                clear hs1
                refine ⟨_, [true, true, true, true, true, false, false, false, false], [true, true, false, true, true, false, false, false, false], [], [?vr1o1_0_u8, ?vr1o1_1_u8, (.slice (some ⟨wb.heap.size, 0, none⟩) 0 0), ?vr1o1_3_u8, ?vr1o1_4_u8, undef, undef, undef, undef], fun w' => w' = (wb.drew).alloc (.cells #[] 80), rfl, rfl, ?samer1o1_u8, by kernel_rfl, ?hSr1o1_u8, ?nxr1o1_u8⟩
                case samer1o1_u8 =>
                  refine And.intro ?_ ?_
                  · with_reducible rfl
                  refine And.intro ?_ ?_
                  · with_reducible rfl
                  refine And.intro ?_ ?_
                  · with_reducible rfl
                  refine And.intro ?_ ?_
                  · with_reducible rfl
                  trivial
                case hSr1o1_u8 => rfl
                case nxr1o1_u8 =>
                  refine chainT_two 5 7 (by decide) (by kernel_rfl) rfl ?opsr1o1_u8 ?mr1o1_0_u8 ?mr1o1_1_u8
                  case opsr1o1_u8 =>
                    simp only [OpsAt, fillT, List.setIfInBounds_toArray, List.set_cons_zero, List.set_cons_succ]
                    refine ⟨.inl ⟨by rfl, opOk_pure fun wS hS => ?_⟩, ?_⟩
                    · ((subst hS; go_simp)); try (with_reducible rfl)
                    refine ⟨.inl ⟨by rfl, opOk_pure fun wS hS => ?_⟩, ?_⟩
                    · ((subst hS; go_simp)); try (with_reducible rfl)
                    refine ⟨.inl ⟨by rfl, opOk_pure fun wS hS => ?_⟩, ?_⟩
                    · ((subst hS; go_simp)); try (with_reducible rfl)
                    refine ⟨.inl ⟨by rfl, opOk_pure fun wS hS => ?_⟩, ?_⟩
                    · ((subst hS; go_simp)); try (with_reducible rfl)
                    try trivial
                  case mr1o1_0_u8 =>
                    refine makeT _ rfl ?wantr1o1_0_u8 ?effr1o1_0_u8
                    case wantr1o1_0_u8 => (try simp only [fillT, List.setIfInBounds_toArray, List.set_cons_zero, List.set_cons_succ]) <;> rfl
                    intro wS hS
                    simp only [fillT, List.setIfInBounds_toArray, List.set_cons_zero, List.set_cons_succ]
                    rw [hS]
                    refine wp_append_sat _ _ 23 rfl HS1.out 4 80 (.agg #[.int .i64 0, .int .i64 0, .int .u64 0, .int .u64 0, .int .u64 0, .int .u64 0, .int .u64 0, .int .u64 0]) 8 64 Try.underlying23 info_re rfl (by decide) (.slice (some ⟨wb.heap.size, 0, none⟩) 0 0) 0 [] ?z20_u8 rfl (some ⟨g, off, none⟩) x.edges.length ce (x.edges.flatMap edC) ?z21_u8 (fun h => by cases h) ?z22_u8 (src_rest (HS1.out) (i := 0) rfl HW.out.e.src (src_lt HW.out.e.src)) ?z23_u8 ?z24_u8 ?z25_u8 ?z26_u8
                    try (case z20_u8 => go_simp)
                    try (case z21_u8 => go_simp)
                    try (case z22_u8 => exact recs_len edC_len x.edges)
                    case z23_u8 => (intro u hu; simp only [List.mem_flatMap] at hu; obtain ⟨p, _, hp⟩ := hu; simp [edC] at hp; rcases hp with rfl | rfl | rfl | rfl | rfl | rfl | rfl | rfl <;> rfl)
                    case z24_u8 => unfold maxLen; omega
                    case z25_u8 => omega
                    case z26_u8 =>
                      intro A2 C2 y2 hs2 hA2 hg2
                      try simp only [List.cons_append, List.nil_append, List.set_cons_succ, List.set_cons_zero, Nat.zero_add, Nat.reduceAdd, World.size_alloc, World.size_drew] at hs2
                      have kk2 := hs2.all
                      simp only [allFacts, box_facts, row_facts, emp_facts, cellFacts, Nat.zero_add, Nat.reduceAdd, true_and, and_true] at kk2
                      have HS2 := Lib.hid hs2
                      clear hs2
                      clear hA2 hg2
                      simp only [Nat.zero_add]
                      refine ⟨_, [true, true, true, true, true, true, true, false, false], [true, true, false, false, false, false, true, false, false], [4, 3], [?vr1o2_0_u8, ?vr1o2_1_u8, (.slice (some ⟨wb.heap.size, 0, none⟩) 0 0), ?vr1o2_3_u8, ?vr1o2_4_u8, (.slice A2 x.edges.length C2), ?vr1o2_6_u8, undef, undef], fun w' => w' = y2, rfl, rfl, ?samer1o2_u8, by kernel_rfl, ?hSr1o2_u8, ?nxr1o2_u8⟩
                      case samer1o2_u8 =>
                        refine And.intro ?_ ?_
                        · with_reducible rfl
                        refine And.intro ?_ ?_
                        · with_reducible rfl
                        refine And.intro ?_ ?_
                        · with_reducible rfl
                        refine And.intro ?_ ?_
                        · with_reducible rfl
                        refine And.intro ?_ ?_
                        · with_reducible rfl
                        trivial
                      case hSr1o2_u8 => rfl
                      case nxr1o2_u8 =>
                        refine chainT_one 7 (by decide) (by kernel_rfl) rfl ?opsr1o2_u8 ?mr1o2_0_u8
                        case opsr1o2_u8 =>
                          simp only [OpsAt, fillT, List.setIfInBounds_toArray, List.set_cons_zero, List.set_cons_succ]
                          refine ⟨.inl ⟨by rfl, opOk_pure fun wS hS => ?_⟩, ?_⟩
                          · ((subst hS; go_simp)); try (with_reducible rfl)
                          refine ⟨.inl ⟨by rfl, opOk_pure fun wS hS => ?_⟩, ?_⟩
                          · ((subst hS; go_simp)); try (with_reducible rfl)
                          refine ⟨.inl ⟨by rfl, opOk_pure fun wS hS => ?_⟩, ?_⟩
                          · ((subst hS; go_simp)); try (with_reducible rfl)
                          try trivial
                        case mr1o2_0_u8 =>
                          refine makeT _ rfl ?wantr1o2_0_u8 ?effr1o2_0_u8
                          case wantr1o2_0_u8 => (try simp only [fillT, List.setIfInBounds_toArray, List.set_cons_zero, List.set_cons_succ]) <;> rfl
                          intro wS hS
                          simp only [fillT, List.setIfInBounds_toArray, List.set_cons_zero, List.set_cons_succ]
                          rw [hS]
                          refine eff_run (w' := (y2).alloc (.cells #[.slice none 0 0, .slice none 0 0] 25)) (by go_simp; try rfl) ?_
                          have hs3 := (HS2.out).alloc #[.slice none 0 0, .slice none 0 0] 25
                          try simp only [List.cons_append, List.nil_append, List.set_cons_succ, List.set_cons_zero, Nat.zero_add, Nat.reduceAdd, World.size_alloc, World.size_drew] at hs3
                          have kk3 := hs3.all
                          simp only [allFacts, box_facts, row_facts, emp_facts, cellFacts, Nat.zero_add, Nat.reduceAdd, true_and, and_true] at kk3
                          have HS3 := Lib.hid hs3
                          clear hs3
                          refine ⟨_, [true, true, true, true, true, true, true, true, false], [true, true, false, false, false, false, true, false, false], [], [?vr1o3_0_u8, ?vr1o3_1_u8, (.slice (some ⟨wb.heap.size, 0, none⟩) 0 0), ?vr1o3_3_u8, ?vr1o3_4_u8, (.slice A2 x.edges.length C2), ?vr1o3_6_u8, (.pointer (some ⟨y2.heap.size, 0, none⟩)), undef], fun w' => w' = (y2).alloc (.cells #[.slice none 0 0, .slice none 0 0] 25), rfl, rfl, ?samer1o3_u8, by kernel_rfl, ?hSr1o3_u8, ?nxr1o3_u8⟩
                          case samer1o3_u8 =>
                            refine And.intro ?_ ?_
                            · with_reducible rfl
                            refine And.intro ?_ ?_
                            · with_reducible rfl
                            refine And.intro ?_ ?_
                            · with_reducible rfl
                            refine And.intro ?_ ?_
                            · with_reducible rfl
                            refine And.intro ?_ ?_
                            · with_reducible rfl
                            refine And.intro ?_ ?_
                            · with_reducible rfl
                            refine And.intro ?_ ?_
                            · with_reducible rfl
                            trivial
                          case hSr1o3_u8 => rfl
                          case nxr1o3_u8 =>
                            refine chainT_one 8 (by decide) (by kernel_rfl) rfl ?opsr1o3_u8 ?mr1o3_0_u8
                            case opsr1o3_u8 =>
                              simp only [OpsAt, fillT, List.setIfInBounds_toArray, List.set_cons_zero, List.set_cons_succ]
                              refine ⟨.inl ⟨by rfl, opOk_pure fun wS hS => ?_⟩, ?_⟩
                              · ((subst hS; go_simp)); try (with_reducible rfl)
                              refine ⟨.inl ⟨by rfl, opOk_pure fun wS hS => ?_⟩, ?_⟩
                              · ((subst hS; go_simp)); try (with_reducible rfl)
                              refine ⟨.inl ⟨by rfl, opOk_pure fun wS hS => ?_⟩, ?_⟩
                              · ((subst hS; go_simp)); try (with_reducible rfl)
                              try trivial
                            case mr1o3_0_u8 =>
                              refine makeT _ rfl ?wantr1o3_0_u8 ?effr1o3_0_u8
                              case wantr1o3_0_u8 => (try simp only [fillT, List.setIfInBounds_toArray, List.set_cons_zero, List.set_cons_succ]) <;> rfl
                              intro wS hS
                              simp only [fillT, List.setIfInBounds_toArray, List.set_cons_zero, List.set_cons_succ]
                              rw [hS]
                              refine eff_skip (w' := (((y2).alloc (.cells #[.slice none 0 0, .slice none 0 0] 25)).setCell ⟨y2.heap.size, 0, none⟩ (.slice As x.spots.length cs)).setCell ⟨y2.heap.size, 1, none⟩ (.slice A2 x.edges.length C2)) ?run_u5_u8 ?pp_u5_u8
                              case run_u5_u8 => go_simp
                              case pp_u5_u8 =>
                                have hs4 := ((HS3.out).set 5 rfl 0 (.slice As x.spots.length cs)).set 5 rfl 1 (.slice A2 x.edges.length C2)
                                try simp only [List.cons_append, List.nil_append, List.set_cons_succ, List.set_cons_zero, Nat.zero_add, Nat.reduceAdd, World.size_alloc, World.size_drew] at hs4
                                have kk4 := hs4.all
                                simp only [allFacts, box_facts, row_facts, emp_facts, cellFacts, Nat.zero_add, Nat.reduceAdd, true_and, and_true] at kk4
                                have HS4 := Lib.hid hs4
                                clear hs4
                                refine ⟨_, [true, true, true, true, true, true, true, true, true], [false, false, false, false, false, false, false, false, false], [6, 0, 1], [?vr1o4_0_u8, ?vr1o4_1_u8, (.slice (some ⟨wb.heap.size, 0, none⟩) 0 0), ?vr1o4_3_u8, ?vr1o4_4_u8, (.slice A2 x.edges.length C2), ?vr1o4_6_u8, (.pointer (some ⟨y2.heap.size, 0, none⟩)), undef], fun w' => w' = (((y2).alloc (.cells #[.slice none 0 0, .slice none 0 0] 25)).setCell ⟨y2.heap.size, 0, none⟩ (.slice As x.spots.length cs)).setCell ⟨y2.heap.size, 1, none⟩ (.slice A2 x.edges.length C2), rfl, rfl, ?samer1o4_u8, by kernel_rfl, ?hSr1o4_u8, ?nxr1o4_u8⟩
                                case samer1o4_u8 =>
                                  refine And.intro ?_ ?_
                                  · with_reducible rfl
                                  refine And.intro ?_ ?_
                                  · with_reducible rfl
                                  refine And.intro ?_ ?_
                                  · with_reducible rfl
                                  refine And.intro ?_ ?_
                                  · with_reducible rfl
                                  refine And.intro ?_ ?_
                                  · with_reducible rfl
                                  refine And.intro ?_ ?_
                                  · with_reducible rfl
                                  refine And.intro ?_ ?_
                                  · with_reducible rfl
                                  refine And.intro ?_ ?_
                                  · with_reducible rfl
                                  trivial
                                case hSr1o4_u8 => rfl
                                case nxr1o4_u8 =>
                                  refine chainT_nil (by rfl) (by kernel_rfl) rfl ?opsr1o4_u8 ?endr1o4_u8
                                  case opsr1o4_u8 =>
                                    simp only [OpsAt, fillT, List.setIfInBounds_toArray, List.set_cons_zero, List.set_cons_succ]
                                    try trivial
                                  case endr1o4_u8 =>
                                    intro wE hE
                                    simp only [fillT, List.setIfInBounds_toArray, List.set_cons_zero, List.set_cons_succ]
                                    rw [hE]
                                    have ht := (HS4.out).pick [0, 1, 2, 3, 4, 5] (by decide)
                                    simp only [List.filterMap_cons, List.filterMap_nil, List.getElem?_cons_zero, List.getElem?_cons_succ] at ht
                                    try clear kk1
                                    try clear kk2
                                    try clear kk3
                                    try clear kk4
                                    clear hE
                                    generalize y2.heap.size = p at ht ⊢
                                    generalize (((y2).alloc (.cells #[.slice none 0 0, .slice none 0 0] 25)).setCell ⟨p, 0, none⟩ (.slice As x.spots.length cs)).setCell ⟨p, 1, none⟩ (.slice A2 x.edges.length C2) = wx at ht ⊢
                                    have HT := Lib.hid ht
                                    clear ht
                                    obtain ⟨gE, hgE, gc, gf, glt⟩ := rowK_at edC_len (by decide) (HT.out.rowOf (i := 4) rfl) (i := k) hlt
                                    subst hgE
                                    have hek : x.edges[k] = ⟨a, b, c0, c1, b0, r0, b1, r1⟩ := Option.some.inj ((List.getElem?_eq_getElem hlt).symm.trans HGK.out)
                                    rw [hek] at gc
                                    have s0 := gc 0 _ rfl
                                    have s1 := gc 1 _ rfl
                                    have s2 := gc 2 _ rfl
                                    have s3 := gc 3 _ rfl
                                    have s4 := gc 4 _ rfl
                                    have s5 := gc 5 _ rfl
                                    have s6 := gc 6 _ rfl
                                    have s7 := gc 7 _ rfl
                                    rw [Nat.add_zero] at s0
                                    have f0 := gf (k * 8 + 0)
                                    have f1 := gf (k * 8 + 1)
                                    have f2 := gf (k * 8 + 2)
                                    have f3 := gf (k * 8 + 3)
                                    have f4 := gf (k * 8 + 4)
                                    have f5 := gf (k * 8 + 5)
                                    have f6 := gf (k * 8 + 6)
                                    have f7 := gf (k * 8 + 7)
                                    rw [Nat.add_zero] at f0
                                    clear gc gf hek
                                    have k9 := HT.out.all
                                    simp only [allFacts, box_facts, row_facts, emp_facts, cellFacts, Nat.zero_add, Nat.reduceAdd, true_and, and_true] at k9
                                    have hk1 := HT.out.setRowK edC_len 4 rfl (i := k) (by simpa using hlt) (j := 0) (by decide) (.int .i64 a) (⟨a, b, c0, c1, b0, r0, b1, r1⟩ : Edg) (by rw [show x.edges[k] = ⟨a, b, c0, c1, b0, r0, b1, r1⟩ from Option.some.inj ((List.getElem?_eq_getElem hlt).symm.trans HGK.out)]; rfl)
                                    try simp only [List.cons_append, List.nil_append, List.set_cons_succ, List.set_cons_zero, Nat.zero_add, Nat.reduceAdd, World.size_alloc, World.size_drew] at hk1
                                    have hk2 := hk1.setRowK edC_len 4 rfl (i := k) (by simpa using hlt) (j := 1) (by decide) (.int .i64 b) (⟨a, b, c0, c1, b0, r0, b1, r1⟩ : Edg) (by simp [edC])
                                    try simp only [List.cons_append, List.nil_append, List.set_cons_succ, List.set_cons_zero, Nat.zero_add, Nat.reduceAdd, World.size_alloc, World.size_drew] at hk2
                                    have hk3 := hk2.setRowK edC_len 4 rfl (i := k) (by simpa using hlt) (j := 2) (by decide) (.int .u64 m) (⟨a, b, m, c1, b0, r0, b1, r1⟩ : Edg) (by simp [edC])
                                    try simp only [List.cons_append, List.nil_append, List.set_cons_succ, List.set_cons_zero, Nat.zero_add, Nat.reduceAdd, World.size_alloc, World.size_drew] at hk3
                                    have hk4 := hk3.setRowK edC_len 4 rfl (i := k) (by simpa using hlt) (j := 3) (by decide) (.int .u64 (c1 - n)) (⟨a, b, m, (c1 - n), b0, r0, b1, r1⟩ : Edg) (by simp [edC])
                                    try simp only [List.cons_append, List.nil_append, List.set_cons_succ, List.set_cons_zero, Nat.zero_add, Nat.reduceAdd, World.size_alloc, World.size_drew] at hk4
                                    have hk5 := hk4.setRowK edC_len 4 rfl (i := k) (by simpa using hlt) (j := 4) (by decide) (.int .u64 b0) (⟨a, b, m, (c1 - n), b0, r0, b1, r1⟩ : Edg) (by simp [edC])
                                    try simp only [List.cons_append, List.nil_append, List.set_cons_succ, List.set_cons_zero, Nat.zero_add, Nat.reduceAdd, World.size_alloc, World.size_drew] at hk5
                                    have hk6 := hk5.setRowK edC_len 4 rfl (i := k) (by simpa using hlt) (j := 5) (by decide) (.int .u64 r0) (⟨a, b, m, (c1 - n), b0, r0, b1, r1⟩ : Edg) (by simp [edC])
                                    try simp only [List.cons_append, List.nil_append, List.set_cons_succ, List.set_cons_zero, Nat.zero_add, Nat.reduceAdd, World.size_alloc, World.size_drew] at hk6
                                    have hk7 := hk6.setRowK edC_len 4 rfl (i := k) (by simpa using hlt) (j := 6) (by decide) (.int .u64 b1) (⟨a, b, m, (c1 - n), b0, r0, b1, r1⟩ : Edg) (by simp [edC])
                                    try simp only [List.cons_append, List.nil_append, List.set_cons_succ, List.set_cons_zero, Nat.zero_add, Nat.reduceAdd, World.size_alloc, World.size_drew] at hk7
                                    have hk8 := hk7.setRowK edC_len 4 rfl (i := k) (by simpa using hlt) (j := 7) (by decide) (.int .u64 r1) (⟨a, b, m, (c1 - n), b0, r0, b1, r1⟩ : Edg) (by simp [edC])
                                    try simp only [List.cons_append, List.nil_append, List.set_cons_succ, List.set_cons_zero, Nat.zero_add, Nat.reduceAdd, World.size_alloc, World.size_drew] at hk8
                                    simp only [List.length_set, List.set_set, Nat.add_zero] at hk8
                                    have HK := Lib.hid hk8
                                    clear hk1 hk2 hk3 hk4 hk5 hk6 hk7 hk8
                                    skip
                                    have h8 := (HK.out.set 2 rfl 0 (.slice As x.spots.length cs)).set 2 rfl 1 (.slice (some ⟨gE, 0, none⟩) x.edges.length C2)
                                    try simp only [List.cons_append, List.nil_append, List.set_cons_succ, List.set_cons_zero, Nat.zero_add, Nat.reduceAdd, World.size_alloc, World.size_drew] at h8
                                    have hb9 := h8.below (i := 0) rfl
                                    have HB9 := Lib.hid hb9
                                    have hwe := Recs.ofRow (k := 8) (f := edC) (L := x.edges.set k (⟨a, b, m, c1 - n, b0, r0, b1, r1⟩ : Edg)) (c := C2) (A := some ⟨gE, 0, none⟩) (h8.rowOf (i := 4) (by rw [List.length_set]; rfl)) (by rw [List.length_set]; omega)
                                    have hws := HW.out.s.mono (src_rest h8 (i := 0) rfl HW.out.s.src (src_lt HW.out.s.src))
                                    have HW9 := Lib.hid (And.intro hws hwe)
                                    have k8 := HK.out.all
                                    simp only [allFacts, box_facts, row_facts, emp_facts, cellFacts, Nat.zero_add, Nat.reduceAdd, true_and, and_true] at k8
                                    clear h8 hb9 hwe hws
                                    go_wp2
                                    refine bodyPost_ret (v := .tuple #[.agg #[.slice As x.spots.length cs, .slice (some ⟨gE, 0, none⟩) x.edges.length C2], .int .i64 0]) (by simp only [results, Try.results16]; go_simp) rfl ⟨As, cs, some ⟨gE, 0, none⟩, C2, ret_web (by rw [HZ.out]) (by rw [HZ.out]; simp) (by rw [HZ.out]), by rw [HZ.out]; exact ⟨HW9.out.1, HW9.out.2⟩, HB9.out⟩
                  case mr1o1_1_u8 =>
                    refine makeT _ rfl ?wantr1o1_1_u8 ?effr1o1_1_u8
                    case wantr1o1_1_u8 => (try simp only [fillT, List.setIfInBounds_toArray, List.set_cons_zero, List.set_cons_succ]) <;> rfl
                    intro wS hS
                    simp only [fillT, List.setIfInBounds_toArray, List.set_cons_zero, List.set_cons_succ]
                    rw [hS]
                    refine eff_run (w' := ((wb.drew).alloc (.cells #[] 80)).alloc (.cells #[.slice none 0 0, .slice none 0 0] 25)) (by go_simp; try rfl) ?_
                    have hs5 := (HS1.out).alloc #[.slice none 0 0, .slice none 0 0] 25
                    try simp only [List.cons_append, List.nil_append, List.set_cons_succ, List.set_cons_zero, Nat.zero_add, Nat.reduceAdd, World.size_alloc, World.size_drew] at hs5
                    have kk5 := hs5.all
                    simp only [allFacts, box_facts, row_facts, emp_facts, cellFacts, Nat.zero_add, Nat.reduceAdd, true_and, and_true] at kk5
                    have HS5 := Lib.hid hs5
                    clear hs5
                    refine ⟨_, [true, true, true, true, true, false, false, true, false], [true, true, false, true, true, false, false, false, false], [], [?vr1o5_0_u8, ?vr1o5_1_u8, (.slice (some ⟨wb.heap.size, 0, none⟩) 0 0), ?vr1o5_3_u8, ?vr1o5_4_u8, undef, undef, (.pointer (some ⟨(wb.heap.size + 1), 0, none⟩)), undef], fun w' => w' = ((wb.drew).alloc (.cells #[] 80)).alloc (.cells #[.slice none 0 0, .slice none 0 0] 25), rfl, rfl, ?samer1o5_u8, by kernel_rfl, ?hSr1o5_u8, ?nxr1o5_u8⟩
                    case samer1o5_u8 =>
                      refine And.intro ?_ ?_
                      · with_reducible rfl
                      refine And.intro ?_ ?_
                      · with_reducible rfl
                      refine And.intro ?_ ?_
                      · with_reducible rfl
                      refine And.intro ?_ ?_
                      · with_reducible rfl
                      refine And.intro ?_ ?_
                      · with_reducible rfl
                      trivial
                    case hSr1o5_u8 => rfl
                    case nxr1o5_u8 =>
                      refine chainT_one 5 (by decide) (by kernel_rfl) rfl ?opsr1o5_u8 ?mr1o5_0_u8
                      case opsr1o5_u8 =>
                        simp only [OpsAt, fillT, List.setIfInBounds_toArray, List.set_cons_zero, List.set_cons_succ]
                        refine ⟨.inl ⟨by rfl, opOk_pure fun wS hS => ?_⟩, ?_⟩
                        · ((subst hS; go_simp)); try (with_reducible rfl)
                        refine ⟨.inl ⟨by rfl, opOk_pure fun wS hS => ?_⟩, ?_⟩
                        · ((subst hS; go_simp)); try (with_reducible rfl)
                        refine ⟨.inl ⟨by rfl, opOk_pure fun wS hS => ?_⟩, ?_⟩
                        · ((subst hS; go_simp)); try (with_reducible rfl)
                        refine ⟨.inl ⟨by rfl, opOk_pure fun wS hS => ?_⟩, ?_⟩
                        · ((subst hS; go_simp)); try (with_reducible rfl)
                        try trivial
                      case mr1o5_0_u8 =>
                        refine makeT _ rfl ?wantr1o5_0_u8 ?effr1o5_0_u8
                        case wantr1o5_0_u8 => (try simp only [fillT, List.setIfInBounds_toArray, List.set_cons_zero, List.set_cons_succ]) <;> rfl
                        intro wS hS
                        simp only [fillT, List.setIfInBounds_toArray, List.set_cons_zero, List.set_cons_succ]
                        rw [hS]
                        refine wp_append_sat _ _ 23 rfl HS5.out 4 80 (.agg #[.int .i64 0, .int .i64 0, .int .u64 0, .int .u64 0, .int .u64 0, .int .u64 0, .int .u64 0, .int .u64 0]) 8 64 Try.underlying23 info_re rfl (by decide) (.slice (some ⟨wb.heap.size, 0, none⟩) 0 0) 0 [] ?z60_u8 rfl (some ⟨g, off, none⟩) x.edges.length ce (x.edges.flatMap edC) ?z61_u8 (fun h => by cases h) ?z62_u8 (src_rest (HS5.out) (i := 0) rfl HW.out.e.src (src_lt HW.out.e.src)) ?z63_u8 ?z64_u8 ?z65_u8 ?z66_u8
                        try (case z60_u8 => go_simp)
                        try (case z61_u8 => go_simp)
                        try (case z62_u8 => exact recs_len edC_len x.edges)
                        case z63_u8 => (intro u hu; simp only [List.mem_flatMap] at hu; obtain ⟨p, _, hp⟩ := hu; simp [edC] at hp; rcases hp with rfl | rfl | rfl | rfl | rfl | rfl | rfl | rfl <;> rfl)
                        case z64_u8 => unfold maxLen; omega
                        case z65_u8 => omega
                        case z66_u8 =>
                          intro A6 C6 y6 hs6 hA6 hg6
                          try simp only [List.cons_append, List.nil_append, List.set_cons_succ, List.set_cons_zero, Nat.zero_add, Nat.reduceAdd, World.size_alloc, World.size_drew] at hs6
                          have kk6 := hs6.all
                          simp only [allFacts, box_facts, row_facts, emp_facts, cellFacts, Nat.zero_add, Nat.reduceAdd, true_and, and_true] at kk6
                          have HS6 := Lib.hid hs6
                          clear hs6
                          clear hA6 hg6
                          simp only [Nat.zero_add]
                          refine ⟨_, [true, true, true, true, true, true, true, true, false], [true, true, false, false, false, false, true, false, false], [4, 3], [?vr1o6_0_u8, ?vr1o6_1_u8, (.slice (some ⟨wb.heap.size, 0, none⟩) 0 0), ?vr1o6_3_u8, ?vr1o6_4_u8, (.slice A6 x.edges.length C6), ?vr1o6_6_u8, (.pointer (some ⟨(wb.heap.size + 1), 0, none⟩)), undef], fun w' => w' = y6, rfl, rfl, ?samer1o6_u8, by kernel_rfl, ?hSr1o6_u8, ?nxr1o6_u8⟩
                          case samer1o6_u8 =>
                            refine And.intro ?_ ?_
                            · with_reducible rfl
                            refine And.intro ?_ ?_
                            · with_reducible rfl
                            refine And.intro ?_ ?_
                            · with_reducible rfl
                            refine And.intro ?_ ?_
                            · with_reducible rfl
                            refine And.intro ?_ ?_
                            · with_reducible rfl
                            refine And.intro ?_ ?_
                            · with_reducible rfl
                            trivial
                          case hSr1o6_u8 => rfl
                          case nxr1o6_u8 =>
                            refine chainT_one 8 (by decide) (by kernel_rfl) rfl ?opsr1o6_u8 ?mr1o6_0_u8
                            case opsr1o6_u8 =>
                              simp only [OpsAt, fillT, List.setIfInBounds_toArray, List.set_cons_zero, List.set_cons_succ]
                              refine ⟨.inl ⟨by rfl, opOk_pure fun wS hS => ?_⟩, ?_⟩
                              · ((subst hS; go_simp)); try (with_reducible rfl)
                              refine ⟨.inl ⟨by rfl, opOk_pure fun wS hS => ?_⟩, ?_⟩
                              · ((subst hS; go_simp)); try (with_reducible rfl)
                              refine ⟨.inl ⟨by rfl, opOk_pure fun wS hS => ?_⟩, ?_⟩
                              · ((subst hS; go_simp)); try (with_reducible rfl)
                              try trivial
                            case mr1o6_0_u8 =>
                              refine makeT _ rfl ?wantr1o6_0_u8 ?effr1o6_0_u8
                              case wantr1o6_0_u8 => (try simp only [fillT, List.setIfInBounds_toArray, List.set_cons_zero, List.set_cons_succ]) <;> rfl
                              intro wS hS
                              simp only [fillT, List.setIfInBounds_toArray, List.set_cons_zero, List.set_cons_succ]
                              rw [hS]
                              refine eff_skip (w' := ((y6).setCell ⟨(wb.heap.size + 1), 0, none⟩ (.slice As x.spots.length cs)).setCell ⟨(wb.heap.size + 1), 1, none⟩ (.slice A6 x.edges.length C6)) ?run_u6_u8 ?pp_u6_u8
                              case run_u6_u8 => go_simp
                              case pp_u6_u8 =>
                                have hs7 := ((HS6.out).set 5 rfl 0 (.slice As x.spots.length cs)).set 5 rfl 1 (.slice A6 x.edges.length C6)
                                try simp only [List.cons_append, List.nil_append, List.set_cons_succ, List.set_cons_zero, Nat.zero_add, Nat.reduceAdd, World.size_alloc, World.size_drew] at hs7
                                have kk7 := hs7.all
                                simp only [allFacts, box_facts, row_facts, emp_facts, cellFacts, Nat.zero_add, Nat.reduceAdd, true_and, and_true] at kk7
                                have HS7 := Lib.hid hs7
                                clear hs7
                                refine ⟨_, [true, true, true, true, true, true, true, true, true], [false, false, false, false, false, false, false, false, false], [6, 0, 1], [?vr1o7_0_u8, ?vr1o7_1_u8, (.slice (some ⟨wb.heap.size, 0, none⟩) 0 0), ?vr1o7_3_u8, ?vr1o7_4_u8, (.slice A6 x.edges.length C6), ?vr1o7_6_u8, (.pointer (some ⟨(wb.heap.size + 1), 0, none⟩)), undef], fun w' => w' = ((y6).setCell ⟨(wb.heap.size + 1), 0, none⟩ (.slice As x.spots.length cs)).setCell ⟨(wb.heap.size + 1), 1, none⟩ (.slice A6 x.edges.length C6), rfl, rfl, ?samer1o7_u8, by kernel_rfl, ?hSr1o7_u8, ?nxr1o7_u8⟩
                                case samer1o7_u8 =>
                                  refine And.intro ?_ ?_
                                  · with_reducible rfl
                                  refine And.intro ?_ ?_
                                  · with_reducible rfl
                                  refine And.intro ?_ ?_
                                  · with_reducible rfl
                                  refine And.intro ?_ ?_
                                  · with_reducible rfl
                                  refine And.intro ?_ ?_
                                  · with_reducible rfl
                                  refine And.intro ?_ ?_
                                  · with_reducible rfl
                                  refine And.intro ?_ ?_
                                  · with_reducible rfl
                                  refine And.intro ?_ ?_
                                  · with_reducible rfl
                                  trivial
                                case hSr1o7_u8 => rfl
                                case nxr1o7_u8 =>
                                  refine chainT_nil (by rfl) (by kernel_rfl) rfl ?opsr1o7_u8 ?endr1o7_u8
                                  case opsr1o7_u8 =>
                                    simp only [OpsAt, fillT, List.setIfInBounds_toArray, List.set_cons_zero, List.set_cons_succ]
                                    try trivial
                                  case endr1o7_u8 =>
                                    intro wE hE
                                    simp only [fillT, List.setIfInBounds_toArray, List.set_cons_zero, List.set_cons_succ]
                                    rw [hE]
                                    have ht := (HS7.out).pick [0, 1, 2, 3, 4, 5] (by decide)
                                    simp only [List.filterMap_cons, List.filterMap_nil, List.getElem?_cons_zero, List.getElem?_cons_succ] at ht
                                    try clear kk1
                                    try clear kk2
                                    try clear kk3
                                    try clear kk4
                                    try clear kk5
                                    try clear kk6
                                    try clear kk7
                                    clear hE
                                    generalize (wb.heap.size + 1) = p at ht ⊢
                                    generalize ((y6).setCell ⟨p, 0, none⟩ (.slice As x.spots.length cs)).setCell ⟨p, 1, none⟩ (.slice A6 x.edges.length C6) = wx at ht ⊢
                                    have HT := Lib.hid ht
                                    clear ht
                                    obtain ⟨gE, hgE, gc, gf, glt⟩ := rowK_at edC_len (by decide) (HT.out.rowOf (i := 4) rfl) (i := k) hlt
                                    subst hgE
                                    have hek : x.edges[k] = ⟨a, b, c0, c1, b0, r0, b1, r1⟩ := Option.some.inj ((List.getElem?_eq_getElem hlt).symm.trans HGK.out)
                                    rw [hek] at gc
                                    have s0 := gc 0 _ rfl
                                    have s1 := gc 1 _ rfl
                                    have s2 := gc 2 _ rfl
                                    have s3 := gc 3 _ rfl
                                    have s4 := gc 4 _ rfl
                                    have s5 := gc 5 _ rfl
                                    have s6 := gc 6 _ rfl
                                    have s7 := gc 7 _ rfl
                                    rw [Nat.add_zero] at s0
                                    have f0 := gf (k * 8 + 0)
                                    have f1 := gf (k * 8 + 1)
                                    have f2 := gf (k * 8 + 2)
                                    have f3 := gf (k * 8 + 3)
                                    have f4 := gf (k * 8 + 4)
                                    have f5 := gf (k * 8 + 5)
                                    have f6 := gf (k * 8 + 6)
                                    have f7 := gf (k * 8 + 7)
                                    rw [Nat.add_zero] at f0
                                    clear gc gf hek
                                    have k9 := HT.out.all
                                    simp only [allFacts, box_facts, row_facts, emp_facts, cellFacts, Nat.zero_add, Nat.reduceAdd, true_and, and_true] at k9
                                    have hk1 := HT.out.setRowK edC_len 4 rfl (i := k) (by simpa using hlt) (j := 0) (by decide) (.int .i64 a) (⟨a, b, c0, c1, b0, r0, b1, r1⟩ : Edg) (by rw [show x.edges[k] = ⟨a, b, c0, c1, b0, r0, b1, r1⟩ from Option.some.inj ((List.getElem?_eq_getElem hlt).symm.trans HGK.out)]; rfl)
                                    try simp only [List.cons_append, List.nil_append, List.set_cons_succ, List.set_cons_zero, Nat.zero_add, Nat.reduceAdd, World.size_alloc, World.size_drew] at hk1
                                    have hk2 := hk1.setRowK edC_len 4 rfl (i := k) (by simpa using hlt) (j := 1) (by decide) (.int .i64 b) (⟨a, b, c0, c1, b0, r0, b1, r1⟩ : Edg) (by simp [edC])
                                    try simp only [List.cons_append, List.nil_append, List.set_cons_succ, List.set_cons_zero, Nat.zero_add, Nat.reduceAdd, World.size_alloc, World.size_drew] at hk2
                                    have hk3 := hk2.setRowK edC_len 4 rfl (i := k) (by simpa using hlt) (j := 2) (by decide) (.int .u64 m) (⟨a, b, m, c1, b0, r0, b1, r1⟩ : Edg) (by simp [edC])
                                    try simp only [List.cons_append, List.nil_append, List.set_cons_succ, List.set_cons_zero, Nat.zero_add, Nat.reduceAdd, World.size_alloc, World.size_drew] at hk3
                                    have hk4 := hk3.setRowK edC_len 4 rfl (i := k) (by simpa using hlt) (j := 3) (by decide) (.int .u64 (c1 - n)) (⟨a, b, m, (c1 - n), b0, r0, b1, r1⟩ : Edg) (by simp [edC])
                                    try simp only [List.cons_append, List.nil_append, List.set_cons_succ, List.set_cons_zero, Nat.zero_add, Nat.reduceAdd, World.size_alloc, World.size_drew] at hk4
                                    have hk5 := hk4.setRowK edC_len 4 rfl (i := k) (by simpa using hlt) (j := 4) (by decide) (.int .u64 b0) (⟨a, b, m, (c1 - n), b0, r0, b1, r1⟩ : Edg) (by simp [edC])
                                    try simp only [List.cons_append, List.nil_append, List.set_cons_succ, List.set_cons_zero, Nat.zero_add, Nat.reduceAdd, World.size_alloc, World.size_drew] at hk5
                                    have hk6 := hk5.setRowK edC_len 4 rfl (i := k) (by simpa using hlt) (j := 5) (by decide) (.int .u64 r0) (⟨a, b, m, (c1 - n), b0, r0, b1, r1⟩ : Edg) (by simp [edC])
                                    try simp only [List.cons_append, List.nil_append, List.set_cons_succ, List.set_cons_zero, Nat.zero_add, Nat.reduceAdd, World.size_alloc, World.size_drew] at hk6
                                    have hk7 := hk6.setRowK edC_len 4 rfl (i := k) (by simpa using hlt) (j := 6) (by decide) (.int .u64 b1) (⟨a, b, m, (c1 - n), b0, r0, b1, r1⟩ : Edg) (by simp [edC])
                                    try simp only [List.cons_append, List.nil_append, List.set_cons_succ, List.set_cons_zero, Nat.zero_add, Nat.reduceAdd, World.size_alloc, World.size_drew] at hk7
                                    have hk8 := hk7.setRowK edC_len 4 rfl (i := k) (by simpa using hlt) (j := 7) (by decide) (.int .u64 r1) (⟨a, b, m, (c1 - n), b0, r0, b1, r1⟩ : Edg) (by simp [edC])
                                    try simp only [List.cons_append, List.nil_append, List.set_cons_succ, List.set_cons_zero, Nat.zero_add, Nat.reduceAdd, World.size_alloc, World.size_drew] at hk8
                                    simp only [List.length_set, List.set_set, Nat.add_zero] at hk8
                                    have HK := Lib.hid hk8
                                    clear hk1 hk2 hk3 hk4 hk5 hk6 hk7 hk8
                                    skip
                                    have h8 := (HK.out.set 2 rfl 0 (.slice As x.spots.length cs)).set 2 rfl 1 (.slice (some ⟨gE, 0, none⟩) x.edges.length C6)
                                    try simp only [List.cons_append, List.nil_append, List.set_cons_succ, List.set_cons_zero, Nat.zero_add, Nat.reduceAdd, World.size_alloc, World.size_drew] at h8
                                    have hb9 := h8.below (i := 0) rfl
                                    have HB9 := Lib.hid hb9
                                    have hwe := Recs.ofRow (k := 8) (f := edC) (L := x.edges.set k (⟨a, b, m, c1 - n, b0, r0, b1, r1⟩ : Edg)) (c := C6) (A := some ⟨gE, 0, none⟩) (h8.rowOf (i := 4) (by rw [List.length_set]; rfl)) (by rw [List.length_set]; omega)
                                    have hws := HW.out.s.mono (src_rest h8 (i := 0) rfl HW.out.s.src (src_lt HW.out.s.src))
                                    have HW9 := Lib.hid (And.intro hws hwe)
                                    have k8 := HK.out.all
                                    simp only [allFacts, box_facts, row_facts, emp_facts, cellFacts, Nat.zero_add, Nat.reduceAdd, true_and, and_true] at k8
                                    clear h8 hb9 hwe hws
                                    go_wp2
                                    refine bodyPost_ret (v := .tuple #[.agg #[.slice As x.spots.length cs, .slice (some ⟨gE, 0, none⟩) x.edges.length C6], .int .i64 0]) (by simp only [results, Try.results16]; go_simp) rfl ⟨As, cs, some ⟨gE, 0, none⟩, C6, ret_web (by rw [HZ.out]) (by rw [HZ.out]; simp) (by rw [HZ.out]), by rw [HZ.out]; exact ⟨HW9.out.1, HW9.out.2⟩, HB9.out⟩
              case mr1o0_1_u8 =>
                refine makeT _ rfl ?wantr1o0_1_u8 ?effr1o0_1_u8
                case wantr1o0_1_u8 => (try simp only [fillT, List.setIfInBounds_toArray, List.set_cons_zero, List.set_cons_succ]) <;> rfl
                intro wS hS
                simp only [fillT, List.setIfInBounds_toArray, List.set_cons_zero, List.set_cons_succ]
                rw [hS]
                refine eff_run (w' := (wb.drew).alloc (.cells #[.slice none 0 0, .slice none 0 0] 25)) (by go_simp; try rfl) ?_
                have hs8 := (HY.out).alloc #[.slice none 0 0, .slice none 0 0] 25
                try simp only [List.cons_append, List.nil_append, List.set_cons_succ, List.set_cons_zero, Nat.zero_add, Nat.reduceAdd, World.size_alloc, World.size_drew] at hs8
                have kk8 := hs8.all
                simp only [allFacts, box_facts, row_facts, emp_facts, cellFacts, Nat.zero_add, Nat.reduceAdd, true_and, and_true] at kk8
                have HS8 := Lib.hid hs8
                clear hs8
                refine ⟨_, [true, true, false, true, true, false, false, true, false], [true, true, false, true, true, false, false, false, false], [], [?vr1o8_0_u8, ?vr1o8_1_u8, undef, ?vr1o8_3_u8, ?vr1o8_4_u8, undef, undef, (.pointer (some ⟨wb.heap.size, 0, none⟩)), undef], fun w' => w' = (wb.drew).alloc (.cells #[.slice none 0 0, .slice none 0 0] 25), rfl, rfl, ?samer1o8_u8, by kernel_rfl, ?hSr1o8_u8, ?nxr1o8_u8⟩
                case samer1o8_u8 =>
                  refine And.intro ?_ ?_
                  · with_reducible rfl
                  refine And.intro ?_ ?_
                  · with_reducible rfl
                  refine And.intro ?_ ?_
                  · with_reducible rfl
                  refine And.intro ?_ ?_
                  · with_reducible rfl
                  trivial
                case hSr1o8_u8 => rfl
                case nxr1o8_u8 =>
                  refine chainT_one 2 (by decide) (by kernel_rfl) rfl ?opsr1o8_u8 ?mr1o8_0_u8
                  case opsr1o8_u8 =>
                    simp only [OpsAt, fillT, List.setIfInBounds_toArray, List.set_cons_zero, List.set_cons_succ]
                    refine ⟨.inl ⟨by rfl, opOk_pure fun wS hS => ?_⟩, ?_⟩
                    · ((subst hS; go_simp)); try (with_reducible rfl)
                    refine ⟨.inl ⟨by rfl, opOk_pure fun wS hS => ?_⟩, ?_⟩
                    · ((subst hS; go_simp)); try (with_reducible rfl)
                    refine ⟨.inl ⟨by rfl, opOk_pure fun wS hS => ?_⟩, ?_⟩
                    · ((subst hS; go_simp)); try (with_reducible rfl)
                    refine ⟨.inl ⟨by rfl, opOk_pure fun wS hS => ?_⟩, ?_⟩
                    · ((subst hS; go_simp)); try (with_reducible rfl)
                    try trivial
                  case mr1o8_0_u8 =>
                    refine makeT _ rfl ?wantr1o8_0_u8 ?effr1o8_0_u8
                    case wantr1o8_0_u8 => (try simp only [fillT, List.setIfInBounds_toArray, List.set_cons_zero, List.set_cons_succ]) <;> rfl
                    intro wS hS
                    simp only [fillT, List.setIfInBounds_toArray, List.set_cons_zero, List.set_cons_succ]
                    rw [hS]
                    refine eff_run (w' := ((wb.drew).alloc (.cells #[.slice none 0 0, .slice none 0 0] 25)).alloc (.cells #[] 80)) (by go_simp; try rfl) ?_
                    have hs9 := (HS8.out).made #[] 80 8 0 0 rfl (Nat.le_refl _) (Nat.zero_le _)
                    try simp only [List.cons_append, List.nil_append, List.set_cons_succ, List.set_cons_zero, Nat.zero_add, Nat.reduceAdd, World.size_alloc, World.size_drew] at hs9
                    have kk9 := hs9.all
                    simp only [allFacts, box_facts, row_facts, emp_facts, cellFacts, Nat.zero_add, Nat.reduceAdd, true_and, and_true] at kk9
                    have HS9 := Lib.hid hs9
                    clear hs9
                    refine ⟨_, [true, true, true, true, true, false, false, true, false], [true, true, false, true, true, false, false, false, false], [], [?vr1o9_0_u8, ?vr1o9_1_u8, (.slice (some ⟨(wb.heap.size + 1), 0, none⟩) 0 0), ?vr1o9_3_u8, ?vr1o9_4_u8, undef, undef, (.pointer (some ⟨wb.heap.size, 0, none⟩)), undef], fun w' => w' = ((wb.drew).alloc (.cells #[.slice none 0 0, .slice none 0 0] 25)).alloc (.cells #[] 80), rfl, rfl, ?samer1o9_u8, by kernel_rfl, ?hSr1o9_u8, ?nxr1o9_u8⟩
                    case samer1o9_u8 =>
                      refine And.intro ?_ ?_
                      · with_reducible rfl
                      refine And.intro ?_ ?_
                      · with_reducible rfl
                      refine And.intro ?_ ?_
                      · with_reducible rfl
                      refine And.intro ?_ ?_
                      · with_reducible rfl
                      refine And.intro ?_ ?_
                      · with_reducible rfl
                      trivial
                    case hSr1o9_u8 => rfl
                    case nxr1o9_u8 =>
                      refine chainT_one 5 (by decide) (by kernel_rfl) rfl ?opsr1o9_u8 ?mr1o9_0_u8
                      case opsr1o9_u8 =>
                        simp only [OpsAt, fillT, List.setIfInBounds_toArray, List.set_cons_zero, List.set_cons_succ]
                        refine ⟨.inl ⟨by rfl, opOk_pure fun wS hS => ?_⟩, ?_⟩
                        · ((subst hS; go_simp)); try (with_reducible rfl)
                        refine ⟨.inl ⟨by rfl, opOk_pure fun wS hS => ?_⟩, ?_⟩
                        · ((subst hS; go_simp)); try (with_reducible rfl)
                        refine ⟨.inl ⟨by rfl, opOk_pure fun wS hS => ?_⟩, ?_⟩
                        · ((subst hS; go_simp)); try (with_reducible rfl)
                        refine ⟨.inl ⟨by rfl, opOk_pure fun wS hS => ?_⟩, ?_⟩
                        · ((subst hS; go_simp)); try (with_reducible rfl)
                        try trivial
                      case mr1o9_0_u8 =>
                        refine makeT _ rfl ?wantr1o9_0_u8 ?effr1o9_0_u8
                        case wantr1o9_0_u8 => (try simp only [fillT, List.setIfInBounds_toArray, List.set_cons_zero, List.set_cons_succ]) <;> rfl
                        intro wS hS
                        simp only [fillT, List.setIfInBounds_toArray, List.set_cons_zero, List.set_cons_succ]
                        rw [hS]
                        refine wp_append_sat _ _ 23 rfl HS9.out 5 80 (.agg #[.int .i64 0, .int .i64 0, .int .u64 0, .int .u64 0, .int .u64 0, .int .u64 0, .int .u64 0, .int .u64 0]) 8 64 Try.underlying23 info_re rfl (by decide) (.slice (some ⟨(wb.heap.size + 1), 0, none⟩) 0 0) 0 [] ?z100_u8 rfl (some ⟨g, off, none⟩) x.edges.length ce (x.edges.flatMap edC) ?z101_u8 (fun h => by cases h) ?z102_u8 (src_rest (HS9.out) (i := 0) rfl HW.out.e.src (src_lt HW.out.e.src)) ?z103_u8 ?z104_u8 ?z105_u8 ?z106_u8
                        try (case z100_u8 => go_simp)
                        try (case z101_u8 => go_simp)
                        try (case z102_u8 => exact recs_len edC_len x.edges)
                        case z103_u8 => (intro u hu; simp only [List.mem_flatMap] at hu; obtain ⟨p, _, hp⟩ := hu; simp [edC] at hp; rcases hp with rfl | rfl | rfl | rfl | rfl | rfl | rfl | rfl <;> rfl)
                        case z104_u8 => unfold maxLen; omega
                        case z105_u8 => omega
                        case z106_u8 =>
                          intro A10 C10 y10 hs10 hA10 hg10
                          try simp only [List.cons_append, List.nil_append, List.set_cons_succ, List.set_cons_zero, Nat.zero_add, Nat.reduceAdd, World.size_alloc, World.size_drew] at hs10
                          have kk10 := hs10.all
                          simp only [allFacts, box_facts, row_facts, emp_facts, cellFacts, Nat.zero_add, Nat.reduceAdd, true_and, and_true] at kk10
                          have HS10 := Lib.hid hs10
                          clear hs10
                          clear hA10 hg10
                          simp only [Nat.zero_add]
                          refine ⟨_, [true, true, true, true, true, true, true, true, false], [true, true, false, false, false, false, true, false, false], [4, 3], [?vr1o10_0_u8, ?vr1o10_1_u8, (.slice (some ⟨(wb.heap.size + 1), 0, none⟩) 0 0), ?vr1o10_3_u8, ?vr1o10_4_u8, (.slice A10 x.edges.length C10), ?vr1o10_6_u8, (.pointer (some ⟨wb.heap.size, 0, none⟩)), undef], fun w' => w' = y10, rfl, rfl, ?samer1o10_u8, by kernel_rfl, ?hSr1o10_u8, ?nxr1o10_u8⟩
                          case samer1o10_u8 =>
                            refine And.intro ?_ ?_
                            · with_reducible rfl
                            refine And.intro ?_ ?_
                            · with_reducible rfl
                            refine And.intro ?_ ?_
                            · with_reducible rfl
                            refine And.intro ?_ ?_
                            · with_reducible rfl
                            refine And.intro ?_ ?_
                            · with_reducible rfl
                            refine And.intro ?_ ?_
                            · with_reducible rfl
                            trivial
                          case hSr1o10_u8 => rfl
                          case nxr1o10_u8 =>
                            refine chainT_one 8 (by decide) (by kernel_rfl) rfl ?opsr1o10_u8 ?mr1o10_0_u8
                            case opsr1o10_u8 =>
                              simp only [OpsAt, fillT, List.setIfInBounds_toArray, List.set_cons_zero, List.set_cons_succ]
                              refine ⟨.inl ⟨by rfl, opOk_pure fun wS hS => ?_⟩, ?_⟩
                              · ((subst hS; go_simp)); try (with_reducible rfl)
                              refine ⟨.inl ⟨by rfl, opOk_pure fun wS hS => ?_⟩, ?_⟩
                              · ((subst hS; go_simp)); try (with_reducible rfl)
                              refine ⟨.inl ⟨by rfl, opOk_pure fun wS hS => ?_⟩, ?_⟩
                              · ((subst hS; go_simp)); try (with_reducible rfl)
                              try trivial
                            case mr1o10_0_u8 =>
                              refine makeT _ rfl ?wantr1o10_0_u8 ?effr1o10_0_u8
                              case wantr1o10_0_u8 => (try simp only [fillT, List.setIfInBounds_toArray, List.set_cons_zero, List.set_cons_succ]) <;> rfl
                              intro wS hS
                              simp only [fillT, List.setIfInBounds_toArray, List.set_cons_zero, List.set_cons_succ]
                              rw [hS]
                              refine eff_skip (w' := ((y10).setCell ⟨wb.heap.size, 0, none⟩ (.slice As x.spots.length cs)).setCell ⟨wb.heap.size, 1, none⟩ (.slice A10 x.edges.length C10)) ?run_u7_u8 ?pp_u7_u8
                              case run_u7_u8 => go_simp
                              case pp_u7_u8 =>
                                have hs11 := ((HS10.out).set 4 rfl 0 (.slice As x.spots.length cs)).set 4 rfl 1 (.slice A10 x.edges.length C10)
                                try simp only [List.cons_append, List.nil_append, List.set_cons_succ, List.set_cons_zero, Nat.zero_add, Nat.reduceAdd, World.size_alloc, World.size_drew] at hs11
                                have kk11 := hs11.all
                                simp only [allFacts, box_facts, row_facts, emp_facts, cellFacts, Nat.zero_add, Nat.reduceAdd, true_and, and_true] at kk11
                                have HS11 := Lib.hid hs11
                                clear hs11
                                refine ⟨_, [true, true, true, true, true, true, true, true, true], [false, false, false, false, false, false, false, false, false], [6, 0, 1], [?vr1o11_0_u8, ?vr1o11_1_u8, (.slice (some ⟨(wb.heap.size + 1), 0, none⟩) 0 0), ?vr1o11_3_u8, ?vr1o11_4_u8, (.slice A10 x.edges.length C10), ?vr1o11_6_u8, (.pointer (some ⟨wb.heap.size, 0, none⟩)), undef], fun w' => w' = ((y10).setCell ⟨wb.heap.size, 0, none⟩ (.slice As x.spots.length cs)).setCell ⟨wb.heap.size, 1, none⟩ (.slice A10 x.edges.length C10), rfl, rfl, ?samer1o11_u8, by kernel_rfl, ?hSr1o11_u8, ?nxr1o11_u8⟩
                                case samer1o11_u8 =>
                                  refine And.intro ?_ ?_
                                  · with_reducible rfl
                                  refine And.intro ?_ ?_
                                  · with_reducible rfl
                                  refine And.intro ?_ ?_
                                  · with_reducible rfl
                                  refine And.intro ?_ ?_
                                  · with_reducible rfl
                                  refine And.intro ?_ ?_
                                  · with_reducible rfl
                                  refine And.intro ?_ ?_
                                  · with_reducible rfl
                                  refine And.intro ?_ ?_
                                  · with_reducible rfl
                                  refine And.intro ?_ ?_
                                  · with_reducible rfl
                                  trivial
                                case hSr1o11_u8 => rfl
                                case nxr1o11_u8 =>
                                  refine chainT_nil (by rfl) (by kernel_rfl) rfl ?opsr1o11_u8 ?endr1o11_u8
                                  case opsr1o11_u8 =>
                                    simp only [OpsAt, fillT, List.setIfInBounds_toArray, List.set_cons_zero, List.set_cons_succ]
                                    try trivial
                                  case endr1o11_u8 =>
                                    intro wE hE
                                    simp only [fillT, List.setIfInBounds_toArray, List.set_cons_zero, List.set_cons_succ]
                                    rw [hE]
                                    have ht := (HS11.out).pick [0, 1, 2, 3, 5, 4] (by decide)
                                    simp only [List.filterMap_cons, List.filterMap_nil, List.getElem?_cons_zero, List.getElem?_cons_succ] at ht
                                    try clear kk1
                                    try clear kk2
                                    try clear kk3
                                    try clear kk4
                                    try clear kk5
                                    try clear kk6
                                    try clear kk7
                                    try clear kk8
                                    try clear kk9
                                    try clear kk10
                                    try clear kk11
                                    clear hE
                                    generalize wb.heap.size = p at ht ⊢
                                    generalize ((y10).setCell ⟨p, 0, none⟩ (.slice As x.spots.length cs)).setCell ⟨p, 1, none⟩ (.slice A10 x.edges.length C10) = wx at ht ⊢
                                    have HT := Lib.hid ht
                                    clear ht
                                    obtain ⟨gE, hgE, gc, gf, glt⟩ := rowK_at edC_len (by decide) (HT.out.rowOf (i := 4) rfl) (i := k) hlt
                                    subst hgE
                                    have hek : x.edges[k] = ⟨a, b, c0, c1, b0, r0, b1, r1⟩ := Option.some.inj ((List.getElem?_eq_getElem hlt).symm.trans HGK.out)
                                    rw [hek] at gc
                                    have s0 := gc 0 _ rfl
                                    have s1 := gc 1 _ rfl
                                    have s2 := gc 2 _ rfl
                                    have s3 := gc 3 _ rfl
                                    have s4 := gc 4 _ rfl
                                    have s5 := gc 5 _ rfl
                                    have s6 := gc 6 _ rfl
                                    have s7 := gc 7 _ rfl
                                    rw [Nat.add_zero] at s0
                                    have f0 := gf (k * 8 + 0)
                                    have f1 := gf (k * 8 + 1)
                                    have f2 := gf (k * 8 + 2)
                                    have f3 := gf (k * 8 + 3)
                                    have f4 := gf (k * 8 + 4)
                                    have f5 := gf (k * 8 + 5)
                                    have f6 := gf (k * 8 + 6)
                                    have f7 := gf (k * 8 + 7)
                                    rw [Nat.add_zero] at f0
                                    clear gc gf hek
                                    have k9 := HT.out.all
                                    simp only [allFacts, box_facts, row_facts, emp_facts, cellFacts, Nat.zero_add, Nat.reduceAdd, true_and, and_true] at k9
                                    have hk1 := HT.out.setRowK edC_len 4 rfl (i := k) (by simpa using hlt) (j := 0) (by decide) (.int .i64 a) (⟨a, b, c0, c1, b0, r0, b1, r1⟩ : Edg) (by rw [show x.edges[k] = ⟨a, b, c0, c1, b0, r0, b1, r1⟩ from Option.some.inj ((List.getElem?_eq_getElem hlt).symm.trans HGK.out)]; rfl)
                                    try simp only [List.cons_append, List.nil_append, List.set_cons_succ, List.set_cons_zero, Nat.zero_add, Nat.reduceAdd, World.size_alloc, World.size_drew] at hk1
                                    have hk2 := hk1.setRowK edC_len 4 rfl (i := k) (by simpa using hlt) (j := 1) (by decide) (.int .i64 b) (⟨a, b, c0, c1, b0, r0, b1, r1⟩ : Edg) (by simp [edC])
                                    try simp only [List.cons_append, List.nil_append, List.set_cons_succ, List.set_cons_zero, Nat.zero_add, Nat.reduceAdd, World.size_alloc, World.size_drew] at hk2
                                    have hk3 := hk2.setRowK edC_len 4 rfl (i := k) (by simpa using hlt) (j := 2) (by decide) (.int .u64 m) (⟨a, b, m, c1, b0, r0, b1, r1⟩ : Edg) (by simp [edC])
                                    try simp only [List.cons_append, List.nil_append, List.set_cons_succ, List.set_cons_zero, Nat.zero_add, Nat.reduceAdd, World.size_alloc, World.size_drew] at hk3
                                    have hk4 := hk3.setRowK edC_len 4 rfl (i := k) (by simpa using hlt) (j := 3) (by decide) (.int .u64 (c1 - n)) (⟨a, b, m, (c1 - n), b0, r0, b1, r1⟩ : Edg) (by simp [edC])
                                    try simp only [List.cons_append, List.nil_append, List.set_cons_succ, List.set_cons_zero, Nat.zero_add, Nat.reduceAdd, World.size_alloc, World.size_drew] at hk4
                                    have hk5 := hk4.setRowK edC_len 4 rfl (i := k) (by simpa using hlt) (j := 4) (by decide) (.int .u64 b0) (⟨a, b, m, (c1 - n), b0, r0, b1, r1⟩ : Edg) (by simp [edC])
                                    try simp only [List.cons_append, List.nil_append, List.set_cons_succ, List.set_cons_zero, Nat.zero_add, Nat.reduceAdd, World.size_alloc, World.size_drew] at hk5
                                    have hk6 := hk5.setRowK edC_len 4 rfl (i := k) (by simpa using hlt) (j := 5) (by decide) (.int .u64 r0) (⟨a, b, m, (c1 - n), b0, r0, b1, r1⟩ : Edg) (by simp [edC])
                                    try simp only [List.cons_append, List.nil_append, List.set_cons_succ, List.set_cons_zero, Nat.zero_add, Nat.reduceAdd, World.size_alloc, World.size_drew] at hk6
                                    have hk7 := hk6.setRowK edC_len 4 rfl (i := k) (by simpa using hlt) (j := 6) (by decide) (.int .u64 b1) (⟨a, b, m, (c1 - n), b0, r0, b1, r1⟩ : Edg) (by simp [edC])
                                    try simp only [List.cons_append, List.nil_append, List.set_cons_succ, List.set_cons_zero, Nat.zero_add, Nat.reduceAdd, World.size_alloc, World.size_drew] at hk7
                                    have hk8 := hk7.setRowK edC_len 4 rfl (i := k) (by simpa using hlt) (j := 7) (by decide) (.int .u64 r1) (⟨a, b, m, (c1 - n), b0, r0, b1, r1⟩ : Edg) (by simp [edC])
                                    try simp only [List.cons_append, List.nil_append, List.set_cons_succ, List.set_cons_zero, Nat.zero_add, Nat.reduceAdd, World.size_alloc, World.size_drew] at hk8
                                    simp only [List.length_set, List.set_set, Nat.add_zero] at hk8
                                    have HK := Lib.hid hk8
                                    clear hk1 hk2 hk3 hk4 hk5 hk6 hk7 hk8
                                    skip
                                    have h8 := (HK.out.set 2 rfl 0 (.slice As x.spots.length cs)).set 2 rfl 1 (.slice (some ⟨gE, 0, none⟩) x.edges.length C10)
                                    try simp only [List.cons_append, List.nil_append, List.set_cons_succ, List.set_cons_zero, Nat.zero_add, Nat.reduceAdd, World.size_alloc, World.size_drew] at h8
                                    have hb9 := h8.below (i := 0) rfl
                                    have HB9 := Lib.hid hb9
                                    have hwe := Recs.ofRow (k := 8) (f := edC) (L := x.edges.set k (⟨a, b, m, c1 - n, b0, r0, b1, r1⟩ : Edg)) (c := C10) (A := some ⟨gE, 0, none⟩) (h8.rowOf (i := 4) (by rw [List.length_set]; rfl)) (by rw [List.length_set]; omega)
                                    have hws := HW.out.s.mono (src_rest h8 (i := 0) rfl HW.out.s.src (src_lt HW.out.s.src))
                                    have HW9 := Lib.hid (And.intro hws hwe)
                                    have k8 := HK.out.all
                                    simp only [allFacts, box_facts, row_facts, emp_facts, cellFacts, Nat.zero_add, Nat.reduceAdd, true_and, and_true] at k8
                                    clear h8 hb9 hwe hws
                                    go_wp2
                                    refine bodyPost_ret (v := .tuple #[.agg #[.slice As x.spots.length cs, .slice (some ⟨gE, 0, none⟩) x.edges.length C10], .int .i64 0]) (by simp only [results, Try.results16]; go_simp) rfl ⟨As, cs, some ⟨gE, 0, none⟩, C10, ret_web (by rw [HZ.out]) (by rw [HZ.out]; simp) (by rw [HZ.out]), by rw [HZ.out]; exact ⟨HW9.out.1, HW9.out.2⟩, HB9.out⟩
      · have d1 : (a == node) = false := beq_eq_false_iff_ne.2 ha
        have d2 : (b == node) = false := beq_eq_false_iff_ne.2 hb1
        have hsa := HSA.out
        rw [hs] at hsa
        have HZ := Lib.hid (hsa.trans (if_pos (by decide)))
        clear hs ha hb1 hsa hab
        go_enter Try.func16, Try.ntmps16
        go_wp2_with fail
        refine (HCK.out).mono ?_
        rintro e w2 ⟨rfl, hb⟩
        have h2 := H1.out.grow hb
        have k2 := h2.all
        simp only [allFacts, box_facts, row_facts, emp_facts, cellFacts, Nat.zero_add, Nat.reduceAdd, true_and, and_true] at k2
        have H2 := Lib.hid h2
        clear hb h2
        have q0 := restCell H2.out rfl hb (HC.out 0 _ rfl)
        have q1 := restCell H2.out rfl hb (HC.out 1 _ rfl)
        have q2 := restCell H2.out rfl hb (HC.out 2 _ rfl)
        have q3 := restCell H2.out rfl hb (HC.out 3 _ rfl)
        have q4 := restCell H2.out rfl hb (HC.out 4 _ rfl)
        have q5 := restCell H2.out rfl hb (HC.out 5 _ rfl)
        have q6 := restCell H2.out rfl hb (HC.out 6 _ rfl)
        have q7 := restCell H2.out rfl hb (HC.out 7 _ rfl)
        rw [Nat.add_zero] at q0
        go_wp2
        refine wp_loop_rounds 3 ?_
        rw [rounds_succ]
        go_wp2_with fail
        rw [rounds_succ]
        go_wp2_with fail
        rw [rounds_succ]
        go_wp2_with fail
        clear q0 q1 q2 q3 q4 q5 q6 q7
        go_wp2
        have hz9 := ((H2.out.set 2 rfl 0 (.slice none 0 0)).set 2 rfl 1 (.slice none 0 0))
        have hz8 := hz9.below (i := 0) rfl
        have HZ8 := Lib.hid hz8
        clear hz9 hz8
        refine bodyPost_ret (v := .tuple #[.agg #[.slice none 0 0, .slice none 0 0], .int .i64 1]) (by simp only [results, Try.results16]; go_simp) rfl ⟨none, 0, none, 0, ret_web (by rw [HZ.out]; rfl) (by rw [HZ.out]; rfl) (by rw [HZ.out]), by rw [HZ.out]; exact WebAt.none _, HZ8.out⟩
end Go.Proofs.Ytjbblgefgjmdaaa
