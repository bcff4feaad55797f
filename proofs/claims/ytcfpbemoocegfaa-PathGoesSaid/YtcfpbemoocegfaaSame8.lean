/- The same webs? Of chapter 07. -/
import Derived.Test.YtcfpbemoocegfaaEqAt
namespace Go.Proofs.Ytcfpbemoocegfaa
set_option linter.unusedVariables false
set_option linter.unusedSimpArgs false
set_option linter.unnecessarySimpa false
open Go.RowKit

set_option maxRecDepth 100000 in
set_option maxHeartbeats 2000000 in
theorem same_any (w : World) (As : Option Addr) (cs : Nat) (Ae : Option Addr) (ce : Nat) (x : Wb) (h : WebAt w As cs Ae ce x) (ok : x.Ok) (As2 : Option Addr) (cs2 : Nat) (Ae2 : Option Addr) (ce2 : Nat) (h2 : WebAt w As2 cs2 Ae2 ce2 x) : Calls Try.prog 29 #[.agg #[.slice As x.spots.length cs, .slice Ae x.edges.length ce], .agg #[.slice As2 x.spots.length cs2, .slice Ae2 x.edges.length ce2]] w fun e w' => e = .returned (.bool true) ∧ Below w.heap.size w w' := by
  have h1 := ((Sat.pushRest w).alloc #[.slice As x.spots.length cs, .slice Ae x.edges.length ce] 25).alloc #[.slice As2 x.spots.length cs2, .slice Ae2 x.edges.length ce2] 25
  try simp only [List.cons_append, List.nil_append, List.set_cons_succ, List.set_cons_zero, Nat.zero_add, Nat.reduceAdd, World.size_alloc] at h1
  have hl1 := h.s.len
  have hl2 := h.e.len
  have hl3 : x.spots.length ≤ 9223372036854775807 := by omega
  have hl4 : x.edges.length ≤ 9223372036854775807 := by omega
  have HW := Lib.hid h
  have HV := Lib.hid h2
  have H1 := Lib.hid h1
  clear h h1 h2
  go_enter Try.func29, Try.ntmps29
  go_wp2
  go_loopw [5] (fun i wr => ∃ k : Nat, k ≤ x.spots.length ∧ i = .int .i64 k ∧ Sat w wr [rest w (· < w.heap.size), box w.heap.size 25 [.slice As x.spots.length cs, .slice Ae x.edges.length ce], box (w.heap.size + 1) 25 [.slice As2 x.spots.length cs2, .slice Ae2 x.edges.length ce2]]) (fun i _ => x.spots.length - (intOf i).toNat)
  case atStart => exact ⟨0, Nat.zero_le _, rfl, H1.out⟩
  case round =>
    obtain ⟨k, hk, rfl, hS⟩ := hrel
    clear H1
    have HS := Lib.hid hS
    clear hS
    have k1 := HS.out.all
    simp only [allFacts, box_facts, row_facts, emp_facts, cellFacts, Nat.zero_add, Nat.reduceAdd, true_and, and_true] at k1
    by_cases hlt : k < x.spots.length
    · obtain ⟨g, off, rfl, hb, hc⟩ := HW.out.s.at spC_len (by decide) hlt
      obtain ⟨g2, off2, rfl, hb2, hc2⟩ := HV.out.s.at spC_len (by decide) hlt
      have q0 := restCell HS.out rfl hb (hc 0 _ rfl)
      have q1 := restCell HS.out rfl hb (hc 1 _ rfl)
      have r0' := restCell HS.out rfl hb2 (hc2 0 _ rfl)
      have r1' := restCell HS.out rfl hb2 (hc2 1 _ rfl)
      generalize x.spots[k] = p at *
      obtain ⟨px, py⟩ := p
      try dsimp only at q0 q1 r0' r1'
      rw [Nat.add_zero] at q0 r0'
      clear hc hc2
      go_wp2_with fail
      refine region_chain (E := []) (kn := [true, true, true, true, true, true, true, true, true, true, true]) (mask := [true, true, true, true, true, true, true, true, true, true, true]) (vs := [?vq0_0, ?vq0_1, ?vq0_2, ?vq0_3, ?vq0_4, ?vq0_5, ?vq0_6, ?vq0_7, ?vq0_8, ?vq0_9, ?vq0_10]) (S := fun w' => w' = wr.drew) (by kernel_rfl) (by kernel_rfl) (by kernel_rfl) (by kernel_rfl) (by kernel_rfl) ?hSq ?hchq
      case hSq => exact rfl
      case hchq =>
        refine chain_nil (by kernel_rfl) rfl ?opsq0 ?endq0
        case opsq0 =>
          simp only [OpsAt, fillT, List.setIfInBounds_toArray, List.set_cons_zero, List.set_cons_succ]
          refine ⟨.inl ⟨by rfl, opOk_pure fun wS hS => ?_⟩, ?_⟩
          · ((subst hS; go_simp; try simp (disch := omega) only [wrap64_id])); try (with_reducible rfl)
          refine ⟨.inl ⟨by rfl, opOk_pure fun wS hS => ?_⟩, ?_⟩
          · ((subst hS; go_simp; try simp (disch := omega) only [wrap64_id])); try (with_reducible rfl)
          refine ⟨.inl ⟨by rfl, opOk_pure fun wS hS => ?_⟩, ?_⟩
          · ((subst hS; go_simp; try simp (disch := omega) only [wrap64_id])); try (with_reducible rfl)
          refine ⟨.inl ⟨by rfl, opOk_pure fun wS hS => ?_⟩, ?_⟩
          · ((subst hS; go_simp; try simp (disch := omega) only [wrap64_id])); try (with_reducible rfl)
          refine ⟨.inl ⟨by rfl, opOk_pure fun wS hS => ?_⟩, ?_⟩
          · ((subst hS; go_simp; try simp (disch := omega) only [wrap64_id])); try (with_reducible rfl)
          refine ⟨.inl ⟨by rfl, opOk_pure fun wS hS => ?_⟩, ?_⟩
          · ((subst hS; go_simp; try simp (disch := omega) only [wrap64_id])); try (with_reducible rfl)
          refine ⟨.inl ⟨by rfl, opOk_pure fun wS hS => ?_⟩, ?_⟩
          · ((subst hS; go_simp; try simp (disch := omega) only [wrap64_id])); try (with_reducible rfl)
          refine ⟨.inl ⟨by rfl, opOk_pure fun wS hS => ?_⟩, ?_⟩
          · ((subst hS; go_simp; try simp (disch := omega) only [wrap64_id])); try (with_reducible rfl)
          refine ⟨.inl ⟨by rfl, opOk_pure fun wS hS => ?_⟩, ?_⟩
          · ((subst hS; go_simp; try simp (disch := omega) only [wrap64_id])); try (with_reducible rfl)
          refine ⟨.inl ⟨by rfl, opOk_pure fun wS hS => ?_⟩, ?_⟩
          · ((subst hS; go_simp; try simp (disch := omega) only [wrap64_id])); try (with_reducible rfl)
          refine ⟨.inl ⟨by rfl, opOk_pure fun wS hS => ?_⟩, ?_⟩
          · ((subst hS; go_simp; try simp (disch := omega) only [wrap64_id])); try (with_reducible rfl)
          try trivial
        case endq0 =>
          intro wE hE
          simp only [fillT, List.setIfInBounds_toArray, List.set_cons_zero, List.set_cons_succ]
          rw [hE]
          go_wp2
          go_roundw
          case rel => exact ⟨k + 1, by omega, by go_num, HS.out.drew⟩
          case measure => (simp [intOf]; try omega)
    · obtain rfl : k = x.spots.length := by omega
      clear hlt
      go_wp2
      clear k1
      go_loopw [6] (fun i wr => ∃ k : Nat, k ≤ x.edges.length ∧ i = .int .i64 k ∧ Sat w wr [rest w (· < w.heap.size), box w.heap.size 25 [.slice As x.spots.length cs, .slice Ae x.edges.length ce], box (w.heap.size + 1) 25 [.slice As2 x.spots.length cs2, .slice Ae2 x.edges.length ce2]]) (fun i _ => x.edges.length - (intOf i).toNat)
      case atStart => exact ⟨0, Nat.zero_le _, rfl, HS.out⟩
      case round =>
        clear HS
        obtain ⟨k, hk, rfl, hS⟩ := hrel
        have HS := Lib.hid hS
        clear hS
        have k1 := HS.out.all
        simp only [allFacts, box_facts, row_facts, emp_facts, cellFacts, Nat.zero_add, Nat.reduceAdd, true_and, and_true] at k1
        by_cases hlt : k < x.edges.length
        · obtain ⟨g, off, rfl, hb, hc⟩ := HW.out.e.at edC_len (by decide) hlt
          have hko := ok.e x.edges[k] (List.getElem_mem hlt)
          obtain ⟨g2, off2, rfl, hb2, hc2⟩ := HV.out.e.at edC_len (by decide) hlt
          generalize hed : x.edges[k] = ed at *
          obtain ⟨a, b, c0, c1, b0, r0, b1, r1⟩ := ed
          try dsimp only at hko
          have HC := Lib.hid hc
          clear hed hc
          have q10 := eq_ends hko.a hko.b
          have q11 := eq_cans hko.c0 hko.c1
          have q12 := eq_fees hko.b0 hko.r0 hko.b1 hko.r1
          dsimp only at q10 q11 q12
          clear hko
          have HC2 := Lib.hid hc2
          clear hc2
          have q0 := restCell HS.out rfl hb (HC.out 0 _ rfl)
          have q1 := restCell HS.out rfl hb (HC.out 1 _ rfl)
          have q2 := restCell HS.out rfl hb (HC.out 2 _ rfl)
          have q3 := restCell HS.out rfl hb (HC.out 3 _ rfl)
          have q4 := restCell HS.out rfl hb (HC.out 4 _ rfl)
          have q5 := restCell HS.out rfl hb (HC.out 5 _ rfl)
          have q6 := restCell HS.out rfl hb (HC.out 6 _ rfl)
          have q7 := restCell HS.out rfl hb (HC.out 7 _ rfl)
          rw [Nat.add_zero] at q0
          have p0 := restCell HS.out rfl hb2 (HC2.out 0 _ rfl)
          have p1 := restCell HS.out rfl hb2 (HC2.out 1 _ rfl)
          have p2 := restCell HS.out rfl hb2 (HC2.out 2 _ rfl)
          have p3 := restCell HS.out rfl hb2 (HC2.out 3 _ rfl)
          have p4 := restCell HS.out rfl hb2 (HC2.out 4 _ rfl)
          have p5 := restCell HS.out rfl hb2 (HC2.out 5 _ rfl)
          have p6 := restCell HS.out rfl hb2 (HC2.out 6 _ rfl)
          have p7 := restCell HS.out rfl hb2 (HC2.out 7 _ rfl)
          rw [Nat.add_zero] at p0
          go_wp2_with fail
          refine region_chain (E := []) (kn := [true, true, true, true, true, true, true, true, true, true, true]) (mask := [true, true, true, true, true, true, true, true, true, true, true]) (vs := [?vp0_0, ?vp0_1, ?vp0_2, ?vp0_3, ?vp0_4, ?vp0_5, ?vp0_6, ?vp0_7, ?vp0_8, ?vp0_9, ?vp0_10]) (S := fun w' => w' = wr.drew) (by kernel_rfl) (by kernel_rfl) (by kernel_rfl) (by kernel_rfl) (by kernel_rfl) ?hSp ?hchp
          case hSp => exact rfl
          case hchp =>
            refine chain_nil (by kernel_rfl) rfl ?opsp0 ?endp0
            case opsp0 =>
              simp only [OpsAt, fillT, List.setIfInBounds_toArray, List.set_cons_zero, List.set_cons_succ]
              refine ⟨.inl ⟨by rfl, opOk_pure fun wS hS => ?_⟩, ?_⟩
              · ((subst hS; go_simp; try simp (disch := omega) only [wrap64_id])); try (with_reducible rfl)
              refine ⟨.inl ⟨by rfl, opOk_pure fun wS hS => ?_⟩, ?_⟩
              · ((subst hS; go_simp; try simp (disch := omega) only [wrap64_id])); try (with_reducible rfl)
              refine ⟨.inl ⟨by rfl, opOk_pure fun wS hS => ?_⟩, ?_⟩
              · ((subst hS; go_simp; try simp (disch := omega) only [wrap64_id])); try (with_reducible rfl)
              refine ⟨.inl ⟨by rfl, opOk_pure fun wS hS => ?_⟩, ?_⟩
              · ((subst hS; go_simp; try simp (disch := omega) only [wrap64_id])); try (with_reducible rfl)
              refine ⟨.inl ⟨by rfl, opOk_pure fun wS hS => ?_⟩, ?_⟩
              · ((subst hS; go_simp; try simp (disch := omega) only [wrap64_id])); try (with_reducible rfl)
              refine ⟨.inl ⟨by rfl, opOk_pure fun wS hS => ?_⟩, ?_⟩
              · ((subst hS; go_simp; try simp (disch := omega) only [wrap64_id])); try (with_reducible rfl)
              refine ⟨.inl ⟨by rfl, opOk_pure fun wS hS => ?_⟩, ?_⟩
              · ((subst hS; go_simp; try simp (disch := omega) only [wrap64_id])); try (with_reducible rfl)
              refine ⟨.inl ⟨by rfl, opOk_pure fun wS hS => ?_⟩, ?_⟩
              · ((subst hS; go_simp; try simp (disch := omega) only [wrap64_id])); try (with_reducible rfl)
              refine ⟨.inl ⟨by rfl, opOk_pure fun wS hS => ?_⟩, ?_⟩
              · ((subst hS; go_simp; try simp (disch := omega) only [wrap64_id])); try (with_reducible rfl)
              refine ⟨.inl ⟨by rfl, opOk_pure fun wS hS => ?_⟩, ?_⟩
              · ((subst hS; go_simp; try simp (disch := omega) only [wrap64_id])); try (with_reducible rfl)
              refine ⟨.inl ⟨by rfl, opOk_pure fun wS hS => ?_⟩, ?_⟩
              · ((subst hS; go_simp; try simp (disch := omega) only [wrap64_id])); try (with_reducible rfl)
              try trivial
            case endp0 =>
              intro wE hE
              simp only [fillT, List.setIfInBounds_toArray, List.set_cons_zero, List.set_cons_succ]
              rw [hE]
              go_wp2
              go_roundw
              case rel => exact ⟨k + 1, by omega, by go_num, HS.out.drew⟩
              case measure => (simp [intOf]; try omega)
        · obtain rfl : k = x.edges.length := by omega
          go_wp2
          go_ret
          exact ⟨rfl, HS.out.below (i := 0) rfl⟩
theorem WebAt.none (w : World) : WebAt w none 0 none 0 noWeb := ⟨⟨fun _ => ⟨rfl, rfl⟩, (fun ad h => by cases h), Nat.zero_le _⟩, ⟨fun _ => ⟨rfl, rfl⟩, (fun ad h => by cases h), Nat.zero_le _⟩⟩
end Go.Proofs.Ytcfpbemoocegfaa
