/- Walks over the document's slab: Sync, Erase. -/
import Derived.Test.YtofhcdjnnbpkbaaRefAppend
namespace Go.Proofs.Ytofhcdjnnbpkbaa
set_option linter.unusedVariables false
set_option linter.unusedSimpArgs false
set_option linter.unnecessarySimpa false
open Go.RowKit

set_option maxRecDepth 100000 in
set_option maxHeartbeats 1000000 in
theorem rsync_any (w : World) (m : Nat) (st : St) (ok : st.Ok) (F : Nat → Prop) (h : (refA m st).sat F w) :
    Calls Try.prog 25 #[.pointer (some ⟨m, 0, none⟩)] w fun e w' => e = .returned (.int .i64 (syE st)) ∧ ∃ F', (refA m (syS st)).sat F' w' ∧ Moves F F' w w' := by
  obtain ⟨S, L, steps, fuse, down⟩ := st
  obtain ⟨o1, o2, o3, o4, o5⟩ := ok
  have h0 := Sat.ofOne h
  obtain ⟨As, cs, Al, cl, hS⟩ := refA_open h0
  dsimp only [List.cons_append, List.nil_append] at *
  have hk := hS.all
  simp only [allFacts, box_facts, row_facts, cellFacts, Nat.zero_add, Nat.reduceAdd, true_and, and_true] at hk
  have hstep := rstep_any w m ⟨S, L, steps, fuse, down⟩ ⟨o1, o2, o3, o4, o5⟩
  have HT := Lib.hid hstep
  have H0 := Lib.hid h0
  clear h0 hstep h
  cases down with
  | true =>
    go_enter Try.func25, Try.ntmps25
    go_wp2
    go_ret
    exact ⟨rfl, (refA_shut (l := [_]) hS).toMoves⟩
  | false =>
    have e1 : syE ⟨S, L, steps, fuse, false⟩ = stE fuse := rfl
    have e2 : syS ⟨S, L, steps, fuse, false⟩ = ⟨if fuse = 0 then S else S ++ L, if fuse = 0 then L else [], stS steps fuse, stF fuse, stD fuse false⟩ := rfl
    rw [e1, e2]
    clear e1 e2
    go_enter Try.func25, Try.ntmps25
    go_wp2_with fail
    refine (Sat.call1 (i := 0) H0.out rfl (fun F hF _ => HT.out F hF)).mono ?_
    clear hS hk
    rintro e w2 ⟨rfl, h2⟩
    simp only [List.set_cons_zero, rstp] at h2
    obtain ⟨As, cs, Al, cl, hS⟩ := refA_open h2
    dsimp only [List.cons_append, List.nil_append] at hS
    have hk := hS.all
    simp only [allFacts, box_facts, row_facts, emp_facts, cellFacts, Nat.zero_add, Nat.reduceAdd, true_and, and_true] at hk
    rcases (show fuse = 0 ∨ fuse ≠ 0 by omega) with h0 | h0
    · subst h0
      have e0 : rpow ⟨S, L, steps, 0, false⟩ = false := rfl
      rw [e0]
      clear e0
      go_wp2
      go_ret
      exact ⟨rfl, h2.toMoves⟩
    · have e0 : rpow ⟨S, L, steps, fuse, false⟩ = true := by unfold rpow; simp [h0]
      have e3 : stE fuse = 0 := if_neg h0
      rw [e0]
      have E3 := Lib.hid e3
      clear e0 e3 h2
      have hS0 := Lib.hid hS.drew
      clear hS
      go_wp2_with fail
      refine region_chain (E := [1, 6, 11, 14]) (kn := [true, false, true, true, true, true, false, true, true, true, true, false, false, false, false]) (mask := [true, false, true, true, true, true, false, true, true, true, true, false, false, false, false]) (vs := [?vr0_0, undef, ?vr0_2, ?vr0_3, ?vr0_4, ?vr0_5, undef, ?vr0_7, ?vr0_8, ?vr0_9, ?vr0_10, undef, undef, undef, undef]) (S := fun w' => w' = w2.drew) (by kernel_rfl) (by kernel_rfl) (by kernel_rfl) (by kernel_rfl) (by kernel_rfl) ?hSr ?hchr
      case hSr => exact rfl
      case hchr =>
        refine chain_cons _ (by kernel_rfl) rfl rfl ?opsr0 ?wantr0 ?effr0
        case opsr0 =>
          simp only [OpsAt, fillT, List.setIfInBounds_toArray, List.set_cons_zero, List.set_cons_succ]
          refine ⟨.inl ⟨by rfl, opOk_pure fun wS hS => ?_⟩, ?_⟩
          · ((subst hS; go_simp; try simp (disch := omega) only [wrap64_id])); try (with_reducible rfl)
          refine ⟨.inl ⟨by rfl, opOk_pure fun wS hS => ?_⟩, ?_⟩
          · ((subst hS; go_simp; try simp (disch := omega) only [wrap64_id])); try (with_reducible rfl)
          refine ⟨.inl ⟨by rfl, opOk_pure fun wS hS => ?_⟩, ?_⟩
          · ((subst hS; go_simp; try simp (disch := omega) only [wrap64_id])); try (with_reducible rfl)
          refine ⟨.inl ⟨by rfl, opOk_pure fun wS hS => ?_⟩, ?_⟩
          · ((subst hS; go_simp; try simp (disch := omega) only [wrap64_id])); try (with_reducible rfl)
          refine ⟨.inl ⟨by rfl, opOk_pure fun wS hS => ?_⟩, ?_⟩
          · ((subst hS; go_simp; try simp (disch := omega) only [wrap64_id])); try (with_reducible rfl)
          refine ⟨.inl ⟨by rfl, opOk_pure fun wS hS => ?_⟩, ?_⟩
          · ((subst hS; go_simp; try simp (disch := omega) only [wrap64_id])); try (with_reducible rfl)
          refine ⟨.inl ⟨by rfl, opOk_pure fun wS hS => ?_⟩, ?_⟩
          · ((subst hS; go_simp; try simp (disch := omega) only [wrap64_id])); try (with_reducible rfl)
          refine ⟨.inl ⟨by rfl, opOk_pure fun wS hS => ?_⟩, ?_⟩
          · ((subst hS; go_simp; try simp (disch := omega) only [wrap64_id])); try (with_reducible rfl)
          refine ⟨.inl ⟨by rfl, opOk_pure fun wS hS => ?_⟩, ?_⟩
          · ((subst hS; go_simp; try simp (disch := omega) only [wrap64_id])); try (with_reducible rfl)
          try trivial
        case wantr0 => rfl
        case effr0 =>
          intro wS hS
          simp only [fillT, List.setIfInBounds_toArray, List.set_cons_zero, List.set_cons_succ]
          rw [hS]
          refine eff_run (w' := w2.drew.alloc (.cells #[] 5)) (by go_simp; try rfl) ?_
          have hm := hS0.out.made #[] 5 1 0 0 rfl (Nat.le_refl _) (Nat.zero_le _)
          simp only [List.cons_append, List.nil_append] at hm
          have hkm := hm.all
          simp only [allFacts, box_facts, row_facts, emp_facts, cellFacts, Nat.zero_add, Nat.reduceAdd, true_and, and_true] at hkm
          have HM := Lib.hid hm
          clear hm
          refine ⟨_, [true, true, true, true, true, true, false, true, true, true, true, false, false, false, false], [true, false, true, true, true, true, false, true, true, true, true, false, false, false, false], [], [?vr1_0, (.slice (some ⟨w2.drew.heap.size, 0, none⟩) 0 0), ?vr1_2, ?vr1_3, ?vr1_4, ?vr1_5, undef, ?vr1_7, ?vr1_8, ?vr1_9, ?vr1_10, undef, undef, undef, undef], fun w' => w' = w2.drew.alloc (.cells #[] 5), rfl, rfl, ?samer0, by kernel_rfl, ?hSr0, ?nxr0⟩
          case samer0 =>
            refine And.intro ?_ ?_
            · with_reducible rfl
            refine And.intro ?_ ?_
            · with_reducible rfl
            refine And.intro ?_ ?_
            · with_reducible rfl
            refine And.intro ?_ ?_
            · with_reducible rfl
            refine And.intro ?_ ?_
            · with_reducible rfl
            refine And.intro ?_ ?_
            · with_reducible rfl
            refine And.intro ?_ ?_
            · with_reducible rfl
            refine And.intro ?_ ?_
            · with_reducible rfl
            refine And.intro ?_ ?_
            · with_reducible rfl
            trivial
          case hSr0 => rfl
          case nxr0 =>
            refine chain_cons _ (by kernel_rfl) rfl rfl ?opsr1 ?wantr1 ?effr1
            case opsr1 =>
              simp only [OpsAt, fillT, List.setIfInBounds_toArray, List.set_cons_zero, List.set_cons_succ]
              refine ⟨.inl ⟨by rfl, opOk_pure fun wS hS => ?_⟩, ?_⟩
              · ((subst hS; go_simp; try simp (disch := omega) only [wrap64_id])); try (with_reducible rfl)
              refine ⟨.inl ⟨by rfl, opOk_pure fun wS hS => ?_⟩, ?_⟩
              · ((subst hS; go_simp; try simp (disch := omega) only [wrap64_id])); try (with_reducible rfl)
              refine ⟨.inl ⟨by rfl, opOk_pure fun wS hS => ?_⟩, ?_⟩
              · ((subst hS; go_simp; try simp (disch := omega) only [wrap64_id])); try (with_reducible rfl)
              refine ⟨.inl ⟨by rfl, opOk_pure fun wS hS => ?_⟩, ?_⟩
              · ((subst hS; go_simp; try simp (disch := omega) only [wrap64_id])); try (with_reducible rfl)
              refine ⟨.inl ⟨by rfl, opOk_pure fun wS hS => ?_⟩, ?_⟩
              · ((subst hS; go_simp; try simp (disch := omega) only [wrap64_id])); try (with_reducible rfl)
              refine ⟨.inl ⟨by rfl, opOk_pure fun wS hS => ?_⟩, ?_⟩
              · ((subst hS; go_simp; try simp (disch := omega) only [wrap64_id])); try (with_reducible rfl)
              refine ⟨.inl ⟨by rfl, opOk_pure fun wS hS => ?_⟩, ?_⟩
              · ((subst hS; go_simp; try simp (disch := omega) only [wrap64_id])); try (with_reducible rfl)
              refine ⟨.inl ⟨by rfl, opOk_pure fun wS hS => ?_⟩, ?_⟩
              · ((subst hS; go_simp; try simp (disch := omega) only [wrap64_id])); try (with_reducible rfl)
              refine ⟨.inl ⟨by rfl, opOk_pure fun wS hS => ?_⟩, ?_⟩
              · ((subst hS; go_simp; try simp (disch := omega) only [wrap64_id])); try (with_reducible rfl)
              try trivial
            case wantr1 => rfl
            case effr1 =>
              intro wS hS
              simp only [fillT, List.setIfInBounds_toArray, List.set_cons_zero, List.set_cons_succ]
              rw [hS]
              refine wp_append_sat _ _ 25 rfl HM.out 4 5 (.int .u8 0) 1 1 Try.underlying25 info_u8 rfl (by decide) (.slice (some ⟨w2.drew.heap.size, 0, none⟩) 0 0) 0 [] ?a0 rfl As S.length cs (bytesOf S) ?a1 (row_none (HM.out.rowOf (i := 2) rfl)) ?a2 (src_row (HM.out.rowOf (i := 2) rfl)) ?a3 ?a4 ?a5 ?a6
              try (case a0 => go_simp)
              try (case a1 => go_simp)
              try (case a2 => simp [bytesOf])
              case a3 => intro u hu; simp [bytesOf] at hu; obtain ⟨x, _, rfl⟩ := hu; rfl
              case a4 => unfold maxLen; omega
              case a5 => omega
              case a6 =>
                intro A1 c1 w3 h3 hA1 hg1
                try simp only [List.cons_append, List.nil_append, List.set_cons_succ, List.set_cons_zero, Nat.zero_add] at h3 hA1
                have hk3 := h3.all
                simp only [allFacts, box_facts, row_facts, emp_facts, cellFacts, Nat.zero_add, Nat.reduceAdd, true_and, and_true] at hk3
                clear hkm hA1 hg1
                simp only [Nat.zero_add]
                refine ⟨_, [true, true, true, true, true, true, true, true, true, true, true, false, false, false, false], [true, false, false, false, false, false, false, true, true, true, true, false, false, false, false], [5, 4, 3, 2], [?vr2_0, (.slice (some ⟨w2.drew.heap.size, 0, none⟩) 0 0), ?vr2_2, ?vr2_3, ?vr2_4, ?vr2_5, (.slice A1 S.length c1), ?vr2_7, ?vr2_8, ?vr2_9, ?vr2_10, undef, undef, undef, undef], fun w' => w' = w3, rfl, rfl, ?samer1, by kernel_rfl, ?hSr1, ?nxr1⟩
                case samer1 =>
                  refine And.intro ?_ ?_
                  · with_reducible rfl
                  refine And.intro ?_ ?_
                  · with_reducible rfl
                  refine And.intro ?_ ?_
                  · with_reducible rfl
                  refine And.intro ?_ ?_
                  · with_reducible rfl
                  refine And.intro ?_ ?_
                  · with_reducible rfl
                  refine And.intro ?_ ?_
                  · with_reducible rfl
                  refine And.intro ?_ ?_
                  · with_reducible rfl
                  refine And.intro ?_ ?_
                  · with_reducible rfl
                  refine And.intro ?_ ?_
                  · with_reducible rfl
                  refine And.intro ?_ ?_
                  · with_reducible rfl
                  trivial
                case hSr1 => rfl
                case nxr1 =>
                  refine chain_cons _ (by kernel_rfl) rfl rfl ?opsr2 ?wantr2 ?effr2
                  case opsr2 =>
                    simp only [OpsAt, fillT, List.setIfInBounds_toArray, List.set_cons_zero, List.set_cons_succ]
                    refine ⟨.inl ⟨by rfl, opOk_pure fun wS hS => ?_⟩, ?_⟩
                    · ((subst hS; go_simp; try simp (disch := omega) only [wrap64_id])); try (with_reducible rfl)
                    refine ⟨.inl ⟨by rfl, opOk_pure fun wS hS => ?_⟩, ?_⟩
                    · ((subst hS; go_simp; try simp (disch := omega) only [wrap64_id])); try (with_reducible rfl)
                    refine ⟨.inl ⟨by rfl, opOk_pure fun wS hS => ?_⟩, ?_⟩
                    · ((subst hS; go_simp; try simp (disch := omega) only [wrap64_id])); try (with_reducible rfl)
                    refine ⟨.inl ⟨by rfl, opOk_pure fun wS hS => ?_⟩, ?_⟩
                    · ((subst hS; go_simp; try simp (disch := omega) only [wrap64_id])); try (with_reducible rfl)
                    refine ⟨.inl ⟨by rfl, opOk_pure fun wS hS => ?_⟩, ?_⟩
                    · ((subst hS; go_simp; try simp (disch := omega) only [wrap64_id])); try (with_reducible rfl)
                    try trivial
                  case wantr2 => rfl
                  case effr2 =>
                    intro wS hS
                    simp only [fillT, List.setIfInBounds_toArray, List.set_cons_zero, List.set_cons_succ]
                    rw [hS]
                    refine wp_append_sat _ _ 25 rfl h3 4 5 (.int .u8 0) 1 1 Try.underlying25 info_u8 rfl (by decide) (.slice A1 S.length c1) S.length (bytesOf S) ?b0 rfl Al L.length cl (bytesOf L) ?b1 (row_none (h3.rowOf (i := 3) rfl)) ?b2 (src_row (h3.rowOf (i := 3) rfl)) ?b3 ?b4 ?b5 ?b6
                    try (case b0 => go_simp)
                    try (case b1 => go_simp)
                    try (case b2 => simp [bytesOf])
                    case b3 => intro u hu; simp [bytesOf] at hu; obtain ⟨x, _, rfl⟩ := hu; rfl
                    case b4 => unfold maxLen; omega
                    case b5 => omega
                    case b6 =>
                      intro A2 c2 w4 h4 hA2 hg2
                      try simp only [List.cons_append, List.nil_append, List.set_cons_succ, List.set_cons_zero, Nat.zero_add] at h4 hA2
                      have hk4 := h4.all
                      simp only [allFacts, box_facts, row_facts, emp_facts, cellFacts, Nat.zero_add, Nat.reduceAdd, true_and, and_true] at hk4
                      clear hk3 hA2 hg2
                      refine ⟨_, [true, true, true, true, true, true, true, true, true, true, true, true, true, true, false], [true, false, false, false, false, false, false, false, false, false, false, false, true, true, false], [10, 9, 8, 7], [?vr3_0, (.slice (some ⟨w2.drew.heap.size, 0, none⟩) 0 0), ?vr3_2, ?vr3_3, ?vr3_4, ?vr3_5, (.slice A1 S.length c1), ?vr3_7, ?vr3_8, ?vr3_9, ?vr3_10, (.slice A2 (S.length + L.length) c2), ?vr3_12, ?vr3_13, undef], fun w' => w' = w4, rfl, rfl, ?samer2, by kernel_rfl, ?hSr2, ?nxr2⟩
                      case samer2 =>
                        refine And.intro ?_ ?_
                        · with_reducible rfl
                        refine And.intro ?_ ?_
                        · with_reducible rfl
                        refine And.intro ?_ ?_
                        · with_reducible rfl
                        refine And.intro ?_ ?_
                        · with_reducible rfl
                        refine And.intro ?_ ?_
                        · with_reducible rfl
                        refine And.intro ?_ ?_
                        · with_reducible rfl
                        refine And.intro ?_ ?_
                        · with_reducible rfl
                        refine And.intro ?_ ?_
                        · with_reducible rfl
                        refine And.intro ?_ ?_
                        · with_reducible rfl
                        refine And.intro ?_ ?_
                        · with_reducible rfl
                        refine And.intro ?_ ?_
                        · with_reducible rfl
                        trivial
                      case hSr2 => rfl
                      case nxr2 =>
                        refine chain_cons _ (by kernel_rfl) rfl rfl ?opsr3 ?wantr3 ?effr3
                        case opsr3 =>
                          simp only [OpsAt, fillT, List.setIfInBounds_toArray, List.set_cons_zero, List.set_cons_succ]
                          refine ⟨.inl ⟨by rfl, opOk_pure fun wS hS => ?_⟩, ?_⟩
                          · ((subst hS; go_simp; try simp (disch := omega) only [wrap64_id])); try (with_reducible rfl)
                          refine ⟨.inl ⟨by rfl, opOk_pure fun wS hS => ?_⟩, ?_⟩
                          · ((subst hS; go_simp; try simp (disch := omega) only [wrap64_id])); try (with_reducible rfl)
                          refine ⟨.inl ⟨by rfl, opOk_pure fun wS hS => ?_⟩, ?_⟩
                          · ((subst hS; go_simp; try simp (disch := omega) only [wrap64_id])); try (with_reducible rfl)
                          try trivial
                        case wantr3 => rfl
                        case effr3 =>
                          intro wS hS
                          simp only [fillT, List.setIfInBounds_toArray, List.set_cons_zero, List.set_cons_succ]
                          rw [hS]
                          refine eff_skip (w' := w4.setCell ⟨m, 0, none⟩ (.slice A2 (S.length + L.length) c2)) (by go_simp; try rfl) ?_
                          have h5 := (h4.set 0 rfl 0 (.slice A2 (S.length + L.length) c2)).pick [0, 1, 4, 3] (by decide)
                          rw [bytes_app] at h5
                          refine ⟨_, [true, true, true, true, true, true, true, true, true, true, true, true, true, true, true], [false, false, false, false, false, false, false, false, false, false, false, false, false, false, false], [13, 0, 12], [?vr4_0, (.slice (some ⟨w2.drew.heap.size, 0, none⟩) 0 0), ?vr4_2, ?vr4_3, ?vr4_4, ?vr4_5, (.slice A1 S.length c1), ?vr4_7, ?vr4_8, ?vr4_9, ?vr4_10, (.slice A2 (S.length + L.length) c2), ?vr4_12, ?vr4_13, undef], fun w' => w' = w4.setCell ⟨m, 0, none⟩ (.slice A2 (S.length + L.length) c2), rfl, rfl, ?samer3, by kernel_rfl, ?hSr3, ?nxr3⟩
                          case samer3 =>
                            refine And.intro ?_ ?_
                            · with_reducible rfl
                            refine And.intro ?_ ?_
                            · with_reducible rfl
                            refine And.intro ?_ ?_
                            · with_reducible rfl
                            refine And.intro ?_ ?_
                            · with_reducible rfl
                            refine And.intro ?_ ?_
                            · with_reducible rfl
                            refine And.intro ?_ ?_
                            · with_reducible rfl
                            refine And.intro ?_ ?_
                            · with_reducible rfl
                            refine And.intro ?_ ?_
                            · with_reducible rfl
                            refine And.intro ?_ ?_
                            · with_reducible rfl
                            refine And.intro ?_ ?_
                            · with_reducible rfl
                            refine And.intro ?_ ?_
                            · with_reducible rfl
                            refine And.intro ?_ ?_
                            · with_reducible rfl
                            refine And.intro ?_ ?_
                            · with_reducible rfl
                            refine And.intro ?_ ?_
                            · with_reducible rfl
                            trivial
                          case hSr3 => rfl
                          case nxr3 =>
                            refine chain_nil (by kernel_rfl) rfl ?opsr4 ?endr4
                            case opsr4 =>
                              simp only [OpsAt, fillT, List.setIfInBounds_toArray, List.set_cons_zero, List.set_cons_succ]
                              try trivial
                            case endr4 =>
                              intro wE hE
                              simp only [fillT, List.setIfInBounds_toArray, List.set_cons_zero, List.set_cons_succ]
                              rw [hE]
                              go_wp2
                              go_ret
                              rw [E3.out]
                              try simp only [if_neg h0]
                              exact ⟨rfl, (refA_shut (l := [_]) ((h5.set 0 rfl 1 (.slice none 0 0)).nilRow 5 1 |>.pick [0, 1, 2, 4] (by decide))).toMoves⟩
end Go.Proofs.Ytofhcdjnnbpkbaa
