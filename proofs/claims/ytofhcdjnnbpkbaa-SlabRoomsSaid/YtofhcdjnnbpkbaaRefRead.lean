/- Walk over the document's slab: Read. -/
import Derived.Test.YtofhcdjnnbpkbaaRefErase
namespace Go.Proofs.Ytofhcdjnnbpkbaa
set_option linter.unusedVariables false
set_option linter.unusedSimpArgs false
set_option linter.unnecessarySimpa false
open Go.RowKit

set_option maxRecDepth 100000 in
set_option maxHeartbeats 1000000 in
theorem rread_any (w : World) (m : Nat) (st : St) (ok : st.Ok) (F : Nat → Prop) (h : (refA m st).sat F w) :
    Calls Try.prog 28 #[.pointer (some ⟨m, 0, none⟩)] w fun e w' => ∃ v, e = .returned (.tuple #[v, .int .i64 (upE st.down)]) ∧ w'.ownsRow w.heap.size 5 1 v (rdS st).length (bytesOf (rdS st)) ∧ Below w.heap.size w w' := by
  obtain ⟨S, L, steps, fuse, down⟩ := st
  obtain ⟨o1, o2, o3, o4, o5⟩ := ok
  have h0 := Sat.ofOne h
  obtain ⟨As, cs, Al, cl, hS⟩ := refA_open h0
  dsimp only [List.cons_append, List.nil_append] at *
  have hk := hS.all
  simp only [allFacts, box_facts, row_facts, cellFacts, Nat.zero_add, Nat.reduceAdd, true_and, and_true] at hk
  have hk0 := hS.all
  simp only [allFacts, box_facts] at hk0
  obtain ⟨⟨hcf, hlt⟩, -⟩ := hk0
  have HC := Lib.hid hcf
  have h1 := Sat.pushRest w
  have H1 := Lib.hid h1.drew
  have HS := Lib.hid (src_row (hS.rowOf (i := 2) rfl))
  have HL := Lib.hid (src_row (hS.rowOf (i := 3) rfl))
  have HSn := Lib.hid (row_none (hS.rowOf (i := 2) rfl))
  have HLn := Lib.hid (row_none (hS.rowOf (i := 3) rfl))
  clear h0 h hcf h1 hS
  cases down with
  | true =>
    go_enter Try.func28, Try.ntmps28
    go_wp2
    first | go_ret | go_ret2
    exact ⟨_, rfl, World.ownsRow_nil _ _ _ _, Below.refl _ _⟩
  | false =>
    go_enter Try.func28, Try.ntmps28
    go_wp2_with fail
    refine region_chain (E := [0, 5, 10]) (kn := [false, true, true, true, true, false, true, true, true, true, false, false, false]) (mask := [false, true, true, true, true, false, true, true, true, true, false, false, false]) (vs := [undef, ?vr0_1, ?vr0_2, ?vr0_3, ?vr0_4, undef, ?vr0_6, ?vr0_7, ?vr0_8, ?vr0_9, undef, undef, undef]) (S := fun w' => w' = w.drew) (by kernel_rfl) (by kernel_rfl) (by kernel_rfl) (by kernel_rfl) (by kernel_rfl) ?hSr ?hchr
    case hSr => exact rfl
    case hchr =>
      refine chain_cons _ (by kernel_rfl) rfl rfl ?opsr0 ?wantr0 ?effr0
      case opsr0 =>
        simp only [OpsAt, fillT, List.setIfInBounds_toArray, List.set_cons_zero, List.set_cons_succ]
        refine ⟨.inl ⟨by rfl, opOk_pure fun wS hS => ?_⟩, ?_⟩
        · ((subst hS; go_simp; try simp (disch := omega) only [wrap64_id])); try (with_reducible rfl)
        refine ⟨.inl ⟨by rfl, opOk_pure fun wS hS => ?_⟩, ?_⟩
        · ((subst hS; go_simp; try simp (disch := omega) only [wrap64_id])); try (with_reducible rfl)
        refine ⟨.inl ⟨by rfl, opOk_pure fun wS hS => ?_⟩, ?_⟩
        · ((subst hS; go_simp; try simp (disch := omega) only [wrap64_id])); try (with_reducible rfl)
        refine ⟨.inl ⟨by rfl, opOk_pure fun wS hS => ?_⟩, ?_⟩
        · ((subst hS; go_simp; try simp (disch := omega) only [wrap64_id])); try (with_reducible rfl)
        refine ⟨.inl ⟨by rfl, opOk_pure fun wS hS => ?_⟩, ?_⟩
        · ((subst hS; go_simp; try simp (disch := omega) only [wrap64_id])); try (with_reducible rfl)
        refine ⟨.inl ⟨by rfl, opOk_pure fun wS hS => ?_⟩, ?_⟩
        · ((subst hS; go_simp; try simp (disch := omega) only [wrap64_id])); try (with_reducible rfl)
        refine ⟨.inl ⟨by rfl, opOk_pure fun wS hS => ?_⟩, ?_⟩
        · ((subst hS; go_simp; try simp (disch := omega) only [wrap64_id])); try (with_reducible rfl)
        refine ⟨.inl ⟨by rfl, opOk_pure fun wS hS => ?_⟩, ?_⟩
        · ((subst hS; go_simp; try simp (disch := omega) only [wrap64_id])); try (with_reducible rfl)
        try trivial
      case wantr0 => rfl
      case effr0 =>
        intro wS hS
        simp only [fillT, List.setIfInBounds_toArray, List.set_cons_zero, List.set_cons_succ]
        rw [hS]
        refine eff_run (w' := w.drew.alloc (.cells #[] 5)) (by go_simp; try rfl) ?_
        have hm := H1.out.made #[] 5 1 0 0 rfl (Nat.le_refl _) (Nat.zero_le _)
        simp only [List.cons_append, List.nil_append] at hm
        have q1 := oldCells hm (i := 0) rfl hlt HC.out
        simp only [allFacts, box_facts, row_facts, emp_facts, cellFacts, Nat.zero_add, Nat.reduceAdd, true_and, and_true] at q1
        have HM := Lib.hid hm
        clear hm
        refine ⟨_, [true, true, true, true, true, false, true, true, true, true, false, false, false], [false, true, true, true, true, false, true, true, true, true, false, false, false], [], [(.slice (some ⟨w.drew.heap.size, 0, none⟩) 0 0), ?vr1_1, ?vr1_2, ?vr1_3, ?vr1_4, undef, ?vr1_6, ?vr1_7, ?vr1_8, ?vr1_9, undef, undef, undef], fun w' => w' = w.drew.alloc (.cells #[] 5), rfl, rfl, ?samer0, by kernel_rfl, ?hSr0, ?nxr0⟩
        case samer0 =>
          refine And.intro ?_ ?_
          · with_reducible rfl
          refine And.intro ?_ ?_
          · with_reducible rfl
          refine And.intro ?_ ?_
          · with_reducible rfl
          refine And.intro ?_ ?_
          · with_reducible rfl
          refine And.intro ?_ ?_
          · with_reducible rfl
          refine And.intro ?_ ?_
          · with_reducible rfl
          refine And.intro ?_ ?_
          · with_reducible rfl
          refine And.intro ?_ ?_
          · with_reducible rfl
          trivial
        case hSr0 => rfl
        case nxr0 =>
          refine chain_cons _ (by kernel_rfl) rfl rfl ?opsr1 ?wantr1 ?effr1
          case opsr1 =>
            simp only [OpsAt, fillT, List.setIfInBounds_toArray, List.set_cons_zero, List.set_cons_succ]
            refine ⟨.inl ⟨by rfl, opOk_pure fun wS hS => ?_⟩, ?_⟩
            · ((subst hS; go_simp; try simp (disch := omega) only [wrap64_id])); try (with_reducible rfl)
            refine ⟨.inl ⟨by rfl, opOk_pure fun wS hS => ?_⟩, ?_⟩
            · ((subst hS; go_simp; try simp (disch := omega) only [wrap64_id])); try (with_reducible rfl)
            refine ⟨.inl ⟨by rfl, opOk_pure fun wS hS => ?_⟩, ?_⟩
            · ((subst hS; go_simp; try simp (disch := omega) only [wrap64_id])); try (with_reducible rfl)
            refine ⟨.inl ⟨by rfl, opOk_pure fun wS hS => ?_⟩, ?_⟩
            · ((subst hS; go_simp; try simp (disch := omega) only [wrap64_id])); try (with_reducible rfl)
            refine ⟨.inl ⟨by rfl, opOk_pure fun wS hS => ?_⟩, ?_⟩
            · ((subst hS; go_simp; try simp (disch := omega) only [wrap64_id])); try (with_reducible rfl)
            refine ⟨.inl ⟨by rfl, opOk_pure fun wS hS => ?_⟩, ?_⟩
            · ((subst hS; go_simp; try simp (disch := omega) only [wrap64_id])); try (with_reducible rfl)
            refine ⟨.inl ⟨by rfl, opOk_pure fun wS hS => ?_⟩, ?_⟩
            · ((subst hS; go_simp; try simp (disch := omega) only [wrap64_id])); try (with_reducible rfl)
            refine ⟨.inl ⟨by rfl, opOk_pure fun wS hS => ?_⟩, ?_⟩
            · ((subst hS; go_simp; try simp (disch := omega) only [wrap64_id])); try (with_reducible rfl)
            try trivial
          case wantr1 => rfl
          case effr1 =>
            intro wS hS
            simp only [fillT, List.setIfInBounds_toArray, List.set_cons_zero, List.set_cons_succ]
            rw [hS]
            refine wp_append_sat _ _ 25 rfl HM.out 1 5 (.int .u8 0) 1 1 Try.underlying25 info_u8 rfl (by decide) (.slice (some ⟨w.drew.heap.size, 0, none⟩) 0 0) 0 [] ?a0 rfl As S.length cs (bytesOf S) ?a1 HSn.out ?a2 (src_rest HM.out (i := 0) rfl HS.out (src_lt HS.out)) ?a3 ?a4 ?a5 ?a6
            try (case a0 => go_simp)
            try (case a1 => go_simp)
            try (case a2 => simp [bytesOf])
            case a3 => intro u hu; simp [bytesOf] at hu; obtain ⟨x, _, rfl⟩ := hu; rfl
            case a4 => unfold maxLen; omega
            case a5 => omega
            case a6 =>
              intro A1 c1 w3 h3 hA1 hg1
              try simp only [List.cons_append, List.nil_append, List.set_cons_succ, List.set_cons_zero, Nat.zero_add] at h3 hA1
              have q2 := oldCells h3 (i := 0) rfl hlt HC.out
              simp only [allFacts, box_facts, row_facts, emp_facts, cellFacts, Nat.zero_add, Nat.reduceAdd, true_and, and_true] at q2
              clear q1 hA1 hg1
              simp only [Nat.zero_add]
              refine ⟨_, [true, true, true, true, true, true, true, true, true, true, false, false, false], [false, false, false, false, false, false, true, true, true, true, false, false, false], [4, 3, 2, 1], [(.slice (some ⟨w.drew.heap.size, 0, none⟩) 0 0), ?vr2_1, ?vr2_2, ?vr2_3, ?vr2_4, (.slice A1 S.length c1), ?vr2_6, ?vr2_7, ?vr2_8, ?vr2_9, undef, undef, undef], fun w' => w' = w3, rfl, rfl, ?samer1, by kernel_rfl, ?hSr1, ?nxr1⟩
              case samer1 =>
                refine And.intro ?_ ?_
                · with_reducible rfl
                refine And.intro ?_ ?_
                · with_reducible rfl
                refine And.intro ?_ ?_
                · with_reducible rfl
                refine And.intro ?_ ?_
                · with_reducible rfl
                refine And.intro ?_ ?_
                · with_reducible rfl
                refine And.intro ?_ ?_
                · with_reducible rfl
                refine And.intro ?_ ?_
                · with_reducible rfl
                refine And.intro ?_ ?_
                · with_reducible rfl
                refine And.intro ?_ ?_
                · with_reducible rfl
                trivial
              case hSr1 => rfl
              case nxr1 =>
                refine chain_cons _ (by kernel_rfl) rfl rfl ?opsr2 ?wantr2 ?effr2
                case opsr2 =>
                  simp only [OpsAt, fillT, List.setIfInBounds_toArray, List.set_cons_zero, List.set_cons_succ]
                  refine ⟨.inl ⟨by rfl, opOk_pure fun wS hS => ?_⟩, ?_⟩
                  · ((subst hS; go_simp; try simp (disch := omega) only [wrap64_id])); try (with_reducible rfl)
                  refine ⟨.inl ⟨by rfl, opOk_pure fun wS hS => ?_⟩, ?_⟩
                  · ((subst hS; go_simp; try simp (disch := omega) only [wrap64_id])); try (with_reducible rfl)
                  refine ⟨.inl ⟨by rfl, opOk_pure fun wS hS => ?_⟩, ?_⟩
                  · ((subst hS; go_simp; try simp (disch := omega) only [wrap64_id])); try (with_reducible rfl)
                  refine ⟨.inl ⟨by rfl, opOk_pure fun wS hS => ?_⟩, ?_⟩
                  · ((subst hS; go_simp; try simp (disch := omega) only [wrap64_id])); try (with_reducible rfl)
                  try trivial
                case wantr2 => rfl
                case effr2 =>
                  intro wS hS
                  simp only [fillT, List.setIfInBounds_toArray, List.set_cons_zero, List.set_cons_succ]
                  rw [hS]
                  refine wp_append_sat _ _ 25 rfl h3 1 5 (.int .u8 0) 1 1 Try.underlying25 info_u8 rfl (by decide) (.slice A1 S.length c1) S.length (bytesOf S) ?b0 rfl Al L.length cl (bytesOf L) ?b1 HLn.out ?b2 (src_rest h3 (i := 0) rfl HL.out (src_lt HL.out)) ?b3 ?b4 ?b5 ?b6
                  try (case b0 => go_simp)
                  try (case b1 => go_simp)
                  try (case b2 => simp [bytesOf])
                  case b3 => intro u hu; simp [bytesOf] at hu; obtain ⟨x, _, rfl⟩ := hu; rfl
                  case b4 => unfold maxLen; omega
                  case b5 => omega
                  case b6 =>
                    intro A2 c2 w4 h4 hA2 hg2
                    try simp only [List.cons_append, List.nil_append, List.set_cons_succ, List.set_cons_zero, Nat.zero_add] at h4 hA2
                    rw [bytes_app] at h4
                    have H4 := Lib.hid h4
                    clear q2 hA2 hg2 h4
                    refine ⟨_, [true, true, true, true, true, true, true, true, true, true, true, true, true], [false, false, false, false, false, false, false, false, false, false, false, true, true], [9, 8, 7, 6], [(.slice (some ⟨w.drew.heap.size, 0, none⟩) 0 0), ?vr3_1, ?vr3_2, ?vr3_3, ?vr3_4, (.slice A1 S.length c1), ?vr3_6, ?vr3_7, ?vr3_8, ?vr3_9, (.slice A2 (S.length + L.length) c2), ?vr3_11, ?vr3_12], fun w' => w' = w4, rfl, rfl, ?samer2, by kernel_rfl, ?hSr2, ?nxr2⟩
                    case samer2 =>
                      refine And.intro ?_ ?_
                      · with_reducible rfl
                      refine And.intro ?_ ?_
                      · with_reducible rfl
                      refine And.intro ?_ ?_
                      · with_reducible rfl
                      refine And.intro ?_ ?_
                      · with_reducible rfl
                      refine And.intro ?_ ?_
                      · with_reducible rfl
                      refine And.intro ?_ ?_
                      · with_reducible rfl
                      refine And.intro ?_ ?_
                      · with_reducible rfl
                      refine And.intro ?_ ?_
                      · with_reducible rfl
                      refine And.intro ?_ ?_
                      · with_reducible rfl
                      refine And.intro ?_ ?_
                      · with_reducible rfl
                      trivial
                    case hSr2 => rfl
                    case nxr2 =>
                      refine chain_nil (by kernel_rfl) rfl ?opsr3 ?endr3
                      case opsr3 =>
                        simp only [OpsAt, fillT, List.setIfInBounds_toArray, List.set_cons_zero, List.set_cons_succ]
                        refine ⟨.inl ⟨by rfl, opOk_pure fun wS hS => ?_⟩, ?_⟩
                        · ((subst hS; go_simp; try simp (disch := omega) only [wrap64_id])); try (with_reducible rfl)
                        refine ⟨.inl ⟨by rfl, opOk_pure fun wS hS => ?_⟩, ?_⟩
                        · ((subst hS; go_simp; try simp (disch := omega) only [wrap64_id])); try (with_reducible rfl)
                        try trivial
                      case endr3 =>
                        intro wE hE
                        simp only [fillT, List.setIfInBounds_toArray, List.set_cons_zero, List.set_cons_succ]
                        rw [hE]
                        go_wp2
                        first | go_ret | go_ret2
                        exact ⟨_, rfl, (by have := rowOwn H4.out (i := 1) rfl (j := 0) rfl (by decide); unfold rdS; simpa using this), H4.out.below (i := 0) rfl⟩
end Go.Proofs.Ytofhcdjnnbpkbaa
