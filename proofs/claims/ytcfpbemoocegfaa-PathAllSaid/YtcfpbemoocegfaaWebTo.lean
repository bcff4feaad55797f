/- Walks over webs: as the program's, as the document's. -/
import Derived.Test.YtcfpbemoocegfaaWeb
namespace Go.Proofs.Ytcfpbemoocegfaa
set_option linter.unusedVariables false
set_option linter.unusedSimpArgs false
set_option linter.unnecessarySimpa false
open Go.RowKit

theorem to06_any (w : World) (x y : Int) : Calls Try.prog 53 #[.agg #[.int .i64 x, .int .i64 y]] w fun e w' => e = .returned (.agg #[.int .i64 x, .int .i64 y]) ∧ Below w.heap.size w w' := by
  go_enter Try.func53, Try.ntmps53
  go_wp2
  refine bodyPost_ret (v := .agg #[.int .i64 x, .int .i64 y]) (by simp [results, Try.results53, go_sem]) rfl ⟨rfl, ?_⟩
  exact ((Below.refl _ _).alloc (Nat.le_refl _) _).alloc (by simp) _
theorem info_sp : (Try.prog.info? 107).map (fun i => (i.zero, i.size, i.bytes)) = some (some (.agg #[.int .i64 0, .int .i64 0]), 2, 16) := by kernel_rfl
theorem info_rs : (Try.prog.info? 106).map (fun i => (i.zero, i.size, i.bytes)) = some (some (.agg #[.int .i64 0, .int .i64 0]), 2, 16) := by kernel_rfl
theorem info_ed : (Try.prog.info? 62).map (fun i => (i.zero, i.size, i.bytes)) = some (some (.agg #[.int .i64 0, .int .i64 0, .int .u64 0, .int .u64 0, .int .u64 0, .int .u64 0, .int .u64 0, .int .u64 0]), 8, 64) := by kernel_rfl
theorem info_re : (Try.prog.info? 104).map (fun i => (i.zero, i.size, i.bytes)) = some (some (.agg #[.int .i64 0, .int .i64 0, .int .u64 0, .int .u64 0, .int .u64 0, .int .u64 0, .int .u64 0, .int .u64 0]), 8, 64) := by kernel_rfl
theorem info_u64 : (Try.prog.info? 26).map (fun i => (i.zero, i.size, i.bytes)) = some (some (.int .u64 0), 1, 8) := by kernel_rfl
/-- A new web of one's own. -/
abbrev newWeb (w : World) (TS TE : TypeId) (A1 : Option Addr) (c1 : Nat) (A2 : Option Addr) (c2 : Nat) (x : Wb) : List Asn := [rest w (· < w.heap.size), row TS 2 (.slice A1 x.spots.length c1) x.spots.length (x.spots.flatMap spC), row TE 8 (.slice A2 x.edges.length c2) x.edges.length (x.edges.flatMap edC)]
set_option maxRecDepth 100000 in
set_option maxHeartbeats 2000000 in
theorem to_any (w : World) (As : Option Addr) (cs : Nat) (Ae : Option Addr) (ce : Nat) (x : Wb) (h : WebAt w As cs Ae ce x) (ok : x.Ok) (hs : x.spots.length ≤ 1000 ∧ x.edges.length ≤ 1000) : Calls Try.prog 16 #[.agg #[.slice As x.spots.length cs, .slice Ae x.edges.length ce]] w fun e w' => ∃ A1 c1 A2 c2, e = .returned (.agg #[.slice A1 x.spots.length c1, .slice A2 x.edges.length c2]) ∧ Sat w w' (newWeb w 107 62 A1 c1 A2 c2 x) := by
  obtain ⟨hs1, hs2⟩ := hs
  have h0 := ((((Sat.pushRest w).alloc #[.slice As x.spots.length cs, .slice Ae x.edges.length ce] 25).alloc #[.slice none 0 0, .slice none 0 0] 32).alloc #[.slice none 0 0, .slice none 0 0] 32).nilRow 107 2
  try simp only [List.cons_append, List.nil_append, List.set_cons_succ, List.set_cons_zero, Nat.zero_add, Nat.reduceAdd, World.size_alloc] at h0
  have H0 := Lib.hid h0
  have HW := Lib.hid h
  clear h h0
  go_enter Try.func16, Try.ntmps16
  go_wp2
  go_loopw [11] (fun i wr => ∃ (k : Nat) (A' : Option Addr) (c' : Nat), k ≤ x.spots.length ∧ i = .int .i64 k ∧ Sat w wr [rest w (· < w.heap.size), box w.heap.size 25 [.slice As x.spots.length cs, .slice Ae x.edges.length ce], box (w.heap.size + 1) 32 [.slice none 0 0, .slice none 0 0], box (w.heap.size + 1 + 1) 32 [.slice A' k c', .slice none 0 0], row 107 2 (.slice A' k c') k ((x.spots.take k).flatMap spC)]) (fun i _ => x.spots.length - (intOf i).toNat)
  case atStart => exact ⟨0, none, 0, Nat.zero_le _, rfl, H0.out⟩
  case round =>
    obtain ⟨k, A', c', hk, rfl, hS⟩ := hrel
    clear H0
    by_cases hlt : k < x.spots.length
    · have hf := (HW.out.move hS rfl).s
      obtain ⟨g, off, rfl, hb, hc⟩ := hf.at spC_len (by decide) hlt
      have q0 := hc 0 _ rfl
      have q1 := hc 1 _ rfl
      have htk : (x.spots.take (k + 1)).flatMap spC = (x.spots.take k).flatMap spC ++ spC x.spots[k] := by rw [List.take_succ_eq_append_getElem hlt, recs_app, recs_one]
      generalize x.spots[k] = p at *
      obtain ⟨px, py⟩ := p
      dsimp only at q0 q1
      rw [Nat.add_zero] at q0
      have HT := Lib.hid htk
      have hS1 := (hS.alloc #[.int .i64 px, .int .i64 py] 106).drew
      try simp only [List.cons_append, List.nil_append, List.set_cons_succ, List.set_cons_zero, Nat.zero_add, Nat.reduceAdd, World.size_alloc] at hS1
      have k1 := hS1.all
      simp only [allFacts, box_facts, row_facts, emp_facts, cellFacts, Nat.zero_add, Nat.reduceAdd, true_and, and_true] at k1
      have HS1 := Lib.hid hS1
      clear hS hS1 hf hc htk
      go_wp2_with fail
      refine region_chain (E := [3, 4, 5, 7]) (kn := [true, true, true, false, false, false, false, false]) (mask := [true, true, true, false, false, false, false, false]) (vs := [?vq0_0, ?vq0_1, ?vq0_2, undef, undef, undef, undef, undef]) (S := fun w' => w' = (wr.alloc (.cells #[.int .i64 px, .int .i64 py] 106)).drew) (by kernel_rfl) (by kernel_rfl) (by kernel_rfl) (by kernel_rfl) (by kernel_rfl) ?hSq ?hchq
      case hSq => exact rfl
      case hchq =>
        refine chain_cons _ (by kernel_rfl) rfl rfl ?opsq0 ?wantq0 ?effq0
        case opsq0 =>
          simp only [OpsAt, fillT, List.setIfInBounds_toArray, List.set_cons_zero, List.set_cons_succ]
          refine ⟨.inl ⟨by rfl, opOk_pure fun wS hS => ?_⟩, ?_⟩
          · ((subst hS; go_simp; try simp (disch := omega) only [wrap64_id])); try (with_reducible rfl)
          refine ⟨.inl ⟨by rfl, opOk_pure fun wS hS => ?_⟩, ?_⟩
          · ((subst hS; go_simp; try simp (disch := omega) only [wrap64_id])); try (with_reducible rfl)
          refine ⟨.inl ⟨by rfl, opOk_pure fun wS hS => ?_⟩, ?_⟩
          · ((subst hS; go_simp; try simp (disch := omega) only [wrap64_id])); try (with_reducible rfl)
          try trivial
        case wantq0 => (try simp only [fillT, List.setIfInBounds_toArray, List.set_cons_zero, List.set_cons_succ]) <;> rfl
        case effq0 =>
          intro wS hS
          simp only [fillT, List.setIfInBounds_toArray, List.set_cons_zero, List.set_cons_succ]
          rw [hS]
          refine eff_call (f := 53) (args := #[.agg #[.int .i64 px, .int .i64 py]]) (by go_simp) ?_
          refine (to06_any _ px py).mono ?_
          rintro e w2 ⟨rfl, hb2⟩
          have h2 := HS1.out.grow hb2
          have k2 := h2.all
          simp only [allFacts, box_facts, row_facts, emp_facts, cellFacts, Nat.zero_add, Nat.reduceAdd, true_and, and_true] at k2
          have H2 := Lib.hid h2
          clear h2 hb2
          refine ⟨_, rfl, ?_⟩
          refine ⟨_, [true, true, true, true, false, false, false, false], [true, true, false, false, false, false, false, false], [2], [?vq1_0, ?vq1_1, ?vq1_2, (.agg #[.int .i64 px, .int .i64 py]), undef, undef, undef, undef], fun w' => w' = w2, rfl, rfl, ?sameq0, by kernel_rfl, ?hSq0, ?nxq0⟩
          case sameq0 =>
            refine And.intro ?_ ?_
            · with_reducible rfl
            refine And.intro ?_ ?_
            · with_reducible rfl
            refine And.intro ?_ ?_
            · with_reducible rfl
            trivial
          case hSq0 => rfl
          case nxq0 =>
            refine chain_cons _ (by kernel_rfl) rfl rfl ?opsq1 ?wantq1 ?effq1
            case opsq1 =>
              simp only [OpsAt, fillT, List.setIfInBounds_toArray, List.set_cons_zero, List.set_cons_succ]
              refine ⟨.inl ⟨by rfl, opOk_pure fun wS hS => ?_⟩, ?_⟩
              · ((subst hS; go_simp; try simp (disch := omega) only [wrap64_id])); try (with_reducible rfl)
              refine ⟨.inl ⟨by rfl, opOk_pure fun wS hS => ?_⟩, ?_⟩
              · ((subst hS; go_simp; try simp (disch := omega) only [wrap64_id])); try (with_reducible rfl)
              try trivial
            case wantq1 => (try simp only [fillT, List.setIfInBounds_toArray, List.set_cons_zero, List.set_cons_succ]) <;> rfl
            case effq1 =>
              intro wS hS
              simp only [fillT, List.setIfInBounds_toArray, List.set_cons_zero, List.set_cons_succ]
              rw [hS]
              refine eff_run (w' := w2.alloc (.cells #[.int .i64 px, .int .i64 py] 107)) (by go_simp; try rfl) ?_
              have h3 := H2.out.alloc #[.int .i64 px, .int .i64 py] 107
              try simp only [List.cons_append, List.nil_append, List.set_cons_succ, List.set_cons_zero, Nat.zero_add, Nat.reduceAdd, World.size_alloc] at h3
              have k3 := h3.all
              simp only [allFacts, box_facts, row_facts, emp_facts, cellFacts, Nat.zero_add, Nat.reduceAdd, true_and, and_true] at k3
              have H3 := Lib.hid h3
              clear h3
              refine ⟨_, [true, true, true, true, true, false, false, false], [true, true, false, false, false, false, false, false], [], [?vq2_0, ?vq2_1, ?vq2_2, (.agg #[.int .i64 px, .int .i64 py]), (.slice (some ⟨w2.heap.size, 0, none⟩) 1 1), undef, undef, undef], fun w' => w' = w2.alloc (.cells #[.int .i64 px, .int .i64 py] 107), rfl, rfl, ?sameq1, by kernel_rfl, ?hSq1, ?nxq1⟩
              case sameq1 =>
                refine And.intro ?_ ?_
                · with_reducible rfl
                refine And.intro ?_ ?_
                · with_reducible rfl
                refine And.intro ?_ ?_
                · with_reducible rfl
                refine And.intro ?_ ?_
                · with_reducible rfl
                trivial
              case hSq1 => rfl
              case nxq1 =>
                refine chain_cons _ (by kernel_rfl) rfl rfl ?opsq2 ?wantq2 ?effq2
                case opsq2 =>
                  simp only [OpsAt, fillT, List.setIfInBounds_toArray, List.set_cons_zero, List.set_cons_succ]
                  refine ⟨.inl ⟨by rfl, opOk_pure fun wS hS => ?_⟩, ?_⟩
                  · ((subst hS; go_simp; try simp (disch := omega) only [wrap64_id])); try (with_reducible rfl)
                  refine ⟨.inl ⟨by rfl, opOk_pure fun wS hS => ?_⟩, ?_⟩
                  · ((subst hS; go_simp; try simp (disch := omega) only [wrap64_id])); try (with_reducible rfl)
                  try trivial
                case wantq2 => (try simp only [fillT, List.setIfInBounds_toArray, List.set_cons_zero, List.set_cons_succ]) <;> rfl
                case effq2 =>
                  intro wS hS
                  simp only [fillT, List.setIfInBounds_toArray, List.set_cons_zero, List.set_cons_succ]
                  rw [hS]
                  refine wp_append_sat _ _ 29 rfl H3.out 4 107 (.agg #[.int .i64 0, .int .i64 0]) 2 16 Try.underlying29 info_sp rfl (by decide) (.slice A' k c') k ((x.spots.take k).flatMap spC) ?a0 rfl (some ⟨w2.heap.size, 0, none⟩) 1 1 [.int .i64 px, .int .i64 py] ?a1 (fun h => by cases h) ?a2 (box_src H3.out (i := 6) rfl) ?a3 ?a4 ?a5 ?a6
                  try (case a0 => go_simp)
                  try (case a1 => go_simp)
                  try (case a2 => rfl)
                  case a3 => (intro u hu; simp at hu; rcases hu with rfl | rfl <;> rfl)
                  case a4 => unfold maxLen; omega
                  case a5 => omega
                  case a6 =>
                    intro A2 c2 w3 h4 hA2 hg2
                    try simp only [List.cons_append, List.nil_append, List.set_cons_succ, List.set_cons_zero, Nat.zero_add, Nat.reduceAdd, World.size_alloc] at h4
                    rw [show ((x.spots.take k).flatMap spC ++ [Value.int .i64 px, .int .i64 py]) = (x.spots.take (k + 1)).flatMap spC from HT.out.symm] at h4
                    have k4 := h4.all
                    simp only [allFacts, box_facts, row_facts, emp_facts, cellFacts, Nat.zero_add, Nat.reduceAdd, true_and, and_true] at k4
                    have h5 := h4.set 3 rfl 0 (.slice A2 (k + 1) c2)
                    try simp only [List.cons_append, List.nil_append, List.set_cons_succ, List.set_cons_zero, Nat.zero_add, Nat.reduceAdd, World.size_alloc] at h5
                    have h6 := h5.left (l := [_, _, _, _, _]) (l' := [_, _])
                    have H5 := Lib.hid h6
                    clear h4 h5 h6 hA2 hg2
                    refine ⟨_, [true, true, true, true, true, true, true, false], [false, false, false, false, false, false, true, false], [1, 0], [?vq3_0, ?vq3_1, ?vq3_2, (.agg #[.int .i64 px, .int .i64 py]), (.slice (some ⟨w2.heap.size, 0, none⟩) 1 1), (.slice A2 (k + 1) c2), ?vq3_6, undef], fun w' => w' = w3, rfl, rfl, ?sameq2, by kernel_rfl, ?hSq2, ?nxq2⟩
                    case sameq2 =>
                      refine And.intro ?_ ?_
                      · with_reducible rfl
                      refine And.intro ?_ ?_
                      · with_reducible rfl
                      refine And.intro ?_ ?_
                      · with_reducible rfl
                      refine And.intro ?_ ?_
                      · with_reducible rfl
                      refine And.intro ?_ ?_
                      · with_reducible rfl
                      trivial
                    case hSq2 => rfl
                    case nxq2 =>
                      refine chain_cons _ (by kernel_rfl) rfl rfl ?opsq3 ?wantq3 ?effq3
                      case opsq3 =>
                        simp only [OpsAt, fillT, List.setIfInBounds_toArray, List.set_cons_zero, List.set_cons_succ]
                        refine ⟨.inl ⟨by rfl, opOk_pure fun wS hS => ?_⟩, ?_⟩
                        · ((subst hS; go_simp; try simp (disch := omega) only [wrap64_id])); try (with_reducible rfl)
                        try trivial
                      case wantq3 => (try simp only [fillT, List.setIfInBounds_toArray, List.set_cons_zero, List.set_cons_succ]) <;> rfl
                      case effq3 =>
                        intro wS hS
                        simp only [fillT, List.setIfInBounds_toArray, List.set_cons_zero, List.set_cons_succ]
                        rw [hS]
                        refine eff_skip (w' := w3.setCell ⟨w.heap.size + 1 + 1, 0, none⟩ (.slice A2 (k + 1) c2)) ?run ?pp
                        case run => go_simp
                        case pp =>
                          refine ⟨_, [true, true, true, true, true, true, true, true], [false, false, false, false, false, false, false, false], [6], [?vq4_0, ?vq4_1, ?vq4_2, (.agg #[.int .i64 px, .int .i64 py]), (.slice (some ⟨w2.heap.size, 0, none⟩) 1 1), (.slice A2 (k + 1) c2), ?vq4_6, undef], fun w' => w' = w3.setCell ⟨w.heap.size + 1 + 1, 0, none⟩ (.slice A2 (k + 1) c2), rfl, rfl, ?sameq3, by kernel_rfl, ?hSq3, ?nxq3⟩
                          case sameq3 =>
                            refine And.intro ?_ ?_
                            · with_reducible rfl
                            refine And.intro ?_ ?_
                            · with_reducible rfl
                            refine And.intro ?_ ?_
                            · with_reducible rfl
                            refine And.intro ?_ ?_
                            · with_reducible rfl
                            refine And.intro ?_ ?_
                            · with_reducible rfl
                            refine And.intro ?_ ?_
                            · with_reducible rfl
                            refine And.intro ?_ ?_
                            · with_reducible rfl
                            trivial
                          case hSq3 => rfl
                          case nxq3 =>
                            refine chain_nil (by kernel_rfl) rfl ?opsq4 ?endq4
                            case opsq4 =>
                              simp only [OpsAt, fillT, List.setIfInBounds_toArray, List.set_cons_zero, List.set_cons_succ]
                              try trivial
                            case endq4 =>
                              intro wE hE
                              simp only [fillT, List.setIfInBounds_toArray, List.set_cons_zero, List.set_cons_succ]
                              rw [hE]
                              clear k1 k2 k3 k4
                              go_wp2
                              go_roundw
                              case rel => exact ⟨k + 1, A2, c2, by omega, by go_num, H5.out⟩
                              case measure => (simp [intOf]; try omega)
    · obtain rfl : k = x.spots.length := by omega
      rw [List.take_length] at hS
      have hS0 := hS.nilRow 62 8
      try simp only [List.cons_append, List.nil_append, List.set_cons_succ, List.set_cons_zero, Nat.zero_add, Nat.reduceAdd, World.size_alloc] at hS0
      have H0 := Lib.hid hS0
      have k1 := hS.all
      simp only [allFacts, box_facts, row_facts, emp_facts, cellFacts, Nat.zero_add, Nat.reduceAdd, true_and, and_true] at k1
      obtain ⟨As', hAs⟩ : ∃ A, A = A' := ⟨_, rfl⟩
      subst hAs
      obtain ⟨cs', hcs⟩ : ∃ c, c = c' := ⟨_, rfl⟩
      subst hcs
      clear hS hS0
      go_wp2
      clear k1
      go_loopw [26] (fun i wr => ∃ (k : Nat) (A' : Option Addr) (c' : Nat), k ≤ x.edges.length ∧ i = .int .i64 k ∧ Sat w wr [rest w (· < w.heap.size), box w.heap.size 25 [.slice As x.spots.length cs, .slice Ae x.edges.length ce], box (w.heap.size + 1) 32 [.slice none 0 0, .slice none 0 0], box (w.heap.size + 1 + 1) 32 [.slice As' x.spots.length cs', .slice A' k c'], row 107 2 (.slice As' x.spots.length cs') x.spots.length (x.spots.flatMap spC), row 62 8 (.slice A' k c') k ((x.edges.take k).flatMap edC)]) (fun i _ => x.edges.length - (intOf i).toNat)
      case atStart => exact ⟨0, none, 0, Nat.zero_le _, rfl, H0.out⟩
      case round =>
        obtain ⟨k, A', c', hk, rfl, hS⟩ := hrel
        clear H0
        by_cases hlt : k < x.edges.length
        · have hf := (HW.out.move hS rfl).e
          obtain ⟨g, off, rfl, hb, hc⟩ := hf.at edC_len (by decide) hlt
          have q0 := hc 0 _ rfl
          have q1 := hc 1 _ rfl
          have q2 := hc 2 _ rfl
          have q3 := hc 3 _ rfl
          have q4 := hc 4 _ rfl
          have q5 := hc 5 _ rfl
          have q6 := hc 6 _ rfl
          have q7 := hc 7 _ rfl
          have htk : (x.edges.take (k + 1)).flatMap edC = (x.edges.take k).flatMap edC ++ edC x.edges[k] := by rw [List.take_succ_eq_append_getElem hlt, recs_app, recs_one]
          generalize x.edges[k] = ed at *
          obtain ⟨a, b, c0, c1, b0, r0, b1, r1⟩ := ed
          dsimp only at q0 q1 q2 q3 q4 q5 q6 q7
          rw [Nat.add_zero] at q0
          have HT := Lib.hid htk
          have hS1 := (hS.alloc #[.int .i64 a, .int .i64 b, .int .u64 c0, .int .u64 c1, .int .u64 b0, .int .u64 r0, .int .u64 b1, .int .u64 r1] 104).alloc #[.int .i64 a, .int .i64 b, .int .u64 c0, .int .u64 c1, .int .u64 b0, .int .u64 r0, .int .u64 b1, .int .u64 r1] 62
          try simp only [List.cons_append, List.nil_append, List.set_cons_succ, List.set_cons_zero, Nat.zero_add, Nat.reduceAdd, World.size_alloc] at hS1
          have k1 := hS.all
          simp only [allFacts, box_facts, row_facts, emp_facts, cellFacts, Nat.zero_add, Nat.reduceAdd, true_and, and_true] at k1
          have HS1 := Lib.hid hS1
          clear hS hS1 hf hc htk
          go_wp2_with (first
            | (at_builtin; refine wpList_append_sat rfl _ _ 30 rfl HS1.out 5 62 (.agg #[.int .i64 0, .int .i64 0, .int .u64 0, .int .u64 0, .int .u64 0, .int .u64 0, .int .u64 0, .int .u64 0]) 8 64 Try.underlying30 info_ed rfl (by decide) (.slice A' k c') k ((x.edges.take k).flatMap edC) ?b0 rfl (some ⟨_, 0, none⟩) 1 1 [.int .i64 a, .int .i64 b, .int .u64 c0, .int .u64 c1, .int .u64 b0, .int .u64 r0, .int .u64 b1, .int .u64 r1] ?b1 (fun h => by cases h) ?b2 (box_src HS1.out (i := 7) rfl) ?b3 ?b4 ?b5 ?b6)
            | fail)
          try (case b0 => go_simp)
          try (case b1 => go_simp)
          try (case b2 => rfl)
          case b3 => (intro u hu; simp at hu; rcases hu with rfl | rfl | rfl | rfl | rfl | rfl | rfl | rfl <;> rfl)
          case b4 => unfold maxLen; omega
          case b5 => omega
          case b6 =>
            intro A2 c2 w3 h4 hA2 hg2
            try simp only [List.cons_append, List.nil_append, List.set_cons_succ, List.set_cons_zero, Nat.zero_add, Nat.reduceAdd, World.size_alloc] at h4
            rw [show ((x.edges.take k).flatMap edC ++ [Value.int .i64 a, .int .i64 b, .int .u64 c0, .int .u64 c1, .int .u64 b0, .int .u64 r0, .int .u64 b1, .int .u64 r1]) = (x.edges.take (k + 1)).flatMap edC from HT.out.symm] at h4
            have k4 := h4.all
            simp only [allFacts, box_facts, row_facts, emp_facts, cellFacts, Nat.zero_add, Nat.reduceAdd, true_and, and_true] at k4
            have h5 := h4.set 3 rfl 1 (.slice A2 (k + 1) c2)
            try simp only [List.cons_append, List.nil_append, List.set_cons_succ, List.set_cons_zero, Nat.zero_add, Nat.reduceAdd, World.size_alloc] at h5
            have h6 := h5.left (l := [_, _, _, _, _, _]) (l' := [_, _])
            have H5 := Lib.hid h6
            clear h4 h5 h6 hA2 hg2 k1 q0 q1 q2 q3 q4 q5 q6 q7
            go_wp2
            go_roundw
            case rel => exact ⟨k + 1, A2, c2, by omega, by go_num, H5.out⟩
            case measure => (simp [intOf]; try omega)
        · obtain rfl : k = x.edges.length := by omega
          rw [List.take_length] at hS
          have k1 := hS.all
          simp only [allFacts, box_facts, row_facts, emp_facts, cellFacts, Nat.zero_add, Nat.reduceAdd, true_and, and_true] at k1
          have HS := Lib.hid hS
          clear hS
          go_wp2
          have h8 := (HS.out.set 2 rfl 0 (.slice As' x.spots.length cs')).set 2 rfl 1 (.slice A' x.edges.length c')
          try simp only [List.cons_append, List.nil_append, List.set_cons_succ, List.set_cons_zero, Nat.zero_add, Nat.reduceAdd, World.size_alloc] at h8
          have h9 := h8.pick [0, 4, 5] (by decide)
          simp only [List.filterMap_cons, List.filterMap_nil, List.getElem?_cons_zero, List.getElem?_cons_succ] at h9
          have H9 := Lib.hid h9
          clear h8 h9
          refine bodyPost_ret (v := .agg #[.slice As' x.spots.length cs', .slice A' x.edges.length c']) (by simp only [results, Try.results16]; go_simp) rfl ⟨As', cs', A', c', rfl, H9.out⟩
end Go.Proofs.Ytcfpbemoocegfaa
