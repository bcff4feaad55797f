/- Walks over webs: an amount goes over a channel; all that channels hold; the same webs? -/
import Derived.Test.YtjbblgefgjmdaaaEqAt
namespace Go.Proofs.Ytjbblgefgjmdaaa
set_option linter.unusedVariables false
set_option linter.unusedSimpArgs false
set_option linter.unnecessarySimpa false
open Go.RowKit

set_option maxRecDepth 100000 in
set_option maxHeartbeats 2000000 in
theorem cloneS_any (w : World) (A : Option Addr) (c : Nat) (l : List (Int × Int)) (h : Recs 2 spC w A c l) (hl : l.length ≤ 1000) : Calls Try.prog 28 #[.slice A l.length c] w fun e w' => ∃ A' c', e = .returned (.slice A' l.length c') ∧ Sat w w' [rest w (· < w.heap.size), row 74 2 (.slice A' l.length c') l.length (l.flatMap spC)] := by
  have q : ∀ (w : World) (a : Option Addr) (n c n' c' : Nat), (binOp .eql 28 (.slice a n c) (.slice none n' c')).run Try.prog w = .ok (.bool a.isNone) w := fun w a n c n' c' => Lib.run_eql_slice_nil w _ _ a n c n' c' Try.underlying28
  cases A with
  | none =>
    obtain ⟨hl0, rfl⟩ := h.none_ rfl
    obtain rfl := List.eq_nil_of_length_eq_zero hl0
    have H0 := Lib.hid ((Sat.pushRest w).nilRow 74 2)
    clear h hl0
    go_enter Try.func28, Try.ntmps28
    go_wp2
    go_ret
    exact ⟨none, 0, rfl, H0.out⟩
  | some ad =>
    have hm := (Sat.pushRest w).made #[] 74 2 0 0 rfl (Nat.le_refl _) (Nat.zero_le _)
    try simp only [List.cons_append, List.nil_append, List.set_cons_succ, List.set_cons_zero, Nat.zero_add, Nat.reduceAdd, World.size_alloc] at hm
    have HM := Lib.hid hm
    have HS := Lib.hid h.src
    clear h hm
    go_enter Try.func28, Try.ntmps28
    go_wp2_with (first
      | (at_builtin; refine wpList_append_sat rfl _ _ 28 rfl HM.out 1 74 (.agg #[.int .i64 0, .int .i64 0]) 2 16 Try.underlying28 info_sp rfl (by decide) (.slice (some ⟨_, 0, none⟩) 0 0) 0 [] ?a0 rfl (some ad) l.length c (l.flatMap spC) ?a1 (fun h => by cases h) ?a2 (src_rest HM.out (i := 0) rfl HS.out (src_lt HS.out)) ?a3 ?a4 ?a5 ?a6)
      | fail)
    try (case a0 => go_simp)
    try (case a1 => go_simp)
    try (case a2 => exact recs_len spC_len l)
    case a3 => (intro u hu; simp only [List.mem_flatMap] at hu; obtain ⟨p, _, hp⟩ := hu; simp [spC] at hp; rcases hp with rfl | rfl <;> rfl)
    case a4 => unfold maxLen; omega
    case a5 => omega
    case a6 =>
      intro A2 c2 w3 h3 hA2 hg2
      try simp only [List.cons_append, List.nil_append, List.set_cons_succ, List.set_cons_zero, Nat.zero_add, Nat.reduceAdd, World.size_alloc] at h3
      have H3 := Lib.hid h3
      clear h3 hA2 hg2
      go_wp2
      go_ret
      exact ⟨A2, c2, rfl, H3.out⟩
set_option maxRecDepth 100000 in
set_option maxHeartbeats 2000000 in
theorem cloneE_any (w : World) (A : Option Addr) (c : Nat) (l : List Edg) (h : Recs 8 edC w A c l) (hl : l.length ≤ 1000) : Calls Try.prog 29 #[.slice A l.length c] w fun e w' => ∃ A' c', e = .returned (.slice A' l.length c') ∧ Sat w w' [rest w (· < w.heap.size), row 52 8 (.slice A' l.length c') l.length (l.flatMap edC)] := by
  have q : ∀ (w : World) (a : Option Addr) (n c n' c' : Nat), (binOp .eql 29 (.slice a n c) (.slice none n' c')).run Try.prog w = .ok (.bool a.isNone) w := fun w a n c n' c' => Lib.run_eql_slice_nil w _ _ a n c n' c' Try.underlying29
  cases A with
  | none =>
    obtain ⟨hl0, rfl⟩ := h.none_ rfl
    obtain rfl := List.eq_nil_of_length_eq_zero hl0
    have H0 := Lib.hid ((Sat.pushRest w).nilRow 52 8)
    clear h hl0
    go_enter Try.func29, Try.ntmps29
    go_wp2
    go_ret
    exact ⟨none, 0, rfl, H0.out⟩
  | some ad =>
    have hm := (Sat.pushRest w).made #[] 52 8 0 0 rfl (Nat.le_refl _) (Nat.zero_le _)
    try simp only [List.cons_append, List.nil_append, List.set_cons_succ, List.set_cons_zero, Nat.zero_add, Nat.reduceAdd, World.size_alloc] at hm
    have HM := Lib.hid hm
    have HS := Lib.hid h.src
    clear h hm
    go_enter Try.func29, Try.ntmps29
    go_wp2_with (first
      | (at_builtin; refine wpList_append_sat rfl _ _ 29 rfl HM.out 1 52 (.agg #[.int .i64 0, .int .i64 0, .int .u64 0, .int .u64 0, .int .u64 0, .int .u64 0, .int .u64 0, .int .u64 0]) 8 64 Try.underlying29 info_ed rfl (by decide) (.slice (some ⟨_, 0, none⟩) 0 0) 0 [] ?a0 rfl (some ad) l.length c (l.flatMap edC) ?a1 (fun h => by cases h) ?a2 (src_rest HM.out (i := 0) rfl HS.out (src_lt HS.out)) ?a3 ?a4 ?a5 ?a6)
      | fail)
    try (case a0 => go_simp)
    try (case a1 => go_simp)
    try (case a2 => exact recs_len edC_len l)
    case a3 => (intro u hu; simp only [List.mem_flatMap] at hu; obtain ⟨p, _, hp⟩ := hu; simp [edC] at hp; rcases hp with rfl | rfl | rfl | rfl | rfl | rfl | rfl | rfl <;> rfl)
    case a4 => unfold maxLen; omega
    case a5 => omega
    case a6 =>
      intro A2 c2 w3 h3 hA2 hg2
      try simp only [List.cons_append, List.nil_append, List.set_cons_succ, List.set_cons_zero, Nat.zero_add, Nat.reduceAdd, World.size_alloc] at h3
      have H3 := Lib.hid h3
      clear h3 hA2 hg2
      go_wp2
      go_ret
      exact ⟨A2, c2, rfl, H3.out⟩
theorem words_app (a b : List Int) : words a ++ words b = words (a ++ b) := by simp [words]
theorem row_words {w : World} {B : Nat} {T : TypeId} {A : Option Addr} {c : Nat} {xs : List Int} (h : w.ownsRow B T 1 (.slice A xs.length c) xs.length (words xs)) (hu : ∀ x ∈ xs, 0 ≤ x ∧ x < 18446744073709551616) (hl : xs.length * 8 ≤ 140737488355328) : Words w A c xs :=
  ⟨row_none h, src_row h, hu, hl⟩
set_option maxRecDepth 100000 in
set_option maxHeartbeats 2000000 in
theorem all_any (w : World) (As : Option Addr) (cs : Nat) (Ae : Option Addr) (ce : Nat) (x : Wb) (h : WebAt w As cs Ae ce x) (ok : x.Ok) (hs : x.edges.length ≤ 1000) : Calls Try.prog 17 #[.agg #[.slice As x.spots.length cs, .slice Ae x.edges.length ce]] w fun e w' => e = .returned (.tuple #[.int .u64 (allP x).1, .int .i64 (allP x).2]) ∧ Below w.heap.size w w' := by
  have h1 := ((Sat.pushRest w).alloc #[.slice As x.spots.length cs, .slice Ae x.edges.length ce] 31).nilRow 40 1
  try simp only [List.cons_append, List.nil_append, List.set_cons_succ, List.set_cons_zero, Nat.zero_add, Nat.reduceAdd, World.size_alloc] at h1
  have HW := Lib.hid h
  have H1 := Lib.hid h1
  clear h h1
  go_enter Try.func17, Try.ntmps17
  go_wp2
  go_loopw [4, 10] (fun v i wr => ∃ (k : Nat) (A' : Option Addr) (c' : Nat), k ≤ x.edges.length ∧ i = .int .i64 k ∧ v = .slice A' (cansP (x.edges.take k)).length c' ∧ Sat w wr [rest w (· < w.heap.size), box w.heap.size 31 [.slice As x.spots.length cs, .slice Ae x.edges.length ce], row 40 1 (.slice A' (cansP (x.edges.take k)).length c') (cansP (x.edges.take k)).length (words (cansP (x.edges.take k)))]) (fun _ i _ => x.edges.length - (intOf i).toNat)
  case atStart => exact ⟨0, none, 0, Nat.zero_le _, rfl, rfl, H1.out⟩
  case round =>
    obtain ⟨k, A', c', hk, rfl, rfl, hS⟩ := hrel
    clear H1
    have HS := Lib.hid hS
    clear hS
    by_cases hlt : k < x.edges.length
    · obtain ⟨g, off, rfl, hb, hc⟩ := HW.out.e.at edC_len (by decide) hlt
      have hsn := cansP_snoc hlt
      have hml : (cansP (x.edges.take k)).length ≤ 2000 := by rw [cansP_len]; simp; omega
      generalize hed : x.edges[k] = ed at *
      obtain ⟨a, b, c0, c1, b0, r0, b1, r1⟩ := ed
      try dsimp only at hsn
      have HC := Lib.hid hc
      clear hed hc
      generalize cansP (x.edges.take k) = ls at *
      have HSN := Lib.hid hsn
      clear hsn
      have q0 := restCell HS.out rfl hb (HC.out 0 _ rfl)
      have q1 := restCell HS.out rfl hb (HC.out 1 _ rfl)
      have q2 := restCell HS.out rfl hb (HC.out 2 _ rfl)
      have q3 := restCell HS.out rfl hb (HC.out 3 _ rfl)
      have q4 := restCell HS.out rfl hb (HC.out 4 _ rfl)
      have q5 := restCell HS.out rfl hb (HC.out 5 _ rfl)
      have q6 := restCell HS.out rfl hb (HC.out 6 _ rfl)
      have q7 := restCell HS.out rfl hb (HC.out 7 _ rfl)
      rw [Nat.add_zero] at q0
      have k1 := HS.out.all
      simp only [allFacts, box_facts, row_facts, emp_facts, cellFacts, Nat.zero_add, Nat.reduceAdd, true_and, and_true] at k1
      have h31 := (HS.out.alloc #[.int .i64 a, .int .i64 b, .int .u64 c0, .int .u64 c1, .int .u64 b0, .int .u64 r0, .int .u64 b1, .int .u64 r1] 52).alloc #[.int .u64 c0, .int .u64 c1] 40
      try simp only [List.cons_append, List.nil_append, List.set_cons_succ, List.set_cons_zero, Nat.zero_add, Nat.reduceAdd, World.size_alloc] at h31
      have H31 := Lib.hid h31
      clear h31
      go_wp2_with (first
        | (at_builtin; refine wpList_append_sat rfl _ _ 87 rfl H31.out 2 40 (.int .u64 0) 1 8 Try.underlying87 info_u64 rfl (by decide) (.slice A' ls.length c') ls.length (words ls) ?a0 rfl (some ⟨_, 0, none⟩) 2 2 [.int .u64 c0, .int .u64 c1] ?a1 (fun h => by cases h) ?a2 (box_src H31.out (i := 4) rfl) ?a3 ?a4 ?a5 ?a6)
        | fail)
      try (case a0 => go_simp)
      try (case a1 => go_simp)
      try (case a2 => rfl)
      case a3 => first | exact ⟨rfl, rfl⟩ | (intro u hu; simp at hu; rcases hu with rfl | rfl <;> rfl)
      case a4 => unfold maxLen; omega
      case a5 => omega
      case a6 =>
        intro A2 c2 w3 h4 hA2 hg2
        try simp only [List.cons_append, List.nil_append, List.set_cons_succ, List.set_cons_zero, Nat.zero_add, Nat.reduceAdd, World.size_alloc] at h4
        rw [show words ls ++ [Value.int .u64 c0, Value.int .u64 c1] = words (ls ++ [c0, c1]) from words_app ls [c0, c1], show ls.length + 2 = (ls ++ [c0, c1]).length from by simp] at h4
        have h5 := h4.left (l := [_, _, _]) (l' := [_, _])
        have H5 := Lib.hid h5
        clear h4 h5 hA2 hg2
        clear q0 q1 q2 q3 q4 q5 q6 q7 k1
        go_wp2
        go_roundw
        case rel => exact ⟨k + 1, A2, c2, by omega, by go_num, by rw [HSN.out] <;> simp, by rw [HSN.out]; exact H5.out⟩
        case measure => (simp [intOf]; try omega)
    · obtain rfl : k = x.edges.length := by omega
      rw [List.take_length] at HS
      have hw := row_words (HS.out.rowOf (i := 2) rfl) (cansP_u ok.e) (by rw [cansP_len]; omega)
      have hsm := sum_any wr A' c' _ hw
      rw [List.take_length]
      have HSM := Lib.hid hsm
      have k1 := HS.out.all
      simp only [allFacts, box_facts, row_facts, emp_facts, cellFacts, Nat.zero_add, Nat.reduceAdd, true_and, and_true] at k1
      clear hw hsm
      go_wp2_with fail
      refine (HSM.out).mono ?_
      rintro e w31 ⟨rfl, hw⟩
      first | rw [show w31 = _ from hw] | rw [show w31 = _ from hw.symm]
      clear hw
      go_wp2
      go_ret2
      exact ⟨rfl, HS.out.below (i := 0) rfl⟩
set_option maxRecDepth 100000 in
set_option maxHeartbeats 2000000 in
theorem rall_any (w : World) (As : Option Addr) (cs : Nat) (Ae : Option Addr) (ce : Nat) (x : Wb) (h : WebAt w As cs Ae ce x) (ok : x.Ok) (hs : x.edges.length ≤ 1000) : Calls Try.prog 18 #[.agg #[.slice As x.spots.length cs, .slice Ae x.edges.length ce]] w fun e w' => e = .returned (.tuple #[.int .u64 (allP x).1, .int .i64 (allP x).2]) ∧ Below w.heap.size w w' := by
  have h1 := ((Sat.pushRest w).alloc #[.slice As x.spots.length cs, .slice Ae x.edges.length ce] 25).nilRow 40 1
  try simp only [List.cons_append, List.nil_append, List.set_cons_succ, List.set_cons_zero, Nat.zero_add, Nat.reduceAdd, World.size_alloc] at h1
  have HW := Lib.hid h
  have H1 := Lib.hid h1
  clear h h1
  go_enter Try.func18, Try.ntmps18
  go_wp2
  go_loopw [4, 5] (fun v i wr => ∃ (k : Nat) (A' : Option Addr) (c' : Nat), k ≤ x.edges.length ∧ i = .int .i64 k ∧ v = .slice A' (cansP (x.edges.take k)).length c' ∧ Sat w wr [rest w (· < w.heap.size), box w.heap.size 25 [.slice As x.spots.length cs, .slice Ae x.edges.length ce], row 40 1 (.slice A' (cansP (x.edges.take k)).length c') (cansP (x.edges.take k)).length (words (cansP (x.edges.take k)))]) (fun _ i _ => x.edges.length - (intOf i).toNat)
  case atStart => exact ⟨0, none, 0, Nat.zero_le _, rfl, rfl, H1.out⟩
  case round =>
    obtain ⟨k, A', c', hk, rfl, rfl, hS⟩ := hrel
    clear H1
    have HS := Lib.hid hS
    clear hS
    by_cases hlt : k < x.edges.length
    · obtain ⟨g, off, rfl, hb, hc⟩ := HW.out.e.at edC_len (by decide) hlt
      have hsn := cansP_snoc hlt
      have hml : (cansP (x.edges.take k)).length ≤ 2000 := by rw [cansP_len]; simp; omega
      generalize hed : x.edges[k] = ed at *
      obtain ⟨a, b, c0, c1, b0, r0, b1, r1⟩ := ed
      try dsimp only at hsn
      have HC := Lib.hid hc
      clear hed hc
      generalize cansP (x.edges.take k) = ls at *
      have HSN := Lib.hid hsn
      clear hsn
      have q0 := restCell HS.out rfl hb (HC.out 0 _ rfl)
      have q1 := restCell HS.out rfl hb (HC.out 1 _ rfl)
      have q2 := restCell HS.out rfl hb (HC.out 2 _ rfl)
      have q3 := restCell HS.out rfl hb (HC.out 3 _ rfl)
      have q4 := restCell HS.out rfl hb (HC.out 4 _ rfl)
      have q5 := restCell HS.out rfl hb (HC.out 5 _ rfl)
      have q6 := restCell HS.out rfl hb (HC.out 6 _ rfl)
      have q7 := restCell HS.out rfl hb (HC.out 7 _ rfl)
      rw [Nat.add_zero] at q0
      have k1 := HS.out.all
      simp only [allFacts, box_facts, row_facts, emp_facts, cellFacts, Nat.zero_add, Nat.reduceAdd, true_and, and_true] at k1
      go_wp2_with fail
      refine region_any (by kernel_rfl) ?_
      refine any_lastO ⟨by kernel_rfl, by kernel_rfl, by kernel_rfl, by kernel_rfl⟩ ?_
      simp only [initO, lastO]
      refine any_chain (E := [15, 16]) (kn := [true, true, true, true, true, true, true, true, true, true, true, true, true, true, true, false, false]) (mask := [true, true, true, true, true, true, true, true, true, true, true, true, true, true, true, false, false]) (vs := [?vq0_0, ?vq0_1, ?vq0_2, ?vq0_3, ?vq0_4, ?vq0_5, ?vq0_6, ?vq0_7, ?vq0_8, ?vq0_9, ?vq0_10, ?vq0_11, ?vq0_12, ?vq0_13, ?vq0_14, undef, undef]) (S := fun w' => w' = wr.drew) (by kernel_rfl) (by kernel_rfl) (by kernel_rfl) (by kernel_rfl) ?hSq ?hchq
      case hSq => exact rfl
      case hchq =>
        refine chain_cons _ (by kernel_rfl) rfl rfl ?opsq0 ?wantq0 ?effq0
        case opsq0 =>
          simp only [OpsAt, fillT, List.setIfInBounds_toArray, List.set_cons_zero, List.set_cons_succ]
          refine ⟨.inl ⟨by rfl, opOk_pure fun wS hS => ?_⟩, ?_⟩
          · ((subst hS; go_simp; try simp (disch := omega) only [wrap64_id])); try (with_reducible rfl)
          refine ⟨.inl ⟨by rfl, opOk_pure fun wS hS => ?_⟩, ?_⟩
          · ((subst hS; go_simp; try simp (disch := omega) only [wrap64_id])); try (with_reducible rfl)
          refine ⟨.inl ⟨by rfl, opOk_pure fun wS hS => ?_⟩, ?_⟩
          · ((subst hS; go_simp; try simp (disch := omega) only [wrap64_id])); try (with_reducible rfl)
          refine ⟨.inl ⟨by rfl, opOk_pure fun wS hS => ?_⟩, ?_⟩
          · ((subst hS; go_simp; try simp (disch := omega) only [wrap64_id])); try (with_reducible rfl)
          refine ⟨.inl ⟨by rfl, opOk_pure fun wS hS => ?_⟩, ?_⟩
          · ((subst hS; go_simp; try simp (disch := omega) only [wrap64_id])); try (with_reducible rfl)
          refine ⟨.inl ⟨by rfl, opOk_pure fun wS hS => ?_⟩, ?_⟩
          · ((subst hS; go_simp; try simp (disch := omega) only [wrap64_id])); try (with_reducible rfl)
          refine ⟨.inl ⟨by rfl, opOk_pure fun wS hS => ?_⟩, ?_⟩
          · ((subst hS; go_simp; try simp (disch := omega) only [wrap64_id])); try (with_reducible rfl)
          refine ⟨.inl ⟨by rfl, opOk_pure fun wS hS => ?_⟩, ?_⟩
          · ((subst hS; go_simp; try simp (disch := omega) only [wrap64_id])); try (with_reducible rfl)
          refine ⟨.inl ⟨by rfl, opOk_pure fun wS hS => ?_⟩, ?_⟩
          · ((subst hS; go_simp; try simp (disch := omega) only [wrap64_id])); try (with_reducible rfl)
          refine ⟨.inl ⟨by rfl, opOk_pure fun wS hS => ?_⟩, ?_⟩
          · ((subst hS; go_simp; try simp (disch := omega) only [wrap64_id])); try (with_reducible rfl)
          refine ⟨.inl ⟨by rfl, opOk_pure fun wS hS => ?_⟩, ?_⟩
          · ((subst hS; go_simp; try simp (disch := omega) only [wrap64_id])); try (with_reducible rfl)
          refine ⟨.inl ⟨by rfl, opOk_pure fun wS hS => ?_⟩, ?_⟩
          · ((subst hS; go_simp; try simp (disch := omega) only [wrap64_id])); try (with_reducible rfl)
          refine ⟨.inl ⟨by rfl, opOk_pure fun wS hS => ?_⟩, ?_⟩
          · ((subst hS; go_simp; try simp (disch := omega) only [wrap64_id])); try (with_reducible rfl)
          refine ⟨.inl ⟨by rfl, opOk_pure fun wS hS => ?_⟩, ?_⟩
          · ((subst hS; go_simp; try simp (disch := omega) only [wrap64_id])); try (with_reducible rfl)
          refine ⟨.inl ⟨by rfl, opOk_pure fun wS hS => ?_⟩, ?_⟩
          · ((subst hS; go_simp; try simp (disch := omega) only [wrap64_id])); try (with_reducible rfl)
          try trivial
        case wantq0 => (try simp only [fillT, List.setIfInBounds_toArray, List.set_cons_zero, List.set_cons_succ]) <;> rfl
        case effq0 =>
          intro wS hS
          simp only [fillT, List.setIfInBounds_toArray, List.set_cons_zero, List.set_cons_succ]
          rw [hS]
          refine eff_run (w' := wr.drew.alloc (.cells #[.int .u64 c0, .int .u64 c1] 40)) (by go_simp; try rfl) ?_
          have h3 := HS.out.drew.alloc #[.int .u64 c0, .int .u64 c1] 40
          try simp only [List.cons_append, List.nil_append, List.set_cons_succ, List.set_cons_zero, Nat.zero_add, Nat.reduceAdd, World.size_alloc] at h3
          have H3 := Lib.hid h3
          clear h3
          refine ⟨_, [true, true, true, true, true, true, true, true, true, true, true, true, true, true, true, true, false], [true, false, false, false, false, false, false, false, false, false, false, false, false, false, false, false, false], [7, 14, 6, 13, 5, 12, 4, 11, 2, 3, 9, 10, 1, 8], [?vq1_0, ?vq1_1, ?vq1_2, ?vq1_3, ?vq1_4, ?vq1_5, ?vq1_6, ?vq1_7, ?vq1_8, ?vq1_9, ?vq1_10, ?vq1_11, ?vq1_12, ?vq1_13, ?vq1_14, (.slice (some ⟨wr.drew.heap.size, 0, none⟩) 2 2), undef], fun w' => w' = wr.drew.alloc (.cells #[.int .u64 c0, .int .u64 c1] 40), rfl, rfl, ?sameq0, by kernel_rfl, ?hSq0, ?nxq0⟩
          case sameq0 =>
            refine And.intro ?_ ?_
            · with_reducible rfl
            refine And.intro ?_ ?_
            · with_reducible rfl
            refine And.intro ?_ ?_
            · with_reducible rfl
            refine And.intro ?_ ?_
            · with_reducible rfl
            refine And.intro ?_ ?_
            · with_reducible rfl
            refine And.intro ?_ ?_
            · with_reducible rfl
            refine And.intro ?_ ?_
            · with_reducible rfl
            refine And.intro ?_ ?_
            · with_reducible rfl
            refine And.intro ?_ ?_
            · with_reducible rfl
            refine And.intro ?_ ?_
            · with_reducible rfl
            refine And.intro ?_ ?_
            · with_reducible rfl
            refine And.intro ?_ ?_
            · with_reducible rfl
            refine And.intro ?_ ?_
            · with_reducible rfl
            refine And.intro ?_ ?_
            · with_reducible rfl
            refine And.intro ?_ ?_
            · with_reducible rfl
            trivial
          case hSq0 => rfl
          case nxq0 =>
            refine chain_cons _ (by kernel_rfl) rfl rfl ?opsq1 ?wantq1 ?effq1
            case opsq1 =>
              simp only [OpsAt, fillT, List.setIfInBounds_toArray, List.set_cons_zero, List.set_cons_succ]
              refine ⟨.inl ⟨by rfl, opOk_pure fun wS hS => ?_⟩, ?_⟩
              · ((subst hS; go_simp; try simp (disch := omega) only [wrap64_id])); try (with_reducible rfl)
              try trivial
            case wantq1 => (try simp only [fillT, List.setIfInBounds_toArray, List.set_cons_zero, List.set_cons_succ]) <;> rfl
            case effq1 =>
              intro wS hS
              simp only [fillT, List.setIfInBounds_toArray, List.set_cons_zero, List.set_cons_succ]
              rw [hS]
              refine wp_append_sat _ _ 87 rfl H3.out 2 40 (.int .u64 0) 1 8 Try.underlying87 info_u64 rfl (by decide) (.slice A' ls.length c') ls.length (words ls) ?a0 rfl (some ⟨_, 0, none⟩) 2 2 [.int .u64 c0, .int .u64 c1] ?a1 (fun h => by cases h) ?a2 (box_src H3.out (i := 3) rfl) ?a3 ?a4 ?a5 ?a6
              try (case a0 => go_simp)
              try (case a1 => go_simp)
              try (case a2 => rfl)
              case a3 => first | exact ⟨rfl, rfl⟩ | (intro u hu; simp at hu; rcases hu with rfl | rfl <;> rfl)
              case a4 => unfold maxLen; omega
              case a5 => omega
              case a6 =>
                intro A2 c2 w3 h4 hA2 hg2
                try simp only [List.cons_append, List.nil_append, List.set_cons_succ, List.set_cons_zero, Nat.zero_add, Nat.reduceAdd, World.size_alloc] at h4
                rw [show words ls ++ [Value.int .u64 c0, Value.int .u64 c1] = words (ls ++ [c0, c1]) from words_app ls [c0, c1], show ls.length + 2 = (ls ++ [c0, c1]).length from by simp] at h4
                rw [show ls.length + 2 = (ls ++ [c0, c1]).length from by simp]
                have h5 := h4.left (l := [_, _, _]) (l' := [_])
                have H5 := Lib.hid h5
                clear h4 h5 hA2 hg2
                refine ⟨_, [true, true, true, true, true, true, true, true, true, true, true, true, true, true, true, true, true], [false, false, false, false, false, false, false, false, false, false, false, false, false, false, false, false, false], [0], [?vq2_0, ?vq2_1, ?vq2_2, ?vq2_3, ?vq2_4, ?vq2_5, ?vq2_6, ?vq2_7, ?vq2_8, ?vq2_9, ?vq2_10, ?vq2_11, ?vq2_12, ?vq2_13, ?vq2_14, (.slice (some ⟨wr.drew.heap.size, 0, none⟩) 2 2), (.slice A2 (ls ++ [c0, c1]).length c2)], fun w' => w' = w3, rfl, rfl, ?sameq1, by kernel_rfl, ?hSq1, ?nxq1⟩
                case sameq1 =>
                  refine And.intro ?_ ?_
                  · with_reducible rfl
                  refine And.intro ?_ ?_
                  · with_reducible rfl
                  refine And.intro ?_ ?_
                  · with_reducible rfl
                  refine And.intro ?_ ?_
                  · with_reducible rfl
                  refine And.intro ?_ ?_
                  · with_reducible rfl
                  refine And.intro ?_ ?_
                  · with_reducible rfl
                  refine And.intro ?_ ?_
                  · with_reducible rfl
                  refine And.intro ?_ ?_
                  · with_reducible rfl
                  refine And.intro ?_ ?_
                  · with_reducible rfl
                  refine And.intro ?_ ?_
                  · with_reducible rfl
                  refine And.intro ?_ ?_
                  · with_reducible rfl
                  refine And.intro ?_ ?_
                  · with_reducible rfl
                  refine And.intro ?_ ?_
                  · with_reducible rfl
                  refine And.intro ?_ ?_
                  · with_reducible rfl
                  refine And.intro ?_ ?_
                  · with_reducible rfl
                  refine And.intro ?_ ?_
                  · with_reducible rfl
                  trivial
                case hSq1 => rfl
                case nxq1 =>
                  refine chain_nil (by kernel_rfl) rfl ?opsq2 ?endq2
                  case opsq2 =>
                    simp only [OpsAt, fillT, List.setIfInBounds_toArray, List.set_cons_zero, List.set_cons_succ]
                    try trivial
                  case endq2 =>
                    intro wE hE
                    simp only [fillT, List.setIfInBounds_toArray, List.set_cons_zero, List.set_cons_succ]
                    refine ⟨rfl, last_pure (v := (.slice A2 (ls ++ [c0, c1]).length c2)) (by go_simp; try rfl) ?_⟩
                    simp only [Act.put, List.setIfInBounds_toArray, List.set_cons_zero, List.set_cons_succ]
                    rw [hE]
                    clear q0 q1 q2 q3 q4 q5 q6 q7 k1
                    go_wp2
                    go_roundw
                    case rel => exact ⟨k + 1, A2, c2, by omega, by go_num, by rw [HSN.out] <;> simp, by rw [HSN.out]; exact H5.out⟩
                    case measure => (simp [intOf]; try omega)
    · obtain rfl : k = x.edges.length := by omega
      rw [List.take_length] at HS
      have hw := row_words (HS.out.rowOf (i := 2) rfl) (cansP_u ok.e) (by rw [cansP_len]; omega)
      have hsm := rsum_any wr A' c' _ hw
      rw [List.take_length]
      have HSM := Lib.hid hsm
      have k1 := HS.out.all
      simp only [allFacts, box_facts, row_facts, emp_facts, cellFacts, Nat.zero_add, Nat.reduceAdd, true_and, and_true] at k1
      clear hw hsm
      go_wp2_with fail
      refine (HSM.out).mono ?_
      rintro e w31 ⟨rfl, hw⟩
      first | rw [show w31 = _ from hw] | rw [show w31 = _ from hw.symm]
      clear hw
      go_wp2
      go_ret2
      exact ⟨rfl, HS.out.below (i := 0) rfl⟩
set_option maxRecDepth 100000 in
set_option maxHeartbeats 2000000 in
theorem same_any (w : World) (As : Option Addr) (cs : Nat) (Ae : Option Addr) (ce : Nat) (x : Wb) (h : WebAt w As cs Ae ce x) (ok : x.Ok) (As2 : Option Addr) (cs2 : Nat) (Ae2 : Option Addr) (ce2 : Nat) (h2 : WebAt w As2 cs2 Ae2 ce2 x) : Calls Try.prog 19 #[.agg #[.slice As x.spots.length cs, .slice Ae x.edges.length ce], .agg #[.slice As2 x.spots.length cs2, .slice Ae2 x.edges.length ce2]] w fun e w' => e = .returned (.bool true) ∧ Below w.heap.size w w' := by
  have h1 := ((Sat.pushRest w).alloc #[.slice As x.spots.length cs, .slice Ae x.edges.length ce] 25).alloc #[.slice As2 x.spots.length cs2, .slice Ae2 x.edges.length ce2] 25
  try simp only [List.cons_append, List.nil_append, List.set_cons_succ, List.set_cons_zero, Nat.zero_add, Nat.reduceAdd, World.size_alloc] at h1
  have hl1 := h.s.len
  have hl2 := h.e.len
  have hl3 : x.spots.length ≤ 9223372036854775807 := by omega
  have hl4 : x.edges.length ≤ 9223372036854775807 := by omega
  have HW := Lib.hid h
  have HV := Lib.hid h2
  have H1 := Lib.hid h1
  clear h h1 h2
  go_enter Try.func19, Try.ntmps19
  go_wp2
  go_loopw [5] (fun i wr => ∃ k : Nat, k ≤ x.spots.length ∧ i = .int .i64 k ∧ Sat w wr [rest w (· < w.heap.size), box w.heap.size 25 [.slice As x.spots.length cs, .slice Ae x.edges.length ce], box (w.heap.size + 1) 25 [.slice As2 x.spots.length cs2, .slice Ae2 x.edges.length ce2]]) (fun i _ => x.spots.length - (intOf i).toNat)
  case atStart => exact ⟨0, Nat.zero_le _, rfl, H1.out⟩
  case round =>
    obtain ⟨k, hk, rfl, hS⟩ := hrel
    clear H1
    have HS := Lib.hid hS
    clear hS
    have k1 := HS.out.all
    simp only [allFacts, box_facts, row_facts, emp_facts, cellFacts, Nat.zero_add, Nat.reduceAdd, true_and, and_true] at k1
    by_cases hlt : k < x.spots.length
    · obtain ⟨g, off, rfl, hb, hc⟩ := HW.out.s.at spC_len (by decide) hlt
      obtain ⟨g2, off2, rfl, hb2, hc2⟩ := HV.out.s.at spC_len (by decide) hlt
      have q0 := restCell HS.out rfl hb (hc 0 _ rfl)
      have q1 := restCell HS.out rfl hb (hc 1 _ rfl)
      have r0' := restCell HS.out rfl hb2 (hc2 0 _ rfl)
      have r1' := restCell HS.out rfl hb2 (hc2 1 _ rfl)
      generalize x.spots[k] = p at *
      obtain ⟨px, py⟩ := p
      try dsimp only at q0 q1 r0' r1'
      rw [Nat.add_zero] at q0 r0'
      clear hc hc2
      go_wp2_with fail
      refine region_chain (E := []) (kn := [true, true, true, true, true, true, true, true, true, true, true]) (mask := [true, true, true, true, true, true, true, true, true, true, true]) (vs := [?vq0_0, ?vq0_1, ?vq0_2, ?vq0_3, ?vq0_4, ?vq0_5, ?vq0_6, ?vq0_7, ?vq0_8, ?vq0_9, ?vq0_10]) (S := fun w' => w' = wr.drew) (by kernel_rfl) (by kernel_rfl) (by kernel_rfl) (by kernel_rfl) (by kernel_rfl) ?hSq ?hchq
      case hSq => exact rfl
      case hchq =>
        refine chain_nil (by kernel_rfl) rfl ?opsq0 ?endq0
        case opsq0 =>
          simp only [OpsAt, fillT, List.setIfInBounds_toArray, List.set_cons_zero, List.set_cons_succ]
          refine ⟨.inl ⟨by rfl, opOk_pure fun wS hS => ?_⟩, ?_⟩
          · ((subst hS; go_simp; try simp (disch := omega) only [wrap64_id])); try (with_reducible rfl)
          refine ⟨.inl ⟨by rfl, opOk_pure fun wS hS => ?_⟩, ?_⟩
          · ((subst hS; go_simp; try simp (disch := omega) only [wrap64_id])); try (with_reducible rfl)
          refine ⟨.inl ⟨by rfl, opOk_pure fun wS hS => ?_⟩, ?_⟩
          · ((subst hS; go_simp; try simp (disch := omega) only [wrap64_id])); try (with_reducible rfl)
          refine ⟨.inl ⟨by rfl, opOk_pure fun wS hS => ?_⟩, ?_⟩
          · ((subst hS; go_simp; try simp (disch := omega) only [wrap64_id])); try (with_reducible rfl)
          refine ⟨.inl ⟨by rfl, opOk_pure fun wS hS => ?_⟩, ?_⟩
          · ((subst hS; go_simp; try simp (disch := omega) only [wrap64_id])); try (with_reducible rfl)
          refine ⟨.inl ⟨by rfl, opOk_pure fun wS hS => ?_⟩, ?_⟩
          · ((subst hS; go_simp; try simp (disch := omega) only [wrap64_id])); try (with_reducible rfl)
          refine ⟨.inl ⟨by rfl, opOk_pure fun wS hS => ?_⟩, ?_⟩
          · ((subst hS; go_simp; try simp (disch := omega) only [wrap64_id])); try (with_reducible rfl)
          refine ⟨.inl ⟨by rfl, opOk_pure fun wS hS => ?_⟩, ?_⟩
          · ((subst hS; go_simp; try simp (disch := omega) only [wrap64_id])); try (with_reducible rfl)
          refine ⟨.inl ⟨by rfl, opOk_pure fun wS hS => ?_⟩, ?_⟩
          · ((subst hS; go_simp; try simp (disch := omega) only [wrap64_id])); try (with_reducible rfl)
          refine ⟨.inl ⟨by rfl, opOk_pure fun wS hS => ?_⟩, ?_⟩
          · ((subst hS; go_simp; try simp (disch := omega) only [wrap64_id])); try (with_reducible rfl)
          refine ⟨.inl ⟨by rfl, opOk_pure fun wS hS => ?_⟩, ?_⟩
          · ((subst hS; go_simp; try simp (disch := omega) only [wrap64_id])); try (with_reducible rfl)
          try trivial
        case endq0 =>
          intro wE hE
          simp only [fillT, List.setIfInBounds_toArray, List.set_cons_zero, List.set_cons_succ]
          rw [hE]
          go_wp2
          go_roundw
          case rel => exact ⟨k + 1, by omega, by go_num, HS.out.drew⟩
          case measure => (simp [intOf]; try omega)
    · obtain rfl : k = x.spots.length := by omega
      clear hlt
      go_wp2
      clear k1
      go_loopw [6] (fun i wr => ∃ k : Nat, k ≤ x.edges.length ∧ i = .int .i64 k ∧ Sat w wr [rest w (· < w.heap.size), box w.heap.size 25 [.slice As x.spots.length cs, .slice Ae x.edges.length ce], box (w.heap.size + 1) 25 [.slice As2 x.spots.length cs2, .slice Ae2 x.edges.length ce2]]) (fun i _ => x.edges.length - (intOf i).toNat)
      case atStart => exact ⟨0, Nat.zero_le _, rfl, HS.out⟩
      case round =>
        clear HS
        obtain ⟨k, hk, rfl, hS⟩ := hrel
        have HS := Lib.hid hS
        clear hS
        have k1 := HS.out.all
        simp only [allFacts, box_facts, row_facts, emp_facts, cellFacts, Nat.zero_add, Nat.reduceAdd, true_and, and_true] at k1
        by_cases hlt : k < x.edges.length
        · obtain ⟨g, off, rfl, hb, hc⟩ := HW.out.e.at edC_len (by decide) hlt
          have hko := ok.e x.edges[k] (List.getElem_mem hlt)
          obtain ⟨g2, off2, rfl, hb2, hc2⟩ := HV.out.e.at edC_len (by decide) hlt
          generalize hed : x.edges[k] = ed at *
          obtain ⟨a, b, c0, c1, b0, r0, b1, r1⟩ := ed
          try dsimp only at hko
          have HC := Lib.hid hc
          clear hed hc
          have q10 := eq_ends hko.a hko.b
          have q11 := eq_cans hko.c0 hko.c1
          have q12 := eq_fees hko.b0 hko.r0 hko.b1 hko.r1
          dsimp only at q10 q11 q12
          clear hko
          have HC2 := Lib.hid hc2
          clear hc2
          have q0 := restCell HS.out rfl hb (HC.out 0 _ rfl)
          have q1 := restCell HS.out rfl hb (HC.out 1 _ rfl)
          have q2 := restCell HS.out rfl hb (HC.out 2 _ rfl)
          have q3 := restCell HS.out rfl hb (HC.out 3 _ rfl)
          have q4 := restCell HS.out rfl hb (HC.out 4 _ rfl)
          have q5 := restCell HS.out rfl hb (HC.out 5 _ rfl)
          have q6 := restCell HS.out rfl hb (HC.out 6 _ rfl)
          have q7 := restCell HS.out rfl hb (HC.out 7 _ rfl)
          rw [Nat.add_zero] at q0
          have p0 := restCell HS.out rfl hb2 (HC2.out 0 _ rfl)
          have p1 := restCell HS.out rfl hb2 (HC2.out 1 _ rfl)
          have p2 := restCell HS.out rfl hb2 (HC2.out 2 _ rfl)
          have p3 := restCell HS.out rfl hb2 (HC2.out 3 _ rfl)
          have p4 := restCell HS.out rfl hb2 (HC2.out 4 _ rfl)
          have p5 := restCell HS.out rfl hb2 (HC2.out 5 _ rfl)
          have p6 := restCell HS.out rfl hb2 (HC2.out 6 _ rfl)
          have p7 := restCell HS.out rfl hb2 (HC2.out 7 _ rfl)
          rw [Nat.add_zero] at p0
          go_wp2_with fail
          refine region_chain (E := []) (kn := [true, true, true, true, true, true, true, true, true, true, true]) (mask := [true, true, true, true, true, true, true, true, true, true, true]) (vs := [?vp0_0, ?vp0_1, ?vp0_2, ?vp0_3, ?vp0_4, ?vp0_5, ?vp0_6, ?vp0_7, ?vp0_8, ?vp0_9, ?vp0_10]) (S := fun w' => w' = wr.drew) (by kernel_rfl) (by kernel_rfl) (by kernel_rfl) (by kernel_rfl) (by kernel_rfl) ?hSp ?hchp
          case hSp => exact rfl
          case hchp =>
            refine chain_nil (by kernel_rfl) rfl ?opsp0 ?endp0
            case opsp0 =>
              simp only [OpsAt, fillT, List.setIfInBounds_toArray, List.set_cons_zero, List.set_cons_succ]
              refine ⟨.inl ⟨by rfl, opOk_pure fun wS hS => ?_⟩, ?_⟩
              · ((subst hS; go_simp; try simp (disch := omega) only [wrap64_id])); try (with_reducible rfl)
              refine ⟨.inl ⟨by rfl, opOk_pure fun wS hS => ?_⟩, ?_⟩
              · ((subst hS; go_simp; try simp (disch := omega) only [wrap64_id])); try (with_reducible rfl)
              refine ⟨.inl ⟨by rfl, opOk_pure fun wS hS => ?_⟩, ?_⟩
              · ((subst hS; go_simp; try simp (disch := omega) only [wrap64_id])); try (with_reducible rfl)
              refine ⟨.inl ⟨by rfl, opOk_pure fun wS hS => ?_⟩, ?_⟩
              · ((subst hS; go_simp; try simp (disch := omega) only [wrap64_id])); try (with_reducible rfl)
              refine ⟨.inl ⟨by rfl, opOk_pure fun wS hS => ?_⟩, ?_⟩
              · ((subst hS; go_simp; try simp (disch := omega) only [wrap64_id])); try (with_reducible rfl)
              refine ⟨.inl ⟨by rfl, opOk_pure fun wS hS => ?_⟩, ?_⟩
              · ((subst hS; go_simp; try simp (disch := omega) only [wrap64_id])); try (with_reducible rfl)
              refine ⟨.inl ⟨by rfl, opOk_pure fun wS hS => ?_⟩, ?_⟩
              · ((subst hS; go_simp; try simp (disch := omega) only [wrap64_id])); try (with_reducible rfl)
              refine ⟨.inl ⟨by rfl, opOk_pure fun wS hS => ?_⟩, ?_⟩
              · ((subst hS; go_simp; try simp (disch := omega) only [wrap64_id])); try (with_reducible rfl)
              refine ⟨.inl ⟨by rfl, opOk_pure fun wS hS => ?_⟩, ?_⟩
              · ((subst hS; go_simp; try simp (disch := omega) only [wrap64_id])); try (with_reducible rfl)
              refine ⟨.inl ⟨by rfl, opOk_pure fun wS hS => ?_⟩, ?_⟩
              · ((subst hS; go_simp; try simp (disch := omega) only [wrap64_id])); try (with_reducible rfl)
              refine ⟨.inl ⟨by rfl, opOk_pure fun wS hS => ?_⟩, ?_⟩
              · ((subst hS; go_simp; try simp (disch := omega) only [wrap64_id])); try (with_reducible rfl)
              try trivial
            case endp0 =>
              intro wE hE
              simp only [fillT, List.setIfInBounds_toArray, List.set_cons_zero, List.set_cons_succ]
              rw [hE]
              go_wp2
              go_roundw
              case rel => exact ⟨k + 1, by omega, by go_num, HS.out.drew⟩
              case measure => (simp [intOf]; try omega)
        · obtain rfl : k = x.edges.length := by omega
          go_wp2
          go_ret
          exact ⟨rfl, HS.out.below (i := 0) rfl⟩
end Go.Proofs.Ytjbblgefgjmdaaa
