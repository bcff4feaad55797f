/- Walks over webs: may a web be? at which end is a node? -/
import Derived.Test.YtcfpbemoocegfaaWebP
import Derived.Test.YtcfpbemoocegfaaChain
import Derived.Test.YtcfpbemoocegfaaSumA
import Derived.LoopTactic
import Derived.Deep.Slices
namespace Go.Proofs.Ytcfpbemoocegfaa
set_option linter.unusedVariables false
set_option linter.unusedSimpArgs false
set_option linter.unnecessarySimpa false
open Go.RowKit

/-- A web that lies in memory. -/
structure WebAt (w : World) (As : Option Addr) (cs : Nat) (Ae : Option Addr) (ce : Nat) (x : Wb) : Prop where
  s : Recs 2 spC w As cs x.spots
  e : Recs 8 edC w Ae ce x.edges
theorem WebAt.move {w w' : World} {l : List Asn} (h : Sat w w' l) (hi : l[0]? = some (rest w (· < w.heap.size))) {As : Option Addr} {cs : Nat} {Ae : Option Addr} {ce : Nat} {x : Wb} (hw : WebAt w As cs Ae ce x) : WebAt w' As cs Ae ce x :=
  ⟨hw.s.mono (src_rest h hi hw.s.src (src_lt hw.s.src)), hw.e.mono (src_rest h hi hw.e.src (src_lt hw.e.src))⟩
theorem WebAt.below {w w' : World} (h : Below w.heap.size w w') {As : Option Addr} {cs : Nat} {Ae : Option Addr} {ce : Nat} {x : Wb} (hw : WebAt w As cs Ae ce x) : WebAt w' As cs Ae ce x :=
  hw.move ((Sat.pushRest w).grow h) rfl
def lightP (x : Wb) : Bool := decide (x.spots.length ≤ 20 ∧ x.edges.length ≤ 30)
theorem ret_bool {a b : Bool} (h : a = b) : Ending.returned (.bool a) = .returned (.bool b) := by rw [h]
theorem ret_int {k : IntKind} {a b : Int} (h : a = b) : Ending.returned (.int k a) = .returned (.int k b) := by rw [h]
set_option maxRecDepth 100000 in
set_option maxHeartbeats 2000000 in
theorem light_any (w : World) (As : Option Addr) (cs : Nat) (Ae : Option Addr) (ce : Nat) (x : Wb) : Calls Try.prog 14 #[.agg #[.slice As x.spots.length cs, .slice Ae x.edges.length ce]] w fun e w' => e = .returned (.bool (lightP x)) ∧ Below w.heap.size w w' := by
  have HB := Lib.hid ((Below.refl _ w).alloc (Nat.le_refl _) (.cells #[.slice As x.spots.length cs, .slice Ae x.edges.length ce] 25))
  unfold lightP
  rcases (show 20 < x.spots.length ∨ (x.spots.length ≤ 20 ∧ 30 < x.edges.length) ∨ (x.spots.length ≤ 20 ∧ x.edges.length ≤ 30) by omega) with h1 | ⟨h1, h2⟩ | ⟨h1, h2⟩
  · skip
    go_enter Try.func14, Try.ntmps14
    go_wp2
    go_ret
    exact ⟨ret_bool (by rw [Bool.eq_iff_iff]; simp; try omega), HB.out⟩
  · skip
    go_enter Try.func14, Try.ntmps14
    go_wp2
    go_ret
    exact ⟨ret_bool (by rw [Bool.eq_iff_iff]; simp; try omega), HB.out⟩
  · skip
    go_enter Try.func14, Try.ntmps14
    go_wp2
    go_ret
    exact ⟨ret_bool (by rw [Bool.eq_iff_iff]; simp; try omega), HB.out⟩
def idx2 (x y v : Int) : Int := if x = v then 0 else if y = v then 1 else -1
set_option maxRecDepth 100000 in
set_option maxHeartbeats 2000000 in
theorem index2_any (w : World) (b off : Nat) (c : Nat) (x y v : Int) (h0 : w.cell? ⟨b, off, none⟩ = some (.int .i64 x)) (h1 : w.cell? ⟨b, off + 1, none⟩ = some (.int .i64 y)) : Calls Try.prog 61 #[.slice (some ⟨b, off, none⟩) 2 c, .int .i64 v] w fun e w' => e = .returned (.int .i64 (idx2 x y v)) ∧ w' = w := by
  unfold idx2
  rcases (show x = v ∨ (x ≠ v ∧ y = v) ∨ (x ≠ v ∧ y ≠ v) by omega) with h | ⟨h, g⟩ | ⟨h, g⟩
  · subst h
    rw [if_pos rfl]
    go_enter Try.func61, Try.ntmps61
    go_wp2
    refine wp_loop_rounds 3 ?_
    rw [rounds_succ]
    go_wp2
    go_ret
    exact ⟨rfl, rfl⟩
  · have d1 : (v == x) = false := beq_eq_false_iff_ne.2 (Ne.symm h)
    subst g
    rw [if_neg h, if_pos rfl]
    clear h
    go_enter Try.func61, Try.ntmps61
    go_wp2
    refine wp_loop_rounds 3 ?_
    rw [rounds_succ]
    go_wp2
    rw [rounds_succ]
    go_wp2
    go_ret
    exact ⟨rfl, rfl⟩
  · have d1 : (v == x) = false := beq_eq_false_iff_ne.2 (Ne.symm h)
    have d2 : (v == y) = false := beq_eq_false_iff_ne.2 (Ne.symm g)
    rw [if_neg h, if_neg g]
    clear h g
    go_enter Try.func61, Try.ntmps61
    go_wp2
    refine wp_loop_rounds 3 ?_
    rw [rounds_succ]
    go_wp2
    rw [rounds_succ]
    go_wp2
    rw [rounds_succ]
    go_wp2
    go_ret
    exact ⟨rfl, rfl⟩
set_option maxRecDepth 100000 in
set_option maxHeartbeats 2000000 in
theorem side_any (w : World) (a b c0 c1 b0 r0 b1 r1 n : Int) : Calls Try.prog 25 #[.agg #[.int .i64 a, .int .i64 b, .int .u64 c0, .int .u64 c1, .int .u64 b0, .int .u64 r0, .int .u64 b1, .int .u64 r1], .int .i64 n] w fun e w' => e = .returned (.int .i64 (sideP ⟨a, b, c0, c1, b0, r0, b1, r1⟩ n)) ∧ Below w.heap.size w w' := by
  have h1 := (Sat.pushRest w).alloc #[.int .i64 a, .int .i64 b, .int .u64 c0, .int .u64 c1, .int .u64 b0, .int .u64 r0, .int .u64 b1, .int .u64 r1] 62
  try simp only [List.cons_append, List.nil_append, List.set_cons_succ, List.set_cons_zero, Nat.zero_add, Nat.reduceAdd] at h1
  have k1 := h1.all
  simp only [allFacts, box_facts, row_facts, emp_facts, cellFacts, Nat.zero_add, Nat.reduceAdd, true_and, and_true] at k1
  have HIX := Lib.hid (index2_any (w.alloc (.cells #[.int .i64 a, .int .i64 b, .int .u64 c0, .int .u64 c1, .int .u64 b0, .int .u64 r0, .int .u64 b1, .int .u64 r1] 62)) w.heap.size 0 2 a b n k1.2.1.1 k1.2.1.2.2.1)
  have H1 := Lib.hid h1
  clear h1 k1
  go_enter Try.func25, Try.ntmps25
  go_wp2_with fail
  refine (HIX.out).mono ?_
  rintro e w2 ⟨rfl, hw⟩
  first | rw [show w2 = _ from hw] | rw [show w2 = _ from hw.symm]
  clear hw
  go_wp2
  go_ret
  exact ⟨rfl, H1.out.below (i := 0) rfl⟩
set_option maxRecDepth 100000 in
set_option maxHeartbeats 2000000 in
theorem check_any (w : World) (As : Option Addr) (cs : Nat) (Ae : Option Addr) (ce : Nat) (x : Wb) (h : WebAt w As cs Ae ce x) (ok : x.Ok) : Calls Try.prog 62 #[.agg #[.slice As x.spots.length cs, .slice Ae x.edges.length ce]] w fun e w' => e = .returned (.int .i64 (chkP x)) ∧ Below w.heap.size w w' := by
  have h0 := (Sat.pushRest w).alloc #[.slice As x.spots.length cs, .slice Ae x.edges.length ce] 32
  try simp only [List.cons_append, List.nil_append, List.set_cons_succ, List.set_cons_zero, Nat.zero_add, Nat.reduceAdd] at h0
  have H0 := Lib.hid h0
  have HW := Lib.hid h
  clear h0 h
  rcases (show 8 < x.spots.length ∨ (x.spots.length ≤ 8 ∧ 16 < x.edges.length) ∨ (x.spots.length ≤ 8 ∧ x.edges.length ≤ 16) by omega) with h1 | ⟨h1, h2⟩ | ⟨h1, h2⟩
  · have HR := Lib.hid (show chkP x = 8 from by unfold chkP; rw [if_pos (by omega)])
    go_enter Try.func62, Try.ntmps62
    go_wp2
    go_ret
    exact ⟨ret_int HR.out.symm, H0.out.below (i := 0) rfl⟩
  · have HR := Lib.hid (show chkP x = 8 from by unfold chkP; rw [if_pos (by omega)])
    go_enter Try.func62, Try.ntmps62
    go_wp2
    go_ret
    exact ⟨ret_int HR.out.symm, H0.out.below (i := 0) rfl⟩
  · have hn : ¬ (8 < x.spots.length ∨ 16 < x.edges.length) := by omega
    have HN := Lib.hid hn
    clear hn
    go_enter Try.func62, Try.ntmps62
    go_wp2
    go_loopw [20] (fun i wr => ∃ k : Nat, k ≤ x.edges.length ∧ i = .int .i64 k ∧ (∀ j (hj : j < x.edges.length), j < k → ¬ badE x.spots.length x.edges[j]) ∧ Sat w wr [rest w (· < w.heap.size), box w.heap.size 32 [.slice As x.spots.length cs, .slice Ae x.edges.length ce]]) (fun i _ => x.edges.length - (intOf i).toNat)
    case atStart => exact ⟨0, Nat.zero_le _, rfl, fun j _ hj => absurd hj (Nat.not_lt_zero j), H0.out⟩
    case round =>
      obtain ⟨k, hk, rfl, hg, hS⟩ := hrel
      have HG := Lib.hid hg
      clear H0 hg
      by_cases hlt : k < x.edges.length
      · have hSd := hS
        have hf := (HW.out.move hSd rfl).e
        obtain ⟨g, off, rfl, hb, hc⟩ := hf.at edC_len (by decide) hlt
        have q0 := hc 0 _ rfl
        have q1 := hc 1 _ rfl
        have q2 := hc 2 _ rfl
        have q3 := hc 3 _ rfl
        have q4 := hc 4 _ rfl
        have q5 := hc 5 _ rfl
        have q6 := hc 6 _ rfl
        have q7 := hc 7 _ rfl
        have hbad := fun hb => chk_bad HN.out hlt hb
        have hstep : ¬ badE x.spots.length x.edges[k] → ∀ j (hj : j < x.edges.length), j < k + 1 → ¬ badE x.spots.length x.edges[j] := fun hb j hj hjk => (Nat.lt_or_ge j k).elim (HG.out j hj) (fun h => (show j = k by omega) ▸ hb)
        generalize hed : x.edges[k] = ed at *
        obtain ⟨a, b, c0, c1, b0, r0, b1, r1⟩ := ed
        dsimp only at q0 q1 q2 q3 q4 q5 q6 q7
        rw [Nat.add_zero] at q0
        have hS2 := hSd.alloc #[.int .i64 a, .int .i64 b, .int .u64 c0, .int .u64 c1, .int .u64 b0, .int .u64 r0, .int .u64 b1, .int .u64 r1] 62
        try simp only [List.cons_append, List.nil_append, List.set_cons_succ, List.set_cons_zero, Nat.zero_add, Nat.reduceAdd] at hS2
        have k1 := hSd.all
        simp only [allFacts, box_facts, row_facts, emp_facts, cellFacts, Nat.zero_add, Nat.reduceAdd, true_and, and_true] at k1
        have HS2 := Lib.hid hS2
        have HBAD := Lib.hid hbad
        have HST := Lib.hid hstep
        clear hed hS hSd hf hc hbad hstep hS2
        have hsz : x.spots.length ≤ 9223372036854775807 := by omega
        have i0 : ∀ w, (Instr.index 56 (.agg #[.int .i64 a, .int .i64 b]) (.int .i64 0)).run Try.prog w = .ok (.int .i64 a) w := fun _ => by kernel_rfl
        have i1 : ∀ w, (Instr.index 56 (.agg #[.int .i64 a, .int .i64 b]) (.int .i64 1)).run Try.prog w = .ok (.int .i64 b) w := fun _ => by kernel_rfl
        rcases (show a < 0 ∨ (0 ≤ a ∧ (x.spots.length : Int) ≤ a) ∨ (0 ≤ a ∧ a < x.spots.length ∧ b < 0) ∨ (0 ≤ a ∧ a < x.spots.length ∧ 0 ≤ b ∧ (x.spots.length : Int) ≤ b) ∨ (0 ≤ a ∧ a < x.spots.length ∧ 0 ≤ b ∧ b < x.spots.length ∧ a = b) ∨ (0 ≤ a ∧ a < x.spots.length ∧ 0 ≤ b ∧ b < x.spots.length ∧ a ≠ b) by omega) with g1 | ⟨g1, g2⟩ | ⟨g1, g2, g3⟩ | ⟨g1, g2, g3, g4⟩ | ⟨g1, g2, g3, g4, g5⟩ | ⟨g1, g2, g3, g4, g5⟩
        · have HR := Lib.hid (HBAD.out (.inl g1))
          go_wp2
          refine wp_loop_rounds 3 ?_
          rw [rounds_succ]
          go_wp2
          all_goals (go_ret; exact ⟨ret_int (HR.out.symm), HS2.out.below (i := 0) rfl⟩)
        · have HR := Lib.hid (HBAD.out (.inr (.inl g2)))
          go_wp2
          refine wp_loop_rounds 3 ?_
          rw [rounds_succ]
          go_wp2
          all_goals (go_ret; exact ⟨ret_int (HR.out.symm), HS2.out.below (i := 0) rfl⟩)
        · have HR := Lib.hid (HBAD.out (.inr (.inr (.inl g3))))
          go_wp2
          refine wp_loop_rounds 3 ?_
          rw [rounds_succ]
          go_wp2
          rw [rounds_succ]
          go_wp2
          all_goals (go_ret; exact ⟨ret_int (HR.out.symm), HS2.out.below (i := 0) rfl⟩)
        · have HR := Lib.hid (HBAD.out (.inr (.inr (.inr (.inl g4)))))
          go_wp2
          refine wp_loop_rounds 3 ?_
          rw [rounds_succ]
          go_wp2
          rw [rounds_succ]
          go_wp2
          all_goals (go_ret; exact ⟨ret_int (HR.out.symm), HS2.out.below (i := 0) rfl⟩)
        · have HR := Lib.hid (HBAD.out (.inr (.inr (.inr (.inr g5)))))
          subst g5
          go_wp2
          refine wp_loop_rounds 3 ?_
          rw [rounds_succ]
          go_wp2
          rw [rounds_succ]
          go_wp2
          rw [rounds_succ]
          go_wp2
          all_goals (go_ret; exact ⟨ret_int (HR.out.symm), HS2.out.below (i := 0) rfl⟩)
        · have HG2 := Lib.hid (HST.out (by rintro (h | h | h | h | h) <;> dsimp only at h <;> omega))
          have d5 : (a == b) = false := beq_eq_false_iff_ne.2 g5
          clear g5
          go_wp2
          refine wp_loop_rounds 3 ?_
          rw [rounds_succ]
          go_wp2
          rw [rounds_succ]
          go_wp2
          rw [rounds_succ]
          go_wp2
          go_roundw
          case rel => exact ⟨k + 1, by omega, by go_num, HG2.out, HS2.out.left (l := [_, _]) (l' := [_])⟩
          case measure => (simp [intOf]; try omega)
      · obtain rfl : k = x.edges.length := by omega
        have HR := Lib.hid (chk_good HN.out (fun j hj => HG.out j hj hj))
        have k1 := hS.all
        simp only [allFacts, box_facts, row_facts, emp_facts, cellFacts, Nat.zero_add, Nat.reduceAdd, true_and, and_true] at k1
        have HS := Lib.hid hS
        clear hS
        go_wp2
        go_ret
        exact ⟨ret_int HR.out.symm, HS.out.below (i := 0) rfl⟩
set_option maxRecDepth 100000 in
set_option maxHeartbeats 2000000 in
theorem rcheck_any (w : World) (As : Option Addr) (cs : Nat) (Ae : Option Addr) (ce : Nat) (x : Wb) (h : WebAt w As cs Ae ce x) (ok : x.Ok) : Calls Try.prog 27 #[.agg #[.slice As x.spots.length cs, .slice Ae x.edges.length ce]] w fun e w' => e = .returned (.int .i64 (chkP x)) ∧ Below w.heap.size w w' := by
  have h0 := (Sat.pushRest w).alloc #[.slice As x.spots.length cs, .slice Ae x.edges.length ce] 25
  try simp only [List.cons_append, List.nil_append, List.set_cons_succ, List.set_cons_zero, Nat.zero_add, Nat.reduceAdd] at h0
  have H0 := Lib.hid h0
  have HW := Lib.hid h
  clear h0 h
  rcases (show 8 < x.spots.length ∨ (x.spots.length ≤ 8 ∧ 16 < x.edges.length) ∨ (x.spots.length ≤ 8 ∧ x.edges.length ≤ 16) by omega) with h1 | ⟨h1, h2⟩ | ⟨h1, h2⟩
  · have HR := Lib.hid (show chkP x = 8 from by unfold chkP; rw [if_pos (by omega)])
    go_enter Try.func27, Try.ntmps27
    go_wp2
    go_ret
    exact ⟨ret_int HR.out.symm, H0.out.below (i := 0) rfl⟩
  · have HR := Lib.hid (show chkP x = 8 from by unfold chkP; rw [if_pos (by omega)])
    go_enter Try.func27, Try.ntmps27
    go_wp2
    go_ret
    exact ⟨ret_int HR.out.symm, H0.out.below (i := 0) rfl⟩
  · have hn : ¬ (8 < x.spots.length ∨ 16 < x.edges.length) := by omega
    have HN := Lib.hid hn
    clear hn
    go_enter Try.func27, Try.ntmps27
    go_wp2
    go_loopw [3] (fun i wr => ∃ k : Nat, k ≤ x.edges.length ∧ i = .int .i64 k ∧ (∀ j (hj : j < x.edges.length), j < k → ¬ badE x.spots.length x.edges[j]) ∧ Sat w wr [rest w (· < w.heap.size), box w.heap.size 25 [.slice As x.spots.length cs, .slice Ae x.edges.length ce]]) (fun i _ => x.edges.length - (intOf i).toNat)
    case atStart => exact ⟨0, Nat.zero_le _, rfl, fun j _ hj => absurd hj (Nat.not_lt_zero j), H0.out⟩
    case round =>
      obtain ⟨k, hk, rfl, hg, hS⟩ := hrel
      have HG := Lib.hid hg
      clear H0 hg
      by_cases hlt : k < x.edges.length
      · have hSd := hS
        have hf := (HW.out.move hSd rfl).e
        obtain ⟨g, off, rfl, hb, hc⟩ := hf.at edC_len (by decide) hlt
        have q0 := hc 0 _ rfl
        have q1 := hc 1 _ rfl
        have q2 := hc 2 _ rfl
        have q3 := hc 3 _ rfl
        have q4 := hc 4 _ rfl
        have q5 := hc 5 _ rfl
        have q6 := hc 6 _ rfl
        have q7 := hc 7 _ rfl
        have hbad := fun hb => chk_bad HN.out hlt hb
        have hstep : ¬ badE x.spots.length x.edges[k] → ∀ j (hj : j < x.edges.length), j < k + 1 → ¬ badE x.spots.length x.edges[j] := fun hb j hj hjk => (Nat.lt_or_ge j k).elim (HG.out j hj) (fun h => (show j = k by omega) ▸ hb)
        generalize hed : x.edges[k] = ed at *
        obtain ⟨a, b, c0, c1, b0, r0, b1, r1⟩ := ed
        dsimp only at q0 q1 q2 q3 q4 q5 q6 q7
        rw [Nat.add_zero] at q0
        have hS2 := hSd.drew
        have k1 := hSd.all
        simp only [allFacts, box_facts, row_facts, emp_facts, cellFacts, Nat.zero_add, Nat.reduceAdd, true_and, and_true] at k1
        have HS2 := Lib.hid hS2
        have HBAD := Lib.hid hbad
        have HST := Lib.hid hstep
        clear hed hS hSd hf hc hbad hstep hS2
        have hsz : x.spots.length ≤ 9223372036854775807 := by omega
        have i0 : ∀ w, (Instr.index 56 (.agg #[.int .i64 a, .int .i64 b]) (.int .i64 0)).run Try.prog w = .ok (.int .i64 a) w := fun _ => by kernel_rfl
        have i1 : ∀ w, (Instr.index 56 (.agg #[.int .i64 a, .int .i64 b]) (.int .i64 1)).run Try.prog w = .ok (.int .i64 b) w := fun _ => by kernel_rfl
        rcases (show a < 0 ∨ (0 ≤ a ∧ (x.spots.length : Int) ≤ a) ∨ (0 ≤ a ∧ a < x.spots.length ∧ b < 0) ∨ (0 ≤ a ∧ a < x.spots.length ∧ 0 ≤ b ∧ (x.spots.length : Int) ≤ b) ∨ (0 ≤ a ∧ a < x.spots.length ∧ 0 ≤ b ∧ b < x.spots.length ∧ a = b) ∨ (0 ≤ a ∧ a < x.spots.length ∧ 0 ≤ b ∧ b < x.spots.length ∧ a ≠ b) by omega) with g1 | ⟨g1, g2⟩ | ⟨g1, g2, g3⟩ | ⟨g1, g2, g3, g4⟩ | ⟨g1, g2, g3, g4, g5⟩ | ⟨g1, g2, g3, g4, g5⟩
        · have HR := Lib.hid (HBAD.out (.inl g1))
          go_wp2_with fail
          refine region_chain (E := []) (kn := [true, true, true, true, true, true, true, true, true, true, true, true, true, true, true, true]) (mask := [true, true, true, true, true, true, true, true, true, true, true, true, true, true, true, true]) (vs := [?vq0_0_u1, ?vq0_1_u1, ?vq0_2_u1, ?vq0_3_u1, ?vq0_4_u1, ?vq0_5_u1, ?vq0_6_u1, ?vq0_7_u1, ?vq0_8_u1, ?vq0_9_u1, ?vq0_10_u1, ?vq0_11_u1, ?vq0_12_u1, ?vq0_13_u1, ?vq0_14_u1, ?vq0_15_u1]) (S := fun w' => w' = wr.drew) (by kernel_rfl) (by kernel_rfl) (by kernel_rfl) (by kernel_rfl) (by kernel_rfl) ?hSq_u1 ?hchq_u1
          case hSq_u1 => exact rfl
          case hchq_u1 =>
            refine chain_nil (by kernel_rfl) rfl ?opsq0_u1 ?endq0_u1
            case opsq0_u1 =>
              simp only [OpsAt, fillT, List.setIfInBounds_toArray, List.set_cons_zero, List.set_cons_succ]
              refine ⟨.inl ⟨by rfl, opOk_pure fun wS hS => ?_⟩, ?_⟩
              · ((subst hS; go_simp; try simp (disch := omega) only [wrap64_id])); try (with_reducible rfl)
              refine ⟨.inl ⟨by rfl, opOk_pure fun wS hS => ?_⟩, ?_⟩
              · ((subst hS; go_simp; try simp (disch := omega) only [wrap64_id])); try (with_reducible rfl)
              refine ⟨.inl ⟨by rfl, opOk_pure fun wS hS => ?_⟩, ?_⟩
              · ((subst hS; go_simp; try simp (disch := omega) only [wrap64_id])); try (with_reducible rfl)
              refine ⟨.inl ⟨by rfl, opOk_pure fun wS hS => ?_⟩, ?_⟩
              · ((subst hS; go_simp; try simp (disch := omega) only [wrap64_id])); try (with_reducible rfl)
              refine ⟨.inl ⟨by rfl, opOk_pure fun wS hS => ?_⟩, ?_⟩
              · ((subst hS; go_simp; try simp (disch := omega) only [wrap64_id])); try (with_reducible rfl)
              refine ⟨.inl ⟨by rfl, opOk_pure fun wS hS => ?_⟩, ?_⟩
              · ((subst hS; go_simp; try simp (disch := omega) only [wrap64_id])); try (with_reducible rfl)
              refine ⟨.inl ⟨by rfl, opOk_pure fun wS hS => ?_⟩, ?_⟩
              · ((subst hS; go_simp; try simp (disch := omega) only [wrap64_id])); try (with_reducible rfl)
              refine ⟨.inl ⟨by rfl, opOk_pure fun wS hS => ?_⟩, ?_⟩
              · ((subst hS; go_simp; try simp (disch := omega) only [wrap64_id])); try (with_reducible rfl)
              refine ⟨.inl ⟨by rfl, opOk_pure fun wS hS => ?_⟩, ?_⟩
              · ((subst hS; go_simp; try simp (disch := omega) only [wrap64_id])); try (with_reducible rfl)
              refine ⟨.inl ⟨by rfl, opOk_pure fun wS hS => ?_⟩, ?_⟩
              · ((subst hS; go_simp; try simp (disch := omega) only [wrap64_id])); try (with_reducible rfl)
              refine ⟨.inl ⟨by rfl, opOk_pure fun wS hS => ?_⟩, ?_⟩
              · ((subst hS; go_simp; try simp (disch := omega) only [wrap64_id])); try (with_reducible rfl)
              refine ⟨.inl ⟨by rfl, opOk_pure fun wS hS => ?_⟩, ?_⟩
              · ((subst hS; go_simp; try simp (disch := omega) only [wrap64_id])); try (with_reducible rfl)
              refine ⟨.inl ⟨by rfl, opOk_pure fun wS hS => ?_⟩, ?_⟩
              · ((subst hS; go_simp; try simp (disch := omega) only [wrap64_id])); try (with_reducible rfl)
              refine ⟨.inl ⟨by rfl, opOk_pure fun wS hS => ?_⟩, ?_⟩
              · ((subst hS; go_simp; try simp (disch := omega) only [wrap64_id])); try (with_reducible rfl)
              refine ⟨.inl ⟨by rfl, opOk_pure fun wS hS => ?_⟩, ?_⟩
              · ((subst hS; go_simp; try simp (disch := omega) only [wrap64_id])); try (with_reducible rfl)
              refine ⟨.inl ⟨by rfl, opOk_pure fun wS hS => ?_⟩, ?_⟩
              · ((subst hS; go_simp; try simp (disch := omega) only [wrap64_id])); try (with_reducible rfl)
              try trivial
            case endq0_u1 =>
              intro wE hE
              simp only [fillT, List.setIfInBounds_toArray, List.set_cons_zero, List.set_cons_succ]
              rw [hE]
              go_wp2
              all_goals (go_ret; exact ⟨ret_int (HR.out.symm), HS2.out.below (i := 0) rfl⟩)
        · have HR := Lib.hid (HBAD.out (.inr (.inl g2)))
          go_wp2_with fail
          refine region_chain (E := []) (kn := [true, true, true, true, true, true, true, true, true, true, true, true, true, true, true, true]) (mask := [true, true, true, true, true, true, true, true, true, true, true, true, true, true, true, true]) (vs := [?vq0_0_u2, ?vq0_1_u2, ?vq0_2_u2, ?vq0_3_u2, ?vq0_4_u2, ?vq0_5_u2, ?vq0_6_u2, ?vq0_7_u2, ?vq0_8_u2, ?vq0_9_u2, ?vq0_10_u2, ?vq0_11_u2, ?vq0_12_u2, ?vq0_13_u2, ?vq0_14_u2, ?vq0_15_u2]) (S := fun w' => w' = wr.drew) (by kernel_rfl) (by kernel_rfl) (by kernel_rfl) (by kernel_rfl) (by kernel_rfl) ?hSq_u2 ?hchq_u2
          case hSq_u2 => exact rfl
          case hchq_u2 =>
            refine chain_nil (by kernel_rfl) rfl ?opsq0_u2 ?endq0_u2
            case opsq0_u2 =>
              simp only [OpsAt, fillT, List.setIfInBounds_toArray, List.set_cons_zero, List.set_cons_succ]
              refine ⟨.inl ⟨by rfl, opOk_pure fun wS hS => ?_⟩, ?_⟩
              · ((subst hS; go_simp; try simp (disch := omega) only [wrap64_id])); try (with_reducible rfl)
              refine ⟨.inl ⟨by rfl, opOk_pure fun wS hS => ?_⟩, ?_⟩
              · ((subst hS; go_simp; try simp (disch := omega) only [wrap64_id])); try (with_reducible rfl)
              refine ⟨.inl ⟨by rfl, opOk_pure fun wS hS => ?_⟩, ?_⟩
              · ((subst hS; go_simp; try simp (disch := omega) only [wrap64_id])); try (with_reducible rfl)
              refine ⟨.inl ⟨by rfl, opOk_pure fun wS hS => ?_⟩, ?_⟩
              · ((subst hS; go_simp; try simp (disch := omega) only [wrap64_id])); try (with_reducible rfl)
              refine ⟨.inl ⟨by rfl, opOk_pure fun wS hS => ?_⟩, ?_⟩
              · ((subst hS; go_simp; try simp (disch := omega) only [wrap64_id])); try (with_reducible rfl)
              refine ⟨.inl ⟨by rfl, opOk_pure fun wS hS => ?_⟩, ?_⟩
              · ((subst hS; go_simp; try simp (disch := omega) only [wrap64_id])); try (with_reducible rfl)
              refine ⟨.inl ⟨by rfl, opOk_pure fun wS hS => ?_⟩, ?_⟩
              · ((subst hS; go_simp; try simp (disch := omega) only [wrap64_id])); try (with_reducible rfl)
              refine ⟨.inl ⟨by rfl, opOk_pure fun wS hS => ?_⟩, ?_⟩
              · ((subst hS; go_simp; try simp (disch := omega) only [wrap64_id])); try (with_reducible rfl)
              refine ⟨.inl ⟨by rfl, opOk_pure fun wS hS => ?_⟩, ?_⟩
              · ((subst hS; go_simp; try simp (disch := omega) only [wrap64_id])); try (with_reducible rfl)
              refine ⟨.inl ⟨by rfl, opOk_pure fun wS hS => ?_⟩, ?_⟩
              · ((subst hS; go_simp; try simp (disch := omega) only [wrap64_id])); try (with_reducible rfl)
              refine ⟨.inl ⟨by rfl, opOk_pure fun wS hS => ?_⟩, ?_⟩
              · ((subst hS; go_simp; try simp (disch := omega) only [wrap64_id])); try (with_reducible rfl)
              refine ⟨.inl ⟨by rfl, opOk_pure fun wS hS => ?_⟩, ?_⟩
              · ((subst hS; go_simp; try simp (disch := omega) only [wrap64_id])); try (with_reducible rfl)
              refine ⟨.inl ⟨by rfl, opOk_pure fun wS hS => ?_⟩, ?_⟩
              · ((subst hS; go_simp; try simp (disch := omega) only [wrap64_id])); try (with_reducible rfl)
              refine ⟨.inl ⟨by rfl, opOk_pure fun wS hS => ?_⟩, ?_⟩
              · ((subst hS; go_simp; try simp (disch := omega) only [wrap64_id])); try (with_reducible rfl)
              refine ⟨.inl ⟨by rfl, opOk_pure fun wS hS => ?_⟩, ?_⟩
              · ((subst hS; go_simp; try simp (disch := omega) only [wrap64_id])); try (with_reducible rfl)
              refine ⟨.inl ⟨by rfl, opOk_pure fun wS hS => ?_⟩, ?_⟩
              · ((subst hS; go_simp; try simp (disch := omega) only [wrap64_id])); try (with_reducible rfl)
              try trivial
            case endq0_u2 =>
              intro wE hE
              simp only [fillT, List.setIfInBounds_toArray, List.set_cons_zero, List.set_cons_succ]
              rw [hE]
              go_wp2
              all_goals (go_ret; exact ⟨ret_int (HR.out.symm), HS2.out.below (i := 0) rfl⟩)
        · have HR := Lib.hid (HBAD.out (.inr (.inr (.inl g3))))
          go_wp2_with fail
          refine region_chain (E := []) (kn := [true, true, true, true, true, true, true, true, true, true, true, true, true, true, true, true]) (mask := [true, true, true, true, true, true, true, true, true, true, true, true, true, true, true, true]) (vs := [?vq0_0_u3, ?vq0_1_u3, ?vq0_2_u3, ?vq0_3_u3, ?vq0_4_u3, ?vq0_5_u3, ?vq0_6_u3, ?vq0_7_u3, ?vq0_8_u3, ?vq0_9_u3, ?vq0_10_u3, ?vq0_11_u3, ?vq0_12_u3, ?vq0_13_u3, ?vq0_14_u3, ?vq0_15_u3]) (S := fun w' => w' = wr.drew) (by kernel_rfl) (by kernel_rfl) (by kernel_rfl) (by kernel_rfl) (by kernel_rfl) ?hSq_u3 ?hchq_u3
          case hSq_u3 => exact rfl
          case hchq_u3 =>
            refine chain_nil (by kernel_rfl) rfl ?opsq0_u3 ?endq0_u3
            case opsq0_u3 =>
              simp only [OpsAt, fillT, List.setIfInBounds_toArray, List.set_cons_zero, List.set_cons_succ]
              refine ⟨.inl ⟨by rfl, opOk_pure fun wS hS => ?_⟩, ?_⟩
              · ((subst hS; go_simp; try simp (disch := omega) only [wrap64_id])); try (with_reducible rfl)
              refine ⟨.inl ⟨by rfl, opOk_pure fun wS hS => ?_⟩, ?_⟩
              · ((subst hS; go_simp; try simp (disch := omega) only [wrap64_id])); try (with_reducible rfl)
              refine ⟨.inl ⟨by rfl, opOk_pure fun wS hS => ?_⟩, ?_⟩
              · ((subst hS; go_simp; try simp (disch := omega) only [wrap64_id])); try (with_reducible rfl)
              refine ⟨.inl ⟨by rfl, opOk_pure fun wS hS => ?_⟩, ?_⟩
              · ((subst hS; go_simp; try simp (disch := omega) only [wrap64_id])); try (with_reducible rfl)
              refine ⟨.inl ⟨by rfl, opOk_pure fun wS hS => ?_⟩, ?_⟩
              · ((subst hS; go_simp; try simp (disch := omega) only [wrap64_id])); try (with_reducible rfl)
              refine ⟨.inl ⟨by rfl, opOk_pure fun wS hS => ?_⟩, ?_⟩
              · ((subst hS; go_simp; try simp (disch := omega) only [wrap64_id])); try (with_reducible rfl)
              refine ⟨.inl ⟨by rfl, opOk_pure fun wS hS => ?_⟩, ?_⟩
              · ((subst hS; go_simp; try simp (disch := omega) only [wrap64_id])); try (with_reducible rfl)
              refine ⟨.inl ⟨by rfl, opOk_pure fun wS hS => ?_⟩, ?_⟩
              · ((subst hS; go_simp; try simp (disch := omega) only [wrap64_id])); try (with_reducible rfl)
              refine ⟨.inl ⟨by rfl, opOk_pure fun wS hS => ?_⟩, ?_⟩
              · ((subst hS; go_simp; try simp (disch := omega) only [wrap64_id])); try (with_reducible rfl)
              refine ⟨.inl ⟨by rfl, opOk_pure fun wS hS => ?_⟩, ?_⟩
              · ((subst hS; go_simp; try simp (disch := omega) only [wrap64_id])); try (with_reducible rfl)
              refine ⟨.inl ⟨by rfl, opOk_pure fun wS hS => ?_⟩, ?_⟩
              · ((subst hS; go_simp; try simp (disch := omega) only [wrap64_id])); try (with_reducible rfl)
              refine ⟨.inl ⟨by rfl, opOk_pure fun wS hS => ?_⟩, ?_⟩
              · ((subst hS; go_simp; try simp (disch := omega) only [wrap64_id])); try (with_reducible rfl)
              refine ⟨.inl ⟨by rfl, opOk_pure fun wS hS => ?_⟩, ?_⟩
              · ((subst hS; go_simp; try simp (disch := omega) only [wrap64_id])); try (with_reducible rfl)
              refine ⟨.inl ⟨by rfl, opOk_pure fun wS hS => ?_⟩, ?_⟩
              · ((subst hS; go_simp; try simp (disch := omega) only [wrap64_id])); try (with_reducible rfl)
              refine ⟨.inl ⟨by rfl, opOk_pure fun wS hS => ?_⟩, ?_⟩
              · ((subst hS; go_simp; try simp (disch := omega) only [wrap64_id])); try (with_reducible rfl)
              refine ⟨.inl ⟨by rfl, opOk_pure fun wS hS => ?_⟩, ?_⟩
              · ((subst hS; go_simp; try simp (disch := omega) only [wrap64_id])); try (with_reducible rfl)
              try trivial
            case endq0_u3 =>
              intro wE hE
              simp only [fillT, List.setIfInBounds_toArray, List.set_cons_zero, List.set_cons_succ]
              rw [hE]
              go_wp2
              all_goals (go_ret; exact ⟨ret_int (HR.out.symm), HS2.out.below (i := 0) rfl⟩)
        · have HR := Lib.hid (HBAD.out (.inr (.inr (.inr (.inl g4)))))
          go_wp2_with fail
          refine region_chain (E := []) (kn := [true, true, true, true, true, true, true, true, true, true, true, true, true, true, true, true]) (mask := [true, true, true, true, true, true, true, true, true, true, true, true, true, true, true, true]) (vs := [?vq0_0_u4, ?vq0_1_u4, ?vq0_2_u4, ?vq0_3_u4, ?vq0_4_u4, ?vq0_5_u4, ?vq0_6_u4, ?vq0_7_u4, ?vq0_8_u4, ?vq0_9_u4, ?vq0_10_u4, ?vq0_11_u4, ?vq0_12_u4, ?vq0_13_u4, ?vq0_14_u4, ?vq0_15_u4]) (S := fun w' => w' = wr.drew) (by kernel_rfl) (by kernel_rfl) (by kernel_rfl) (by kernel_rfl) (by kernel_rfl) ?hSq_u4 ?hchq_u4
          case hSq_u4 => exact rfl
          case hchq_u4 =>
            refine chain_nil (by kernel_rfl) rfl ?opsq0_u4 ?endq0_u4
            case opsq0_u4 =>
              simp only [OpsAt, fillT, List.setIfInBounds_toArray, List.set_cons_zero, List.set_cons_succ]
              refine ⟨.inl ⟨by rfl, opOk_pure fun wS hS => ?_⟩, ?_⟩
              · ((subst hS; go_simp; try simp (disch := omega) only [wrap64_id])); try (with_reducible rfl)
              refine ⟨.inl ⟨by rfl, opOk_pure fun wS hS => ?_⟩, ?_⟩
              · ((subst hS; go_simp; try simp (disch := omega) only [wrap64_id])); try (with_reducible rfl)
              refine ⟨.inl ⟨by rfl, opOk_pure fun wS hS => ?_⟩, ?_⟩
              · ((subst hS; go_simp; try simp (disch := omega) only [wrap64_id])); try (with_reducible rfl)
              refine ⟨.inl ⟨by rfl, opOk_pure fun wS hS => ?_⟩, ?_⟩
              · ((subst hS; go_simp; try simp (disch := omega) only [wrap64_id])); try (with_reducible rfl)
              refine ⟨.inl ⟨by rfl, opOk_pure fun wS hS => ?_⟩, ?_⟩
              · ((subst hS; go_simp; try simp (disch := omega) only [wrap64_id])); try (with_reducible rfl)
              refine ⟨.inl ⟨by rfl, opOk_pure fun wS hS => ?_⟩, ?_⟩
              · ((subst hS; go_simp; try simp (disch := omega) only [wrap64_id])); try (with_reducible rfl)
              refine ⟨.inl ⟨by rfl, opOk_pure fun wS hS => ?_⟩, ?_⟩
              · ((subst hS; go_simp; try simp (disch := omega) only [wrap64_id])); try (with_reducible rfl)
              refine ⟨.inl ⟨by rfl, opOk_pure fun wS hS => ?_⟩, ?_⟩
              · ((subst hS; go_simp; try simp (disch := omega) only [wrap64_id])); try (with_reducible rfl)
              refine ⟨.inl ⟨by rfl, opOk_pure fun wS hS => ?_⟩, ?_⟩
              · ((subst hS; go_simp; try simp (disch := omega) only [wrap64_id])); try (with_reducible rfl)
              refine ⟨.inl ⟨by rfl, opOk_pure fun wS hS => ?_⟩, ?_⟩
              · ((subst hS; go_simp; try simp (disch := omega) only [wrap64_id])); try (with_reducible rfl)
              refine ⟨.inl ⟨by rfl, opOk_pure fun wS hS => ?_⟩, ?_⟩
              · ((subst hS; go_simp; try simp (disch := omega) only [wrap64_id])); try (with_reducible rfl)
              refine ⟨.inl ⟨by rfl, opOk_pure fun wS hS => ?_⟩, ?_⟩
              · ((subst hS; go_simp; try simp (disch := omega) only [wrap64_id])); try (with_reducible rfl)
              refine ⟨.inl ⟨by rfl, opOk_pure fun wS hS => ?_⟩, ?_⟩
              · ((subst hS; go_simp; try simp (disch := omega) only [wrap64_id])); try (with_reducible rfl)
              refine ⟨.inl ⟨by rfl, opOk_pure fun wS hS => ?_⟩, ?_⟩
              · ((subst hS; go_simp; try simp (disch := omega) only [wrap64_id])); try (with_reducible rfl)
              refine ⟨.inl ⟨by rfl, opOk_pure fun wS hS => ?_⟩, ?_⟩
              · ((subst hS; go_simp; try simp (disch := omega) only [wrap64_id])); try (with_reducible rfl)
              refine ⟨.inl ⟨by rfl, opOk_pure fun wS hS => ?_⟩, ?_⟩
              · ((subst hS; go_simp; try simp (disch := omega) only [wrap64_id])); try (with_reducible rfl)
              try trivial
            case endq0_u4 =>
              intro wE hE
              simp only [fillT, List.setIfInBounds_toArray, List.set_cons_zero, List.set_cons_succ]
              rw [hE]
              go_wp2
              all_goals (go_ret; exact ⟨ret_int (HR.out.symm), HS2.out.below (i := 0) rfl⟩)
        · have HR := Lib.hid (HBAD.out (.inr (.inr (.inr (.inr g5)))))
          subst g5
          go_wp2_with fail
          refine region_chain (E := []) (kn := [true, true, true, true, true, true, true, true, true, true, true, true, true, true, true, true]) (mask := [true, true, true, true, true, true, true, true, true, true, true, true, true, true, true, true]) (vs := [?vq0_0_u5, ?vq0_1_u5, ?vq0_2_u5, ?vq0_3_u5, ?vq0_4_u5, ?vq0_5_u5, ?vq0_6_u5, ?vq0_7_u5, ?vq0_8_u5, ?vq0_9_u5, ?vq0_10_u5, ?vq0_11_u5, ?vq0_12_u5, ?vq0_13_u5, ?vq0_14_u5, ?vq0_15_u5]) (S := fun w' => w' = wr.drew) (by kernel_rfl) (by kernel_rfl) (by kernel_rfl) (by kernel_rfl) (by kernel_rfl) ?hSq_u5 ?hchq_u5
          case hSq_u5 => exact rfl
          case hchq_u5 =>
            refine chain_nil (by kernel_rfl) rfl ?opsq0_u5 ?endq0_u5
            case opsq0_u5 =>
              simp only [OpsAt, fillT, List.setIfInBounds_toArray, List.set_cons_zero, List.set_cons_succ]
              refine ⟨.inl ⟨by rfl, opOk_pure fun wS hS => ?_⟩, ?_⟩
              · ((subst hS; go_simp; try simp (disch := omega) only [wrap64_id])); try (with_reducible rfl)
              refine ⟨.inl ⟨by rfl, opOk_pure fun wS hS => ?_⟩, ?_⟩
              · ((subst hS; go_simp; try simp (disch := omega) only [wrap64_id])); try (with_reducible rfl)
              refine ⟨.inl ⟨by rfl, opOk_pure fun wS hS => ?_⟩, ?_⟩
              · ((subst hS; go_simp; try simp (disch := omega) only [wrap64_id])); try (with_reducible rfl)
              refine ⟨.inl ⟨by rfl, opOk_pure fun wS hS => ?_⟩, ?_⟩
              · ((subst hS; go_simp; try simp (disch := omega) only [wrap64_id])); try (with_reducible rfl)
              refine ⟨.inl ⟨by rfl, opOk_pure fun wS hS => ?_⟩, ?_⟩
              · ((subst hS; go_simp; try simp (disch := omega) only [wrap64_id])); try (with_reducible rfl)
              refine ⟨.inl ⟨by rfl, opOk_pure fun wS hS => ?_⟩, ?_⟩
              · ((subst hS; go_simp; try simp (disch := omega) only [wrap64_id])); try (with_reducible rfl)
              refine ⟨.inl ⟨by rfl, opOk_pure fun wS hS => ?_⟩, ?_⟩
              · ((subst hS; go_simp; try simp (disch := omega) only [wrap64_id])); try (with_reducible rfl)
              refine ⟨.inl ⟨by rfl, opOk_pure fun wS hS => ?_⟩, ?_⟩
              · ((subst hS; go_simp; try simp (disch := omega) only [wrap64_id])); try (with_reducible rfl)
              refine ⟨.inl ⟨by rfl, opOk_pure fun wS hS => ?_⟩, ?_⟩
              · ((subst hS; go_simp; try simp (disch := omega) only [wrap64_id])); try (with_reducible rfl)
              refine ⟨.inl ⟨by rfl, opOk_pure fun wS hS => ?_⟩, ?_⟩
              · ((subst hS; go_simp; try simp (disch := omega) only [wrap64_id])); try (with_reducible rfl)
              refine ⟨.inl ⟨by rfl, opOk_pure fun wS hS => ?_⟩, ?_⟩
              · ((subst hS; go_simp; try simp (disch := omega) only [wrap64_id])); try (with_reducible rfl)
              refine ⟨.inl ⟨by rfl, opOk_pure fun wS hS => ?_⟩, ?_⟩
              · ((subst hS; go_simp; try simp (disch := omega) only [wrap64_id])); try (with_reducible rfl)
              refine ⟨.inl ⟨by rfl, opOk_pure fun wS hS => ?_⟩, ?_⟩
              · ((subst hS; go_simp; try simp (disch := omega) only [wrap64_id])); try (with_reducible rfl)
              refine ⟨.inl ⟨by rfl, opOk_pure fun wS hS => ?_⟩, ?_⟩
              · ((subst hS; go_simp; try simp (disch := omega) only [wrap64_id])); try (with_reducible rfl)
              refine ⟨.inl ⟨by rfl, opOk_pure fun wS hS => ?_⟩, ?_⟩
              · ((subst hS; go_simp; try simp (disch := omega) only [wrap64_id])); try (with_reducible rfl)
              refine ⟨.inl ⟨by rfl, opOk_pure fun wS hS => ?_⟩, ?_⟩
              · ((subst hS; go_simp; try simp (disch := omega) only [wrap64_id])); try (with_reducible rfl)
              try trivial
            case endq0_u5 =>
              intro wE hE
              simp only [fillT, List.setIfInBounds_toArray, List.set_cons_zero, List.set_cons_succ]
              rw [hE]
              go_wp2
              all_goals (go_ret; exact ⟨ret_int (HR.out.symm), HS2.out.below (i := 0) rfl⟩)
        · have HG2 := Lib.hid (HST.out (by rintro (h | h | h | h | h) <;> dsimp only at h <;> omega))
          have d5 : (a == b) = false := beq_eq_false_iff_ne.2 g5
          clear g5
          go_wp2_with fail
          refine region_chain (E := []) (kn := [true, true, true, true, true, true, true, true, true, true, true, true, true, true, true, true]) (mask := [true, true, true, true, true, true, true, true, true, true, true, true, true, true, true, true]) (vs := [?vq0_0_u6, ?vq0_1_u6, ?vq0_2_u6, ?vq0_3_u6, ?vq0_4_u6, ?vq0_5_u6, ?vq0_6_u6, ?vq0_7_u6, ?vq0_8_u6, ?vq0_9_u6, ?vq0_10_u6, ?vq0_11_u6, ?vq0_12_u6, ?vq0_13_u6, ?vq0_14_u6, ?vq0_15_u6]) (S := fun w' => w' = wr.drew) (by kernel_rfl) (by kernel_rfl) (by kernel_rfl) (by kernel_rfl) (by kernel_rfl) ?hSq_u6 ?hchq_u6
          case hSq_u6 => exact rfl
          case hchq_u6 =>
            refine chain_nil (by kernel_rfl) rfl ?opsq0_u6 ?endq0_u6
            case opsq0_u6 =>
              simp only [OpsAt, fillT, List.setIfInBounds_toArray, List.set_cons_zero, List.set_cons_succ]
              refine ⟨.inl ⟨by rfl, opOk_pure fun wS hS => ?_⟩, ?_⟩
              · ((subst hS; go_simp; try simp (disch := omega) only [wrap64_id])); try (with_reducible rfl)
              refine ⟨.inl ⟨by rfl, opOk_pure fun wS hS => ?_⟩, ?_⟩
              · ((subst hS; go_simp; try simp (disch := omega) only [wrap64_id])); try (with_reducible rfl)
              refine ⟨.inl ⟨by rfl, opOk_pure fun wS hS => ?_⟩, ?_⟩
              · ((subst hS; go_simp; try simp (disch := omega) only [wrap64_id])); try (with_reducible rfl)
              refine ⟨.inl ⟨by rfl, opOk_pure fun wS hS => ?_⟩, ?_⟩
              · ((subst hS; go_simp; try simp (disch := omega) only [wrap64_id])); try (with_reducible rfl)
              refine ⟨.inl ⟨by rfl, opOk_pure fun wS hS => ?_⟩, ?_⟩
              · ((subst hS; go_simp; try simp (disch := omega) only [wrap64_id])); try (with_reducible rfl)
              refine ⟨.inl ⟨by rfl, opOk_pure fun wS hS => ?_⟩, ?_⟩
              · ((subst hS; go_simp; try simp (disch := omega) only [wrap64_id])); try (with_reducible rfl)
              refine ⟨.inl ⟨by rfl, opOk_pure fun wS hS => ?_⟩, ?_⟩
              · ((subst hS; go_simp; try simp (disch := omega) only [wrap64_id])); try (with_reducible rfl)
              refine ⟨.inl ⟨by rfl, opOk_pure fun wS hS => ?_⟩, ?_⟩
              · ((subst hS; go_simp; try simp (disch := omega) only [wrap64_id])); try (with_reducible rfl)
              refine ⟨.inl ⟨by rfl, opOk_pure fun wS hS => ?_⟩, ?_⟩
              · ((subst hS; go_simp; try simp (disch := omega) only [wrap64_id])); try (with_reducible rfl)
              refine ⟨.inl ⟨by rfl, opOk_pure fun wS hS => ?_⟩, ?_⟩
              · ((subst hS; go_simp; try simp (disch := omega) only [wrap64_id])); try (with_reducible rfl)
              refine ⟨.inl ⟨by rfl, opOk_pure fun wS hS => ?_⟩, ?_⟩
              · ((subst hS; go_simp; try simp (disch := omega) only [wrap64_id])); try (with_reducible rfl)
              refine ⟨.inl ⟨by rfl, opOk_pure fun wS hS => ?_⟩, ?_⟩
              · ((subst hS; go_simp; try simp (disch := omega) only [wrap64_id])); try (with_reducible rfl)
              refine ⟨.inl ⟨by rfl, opOk_pure fun wS hS => ?_⟩, ?_⟩
              · ((subst hS; go_simp; try simp (disch := omega) only [wrap64_id])); try (with_reducible rfl)
              refine ⟨.inl ⟨by rfl, opOk_pure fun wS hS => ?_⟩, ?_⟩
              · ((subst hS; go_simp; try simp (disch := omega) only [wrap64_id])); try (with_reducible rfl)
              refine ⟨.inl ⟨by rfl, opOk_pure fun wS hS => ?_⟩, ?_⟩
              · ((subst hS; go_simp; try simp (disch := omega) only [wrap64_id])); try (with_reducible rfl)
              refine ⟨.inl ⟨by rfl, opOk_pure fun wS hS => ?_⟩, ?_⟩
              · ((subst hS; go_simp; try simp (disch := omega) only [wrap64_id])); try (with_reducible rfl)
              try trivial
            case endq0_u6 =>
              intro wE hE
              simp only [fillT, List.setIfInBounds_toArray, List.set_cons_zero, List.set_cons_succ]
              rw [hE]
              go_wp2
              go_roundw
              case rel => exact ⟨k + 1, by omega, by go_num, HG2.out, HS2.out⟩
              case measure => (simp [intOf]; try omega)
      · obtain rfl : k = x.edges.length := by omega
        have HR := Lib.hid (chk_good HN.out (fun j hj => HG.out j hj hj))
        have k1 := hS.all
        simp only [allFacts, box_facts, row_facts, emp_facts, cellFacts, Nat.zero_add, Nat.reduceAdd, true_and, and_true] at k1
        have HS := Lib.hid hS
        clear hS
        go_wp2
        go_ret
        exact ⟨ret_int HR.out.symm, HS.out.below (i := 0) rfl⟩
end Go.Proofs.Ytcfpbemoocegfaa
