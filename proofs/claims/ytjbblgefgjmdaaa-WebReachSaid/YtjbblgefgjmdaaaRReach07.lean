/- Walks over webs: to which nodes a way leads, as the document says; the same lists. -/
import Derived.Test.YtjbblgefgjmdaaaReach07
namespace Go.Proofs.Ytjbblgefgjmdaaa
set_option linter.unusedVariables false
set_option linter.unusedSimpArgs false
set_option linter.unnecessarySimpa false
open Go Go.RowKit

set_option maxRecDepth 100000 in
set_option maxHeartbeats 4000000 in
theorem rreach_out (w : World) (As : Option Addr) (cs : Nat) (Ae : Option Addr) (ce : Nat) (x : Wb) (h : WebAt w As cs Ae ce x) (ok : x.Ok) (n am : Int) (hn : ¬ inWeb x n) : Calls Try.prog 23 #[.agg #[.slice As x.spots.length cs, .slice Ae x.edges.length ce], .int .i64 n, .int .u64 am] w fun e w' => ∃ A' c', e = .returned (.slice A' (reachP x n am).length c') ∧ Sat w w' [rest w (· < w.heap.size), row 3 1 (.slice A' (reachP x n am).length c') (reachP x n am).length ((reachP x n am).flatMap iC_i64)] := by
  refine enter 93 Try.func23 rfl rfl rfl fun a F => ?_
  have S := Sat.pushRest w
  refine s_reg ?_
  refine l_do F rfl rfl (op_box S _ _ (.agg #[.slice As x.spots.length cs, .slice Ae x.edges.length ce]) F rfl (by kernel_rfl) fun b1 z S a F => ?_)
  refine l_pure 1 (fun L => (6, .slice none 0 0) :: L) F (by kernel_rfl) fun a F => ?_
  refine l_then ?_
  refine wp_seq ?_
  refine s_reg ?_
  refine l_do F rfl rfl (op_loadK _ _ (some ⟨b1, 0, none⟩) 0 [.slice As x.spots.length cs, .slice Ae x.edges.length ce] F rfl (by kernel_rfl) (by kernel_rfl) (by kernel_rfl) (by simp) (cBoxK S 1 rfl 0 (by kernel_rfl)) (fun a F => ?_))
  refine l_do F rfl rfl (op_fn F (by kernel_rfl) (rcheck_any _ As cs Ae ce x (h.move S rfl) ok) ?_)
  rintro e z ⟨rfl, hb⟩
  have S := S.grow hb
  refine ⟨_, rfl, ?_⟩
  intro a F
  by_cases ht2 : (chkP x : Int) = (0 : Int)
  · skip
    refine l_do F rfl rfl (op_pure F (v0 := .bool ((chkP x : Int) != (0 : Int))) (v := .bool false) (by kernel_rfl) (neqF ht2) fun a F => ?_)
    refine l_pure 2 (fun L => (18, .int .i64 n) :: (17, .bool false) :: L) F (by kernel_rfl) fun a F => ?_
    by_cases ht3 : (n : Int) < (0 : Int)
    · skip
      refine l_do F rfl rfl (op_pure F (v0 := .bool (decide ((n : Int) < (0 : Int)))) (v := .bool true) (by kernel_rfl) (lssT ht3) fun a F => ?_)
      refine l_pure 8 (fun L => (27, .bool true) :: (26, undef) :: (25, undef) :: (24, undef) :: (23, undef) :: (22, undef) :: (21, .bool true) :: (20, .bool true) :: L) F (by kernel_rfl) fun a F => ?_
      refine l_then ?_
      refine c_t F rfl ?_
      refine s_reg ?_
      refine l_pure 1 (fun L => (6, .slice none 0 0) :: L) F (by kernel_rfl) fun a F => ?_
      refine l_then ?_
      refine wp_ret ?_
      refine then_r (?_)
      have hz := reach_none (x := x) (n := n) (am := am) hn
      have S := S.nilRow 3 1
      exact fin F [.tmp 6] [.slice none 0 0] rfl ⟨by kernel_rfl, trivial⟩ (.slice none 0 0) rfl ⟨none, 0, ret_sl (by rw [hz]; rfl) rfl, by rw [hz]; exact S.pick [0, 2] (by decide)⟩
    · skip
      refine l_do F rfl rfl (op_pure F (v0 := .bool (decide ((n : Int) < (0 : Int)))) (v := .bool false) (by kernel_rfl) (lssF ht3) fun a F => ?_)
      refine l_pure 4 (fun L => (23, .pointer (some ⟨b1, 0, none⟩)) :: (22, .int .i64 n) :: (21, .bool false) :: (20, .bool false) :: L) F (by kernel_rfl) fun a F => ?_
      refine l_do F rfl rfl (op_load _ _ (some ⟨b1, 0, none⟩) 0 (.slice As x.spots.length cs) F rfl (by kernel_rfl) (by kernel_rfl) (cBox S 1 rfl (j := 0) rfl) (fun a F => ?_))
      refine l_pure 1 (fun L => (25, .int .i64 (x.spots.length : Nat)) :: L) F (by kernel_rfl) fun a F => ?_
      refine l_do F rfl rfl (op_pure F (v0 := .bool (decide ((n : Int) ≥ ((x.spots.length : Nat) : Int)))) (v := .bool true) (by kernel_rfl) (geqT (by have h0 := ht2; exact Classical.byContradiction fun h9 => hn ⟨h0, by omega, by omega⟩)) fun a F => ?_)
      refine l_pure 1 (fun L => (27, .bool true) :: L) F (by kernel_rfl) fun a F => ?_
      refine l_then ?_
      refine c_t F rfl ?_
      refine s_reg ?_
      refine l_pure 1 (fun L => (6, .slice none 0 0) :: L) F (by kernel_rfl) fun a F => ?_
      refine l_then ?_
      refine wp_ret ?_
      refine then_r (?_)
      have hz := reach_none (x := x) (n := n) (am := am) hn
      have S := S.nilRow 3 1
      exact fin F [.tmp 6] [.slice none 0 0] rfl ⟨by kernel_rfl, trivial⟩ (.slice none 0 0) rfl ⟨none, 0, ret_sl (by rw [hz]; rfl) rfl, by rw [hz]; exact S.pick [0, 2] (by decide)⟩
  · skip
    refine l_do F rfl rfl (op_pure F (v0 := .bool ((chkP x : Int) != (0 : Int))) (v := .bool true) (by kernel_rfl) (neqT ht2) fun a F => ?_)
    refine l_pure 11 (fun L => (27, .bool true) :: (26, undef) :: (25, undef) :: (24, undef) :: (23, undef) :: (22, undef) :: (21, .bool true) :: (20, .bool true) :: (19, undef) :: (18, undef) :: (17, .bool true) :: L) F (by kernel_rfl) fun a F => ?_
    refine l_then ?_
    refine c_t F rfl ?_
    refine s_reg ?_
    refine l_pure 1 (fun L => (6, .slice none 0 0) :: L) F (by kernel_rfl) fun a F => ?_
    refine l_then ?_
    refine wp_ret ?_
    refine then_r (?_)
    have hz := reach_none (x := x) (n := n) (am := am) hn
    have S := S.nilRow 3 1
    exact fin F [.tmp 6] [.slice none 0 0] rfl ⟨by kernel_rfl, trivial⟩ (.slice none 0 0) rfl ⟨none, 0, ret_sl (by rw [hz]; rfl) rfl, by rw [hz]; exact S.pick [0, 2] (by decide)⟩
set_option maxRecDepth 100000 in
set_option maxHeartbeats 4000000 in
theorem rreach_in (w : World) (As : Option Addr) (cs : Nat) (Ae : Option Addr) (ce : Nat) (x : Wb) (h : WebAt w As cs Ae ce x) (ok : x.Ok) (n : Nat) (am : Int) (hn : inWeb x (n : Nat)) : Calls Try.prog 23 #[.agg #[.slice As x.spots.length cs, .slice Ae x.edges.length ce], .int .i64 (n : Nat), .int .u64 am] w fun e w' => ∃ A' c', e = .returned (.slice A' (reachP x (n : Nat) am).length c') ∧ Sat w w' [rest w (· < w.heap.size), row 3 1 (.slice A' (reachP x (n : Nat) am).length c') (reachP x (n : Nat) am).length ((reachP x (n : Nat) am).flatMap iC_i64)] := by
  obtain ⟨-, hn0, hn1⟩ := id hn
  obtain ⟨z1, z2, -⟩ := chk_zero hn.1
  have hn1 : n < x.spots.length := by omega
  refine enter 93 Try.func23 rfl rfl rfl fun a F => ?_
  have S := Sat.pushRest w
  refine s_reg ?_
  refine l_do F rfl rfl (op_box S _ _ (.agg #[.slice As x.spots.length cs, .slice Ae x.edges.length ce]) F rfl (by kernel_rfl) fun b1 z S a F => ?_)
  refine l_pure 1 (fun L => (6, .slice none 0 0) :: L) F (by kernel_rfl) fun a F => ?_
  refine l_then ?_
  refine wp_seq ?_
  refine s_reg ?_
  refine l_do F rfl rfl (op_loadK _ _ (some ⟨b1, 0, none⟩) 0 [.slice As x.spots.length cs, .slice Ae x.edges.length ce] F rfl (by kernel_rfl) (by kernel_rfl) (by kernel_rfl) (by simp) (cBoxK S 1 rfl 0 (by kernel_rfl)) (fun a F => ?_))
  refine l_do F rfl rfl (op_fn F (by kernel_rfl) (rcheck_any _ As cs Ae ce x (h.move S rfl) ok) ?_)
  rintro e z ⟨rfl, hb⟩
  have S := S.grow hb
  refine ⟨_, rfl, ?_⟩
  intro a F
  refine l_do F rfl rfl (op_pure F (v0 := .bool ((chkP x : Int) != (0 : Int))) (v := .bool false) (by kernel_rfl) (neqF hn.1) fun a F => ?_)
  refine l_pure 2 (fun L => (18, .int .i64 (n : Nat)) :: (17, .bool false) :: L) F (by kernel_rfl) fun a F => ?_
  refine l_do F rfl rfl (op_pure F (v0 := .bool (decide (((n : Nat) : Int) < (0 : Int)))) (v := .bool false) (by kernel_rfl) (lssF (by omega)) fun a F => ?_)
  refine l_pure 4 (fun L => (23, .pointer (some ⟨b1, 0, none⟩)) :: (22, .int .i64 (n : Nat)) :: (21, .bool false) :: (20, .bool false) :: L) F (by kernel_rfl) fun a F => ?_
  refine l_do F rfl rfl (op_load _ _ (some ⟨b1, 0, none⟩) 0 (.slice As x.spots.length cs) F rfl (by kernel_rfl) (by kernel_rfl) (cBox S 1 rfl (j := 0) rfl) (fun a F => ?_))
  refine l_pure 1 (fun L => (25, .int .i64 (x.spots.length : Nat)) :: L) F (by kernel_rfl) fun a F => ?_
  refine l_do F rfl rfl (op_pure F (v0 := .bool (decide (((n : Nat) : Int) ≥ ((x.spots.length : Nat) : Int)))) (v := .bool false) (by kernel_rfl) (geqF (by omega)) fun a F => ?_)
  refine l_pure 1 (fun L => (27, .bool false) :: L) F (by kernel_rfl) fun a F => ?_
  refine l_then ?_
  refine c_f F rfl ?_
  refine wp_skip ?_
  refine then_n ?_
  refine s_reg ?_
  refine l_pure 1 (fun L => (28, .pointer (some ⟨b1, 0, none⟩)) :: L) F (by kernel_rfl) fun a F => ?_
  refine l_do F rfl rfl (op_load _ _ (some ⟨b1, 0, none⟩) 0 (.slice As x.spots.length cs) F rfl (by kernel_rfl) (by kernel_rfl) (cBox S 1 rfl (j := 0) rfl) (fun a F => ?_))
  refine l_pure 1 (fun L => (30, .int .i64 (x.spots.length : Nat)) :: L) F (by kernel_rfl) fun a F => ?_
  refine l_do F rfl rfl (op_make S _ 4 _ _ .i64 .i64 (.bool false) 1 1 x.spots.length false bC F bC_len rfl (by kernel_rfl) (by kernel_rfl) rfl (by kernel_rfl) (by kernel_rfl) (by kernel_rfl) (by omega) (by omega) fun b2 z S a F => ?_)
  refine l_pure 1 (fun L => (7, .slice (some ⟨b2, 0, none⟩) x.spots.length x.spots.length) :: L) F (by kernel_rfl) fun a F => ?_
  refine l_then ?_
  refine s_reg ?_
  refine l_pure 2 (fun L => (33, .int .i64 (n : Nat)) :: (32, .slice (some ⟨b2, 0, none⟩) x.spots.length x.spots.length) :: L) F (by kernel_rfl) fun a F => ?_
  refine l_do F rfl rfl (op_index _ 4 _ _ (some ⟨b2, 0, none⟩) x.spots.length x.spots.length n 1 .i64 F rfl (by kernel_rfl) (by kernel_rfl) (by kernel_rfl) (by kernel_rfl) (by omega) rfl (fun a F => ?_))
  refine l_do F rfl rfl (op_storeRec S 2 _ _ _ (some ⟨b2, 0, none⟩) n 1 0 (.bool true) true F bC_len (by rw [List.getElem?_replicate, if_pos (by omega)]) rfl rfl (by kernel_rfl) (by kernel_rfl) (by kernel_rfl) (by kernel_rfl) (by kernel_rfl) (by kernel_rfl) (by kernel_rfl) fun z S a F => ?_)
  refine l_then ?_
  refine wp_seq ?_
  refine s_reg ?_
  refine l_pure 1 (fun L => (8, .int .i64 0) :: L) F (by kernel_rfl) fun a F => ?_
  refine l_then ?_
  refine wp_block ?_
  refine wp_loop_m (fun m a z => ∃ (r : Nat) (B0 : List Bool), m = x.spots.length - r ∧ (r ≤ x.spots.length) ∧ (MInv x am (n : Nat) B0) ∧ (MClosed x am B0 ∨ r + 1 ≤ B0.count true) ∧ Fr a 93 [(2, .int .u64 am), (3, .pointer (some ⟨b1, 0, none⟩)), (7, .slice (some ⟨b2, 0, none⟩) x.spots.length x.spots.length), (8, .int .i64 (r : Nat))] ∧ Sat w z [rest w (· < w.heap.size), box b1 25 [.slice As x.spots.length cs, .slice Ae x.edges.length ce], row 4 1 (.slice (some ⟨b2, 0, none⟩) x.spots.length x.spots.length) x.spots.length (B0.flatMap bC)]) _ ⟨0, ((List.replicate x.spots.length false).set n true), rfl, Nat.zero_le _, (MInv.start (n := (n : Nat)) hn), (.inr (List.count_pos_iff.2 (List.mem_of_getElem? (MInv.start (am := am) (n := (n : Nat)) hn).st))), F.sub ⟨by kernel_rfl, by kernel_rfl, by kernel_rfl, by kernel_rfl, trivial⟩, S⟩ ?_
  rintro m a z ⟨r, B0, hm, hf3, hf4, hf5, F, S⟩
  have hM := hf4
  have hR := hf5
  refine wp_seq ?_
  refine s_reg ?_
  refine l_pure 2 (fun L => (36, .pointer (some ⟨b1, 0, none⟩)) :: (35, .int .i64 (r : Nat)) :: L) F (by kernel_rfl) fun a F => ?_
  refine l_do F rfl rfl (op_load _ _ (some ⟨b1, 0, none⟩) 0 (.slice As x.spots.length cs) F rfl (by kernel_rfl) (by kernel_rfl) (cBox S 1 rfl (j := 0) rfl) (fun a F => ?_))
  refine l_pure 1 (fun L => (38, .int .i64 (x.spots.length : Nat)) :: L) F (by kernel_rfl) fun a F => ?_
  by_cases ht6 : ((r : Nat) : Int) < ((x.spots.length : Nat) : Int)
  · skip
    refine l_do F rfl rfl (op_pure F (v0 := .bool (decide (((r : Nat) : Int) < ((x.spots.length : Nat) : Int)))) (v := .bool true) (by kernel_rfl) (lssT ht6) fun a F => ?_)
    refine l_then ?_
    refine c_t F rfl ?_
    refine wp_skip ?_
    refine then_n ?_
    refine wp_seq ?_
    refine wp_block ?_
    refine s_reg ?_
    refine l_pure 1 (fun L => (9, .int .i64 0) :: L) F (by kernel_rfl) fun a F => ?_
    refine l_then ?_
    refine wp_block ?_
    refine wp_loop_m (fun m a z => ∃ (v : Nat) (B : List Bool), m = x.spots.length - v ∧ (v ≤ x.spots.length) ∧ (NInv x am (n : Nat) B0 B v) ∧ Fr a 93 [(2, .int .u64 am), (3, .pointer (some ⟨b1, 0, none⟩)), (7, .slice (some ⟨b2, 0, none⟩) x.spots.length x.spots.length), (8, .int .i64 (r : Nat)), (9, .int .i64 (v : Nat))] ∧ Sat w z [rest w (· < w.heap.size), box b1 25 [.slice As x.spots.length cs, .slice Ae x.edges.length ce], row 4 1 (.slice (some ⟨b2, 0, none⟩) x.spots.length x.spots.length) x.spots.length (B.flatMap bC)]) _ ⟨0, B0, rfl, Nat.zero_le _, (NInv.start hM), F.sub ⟨by kernel_rfl, by kernel_rfl, by kernel_rfl, by kernel_rfl, by kernel_rfl, trivial⟩, S⟩ ?_
    rintro m a z ⟨v, B, hm, hf7, hf8, F, S⟩
    have hN := hf8
    refine wp_seq ?_
    refine s_reg ?_
    refine l_pure 2 (fun L => (43, .pointer (some ⟨b1, 0, none⟩)) :: (42, .int .i64 (v : Nat)) :: L) F (by kernel_rfl) fun a F => ?_
    refine l_do F rfl rfl (op_load _ _ (some ⟨b1, 0, none⟩) 0 (.slice As x.spots.length cs) F rfl (by kernel_rfl) (by kernel_rfl) (cBox S 1 rfl (j := 0) rfl) (fun a F => ?_))
    refine l_pure 1 (fun L => (45, .int .i64 (x.spots.length : Nat)) :: L) F (by kernel_rfl) fun a F => ?_
    by_cases ht9 : ((v : Nat) : Int) < ((x.spots.length : Nat) : Int)
    · skip
      refine l_do F rfl rfl (op_pure F (v0 := .bool (decide (((v : Nat) : Int) < ((x.spots.length : Nat) : Int)))) (v := .bool true) (by kernel_rfl) (lssT ht9) fun a F => ?_)
      refine l_then ?_
      refine c_t F rfl ?_
      refine wp_skip ?_
      refine then_n ?_
      refine wp_seq ?_
      refine wp_block ?_
      refine s_reg ?_
      refine l_do F rfl rfl (op_loadK _ _ (some ⟨b1, 0, none⟩) 0 [.slice As x.spots.length cs, .slice Ae x.edges.length ce] F rfl (by kernel_rfl) (by kernel_rfl) (by kernel_rfl) (by simp) (cBoxK S 1 rfl 0 (by kernel_rfl)) (fun a F => ?_))
      refine l_pure 1 (fun L => (50, .int .i64 (v : Nat)) :: L) F (by kernel_rfl) fun a F => ?_
      refine l_do F rfl rfl (op_fn F (by kernel_rfl) (rsteps_any _ As cs Ae ce x (h.move S rfl) ok (v : Nat)) ?_)
      rintro e z ⟨A10, c11, rfl, g⟩
      have S := S.pushThings g
      refine ⟨_, rfl, ?_⟩
      intro a F
      refine l_pure 1 (fun L => (10, .slice A10 ((stepsP x (v : Nat)).length) c11) :: L) F (by kernel_rfl) fun a F => ?_
      refine l_then ?_
      refine s_reg ?_
      refine l_pure 1 (fun L => (11, .int .i64 0) :: L) F (by kernel_rfl) fun a F => ?_
      refine l_then ?_
      refine wp_block ?_
      have hfew := steps_few x (v : Nat)
      refine wp_loop_m (fun m a z => ∃ (j : Nat) (B : List Bool), m = (stepsP x (v : Nat)).length - j ∧ (j ≤ (stepsP x (v : Nat)).length) ∧ (NInv x am (n : Nat) B0 B v) ∧ (∀ t ∈ (stepsP x (v : Nat)).take j, am ≤ t.can → B[t.to.toNat]? = some true) ∧ Fr a 93 [(2, .int .u64 am), (3, .pointer (some ⟨b1, 0, none⟩)), (7, .slice (some ⟨b2, 0, none⟩) x.spots.length x.spots.length), (8, .int .i64 (r : Nat)), (9, .int .i64 (v : Nat)), (10, .slice A10 ((stepsP x (v : Nat)).length) c11), (11, .int .i64 (j : Nat))] ∧ Sat w z [rest w (· < w.heap.size), box b1 25 [.slice As x.spots.length cs, .slice Ae x.edges.length ce], row 4 1 (.slice (some ⟨b2, 0, none⟩) x.spots.length x.spots.length) x.spots.length (B.flatMap bC), row 47 5 (.slice A10 ((stepsP x (v : Nat)).length) c11) ((stepsP x (v : Nat)).length) ((stepsP x (v : Nat)).flatMap stC)]) _ ⟨0, B, rfl, Nat.zero_le _, hN, (fun t ht => by simp at ht), F.sub ⟨by kernel_rfl, by kernel_rfl, by kernel_rfl, by kernel_rfl, by kernel_rfl, by kernel_rfl, by kernel_rfl, trivial⟩, S⟩ ?_
      rintro m a z ⟨j, B, hm, hf12, hf13, hf14, F, S⟩
      have hN := hf13
      have hj := hf14
      have hBl := hN.i.len
      refine wp_seq ?_
      refine s_reg ?_
      refine l_pure 2 (fun L => (53, .int .i64 (v : Nat)) :: (52, .slice (some ⟨b2, 0, none⟩) x.spots.length x.spots.length) :: L) F (by kernel_rfl) fun a F => ?_
      refine l_do F rfl rfl (op_index _ 4 _ _ (some ⟨b2, 0, none⟩) x.spots.length x.spots.length v 1 .i64 F rfl (by kernel_rfl) (by kernel_rfl) (by kernel_rfl) (by kernel_rfl) (by omega) rfl (fun a F => ?_))
      rcases bool_at (B := B) (m := v) (by omega) with hu | hu
      · skip
        refine l_do F rfl rfl (op_load _ _ (some ⟨b2, 0, none⟩) (v * 1) (.bool false) F rfl (by kernel_rfl) (by kernel_rfl) (cRec S 2 bC_len rfl 0 hu rfl) (fun a F => ?_))
        refine l_pure 6 (fun L => (61, .bool false) :: (60, undef) :: (59, undef) :: (58, undef) :: (57, undef) :: (56, .bool false) :: L) F (by kernel_rfl) fun a F => ?_
        refine l_then ?_
        refine c_f F rfl ?_
        refine wp_exit ?_
        refine then_x ?_
        refine then_x ?_
        refine inb_x ?_
        refine inb_n ?_
        refine then_n ?_
        refine wp_region_list ?_
        refine l_pure 1 (fun L => (47, .int .i64 (v : Nat)) :: L) F (by kernel_rfl) fun a F => ?_
        refine l_do F rfl rfl (op_pure F (v0 := .int .i64 (IntKind.wrap .i64 ((v : Nat) + 1))) (v := .int .i64 (v + 1 : Nat)) (by kernel_rfl) (wrn_i64 (by omega) (by omega) (by omega)) fun a F => ?_)
        refine l_pure 1 (fun L => (9, .int .i64 (v + 1 : Nat)) :: L) F (by kernel_rfl) fun a F => ?_
        refine l_then ?_
        exact ⟨_, (by omega), v + 1, B, rfl, (by omega), (hN.next (fun h => by rw [hu] at h; cases h)), F.sub ⟨by kernel_rfl, by kernel_rfl, by kernel_rfl, by kernel_rfl, by kernel_rfl, trivial⟩, (S.pick [0, 1, 2] (by decide))⟩
      · skip
        refine l_do F rfl rfl (op_load _ _ (some ⟨b2, 0, none⟩) (v * 1) (.bool true) F rfl (by kernel_rfl) (by kernel_rfl) (cRec S 2 bC_len rfl 0 hu rfl) (fun a F => ?_))
        refine l_pure 4 (fun L => (59, .int .i64 ((stepsP x (v : Nat)).length : Nat)) :: (58, .slice A10 ((stepsP x (v : Nat)).length) c11) :: (57, .int .i64 (j : Nat)) :: (56, .bool true) :: L) F (by kernel_rfl) fun a F => ?_
        by_cases ht15 : ((j : Nat) : Int) < (((stepsP x (v : Nat)).length : Nat) : Int)
        · skip
          obtain ⟨s, hs⟩ : ∃ s, (stepsP x (v : Nat))[j]? = some s := ⟨_, List.getElem?_eq_getElem (by omega)⟩
          have hto := step_to (List.mem_of_getElem? hs)
          obtain ⟨se, sto, sc, sb, sr⟩ := s
          dsimp only at hto
          obtain ⟨q, rfl⟩ : ∃ q : Nat, sto = q := ⟨sto.toNat, by omega⟩
          have hBl := hN.i.len
          obtain ⟨bq, hbq⟩ : ∃ bq, B[q]? = some bq := ⟨_, List.getElem?_eq_getElem (by omega)⟩
          refine l_do F rfl rfl (op_pure F (v0 := .bool (decide (((j : Nat) : Int) < (((stepsP x (v : Nat)).length : Nat) : Int)))) (v := .bool true) (by kernel_rfl) (lssT ht15) fun a F => ?_)
          refine l_pure 1 (fun L => (61, .bool true) :: L) F (by kernel_rfl) fun a F => ?_
          refine l_then ?_
          refine c_t F rfl ?_
          refine wp_skip ?_
          refine then_n ?_
          refine wp_seq ?_
          refine wp_block ?_
          refine s_reg ?_
          refine l_pure 2 (fun L => (65, .int .i64 (j : Nat)) :: (64, .slice A10 ((stepsP x (v : Nat)).length) c11) :: L) F (by kernel_rfl) fun a F => ?_
          refine l_do F rfl rfl (op_index _ 47 _ _ A10 ((stepsP x (v : Nat)).length) c11 j 5 .i64 F rfl (by kernel_rfl) (by kernel_rfl) (by kernel_rfl) (by kernel_rfl) (get_lt hs) (row_some S 3 rfl (m := j) (get_lt hs)) (fun a F => ?_))
          refine l_do F rfl rfl (op_field _ _ _ A10 (j * 5) 2 F rfl (by kernel_rfl) (by kernel_rfl) (row_some S 3 rfl (m := j) (get_lt hs)) (fun a F => ?_))
          refine l_do F rfl rfl (op_load _ _ A10 (j * 5 + 2) (.int .u64 sc) F rfl (by kernel_rfl) (by kernel_rfl) (cRec S 3 stC_len rfl 2 hs rfl) (fun a F => ?_))
          refine l_pure 1 (fun L => (69, .int .u64 am) :: L) F (by kernel_rfl) fun a F => ?_
          by_cases ht16 : (am : Int) ≤ (sc : Int)
          · skip
            refine l_do F rfl rfl (op_pure F (v0 := .bool (decide ((sc : Int) ≥ (am : Int)))) (v := .bool true) (by kernel_rfl) (geqT ht16) fun a F => ?_)
            refine l_then ?_
            refine c_t F rfl ?_
            refine wp_region_list ?_
            refine l_pure 3 (fun L => (73, .int .i64 (j : Nat)) :: (72, .slice A10 ((stepsP x (v : Nat)).length) c11) :: (71, .slice (some ⟨b2, 0, none⟩) x.spots.length x.spots.length) :: L) F (by kernel_rfl) fun a F => ?_
            refine l_do F rfl rfl (op_index _ 47 _ _ A10 ((stepsP x (v : Nat)).length) c11 j 5 .i64 F rfl (by kernel_rfl) (by kernel_rfl) (by kernel_rfl) (by kernel_rfl) (get_lt hs) (row_some S 3 rfl (m := j) (get_lt hs)) (fun a F => ?_))
            refine l_do F rfl rfl (op_field _ _ _ A10 (j * 5) 1 F rfl (by kernel_rfl) (by kernel_rfl) (row_some S 3 rfl (m := j) (get_lt hs)) (fun a F => ?_))
            refine l_do F rfl rfl (op_load _ _ A10 (j * 5 + 1) (.int .i64 (q : Int)) F rfl (by kernel_rfl) (by kernel_rfl) (cRec S 3 stC_len rfl 1 hs rfl) (fun a F => ?_))
            refine l_do F rfl rfl (op_index _ 4 _ _ (some ⟨b2, 0, none⟩) x.spots.length x.spots.length q 1 .i64 F rfl (by kernel_rfl) (by kernel_rfl) (by kernel_rfl) (by kernel_rfl) (by have h9 := get_lt hbq; (try simp only [List.length_set] at h9); omega) rfl (fun a F => ?_))
            refine l_do F rfl rfl (op_storeRec S 2 _ _ _ (some ⟨b2, 0, none⟩) q 1 0 (.bool true) true F bC_len hbq rfl rfl (by kernel_rfl) (by kernel_rfl) (by kernel_rfl) (by kernel_rfl) (by kernel_rfl) (by kernel_rfl) (by kernel_rfl) fun z S a F => ?_)
            refine l_nil (inb_n ?_)
            refine then_n ?_
            refine wp_region_list ?_
            refine l_pure 1 (fun L => (62, .int .i64 (j : Nat)) :: L) F (by kernel_rfl) fun a F => ?_
            refine l_do F rfl rfl (op_pure F (v0 := .int .i64 (IntKind.wrap .i64 ((j : Nat) + 1))) (v := .int .i64 (j + 1 : Nat)) (by kernel_rfl) (wrn_i64 (by omega) (by omega) (by omega)) fun a F => ?_)
            refine l_pure 1 (fun L => (11, .int .i64 (j + 1 : Nat)) :: L) F (by kernel_rfl) fun a F => ?_
            refine l_then ?_
            obtain ⟨hN', _, hj'⟩ := hN.mark hu hs ht16 hj
            exact ⟨_, (by omega), j + 1, (B.set q true), rfl, (by omega), hN', hj', F.sub ⟨by kernel_rfl, by kernel_rfl, by kernel_rfl, by kernel_rfl, by kernel_rfl, by kernel_rfl, by kernel_rfl, trivial⟩, S⟩
          · skip
            refine l_do F rfl rfl (op_pure F (v0 := .bool (decide ((sc : Int) ≥ (am : Int)))) (v := .bool false) (by kernel_rfl) (geqF ht16) fun a F => ?_)
            refine l_then ?_
            refine c_f F rfl ?_
            refine wp_skip ?_
            refine inb_n ?_
            refine then_n ?_
            refine wp_region_list ?_
            refine l_pure 1 (fun L => (62, .int .i64 (j : Nat)) :: L) F (by kernel_rfl) fun a F => ?_
            refine l_do F rfl rfl (op_pure F (v0 := .int .i64 (IntKind.wrap .i64 ((j : Nat) + 1))) (v := .int .i64 (j + 1 : Nat)) (by kernel_rfl) (wrn_i64 (by omega) (by omega) (by omega)) fun a F => ?_)
            refine l_pure 1 (fun L => (11, .int .i64 (j + 1 : Nat)) :: L) F (by kernel_rfl) fun a F => ?_
            refine l_then ?_
            exact ⟨_, (by omega), j + 1, B, rfl, (by omega), hN, (NInv.pass hs ht16 hj), F.sub ⟨by kernel_rfl, by kernel_rfl, by kernel_rfl, by kernel_rfl, by kernel_rfl, by kernel_rfl, by kernel_rfl, trivial⟩, S⟩
        · skip
          refine l_do F rfl rfl (op_pure F (v0 := .bool (decide (((j : Nat) : Int) < (((stepsP x (v : Nat)).length : Nat) : Int)))) (v := .bool false) (by kernel_rfl) (lssF ht15) fun a F => ?_)
          refine l_pure 1 (fun L => (61, .bool false) :: L) F (by kernel_rfl) fun a F => ?_
          refine l_then ?_
          refine c_f F rfl ?_
          refine wp_exit ?_
          refine then_x ?_
          refine then_x ?_
          refine inb_x ?_
          refine inb_n ?_
          refine then_n ?_
          refine wp_region_list ?_
          refine l_pure 1 (fun L => (47, .int .i64 (v : Nat)) :: L) F (by kernel_rfl) fun a F => ?_
          refine l_do F rfl rfl (op_pure F (v0 := .int .i64 (IntKind.wrap .i64 ((v : Nat) + 1))) (v := .int .i64 (v + 1 : Nat)) (by kernel_rfl) (wrn_i64 (by omega) (by omega) (by omega)) fun a F => ?_)
          refine l_pure 1 (fun L => (9, .int .i64 (v + 1 : Nat)) :: L) F (by kernel_rfl) fun a F => ?_
          refine l_then ?_
          exact ⟨_, (by omega), v + 1, B, rfl, (by omega), (hN.next (fun _ t ht htc => hj t (by rw [List.take_of_length_le (by omega)]; exact ht) htc)), F.sub ⟨by kernel_rfl, by kernel_rfl, by kernel_rfl, by kernel_rfl, by kernel_rfl, trivial⟩, (S.pick [0, 1, 2] (by decide))⟩
    · skip
      refine l_do F rfl rfl (op_pure F (v0 := .bool (decide (((v : Nat) : Int) < ((x.spots.length : Nat) : Int)))) (v := .bool false) (by kernel_rfl) (lssF ht9) fun a F => ?_)
      refine l_then ?_
      refine c_f F rfl ?_
      refine wp_exit ?_
      refine then_x ?_
      refine then_x ?_
      refine inb_x ?_
      refine inb_n ?_
      refine then_n ?_
      refine wp_region_list ?_
      refine l_pure 1 (fun L => (40, .int .i64 (r : Nat)) :: L) F (by kernel_rfl) fun a F => ?_
      refine l_do F rfl rfl (op_pure F (v0 := .int .i64 (IntKind.wrap .i64 ((r : Nat) + 1))) (v := .int .i64 (r + 1 : Nat)) (by kernel_rfl) (wrn_i64 (by omega) (by omega) (by omega)) fun a F => ?_)
      refine l_pure 1 (fun L => (8, .int .i64 (r + 1 : Nat)) :: L) F (by kernel_rfl) fun a F => ?_
      refine l_then ?_
      exact ⟨_, (by omega), r + 1, B, rfl, (by omega), hN.i, (NInv.round ((show v = x.spots.length from by omega) ▸ hN) hM hn hR), F.sub ⟨by kernel_rfl, by kernel_rfl, by kernel_rfl, by kernel_rfl, trivial⟩, S⟩
  · skip
    refine l_do F rfl rfl (op_pure F (v0 := .bool (decide (((r : Nat) : Int) < ((x.spots.length : Nat) : Int)))) (v := .bool false) (by kernel_rfl) (lssF ht6) fun a F => ?_)
    refine l_then ?_
    refine c_f F rfl ?_
    refine wp_exit ?_
    refine then_x ?_
    refine then_x ?_
    refine inb_x ?_
    refine then_n ?_
    refine s_reg ?_
    refine l_pure 1 (fun L => (12, .slice none 0 0) :: L) F (by kernel_rfl) fun a F => ?_
    refine l_then ?_
    refine wp_seq ?_
    refine s_reg ?_
    refine l_pure 1 (fun L => (13, .int .i64 0) :: L) F (by kernel_rfl) fun a F => ?_
    refine l_then ?_
    refine wp_block ?_
    have hBl := hM.len
    rw [show r = x.spots.length from by omega] at hR
    have hZ := MInv.done hM hn hR
    refine wp_loop_m (fun m a z => ∃ (k : Nat) (A : Option Addr) (c : Nat), m = x.spots.length - k ∧ (k ≤ x.spots.length) ∧ Fr a 93 [(7, .slice (some ⟨b2, 0, none⟩) x.spots.length x.spots.length), (12, .slice A ((marked B0 k).length) c), (13, .int .i64 (k : Nat))] ∧ Sat w z [rest w (· < w.heap.size), box b1 25 [.slice As x.spots.length cs, .slice Ae x.edges.length ce], row 4 1 (.slice (some ⟨b2, 0, none⟩) x.spots.length x.spots.length) x.spots.length (B0.flatMap bC), row 3 1 (.slice A ((marked B0 k).length) c) ((marked B0 k).length) ((marked B0 k).flatMap iC_i64)]) _ ⟨0, none, 0, rfl, Nat.zero_le _, F.sub ⟨by kernel_rfl, by kernel_rfl, by kernel_rfl, trivial⟩, (S.nilRow 3 1)⟩ ?_
    rintro m a z ⟨k, A, c, hm, hf17, F, S⟩
    have hml := marked_len B0 k
    refine wp_seq ?_
    refine s_reg ?_
    refine l_pure 3 (fun L => (80, .int .i64 (x.spots.length : Nat)) :: (79, .slice (some ⟨b2, 0, none⟩) x.spots.length x.spots.length) :: (78, .int .i64 (k : Nat)) :: L) F (by kernel_rfl) fun a F => ?_
    by_cases ht18 : ((k : Nat) : Int) < ((x.spots.length : Nat) : Int)
    · skip
      refine l_do F rfl rfl (op_pure F (v0 := .bool (decide (((k : Nat) : Int) < ((x.spots.length : Nat) : Int)))) (v := .bool true) (by kernel_rfl) (lssT ht18) fun a F => ?_)
      refine l_then ?_
      refine c_t F rfl ?_
      refine wp_skip ?_
      refine then_n ?_
      refine wp_seq ?_
      refine wp_block ?_
      refine s_reg ?_
      refine l_pure 2 (fun L => (85, .int .i64 (k : Nat)) :: (84, .slice (some ⟨b2, 0, none⟩) x.spots.length x.spots.length) :: L) F (by kernel_rfl) fun a F => ?_
      refine l_do F rfl rfl (op_index _ 4 _ _ (some ⟨b2, 0, none⟩) x.spots.length x.spots.length k 1 .i64 F rfl (by kernel_rfl) (by kernel_rfl) (by kernel_rfl) (by kernel_rfl) (by omega) rfl (fun a F => ?_))
      rcases bool_at (B := B0) (m := k) (by omega) with hu | hu
      · skip
        refine l_do F rfl rfl (op_load _ _ (some ⟨b2, 0, none⟩) (k * 1) (.bool false) F rfl (by kernel_rfl) (by kernel_rfl) (cRec S 2 bC_len rfl 0 hu rfl) (fun a F => ?_))
        refine l_then ?_
        refine c_f F rfl ?_
        refine wp_skip ?_
        refine inb_n ?_
        refine then_n ?_
        refine wp_region_list ?_
        refine l_pure 1 (fun L => (82, .int .i64 (k : Nat)) :: L) F (by kernel_rfl) fun a F => ?_
        refine l_do F rfl rfl (op_pure F (v0 := .int .i64 (IntKind.wrap .i64 ((k : Nat) + 1))) (v := .int .i64 (k + 1 : Nat)) (by kernel_rfl) (wrn_i64 (by omega) (by omega) (by omega)) fun a F => ?_)
        refine l_pure 1 (fun L => (13, .int .i64 (k + 1 : Nat)) :: L) F (by kernel_rfl) fun a F => ?_
        refine l_then ?_
        have e9 := marked_no hu
        rw [← e9] at F S
        exact ⟨_, (by omega), k + 1, A, c, rfl, (by omega), F.sub ⟨by kernel_rfl, by kernel_rfl, by kernel_rfl, trivial⟩, S⟩
      · skip
        refine l_do F rfl rfl (op_load _ _ (some ⟨b2, 0, none⟩) (k * 1) (.bool true) F rfl (by kernel_rfl) (by kernel_rfl) (cRec S 2 bC_len rfl 0 hu rfl) (fun a F => ?_))
        refine l_then ?_
        refine c_t F rfl ?_
        refine wp_region_list ?_
        refine l_pure 2 (fun L => (89, .int .i64 (k : Nat)) :: (88, .slice A ((marked B0 k).length) c) :: L) F (by kernel_rfl) fun a F => ?_
        refine l_do F rfl rfl (op_buildSlice S _ 1 _ 3 1 iC_i64 ([(k : Nat)] : List Int) F rfl (by kernel_rfl) (by kernel_rfl) (by kernel_rfl) (by unfold maxLen; omega) fun b19 z S a F => ?_)
        refine l_do F rfl rfl (op_append S 3 _ _ _ 3 (.int .i64 0) 1 8 (marked B0 k) ([(k : Nat)] : List Int) iC_i64 (some ⟨b19, 0, none⟩) 1 F iC_len_i64 (fun _ => rfl) rfl rfl (by kernel_rfl) (by kernel_rfl) rfl rfl rfl (by kernel_rfl) (by kernel_rfl) (row_none (S.rowOf (i := 4) rfl)) (src_row (S.rowOf (i := 4) rfl)) (by first | omega | (simp; omega)) fun A20 c21 z S a F => ?_)
        refine l_pure 1 (fun L => (12, .slice A20 (((marked B0 k) ++ ([(k : Nat)] : List Int)).length) c21) :: L) F (by kernel_rfl) fun a F => ?_
        refine l_nil (inb_n ?_)
        refine then_n ?_
        refine wp_region_list ?_
        refine l_pure 1 (fun L => (82, .int .i64 (k : Nat)) :: L) F (by kernel_rfl) fun a F => ?_
        refine l_do F rfl rfl (op_pure F (v0 := .int .i64 (IntKind.wrap .i64 ((k : Nat) + 1))) (v := .int .i64 (k + 1 : Nat)) (by kernel_rfl) (wrn_i64 (by omega) (by omega) (by omega)) fun a F => ?_)
        refine l_pure 1 (fun L => (13, .int .i64 (k + 1 : Nat)) :: L) F (by kernel_rfl) fun a F => ?_
        refine l_then ?_
        have e9 := marked_yes hu
        rw [← e9] at F S
        exact ⟨_, (by omega), k + 1, A20, c21, rfl, (by omega), F.sub ⟨by kernel_rfl, by kernel_rfl, by kernel_rfl, trivial⟩, (S.pick [0, 1, 2, 3] (by decide))⟩
    · skip
      refine l_do F rfl rfl (op_pure F (v0 := .bool (decide (((k : Nat) : Int) < ((x.spots.length : Nat) : Int)))) (v := .bool false) (by kernel_rfl) (lssF ht18) fun a F => ?_)
      refine l_then ?_
      refine c_f F rfl ?_
      refine wp_exit ?_
      refine then_x ?_
      refine then_x ?_
      refine inb_x ?_
      refine then_n ?_
      refine s_reg ?_
      refine l_pure 2 (fun L => (6, .slice A ((marked B0 k).length) c) :: (92, .slice A ((marked B0 k).length) c) :: L) F (by kernel_rfl) fun a F => ?_
      refine l_then ?_
      refine wp_ret ?_
      have he : marked B0 k = reachP x (n : Nat) am := by rw [show k = x.spots.length from by omega]; exact hZ
      rw [he] at F S
      exact fin F [.tmp 6] [.slice A ((reachP x (n : Nat) am).length) c] rfl ⟨by kernel_rfl, trivial⟩ (.slice A ((reachP x (n : Nat) am).length) c) rfl ⟨_, _, rfl, S.pick [0, 3] (by decide)⟩
set_option maxRecDepth 100000 in
set_option maxHeartbeats 4000000 in
theorem rreach_any (w : World) (As : Option Addr) (cs : Nat) (Ae : Option Addr) (ce : Nat) (x : Wb) (h : WebAt w As cs Ae ce x) (ok : x.Ok) (n am : Int) : Calls Try.prog 23 #[.agg #[.slice As x.spots.length cs, .slice Ae x.edges.length ce], .int .i64 n, .int .u64 am] w fun e w' => ∃ A' c', e = .returned (.slice A' (reachP x n am).length c') ∧ Sat w w' [rest w (· < w.heap.size), row 3 1 (.slice A' (reachP x n am).length c') (reachP x n am).length ((reachP x n am).flatMap iC_i64)] := by
  by_cases hn : inWeb x n
  · obtain ⟨m, rfl⟩ : ∃ m : Nat, n = m := ⟨n.toNat, by have := hn.2.1; omega⟩
    exact rreach_in w As cs Ae ce x h ok m am hn
  · exact rreach_out w As cs Ae ce x h ok n am hn
set_option maxRecDepth 100000 in
set_option maxHeartbeats 4000000 in
theorem samel_any (w : World) (A : Option Addr) (c : Nat) (A2 : Option Addr) (c2 : Nat) (X : List Int) (h : Recs 1 iC_i64 w A c X) (h2 : Recs 1 iC_i64 w A2 c2 X) (hl : X.length ≤ 1000) : Calls Try.prog 22 #[.slice A X.length c, .slice A2 X.length c2] w fun e w' => e = .returned (.bool true) ∧ Below w.heap.size w w' := by
  refine enter 26 Try.func22 rfl rfl rfl fun a F => ?_
  have S := Sat.pushRest w
  refine s_reg ?_
  refine l_pure 1 (fun L => (4, .bool false) :: L) F (by kernel_rfl) fun a F => ?_
  refine l_then ?_
  refine wp_seq ?_
  refine s_reg ?_
  refine l_pure 4 (fun L => (9, .int .i64 (X.length : Nat)) :: (8, .slice A2 X.length c2) :: (7, .int .i64 (X.length : Nat)) :: (6, .slice A X.length c) :: L) F (by kernel_rfl) fun a F => ?_
  refine l_do F rfl rfl (op_pure F (v0 := .bool (((X.length : Nat) : Int) != ((X.length : Nat) : Int))) (v := .bool false) (by kernel_rfl) (neqF rfl) fun a F => ?_)
  refine l_then ?_
  refine c_f F rfl ?_
  refine wp_skip ?_
  refine then_n ?_
  refine wp_seq ?_
  refine s_reg ?_
  refine l_pure 3 (fun L => (13, .int .i64 0) :: (12, .int .i64 (X.length : Nat)) :: (11, .slice A X.length c) :: L) F (by kernel_rfl) fun a F => ?_
  refine l_then ?_
  refine wp_block ?_
  refine wp_loop_m (fun m a z => ∃ (k : Nat), m = X.length - k ∧ (k ≤ X.length) ∧ Fr a 26 [(0, .slice A X.length c), (1, .slice A2 X.length c2), (12, .int .i64 (X.length : Nat)), (13, .int .i64 (k : Nat))] ∧ Sat w z [rest w (· < w.heap.size)]) _ ⟨0, rfl, Nat.zero_le _, F.sub ⟨by kernel_rfl, by kernel_rfl, by kernel_rfl, by kernel_rfl, trivial⟩, S⟩ ?_
  rintro m a z ⟨k, hm, hf1, F, S⟩
  refine s_reg ?_
  by_cases ht2 : ((k : Nat) : Int) < ((X.length : Nat) : Int)
  · skip
    obtain ⟨u, hu⟩ : ∃ u, X[k]? = some u := ⟨_, List.getElem?_eq_getElem (by omega)⟩
    refine l_do F rfl rfl (op_pure F (v0 := .bool (decide (((k : Nat) : Int) < ((X.length : Nat) : Int)))) (v := .bool true) (by kernel_rfl) (lssT ht2) fun a F => ?_)
    refine l_then ?_
    refine wp_seq ?_
    refine c_t F rfl ?_
    refine wp_skip ?_
    refine then_n ?_
    refine wp_seq ?_
    refine wp_block ?_
    refine s_reg ?_
    refine l_pure 2 (fun L => (5, .int .i64 (k : Nat)) :: (15, .int .i64 (k : Nat)) :: L) F (by kernel_rfl) fun a F => ?_
    refine l_then ?_
    refine wp_seq ?_
    refine region_gx (fun D => fun (_ : Unit) => [rest w (· < w.heap.size)]) (fun (_ : Unit) => [.slice A X.length c, .int .i64 (k : Nat), ptrA A (k * 1), .int .i64 u, .slice A2 X.length c2, .int .i64 (k : Nat), ptrA A2 (k * 1), .int .i64 u, .bool false]) [(2, [], [3, 8]), (3, [2], [8]), (6, [], [7, 8]), (7, [6], [8]), (8, [2, 3, 6, 7], [])] () rfl (by kernel_rfl) (by kernel_rfl) F S.drew ?_ ?_ ?_ ?_ ?_
    · rintro ⟨⟩; rfl
    · rintro ⟨⟩; kernel_rfl
    · intro D D' x h
      cases x
      rfl
    · refine ⟨?_, ?_⟩
      · refine ⟨_, rfl, rfl, by kernel_rfl, ?_⟩
        rintro D ⟨⟩ a z S F
        refine ⟨by kernel_rfl, ?_⟩
        exact op_index _ 3 _ _ A X.length c k 1 .i64 F rfl (by kernel_rfl) (by kernel_rfl) (by kernel_rfl) (by kernel_rfl) (get_lt hu) (recs_some h (m := k) (get_lt hu)) (⟨(), rfl, (SameB.refl _ _ rfl), S⟩)
      refine ⟨?_, ?_⟩
      · refine ⟨_, rfl, rfl, by kernel_rfl, ?_⟩
        rintro D ⟨⟩ a z S F
        refine ⟨by kernel_rfl, ?_⟩
        exact op_load _ _ A (k * 1) (.int .i64 u) F rfl (by kernel_rfl) (by kernel_rfl) (cOld S 0 iC_len_i64 h rfl 0 hu rfl) (⟨(), rfl, (SameB.refl _ _ rfl), S⟩)
      refine ⟨?_, ?_⟩
      · refine ⟨_, rfl, rfl, by kernel_rfl, ?_⟩
        rintro D ⟨⟩ a z S F
        refine ⟨by kernel_rfl, ?_⟩
        exact op_index _ 3 _ _ A2 X.length c2 k 1 .i64 F rfl (by kernel_rfl) (by kernel_rfl) (by kernel_rfl) (by kernel_rfl) (get_lt hu) (recs_some h2 (m := k) (get_lt hu)) (⟨(), rfl, (SameB.refl _ _ rfl), S⟩)
      refine ⟨?_, ?_⟩
      · refine ⟨_, rfl, rfl, by kernel_rfl, ?_⟩
        rintro D ⟨⟩ a z S F
        refine ⟨by kernel_rfl, ?_⟩
        exact op_load _ _ A2 (k * 1) (.int .i64 u) F rfl (by kernel_rfl) (by kernel_rfl) (cOld S 0 iC_len_i64 h2 rfl 0 hu rfl) (⟨(), rfl, (SameB.refl _ _ rfl), S⟩)
      refine ⟨?_, ?_⟩
      · refine ⟨_, rfl, rfl, by kernel_rfl, ?_⟩
        rintro D ⟨⟩ a z S F
        refine ⟨by kernel_rfl, ?_⟩
        exact op_pure F (v0 := .bool ((u : Int) != (u : Int))) (v := .bool false) (by kernel_rfl) (neqF rfl) ⟨(), rfl, (SameB.refl _ _ rfl), S⟩
      trivial
    · rintro ⟨⟩ a z F S
      have F := F.sub (l := [(0, .slice A X.length c), (1, .slice A2 X.length c2), (12, .int .i64 (X.length : Nat)), (13, .int .i64 (k : Nat)), (24, .bool false)]) ⟨by kernel_rfl, by kernel_rfl, by kernel_rfl, by kernel_rfl, by kernel_rfl, trivial⟩
      have S : Sat w z [rest w (· < w.heap.size)] := S
      refine then_n ?_
      refine c_f F rfl ?_
      refine wp_skip ?_
      refine inb_n ?_
      refine then_n ?_
      refine wp_region_list ?_
      refine l_do F rfl rfl (op_pure F (v0 := .int .i64 (IntKind.wrap .i64 ((k : Nat) + 1))) (v := .int .i64 (k + 1 : Nat)) (by kernel_rfl) (wrn_i64 (by omega) (by omega) (by omega)) fun a F => ?_)
      refine l_pure 1 (fun L => (13, .int .i64 (k + 1 : Nat)) :: L) F (by kernel_rfl) fun a F => ?_
      refine l_then ?_
      exact ⟨_, (by omega), k + 1, rfl, (by omega), F.sub ⟨by kernel_rfl, by kernel_rfl, by kernel_rfl, by kernel_rfl, trivial⟩, S⟩
  · skip
    refine l_do F rfl rfl (op_pure F (v0 := .bool (decide (((k : Nat) : Int) < ((X.length : Nat) : Int)))) (v := .bool false) (by kernel_rfl) (lssF ht2) fun a F => ?_)
    refine l_then ?_
    refine wp_seq ?_
    refine c_f F rfl ?_
    refine wp_exit ?_
    refine then_x ?_
    refine then_x ?_
    refine inb_x ?_
    refine then_n ?_
    refine s_reg ?_
    refine l_pure 1 (fun L => (4, .bool true) :: L) F (by kernel_rfl) fun a F => ?_
    refine l_then ?_
    refine wp_ret ?_
    exact fin F [.tmp 4] [.bool true] rfl ⟨by kernel_rfl, trivial⟩ (.bool true) rfl ⟨rfl, S.below (i := 0) rfl⟩
end Go.Proofs.Ytjbblgefgjmdaaa
