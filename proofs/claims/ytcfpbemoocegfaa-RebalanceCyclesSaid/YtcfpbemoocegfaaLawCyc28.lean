/- The law RebalanceCycles. -/
import Derived.Test.YtcfpbemoocegfaaCyc2
namespace Go.Proofs.Ytcfpbemoocegfaa
set_option linter.unusedVariables false
set_option linter.unusedSimpArgs false
set_option linter.unnecessarySimpa false
open Go Go.RowKit

set_option maxRecDepth 100000 in
set_option maxHeartbeats 4000000 in
theorem cycles_law (w : World) (As : Option Addr) (cs : Nat) (Ae : Option Addr) (ce : Nat) (x : Wb) (h : WebAt w As cs Ae ce x) (ok : x.Ok) (node out in_ am : Int) (hua : U64 am) : Calls Try.prog 11 #[.agg #[.slice As x.spots.length cs, .slice Ae x.edges.length ce], .int .i64 node, .int .i64 out, .int .i64 in_, .int .u64 am] w fun e w' => e = .returned (.bool true) ∧ Below w.heap.size w w' := by
 refine enter 73 Try.func11 rfl rfl rfl fun a F => ?_
 obtain ⟨r, er, hq⟩ : ∃ r er, cycP x node out in_ am = (r, er) := ⟨_, _, rfl⟩
 obtain ⟨hlen, hfit⟩ := cyc_fit ok hua hq
 have S := Sat.pushRest w
 refine s_reg ?_
 refine l_do F rfl rfl (op_box S _ _ (.agg #[.slice As x.spots.length cs, .slice Ae x.edges.length ce]) F rfl (by kernel_rfl) fun b1 z S a F => ?_)
 refine l_pure 1 (fun L => (10, .bool false) :: L) F (by kernel_rfl) fun a F => ?_
 refine l_then ?_
 refine wp_seq ?_
 refine s_reg ?_
 refine l_do F rfl rfl (op_loadK _ _ (some ⟨b1, 0, none⟩) 0 [.slice As x.spots.length cs, .slice Ae x.edges.length ce] F rfl (by kernel_rfl) (by kernel_rfl) (by kernel_rfl) (by simp) (cBoxK S 1 rfl 0 (by kernel_rfl)) (fun a F => ?_))
 cases hb2 : (lightP x) with
 | false =>
  refine l_do F rfl rfl (op_fn F (by kernel_rfl) (light_any _ As cs Ae ce x) ?_)
  rintro e z ⟨rfl, hb⟩
  have S := S.grow hb
  refine ⟨_, rfl, ?_⟩
  rw [hb2]
  intro a F
  refine l_pure 1 (fun L => (17, .bool true) :: L) F (by kernel_rfl) fun a F => ?_
  refine l_then ?_
  refine c_t F rfl ?_
  refine s_reg ?_
  refine l_do F rfl rfl (op_fn F (by kernel_rfl) (awake28_any _) ?_)
  rintro e z ⟨rfl, hb⟩
  have S := S.grow hb
  refine ⟨_, rfl, ?_⟩
  intro a F
  refine l_pure 1 (fun L => (10, .bool true) :: L) F (by kernel_rfl) fun a F => ?_
  refine l_then ?_
  refine wp_ret ?_
  refine then_r (?_)
  exact fin F [.tmp 10] [.bool true] rfl ⟨by kernel_rfl, trivial⟩ (.bool true) rfl ⟨rfl, S.below (i := 0) rfl⟩
 | true =>
  obtain ⟨l1, l2, l3, l4⟩ := light_small hb2
  refine l_do F rfl rfl (op_fn F (by kernel_rfl) (light_any _ As cs Ae ce x) ?_)
  rintro e z ⟨rfl, hb⟩
  have S := S.grow hb
  refine ⟨_, rfl, ?_⟩
  rw [hb2]
  intro a F
  refine l_pure 1 (fun L => (17, .bool false) :: L) F (by kernel_rfl) fun a F => ?_
  refine l_then ?_
  refine c_f F rfl ?_
  refine wp_skip ?_
  refine then_n ?_
  refine s_reg ?_
  refine l_do F rfl rfl (op_loadK _ _ (some ⟨b1, 0, none⟩) 0 [.slice As x.spots.length cs, .slice Ae x.edges.length ce] F rfl (by kernel_rfl) (by kernel_rfl) (by kernel_rfl) (by simp) (cBoxK S 1 rfl 0 (by kernel_rfl)) (fun a F => ?_))
  refine l_do F rfl rfl (op_fn F (by kernel_rfl) (to_any _ As cs Ae ce x (h.move S rfl) ok ⟨l1, l2⟩) ?_)
  rintro e z ⟨A3, c4, A5, c6, rfl, g⟩
  have S := S.pushThings g
  refine ⟨_, rfl, ?_⟩
  intro a F
  refine l_pure 4 (fun L => (25, .int .u64 am) :: (24, .int .i64 in_) :: (23, .int .i64 out) :: (22, .int .i64 node) :: L) F (by kernel_rfl) fun a F => ?_
  refine l_do F rfl rfl (op_fn F (by kernel_rfl) (pcycle_at _ A3 c4 A5 c6 x (WebAt.ofNew (x := x) (w := w) S (i := 2) (j := 3) rfl rfl ⟨l1, l2⟩) ok node out in_ am hua l1 l2 hq) ?_)
  rintro e z ⟨P1, e1, P2, e2, P3, e3, rfl, g⟩
  have S := S.pushThings g
  refine ⟨_, rfl, ?_⟩
  intro a F
  refine l_pure 3 (fun L => (28, .int .i64 er) :: (27, .agg #[.slice P1 r.nodes.length e1, .slice P2 r.edges.length e2, .slice P3 r.amts.length e3, .int .u64 (cFee r am er)]) :: (19, .tuple #[.agg #[.slice P1 r.nodes.length e1, .slice P2 r.edges.length e2, .slice P3 r.amts.length e3, .int .u64 (cFee r am er)], .int .i64 er]) :: L) F (by kernel_rfl) fun a F => ?_
  refine l_do F rfl rfl (op_alloc S _ (.agg #[.slice none 0 0, .slice none 0 0, .slice none 0 0, .int .u64 0]) rfl (by kernel_rfl) fun b7 z S a F => ?_)
  refine l_do F rfl rfl (op_storeB S 7 _ _ _ b7 0 (.agg #[.slice P1 r.nodes.length e1, .slice P2 r.edges.length e2, .slice P3 r.amts.length e3, .int .u64 (cFee r am er)]) F rfl rfl (by kernel_rfl) (by kernel_rfl) (by kernel_rfl) (by kernel_rfl) (by kernel_rfl) fun z S a F => ?_)
  refine l_pure 1 (fun L => (12, .int .i64 er) :: L) F (by kernel_rfl) fun a F => ?_
  refine l_then ?_
  refine s_reg ?_
  refine l_do F rfl rfl (op_loadK _ _ (some ⟨b1, 0, none⟩) 0 [.slice As x.spots.length cs, .slice Ae x.edges.length ce] F rfl (by kernel_rfl) (by kernel_rfl) (by kernel_rfl) (by simp) (cBoxK S 1 rfl 0 (by kernel_rfl)) (fun a F => ?_))
  refine l_pure 4 (fun L => (34, .int .u64 am) :: (33, .int .i64 in_) :: (32, .int .i64 out) :: (31, .int .i64 node) :: L) F (by kernel_rfl) fun a F => ?_
  refine l_do F rfl rfl (op_fn F (by kernel_rfl) (rcycle_at _ As cs Ae ce x (h.move S rfl) ok node out in_ am hua l1 l2 hq) ?_)
  rintro e z ⟨Q1, f1, Q2, f2, Q3, f3, rfl, g⟩
  have S := S.pushThings g
  refine ⟨_, rfl, ?_⟩
  intro a F
  refine l_pure 3 (fun L => (37, .int .i64 er) :: (36, .agg #[.slice Q1 r.nodes.length f1, .slice Q2 r.edges.length f2, .slice Q3 r.amts.length f3]) :: (29, .tuple #[.agg #[.slice Q1 r.nodes.length f1, .slice Q2 r.edges.length f2, .slice Q3 r.amts.length f3], .int .i64 er]) :: L) F (by kernel_rfl) fun a F => ?_
  refine l_do F rfl rfl (op_alloc S _ (.agg #[.slice none 0 0, .slice none 0 0, .slice none 0 0]) rfl (by kernel_rfl) fun b8 z S a F => ?_)
  refine l_do F rfl rfl (op_storeB S 11 _ _ _ b8 0 (.agg #[.slice Q1 r.nodes.length f1, .slice Q2 r.edges.length f2, .slice Q3 r.amts.length f3]) F rfl rfl (by kernel_rfl) (by kernel_rfl) (by kernel_rfl) (by kernel_rfl) (by kernel_rfl) fun z S a F => ?_)
  refine l_pure 1 (fun L => (14, .int .i64 er) :: L) F (by kernel_rfl) fun a F => ?_
  refine l_then ?_
  refine wp_seq ?_
  refine s_reg ?_
  refine l_pure 2 (fun L => (39, .int .i64 er) :: (38, .int .i64 er) :: L) F (by kernel_rfl) fun a F => ?_
  refine l_do F rfl rfl (op_pure F (v0 := .bool ((er : Int) != (er : Int))) (v := .bool false) (by kernel_rfl) (neqF rfl) fun a F => ?_)
  refine l_pure 2 (fun L => (42, .pointer (some ⟨b7, 0, none⟩)) :: (41, .bool false) :: L) F (by kernel_rfl) fun a F => ?_
  refine l_do F rfl rfl (op_load _ _ (some ⟨b7, 0, none⟩) 0 (.slice P1 r.nodes.length e1) F rfl (by kernel_rfl) (by kernel_rfl) (cBox S 7 rfl (j := 0) rfl) (fun a F => ?_))
  refine l_pure 1 (fun L => (44, .pointer (some ⟨b7, 1, none⟩)) :: L) F (by kernel_rfl) fun a F => ?_
  refine l_do F rfl rfl (op_load _ _ (some ⟨b7, 0, none⟩) 1 (.slice P2 r.edges.length e2) F rfl (by kernel_rfl) (by kernel_rfl) (cBox S 7 rfl (j := 1) rfl) (fun a F => ?_))
  refine l_pure 1 (fun L => (46, .pointer (some ⟨b7, 2, none⟩)) :: L) F (by kernel_rfl) fun a F => ?_
  refine l_do F rfl rfl (op_load _ _ (some ⟨b7, 0, none⟩) 2 (.slice P3 r.amts.length e3) F rfl (by kernel_rfl) (by kernel_rfl) (cBox S 7 rfl (j := 2) rfl) (fun a F => ?_))
  refine l_pure 1 (fun L => (48, .agg #[.slice P1 r.nodes.length e1, .slice P2 r.edges.length e2, .slice P3 r.amts.length e3]) :: L) F (by kernel_rfl) fun a F => ?_
  refine l_do F rfl rfl (op_loadK _ _ (some ⟨b8, 0, none⟩) 0 [.slice Q1 r.nodes.length f1, .slice Q2 r.edges.length f2, .slice Q3 r.amts.length f3] F rfl (by kernel_rfl) (by kernel_rfl) (by kernel_rfl) (by simp) (cBoxK S 11 rfl 0 (by kernel_rfl)) (fun a F => ?_))
  refine l_do F rfl rfl (op_fn F (by kernel_rfl) (same8_any _ r P1 e1 P2 e2 P3 e3 Q1 f1 Q2 f2 Q3 f3 (Recs.ofRow (S.rowOf (i := 4) rfl) (by omega)) (Recs.ofRow (S.rowOf (i := 5) rfl) (by omega)) (Recs.ofRow (S.rowOf (i := 6) rfl) (by omega)) (Recs.ofRow (S.rowOf (i := 8) rfl) (by omega)) (Recs.ofRow (S.rowOf (i := 9) rfl) (by omega)) (Recs.ofRow (S.rowOf (i := 10) rfl) (by omega)) hlen.1 hlen.2.1 (by omega)) ?_)
  rintro e z ⟨rfl, hb⟩
  have S := S.grow hb
  refine ⟨_, rfl, ?_⟩
  intro a F
  refine l_pure 2 (fun L => (52, .bool false) :: (51, .bool false) :: L) F (by kernel_rfl) fun a F => ?_
  refine l_then ?_
  refine c_f F rfl ?_
  refine wp_skip ?_
  refine then_n ?_
  refine wp_seq ?_
  refine s_reg ?_
  refine l_pure 1 (fun L => (53, .int .i64 er) :: L) F (by kernel_rfl) fun a F => ?_
  by_cases ht9 : (er : Int) = (0 : Int)
  ·
   skip
   have her := ht9
   obtain ⟨u, hu, hfe, hu1, hu2⟩ := hfit her
   obtain ⟨ha1, ha2⟩ := hua
   refine l_do F rfl rfl (op_pure F (v0 := .bool ((er : Int) != (0 : Int))) (v := .bool false) (by kernel_rfl) (neqF ht9) fun a F => ?_)
   refine l_then ?_
   refine c_f F rfl ?_
   refine wp_skip ?_
   refine then_n ?_
   refine wp_seq ?_
   refine region_gx (fun D => fun (_ : Unit) => [rest w (· < w.heap.size), box b1 25 [.slice As x.spots.length cs, .slice Ae x.edges.length ce], row 107 2 (.slice A3 x.spots.length c4) x.spots.length (x.spots.flatMap spC), row 62 8 (.slice A5 x.edges.length c6) x.edges.length (x.edges.flatMap edC), row 3 1 (.slice P1 r.nodes.length e1) r.nodes.length (r.nodes.flatMap iC_i64), row 3 1 (.slice P2 r.edges.length e2) r.edges.length (r.edges.flatMap iC_i64), row 26 1 (.slice P3 r.amts.length e3) r.amts.length (r.amts.flatMap iC_u64), box b7 92 [.slice P1 r.nodes.length e1, .slice P2 r.edges.length e2, .slice P3 r.amts.length e3, .int .u64 (cFee r am er)], row 3 1 (.slice Q1 r.nodes.length f1) r.nodes.length (r.nodes.flatMap iC_i64), row 3 1 (.slice Q2 r.edges.length f2) r.edges.length (r.edges.flatMap iC_i64), row 26 1 (.slice Q3 r.amts.length f3) r.amts.length (r.amts.flatMap iC_u64), box b8 45 [.slice Q1 r.nodes.length f1, .slice Q2 r.edges.length f2, .slice Q3 r.amts.length f3]]) (fun (_ : Unit) => [.bool true, .bool true, .pointer (some ⟨b7, 3, none⟩), .int .u64 (cFee r am er), .pointer (some ⟨b8, 2, none⟩), .slice Q3 r.amts.length f3, ptrA Q3 (0 * 1), .int .u64 u, .int .u64 am, .int .u64 (u - am), .bool true, .bool true, .bool true]) [(0, [], [3, 5, 6, 7, 9, 10]), (3, [0], [10]), (5, [0], [6, 7, 9, 10]), (6, [0, 5], [7, 9, 10]), (7, [0, 5, 6], [9, 10]), (9, [0, 5, 6, 7], [10]), (10, [0, 3, 5, 6, 7, 9], [])] () rfl (by kernel_rfl) (by kernel_rfl) F S.drew ?_ ?_ ?_ ?_ ?_
   · rintro ⟨⟩; rfl
   · rintro ⟨⟩; kernel_rfl
   ·
    intro D D' x h
    cases x
    rfl
   ·
    refine ⟨?_, ?_⟩
    ·
     refine ⟨_, rfl, rfl, by kernel_rfl, ?_⟩
     rintro D ⟨⟩ a z S F
     refine ⟨by kernel_rfl, ?_⟩
     refine op_fn F (by kernel_rfl) (awake28_any _) ?_
     rintro e z ⟨rfl, hb⟩
     have S := S.grow hb
     exact ⟨_, rfl, (), rfl, (SameB.refl _ _ rfl), S⟩
    refine ⟨?_, ?_⟩
    ·
     refine ⟨_, rfl, rfl, by kernel_rfl, ?_⟩
     rintro D ⟨⟩ a z S F
     refine ⟨by kernel_rfl, ?_⟩
     exact op_load _ _ (some ⟨b7, 0, none⟩) 3 (.int .u64 (cFee r am er)) F rfl (by kernel_rfl) (by kernel_rfl) (cBox S 7 rfl (j := 3) rfl) (⟨(), rfl, (SameB.refl _ _ rfl), S⟩)
    refine ⟨?_, ?_⟩
    ·
     refine ⟨_, rfl, rfl, by kernel_rfl, ?_⟩
     rintro D ⟨⟩ a z S F
     refine ⟨by kernel_rfl, ?_⟩
     exact op_load _ _ (some ⟨b8, 0, none⟩) 2 (.slice Q3 r.amts.length f3) F rfl (by kernel_rfl) (by kernel_rfl) (cBox S 11 rfl (j := 2) rfl) (⟨(), rfl, (SameB.refl _ _ rfl), S⟩)
    refine ⟨?_, ?_⟩
    ·
     refine ⟨_, rfl, rfl, by kernel_rfl, ?_⟩
     rintro D ⟨⟩ a z S F
     refine ⟨by kernel_rfl, ?_⟩
     exact op_index _ 26 _ _ Q3 r.amts.length f3 0 1 .i64 F rfl (by kernel_rfl) (by kernel_rfl) (by kernel_rfl) (by kernel_rfl) (get_lt hu) (row_some S 10 rfl (m := 0) (get_lt hu)) (⟨(), rfl, (SameB.refl _ _ rfl), S⟩)
    refine ⟨?_, ?_⟩
    ·
     refine ⟨_, rfl, rfl, by kernel_rfl, ?_⟩
     rintro D ⟨⟩ a z S F
     refine ⟨by kernel_rfl, ?_⟩
     exact op_load _ _ Q3 (0 * 1) (.int .u64 u) F rfl (by kernel_rfl) (by kernel_rfl) (cRec S 10 iC_len_u64 rfl 0 hu rfl) (⟨(), rfl, (SameB.refl _ _ rfl), S⟩)
    refine ⟨?_, ?_⟩
    ·
     refine ⟨_, rfl, rfl, by kernel_rfl, ?_⟩
     rintro D ⟨⟩ a z S F
     refine ⟨by kernel_rfl, ?_⟩
     exact op_pure F (v0 := .int .u64 (IntKind.wrap .u64 (u - am))) (v := .int .u64 (u - am)) (by kernel_rfl) (wr_u64 (by omega) (by omega)) ⟨(), rfl, (SameB.refl _ _ rfl), S⟩
    refine ⟨?_, ?_⟩
    ·
     refine ⟨_, rfl, rfl, by kernel_rfl, ?_⟩
     rintro D ⟨⟩ a z S F
     refine ⟨by kernel_rfl, ?_⟩
     exact op_pure F (v0 := .bool ((cFee r am er : Int) == (u - am : Int))) (v := .bool true) (by kernel_rfl) (eqlT hfe) ⟨(), rfl, (SameB.refl _ _ rfl), S⟩
    trivial
   ·
    rintro ⟨⟩ a z F S
    have F := F.sub (l := [(10, .bool true)]) ⟨by kernel_rfl, trivial⟩
    have S : Sat w z [rest w (· < w.heap.size), box b1 25 [.slice As x.spots.length cs, .slice Ae x.edges.length ce], row 107 2 (.slice A3 x.spots.length c4) x.spots.length (x.spots.flatMap spC), row 62 8 (.slice A5 x.edges.length c6) x.edges.length (x.edges.flatMap edC), row 3 1 (.slice P1 r.nodes.length e1) r.nodes.length (r.nodes.flatMap iC_i64), row 3 1 (.slice P2 r.edges.length e2) r.edges.length (r.edges.flatMap iC_i64), row 26 1 (.slice P3 r.amts.length e3) r.amts.length (r.amts.flatMap iC_u64), box b7 92 [.slice P1 r.nodes.length e1, .slice P2 r.edges.length e2, .slice P3 r.amts.length e3, .int .u64 (cFee r am er)], row 3 1 (.slice Q1 r.nodes.length f1) r.nodes.length (r.nodes.flatMap iC_i64), row 3 1 (.slice Q2 r.edges.length f2) r.edges.length (r.edges.flatMap iC_i64), row 26 1 (.slice Q3 r.amts.length f3) r.amts.length (r.amts.flatMap iC_u64), box b8 45 [.slice Q1 r.nodes.length f1, .slice Q2 r.edges.length f2, .slice Q3 r.amts.length f3]] := S
    refine then_n ?_
    refine wp_ret ?_
    exact fin F [.tmp 10] [.bool true] rfl ⟨by kernel_rfl, trivial⟩ (.bool true) rfl ⟨rfl, S.below (i := 0) rfl⟩
  ·
   skip
   have her := ht9
   refine l_do F rfl rfl (op_pure F (v0 := .bool ((er : Int) != (0 : Int))) (v := .bool true) (by kernel_rfl) (neqT ht9) fun a F => ?_)
   refine l_then ?_
   refine c_t F rfl ?_
   refine s_reg ?_
   refine l_do F rfl rfl (op_fn F (by kernel_rfl) (awake28_any _) ?_)
   rintro e z ⟨rfl, hb⟩
   have S := S.grow hb
   refine ⟨_, rfl, ?_⟩
   intro a F
   refine l_pure 2 (fun L => (57, .pointer (some ⟨b7, 3, none⟩)) :: (56, .bool true) :: L) F (by kernel_rfl) fun a F => ?_
   refine l_do F rfl rfl (op_load _ _ (some ⟨b7, 0, none⟩) 3 (.int .u64 (cFee r am er)) F rfl (by kernel_rfl) (by kernel_rfl) (cBox S 7 rfl (j := 3) rfl) (fun a F => ?_))
   refine l_do F rfl rfl (op_pure F (v0 := .bool ((cFee r am er : Int) == (0 : Int))) (v := .bool true) (by kernel_rfl) (eqlT (cFee_bad her)) fun a F => ?_)
   refine l_pure 2 (fun L => (10, .bool true) :: (60, .bool true) :: L) F (by kernel_rfl) fun a F => ?_
   refine l_then ?_
   refine wp_ret ?_
   refine then_r (?_)
   exact fin F [.tmp 10] [.bool true] rfl ⟨by kernel_rfl, trivial⟩ (.bool true) rfl ⟨rfl, S.below (i := 0) rfl⟩
end Go.Proofs.Ytcfpbemoocegfaa
