/- Walk over the law's example: two channels in a row. -/
import Derived.Test.YtcfpbemoocegfaaBest
import Derived.Test.YtcfpbemoocegfaaWnew
namespace Go.Proofs.Ytcfpbemoocegfaa
set_option linter.unusedVariables false
set_option linter.unusedSimpArgs false
set_option linter.unnecessarySimpa false
open Go Go.RowKit

def x8 : Wb := ⟨[(0, 0), (0, 0), (0, 0)], [⟨0, 1, 9, 0, 0, 0, 0, 0⟩, ⟨1, 2, 9, 0, 1, 0, 0, 0⟩]⟩
theorem x8_ok : x8.Ok := by
  refine ⟨?_, ?_⟩
  · intro e he
    simp [x8] at he
    rcases he with rfl | rfl <;> exact ⟨⟨by decide, by decide⟩, ⟨by decide, by decide⟩, ⟨by decide, by decide⟩, ⟨by decide, by decide⟩, ⟨by decide, by decide⟩, ⟨by decide, by decide⟩, ⟨by decide, by decide⟩, ⟨by decide, by decide⟩⟩
  · intro s hs
    simp [x8] at hs
    subst hs; exact ⟨⟨by decide, by decide⟩, ⟨by decide, by decide⟩⟩
theorem best8 : bestRt x8 0 2 5 = (⟨[0, 1, 2], [0, 1], [6, 5]⟩, 0) := by kernel_rfl
set_option maxRecDepth 100000 in
set_option maxHeartbeats 4000000 in
theorem fees_any8 (w : World) (m : RtM) (hr : Recs 1 iC_u64 w m.A3 m.c3 m.r.amts) (u v : Int) (hu : m.r.amts[0]? = some u) (hv : m.r.amts[m.r.amts.length - 1]? = some v) (hl : m.r.amts.length ≤ 1000) (h1 : v ≤ u) (h2 : u < 18446744073709551616) (h3 : 0 ≤ v) : Calls Try.prog 24 #[.agg #[.slice m.A1 m.r.nodes.length m.c1, .slice m.A2 m.r.edges.length m.c2, .slice m.A3 m.r.amts.length m.c3]] w fun e w' => e = .returned (.int .u64 (u - v)) ∧ Below w.heap.size w w' := by
 refine enter 20 Try.func24 rfl rfl rfl fun a F => ?_
 have S := Sat.pushRest w
 have hlu := get_lt hu
 refine s_reg ?_
 refine l_do F rfl rfl (op_box S _ _ (.agg #[.slice m.A1 m.r.nodes.length m.c1, .slice m.A2 m.r.edges.length m.c2, .slice m.A3 m.r.amts.length m.c3]) F rfl (by kernel_rfl) fun b1 z S a F => ?_)
 refine l_pure 1 (fun L => (2, .int .u64 0) :: L) F (by kernel_rfl) fun a F => ?_
 refine l_then ?_
 refine wp_seq ?_
 refine s_reg ?_
 refine l_pure 1 (fun L => (3, .pointer (some ⟨b1, 2, none⟩)) :: L) F (by kernel_rfl) fun a F => ?_
 refine l_do F rfl rfl (op_load _ _ (some ⟨b1, 0, none⟩) 2 (.slice m.A3 m.r.amts.length m.c3) F rfl (by kernel_rfl) (by kernel_rfl) (cBox S 1 rfl (j := 2) rfl) (fun a F => ?_))
 refine l_pure 1 (fun L => (5, .int .i64 (m.r.amts.length : Nat)) :: L) F (by kernel_rfl) fun a F => ?_
 refine l_do F rfl rfl (op_pure F (v0 := .bool (((m.r.amts.length : Nat) : Int) == (0 : Int))) (v := .bool false) (by kernel_rfl) (eqlF (fun h => by have := get_lt hu; omega)) fun a F => ?_)
 refine l_then ?_
 refine c_f F rfl ?_
 refine wp_skip ?_
 refine then_n ?_
 refine wp_seq ?_
 refine region_gx (fun D => fun (_ : Unit) => [rest w (· < w.heap.size), box b1 47 [.slice m.A1 m.r.nodes.length m.c1, .slice m.A2 m.r.edges.length m.c2, .slice m.A3 m.r.amts.length m.c3]]) (fun (_ : Unit) => [.pointer (some ⟨b1, 2, none⟩), .slice m.A3 m.r.amts.length m.c3, ptrA m.A3 (0 * 1), .int .u64 u, .pointer (some ⟨b1, 2, none⟩), .slice m.A3 m.r.amts.length m.c3, .pointer (some ⟨b1, 2, none⟩), .slice m.A3 m.r.amts.length m.c3, .int .i64 (m.r.amts.length : Nat), .int .i64 (m.r.amts.length - 1 : Nat), ptrA m.A3 ((m.r.amts.length - 1) * 1), .int .u64 v, .int .u64 (u - v), .int .u64 (u - v)]) [(1, [], [2, 3, 12]), (2, [1], [3, 12]), (3, [1, 2], [12]), (5, [], [10, 11, 12]), (7, [], [9, 10, 11, 12]), (9, [7], [10, 11, 12]), (10, [5, 7, 9], [11, 12]), (11, [5, 7, 9, 10], [12]), (12, [1, 2, 3, 5, 7, 9, 10, 11], [])] () rfl (by kernel_rfl) (by kernel_rfl) F S.drew ?_ ?_ ?_ ?_ ?_
 · rintro ⟨⟩; rfl
 · rintro ⟨⟩; kernel_rfl
 ·
  intro D D' x h
  cases x
  rfl
 ·
  refine ⟨?_, ?_⟩
  ·
   refine ⟨_, rfl, rfl, by kernel_rfl, ?_⟩
   rintro D ⟨⟩ a z S F
   refine ⟨by kernel_rfl, ?_⟩
   exact op_load _ _ (some ⟨b1, 0, none⟩) 2 (.slice m.A3 m.r.amts.length m.c3) F rfl (by kernel_rfl) (by kernel_rfl) (cBox S 1 rfl (j := 2) rfl) (⟨(), rfl, (SameB.refl _ _ rfl), S⟩)
  refine ⟨?_, ?_⟩
  ·
   refine ⟨_, rfl, rfl, by kernel_rfl, ?_⟩
   rintro D ⟨⟩ a z S F
   refine ⟨by kernel_rfl, ?_⟩
   exact op_index _ 26 _ _ m.A3 m.r.amts.length m.c3 0 1 .i64 F rfl (by kernel_rfl) (by kernel_rfl) (by kernel_rfl) (by kernel_rfl) (get_lt hu) (recs_some hr (m := 0) (get_lt hu)) (⟨(), rfl, (SameB.refl _ _ rfl), S⟩)
  refine ⟨?_, ?_⟩
  ·
   refine ⟨_, rfl, rfl, by kernel_rfl, ?_⟩
   rintro D ⟨⟩ a z S F
   refine ⟨by kernel_rfl, ?_⟩
   exact op_load _ _ m.A3 (0 * 1) (.int .u64 u) F rfl (by kernel_rfl) (by kernel_rfl) (cOld S 0 iC_len_u64 hr rfl 0 hu rfl) (⟨(), rfl, (SameB.refl _ _ rfl), S⟩)
  refine ⟨?_, ?_⟩
  ·
   refine ⟨_, rfl, rfl, by kernel_rfl, ?_⟩
   rintro D ⟨⟩ a z S F
   refine ⟨by kernel_rfl, ?_⟩
   exact op_load _ _ (some ⟨b1, 0, none⟩) 2 (.slice m.A3 m.r.amts.length m.c3) F rfl (by kernel_rfl) (by kernel_rfl) (cBox S 1 rfl (j := 2) rfl) (⟨(), rfl, (SameB.refl _ _ rfl), S⟩)
  refine ⟨?_, ?_⟩
  ·
   refine ⟨_, rfl, rfl, by kernel_rfl, ?_⟩
   rintro D ⟨⟩ a z S F
   refine ⟨by kernel_rfl, ?_⟩
   exact op_load _ _ (some ⟨b1, 0, none⟩) 2 (.slice m.A3 m.r.amts.length m.c3) F rfl (by kernel_rfl) (by kernel_rfl) (cBox S 1 rfl (j := 2) rfl) (⟨(), rfl, (SameB.refl _ _ rfl), S⟩)
  refine ⟨?_, ?_⟩
  ·
   refine ⟨_, rfl, rfl, by kernel_rfl, ?_⟩
   rintro D ⟨⟩ a z S F
   refine ⟨by kernel_rfl, ?_⟩
   exact op_pure F (v0 := .int .i64 (IntKind.wrap .i64 ((m.r.amts.length : Nat) - 1))) (v := .int .i64 (m.r.amts.length - 1 : Nat)) (by kernel_rfl) (wrn_i64 (by omega) (by omega) (by omega)) ⟨(), rfl, (SameB.refl _ _ rfl), S⟩
  refine ⟨?_, ?_⟩
  ·
   refine ⟨_, rfl, rfl, by kernel_rfl, ?_⟩
   rintro D ⟨⟩ a z S F
   refine ⟨by kernel_rfl, ?_⟩
   exact op_index _ 26 _ _ m.A3 m.r.amts.length m.c3 (m.r.amts.length - 1) 1 .i64 F rfl (by kernel_rfl) (by kernel_rfl) (by kernel_rfl) (by kernel_rfl) (get_lt hv) (recs_some hr (m := m.r.amts.length - 1) (get_lt hv)) (⟨(), rfl, (SameB.refl _ _ rfl), S⟩)
  refine ⟨?_, ?_⟩
  ·
   refine ⟨_, rfl, rfl, by kernel_rfl, ?_⟩
   rintro D ⟨⟩ a z S F
   refine ⟨by kernel_rfl, ?_⟩
   exact op_load _ _ m.A3 ((m.r.amts.length - 1) * 1) (.int .u64 v) F rfl (by kernel_rfl) (by kernel_rfl) (cOld S 0 iC_len_u64 hr rfl 0 hv rfl) (⟨(), rfl, (SameB.refl _ _ rfl), S⟩)
  refine ⟨?_, ?_⟩
  ·
   refine ⟨_, rfl, rfl, by kernel_rfl, ?_⟩
   rintro D ⟨⟩ a z S F
   refine ⟨by kernel_rfl, ?_⟩
   exact op_pure F (v0 := .int .u64 (IntKind.wrap .u64 (u - v))) (v := .int .u64 (u - v)) (by kernel_rfl) (wr_u64 (by omega) (by omega)) ⟨(), rfl, (SameB.refl _ _ rfl), S⟩
  trivial
 ·
  rintro ⟨⟩ a z F S
  have F := F.sub (l := [(2, .int .u64 (u - v))]) ⟨by kernel_rfl, trivial⟩
  have S : Sat w z [rest w (· < w.heap.size), box b1 47 [.slice m.A1 m.r.nodes.length m.c1, .slice m.A2 m.r.edges.length m.c2, .slice m.A3 m.r.amts.length m.c3]] := S
  refine then_n ?_
  refine wp_ret ?_
  exact fin F [.tmp 2] [.int .u64 (u - v)] rfl ⟨by kernel_rfl, trivial⟩ (.int .u64 (u - v)) rfl ⟨rfl, S.below (i := 0) rfl⟩
set_option maxRecDepth 100000 in
set_option maxHeartbeats 4000000 in
theorem awake08_any (w : World) : Calls Try.prog 15 #[] w fun e w' => e = .returned (.bool true) ∧ Below w.heap.size w w' := by
 refine enter 53 Try.func15 rfl rfl rfl fun a F => ?_
 have S := Sat.pushRest w
 refine s_reg ?_
 refine l_pure 1 (fun L => (0, .bool false) :: L) F (by kernel_rfl) fun a F => ?_
 refine l_then ?_
 refine s_reg ?_
 refine l_do F rfl rfl (op_make S _ 106 _ _ .i64 .i64 (.agg #[.int .i64 0, .int .i64 0]) 2 16 3 ((0, 0) : Int × Int) spC F spC_len rfl (by kernel_rfl) (by kernel_rfl) rfl (by kernel_rfl) (by kernel_rfl) (by kernel_rfl) (by omega) (by omega) fun b1 z S a F => ?_)
 refine l_pure 8 (fun L => (12, .agg #[.int .i64 1, .int .i64 2, .int .u64 9, .int .u64 0, .int .u64 1, .int .u64 0, .int .u64 0, .int .u64 0]) :: (11, .agg #[.int .u64 1, .int .u64 0, .int .u64 0, .int .u64 0]) :: (10, .agg #[.int .u64 1, .int .u64 0]) :: (9, .agg #[.int .u64 9, .int .u64 0]) :: (8, .agg #[.int .i64 1, .int .i64 2]) :: (7, .agg #[.int .i64 0, .int .i64 1, .int .u64 9, .int .u64 0, .int .u64 0, .int .u64 0, .int .u64 0, .int .u64 0]) :: (6, .agg #[.int .u64 9, .int .u64 0]) :: (5, .agg #[.int .i64 0, .int .i64 1]) :: L) F (by kernel_rfl) fun a F => ?_
 refine l_do F rfl rfl (op_buildSlice S _ 2 _ 104 8 edC ([(⟨0, 1, 9, 0, 0, 0, 0, 0⟩ : Edg), (⟨1, 2, 9, 0, 1, 0, 0, 0⟩ : Edg)] : List Edg) F rfl (by kernel_rfl) (by kernel_rfl) (by kernel_rfl) (by unfold maxLen; omega) fun b2 z S a F => ?_)
 refine l_pure 1 (fun L => (14, .agg #[.slice (some ⟨b1, 0, none⟩) 3 3, .slice (some ⟨b2, 0, none⟩) 2 2]) :: L) F (by kernel_rfl) fun a F => ?_
 refine l_do F rfl rfl (op_alloc S _ (.agg #[.slice none 0 0, .slice none 0 0]) rfl (by kernel_rfl) fun b3 z S a F => ?_)
 refine l_do F rfl rfl (op_storeB S 3 _ _ _ b3 0 (.agg #[.slice (some ⟨b1, 0, none⟩) 3 3, .slice (some ⟨b2, 0, none⟩) 2 2]) F rfl rfl (by kernel_rfl) (by kernel_rfl) (by kernel_rfl) (by kernel_rfl) (by kernel_rfl) fun z S a F => ?_)
 refine l_then ?_
 refine s_reg ?_
 refine l_do F rfl rfl (op_loadK _ _ (some ⟨b3, 0, none⟩) 0 [.slice (some ⟨b1, 0, none⟩) 3 3, .slice (some ⟨b2, 0, none⟩) 2 2] F rfl (by kernel_rfl) (by kernel_rfl) (by kernel_rfl) (by simp) (cBoxK S 3 rfl 0 (by kernel_rfl)) (fun a F => ?_))
 have S : Sat w z [rest w (· < w.heap.size), row 106 2 (.slice (some ⟨b1, 0, none⟩) x8.spots.length 3) x8.spots.length (x8.spots.flatMap spC), row 104 8 (.slice (some ⟨b2, 0, none⟩) x8.edges.length 2) x8.edges.length (x8.edges.flatMap edC), box b3 25 [.slice (some ⟨b1, 0, none⟩) 3 3, .slice (some ⟨b2, 0, none⟩) 2 2]] := S
 refine l_do F rfl rfl (op_fn F (by kernel_rfl) (to_any _ (some ⟨b1, 0, none⟩) 3 (some ⟨b2, 0, none⟩) 2 x8 (WebAt.ofNew (x := x8) (w := w) S (i := 1) (j := 2) rfl rfl ⟨by decide, by decide⟩) x8_ok ⟨by decide, by decide⟩) ?_)
 rintro e z ⟨A4, c5, A6, c7, rfl, g⟩
 have S := S.pushThings g
 refine ⟨_, rfl, ?_⟩
 intro a F
 refine l_do F rfl rfl (op_fn F (by kernel_rfl) (pbest_any _ A4 c5 A6 c7 x8 (WebAt.ofNew (x := x8) (w := w) S (i := 4) (j := 5) rfl rfl ⟨by decide, by decide⟩) x8_ok 0 2 5 ⟨by decide, by decide⟩ (by decide)) ?_)
 rintro e z ⟨m, R2, rfl, hm1, hR2, hmem, hno, g⟩
 have S := S.pushThings g
 have hmr : m.r = ⟨[0, 1, 2], [0, 1], [6, 5]⟩ := by rw [hm1, best8]
 have hmem := hmem (by rw [best8])
 have hml : m.r.amts.length = 2 := by rw [hmr]; rfl
 have he0 : m.r.amts[0]? = some 6 := by rw [hmr]; rfl
 have he1 : m.r.amts[1]? = some 5 := by rw [hmr]; rfl
 refine ⟨_, rfl, ?_⟩
 intro a F
 refine l_pure 3 (fun L => (20, .int .i64 ((bestRt x8 0 2 5).2)) :: (19, .agg #[.slice m.A1 m.r.nodes.length m.c1, .slice m.A2 m.r.edges.length m.c2, .slice m.A3 m.r.amts.length m.c3]) :: (15, .tuple #[.agg #[.slice m.A1 m.r.nodes.length m.c1, .slice m.A2 m.r.edges.length m.c2, .slice m.A3 m.r.amts.length m.c3], .int .i64 ((bestRt x8 0 2 5).2)]) :: L) F (by kernel_rfl) fun a F => ?_
 refine l_do F rfl rfl (op_alloc S _ (.agg #[.slice none 0 0, .slice none 0 0, .slice none 0 0]) rfl (by kernel_rfl) fun b8 z S a F => ?_)
 refine l_do F rfl rfl (op_storeB S 7 _ _ _ b8 0 (.agg #[.slice m.A1 m.r.nodes.length m.c1, .slice m.A2 m.r.edges.length m.c2, .slice m.A3 m.r.amts.length m.c3]) F rfl rfl (by kernel_rfl) (by kernel_rfl) (by kernel_rfl) (by kernel_rfl) (by kernel_rfl) fun z S a F => ?_)
 refine l_pure 1 (fun L => (3, .int .i64 ((bestRt x8 0 2 5).2)) :: L) F (by kernel_rfl) fun a F => ?_
 refine l_then ?_
 refine s_reg ?_
 refine l_pure 1 (fun L => (21, .int .i64 ((bestRt x8 0 2 5).2)) :: L) F (by kernel_rfl) fun a F => ?_
 refine l_do F rfl rfl (op_pure F (v0 := .bool (((bestRt x8 0 2 5).2 : Int) == (0 : Int))) (v := .bool true) (by kernel_rfl) (eqlT (by rw [best8])) fun a F => ?_)
 refine l_pure 2 (fun L => (24, .pointer (some ⟨b8, 2, none⟩)) :: (23, .bool true) :: L) F (by kernel_rfl) fun a F => ?_
 refine l_do F rfl rfl (op_load _ _ (some ⟨b8, 0, none⟩) 2 (.slice m.A3 m.r.amts.length m.c3) F rfl (by kernel_rfl) (by kernel_rfl) (cBox S 7 rfl (j := 2) rfl) (fun a F => ?_))
 refine l_pure 1 (fun L => (26, .int .i64 (m.r.amts.length : Nat)) :: L) F (by kernel_rfl) fun a F => ?_
 refine l_do F rfl rfl (op_pure F (v0 := .bool (((m.r.amts.length : Nat) : Int) == (2 : Int))) (v := .bool true) (by kernel_rfl) (eqlT (by rw [hmr]; rfl)) fun a F => ?_)
 refine l_pure 3 (fun L => (30, .pointer (some ⟨b8, 2, none⟩)) :: (29, .bool true) :: (28, .bool true) :: L) F (by kernel_rfl) fun a F => ?_
 refine l_do F rfl rfl (op_load _ _ (some ⟨b8, 0, none⟩) 2 (.slice m.A3 m.r.amts.length m.c3) F rfl (by kernel_rfl) (by kernel_rfl) (cBox S 7 rfl (j := 2) rfl) (fun a F => ?_))
 refine l_do F rfl rfl (op_index _ 26 _ _ m.A3 m.r.amts.length m.c3 0 1 .i64 F rfl (by kernel_rfl) (by kernel_rfl) (by kernel_rfl) (by kernel_rfl) (by omega) (recs_some (bag_amts S 6 rfl hmem (by rw [hmr]; decide)) (m := 0) (by omega)) (fun a F => ?_))
 refine l_do F rfl rfl (op_load _ _ m.A3 (0 * 1) (.int .u64 6) F rfl (by kernel_rfl) (by kernel_rfl) (recs_cell iC_len_u64 (bag_amts S 6 rfl hmem (by rw [hmr]; decide)) 0 he0 rfl) (fun a F => ?_))
 refine l_pure 4 (fun L => (37, .pointer (some ⟨b8, 2, none⟩)) :: (36, .bool true) :: (35, .bool true) :: (34, .bool true) :: L) F (by kernel_rfl) fun a F => ?_
 refine l_do F rfl rfl (op_load _ _ (some ⟨b8, 0, none⟩) 2 (.slice m.A3 m.r.amts.length m.c3) F rfl (by kernel_rfl) (by kernel_rfl) (cBox S 7 rfl (j := 2) rfl) (fun a F => ?_))
 refine l_do F rfl rfl (op_index _ 26 _ _ m.A3 m.r.amts.length m.c3 1 1 .i64 F rfl (by kernel_rfl) (by kernel_rfl) (by kernel_rfl) (by kernel_rfl) (by omega) (recs_some (bag_amts S 6 rfl hmem (by rw [hmr]; decide)) (m := 1) (by omega)) (fun a F => ?_))
 refine l_do F rfl rfl (op_load _ _ m.A3 (1 * 1) (.int .u64 5) F rfl (by kernel_rfl) (by kernel_rfl) (recs_cell iC_len_u64 (bag_amts S 6 rfl hmem (by rw [hmr]; decide)) 0 he1 rfl) (fun a F => ?_))
 refine l_pure 3 (fun L => (43, .bool true) :: (42, .bool true) :: (41, .bool true) :: L) F (by kernel_rfl) fun a F => ?_
 refine l_do F rfl rfl (op_loadK _ _ (some ⟨b8, 0, none⟩) 0 [.slice m.A1 m.r.nodes.length m.c1, .slice m.A2 m.r.edges.length m.c2, .slice m.A3 m.r.amts.length m.c3] F rfl (by kernel_rfl) (by kernel_rfl) (by kernel_rfl) (by simp) (cBoxK S 7 rfl 0 (by kernel_rfl)) (fun a F => ?_))
 refine l_do F rfl rfl (op_fn F (by kernel_rfl) (long_any _ (.slice m.A1 m.r.nodes.length m.c1) m.A2 m.r.edges.length m.c2 (.slice m.A3 m.r.amts.length m.c3)) ?_)
 rintro e z ⟨rfl, hb⟩
 have S := S.grow hb
 refine ⟨_, rfl, ?_⟩
 intro a F
 refine l_do F rfl rfl (op_pure F (v0 := .bool (((m.r.edges.length : Nat) : Int) == (2 : Int))) (v := .bool true) (by kernel_rfl) (eqlT (by rw [hmr]; rfl)) fun a F => ?_)
 refine l_pure 2 (fun L => (48, .bool true) :: (47, .bool true) :: L) F (by kernel_rfl) fun a F => ?_
 refine l_do F rfl rfl (op_loadK _ _ (some ⟨b8, 0, none⟩) 0 [.slice m.A1 m.r.nodes.length m.c1, .slice m.A2 m.r.edges.length m.c2, .slice m.A3 m.r.amts.length m.c3] F rfl (by kernel_rfl) (by kernel_rfl) (by kernel_rfl) (by simp) (cBoxK S 7 rfl 0 (by kernel_rfl)) (fun a F => ?_))
 refine l_do F rfl rfl (op_fn F (by kernel_rfl) (fees_any8 _ m (bag_amts S 6 rfl hmem (by rw [hmr]; decide)) 6 5 he0 (by rw [hml]; exact he1) (by omega) (by decide) (by decide) (by decide)) ?_)
 rintro e z ⟨rfl, hb⟩
 have S := S.grow hb
 refine ⟨_, rfl, ?_⟩
 intro a F
 refine l_do F rfl rfl (op_pure F (v0 := .bool ((6 - 5 : Int) == (1 : Int))) (v := .bool true) (by kernel_rfl) (eqlT (by decide)) fun a F => ?_)
 refine l_pure 2 (fun L => (0, .bool true) :: (52, .bool true) :: L) F (by kernel_rfl) fun a F => ?_
 refine l_then ?_
 refine wp_ret ?_
 exact fin F [.tmp 0] [.bool true] rfl ⟨by kernel_rfl, trivial⟩ (.bool true) rfl ⟨rfl, S.below (i := 0) rfl⟩
end Go.Proofs.Ytcfpbemoocegfaa
