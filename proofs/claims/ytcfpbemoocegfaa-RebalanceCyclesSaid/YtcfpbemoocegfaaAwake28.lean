/- Walk over the law's example: three channels in a ring. -/
import Derived.Test.YtcfpbemoocegfaaCyc1
import Derived.Test.YtcfpbemoocegfaaWebTo
import Derived.Test.YtcfpbemoocegfaaReadWeb
namespace Go.Proofs.Ytcfpbemoocegfaa
set_option linter.unusedVariables false
set_option linter.unusedSimpArgs false
set_option linter.unnecessarySimpa false
open Go Go.RowKit

def x28 : Wb := ⟨[(0, 0), (0, 0), (0, 0)], [⟨0, 1, 9, 0, 0, 0, 0, 0⟩, ⟨1, 2, 9, 0, 0, 0, 0, 0⟩, ⟨2, 0, 9, 0, 0, 0, 0, 0⟩]⟩
theorem x28_ok : x28.Ok := by
  refine ⟨?_, ?_⟩
  · intro e he
    simp [x28] at he
    rcases he with rfl | rfl | rfl <;> exact ⟨⟨by decide, by decide⟩, ⟨by decide, by decide⟩, ⟨by decide, by decide⟩, ⟨by decide, by decide⟩, ⟨by decide, by decide⟩, ⟨by decide, by decide⟩, ⟨by decide, by decide⟩, ⟨by decide, by decide⟩⟩
  · intro s hs
    simp [x28] at hs
    subst hs; exact ⟨⟨by decide, by decide⟩, ⟨by decide, by decide⟩⟩
theorem cyc28 : cycP x28 0 0 2 5 = (⟨[0, 1, 2, 0], [0, 1, 2], [5, 5, 5]⟩, 0) := by kernel_rfl
set_option maxRecDepth 100000 in
set_option maxHeartbeats 4000000 in
theorem awake28_any (w : World) : Calls Try.prog 46 #[] w fun e w' => e = .returned (.bool true) ∧ Below w.heap.size w w' := by
 refine enter 41 Try.func46 rfl rfl rfl fun a F => ?_
 have S := Sat.pushRest w
 refine s_reg ?_
 refine l_pure 1 (fun L => (0, .bool false) :: L) F (by kernel_rfl) fun a F => ?_
 refine l_then ?_
 refine s_reg ?_
 refine l_do F rfl rfl (op_make S _ 106 _ _ .i64 .i64 (.agg #[.int .i64 0, .int .i64 0]) 2 16 3 ((0, 0) : Int × Int) spC F spC_len rfl (by kernel_rfl) (by kernel_rfl) rfl (by kernel_rfl) (by kernel_rfl) (by kernel_rfl) (by omega) (by omega) fun b1 z S a F => ?_)
 refine l_pure 9 (fun L => (13, .agg #[.int .i64 2, .int .i64 0, .int .u64 9, .int .u64 0, .int .u64 0, .int .u64 0, .int .u64 0, .int .u64 0]) :: (12, .agg #[.int .u64 9, .int .u64 0]) :: (11, .agg #[.int .i64 2, .int .i64 0]) :: (10, .agg #[.int .i64 1, .int .i64 2, .int .u64 9, .int .u64 0, .int .u64 0, .int .u64 0, .int .u64 0, .int .u64 0]) :: (9, .agg #[.int .u64 9, .int .u64 0]) :: (8, .agg #[.int .i64 1, .int .i64 2]) :: (7, .agg #[.int .i64 0, .int .i64 1, .int .u64 9, .int .u64 0, .int .u64 0, .int .u64 0, .int .u64 0, .int .u64 0]) :: (6, .agg #[.int .u64 9, .int .u64 0]) :: (5, .agg #[.int .i64 0, .int .i64 1]) :: L) F (by kernel_rfl) fun a F => ?_
 refine l_do F rfl rfl (op_buildSlice S _ 3 _ 104 8 edC ([(⟨0, 1, 9, 0, 0, 0, 0, 0⟩ : Edg), (⟨1, 2, 9, 0, 0, 0, 0, 0⟩ : Edg), (⟨2, 0, 9, 0, 0, 0, 0, 0⟩ : Edg)] : List Edg) F rfl (by kernel_rfl) (by kernel_rfl) (by kernel_rfl) (by unfold maxLen; omega) fun b2 z S a F => ?_)
 refine l_pure 1 (fun L => (15, .agg #[.slice (some ⟨b1, 0, none⟩) 3 3, .slice (some ⟨b2, 0, none⟩) 3 3]) :: L) F (by kernel_rfl) fun a F => ?_
 refine l_do F rfl rfl (op_alloc S _ (.agg #[.slice none 0 0, .slice none 0 0]) rfl (by kernel_rfl) fun b3 z S a F => ?_)
 refine l_do F rfl rfl (op_storeB S 3 _ _ _ b3 0 (.agg #[.slice (some ⟨b1, 0, none⟩) 3 3, .slice (some ⟨b2, 0, none⟩) 3 3]) F rfl rfl (by kernel_rfl) (by kernel_rfl) (by kernel_rfl) (by kernel_rfl) (by kernel_rfl) fun z S a F => ?_)
 refine l_then ?_
 refine s_reg ?_
 refine l_do F rfl rfl (op_loadK _ _ (some ⟨b3, 0, none⟩) 0 [.slice (some ⟨b1, 0, none⟩) 3 3, .slice (some ⟨b2, 0, none⟩) 3 3] F rfl (by kernel_rfl) (by kernel_rfl) (by kernel_rfl) (by simp) (cBoxK S 3 rfl 0 (by kernel_rfl)) (fun a F => ?_))
 have S : Sat w z [rest w (· < w.heap.size), row 106 2 (.slice (some ⟨b1, 0, none⟩) x28.spots.length 3) x28.spots.length (x28.spots.flatMap spC), row 104 8 (.slice (some ⟨b2, 0, none⟩) x28.edges.length 3) x28.edges.length (x28.edges.flatMap edC), box b3 25 [.slice (some ⟨b1, 0, none⟩) 3 3, .slice (some ⟨b2, 0, none⟩) 3 3]] := S
 refine l_do F rfl rfl (op_fn F (by kernel_rfl) (to_any _ (some ⟨b1, 0, none⟩) 3 (some ⟨b2, 0, none⟩) 3 x28 (WebAt.ofNew (x := x28) (w := w) S (i := 1) (j := 2) rfl rfl ⟨by decide, by decide⟩) x28_ok ⟨by decide, by decide⟩) ?_)
 rintro e z ⟨A4, c5, A6, c7, rfl, g⟩
 have S := S.pushThings g
 refine ⟨_, rfl, ?_⟩
 intro a F
 refine l_do F rfl rfl (op_fn F (by kernel_rfl) (pcycle_at _ A4 c5 A6 c7 x28 (WebAt.ofNew (x := x28) (w := w) S (i := 4) (j := 5) rfl rfl ⟨by decide, by decide⟩) x28_ok 0 0 2 5 ⟨by decide, by decide⟩ (by decide) (by decide) cyc28) ?_)
 rintro e z ⟨P1, e1, P2, e2, P3, e3, rfl, g⟩
 have S := S.pushThings g
 refine ⟨_, rfl, ?_⟩
 intro a F
 refine l_pure 3 (fun L => (21, .int .i64 0) :: (20, .agg #[.slice P1 (((⟨[0, 1, 2, 0], [0, 1, 2], [5, 5, 5]⟩ : Rt).nodes).length) e1, .slice P2 (((⟨[0, 1, 2, 0], [0, 1, 2], [5, 5, 5]⟩ : Rt).edges).length) e2, .slice P3 (((⟨[0, 1, 2, 0], [0, 1, 2], [5, 5, 5]⟩ : Rt).amts).length) e3, .int .u64 0]) :: (16, .tuple #[.agg #[.slice P1 (((⟨[0, 1, 2, 0], [0, 1, 2], [5, 5, 5]⟩ : Rt).nodes).length) e1, .slice P2 (((⟨[0, 1, 2, 0], [0, 1, 2], [5, 5, 5]⟩ : Rt).edges).length) e2, .slice P3 (((⟨[0, 1, 2, 0], [0, 1, 2], [5, 5, 5]⟩ : Rt).amts).length) e3, .int .u64 0], .int .i64 0]) :: L) F (by kernel_rfl) fun a F => ?_
 refine l_do F rfl rfl (op_alloc S _ (.agg #[.slice none 0 0, .slice none 0 0, .slice none 0 0, .int .u64 0]) rfl (by kernel_rfl) fun b8 z S a F => ?_)
 refine l_do F rfl rfl (op_storeB S 9 _ _ _ b8 0 (.agg #[.slice P1 (((⟨[0, 1, 2, 0], [0, 1, 2], [5, 5, 5]⟩ : Rt).nodes).length) e1, .slice P2 (((⟨[0, 1, 2, 0], [0, 1, 2], [5, 5, 5]⟩ : Rt).edges).length) e2, .slice P3 (((⟨[0, 1, 2, 0], [0, 1, 2], [5, 5, 5]⟩ : Rt).amts).length) e3, .int .u64 0]) F rfl rfl (by kernel_rfl) (by kernel_rfl) (by kernel_rfl) (by kernel_rfl) (by kernel_rfl) fun z S a F => ?_)
 refine l_pure 1 (fun L => (3, .int .i64 0) :: L) F (by kernel_rfl) fun a F => ?_
 refine l_then ?_
 refine s_reg ?_
 refine l_pure 4 (fun L => (25, .pointer (some ⟨b8, 1, none⟩)) :: (24, .bool true) :: (23, .bool true) :: (22, .int .i64 0) :: L) F (by kernel_rfl) fun a F => ?_
 refine l_do F rfl rfl (op_load _ _ (some ⟨b8, 0, none⟩) 1 (.slice P2 (((⟨[0, 1, 2, 0], [0, 1, 2], [5, 5, 5]⟩ : Rt).edges).length) e2) F rfl (by kernel_rfl) (by kernel_rfl) (cBox S 9 rfl (j := 1) rfl) (fun a F => ?_))
 refine l_pure 1 (fun L => (27, .int .i64 (((⟨[0, 1, 2, 0], [0, 1, 2], [5, 5, 5]⟩ : Rt).edges).length : Nat)) :: L) F (by kernel_rfl) fun a F => ?_
 refine l_do F rfl rfl (op_pure F (v0 := .bool (((((⟨[0, 1, 2, 0], [0, 1, 2], [5, 5, 5]⟩ : Rt).edges).length : Nat) : Int) == (3 : Int))) (v := .bool true) (by kernel_rfl) (eqlT (by rfl)) fun a F => ?_)
 refine l_pure 3 (fun L => (31, .pointer (some ⟨b8, 3, none⟩)) :: (30, .bool true) :: (29, .bool true) :: L) F (by kernel_rfl) fun a F => ?_
 refine l_do F rfl rfl (op_load _ _ (some ⟨b8, 0, none⟩) 3 (.int .u64 0) F rfl (by kernel_rfl) (by kernel_rfl) (cBox S 9 rfl (j := 3) rfl) (fun a F => ?_))
 refine l_pure 4 (fun L => (36, .pointer (some ⟨b8, 0, none⟩)) :: (35, .bool true) :: (34, .bool true) :: (33, .bool true) :: L) F (by kernel_rfl) fun a F => ?_
 refine l_do F rfl rfl (op_load _ _ (some ⟨b8, 0, none⟩) 0 (.slice P1 (((⟨[0, 1, 2, 0], [0, 1, 2], [5, 5, 5]⟩ : Rt).nodes).length) e1) F rfl (by kernel_rfl) (by kernel_rfl) (cBox S 9 rfl (j := 0) rfl) (fun a F => ?_))
 refine l_pure 1 (fun L => (38, .int .i64 (((⟨[0, 1, 2, 0], [0, 1, 2], [5, 5, 5]⟩ : Rt).nodes).length : Nat)) :: L) F (by kernel_rfl) fun a F => ?_
 refine l_do F rfl rfl (op_pure F (v0 := .bool (((((⟨[0, 1, 2, 0], [0, 1, 2], [5, 5, 5]⟩ : Rt).nodes).length : Nat) : Int) == (4 : Int))) (v := .bool true) (by kernel_rfl) (eqlT (by rfl)) fun a F => ?_)
 refine l_pure 2 (fun L => (0, .bool true) :: (40, .bool true) :: L) F (by kernel_rfl) fun a F => ?_
 refine l_then ?_
 refine wp_ret ?_
 exact fin F [.tmp 0] [.bool true] rfl ⟨by kernel_rfl, trivial⟩ (.bool true) rfl ⟨rfl, S.below (i := 0) rfl⟩
end Go.Proofs.Ytcfpbemoocegfaa
