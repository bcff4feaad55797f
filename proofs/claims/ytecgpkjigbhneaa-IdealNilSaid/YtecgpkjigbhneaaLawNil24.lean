/- Walk over the law IdealNil. -/
import Derived.Test.YtecgpkjigbhneaaIdlZ
namespace Go.Proofs.Ytecgpkjigbhneaa
set_option linter.unusedVariables false
set_option linter.unusedSimpArgs false
set_option linter.unnecessarySimpa false
open Go Go.RowKit

set_option maxRecDepth 100000 in
set_option maxHeartbeats 4000000 in
theorem nside (w : World) (cid who : Int) : Calls Try.prog 28 #[.pointer none, .int .i64 cid, .int .i64 who] w fun e w' => e = .returned (.tuple #[.int .i64 0, .int .i64 2]) ∧ Below w.heap.size w w' := by
 refine enter 36 Try.func28 rfl rfl rfl fun a F => ?_
 have S := Sat.pushRest w
 refine s_reg ?_
 refine l_pure 2 (fun L => (7, .int .i64 0) :: (6, .int .i64 0) :: L) F (by kernel_rfl) fun a F => ?_
 refine l_then ?_
 refine wp_seq ?_
 refine wp_block ?_
 refine s_reg ?_
 refine l_pure 3 (fun L => (9, .bool true) :: (11, .bool true) :: (10, .pointer none) :: L) F (by kernel_rfl) fun a F => ?_
 refine l_then ?_
 refine c_t F rfl ?_
 refine s_reg ?_
 refine l_pure 2 (fun L => (7, .int .i64 2) :: (6, .int .i64 0) :: L) F (by kernel_rfl) fun a F => ?_
 refine l_then ?_
 refine wp_ret ?_
 refine inb_r (then_r (?_))
 exact fin F [.tmp 6, .tmp 7] [.int .i64 0, .int .i64 2] rfl ⟨by kernel_rfl, by kernel_rfl, trivial⟩ (.tuple #[.int .i64 0, .int .i64 2]) rfl ⟨rfl, S.below (i := 0) rfl⟩
set_option maxRecDepth 100000 in
set_option maxHeartbeats 4000000 in
theorem nopen (w : World) (aa bb pq qq : Int) : Calls Try.prog 8 #[.pointer none, .int .i64 aa, .int .i64 bb, .agg #[.int .u64 pq, .int .u64 qq]] w fun e w' => e = .returned (.tuple #[.int .i64 0, .int .i64 2]) ∧ Below w.heap.size w w' := by
 refine enter 109 Try.func8 rfl rfl rfl fun a F => ?_
 have S := Sat.pushRest w
 refine s_reg ?_
 refine l_do F rfl rfl (op_box S _ _ (.agg #[.int .u64 pq, .int .u64 qq]) F rfl (by kernel_rfl) fun b1 z S a F => ?_)
 refine l_pure 2 (fun L => (9, .int .i64 0) :: (8, .int .i64 0) :: L) F (by kernel_rfl) fun a F => ?_
 refine l_then ?_
 refine wp_seq ?_
 refine wp_block ?_
 refine s_reg ?_
 refine l_pure 3 (fun L => (10, .bool true) :: (12, .bool true) :: (11, .pointer none) :: L) F (by kernel_rfl) fun a F => ?_
 refine l_then ?_
 refine c_t F rfl ?_
 refine s_reg ?_
 refine l_pure 2 (fun L => (9, .int .i64 2) :: (8, .int .i64 0) :: L) F (by kernel_rfl) fun a F => ?_
 refine l_then ?_
 refine wp_ret ?_
 refine inb_r (then_r (?_))
 exact fin F [.tmp 8, .tmp 9] [.int .i64 0, .int .i64 2] rfl ⟨by kernel_rfl, by kernel_rfl, trivial⟩ (.tuple #[.int .i64 0, .int .i64 2]) rfl ⟨rfl, S.below (i := 0) rfl⟩
set_option maxRecDepth 100000 in
set_option maxHeartbeats 4000000 in
theorem nput (w : World) (cid who am : Int) : Calls Try.prog 21 #[.pointer none, .int .i64 cid, .int .i64 who, .int .u64 am] w fun e w' => e = .returned (.int .i64 2) ∧ Below w.heap.size w w' := by
 refine enter 58 Try.func21 rfl rfl rfl fun a F => ?_
 have S := Sat.pushRest w
 refine s_reg ?_
 refine l_pure 1 (fun L => (8, .int .i64 0) :: L) F (by kernel_rfl) fun a F => ?_
 refine l_then ?_
 refine s_reg ?_
 refine l_pure 3 (fun L => (14, .int .i64 who) :: (13, .int .i64 cid) :: (12, .pointer none) :: L) F (by kernel_rfl) fun a F => ?_
 refine l_do F rfl rfl (op_fn F (by kernel_rfl) (nside _ cid who) ?_)
 rintro e z ⟨rfl, hb⟩
 have S := S.grow hb
 refine ⟨_, rfl, ?_⟩
 intro a F
 refine l_pure 5 (fun L => (10, .int .i64 2) :: (9, .int .i64 0) :: (17, .int .i64 2) :: (16, .int .i64 0) :: (11, .tuple #[.int .i64 0, .int .i64 2]) :: L) F (by kernel_rfl) fun a F => ?_
 refine l_then ?_
 refine wp_seq ?_
 refine wp_block ?_
 refine s_reg ?_
 refine l_pure 3 (fun L => (18, .bool true) :: (20, .bool true) :: (19, .int .i64 2) :: L) F (by kernel_rfl) fun a F => ?_
 refine l_then ?_
 refine c_t F rfl ?_
 refine s_reg ?_
 refine l_pure 2 (fun L => (8, .int .i64 2) :: (21, .int .i64 2) :: L) F (by kernel_rfl) fun a F => ?_
 refine l_then ?_
 refine wp_ret ?_
 refine inb_r (then_r (?_))
 exact fin F [.tmp 8] [.int .i64 2] rfl ⟨by kernel_rfl, trivial⟩ (.int .i64 2) rfl ⟨rfl, S.below (i := 0) rfl⟩
set_option maxRecDepth 100000 in
set_option maxHeartbeats 4000000 in
theorem ntake (w : World) (cid who am : Int) : Calls Try.prog 22 #[.pointer none, .int .i64 cid, .int .i64 who, .int .u64 am] w fun e w' => e = .returned (.int .i64 2) ∧ Below w.heap.size w w' := by
 refine enter 60 Try.func22 rfl rfl rfl fun a F => ?_
 have S := Sat.pushRest w
 refine s_reg ?_
 refine l_pure 1 (fun L => (8, .int .i64 0) :: L) F (by kernel_rfl) fun a F => ?_
 refine l_then ?_
 refine s_reg ?_
 refine l_pure 3 (fun L => (14, .int .i64 who) :: (13, .int .i64 cid) :: (12, .pointer none) :: L) F (by kernel_rfl) fun a F => ?_
 refine l_do F rfl rfl (op_fn F (by kernel_rfl) (nside _ cid who) ?_)
 rintro e z ⟨rfl, hb⟩
 have S := S.grow hb
 refine ⟨_, rfl, ?_⟩
 intro a F
 refine l_pure 5 (fun L => (10, .int .i64 2) :: (9, .int .i64 0) :: (17, .int .i64 2) :: (16, .int .i64 0) :: (11, .tuple #[.int .i64 0, .int .i64 2]) :: L) F (by kernel_rfl) fun a F => ?_
 refine l_then ?_
 refine wp_seq ?_
 refine wp_block ?_
 refine s_reg ?_
 refine l_pure 3 (fun L => (18, .bool true) :: (20, .bool true) :: (19, .int .i64 2) :: L) F (by kernel_rfl) fun a F => ?_
 refine l_then ?_
 refine c_t F rfl ?_
 refine s_reg ?_
 refine l_pure 2 (fun L => (8, .int .i64 2) :: (21, .int .i64 2) :: L) F (by kernel_rfl) fun a F => ?_
 refine l_then ?_
 refine wp_ret ?_
 refine inb_r (then_r (?_))
 exact fin F [.tmp 8] [.int .i64 2] rfl ⟨by kernel_rfl, trivial⟩ (.int .i64 2) rfl ⟨rfl, S.below (i := 0) rfl⟩
set_option maxRecDepth 100000 in
set_option maxHeartbeats 4000000 in
theorem nmove (w : World) (cid who am : Int) : Calls Try.prog 23 #[.pointer none, .int .i64 cid, .int .i64 who, .int .u64 am] w fun e w' => e = .returned (.int .i64 2) ∧ Below w.heap.size w w' := by
 refine enter 64 Try.func23 rfl rfl rfl fun a F => ?_
 have S := Sat.pushRest w
 refine s_reg ?_
 refine l_pure 1 (fun L => (8, .int .i64 0) :: L) F (by kernel_rfl) fun a F => ?_
 refine l_then ?_
 refine s_reg ?_
 refine l_pure 3 (fun L => (14, .int .i64 who) :: (13, .int .i64 cid) :: (12, .pointer none) :: L) F (by kernel_rfl) fun a F => ?_
 refine l_do F rfl rfl (op_fn F (by kernel_rfl) (nside _ cid who) ?_)
 rintro e z ⟨rfl, hb⟩
 have S := S.grow hb
 refine ⟨_, rfl, ?_⟩
 intro a F
 refine l_pure 5 (fun L => (10, .int .i64 2) :: (9, .int .i64 0) :: (17, .int .i64 2) :: (16, .int .i64 0) :: (11, .tuple #[.int .i64 0, .int .i64 2]) :: L) F (by kernel_rfl) fun a F => ?_
 refine l_then ?_
 refine wp_seq ?_
 refine wp_block ?_
 refine s_reg ?_
 refine l_pure 3 (fun L => (18, .bool true) :: (20, .bool true) :: (19, .int .i64 2) :: L) F (by kernel_rfl) fun a F => ?_
 refine l_then ?_
 refine c_t F rfl ?_
 refine s_reg ?_
 refine l_pure 2 (fun L => (8, .int .i64 2) :: (21, .int .i64 2) :: L) F (by kernel_rfl) fun a F => ?_
 refine l_then ?_
 refine wp_ret ?_
 refine inb_r (then_r (?_))
 exact fin F [.tmp 8] [.int .i64 2] rfl ⟨by kernel_rfl, trivial⟩ (.int .i64 2) rfl ⟨rfl, S.below (i := 0) rfl⟩
set_option maxRecDepth 100000 in
set_option maxHeartbeats 4000000 in
theorem nbegin (w : World) (cid from_ : Int) : Calls Try.prog 12 #[.pointer none, .int .u64 cid, .int .i64 from_, .slice none 0 0, .slice none 0 0] w fun e w' => e = .returned (.int .i64 2) ∧ Below w.heap.size w w' := by
 refine enter 152 Try.func12 rfl rfl rfl fun a F => ?_
 have S := Sat.pushRest w
 refine s_reg ?_
 refine l_pure 1 (fun L => (10, .int .i64 0) :: L) F (by kernel_rfl) fun a F => ?_
 refine l_then ?_
 refine wp_seq ?_
 refine wp_block ?_
 refine s_reg ?_
 refine l_pure 3 (fun L => (19, .bool true) :: (21, .bool true) :: (20, .pointer none) :: L) F (by kernel_rfl) fun a F => ?_
 refine l_then ?_
 refine c_t F rfl ?_
 refine s_reg ?_
 refine l_pure 1 (fun L => (10, .int .i64 2) :: L) F (by kernel_rfl) fun a F => ?_
 refine l_then ?_
 refine wp_ret ?_
 refine inb_r (then_r (?_))
 exact fin F [.tmp 10] [.int .i64 2] rfl ⟨by kernel_rfl, trivial⟩ (.int .i64 2) rfl ⟨rfl, S.below (i := 0) rfl⟩
set_option maxRecDepth 100000 in
set_option maxHeartbeats 4000000 in
theorem nend (w : World) (cid : Int) : Calls Try.prog 13 #[.pointer none, .int .u64 cid, .bool true] w fun e w' => e = .returned (.int .i64 2) ∧ Below w.heap.size w w' := by
 refine enter 73 Try.func13 rfl rfl rfl fun a F => ?_
 have S := Sat.pushRest w
 refine s_reg ?_
 refine l_pure 1 (fun L => (6, .int .i64 0) :: L) F (by kernel_rfl) fun a F => ?_
 refine l_then ?_
 refine wp_seq ?_
 refine s_reg ?_
 refine l_pure 2 (fun L => (13, .bool true) :: (12, .pointer none) :: L) F (by kernel_rfl) fun a F => ?_
 refine l_then ?_
 refine c_t F rfl ?_
 refine s_reg ?_
 refine l_pure 1 (fun L => (6, .int .i64 2) :: L) F (by kernel_rfl) fun a F => ?_
 refine l_then ?_
 refine wp_ret ?_
 refine then_r (?_)
 exact fin F [.tmp 6] [.int .i64 2] rfl ⟨by kernel_rfl, trivial⟩ (.int .i64 2) rfl ⟨rfl, S.below (i := 0) rfl⟩
set_option maxRecDepth 100000 in
set_option maxHeartbeats 4000000 in
theorem nclose (w : World) (cid : Int) : Calls Try.prog 24 #[.pointer none, .int .i64 cid] w fun e w' => e = .returned (.int .i64 2) ∧ Below w.heap.size w w' := by
 refine enter 80 Try.func24 rfl rfl rfl fun a F => ?_
 have S := Sat.pushRest w
 refine s_reg ?_
 refine l_pure 1 (fun L => (4, .int .i64 0) :: L) F (by kernel_rfl) fun a F => ?_
 refine l_then ?_
 refine wp_seq ?_
 refine wp_block ?_
 refine s_reg ?_
 refine l_pure 3 (fun L => (9, .bool true) :: (11, .bool true) :: (10, .pointer none) :: L) F (by kernel_rfl) fun a F => ?_
 refine l_then ?_
 refine c_t F rfl ?_
 refine s_reg ?_
 refine l_pure 1 (fun L => (4, .int .i64 2) :: L) F (by kernel_rfl) fun a F => ?_
 refine l_then ?_
 refine wp_ret ?_
 refine inb_r (then_r (?_))
 exact fin F [.tmp 4] [.int .i64 2] rfl ⟨by kernel_rfl, trivial⟩ (.int .i64 2) rfl ⟨rfl, S.below (i := 0) rfl⟩
set_option maxRecDepth 100000 in
set_option maxHeartbeats 4000000 in
theorem nhas (w : World) (who : Int) : Calls Try.prog 10 #[.pointer none, .int .i64 who] w fun e w' => e = .returned (.int .u64 0) ∧ Below w.heap.size w w' := by
 refine enter 20 Try.func10 rfl rfl rfl fun a F => ?_
 have S := Sat.pushRest w
 refine s_reg ?_
 refine l_pure 1 (fun L => (4, .int .u64 0) :: L) F (by kernel_rfl) fun a F => ?_
 refine l_then ?_
 refine wp_seq ?_
 refine s_reg ?_
 refine l_pure 8 (fun L => (12, .bool true) :: (11, undef) :: (10, undef) :: (9, undef) :: (8, undef) :: (7, .bool true) :: (6, .bool true) :: (5, .pointer none) :: L) F (by kernel_rfl) fun a F => ?_
 refine l_then ?_
 refine c_t F rfl ?_
 refine s_reg ?_
 refine l_pure 1 (fun L => (4, .int .u64 0) :: L) F (by kernel_rfl) fun a F => ?_
 refine l_then ?_
 refine wp_ret ?_
 refine then_r (?_)
 exact fin F [.tmp 4] [.int .u64 0] rfl ⟨by kernel_rfl, trivial⟩ (.int .u64 0) rfl ⟨rfl, S.below (i := 0) rfl⟩
set_option maxRecDepth 100000 in
set_option maxHeartbeats 4000000 in
theorem nfree (w : World) (cid who : Int) : Calls Try.prog 11 #[.pointer none, .int .i64 cid, .int .i64 who] w fun e w' => e = .returned (.int .u64 0) ∧ Below w.heap.size w w' := by
 refine enter 27 Try.func11 rfl rfl rfl fun a F => ?_
 have S := Sat.pushRest w
 refine s_reg ?_
 refine l_pure 1 (fun L => (6, .int .u64 0) :: L) F (by kernel_rfl) fun a F => ?_
 refine l_then ?_
 refine s_reg ?_
 refine l_pure 3 (fun L => (12, .int .i64 who) :: (11, .int .i64 cid) :: (10, .pointer none) :: L) F (by kernel_rfl) fun a F => ?_
 refine l_do F rfl rfl (op_fn F (by kernel_rfl) (nside _ cid who) ?_)
 rintro e z ⟨rfl, hb⟩
 have S := S.grow hb
 refine ⟨_, rfl, ?_⟩
 intro a F
 refine l_pure 5 (fun L => (8, .int .i64 2) :: (7, .int .i64 0) :: (15, .int .i64 2) :: (14, .int .i64 0) :: (9, .tuple #[.int .i64 0, .int .i64 2]) :: L) F (by kernel_rfl) fun a F => ?_
 refine l_then ?_
 refine wp_seq ?_
 refine s_reg ?_
 refine l_pure 2 (fun L => (17, .bool true) :: (16, .int .i64 2) :: L) F (by kernel_rfl) fun a F => ?_
 refine l_then ?_
 refine c_t F rfl ?_
 refine s_reg ?_
 refine l_pure 1 (fun L => (6, .int .u64 0) :: L) F (by kernel_rfl) fun a F => ?_
 refine l_then ?_
 refine wp_ret ?_
 refine then_r (?_)
 exact fin F [.tmp 6] [.int .u64 0] rfl ⟨by kernel_rfl, trivial⟩ (.int .u64 0) rfl ⟨rfl, S.below (i := 0) rfl⟩
set_option maxRecDepth 100000 in
set_option maxHeartbeats 4000000 in
theorem nstate (w : World) (cid : Int) : Calls Try.prog 20 #[.pointer none, .int .u64 cid] w fun e w' => e = .returned (.tuple #[.int .i64 0, .bool false]) ∧ Below w.heap.size w w' := by
 refine enter 22 Try.func20 rfl rfl rfl fun a F => ?_
 have S := Sat.pushRest w
 refine s_reg ?_
 refine l_pure 2 (fun L => (5, .bool false) :: (4, .int .i64 0) :: L) F (by kernel_rfl) fun a F => ?_
 refine l_then ?_
 refine wp_seq ?_
 refine s_reg ?_
 refine l_pure 2 (fun L => (9, .bool true) :: (8, .pointer none) :: L) F (by kernel_rfl) fun a F => ?_
 refine l_then ?_
 refine c_t F rfl ?_
 refine s_reg ?_
 refine l_pure 2 (fun L => (5, .bool false) :: (4, .int .i64 0) :: L) F (by kernel_rfl) fun a F => ?_
 refine l_then ?_
 refine wp_ret ?_
 refine then_r (?_)
 exact fin F [.tmp 4, .tmp 5] [.int .i64 0, .bool false] rfl ⟨by kernel_rfl, by kernel_rfl, trivial⟩ (.tuple #[.int .i64 0, .bool false]) rfl ⟨rfl, S.below (i := 0) rfl⟩
set_option maxRecDepth 100000 in
set_option maxHeartbeats 4000000 in
theorem nheld (w : World)  : Calls Try.prog 17 #[.pointer none] w fun e w' => e = .returned (.int .u64 0) ∧ Below w.heap.size w w' := by
 refine enter 34 Try.func17 rfl rfl rfl fun a F => ?_
 have S := Sat.pushRest w
 refine s_reg ?_
 refine l_pure 1 (fun L => (2, .int .u64 0) :: L) F (by kernel_rfl) fun a F => ?_
 refine l_then ?_
 refine s_reg ?_
 refine l_pure 1 (fun L => (3, .int .u64 0) :: L) F (by kernel_rfl) fun a F => ?_
 refine l_then ?_
 refine wp_seq ?_
 refine s_reg ?_
 refine l_pure 2 (fun L => (9, .bool true) :: (8, .pointer none) :: L) F (by kernel_rfl) fun a F => ?_
 refine l_then ?_
 refine c_t F rfl ?_
 refine s_reg ?_
 refine l_pure 1 (fun L => (2, .int .u64 0) :: L) F (by kernel_rfl) fun a F => ?_
 refine l_then ?_
 refine wp_ret ?_
 refine then_r (?_)
 exact fin F [.tmp 2] [.int .u64 0] rfl ⟨by kernel_rfl, trivial⟩ (.int .u64 0) rfl ⟨rfl, S.below (i := 0) rfl⟩
set_option maxRecDepth 100000 in
set_option maxHeartbeats 4000000 in
theorem nall (w : World)  : Calls Try.prog 18 #[.pointer none] w fun e w' => e = .returned (.int .u64 0) ∧ Below w.heap.size w w' := by
 refine enter 43 Try.func18 rfl rfl rfl fun a F => ?_
 have S := Sat.pushRest w
 refine s_reg ?_
 refine l_pure 1 (fun L => (2, .int .u64 0) :: L) F (by kernel_rfl) fun a F => ?_
 refine l_then ?_
 refine wp_seq ?_
 refine s_reg ?_
 refine l_pure 2 (fun L => (9, .bool true) :: (8, .pointer none) :: L) F (by kernel_rfl) fun a F => ?_
 refine l_then ?_
 refine c_t F rfl ?_
 refine s_reg ?_
 refine l_pure 1 (fun L => (2, .int .u64 0) :: L) F (by kernel_rfl) fun a F => ?_
 refine l_then ?_
 refine wp_ret ?_
 refine then_r (?_)
 exact fin F [.tmp 2] [.int .u64 0] rfl ⟨by kernel_rfl, trivial⟩ (.int .u64 0) rfl ⟨rfl, S.below (i := 0) rfl⟩
set_option maxRecDepth 100000 in
set_option maxHeartbeats 4000000 in
theorem nil24_law (w : World) (aa bb nv : Int) : Calls Try.prog 6 #[.int .i64 aa, .int .i64 bb, .int .u64 nv] w fun e w' => e = .returned (.bool true) ∧ Below w.heap.size w w' := by
 refine enter 103 Try.func6 rfl rfl rfl fun a F => ?_
 have S := Sat.pushRest w
 refine s_reg ?_
 refine l_pure 1 (fun L => (6, .bool false) :: L) F (by kernel_rfl) fun a F => ?_
 refine l_then ?_
 refine s_reg ?_
 refine l_pure 1 (fun L => (7, .pointer none) :: L) F (by kernel_rfl) fun a F => ?_
 refine l_then ?_
 refine s_reg ?_
 refine l_pure 6 (fun L => (18, .agg #[.int .u64 nv, .int .u64 nv]) :: (17, .int .u64 nv) :: (16, .int .u64 nv) :: (15, .int .i64 bb) :: (14, .int .i64 aa) :: (13, .pointer none) :: L) F (by kernel_rfl) fun a F => ?_
 refine l_do F rfl rfl (op_fn F (by kernel_rfl) (nopen _ aa bb nv nv) ?_)
 rintro e z ⟨rfl, hb⟩
 have S := S.grow hb
 refine ⟨_, rfl, ?_⟩
 intro a F
 refine l_pure 5 (fun L => (9, .int .i64 2) :: (8, .int .i64 0) :: (21, .int .i64 2) :: (20, .int .i64 0) :: (12, .tuple #[.int .i64 0, .int .i64 2]) :: L) F (by kernel_rfl) fun a F => ?_
 refine l_then ?_
 refine s_reg ?_
 refine l_pure 2 (fun L => (24, .int .u64 nv) :: (23, .pointer none) :: L) F (by kernel_rfl) fun a F => ?_
 refine l_do F rfl rfl (op_fn F (by kernel_rfl) (nstate _ nv) ?_)
 rintro e z ⟨rfl, hb⟩
 have S := S.grow hb
 refine ⟨_, rfl, ?_⟩
 intro a F
 refine l_pure 5 (fun L => (11, .bool false) :: (10, .int .i64 0) :: (27, .bool false) :: (26, .int .i64 0) :: (22, .tuple #[.int .i64 0, .bool false]) :: L) F (by kernel_rfl) fun a F => ?_
 refine l_then ?_
 refine s_reg ?_
 refine l_do F rfl rfl (op_fn F (by kernel_rfl) (awake24_any _) ?_)
 rintro e z ⟨rfl, hb⟩
 have S := S.grow hb
 refine ⟨_, rfl, ?_⟩
 intro a F
 refine l_pure 13 (fun L => (41, .int .u64 nv) :: (40, .int .i64 bb) :: (39, .int .i64 aa) :: (38, .pointer none) :: (37, .bool true) :: (36, .bool true) :: (35, .bool true) :: (34, .bool false) :: (33, .bool true) :: (32, .bool true) :: (31, .bool true) :: (30, .int .i64 2) :: (29, .bool true) :: L) F (by kernel_rfl) fun a F => ?_
 refine l_do F rfl rfl (op_fn F (by kernel_rfl) (nput _ aa bb nv) ?_)
 rintro e z ⟨rfl, hb⟩
 have S := S.grow hb
 refine ⟨_, rfl, ?_⟩
 intro a F
 refine l_pure 7 (fun L => (49, .int .u64 nv) :: (48, .int .i64 bb) :: (47, .int .i64 aa) :: (46, .pointer none) :: (45, .bool true) :: (44, .bool true) :: (43, .bool true) :: L) F (by kernel_rfl) fun a F => ?_
 refine l_do F rfl rfl (op_fn F (by kernel_rfl) (ntake _ aa bb nv) ?_)
 rintro e z ⟨rfl, hb⟩
 have S := S.grow hb
 refine ⟨_, rfl, ?_⟩
 intro a F
 refine l_pure 7 (fun L => (57, .int .u64 nv) :: (56, .int .i64 bb) :: (55, .int .i64 aa) :: (54, .pointer none) :: (53, .bool true) :: (52, .bool true) :: (51, .bool true) :: L) F (by kernel_rfl) fun a F => ?_
 refine l_do F rfl rfl (op_fn F (by kernel_rfl) (nmove _ aa bb nv) ?_)
 rintro e z ⟨rfl, hb⟩
 have S := S.grow hb
 refine ⟨_, rfl, ?_⟩
 intro a F
 refine l_pure 6 (fun L => (64, .int .i64 aa) :: (63, .int .u64 nv) :: (62, .pointer none) :: (61, .bool true) :: (60, .bool true) :: (59, .bool true) :: L) F (by kernel_rfl) fun a F => ?_
 refine l_do F rfl rfl (op_fn F (by kernel_rfl) (nbegin _ nv aa) ?_)
 rintro e z ⟨rfl, hb⟩
 have S := S.grow hb
 refine ⟨_, rfl, ?_⟩
 intro a F
 refine l_pure 5 (fun L => (70, .int .u64 nv) :: (69, .pointer none) :: (68, .bool true) :: (67, .bool true) :: (66, .bool true) :: L) F (by kernel_rfl) fun a F => ?_
 refine l_do F rfl rfl (op_fn F (by kernel_rfl) (nend _ nv) ?_)
 rintro e z ⟨rfl, hb⟩
 have S := S.grow hb
 refine ⟨_, rfl, ?_⟩
 intro a F
 refine l_pure 5 (fun L => (76, .int .i64 aa) :: (75, .pointer none) :: (74, .bool true) :: (73, .bool true) :: (72, .bool true) :: L) F (by kernel_rfl) fun a F => ?_
 refine l_do F rfl rfl (op_fn F (by kernel_rfl) (nclose _ aa) ?_)
 rintro e z ⟨rfl, hb⟩
 have S := S.grow hb
 refine ⟨_, rfl, ?_⟩
 intro a F
 refine l_pure 5 (fun L => (82, .int .i64 aa) :: (81, .pointer none) :: (80, .bool true) :: (79, .bool true) :: (78, .bool true) :: L) F (by kernel_rfl) fun a F => ?_
 refine l_do F rfl rfl (op_fn F (by kernel_rfl) (nhas _ aa) ?_)
 rintro e z ⟨rfl, hb⟩
 have S := S.grow hb
 refine ⟨_, rfl, ?_⟩
 intro a F
 refine l_pure 6 (fun L => (89, .int .i64 bb) :: (88, .int .i64 aa) :: (87, .pointer none) :: (86, .bool true) :: (85, .bool true) :: (84, .bool true) :: L) F (by kernel_rfl) fun a F => ?_
 refine l_do F rfl rfl (op_fn F (by kernel_rfl) (nfree _ aa bb) ?_)
 rintro e z ⟨rfl, hb⟩
 have S := S.grow hb
 refine ⟨_, rfl, ?_⟩
 intro a F
 refine l_pure 4 (fun L => (94, .pointer none) :: (93, .bool true) :: (92, .bool true) :: (91, .bool true) :: L) F (by kernel_rfl) fun a F => ?_
 refine l_do F rfl rfl (op_fn F (by kernel_rfl) (nheld _) ?_)
 rintro e z ⟨rfl, hb⟩
 have S := S.grow hb
 refine ⟨_, rfl, ?_⟩
 intro a F
 refine l_pure 4 (fun L => (99, .pointer none) :: (98, .bool true) :: (97, .bool true) :: (96, .bool true) :: L) F (by kernel_rfl) fun a F => ?_
 refine l_do F rfl rfl (op_fn F (by kernel_rfl) (nall _) ?_)
 rintro e z ⟨rfl, hb⟩
 have S := S.grow hb
 refine ⟨_, rfl, ?_⟩
 intro a F
 refine l_pure 3 (fun L => (6, .bool true) :: (102, .bool true) :: (101, .bool true) :: L) F (by kernel_rfl) fun a F => ?_
 refine l_then ?_
 refine wp_ret ?_
 exact fin F [.tmp 6] [.bool true] rfl ⟨by kernel_rfl, trivial⟩ (.bool true) rfl ⟨rfl, S.below (i := 0) rfl⟩
end Go.Proofs.Ytecgpkjigbhneaa
