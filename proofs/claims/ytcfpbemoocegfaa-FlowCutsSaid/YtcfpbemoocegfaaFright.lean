/- Walk over the test of a flow's ends. -/
import Derived.Test.YtcfpbemoocegfaaFlowQ
import Derived.Test.YtcfpbemoocegfaaAll27
namespace Go.Proofs.Ytcfpbemoocegfaa
set_option linter.unusedVariables false
set_option linter.unusedSimpArgs false
set_option linter.unnecessarySimpa false
open Go Go.RowKit

set_option maxRecDepth 100000 in
set_option maxHeartbeats 4000000 in
theorem fright_any (w : World) (As : Option Addr) (cs : Nat) (Ae : Option Addr) (ce : Nat) (x : Wb) (h : WebAt w As cs Ae ce x) (ok : x.Ok) (hs1 : x.edges.length ≤ 1000) (from_ to : Int) : Calls Try.prog 75 #[.agg #[.slice As x.spots.length cs, .slice Ae x.edges.length ce], .int .i64 from_, .int .i64 to] w fun e w' => e = .returned (.int .i64 (frightP x from_ to)) ∧ Below w.heap.size w w' := by
 refine enter 46 Try.func75 rfl rfl rfl fun a F => ?_
 have S := Sat.pushRest w
 refine s_reg ?_
 refine l_do F rfl rfl (op_box S _ _ (.agg #[.slice As x.spots.length cs, .slice Ae x.edges.length ce]) F rfl (by kernel_rfl) fun b1 z S a F => ?_)
 refine l_pure 1 (fun L => (6, .int .i64 0) :: L) F (by kernel_rfl) fun a F => ?_
 refine l_then ?_
 refine wp_seq ?_
 refine s_reg ?_
 refine l_do F rfl rfl (op_loadK _ _ (some ⟨b1, 0, none⟩) 0 [.slice As x.spots.length cs, .slice Ae x.edges.length ce] F rfl (by kernel_rfl) (by kernel_rfl) (by kernel_rfl) (by simp) (cBoxK S 1 rfl 0 (by kernel_rfl)) (fun a F => ?_))
 refine l_do F rfl rfl (op_fn F (by kernel_rfl) (check_any _ As cs Ae ce x (h.move S rfl) ok) ?_)
 rintro e z ⟨rfl, hb⟩
 have S := S.grow hb
 refine ⟨_, rfl, ?_⟩
 intro a F
 refine l_pure 1 (fun L => (7, .int .i64 (chkP x)) :: L) F (by kernel_rfl) fun a F => ?_
 refine l_then ?_
 refine s_reg ?_
 refine l_pure 1 (fun L => (12, .int .i64 (chkP x)) :: L) F (by kernel_rfl) fun a F => ?_
 by_cases ht2 : (chkP x : Int) = (0 : Int)
 ·
  skip
  have hck := ht2
  refine l_do F rfl rfl (op_pure F (v0 := .bool ((chkP x : Int) != (0 : Int))) (v := .bool false) (by kernel_rfl) (neqF ht2) fun a F => ?_)
  refine l_then ?_
  refine c_f F rfl ?_
  refine wp_skip ?_
  refine then_n ?_
  refine wp_seq ?_
  refine s_reg ?_
  refine l_pure 1 (fun L => (15, .int .i64 from_) :: L) F (by kernel_rfl) fun a F => ?_
  by_cases ht3 : (from_ : Int) < (0 : Int)
  ·
   skip
   refine l_do F rfl rfl (op_pure F (v0 := .bool (decide ((from_ : Int) < (0 : Int)))) (v := .bool true) (by kernel_rfl) (lssT ht3) fun a F => ?_)
   refine l_pure 23 (fun L => (39, .bool true) :: (38, undef) :: (37, undef) :: (36, undef) :: (35, .bool true) :: (34, .bool true) :: (33, undef) :: (32, undef) :: (31, undef) :: (30, undef) :: (29, undef) :: (28, .bool true) :: (27, .bool true) :: (26, undef) :: (25, undef) :: (24, .bool true) :: (23, .bool true) :: (22, undef) :: (21, undef) :: (20, undef) :: (19, undef) :: (18, undef) :: (17, .bool true) :: L) F (by kernel_rfl) fun a F => ?_
   refine l_then ?_
   refine c_t F rfl ?_
   refine s_reg ?_
   refine l_pure 1 (fun L => (6, .int .i64 1) :: L) F (by kernel_rfl) fun a F => ?_
   refine l_then ?_
   refine wp_ret ?_
   refine then_r (?_)
   exact fin F [.tmp 6] [.int .i64 1] rfl ⟨by kernel_rfl, trivial⟩ (.int .i64 1) rfl ⟨by rw [fright_arg hck (by omega)], S.below (i := 0) rfl⟩
  ·
   skip
   refine l_do F rfl rfl (op_pure F (v0 := .bool (decide ((from_ : Int) < (0 : Int)))) (v := .bool false) (by kernel_rfl) (lssF ht3) fun a F => ?_)
   refine l_pure 3 (fun L => (19, .pointer (some ⟨b1, 0, none⟩)) :: (18, .int .i64 from_) :: (17, .bool false) :: L) F (by kernel_rfl) fun a F => ?_
   refine l_do F rfl rfl (op_load _ _ (some ⟨b1, 0, none⟩) 0 (.slice As x.spots.length cs) F rfl (by kernel_rfl) (by kernel_rfl) (cBox S 1 rfl (j := 0) rfl) (fun a F => ?_))
   refine l_pure 1 (fun L => (21, .int .i64 (x.spots.length : Nat)) :: L) F (by kernel_rfl) fun a F => ?_
   by_cases ht4 : ((x.spots.length : Nat) : Int) ≤ (from_ : Int)
   ·
    skip
    refine l_do F rfl rfl (op_pure F (v0 := .bool (decide ((from_ : Int) ≥ ((x.spots.length : Nat) : Int)))) (v := .bool true) (by kernel_rfl) (geqT ht4) fun a F => ?_)
    refine l_pure 17 (fun L => (39, .bool true) :: (38, undef) :: (37, undef) :: (36, undef) :: (35, .bool true) :: (34, .bool true) :: (33, undef) :: (32, undef) :: (31, undef) :: (30, undef) :: (29, undef) :: (28, .bool true) :: (27, .bool true) :: (26, undef) :: (25, undef) :: (24, .bool true) :: (23, .bool true) :: L) F (by kernel_rfl) fun a F => ?_
    refine l_then ?_
    refine c_t F rfl ?_
    refine s_reg ?_
    refine l_pure 1 (fun L => (6, .int .i64 1) :: L) F (by kernel_rfl) fun a F => ?_
    refine l_then ?_
    refine wp_ret ?_
    refine then_r (?_)
    exact fin F [.tmp 6] [.int .i64 1] rfl ⟨by kernel_rfl, trivial⟩ (.int .i64 1) rfl ⟨by rw [fright_arg hck (by omega)], S.below (i := 0) rfl⟩
   ·
    skip
    refine l_do F rfl rfl (op_pure F (v0 := .bool (decide ((from_ : Int) ≥ ((x.spots.length : Nat) : Int)))) (v := .bool false) (by kernel_rfl) (geqF ht4) fun a F => ?_)
    refine l_pure 3 (fun L => (25, .int .i64 to) :: (24, .bool false) :: (23, .bool false) :: L) F (by kernel_rfl) fun a F => ?_
    by_cases ht5 : (to : Int) < (0 : Int)
    ·
     skip
     refine l_do F rfl rfl (op_pure F (v0 := .bool (decide ((to : Int) < (0 : Int)))) (v := .bool true) (by kernel_rfl) (lssT ht5) fun a F => ?_)
     refine l_pure 13 (fun L => (39, .bool true) :: (38, undef) :: (37, undef) :: (36, undef) :: (35, .bool true) :: (34, .bool true) :: (33, undef) :: (32, undef) :: (31, undef) :: (30, undef) :: (29, undef) :: (28, .bool true) :: (27, .bool true) :: L) F (by kernel_rfl) fun a F => ?_
     refine l_then ?_
     refine c_t F rfl ?_
     refine s_reg ?_
     refine l_pure 1 (fun L => (6, .int .i64 1) :: L) F (by kernel_rfl) fun a F => ?_
     refine l_then ?_
     refine wp_ret ?_
     refine then_r (?_)
     exact fin F [.tmp 6] [.int .i64 1] rfl ⟨by kernel_rfl, trivial⟩ (.int .i64 1) rfl ⟨by rw [fright_arg hck (by omega)], S.below (i := 0) rfl⟩
    ·
     skip
     refine l_do F rfl rfl (op_pure F (v0 := .bool (decide ((to : Int) < (0 : Int)))) (v := .bool false) (by kernel_rfl) (lssF ht5) fun a F => ?_)
     refine l_pure 4 (fun L => (30, .pointer (some ⟨b1, 0, none⟩)) :: (29, .int .i64 to) :: (28, .bool false) :: (27, .bool false) :: L) F (by kernel_rfl) fun a F => ?_
     refine l_do F rfl rfl (op_load _ _ (some ⟨b1, 0, none⟩) 0 (.slice As x.spots.length cs) F rfl (by kernel_rfl) (by kernel_rfl) (cBox S 1 rfl (j := 0) rfl) (fun a F => ?_))
     refine l_pure 1 (fun L => (32, .int .i64 (x.spots.length : Nat)) :: L) F (by kernel_rfl) fun a F => ?_
     by_cases ht6 : ((x.spots.length : Nat) : Int) ≤ (to : Int)
     ·
      skip
      refine l_do F rfl rfl (op_pure F (v0 := .bool (decide ((to : Int) ≥ ((x.spots.length : Nat) : Int)))) (v := .bool true) (by kernel_rfl) (geqT ht6) fun a F => ?_)
      refine l_pure 6 (fun L => (39, .bool true) :: (38, undef) :: (37, undef) :: (36, undef) :: (35, .bool true) :: (34, .bool true) :: L) F (by kernel_rfl) fun a F => ?_
      refine l_then ?_
      refine c_t F rfl ?_
      refine s_reg ?_
      refine l_pure 1 (fun L => (6, .int .i64 1) :: L) F (by kernel_rfl) fun a F => ?_
      refine l_then ?_
      refine wp_ret ?_
      refine then_r (?_)
      exact fin F [.tmp 6] [.int .i64 1] rfl ⟨by kernel_rfl, trivial⟩ (.int .i64 1) rfl ⟨by rw [fright_arg hck (by omega)], S.below (i := 0) rfl⟩
     ·
      skip
      refine l_do F rfl rfl (op_pure F (v0 := .bool (decide ((to : Int) ≥ ((x.spots.length : Nat) : Int)))) (v := .bool false) (by kernel_rfl) (geqF ht6) fun a F => ?_)
      refine l_pure 4 (fun L => (37, .int .i64 to) :: (36, .int .i64 from_) :: (35, .bool false) :: (34, .bool false) :: L) F (by kernel_rfl) fun a F => ?_
      by_cases ht7 : (from_ : Int) = (to : Int)
      ·
       skip
       refine l_do F rfl rfl (op_pure F (v0 := .bool ((from_ : Int) == (to : Int))) (v := .bool true) (by kernel_rfl) (eqlT ht7) fun a F => ?_)
       refine l_pure 1 (fun L => (39, .bool true) :: L) F (by kernel_rfl) fun a F => ?_
       refine l_then ?_
       refine c_t F rfl ?_
       refine s_reg ?_
       refine l_pure 1 (fun L => (6, .int .i64 1) :: L) F (by kernel_rfl) fun a F => ?_
       refine l_then ?_
       refine wp_ret ?_
       refine then_r (?_)
       exact fin F [.tmp 6] [.int .i64 1] rfl ⟨by kernel_rfl, trivial⟩ (.int .i64 1) rfl ⟨by rw [fright_arg hck (by omega)], S.below (i := 0) rfl⟩
      ·
       skip
       refine l_do F rfl rfl (op_pure F (v0 := .bool ((from_ : Int) == (to : Int))) (v := .bool false) (by kernel_rfl) (eqlF ht7) fun a F => ?_)
       refine l_pure 1 (fun L => (39, .bool false) :: L) F (by kernel_rfl) fun a F => ?_
       refine l_then ?_
       refine c_f F rfl ?_
       refine wp_skip ?_
       refine then_n ?_
       refine s_reg ?_
       refine l_do F rfl rfl (op_loadK _ _ (some ⟨b1, 0, none⟩) 0 [.slice As x.spots.length cs, .slice Ae x.edges.length ce] F rfl (by kernel_rfl) (by kernel_rfl) (by kernel_rfl) (by simp) (cBoxK S 1 rfl 0 (by kernel_rfl)) (fun a F => ?_))
       refine l_do F rfl rfl (op_fn F (by kernel_rfl) (all_any _ As cs Ae ce x (h.move S rfl) ok hs1) ?_)
       rintro e z ⟨rfl, hb⟩
       have S := S.grow hb
       refine ⟨_, rfl, ?_⟩
       intro a F
       refine l_pure 5 (fun L => (9, .int .i64 ((allP x).2)) :: (8, .int .u64 ((allP x).1)) :: (44, .int .i64 ((allP x).2)) :: (43, .int .u64 ((allP x).1)) :: (40, .tuple #[.int .u64 ((allP x).1), .int .i64 ((allP x).2)]) :: L) F (by kernel_rfl) fun a F => ?_
       refine l_then ?_
       refine s_reg ?_
       refine l_pure 2 (fun L => (6, .int .i64 ((allP x).2)) :: (45, .int .i64 ((allP x).2)) :: L) F (by kernel_rfl) fun a F => ?_
       refine l_then ?_
       refine wp_ret ?_
       exact fin F [.tmp 6] [.int .i64 ((allP x).2)] rfl ⟨by kernel_rfl, trivial⟩ (.int .i64 ((allP x).2)) rfl ⟨by rw [fright_all hck (by omega)], S.below (i := 0) rfl⟩
 ·
  skip
  have hck := ht2
  have hr := fright_chk (from_ := from_) (to := to) hck
  refine l_do F rfl rfl (op_pure F (v0 := .bool ((chkP x : Int) != (0 : Int))) (v := .bool true) (by kernel_rfl) (neqT ht2) fun a F => ?_)
  refine l_then ?_
  refine c_t F rfl ?_
  refine s_reg ?_
  refine l_pure 2 (fun L => (6, .int .i64 (chkP x)) :: (14, .int .i64 (chkP x)) :: L) F (by kernel_rfl) fun a F => ?_
  refine l_then ?_
  refine wp_ret ?_
  refine then_r (?_)
  exact fin F [.tmp 6] [.int .i64 (chkP x)] rfl ⟨by kernel_rfl, trivial⟩ (.int .i64 (chkP x)) rfl ⟨by rw [fright_chk hck], S.below (i := 0) rfl⟩
end Go.Proofs.Ytcfpbemoocegfaa
