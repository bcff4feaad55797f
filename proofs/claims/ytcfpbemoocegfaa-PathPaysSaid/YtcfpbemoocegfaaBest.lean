/- Walks over routes: all of them, the best one. -/
import Derived.Test.YtcfpbemoocegfaaSeek
import Derived.Test.YtcfpbemoocegfaaPathP
import Derived.Test.YtcfpbemoocegfaaGf
namespace Go.Proofs.Ytcfpbemoocegfaa
set_option linter.unusedVariables false
set_option linter.unusedSimpArgs false
set_option linter.unnecessarySimpa false
open Go Go.RowKit

set_option maxRecDepth 100000 in
set_option maxHeartbeats 4000000 in
theorem right_any (w : World) (As : Option Addr) (cs : Nat) (Ae : Option Addr) (ce : Nat) (x : Wb) (h : WebAt w As cs Ae ce x) (ok : x.Ok) (from_ to am : Int) (hs1 : x.spots.length ≤ 1000) : Calls Try.prog 54 #[.agg #[.slice As x.spots.length cs, .slice Ae x.edges.length ce], .int .i64 from_, .int .i64 to, .int .u64 am] w fun e w' => e = .returned (.int .i64 (rightP x from_ to am)) ∧ Below w.heap.size w w' := by
 refine enter 44 Try.func54 rfl rfl rfl fun a F => ?_
 have S := Sat.pushRest w
 refine s_reg ?_
 refine l_do F rfl rfl (op_box S _ _ (.agg #[.slice As x.spots.length cs, .slice Ae x.edges.length ce]) F rfl (by kernel_rfl) fun b1 z S a F => ?_)
 refine l_pure 1 (fun L => (8, .int .i64 0) :: L) F (by kernel_rfl) fun a F => ?_
 refine l_then ?_
 refine wp_seq ?_
 refine s_reg ?_
 refine l_do F rfl rfl (op_loadK _ _ (some ⟨b1, 0, none⟩) 0 [.slice As x.spots.length cs, .slice Ae x.edges.length ce] F rfl (by kernel_rfl) (by kernel_rfl) (by kernel_rfl) (by simp) (cBoxK S 1 rfl 0 (by kernel_rfl)) (fun a F => ?_))
 refine l_do F rfl rfl (op_fn F (by kernel_rfl) (check_any _ As cs Ae ce x (h.move S rfl) ok) ?_)
 rintro e z ⟨rfl, hb⟩
 have S := S.grow hb
 refine ⟨_, rfl, ?_⟩
 intro a F
 refine l_pure 1 (fun L => (9, .int .i64 (chkP x)) :: L) F (by kernel_rfl) fun a F => ?_
 refine l_then ?_
 refine s_reg ?_
 refine l_pure 1 (fun L => (13, .int .i64 (chkP x)) :: L) F (by kernel_rfl) fun a F => ?_
 by_cases ht2 : (chkP x : Int) = (0 : Int)
 ·
  skip
  have hc := ht2
  refine l_do F rfl rfl (op_pure F (v0 := .bool ((chkP x : Int) != (0 : Int))) (v := .bool false) (by kernel_rfl) (neqF ht2) fun a F => ?_)
  refine l_then ?_
  refine c_f F rfl ?_
  refine wp_skip ?_
  refine then_n ?_
  refine s_reg ?_
  refine l_pure 1 (fun L => (16, .pointer (some ⟨b1, 0, none⟩)) :: L) F (by kernel_rfl) fun a F => ?_
  refine l_do F rfl rfl (op_load _ _ (some ⟨b1, 0, none⟩) 0 (.slice As x.spots.length cs) F rfl (by kernel_rfl) (by kernel_rfl) (cBox S 1 rfl (j := 0) rfl) (fun a F => ?_))
  refine l_pure 2 (fun L => (10, .int .i64 (x.spots.length : Nat)) :: (18, .int .i64 (x.spots.length : Nat)) :: L) F (by kernel_rfl) fun a F => ?_
  refine l_then ?_
  refine wp_seq ?_
  refine s_reg ?_
  refine l_pure 1 (fun L => (19, .int .i64 from_) :: L) F (by kernel_rfl) fun a F => ?_
  by_cases ht3 : (from_ : Int) < (0 : Int)
  ·
   skip
   refine l_do F rfl rfl (op_pure F (v0 := .bool (decide ((from_ : Int) < (0 : Int)))) (v := .bool true) (by kernel_rfl) (lssT ht3) fun a F => ?_)
   refine l_pure 23 (fun L => (43, .bool true) :: (42, undef) :: (41, undef) :: (40, .bool true) :: (39, .bool true) :: (38, undef) :: (37, undef) :: (36, undef) :: (35, .bool true) :: (34, .bool true) :: (33, undef) :: (32, undef) :: (31, undef) :: (30, .bool true) :: (29, .bool true) :: (28, undef) :: (27, undef) :: (26, .bool true) :: (25, .bool true) :: (24, undef) :: (23, undef) :: (22, undef) :: (21, .bool true) :: L) F (by kernel_rfl) fun a F => ?_
   refine l_then ?_
   refine c_t F rfl ?_
   refine s_reg ?_
   refine l_pure 1 (fun L => (8, .int .i64 1) :: L) F (by kernel_rfl) fun a F => ?_
   refine l_then ?_
   refine wp_ret ?_
   refine then_r (?_)
   exact fin F [.tmp 8] [.int .i64 1] rfl ⟨by kernel_rfl, trivial⟩ (.int .i64 1) rfl ⟨by rw [right_bad hc (by omega)], S.below (i := 0) rfl⟩
  ·
   skip
   refine l_do F rfl rfl (op_pure F (v0 := .bool (decide ((from_ : Int) < (0 : Int)))) (v := .bool false) (by kernel_rfl) (lssF ht3) fun a F => ?_)
   refine l_pure 3 (fun L => (23, .int .i64 (x.spots.length : Nat)) :: (22, .int .i64 from_) :: (21, .bool false) :: L) F (by kernel_rfl) fun a F => ?_
   by_cases ht4 : ((x.spots.length : Nat) : Int) ≤ (from_ : Int)
   ·
    skip
    refine l_do F rfl rfl (op_pure F (v0 := .bool (decide ((from_ : Int) ≥ ((x.spots.length : Nat) : Int)))) (v := .bool true) (by kernel_rfl) (geqT ht4) fun a F => ?_)
    refine l_pure 19 (fun L => (43, .bool true) :: (42, undef) :: (41, undef) :: (40, .bool true) :: (39, .bool true) :: (38, undef) :: (37, undef) :: (36, undef) :: (35, .bool true) :: (34, .bool true) :: (33, undef) :: (32, undef) :: (31, undef) :: (30, .bool true) :: (29, .bool true) :: (28, undef) :: (27, undef) :: (26, .bool true) :: (25, .bool true) :: L) F (by kernel_rfl) fun a F => ?_
    refine l_then ?_
    refine c_t F rfl ?_
    refine s_reg ?_
    refine l_pure 1 (fun L => (8, .int .i64 1) :: L) F (by kernel_rfl) fun a F => ?_
    refine l_then ?_
    refine wp_ret ?_
    refine then_r (?_)
    exact fin F [.tmp 8] [.int .i64 1] rfl ⟨by kernel_rfl, trivial⟩ (.int .i64 1) rfl ⟨by rw [right_bad hc (by omega)], S.below (i := 0) rfl⟩
   ·
    skip
    refine l_do F rfl rfl (op_pure F (v0 := .bool (decide ((from_ : Int) ≥ ((x.spots.length : Nat) : Int)))) (v := .bool false) (by kernel_rfl) (geqF ht4) fun a F => ?_)
    refine l_pure 3 (fun L => (27, .int .i64 to) :: (26, .bool false) :: (25, .bool false) :: L) F (by kernel_rfl) fun a F => ?_
    by_cases ht5 : (to : Int) < (0 : Int)
    ·
     skip
     refine l_do F rfl rfl (op_pure F (v0 := .bool (decide ((to : Int) < (0 : Int)))) (v := .bool true) (by kernel_rfl) (lssT ht5) fun a F => ?_)
     refine l_pure 15 (fun L => (43, .bool true) :: (42, undef) :: (41, undef) :: (40, .bool true) :: (39, .bool true) :: (38, undef) :: (37, undef) :: (36, undef) :: (35, .bool true) :: (34, .bool true) :: (33, undef) :: (32, undef) :: (31, undef) :: (30, .bool true) :: (29, .bool true) :: L) F (by kernel_rfl) fun a F => ?_
     refine l_then ?_
     refine c_t F rfl ?_
     refine s_reg ?_
     refine l_pure 1 (fun L => (8, .int .i64 1) :: L) F (by kernel_rfl) fun a F => ?_
     refine l_then ?_
     refine wp_ret ?_
     refine then_r (?_)
     exact fin F [.tmp 8] [.int .i64 1] rfl ⟨by kernel_rfl, trivial⟩ (.int .i64 1) rfl ⟨by rw [right_bad hc (by omega)], S.below (i := 0) rfl⟩
    ·
     skip
     refine l_do F rfl rfl (op_pure F (v0 := .bool (decide ((to : Int) < (0 : Int)))) (v := .bool false) (by kernel_rfl) (lssF ht5) fun a F => ?_)
     refine l_pure 4 (fun L => (32, .int .i64 (x.spots.length : Nat)) :: (31, .int .i64 to) :: (30, .bool false) :: (29, .bool false) :: L) F (by kernel_rfl) fun a F => ?_
     by_cases ht6 : ((x.spots.length : Nat) : Int) ≤ (to : Int)
     ·
      skip
      refine l_do F rfl rfl (op_pure F (v0 := .bool (decide ((to : Int) ≥ ((x.spots.length : Nat) : Int)))) (v := .bool true) (by kernel_rfl) (geqT ht6) fun a F => ?_)
      refine l_pure 10 (fun L => (43, .bool true) :: (42, undef) :: (41, undef) :: (40, .bool true) :: (39, .bool true) :: (38, undef) :: (37, undef) :: (36, undef) :: (35, .bool true) :: (34, .bool true) :: L) F (by kernel_rfl) fun a F => ?_
      refine l_then ?_
      refine c_t F rfl ?_
      refine s_reg ?_
      refine l_pure 1 (fun L => (8, .int .i64 1) :: L) F (by kernel_rfl) fun a F => ?_
      refine l_then ?_
      refine wp_ret ?_
      refine then_r (?_)
      exact fin F [.tmp 8] [.int .i64 1] rfl ⟨by kernel_rfl, trivial⟩ (.int .i64 1) rfl ⟨by rw [right_bad hc (by omega)], S.below (i := 0) rfl⟩
     ·
      skip
      refine l_do F rfl rfl (op_pure F (v0 := .bool (decide ((to : Int) ≥ ((x.spots.length : Nat) : Int)))) (v := .bool false) (by kernel_rfl) (geqF ht6) fun a F => ?_)
      refine l_pure 4 (fun L => (37, .int .i64 to) :: (36, .int .i64 from_) :: (35, .bool false) :: (34, .bool false) :: L) F (by kernel_rfl) fun a F => ?_
      by_cases ht7 : (from_ : Int) = (to : Int)
      ·
       skip
       refine l_do F rfl rfl (op_pure F (v0 := .bool ((from_ : Int) == (to : Int))) (v := .bool true) (by kernel_rfl) (eqlT ht7) fun a F => ?_)
       refine l_pure 5 (fun L => (43, .bool true) :: (42, undef) :: (41, undef) :: (40, .bool true) :: (39, .bool true) :: L) F (by kernel_rfl) fun a F => ?_
       refine l_then ?_
       refine c_t F rfl ?_
       refine s_reg ?_
       refine l_pure 1 (fun L => (8, .int .i64 1) :: L) F (by kernel_rfl) fun a F => ?_
       refine l_then ?_
       refine wp_ret ?_
       refine then_r (?_)
       exact fin F [.tmp 8] [.int .i64 1] rfl ⟨by kernel_rfl, trivial⟩ (.int .i64 1) rfl ⟨by rw [right_bad hc (by omega)], S.below (i := 0) rfl⟩
      ·
       skip
       refine l_do F rfl rfl (op_pure F (v0 := .bool ((from_ : Int) == (to : Int))) (v := .bool false) (by kernel_rfl) (eqlF ht7) fun a F => ?_)
       refine l_pure 3 (fun L => (41, .int .u64 am) :: (40, .bool false) :: (39, .bool false) :: L) F (by kernel_rfl) fun a F => ?_
       by_cases ht8 : (am : Int) = (0 : Int)
       ·
        skip
        refine l_do F rfl rfl (op_pure F (v0 := .bool ((am : Int) == (0 : Int))) (v := .bool true) (by kernel_rfl) (eqlT ht8) fun a F => ?_)
        refine l_pure 1 (fun L => (43, .bool true) :: L) F (by kernel_rfl) fun a F => ?_
        refine l_then ?_
        refine c_t F rfl ?_
        refine s_reg ?_
        refine l_pure 1 (fun L => (8, .int .i64 1) :: L) F (by kernel_rfl) fun a F => ?_
        refine l_then ?_
        refine wp_ret ?_
        refine then_r (?_)
        exact fin F [.tmp 8] [.int .i64 1] rfl ⟨by kernel_rfl, trivial⟩ (.int .i64 1) rfl ⟨by rw [right_bad hc (by omega)], S.below (i := 0) rfl⟩
       ·
        skip
        refine l_do F rfl rfl (op_pure F (v0 := .bool ((am : Int) == (0 : Int))) (v := .bool false) (by kernel_rfl) (eqlF ht8) fun a F => ?_)
        refine l_pure 1 (fun L => (43, .bool false) :: L) F (by kernel_rfl) fun a F => ?_
        refine l_then ?_
        refine c_f F rfl ?_
        refine wp_skip ?_
        refine then_n ?_
        refine s_reg ?_
        refine l_pure 1 (fun L => (8, .int .i64 0) :: L) F (by kernel_rfl) fun a F => ?_
        refine l_then ?_
        refine wp_ret ?_
        exact fin F [.tmp 8] [.int .i64 0] rfl ⟨by kernel_rfl, trivial⟩ (.int .i64 0) rfl ⟨by rw [right_ok hc (by omega)], S.below (i := 0) rfl⟩
 ·
  skip
  have hc := ht2
  refine l_do F rfl rfl (op_pure F (v0 := .bool ((chkP x : Int) != (0 : Int))) (v := .bool true) (by kernel_rfl) (neqT ht2) fun a F => ?_)
  refine l_then ?_
  refine c_t F rfl ?_
  refine s_reg ?_
  refine l_pure 2 (fun L => (8, .int .i64 (chkP x)) :: (15, .int .i64 (chkP x)) :: L) F (by kernel_rfl) fun a F => ?_
  refine l_then ?_
  refine wp_ret ?_
  refine then_r (?_)
  exact fin F [.tmp 8] [.int .i64 (chkP x)] rfl ⟨by kernel_rfl, trivial⟩ (.int .i64 (chkP x)) rfl ⟨by rw [right_chk hc], S.below (i := 0) rfl⟩
set_option maxRecDepth 100000 in
set_option maxHeartbeats 4000000 in
theorem pall_any (w : World) (As : Option Addr) (cs : Nat) (Ae : Option Addr) (ce : Nat) (x : Wb) (h : WebAt w As cs Ae ce x) (ok : x.Ok) (from_ to am : Int) (hua : U64 am) (hs1 : x.spots.length ≤ 1000) : Calls Try.prog 17 #[.agg #[.slice As x.spots.length cs, .slice Ae x.edges.length ce], .int .i64 from_, .int .i64 to, .int .u64 am] w fun e w' => ∃ (A' : Option Addr) (c' : Nat) (R' : List RtM), e = .returned (.tuple #[.slice A' R'.length c', .int .i64 (rightP x from_ to am)]) ∧ R'.map RtM.r = allRt x from_ to am ∧ Sat w w' [rest w (· < w.heap.size), row 47 3 (.slice A' R'.length c') R'.length (R'.flatMap rtC), bag (R'.flatMap rtRows)] := by
 refine enter 34 Try.func17 rfl rfl rfl fun a F => ?_
 have S := Sat.pushRest w
 refine s_reg ?_
 refine l_do F rfl rfl (op_box S _ _ (.agg #[.slice As x.spots.length cs, .slice Ae x.edges.length ce]) F rfl (by kernel_rfl) fun b1 z S a F => ?_)
 refine l_do F rfl rfl (op_box S _ _ (.int .u64 am) F rfl (by kernel_rfl) fun b2 z S a F => ?_)
 refine l_pure 2 (fun L => (9, .int .i64 0) :: (8, .slice none 0 0) :: L) F (by kernel_rfl) fun a F => ?_
 refine l_then ?_
 refine wp_seq ?_
 refine s_reg ?_
 refine l_do F rfl rfl (op_loadK _ _ (some ⟨b1, 0, none⟩) 0 [.slice As x.spots.length cs, .slice Ae x.edges.length ce] F rfl (by kernel_rfl) (by kernel_rfl) (by kernel_rfl) (by simp) (cBoxK S 1 rfl 0 (by kernel_rfl)) (fun a F => ?_))
 refine l_pure 2 (fun L => (15, .int .i64 to) :: (14, .int .i64 from_) :: L) F (by kernel_rfl) fun a F => ?_
 refine l_do F rfl rfl (op_load _ _ (some ⟨b2, 0, none⟩) 0 (.int .u64 am) F rfl (by kernel_rfl) (by kernel_rfl) (cBox S 2 rfl (j := 0) rfl) (fun a F => ?_))
 refine l_do F rfl rfl (op_fn F (by kernel_rfl) (right_any _ As cs Ae ce x (h.move S rfl) ok from_ to am hs1) ?_)
 rintro e z ⟨rfl, hb⟩
 have S := S.grow hb
 refine ⟨_, rfl, ?_⟩
 intro a F
 refine l_pure 1 (fun L => (10, .int .i64 (rightP x from_ to am)) :: L) F (by kernel_rfl) fun a F => ?_
 refine l_then ?_
 refine s_reg ?_
 refine l_pure 1 (fun L => (18, .int .i64 (rightP x from_ to am)) :: L) F (by kernel_rfl) fun a F => ?_
 by_cases ht3 : (rightP x from_ to am : Int) = (0 : Int)
 ·
  skip
  have hr := ht3
  refine l_do F rfl rfl (op_pure F (v0 := .bool ((rightP x from_ to am : Int) != (0 : Int))) (v := .bool false) (by kernel_rfl) (neqF ht3) fun a F => ?_)
  refine l_then ?_
  refine c_f F rfl ?_
  refine wp_skip ?_
  refine then_n ?_
  refine s_reg ?_
  refine l_do F rfl rfl (op_alloc S _ (.slice none 0 0) rfl (by kernel_rfl) fun b4 z S a F => ?_)
  refine l_then ?_
  refine s_reg ?_
  refine l_do F rfl rfl (op_loadK _ _ (some ⟨b1, 0, none⟩) 0 [.slice As x.spots.length cs, .slice Ae x.edges.length ce] F rfl (by kernel_rfl) (by kernel_rfl) (by kernel_rfl) (by simp) (cBoxK S 1 rfl 0 (by kernel_rfl)) (fun a F => ?_))
  refine l_pure 2 (fun L => (23, .int .i64 from_) :: (22, .int .i64 to) :: L) F (by kernel_rfl) fun a F => ?_
  refine l_do F rfl rfl (op_buildSlice S _ 1 _ 3 1 iC_i64 ([from_] : List Int) F rfl (by kernel_rfl) (by kernel_rfl) (by kernel_rfl) (by unfold maxLen; omega) fun b5 z S a F => ?_)
  refine l_pure 1 (fun L => (25, .agg #[.slice As x.spots.length cs, .slice Ae x.edges.length ce, .int .i64 to, .slice (some ⟨b5, 0, none⟩) 1 1, .slice none 0 0, .nilFunc]) :: L) F (by kernel_rfl) fun a F => ?_
  refine l_do F rfl rfl (op_box S _ _ (.agg #[.slice As x.spots.length cs, .slice Ae x.edges.length ce, .int .i64 to, .slice (some ⟨b5, 0, none⟩) 1 1, .slice none 0 0, .nilFunc]) F rfl (by kernel_rfl) fun b6 z S a F => ?_)
  refine l_pure 1 (fun L => (12, .pointer (some ⟨b6, 0, none⟩)) :: L) F (by kernel_rfl) fun a F => ?_
  refine l_then ?_
  refine s_reg ?_
  refine l_pure 4 (fun L => (30, .pointer (some ⟨b6, 5, none⟩)) :: (29, .pointer (some ⟨b6, 0, none⟩)) :: (28, .func (.func 55) #[] #[.pointer (some ⟨b1, 0, none⟩), .pointer (some ⟨b2, 0, none⟩), .pointer (some ⟨b4, 0, none⟩)]) :: (27, .pointer (some ⟨b6, 0, none⟩)) :: L) F (by kernel_rfl) fun a F => ?_
  refine l_do F rfl rfl (op_storeB S 5 _ _ _ b6 5 (.func (.func 55) #[] #[.pointer (some ⟨b1, 0, none⟩), .pointer (some ⟨b2, 0, none⟩), .pointer (some ⟨b4, 0, none⟩)]) F rfl rfl (by kernel_rfl) (by kernel_rfl) (by kernel_rfl) (by kernel_rfl) (by kernel_rfl) fun z S a F => ?_)
  refine l_then ?_
  refine s_reg ?_
  refine l_pure 1 (fun L => (31, .pointer (some ⟨b6, 0, none⟩)) :: L) F (by kernel_rfl) fun a F => ?_
  have S := S.nilRow 3 1
  have S := S.nilRow 47 3
  have S := S.pushBag
  obtain ⟨G9, g9, hin9, hlt9, k9⟩ := S.frameB [5, 4, 6, 3, 7, 8, 1, 2] (by decide) rfl
  refine l_do F rfl rfl (op_fn F (by kernel_rfl) (seek_any 8 _ G9 b4 b1 b2 As cs Ae ce x (h.move S rfl) ok (InG.rest hin9 0 (by decide) rfl (InG.all h.s.src)) (InG.rest hin9 0 (by decide) rfl (InG.all h.e.src)) am hua to b6 [from_] [] (way_one x from_) (by simp) rfl (some ⟨b5, 0, none⟩) 1 none 0 none 0 [] (by decide) g9) ?_)
  rintro e z9 ⟨A1, c1, A2, c2, A3, c3, R2, on2, rfl, hon2, hR2, g⟩
  have S : Sat w z9 [rest w (· < w.heap.size), box b1 32 [.slice As x.spots.length cs, .slice Ae x.edges.length ce], box b2 26 [.int .u64 am], box b4 34 [.slice A3 R2.length c3], row 3 1 (.slice A1 1 c1) 1 ([from_].flatMap iC_i64), box b6 113 [.slice As x.spots.length cs, .slice Ae x.edges.length ce, .int .i64 to, .slice A1 1 c1, .slice A2 0 c2, .func (.func 55) #[] #[.pointer (some ⟨b1, 0, none⟩), .pointer (some ⟨b2, 0, none⟩), .pointer (some ⟨b4, 0, none⟩)]], row 3 1 (.slice A2 0 c2) 0 (([] : List Int).flatMap iC_i64), row 47 3 (.slice A3 R2.length c3) R2.length (R2.flatMap rtC), bag (R2.flatMap rtRows)] := k9 z9 [box b6 113 [.slice As x.spots.length cs, .slice Ae x.edges.length ce, .int .i64 to, .slice A1 1 c1, .slice A2 0 c2, .func (.func 55) #[] #[.pointer (some ⟨b1, 0, none⟩), .pointer (some ⟨b2, 0, none⟩), .pointer (some ⟨b4, 0, none⟩)]], row 3 1 (.slice A1 1 c1) 1 ([from_].flatMap iC_i64), row 3 1 (.slice A2 0 c2) 0 (([] : List Int).flatMap iC_i64), box b4 34 [.slice A3 R2.length c3], row 47 3 (.slice A3 R2.length c3) R2.length (R2.flatMap rtC), bag (R2.flatMap rtRows), box b1 32 [.slice As x.spots.length cs, .slice Ae x.edges.length ce], box b2 26 [.int .u64 am]] rfl g
  clear g g9 k9 hin9 hlt9
  refine ⟨_, rfl, ?_⟩
  intro a F
  refine l_then ?_
  refine s_reg ?_
  refine l_do F rfl rfl (op_load _ _ (some ⟨b4, 0, none⟩) 0 (.slice A3 R2.length c3) F rfl (by kernel_rfl) (by kernel_rfl) (cBox S 3 rfl (j := 0) rfl) (fun a F => ?_))
  refine l_pure 2 (fun L => (9, .int .i64 0) :: (8, .slice A3 R2.length c3) :: L) F (by kernel_rfl) fun a F => ?_
  refine l_then ?_
  refine wp_ret ?_
  exact fin F [.tmp 8, .tmp 9] [.slice A3 R2.length c3, .int .i64 0] rfl ⟨by kernel_rfl, by kernel_rfl, trivial⟩ (.tuple #[.slice A3 R2.length c3, .int .i64 0]) rfl ⟨A3, c3, R2, by rw [hr], by rw [hR2]; exact all_ok hr, S.pick [0, 7, 8] (by decide)⟩
 ·
  skip
  have hr := ht3
  refine l_do F rfl rfl (op_pure F (v0 := .bool ((rightP x from_ to am : Int) != (0 : Int))) (v := .bool true) (by kernel_rfl) (neqT ht3) fun a F => ?_)
  refine l_then ?_
  refine c_t F rfl ?_
  refine s_reg ?_
  refine l_pure 3 (fun L => (9, .int .i64 (rightP x from_ to am)) :: (8, .slice none 0 0) :: (20, .int .i64 (rightP x from_ to am)) :: L) F (by kernel_rfl) fun a F => ?_
  refine l_then ?_
  refine wp_ret ?_
  refine then_r (?_)
  exact fin F [.tmp 8, .tmp 9] [.slice none 0 0, .int .i64 (rightP x from_ to am)] rfl ⟨by kernel_rfl, by kernel_rfl, trivial⟩ (.tuple #[.slice none 0 0, .int .i64 (rightP x from_ to am)]) rfl ⟨none, 0, [], rfl, (all_none hr).symm, ((S.nilRow 47 3).pushBag).pick [0, 3, 4] (by decide)⟩
theorem long_any (w : World) (v1 : Value) (A1 : Option Addr) (n1 m1 : Nat) (v2 : Value) : Calls Try.prog 23 #[.agg #[v1, .slice A1 n1 m1, v2]] w fun e w' => e = .returned (.int .i64 (n1 : Nat)) ∧ Below w.heap.size w w' := by
  refine enter 6 Try.func23 rfl rfl rfl fun a F => ?_
  have S := Sat.pushRest w
  refine s_reg ?_
  refine l_do F rfl rfl (op_box S _ _ (.agg #[v1, .slice A1 n1 m1, v2]) F rfl (by kernel_rfl) fun b1 z S a F => ?_)
  refine l_pure 1 (fun L => (2, .int .i64 0) :: L) F (by kernel_rfl) fun a F => ?_
  refine l_then ?_
  refine s_reg ?_
  refine l_pure 1 (fun L => (3, .pointer (some ⟨b1, 1, none⟩)) :: L) F (by kernel_rfl) fun a F => ?_
  refine l_do F rfl rfl (op_load _ _ (some ⟨b1, 0, none⟩) 1 (.slice A1 n1 m1) F rfl (by kernel_rfl) (by kernel_rfl) (cBox S 1 rfl (j := 1) rfl) (fun a F => ?_))
  refine l_pure 2 (fun L => (2, .int .i64 (n1 : Nat)) :: (5, .int .i64 (n1 : Nat)) :: L) F (by kernel_rfl) fun a F => ?_
  refine l_then ?_
  refine wp_ret ?_
  exact fin F [.tmp 2] [.int .i64 (n1 : Nat)] rfl ⟨by kernel_rfl, trivial⟩ (.int .i64 (n1 : Nat)) rfl ⟨rfl, S.below (i := 0) rfl⟩
set_option maxRecDepth 100000 in
set_option maxHeartbeats 4000000 in
theorem better_any (w : World) (ra rb : RtM) (ha : Recs 1 iC_u64 w ra.A3 ra.c3 ra.r.amts) (hb : Recs 1 iC_u64 w rb.A3 rb.c3 rb.r.amts) (u v : Int) (hu : ra.r.amts[0]? = some u) (hv : rb.r.amts[0]? = some v) : Calls Try.prog 60 #[.agg #[.slice ra.A1 ra.r.nodes.length ra.c1, .slice ra.A2 ra.r.edges.length ra.c2, .slice ra.A3 ra.r.amts.length ra.c3], .agg #[.slice rb.A1 rb.r.nodes.length rb.c1, .slice rb.A2 rb.r.edges.length rb.c2, .slice rb.A3 rb.r.amts.length rb.c3]] w fun e w' => e = .returned (.bool (decide (betterP ra.r rb.r))) ∧ Below w.heap.size w w' := by
 refine enter 32 Try.func60 rfl rfl rfl fun a F => ?_
 have S := Sat.pushRest w
 refine s_reg ?_
 refine l_do F rfl rfl (op_box S _ _ (.agg #[.slice ra.A1 ra.r.nodes.length ra.c1, .slice ra.A2 ra.r.edges.length ra.c2, .slice ra.A3 ra.r.amts.length ra.c3]) F rfl (by kernel_rfl) fun b1 z S a F => ?_)
 refine l_do F rfl rfl (op_box S _ _ (.agg #[.slice rb.A1 rb.r.nodes.length rb.c1, .slice rb.A2 rb.r.edges.length rb.c2, .slice rb.A3 rb.r.amts.length rb.c3]) F rfl (by kernel_rfl) fun b2 z S a F => ?_)
 refine l_pure 1 (fun L => (4, .bool false) :: L) F (by kernel_rfl) fun a F => ?_
 refine l_then ?_
 refine wp_seq ?_
 by_cases ht3 : (u : Int) < (v : Int)
 ·
  skip
  refine region_gx (fun D => fun (_ : Unit) => [rest w (· < w.heap.size), box b1 47 [.slice ra.A1 ra.r.nodes.length ra.c1, .slice ra.A2 ra.r.edges.length ra.c2, .slice ra.A3 ra.r.amts.length ra.c3], box b2 47 [.slice rb.A1 rb.r.nodes.length rb.c1, .slice rb.A2 rb.r.edges.length rb.c2, .slice rb.A3 rb.r.amts.length rb.c3]]) (fun (_ : Unit) => [.pointer (some ⟨b1, 2, none⟩), .slice ra.A3 ra.r.amts.length ra.c3, ptrA ra.A3 (0 * 1), .int .u64 u, .pointer (some ⟨b2, 2, none⟩), .slice rb.A3 rb.r.amts.length rb.c3, ptrA rb.A3 (0 * 1), .int .u64 v, .bool true, .bool true, undef, undef, undef, undef, undef, undef, undef, undef, undef, undef, undef, undef, undef, undef, undef, undef, .bool true, .bool true]) [(1, [], [2, 3, 8]), (2, [1], [3, 8]), (3, [1, 2], [8]), (5, [], [6, 7, 8]), (6, [5], [7, 8]), (7, [5, 6], [8]), (8, [1, 2, 3, 5, 6, 7], [])] () rfl (by kernel_rfl) (by kernel_rfl) F S.drew ?_ ?_ ?_ ?_ ?_
  · rintro ⟨⟩; rfl
  · rintro ⟨⟩; kernel_rfl
  ·
   intro D D' x h
   cases x
   rfl
  ·
   refine ⟨?_, ?_⟩
   ·
    refine ⟨_, rfl, rfl, by kernel_rfl, ?_⟩
    rintro D ⟨⟩ a z S F
    refine ⟨by kernel_rfl, ?_⟩
    exact op_load _ _ (some ⟨b1, 0, none⟩) 2 (.slice ra.A3 ra.r.amts.length ra.c3) F rfl (by kernel_rfl) (by kernel_rfl) (cBox S 1 rfl (j := 2) rfl) (⟨(), rfl, (SameB.refl _ _ rfl), S⟩)
   refine ⟨?_, ?_⟩
   ·
    refine ⟨_, rfl, rfl, by kernel_rfl, ?_⟩
    rintro D ⟨⟩ a z S F
    refine ⟨by kernel_rfl, ?_⟩
    exact op_index _ 26 _ _ ra.A3 ra.r.amts.length ra.c3 0 1 .i64 F rfl (by kernel_rfl) (by kernel_rfl) (by kernel_rfl) (by kernel_rfl) (get_lt hu) (recs_some ha (m := 0) (get_lt hu)) (⟨(), rfl, (SameB.refl _ _ rfl), S⟩)
   refine ⟨?_, ?_⟩
   ·
    refine ⟨_, rfl, rfl, by kernel_rfl, ?_⟩
    rintro D ⟨⟩ a z S F
    refine ⟨by kernel_rfl, ?_⟩
    exact op_load _ _ ra.A3 (0 * 1) (.int .u64 u) F rfl (by kernel_rfl) (by kernel_rfl) (cOld S 0 iC_len_u64 ha rfl 0 hu rfl) (⟨(), rfl, (SameB.refl _ _ rfl), S⟩)
   refine ⟨?_, ?_⟩
   ·
    refine ⟨_, rfl, rfl, by kernel_rfl, ?_⟩
    rintro D ⟨⟩ a z S F
    refine ⟨by kernel_rfl, ?_⟩
    exact op_load _ _ (some ⟨b2, 0, none⟩) 2 (.slice rb.A3 rb.r.amts.length rb.c3) F rfl (by kernel_rfl) (by kernel_rfl) (cBox S 2 rfl (j := 2) rfl) (⟨(), rfl, (SameB.refl _ _ rfl), S⟩)
   refine ⟨?_, ?_⟩
   ·
    refine ⟨_, rfl, rfl, by kernel_rfl, ?_⟩
    rintro D ⟨⟩ a z S F
    refine ⟨by kernel_rfl, ?_⟩
    exact op_index _ 26 _ _ rb.A3 rb.r.amts.length rb.c3 0 1 .i64 F rfl (by kernel_rfl) (by kernel_rfl) (by kernel_rfl) (by kernel_rfl) (get_lt hv) (recs_some hb (m := 0) (get_lt hv)) (⟨(), rfl, (SameB.refl _ _ rfl), S⟩)
   refine ⟨?_, ?_⟩
   ·
    refine ⟨_, rfl, rfl, by kernel_rfl, ?_⟩
    rintro D ⟨⟩ a z S F
    refine ⟨by kernel_rfl, ?_⟩
    exact op_load _ _ rb.A3 (0 * 1) (.int .u64 v) F rfl (by kernel_rfl) (by kernel_rfl) (cOld S 0 iC_len_u64 hb rfl 0 hv rfl) (⟨(), rfl, (SameB.refl _ _ rfl), S⟩)
   refine ⟨?_, ?_⟩
   ·
    refine ⟨_, rfl, rfl, by kernel_rfl, ?_⟩
    rintro D ⟨⟩ a z S F
    refine ⟨by kernel_rfl, ?_⟩
    exact op_pure F (v0 := .bool (decide ((u : Int) < (v : Int)))) (v := .bool true) (by kernel_rfl) (lssT ht3) ⟨(), rfl, (SameB.refl _ _ rfl), S⟩
   trivial
  ·
   rintro ⟨⟩ a z F S
   have F := F.sub (l := [(4, .bool true)]) ⟨by kernel_rfl, trivial⟩
   have S : Sat w z [rest w (· < w.heap.size), box b1 47 [.slice ra.A1 ra.r.nodes.length ra.c1, .slice ra.A2 ra.r.edges.length ra.c2, .slice ra.A3 ra.r.amts.length ra.c3], box b2 47 [.slice rb.A1 rb.r.nodes.length rb.c1, .slice rb.A2 rb.r.edges.length rb.c2, .slice rb.A3 rb.r.amts.length rb.c3]] := S
   refine then_n ?_
   refine wp_ret ?_
   exact fin F [.tmp 4] [.bool true] rfl ⟨by kernel_rfl, trivial⟩ (.bool true) rfl ⟨by rw [decide_eq_true (better_yes hu hv (by omega))], S.below (i := 0) rfl⟩
 ·
  skip
  by_cases ht4 : (u : Int) = (v : Int)
  ·
   skip
   by_cases ht5 : ((ra.r.edges.length : Nat) : Int) < ((rb.r.edges.length : Nat) : Int)
   ·
    skip
    refine region_gx (fun D => fun (_ : Unit) => [rest w (· < w.heap.size), box b1 47 [.slice ra.A1 ra.r.nodes.length ra.c1, .slice ra.A2 ra.r.edges.length ra.c2, .slice ra.A3 ra.r.amts.length ra.c3], box b2 47 [.slice rb.A1 rb.r.nodes.length rb.c1, .slice rb.A2 rb.r.edges.length rb.c2, .slice rb.A3 rb.r.amts.length rb.c3]]) (fun (_ : Unit) => [.pointer (some ⟨b1, 2, none⟩), .slice ra.A3 ra.r.amts.length ra.c3, ptrA ra.A3 (0 * 1), .int .u64 u, .pointer (some ⟨b2, 2, none⟩), .slice rb.A3 rb.r.amts.length rb.c3, ptrA rb.A3 (0 * 1), .int .u64 v, .bool false, .bool false, .pointer (some ⟨b1, 2, none⟩), .slice ra.A3 ra.r.amts.length ra.c3, ptrA ra.A3 (0 * 1), .int .u64 u, .pointer (some ⟨b2, 2, none⟩), .slice rb.A3 rb.r.amts.length rb.c3, ptrA rb.A3 (0 * 1), .int .u64 v, .bool true, .bool true, .agg #[.slice ra.A1 ra.r.nodes.length ra.c1, .slice ra.A2 ra.r.edges.length ra.c2, .slice ra.A3 ra.r.amts.length ra.c3], .int .i64 (ra.r.edges.length : Nat), .agg #[.slice rb.A1 rb.r.nodes.length rb.c1, .slice rb.A2 rb.r.edges.length rb.c2, .slice rb.A3 rb.r.amts.length rb.c3], .int .i64 (rb.r.edges.length : Nat), .bool true, .bool true, .bool true, .bool true]) [(1, [], [2, 3, 8, 11, 12, 13, 15, 16, 17, 18, 20, 21, 22, 23, 24]), (2, [1], [3, 8, 11, 12, 13, 15, 16, 17, 18, 20, 21, 22, 23, 24]), (3, [1, 2], [8, 11, 12, 13, 15, 16, 17, 18, 20, 21, 22, 23, 24]), (5, [], [6, 7, 8, 11, 12, 13, 15, 16, 17, 18, 20, 21, 22, 23, 24]), (6, [5], [7, 8, 11, 12, 13, 15, 16, 17, 18, 20, 21, 22, 23, 24]), (7, [5, 6], [8, 11, 12, 13, 15, 16, 17, 18, 20, 21, 22, 23, 24]), (8, [1, 2, 3, 5, 6, 7], [11, 12, 13, 15, 16, 17, 18, 20, 21, 22, 23, 24]), (11, [1, 2, 3, 5, 6, 7, 8], [12, 13, 18, 20, 21, 22, 23, 24]), (12, [1, 2, 3, 5, 6, 7, 8, 11], [13, 18, 20, 21, 22, 23, 24]), (13, [1, 2, 3, 5, 6, 7, 8, 11, 12], [18, 20, 21, 22, 23, 24]), (15, [1, 2, 3, 5, 6, 7, 8], [16, 17, 18, 20, 21, 22, 23, 24]), (16, [1, 2, 3, 5, 6, 7, 8, 15], [17, 18, 20, 21, 22, 23, 24]), (17, [1, 2, 3, 5, 6, 7, 8, 15, 16], [18, 20, 21, 22, 23, 24]), (18, [1, 2, 3, 5, 6, 7, 8, 11, 12, 13, 15, 16, 17], [20, 21, 22, 23, 24]), (20, [1, 2, 3, 5, 6, 7, 8, 11, 12, 13, 15, 16, 17, 18], [21, 23, 24]), (21, [1, 2, 3, 5, 6, 7, 8, 11, 12, 13, 15, 16, 17, 18, 20], [23, 24]), (22, [1, 2, 3, 5, 6, 7, 8, 11, 12, 13, 15, 16, 17, 18], [23, 24]), (23, [1, 2, 3, 5, 6, 7, 8, 11, 12, 13, 15, 16, 17, 18, 20, 21, 22], [24]), (24, [1, 2, 3, 5, 6, 7, 8, 11, 12, 13, 15, 16, 17, 18, 20, 21, 22, 23], [])] () rfl (by kernel_rfl) (by kernel_rfl) F S.drew ?_ ?_ ?_ ?_ ?_
    · rintro ⟨⟩; rfl
    · rintro ⟨⟩; kernel_rfl
    ·
     intro D D' x h
     cases x
     rfl
    ·
     refine ⟨?_, ?_⟩
     ·
      refine ⟨_, rfl, rfl, by kernel_rfl, ?_⟩
      rintro D ⟨⟩ a z S F
      refine ⟨by kernel_rfl, ?_⟩
      exact op_load _ _ (some ⟨b1, 0, none⟩) 2 (.slice ra.A3 ra.r.amts.length ra.c3) F rfl (by kernel_rfl) (by kernel_rfl) (cBox S 1 rfl (j := 2) rfl) (⟨(), rfl, (SameB.refl _ _ rfl), S⟩)
     refine ⟨?_, ?_⟩
     ·
      refine ⟨_, rfl, rfl, by kernel_rfl, ?_⟩
      rintro D ⟨⟩ a z S F
      refine ⟨by kernel_rfl, ?_⟩
      exact op_index _ 26 _ _ ra.A3 ra.r.amts.length ra.c3 0 1 .i64 F rfl (by kernel_rfl) (by kernel_rfl) (by kernel_rfl) (by kernel_rfl) (get_lt hu) (recs_some ha (m := 0) (get_lt hu)) (⟨(), rfl, (SameB.refl _ _ rfl), S⟩)
     refine ⟨?_, ?_⟩
     ·
      refine ⟨_, rfl, rfl, by kernel_rfl, ?_⟩
      rintro D ⟨⟩ a z S F
      refine ⟨by kernel_rfl, ?_⟩
      exact op_load _ _ ra.A3 (0 * 1) (.int .u64 u) F rfl (by kernel_rfl) (by kernel_rfl) (cOld S 0 iC_len_u64 ha rfl 0 hu rfl) (⟨(), rfl, (SameB.refl _ _ rfl), S⟩)
     refine ⟨?_, ?_⟩
     ·
      refine ⟨_, rfl, rfl, by kernel_rfl, ?_⟩
      rintro D ⟨⟩ a z S F
      refine ⟨by kernel_rfl, ?_⟩
      exact op_load _ _ (some ⟨b2, 0, none⟩) 2 (.slice rb.A3 rb.r.amts.length rb.c3) F rfl (by kernel_rfl) (by kernel_rfl) (cBox S 2 rfl (j := 2) rfl) (⟨(), rfl, (SameB.refl _ _ rfl), S⟩)
     refine ⟨?_, ?_⟩
     ·
      refine ⟨_, rfl, rfl, by kernel_rfl, ?_⟩
      rintro D ⟨⟩ a z S F
      refine ⟨by kernel_rfl, ?_⟩
      exact op_index _ 26 _ _ rb.A3 rb.r.amts.length rb.c3 0 1 .i64 F rfl (by kernel_rfl) (by kernel_rfl) (by kernel_rfl) (by kernel_rfl) (get_lt hv) (recs_some hb (m := 0) (get_lt hv)) (⟨(), rfl, (SameB.refl _ _ rfl), S⟩)
     refine ⟨?_, ?_⟩
     ·
      refine ⟨_, rfl, rfl, by kernel_rfl, ?_⟩
      rintro D ⟨⟩ a z S F
      refine ⟨by kernel_rfl, ?_⟩
      exact op_load _ _ rb.A3 (0 * 1) (.int .u64 v) F rfl (by kernel_rfl) (by kernel_rfl) (cOld S 0 iC_len_u64 hb rfl 0 hv rfl) (⟨(), rfl, (SameB.refl _ _ rfl), S⟩)
     refine ⟨?_, ?_⟩
     ·
      refine ⟨_, rfl, rfl, by kernel_rfl, ?_⟩
      rintro D ⟨⟩ a z S F
      refine ⟨by kernel_rfl, ?_⟩
      exact op_pure F (v0 := .bool (decide ((u : Int) < (v : Int)))) (v := .bool false) (by kernel_rfl) (lssF ht3) ⟨(), rfl, (SameB.refl _ _ rfl), S⟩
     refine ⟨?_, ?_⟩
     ·
      refine ⟨_, rfl, rfl, by kernel_rfl, ?_⟩
      rintro D ⟨⟩ a z S F
      refine ⟨by kernel_rfl, ?_⟩
      exact op_load _ _ (some ⟨b1, 0, none⟩) 2 (.slice ra.A3 ra.r.amts.length ra.c3) F rfl (by kernel_rfl) (by kernel_rfl) (cBox S 1 rfl (j := 2) rfl) (⟨(), rfl, (SameB.refl _ _ rfl), S⟩)
     refine ⟨?_, ?_⟩
     ·
      refine ⟨_, rfl, rfl, by kernel_rfl, ?_⟩
      rintro D ⟨⟩ a z S F
      refine ⟨by kernel_rfl, ?_⟩
      exact op_index _ 26 _ _ ra.A3 ra.r.amts.length ra.c3 0 1 .i64 F rfl (by kernel_rfl) (by kernel_rfl) (by kernel_rfl) (by kernel_rfl) (get_lt hu) (recs_some ha (m := 0) (get_lt hu)) (⟨(), rfl, (SameB.refl _ _ rfl), S⟩)
     refine ⟨?_, ?_⟩
     ·
      refine ⟨_, rfl, rfl, by kernel_rfl, ?_⟩
      rintro D ⟨⟩ a z S F
      refine ⟨by kernel_rfl, ?_⟩
      exact op_load _ _ ra.A3 (0 * 1) (.int .u64 u) F rfl (by kernel_rfl) (by kernel_rfl) (cOld S 0 iC_len_u64 ha rfl 0 hu rfl) (⟨(), rfl, (SameB.refl _ _ rfl), S⟩)
     refine ⟨?_, ?_⟩
     ·
      refine ⟨_, rfl, rfl, by kernel_rfl, ?_⟩
      rintro D ⟨⟩ a z S F
      refine ⟨by kernel_rfl, ?_⟩
      exact op_load _ _ (some ⟨b2, 0, none⟩) 2 (.slice rb.A3 rb.r.amts.length rb.c3) F rfl (by kernel_rfl) (by kernel_rfl) (cBox S 2 rfl (j := 2) rfl) (⟨(), rfl, (SameB.refl _ _ rfl), S⟩)
     refine ⟨?_, ?_⟩
     ·
      refine ⟨_, rfl, rfl, by kernel_rfl, ?_⟩
      rintro D ⟨⟩ a z S F
      refine ⟨by kernel_rfl, ?_⟩
      exact op_index _ 26 _ _ rb.A3 rb.r.amts.length rb.c3 0 1 .i64 F rfl (by kernel_rfl) (by kernel_rfl) (by kernel_rfl) (by kernel_rfl) (get_lt hv) (recs_some hb (m := 0) (get_lt hv)) (⟨(), rfl, (SameB.refl _ _ rfl), S⟩)
     refine ⟨?_, ?_⟩
     ·
      refine ⟨_, rfl, rfl, by kernel_rfl, ?_⟩
      rintro D ⟨⟩ a z S F
      refine ⟨by kernel_rfl, ?_⟩
      exact op_load _ _ rb.A3 (0 * 1) (.int .u64 v) F rfl (by kernel_rfl) (by kernel_rfl) (cOld S 0 iC_len_u64 hb rfl 0 hv rfl) (⟨(), rfl, (SameB.refl _ _ rfl), S⟩)
     refine ⟨?_, ?_⟩
     ·
      refine ⟨_, rfl, rfl, by kernel_rfl, ?_⟩
      rintro D ⟨⟩ a z S F
      refine ⟨by kernel_rfl, ?_⟩
      exact op_pure F (v0 := .bool ((u : Int) == (v : Int))) (v := .bool true) (by kernel_rfl) (eqlT ht4) ⟨(), rfl, (SameB.refl _ _ rfl), S⟩
     refine ⟨?_, ?_⟩
     ·
      refine ⟨_, rfl, rfl, by kernel_rfl, ?_⟩
      rintro D ⟨⟩ a z S F
      refine ⟨by kernel_rfl, ?_⟩
      exact op_loadK _ _ (some ⟨b1, 0, none⟩) 0 [.slice ra.A1 ra.r.nodes.length ra.c1, .slice ra.A2 ra.r.edges.length ra.c2, .slice ra.A3 ra.r.amts.length ra.c3] F rfl (by kernel_rfl) (by kernel_rfl) (by kernel_rfl) (by simp) (cBoxK S 1 rfl 0 (by kernel_rfl)) (⟨(), rfl, (SameB.refl _ _ rfl), S⟩)
     refine ⟨?_, ?_⟩
     ·
      refine ⟨_, rfl, rfl, by kernel_rfl, ?_⟩
      rintro D ⟨⟩ a z S F
      refine ⟨by kernel_rfl, ?_⟩
      refine op_fn F (by kernel_rfl) (long_any _ (.slice ra.A1 ra.r.nodes.length ra.c1) ra.A2 ra.r.edges.length ra.c2 (.slice ra.A3 ra.r.amts.length ra.c3)) ?_
      rintro e z ⟨rfl, hb⟩
      have S := S.grow hb
      exact ⟨_, rfl, (), rfl, (SameB.refl _ _ rfl), S⟩
     refine ⟨?_, ?_⟩
     ·
      refine ⟨_, rfl, rfl, by kernel_rfl, ?_⟩
      rintro D ⟨⟩ a z S F
      refine ⟨by kernel_rfl, ?_⟩
      exact op_loadK _ _ (some ⟨b2, 0, none⟩) 0 [.slice rb.A1 rb.r.nodes.length rb.c1, .slice rb.A2 rb.r.edges.length rb.c2, .slice rb.A3 rb.r.amts.length rb.c3] F rfl (by kernel_rfl) (by kernel_rfl) (by kernel_rfl) (by simp) (cBoxK S 2 rfl 0 (by kernel_rfl)) (⟨(), rfl, (SameB.refl _ _ rfl), S⟩)
     refine ⟨?_, ?_⟩
     ·
      refine ⟨_, rfl, rfl, by kernel_rfl, ?_⟩
      rintro D ⟨⟩ a z S F
      refine ⟨by kernel_rfl, ?_⟩
      refine op_fn F (by kernel_rfl) (long_any _ (.slice rb.A1 rb.r.nodes.length rb.c1) rb.A2 rb.r.edges.length rb.c2 (.slice rb.A3 rb.r.amts.length rb.c3)) ?_
      rintro e z ⟨rfl, hb⟩
      have S := S.grow hb
      exact ⟨_, rfl, (), rfl, (SameB.refl _ _ rfl), S⟩
     refine ⟨?_, ?_⟩
     ·
      refine ⟨_, rfl, rfl, by kernel_rfl, ?_⟩
      rintro D ⟨⟩ a z S F
      refine ⟨by kernel_rfl, ?_⟩
      exact op_pure F (v0 := .bool (decide (((ra.r.edges.length : Nat) : Int) < ((rb.r.edges.length : Nat) : Int)))) (v := .bool true) (by kernel_rfl) (lssT ht5) ⟨(), rfl, (SameB.refl _ _ rfl), S⟩
     trivial
    ·
     rintro ⟨⟩ a z F S
     have F := F.sub (l := [(4, .bool true)]) ⟨by kernel_rfl, trivial⟩
     have S : Sat w z [rest w (· < w.heap.size), box b1 47 [.slice ra.A1 ra.r.nodes.length ra.c1, .slice ra.A2 ra.r.edges.length ra.c2, .slice ra.A3 ra.r.amts.length ra.c3], box b2 47 [.slice rb.A1 rb.r.nodes.length rb.c1, .slice rb.A2 rb.r.edges.length rb.c2, .slice rb.A3 rb.r.amts.length rb.c3]] := S
     refine then_n ?_
     refine wp_ret ?_
     exact fin F [.tmp 4] [.bool true] rfl ⟨by kernel_rfl, trivial⟩ (.bool true) rfl ⟨by rw [decide_eq_true (better_yes hu hv (by omega))], S.below (i := 0) rfl⟩
   ·
    skip
    refine region_gx (fun D => fun (_ : Unit) => [rest w (· < w.heap.size), box b1 47 [.slice ra.A1 ra.r.nodes.length ra.c1, .slice ra.A2 ra.r.edges.length ra.c2, .slice ra.A3 ra.r.amts.length ra.c3], box b2 47 [.slice rb.A1 rb.r.nodes.length rb.c1, .slice rb.A2 rb.r.edges.length rb.c2, .slice rb.A3 rb.r.amts.length rb.c3]]) (fun (_ : Unit) => [.pointer (some ⟨b1, 2, none⟩), .slice ra.A3 ra.r.amts.length ra.c3, ptrA ra.A3 (0 * 1), .int .u64 u, .pointer (some ⟨b2, 2, none⟩), .slice rb.A3 rb.r.amts.length rb.c3, ptrA rb.A3 (0 * 1), .int .u64 v, .bool false, .bool false, .pointer (some ⟨b1, 2, none⟩), .slice ra.A3 ra.r.amts.length ra.c3, ptrA ra.A3 (0 * 1), .int .u64 u, .pointer (some ⟨b2, 2, none⟩), .slice rb.A3 rb.r.amts.length rb.c3, ptrA rb.A3 (0 * 1), .int .u64 v, .bool true, .bool true, .agg #[.slice ra.A1 ra.r.nodes.length ra.c1, .slice ra.A2 ra.r.edges.length ra.c2, .slice ra.A3 ra.r.amts.length ra.c3], .int .i64 (ra.r.edges.length : Nat), .agg #[.slice rb.A1 rb.r.nodes.length rb.c1, .slice rb.A2 rb.r.edges.length rb.c2, .slice rb.A3 rb.r.amts.length rb.c3], .int .i64 (rb.r.edges.length : Nat), .bool false, .bool false, .bool false, .bool false]) [(1, [], [2, 3, 8, 11, 12, 13, 15, 16, 17, 18, 20, 21, 22, 23, 24]), (2, [1], [3, 8, 11, 12, 13, 15, 16, 17, 18, 20, 21, 22, 23, 24]), (3, [1, 2], [8, 11, 12, 13, 15, 16, 17, 18, 20, 21, 22, 23, 24]), (5, [], [6, 7, 8, 11, 12, 13, 15, 16, 17, 18, 20, 21, 22, 23, 24]), (6, [5], [7, 8, 11, 12, 13, 15, 16, 17, 18, 20, 21, 22, 23, 24]), (7, [5, 6], [8, 11, 12, 13, 15, 16, 17, 18, 20, 21, 22, 23, 24]), (8, [1, 2, 3, 5, 6, 7], [11, 12, 13, 15, 16, 17, 18, 20, 21, 22, 23, 24]), (11, [1, 2, 3, 5, 6, 7, 8], [12, 13, 18, 20, 21, 22, 23, 24]), (12, [1, 2, 3, 5, 6, 7, 8, 11], [13, 18, 20, 21, 22, 23, 24]), (13, [1, 2, 3, 5, 6, 7, 8, 11, 12], [18, 20, 21, 22, 23, 24]), (15, [1, 2, 3, 5, 6, 7, 8], [16, 17, 18, 20, 21, 22, 23, 24]), (16, [1, 2, 3, 5, 6, 7, 8, 15], [17, 18, 20, 21, 22, 23, 24]), (17, [1, 2, 3, 5, 6, 7, 8, 15, 16], [18, 20, 21, 22, 23, 24]), (18, [1, 2, 3, 5, 6, 7, 8, 11, 12, 13, 15, 16, 17], [20, 21, 22, 23, 24]), (20, [1, 2, 3, 5, 6, 7, 8, 11, 12, 13, 15, 16, 17, 18], [21, 23, 24]), (21, [1, 2, 3, 5, 6, 7, 8, 11, 12, 13, 15, 16, 17, 18, 20], [23, 24]), (22, [1, 2, 3, 5, 6, 7, 8, 11, 12, 13, 15, 16, 17, 18], [23, 24]), (23, [1, 2, 3, 5, 6, 7, 8, 11, 12, 13, 15, 16, 17, 18, 20, 21, 22], [24]), (24, [1, 2, 3, 5, 6, 7, 8, 11, 12, 13, 15, 16, 17, 18, 20, 21, 22, 23], [])] () rfl (by kernel_rfl) (by kernel_rfl) F S.drew ?_ ?_ ?_ ?_ ?_
    · rintro ⟨⟩; rfl
    · rintro ⟨⟩; kernel_rfl
    ·
     intro D D' x h
     cases x
     rfl
    ·
     refine ⟨?_, ?_⟩
     ·
      refine ⟨_, rfl, rfl, by kernel_rfl, ?_⟩
      rintro D ⟨⟩ a z S F
      refine ⟨by kernel_rfl, ?_⟩
      exact op_load _ _ (some ⟨b1, 0, none⟩) 2 (.slice ra.A3 ra.r.amts.length ra.c3) F rfl (by kernel_rfl) (by kernel_rfl) (cBox S 1 rfl (j := 2) rfl) (⟨(), rfl, (SameB.refl _ _ rfl), S⟩)
     refine ⟨?_, ?_⟩
     ·
      refine ⟨_, rfl, rfl, by kernel_rfl, ?_⟩
      rintro D ⟨⟩ a z S F
      refine ⟨by kernel_rfl, ?_⟩
      exact op_index _ 26 _ _ ra.A3 ra.r.amts.length ra.c3 0 1 .i64 F rfl (by kernel_rfl) (by kernel_rfl) (by kernel_rfl) (by kernel_rfl) (get_lt hu) (recs_some ha (m := 0) (get_lt hu)) (⟨(), rfl, (SameB.refl _ _ rfl), S⟩)
     refine ⟨?_, ?_⟩
     ·
      refine ⟨_, rfl, rfl, by kernel_rfl, ?_⟩
      rintro D ⟨⟩ a z S F
      refine ⟨by kernel_rfl, ?_⟩
      exact op_load _ _ ra.A3 (0 * 1) (.int .u64 u) F rfl (by kernel_rfl) (by kernel_rfl) (cOld S 0 iC_len_u64 ha rfl 0 hu rfl) (⟨(), rfl, (SameB.refl _ _ rfl), S⟩)
     refine ⟨?_, ?_⟩
     ·
      refine ⟨_, rfl, rfl, by kernel_rfl, ?_⟩
      rintro D ⟨⟩ a z S F
      refine ⟨by kernel_rfl, ?_⟩
      exact op_load _ _ (some ⟨b2, 0, none⟩) 2 (.slice rb.A3 rb.r.amts.length rb.c3) F rfl (by kernel_rfl) (by kernel_rfl) (cBox S 2 rfl (j := 2) rfl) (⟨(), rfl, (SameB.refl _ _ rfl), S⟩)
     refine ⟨?_, ?_⟩
     ·
      refine ⟨_, rfl, rfl, by kernel_rfl, ?_⟩
      rintro D ⟨⟩ a z S F
      refine ⟨by kernel_rfl, ?_⟩
      exact op_index _ 26 _ _ rb.A3 rb.r.amts.length rb.c3 0 1 .i64 F rfl (by kernel_rfl) (by kernel_rfl) (by kernel_rfl) (by kernel_rfl) (get_lt hv) (recs_some hb (m := 0) (get_lt hv)) (⟨(), rfl, (SameB.refl _ _ rfl), S⟩)
     refine ⟨?_, ?_⟩
     ·
      refine ⟨_, rfl, rfl, by kernel_rfl, ?_⟩
      rintro D ⟨⟩ a z S F
      refine ⟨by kernel_rfl, ?_⟩
      exact op_load _ _ rb.A3 (0 * 1) (.int .u64 v) F rfl (by kernel_rfl) (by kernel_rfl) (cOld S 0 iC_len_u64 hb rfl 0 hv rfl) (⟨(), rfl, (SameB.refl _ _ rfl), S⟩)
     refine ⟨?_, ?_⟩
     ·
      refine ⟨_, rfl, rfl, by kernel_rfl, ?_⟩
      rintro D ⟨⟩ a z S F
      refine ⟨by kernel_rfl, ?_⟩
      exact op_pure F (v0 := .bool (decide ((u : Int) < (v : Int)))) (v := .bool false) (by kernel_rfl) (lssF ht3) ⟨(), rfl, (SameB.refl _ _ rfl), S⟩
     refine ⟨?_, ?_⟩
     ·
      refine ⟨_, rfl, rfl, by kernel_rfl, ?_⟩
      rintro D ⟨⟩ a z S F
      refine ⟨by kernel_rfl, ?_⟩
      exact op_load _ _ (some ⟨b1, 0, none⟩) 2 (.slice ra.A3 ra.r.amts.length ra.c3) F rfl (by kernel_rfl) (by kernel_rfl) (cBox S 1 rfl (j := 2) rfl) (⟨(), rfl, (SameB.refl _ _ rfl), S⟩)
     refine ⟨?_, ?_⟩
     ·
      refine ⟨_, rfl, rfl, by kernel_rfl, ?_⟩
      rintro D ⟨⟩ a z S F
      refine ⟨by kernel_rfl, ?_⟩
      exact op_index _ 26 _ _ ra.A3 ra.r.amts.length ra.c3 0 1 .i64 F rfl (by kernel_rfl) (by kernel_rfl) (by kernel_rfl) (by kernel_rfl) (get_lt hu) (recs_some ha (m := 0) (get_lt hu)) (⟨(), rfl, (SameB.refl _ _ rfl), S⟩)
     refine ⟨?_, ?_⟩
     ·
      refine ⟨_, rfl, rfl, by kernel_rfl, ?_⟩
      rintro D ⟨⟩ a z S F
      refine ⟨by kernel_rfl, ?_⟩
      exact op_load _ _ ra.A3 (0 * 1) (.int .u64 u) F rfl (by kernel_rfl) (by kernel_rfl) (cOld S 0 iC_len_u64 ha rfl 0 hu rfl) (⟨(), rfl, (SameB.refl _ _ rfl), S⟩)
     refine ⟨?_, ?_⟩
     ·
      refine ⟨_, rfl, rfl, by kernel_rfl, ?_⟩
      rintro D ⟨⟩ a z S F
      refine ⟨by kernel_rfl, ?_⟩
      exact op_load _ _ (some ⟨b2, 0, none⟩) 2 (.slice rb.A3 rb.r.amts.length rb.c3) F rfl (by kernel_rfl) (by kernel_rfl) (cBox S 2 rfl (j := 2) rfl) (⟨(), rfl, (SameB.refl _ _ rfl), S⟩)
     refine ⟨?_, ?_⟩
     ·
      refine ⟨_, rfl, rfl, by kernel_rfl, ?_⟩
      rintro D ⟨⟩ a z S F
      refine ⟨by kernel_rfl, ?_⟩
      exact op_index _ 26 _ _ rb.A3 rb.r.amts.length rb.c3 0 1 .i64 F rfl (by kernel_rfl) (by kernel_rfl) (by kernel_rfl) (by kernel_rfl) (get_lt hv) (recs_some hb (m := 0) (get_lt hv)) (⟨(), rfl, (SameB.refl _ _ rfl), S⟩)
     refine ⟨?_, ?_⟩
     ·
      refine ⟨_, rfl, rfl, by kernel_rfl, ?_⟩
      rintro D ⟨⟩ a z S F
      refine ⟨by kernel_rfl, ?_⟩
      exact op_load _ _ rb.A3 (0 * 1) (.int .u64 v) F rfl (by kernel_rfl) (by kernel_rfl) (cOld S 0 iC_len_u64 hb rfl 0 hv rfl) (⟨(), rfl, (SameB.refl _ _ rfl), S⟩)
     refine ⟨?_, ?_⟩
     ·
      refine ⟨_, rfl, rfl, by kernel_rfl, ?_⟩
      rintro D ⟨⟩ a z S F
      refine ⟨by kernel_rfl, ?_⟩
      exact op_pure F (v0 := .bool ((u : Int) == (v : Int))) (v := .bool true) (by kernel_rfl) (eqlT ht4) ⟨(), rfl, (SameB.refl _ _ rfl), S⟩
     refine ⟨?_, ?_⟩
     ·
      refine ⟨_, rfl, rfl, by kernel_rfl, ?_⟩
      rintro D ⟨⟩ a z S F
      refine ⟨by kernel_rfl, ?_⟩
      exact op_loadK _ _ (some ⟨b1, 0, none⟩) 0 [.slice ra.A1 ra.r.nodes.length ra.c1, .slice ra.A2 ra.r.edges.length ra.c2, .slice ra.A3 ra.r.amts.length ra.c3] F rfl (by kernel_rfl) (by kernel_rfl) (by kernel_rfl) (by simp) (cBoxK S 1 rfl 0 (by kernel_rfl)) (⟨(), rfl, (SameB.refl _ _ rfl), S⟩)
     refine ⟨?_, ?_⟩
     ·
      refine ⟨_, rfl, rfl, by kernel_rfl, ?_⟩
      rintro D ⟨⟩ a z S F
      refine ⟨by kernel_rfl, ?_⟩
      refine op_fn F (by kernel_rfl) (long_any _ (.slice ra.A1 ra.r.nodes.length ra.c1) ra.A2 ra.r.edges.length ra.c2 (.slice ra.A3 ra.r.amts.length ra.c3)) ?_
      rintro e z ⟨rfl, hb⟩
      have S := S.grow hb
      exact ⟨_, rfl, (), rfl, (SameB.refl _ _ rfl), S⟩
     refine ⟨?_, ?_⟩
     ·
      refine ⟨_, rfl, rfl, by kernel_rfl, ?_⟩
      rintro D ⟨⟩ a z S F
      refine ⟨by kernel_rfl, ?_⟩
      exact op_loadK _ _ (some ⟨b2, 0, none⟩) 0 [.slice rb.A1 rb.r.nodes.length rb.c1, .slice rb.A2 rb.r.edges.length rb.c2, .slice rb.A3 rb.r.amts.length rb.c3] F rfl (by kernel_rfl) (by kernel_rfl) (by kernel_rfl) (by simp) (cBoxK S 2 rfl 0 (by kernel_rfl)) (⟨(), rfl, (SameB.refl _ _ rfl), S⟩)
     refine ⟨?_, ?_⟩
     ·
      refine ⟨_, rfl, rfl, by kernel_rfl, ?_⟩
      rintro D ⟨⟩ a z S F
      refine ⟨by kernel_rfl, ?_⟩
      refine op_fn F (by kernel_rfl) (long_any _ (.slice rb.A1 rb.r.nodes.length rb.c1) rb.A2 rb.r.edges.length rb.c2 (.slice rb.A3 rb.r.amts.length rb.c3)) ?_
      rintro e z ⟨rfl, hb⟩
      have S := S.grow hb
      exact ⟨_, rfl, (), rfl, (SameB.refl _ _ rfl), S⟩
     refine ⟨?_, ?_⟩
     ·
      refine ⟨_, rfl, rfl, by kernel_rfl, ?_⟩
      rintro D ⟨⟩ a z S F
      refine ⟨by kernel_rfl, ?_⟩
      exact op_pure F (v0 := .bool (decide (((ra.r.edges.length : Nat) : Int) < ((rb.r.edges.length : Nat) : Int)))) (v := .bool false) (by kernel_rfl) (lssF ht5) ⟨(), rfl, (SameB.refl _ _ rfl), S⟩
     trivial
    ·
     rintro ⟨⟩ a z F S
     have F := F.sub (l := [(4, .bool false)]) ⟨by kernel_rfl, trivial⟩
     have S : Sat w z [rest w (· < w.heap.size), box b1 47 [.slice ra.A1 ra.r.nodes.length ra.c1, .slice ra.A2 ra.r.edges.length ra.c2, .slice ra.A3 ra.r.amts.length ra.c3], box b2 47 [.slice rb.A1 rb.r.nodes.length rb.c1, .slice rb.A2 rb.r.edges.length rb.c2, .slice rb.A3 rb.r.amts.length rb.c3]] := S
     refine then_n ?_
     refine wp_ret ?_
     exact fin F [.tmp 4] [.bool false] rfl ⟨by kernel_rfl, trivial⟩ (.bool false) rfl ⟨by rw [decide_eq_false (better_no hu hv (by omega))], S.below (i := 0) rfl⟩
  ·
   skip
   refine region_gx (fun D => fun (_ : Unit) => [rest w (· < w.heap.size), box b1 47 [.slice ra.A1 ra.r.nodes.length ra.c1, .slice ra.A2 ra.r.edges.length ra.c2, .slice ra.A3 ra.r.amts.length ra.c3], box b2 47 [.slice rb.A1 rb.r.nodes.length rb.c1, .slice rb.A2 rb.r.edges.length rb.c2, .slice rb.A3 rb.r.amts.length rb.c3]]) (fun (_ : Unit) => [.pointer (some ⟨b1, 2, none⟩), .slice ra.A3 ra.r.amts.length ra.c3, ptrA ra.A3 (0 * 1), .int .u64 u, .pointer (some ⟨b2, 2, none⟩), .slice rb.A3 rb.r.amts.length rb.c3, ptrA rb.A3 (0 * 1), .int .u64 v, .bool false, .bool false, .pointer (some ⟨b1, 2, none⟩), .slice ra.A3 ra.r.amts.length ra.c3, ptrA ra.A3 (0 * 1), .int .u64 u, .pointer (some ⟨b2, 2, none⟩), .slice rb.A3 rb.r.amts.length rb.c3, ptrA rb.A3 (0 * 1), .int .u64 v, .bool false, .bool false, undef, undef, undef, undef, undef, .bool false, .bool false, .bool false]) [(1, [], [2, 3, 8, 11, 12, 13, 15, 16, 17, 18]), (2, [1], [3, 8, 11, 12, 13, 15, 16, 17, 18]), (3, [1, 2], [8, 11, 12, 13, 15, 16, 17, 18]), (5, [], [6, 7, 8, 11, 12, 13, 15, 16, 17, 18]), (6, [5], [7, 8, 11, 12, 13, 15, 16, 17, 18]), (7, [5, 6], [8, 11, 12, 13, 15, 16, 17, 18]), (8, [1, 2, 3, 5, 6, 7], [11, 12, 13, 15, 16, 17, 18]), (11, [1, 2, 3, 5, 6, 7, 8], [12, 13, 18]), (12, [1, 2, 3, 5, 6, 7, 8, 11], [13, 18]), (13, [1, 2, 3, 5, 6, 7, 8, 11, 12], [18]), (15, [1, 2, 3, 5, 6, 7, 8], [16, 17, 18]), (16, [1, 2, 3, 5, 6, 7, 8, 15], [17, 18]), (17, [1, 2, 3, 5, 6, 7, 8, 15, 16], [18]), (18, [1, 2, 3, 5, 6, 7, 8, 11, 12, 13, 15, 16, 17], [])] () rfl (by kernel_rfl) (by kernel_rfl) F S.drew ?_ ?_ ?_ ?_ ?_
   · rintro ⟨⟩; rfl
   · rintro ⟨⟩; kernel_rfl
   ·
    intro D D' x h
    cases x
    rfl
   ·
    refine ⟨?_, ?_⟩
    ·
     refine ⟨_, rfl, rfl, by kernel_rfl, ?_⟩
     rintro D ⟨⟩ a z S F
     refine ⟨by kernel_rfl, ?_⟩
     exact op_load _ _ (some ⟨b1, 0, none⟩) 2 (.slice ra.A3 ra.r.amts.length ra.c3) F rfl (by kernel_rfl) (by kernel_rfl) (cBox S 1 rfl (j := 2) rfl) (⟨(), rfl, (SameB.refl _ _ rfl), S⟩)
    refine ⟨?_, ?_⟩
    ·
     refine ⟨_, rfl, rfl, by kernel_rfl, ?_⟩
     rintro D ⟨⟩ a z S F
     refine ⟨by kernel_rfl, ?_⟩
     exact op_index _ 26 _ _ ra.A3 ra.r.amts.length ra.c3 0 1 .i64 F rfl (by kernel_rfl) (by kernel_rfl) (by kernel_rfl) (by kernel_rfl) (get_lt hu) (recs_some ha (m := 0) (get_lt hu)) (⟨(), rfl, (SameB.refl _ _ rfl), S⟩)
    refine ⟨?_, ?_⟩
    ·
     refine ⟨_, rfl, rfl, by kernel_rfl, ?_⟩
     rintro D ⟨⟩ a z S F
     refine ⟨by kernel_rfl, ?_⟩
     exact op_load _ _ ra.A3 (0 * 1) (.int .u64 u) F rfl (by kernel_rfl) (by kernel_rfl) (cOld S 0 iC_len_u64 ha rfl 0 hu rfl) (⟨(), rfl, (SameB.refl _ _ rfl), S⟩)
    refine ⟨?_, ?_⟩
    ·
     refine ⟨_, rfl, rfl, by kernel_rfl, ?_⟩
     rintro D ⟨⟩ a z S F
     refine ⟨by kernel_rfl, ?_⟩
     exact op_load _ _ (some ⟨b2, 0, none⟩) 2 (.slice rb.A3 rb.r.amts.length rb.c3) F rfl (by kernel_rfl) (by kernel_rfl) (cBox S 2 rfl (j := 2) rfl) (⟨(), rfl, (SameB.refl _ _ rfl), S⟩)
    refine ⟨?_, ?_⟩
    ·
     refine ⟨_, rfl, rfl, by kernel_rfl, ?_⟩
     rintro D ⟨⟩ a z S F
     refine ⟨by kernel_rfl, ?_⟩
     exact op_index _ 26 _ _ rb.A3 rb.r.amts.length rb.c3 0 1 .i64 F rfl (by kernel_rfl) (by kernel_rfl) (by kernel_rfl) (by kernel_rfl) (get_lt hv) (recs_some hb (m := 0) (get_lt hv)) (⟨(), rfl, (SameB.refl _ _ rfl), S⟩)
    refine ⟨?_, ?_⟩
    ·
     refine ⟨_, rfl, rfl, by kernel_rfl, ?_⟩
     rintro D ⟨⟩ a z S F
     refine ⟨by kernel_rfl, ?_⟩
     exact op_load _ _ rb.A3 (0 * 1) (.int .u64 v) F rfl (by kernel_rfl) (by kernel_rfl) (cOld S 0 iC_len_u64 hb rfl 0 hv rfl) (⟨(), rfl, (SameB.refl _ _ rfl), S⟩)
    refine ⟨?_, ?_⟩
    ·
     refine ⟨_, rfl, rfl, by kernel_rfl, ?_⟩
     rintro D ⟨⟩ a z S F
     refine ⟨by kernel_rfl, ?_⟩
     exact op_pure F (v0 := .bool (decide ((u : Int) < (v : Int)))) (v := .bool false) (by kernel_rfl) (lssF ht3) ⟨(), rfl, (SameB.refl _ _ rfl), S⟩
    refine ⟨?_, ?_⟩
    ·
     refine ⟨_, rfl, rfl, by kernel_rfl, ?_⟩
     rintro D ⟨⟩ a z S F
     refine ⟨by kernel_rfl, ?_⟩
     exact op_load _ _ (some ⟨b1, 0, none⟩) 2 (.slice ra.A3 ra.r.amts.length ra.c3) F rfl (by kernel_rfl) (by kernel_rfl) (cBox S 1 rfl (j := 2) rfl) (⟨(), rfl, (SameB.refl _ _ rfl), S⟩)
    refine ⟨?_, ?_⟩
    ·
     refine ⟨_, rfl, rfl, by kernel_rfl, ?_⟩
     rintro D ⟨⟩ a z S F
     refine ⟨by kernel_rfl, ?_⟩
     exact op_index _ 26 _ _ ra.A3 ra.r.amts.length ra.c3 0 1 .i64 F rfl (by kernel_rfl) (by kernel_rfl) (by kernel_rfl) (by kernel_rfl) (get_lt hu) (recs_some ha (m := 0) (get_lt hu)) (⟨(), rfl, (SameB.refl _ _ rfl), S⟩)
    refine ⟨?_, ?_⟩
    ·
     refine ⟨_, rfl, rfl, by kernel_rfl, ?_⟩
     rintro D ⟨⟩ a z S F
     refine ⟨by kernel_rfl, ?_⟩
     exact op_load _ _ ra.A3 (0 * 1) (.int .u64 u) F rfl (by kernel_rfl) (by kernel_rfl) (cOld S 0 iC_len_u64 ha rfl 0 hu rfl) (⟨(), rfl, (SameB.refl _ _ rfl), S⟩)
    refine ⟨?_, ?_⟩
    ·
     refine ⟨_, rfl, rfl, by kernel_rfl, ?_⟩
     rintro D ⟨⟩ a z S F
     refine ⟨by kernel_rfl, ?_⟩
     exact op_load _ _ (some ⟨b2, 0, none⟩) 2 (.slice rb.A3 rb.r.amts.length rb.c3) F rfl (by kernel_rfl) (by kernel_rfl) (cBox S 2 rfl (j := 2) rfl) (⟨(), rfl, (SameB.refl _ _ rfl), S⟩)
    refine ⟨?_, ?_⟩
    ·
     refine ⟨_, rfl, rfl, by kernel_rfl, ?_⟩
     rintro D ⟨⟩ a z S F
     refine ⟨by kernel_rfl, ?_⟩
     exact op_index _ 26 _ _ rb.A3 rb.r.amts.length rb.c3 0 1 .i64 F rfl (by kernel_rfl) (by kernel_rfl) (by kernel_rfl) (by kernel_rfl) (get_lt hv) (recs_some hb (m := 0) (get_lt hv)) (⟨(), rfl, (SameB.refl _ _ rfl), S⟩)
    refine ⟨?_, ?_⟩
    ·
     refine ⟨_, rfl, rfl, by kernel_rfl, ?_⟩
     rintro D ⟨⟩ a z S F
     refine ⟨by kernel_rfl, ?_⟩
     exact op_load _ _ rb.A3 (0 * 1) (.int .u64 v) F rfl (by kernel_rfl) (by kernel_rfl) (cOld S 0 iC_len_u64 hb rfl 0 hv rfl) (⟨(), rfl, (SameB.refl _ _ rfl), S⟩)
    refine ⟨?_, ?_⟩
    ·
     refine ⟨_, rfl, rfl, by kernel_rfl, ?_⟩
     rintro D ⟨⟩ a z S F
     refine ⟨by kernel_rfl, ?_⟩
     exact op_pure F (v0 := .bool ((u : Int) == (v : Int))) (v := .bool false) (by kernel_rfl) (eqlF ht4) ⟨(), rfl, (SameB.refl _ _ rfl), S⟩
    trivial
   ·
    rintro ⟨⟩ a z F S
    have F := F.sub (l := [(4, .bool false)]) ⟨by kernel_rfl, trivial⟩
    have S : Sat w z [rest w (· < w.heap.size), box b1 47 [.slice ra.A1 ra.r.nodes.length ra.c1, .slice ra.A2 ra.r.edges.length ra.c2, .slice ra.A3 ra.r.amts.length ra.c3], box b2 47 [.slice rb.A1 rb.r.nodes.length rb.c1, .slice rb.A2 rb.r.edges.length rb.c2, .slice rb.A3 rb.r.amts.length rb.c3]] := S
    refine then_n ?_
    refine wp_ret ?_
    exact fin F [.tmp 4] [.bool false] rfl ⟨by kernel_rfl, trivial⟩ (.bool false) rfl ⟨by rw [decide_eq_false (better_no hu hv (by omega))], S.below (i := 0) rfl⟩
theorem bag_row {w0 w : World} {l : List Asn} (S : Sat w0 w l) (i : Nat) {R : List RtM} (hi : l[i]? = some (bag (R.flatMap rtRows))) {m : RtM} (hm : m ∈ R) {d : RowD} (hd : d ∈ rtRows m) : w.ownsRow 0 d.T d.k d.v d.n d.xs := S.bagRow i hi (List.mem_flatMap.2 ⟨m, hm, hd⟩)
theorem bag_nodes {w0 w : World} {l : List Asn} (S : Sat w0 w l) (i : Nat) {R : List RtM} (hi : l[i]? = some (bag (R.flatMap rtRows))) {m : RtM} (hm : m ∈ R) (hl : m.r.nodes.length ≤ 1000) : Recs 1 iC_i64 w m.A1 m.c1 m.r.nodes := Recs.ofRow (bag_row S i hi hm (d := ⟨3, 1, .slice m.A1 m.r.nodes.length m.c1, m.r.nodes.length, m.r.nodes.flatMap iC_i64⟩) (by simp [rtRows])) (by omega)
theorem bag_edges {w0 w : World} {l : List Asn} (S : Sat w0 w l) (i : Nat) {R : List RtM} (hi : l[i]? = some (bag (R.flatMap rtRows))) {m : RtM} (hm : m ∈ R) (hl : m.r.edges.length ≤ 1000) : Recs 1 iC_i64 w m.A2 m.c2 m.r.edges := Recs.ofRow (bag_row S i hi hm (d := ⟨3, 1, .slice m.A2 m.r.edges.length m.c2, m.r.edges.length, m.r.edges.flatMap iC_i64⟩) (by simp [rtRows])) (by omega)
theorem bag_amts {w0 w : World} {l : List Asn} (S : Sat w0 w l) (i : Nat) {R : List RtM} (hi : l[i]? = some (bag (R.flatMap rtRows))) {m : RtM} (hm : m ∈ R) (hl : m.r.amts.length ≤ 1000) : Recs 1 iC_u64 w m.A3 m.c3 m.r.amts := Recs.ofRow (bag_row S i hi hm (d := ⟨26, 1, .slice m.A3 m.r.amts.length m.c3, m.r.amts.length, m.r.amts.flatMap iC_u64⟩) (by simp [rtRows])) (by omega)
theorem good_of {x : Wb} {from_ to am : Int} {R : List RtM} (h : R.map RtM.r = allRt x from_ to am) {i : Nat} {m : RtM} (hm : R[i]? = some m) : m ∈ R ∧ Good x from_ to am m.r ∧ m.r.amts.length ≤ 8 ∧ ∃ u, m.r.amts[0]? = some u := by
  have h1 := List.mem_of_getElem? hm
  have hg := all_good (h ▸ List.mem_map_of_mem h1)
  have hf := hg.few
  obtain ⟨_, _, hl⟩ := hg.amts
  exact ⟨h1, hg, by omega, _, List.getElem?_eq_getElem (by omega)⟩
def noM : RtM := ⟨none, 0, none, 0, none, 0, noRt⟩
theorem map_at {R : List RtM} {i : Nat} {m : RtM} (h : R[i]? = some m) : (R.map RtM.r)[i]? = some m.r := by rw [List.getElem?_map, h]; rfl
set_option maxRecDepth 100000 in
set_option maxHeartbeats 4000000 in
theorem pbest_any (w : World) (As : Option Addr) (cs : Nat) (Ae : Option Addr) (ce : Nat) (x : Wb) (h : WebAt w As cs Ae ce x) (ok : x.Ok) (from_ to am : Int) (hua : U64 am) (hs1 : x.spots.length ≤ 1000) : Calls Try.prog 21 #[.agg #[.slice As x.spots.length cs, .slice Ae x.edges.length ce], .int .i64 from_, .int .i64 to, .int .u64 am] w fun e w' => ∃ (m : RtM) (R' : List RtM), e = .returned (.tuple #[.agg #[.slice m.A1 m.r.nodes.length m.c1, .slice m.A2 m.r.edges.length m.c2, .slice m.A3 m.r.amts.length m.c3], .int .i64 (bestRt x from_ to am).2]) ∧ m.r = (bestRt x from_ to am).1 ∧ R'.map RtM.r = allRt x from_ to am ∧ ((bestRt x from_ to am).2 = 0 → m ∈ R') ∧ ((bestRt x from_ to am).2 ≠ 0 → m = noM) ∧ Sat w w' [rest w (· < w.heap.size), bag (R'.flatMap rtRows)] := by
 refine enter 47 Try.func21 rfl rfl rfl fun a F => ?_
 have S := Sat.pushRest w
 refine s_reg ?_
 refine l_do F rfl rfl (op_box S _ _ (.agg #[.slice As x.spots.length cs, .slice Ae x.edges.length ce]) F rfl (by kernel_rfl) fun b1 z S a F => ?_)
 refine l_do F rfl rfl (op_alloc S _ (.agg #[.slice none 0 0, .slice none 0 0, .slice none 0 0]) rfl (by kernel_rfl) fun b2 z S a F => ?_)
 refine l_pure 1 (fun L => (9, .int .i64 0) :: L) F (by kernel_rfl) fun a F => ?_
 refine l_then ?_
 refine s_reg ?_
 refine l_do F rfl rfl (op_loadK _ _ (some ⟨b1, 0, none⟩) 0 [.slice As x.spots.length cs, .slice Ae x.edges.length ce] F rfl (by kernel_rfl) (by kernel_rfl) (by kernel_rfl) (by simp) (cBoxK S 1 rfl 0 (by kernel_rfl)) (fun a F => ?_))
 refine l_pure 3 (fun L => (19, .int .u64 am) :: (18, .int .i64 to) :: (17, .int .i64 from_) :: L) F (by kernel_rfl) fun a F => ?_
 refine l_do F rfl rfl (op_fn F (by kernel_rfl) (pall_any _ As cs Ae ce x (h.move S rfl) ok from_ to am hua hs1) ?_)
 rintro e z ⟨Al, cl, R2, rfl, hR2, g⟩
 have S := S.pushThings g
 have hlen : R2.length ≤ 32 := by have h9 := all_few x from_ to am; rw [← hR2, List.length_map] at h9; exact h9
 refine ⟨_, rfl, ?_⟩
 intro a F
 refine l_pure 5 (fun L => (11, .int .i64 (rightP x from_ to am)) :: (10, .slice Al R2.length cl) :: (22, .int .i64 (rightP x from_ to am)) :: (21, .slice Al R2.length cl) :: (15, .tuple #[.slice Al R2.length cl, .int .i64 (rightP x from_ to am)]) :: L) F (by kernel_rfl) fun a F => ?_
 refine l_then ?_
 refine wp_seq ?_
 refine s_reg ?_
 refine l_pure 1 (fun L => (23, .int .i64 (rightP x from_ to am)) :: L) F (by kernel_rfl) fun a F => ?_
 by_cases ht3 : (rightP x from_ to am : Int) = (0 : Int)
 ·
  skip
  have hr := ht3
  refine l_do F rfl rfl (op_pure F (v0 := .bool ((rightP x from_ to am : Int) != (0 : Int))) (v := .bool false) (by kernel_rfl) (neqF ht3) fun a F => ?_)
  refine l_then ?_
  refine c_f F rfl ?_
  refine wp_skip ?_
  refine then_n ?_
  refine wp_seq ?_
  refine s_reg ?_
  refine l_pure 2 (fun L => (28, .int .i64 (R2.length : Nat)) :: (27, .slice Al R2.length cl) :: L) F (by kernel_rfl) fun a F => ?_
  by_cases ht4 : ((R2.length : Nat) : Int) = (0 : Int)
  ·
   skip
   have hnil : R2 = [] := List.eq_nil_of_length_eq_zero (by omega)
   refine l_do F rfl rfl (op_pure F (v0 := .bool (((R2.length : Nat) : Int) == (0 : Int))) (v := .bool true) (by kernel_rfl) (eqlT ht4) fun a F => ?_)
   refine l_then ?_
   refine c_t F rfl ?_
   refine s_reg ?_
   refine l_pure 1 (fun L => (30, .agg #[.slice none 0 0, .slice none 0 0, .slice none 0 0]) :: L) F (by kernel_rfl) fun a F => ?_
   refine l_do F rfl rfl (op_storeB S 2 _ _ _ b2 0 (.agg #[.slice none 0 0, .slice none 0 0, .slice none 0 0]) F rfl rfl (by kernel_rfl) (by kernel_rfl) (by kernel_rfl) (by kernel_rfl) (by kernel_rfl) fun z S a F => ?_)
   refine l_pure 1 (fun L => (9, .int .i64 27) :: L) F (by kernel_rfl) fun a F => ?_
   refine l_then ?_
   refine wp_ret ?_
   refine then_r (?_)
   have hbest : bestRt x from_ to am = (noRt, 27) := best_none hr (by rw [← hR2, hnil]; rfl)
   exact fin F [.cell 8 47, .tmp 9] [.agg #[.slice none 0 0, .slice none 0 0, .slice none 0 0], .int .i64 27] rfl ⟨⟨_, by kernel_rfl, resK S 2 (cs := [.slice none 0 0, .slice none 0 0, .slice none 0 0]) rfl (by kernel_rfl) (by kernel_rfl) (by simp)⟩, by kernel_rfl, trivial⟩ (.tuple #[.agg #[.slice none 0 0, .slice none 0 0, .slice none 0 0], .int .i64 27]) rfl ⟨noM, R2, by rw [hbest]; rfl, by rw [hbest]; rfl, hR2, fun h9 => absurd h9 (by rw [hbest]; decide), fun _ => rfl, S.pick [0, 4] (by decide)⟩
  ·
   skip
   obtain ⟨m0, hm0⟩ : ∃ m0, R2[0]? = some m0 := ⟨_, List.getElem?_eq_getElem (by omega)⟩
   refine l_do F rfl rfl (op_pure F (v0 := .bool (((R2.length : Nat) : Int) == (0 : Int))) (v := .bool false) (by kernel_rfl) (eqlF ht4) fun a F => ?_)
   refine l_then ?_
   refine c_f F rfl ?_
   refine wp_skip ?_
   refine then_n ?_
   refine s_reg ?_
   refine l_pure 1 (fun L => (31, .slice Al R2.length cl) :: L) F (by kernel_rfl) fun a F => ?_
   refine l_do F rfl rfl (op_index _ 47 _ _ Al R2.length cl 0 3 .i64 F rfl (by kernel_rfl) (by kernel_rfl) (by kernel_rfl) (by kernel_rfl) (get_lt hm0) (row_some S 3 rfl (m := 0) (get_lt hm0)) (fun a F => ?_))
   refine l_do F rfl rfl (op_loadK _ _ Al (0 * 3) [.slice m0.A1 m0.r.nodes.length m0.c1, .slice m0.A2 m0.r.edges.length m0.c2, .slice m0.A3 m0.r.amts.length m0.c3] F rfl (by kernel_rfl) (by kernel_rfl) (by kernel_rfl) (by simp) (cRecK0 S 3 rtC_len rfl hm0 (by kernel_rfl)) (fun a F => ?_))
   refine l_do F rfl rfl (op_alloc S _ (.agg #[.slice none 0 0, .slice none 0 0, .slice none 0 0]) rfl (by kernel_rfl) fun b5 z S a F => ?_)
   refine l_do F rfl rfl (op_storeB S 5 _ _ _ b5 0 (.agg #[.slice m0.A1 m0.r.nodes.length m0.c1, .slice m0.A2 m0.r.edges.length m0.c2, .slice m0.A3 m0.r.amts.length m0.c3]) F rfl rfl (by kernel_rfl) (by kernel_rfl) (by kernel_rfl) (by kernel_rfl) (by kernel_rfl) fun z S a F => ?_)
   refine l_then ?_
   refine wp_seq ?_
   refine s_reg ?_
   refine l_pure 1 (fun L => (34, .slice Al R2.length cl) :: L) F (by kernel_rfl) fun a F => ?_
   refine l_do F rfl rfl (op_sliceL _ 47 _ _ Al R2.length cl 3 .i64 F rfl (by kernel_rfl) (by kernel_rfl) (by kernel_rfl) (by kernel_rfl) (by omega) (fun a F => ?_))
   refine l_pure 2 (fun L => (37, .int .i64 0) :: (36, .int .i64 (R2.length - 1 : Nat)) :: L) F (by kernel_rfl) fun a F => ?_
   refine l_then ?_
   refine wp_block ?_
   refine wp_loop_m (fun m a z => ∃ (i : Nat) (mb : RtM), m = R2.length - i ∧ (i ≤ R2.length - 1) ∧ (R2[bestIx (R2.map RtM.r) i]? = some mb) ∧ Fr a 47 [(8, .pointer (some ⟨b2, 0, none⟩)), (12, .pointer (some ⟨b5, 0, none⟩)), (35, cutL Al R2.length cl 3), (36, .int .i64 (R2.length - 1 : Nat)), (37, .int .i64 (i : Nat))] ∧ Sat w z [rest w (· < w.heap.size), box b1 32 [.slice As x.spots.length cs, .slice Ae x.edges.length ce], box b2 47 [.slice none 0 0, .slice none 0 0, .slice none 0 0], row 47 3 (.slice Al R2.length cl) R2.length (R2.flatMap rtC), bag (R2.flatMap rtRows), box b5 47 [.slice mb.A1 mb.r.nodes.length mb.c1, .slice mb.A2 mb.r.edges.length mb.c2, .slice mb.A3 mb.r.amts.length mb.c3]]) _ ⟨0, m0, rfl, Nat.zero_le _, hm0, F.sub ⟨by kernel_rfl, by kernel_rfl, by kernel_rfl, by kernel_rfl, by kernel_rfl, trivial⟩, S⟩ ?_
   rintro m a z ⟨i, mb, hm, hf6, hf7, F, S⟩
   have hmb := hf7
   refine s_reg ?_
   by_cases ht8 : ((i : Nat) : Int) < ((R2.length - 1 : Nat) : Int)
   ·
    skip
    obtain ⟨m1, he1⟩ : ∃ m1, R2[i + 1]? = some m1 := ⟨_, List.getElem?_eq_getElem (by omega)⟩
    have hgm1 := good_of hR2 he1
    obtain ⟨um1, hum1⟩ := hgm1.2.2.2
    have hgmb := good_of hR2 hmb
    obtain ⟨umb, humb⟩ := hgmb.2.2.2
    refine l_do F rfl rfl (op_pure F (v0 := .bool (decide (((i : Nat) : Int) < ((R2.length - 1 : Nat) : Int)))) (v := .bool true) (by kernel_rfl) (lssT ht8) fun a F => ?_)
    refine l_then ?_
    refine wp_seq ?_
    refine c_t F rfl ?_
    refine wp_skip ?_
    refine then_n ?_
    refine wp_seq ?_
    refine wp_block ?_
    refine s_reg ?_
    refine l_do F rfl rfl (op_indexL _ 47 _ _ Al R2.length cl i 3 .i64 F rfl (by kernel_rfl) (by kernel_rfl) (by kernel_rfl) (by kernel_rfl) (get_lt he1) (row_cap S 3 rfl) (row_some S 3 rfl (m := (i + 1)) (get_lt he1)) (fun a F => ?_))
    refine l_do F rfl rfl (op_loadK _ _ Al ((i + 1) * 3) [.slice m1.A1 m1.r.nodes.length m1.c1, .slice m1.A2 m1.r.edges.length m1.c2, .slice m1.A3 m1.r.amts.length m1.c3] F rfl (by kernel_rfl) (by kernel_rfl) (by kernel_rfl) (by simp) (cRecK0 S 3 rtC_len rfl he1 (by kernel_rfl)) (fun a F => ?_))
    refine l_do F rfl rfl (op_alloc S _ (.agg #[.slice none 0 0, .slice none 0 0, .slice none 0 0]) rfl (by kernel_rfl) fun b9 z S a F => ?_)
    refine l_do F rfl rfl (op_storeB S 6 _ _ _ b9 0 (.agg #[.slice m1.A1 m1.r.nodes.length m1.c1, .slice m1.A2 m1.r.edges.length m1.c2, .slice m1.A3 m1.r.amts.length m1.c3]) F rfl rfl (by kernel_rfl) (by kernel_rfl) (by kernel_rfl) (by kernel_rfl) (by kernel_rfl) fun z S a F => ?_)
    refine l_then ?_
    refine s_reg ?_
    refine l_do F rfl rfl (op_loadK _ _ (some ⟨b9, 0, none⟩) 0 [.slice m1.A1 m1.r.nodes.length m1.c1, .slice m1.A2 m1.r.edges.length m1.c2, .slice m1.A3 m1.r.amts.length m1.c3] F rfl (by kernel_rfl) (by kernel_rfl) (by kernel_rfl) (by simp) (cBoxK S 6 rfl 0 (by kernel_rfl)) (fun a F => ?_))
    refine l_do F rfl rfl (op_loadK _ _ (some ⟨b5, 0, none⟩) 0 [.slice mb.A1 mb.r.nodes.length mb.c1, .slice mb.A2 mb.r.edges.length mb.c2, .slice mb.A3 mb.r.amts.length mb.c3] F rfl (by kernel_rfl) (by kernel_rfl) (by kernel_rfl) (by simp) (cBoxK S 5 rfl 0 (by kernel_rfl)) (fun a F => ?_))
    cases hb10 : (decide (betterP m1.r mb.r)) with
    | false =>
     refine l_do F rfl rfl (op_fn F (by kernel_rfl) (better_any _ m1 mb (bag_amts S 4 rfl hgm1.1 (by have := hgm1.2.2.1; omega)) (bag_amts S 4 rfl hgmb.1 (by have := hgmb.2.2.1; omega)) _ _ hum1 humb) ?_)
     rintro e z ⟨rfl, hb⟩
     have S := S.grow hb
     refine ⟨_, rfl, ?_⟩
     rw [hb10]
     intro a F
     refine l_then ?_
     refine c_f F rfl ?_
     refine wp_skip ?_
     refine inb_n ?_
     refine then_n ?_
     refine wp_region_list ?_
     refine l_do F rfl rfl (op_pure F (v0 := .int .i64 (IntKind.wrap .i64 ((i : Nat) + 1))) (v := .int .i64 (i + 1 : Nat)) (by kernel_rfl) (wrn_i64 (by omega) (by omega) (by omega)) fun a F => ?_)
     refine l_pure 1 (fun L => (37, .int .i64 (i + 1 : Nat)) :: L) F (by kernel_rfl) fun a F => ?_
     refine l_then ?_
     exact ⟨_, (by omega), i + 1, mb, rfl, (by omega), (by rw [bestIx_no (map_at he1) (map_at hmb) (of_decide_eq_false hb10)]; exact hmb), F.sub ⟨by kernel_rfl, by kernel_rfl, by kernel_rfl, by kernel_rfl, by kernel_rfl, trivial⟩, (S.pick [0, 1, 2, 3, 4, 5] (by decide))⟩
    | true =>
     refine l_do F rfl rfl (op_fn F (by kernel_rfl) (better_any _ m1 mb (bag_amts S 4 rfl hgm1.1 (by have := hgm1.2.2.1; omega)) (bag_amts S 4 rfl hgmb.1 (by have := hgmb.2.2.1; omega)) _ _ hum1 humb) ?_)
     rintro e z ⟨rfl, hb⟩
     have S := S.grow hb
     refine ⟨_, rfl, ?_⟩
     rw [hb10]
     intro a F
     refine l_then ?_
     refine c_t F rfl ?_
     refine wp_region_list ?_
     refine l_do F rfl rfl (op_loadK _ _ (some ⟨b9, 0, none⟩) 0 [.slice m1.A1 m1.r.nodes.length m1.c1, .slice m1.A2 m1.r.edges.length m1.c2, .slice m1.A3 m1.r.amts.length m1.c3] F rfl (by kernel_rfl) (by kernel_rfl) (by kernel_rfl) (by simp) (cBoxK S 6 rfl 0 (by kernel_rfl)) (fun a F => ?_))
     refine l_do F rfl rfl (op_storeB S 5 _ _ _ b5 0 (.agg #[.slice m1.A1 m1.r.nodes.length m1.c1, .slice m1.A2 m1.r.edges.length m1.c2, .slice m1.A3 m1.r.amts.length m1.c3]) F rfl rfl (by kernel_rfl) (by kernel_rfl) (by kernel_rfl) (by kernel_rfl) (by kernel_rfl) fun z S a F => ?_)
     refine l_nil (inb_n ?_)
     refine then_n ?_
     refine wp_region_list ?_
     refine l_do F rfl rfl (op_pure F (v0 := .int .i64 (IntKind.wrap .i64 ((i : Nat) + 1))) (v := .int .i64 (i + 1 : Nat)) (by kernel_rfl) (wrn_i64 (by omega) (by omega) (by omega)) fun a F => ?_)
     refine l_pure 1 (fun L => (37, .int .i64 (i + 1 : Nat)) :: L) F (by kernel_rfl) fun a F => ?_
     refine l_then ?_
     exact ⟨_, (by omega), i + 1, m1, rfl, (by omega), (by rw [bestIx_yes (map_at he1) (map_at hmb) (of_decide_eq_true hb10)]; exact he1), F.sub ⟨by kernel_rfl, by kernel_rfl, by kernel_rfl, by kernel_rfl, by kernel_rfl, trivial⟩, (S.pick [0, 1, 2, 3, 4, 5] (by decide))⟩
   ·
    skip
    refine l_do F rfl rfl (op_pure F (v0 := .bool (decide (((i : Nat) : Int) < ((R2.length - 1 : Nat) : Int)))) (v := .bool false) (by kernel_rfl) (lssF ht8) fun a F => ?_)
    refine l_then ?_
    refine wp_seq ?_
    refine c_f F rfl ?_
    refine wp_exit ?_
    refine then_x ?_
    refine then_x ?_
    refine inb_x ?_
    refine then_n ?_
    refine s_reg ?_
    refine l_do F rfl rfl (op_loadK _ _ (some ⟨b5, 0, none⟩) 0 [.slice mb.A1 mb.r.nodes.length mb.c1, .slice mb.A2 mb.r.edges.length mb.c2, .slice mb.A3 mb.r.amts.length mb.c3] F rfl (by kernel_rfl) (by kernel_rfl) (by kernel_rfl) (by simp) (cBoxK S 5 rfl 0 (by kernel_rfl)) (fun a F => ?_))
    refine l_do F rfl rfl (op_storeB S 2 _ _ _ b2 0 (.agg #[.slice mb.A1 mb.r.nodes.length mb.c1, .slice mb.A2 mb.r.edges.length mb.c2, .slice mb.A3 mb.r.amts.length mb.c3]) F rfl rfl (by kernel_rfl) (by kernel_rfl) (by kernel_rfl) (by kernel_rfl) (by kernel_rfl) fun z S a F => ?_)
    refine l_pure 1 (fun L => (9, .int .i64 0) :: L) F (by kernel_rfl) fun a F => ?_
    refine l_then ?_
    refine wp_ret ?_
    have hbest : bestRt x from_ to am = (mb.r, 0) := best_some hr (by
      rw [← hR2, List.length_map, show R2.length - 1 = i from by omega]
      exact map_at hmb)
    have hmbR := List.mem_of_getElem? hmb
    exact fin F [.cell 8 47, .tmp 9] [.agg #[.slice mb.A1 mb.r.nodes.length mb.c1, .slice mb.A2 mb.r.edges.length mb.c2, .slice mb.A3 mb.r.amts.length mb.c3], .int .i64 0] rfl ⟨⟨_, by kernel_rfl, resK S 2 (cs := [.slice mb.A1 mb.r.nodes.length mb.c1, .slice mb.A2 mb.r.edges.length mb.c2, .slice mb.A3 mb.r.amts.length mb.c3]) rfl (by kernel_rfl) (by kernel_rfl) (by simp)⟩, by kernel_rfl, trivial⟩ (.tuple #[.agg #[.slice mb.A1 mb.r.nodes.length mb.c1, .slice mb.A2 mb.r.edges.length mb.c2, .slice mb.A3 mb.r.amts.length mb.c3], .int .i64 0]) rfl ⟨mb, R2, by rw [hbest], by rw [hbest], hR2, fun _ => hmbR, fun h9 => absurd (by rw [hbest]) h9, S.pick [0, 4] (by decide)⟩
 ·
  skip
  have hr := ht3
  refine l_do F rfl rfl (op_pure F (v0 := .bool ((rightP x from_ to am : Int) != (0 : Int))) (v := .bool true) (by kernel_rfl) (neqT ht3) fun a F => ?_)
  refine l_then ?_
  refine c_t F rfl ?_
  refine s_reg ?_
  refine l_pure 2 (fun L => (26, .int .i64 (rightP x from_ to am)) :: (25, .agg #[.slice none 0 0, .slice none 0 0, .slice none 0 0]) :: L) F (by kernel_rfl) fun a F => ?_
  refine l_do F rfl rfl (op_storeB S 2 _ _ _ b2 0 (.agg #[.slice none 0 0, .slice none 0 0, .slice none 0 0]) F rfl rfl (by kernel_rfl) (by kernel_rfl) (by kernel_rfl) (by kernel_rfl) (by kernel_rfl) fun z S a F => ?_)
  refine l_pure 1 (fun L => (9, .int .i64 (rightP x from_ to am)) :: L) F (by kernel_rfl) fun a F => ?_
  refine l_then ?_
  refine wp_ret ?_
  refine then_r (?_)
  have hbest : bestRt x from_ to am = (noRt, rightP x from_ to am) := best_err hr
  exact fin F [.cell 8 47, .tmp 9] [.agg #[.slice none 0 0, .slice none 0 0, .slice none 0 0], .int .i64 (rightP x from_ to am)] rfl ⟨⟨_, by kernel_rfl, resK S 2 (cs := [.slice none 0 0, .slice none 0 0, .slice none 0 0]) rfl (by kernel_rfl) (by kernel_rfl) (by simp)⟩, by kernel_rfl, trivial⟩ (.tuple #[.agg #[.slice none 0 0, .slice none 0 0, .slice none 0 0], .int .i64 (rightP x from_ to am)]) rfl ⟨noM, R2, by rw [hbest]; rfl, by rw [hbest]; rfl, hR2, fun h9 => absurd h9 (by rw [hbest]; exact hr), fun _ => rfl, S.pick [0, 4] (by decide)⟩
end Go.Proofs.Ytcfpbemoocegfaa
