/- Walk over the law FlowMost. -/
import Derived.Test.YtcfpbemoocegfaaDoc27
import Derived.Test.YtcfpbemoocegfaaGoes27
namespace Go.Proofs.Ytcfpbemoocegfaa
set_option linter.unusedVariables false
set_option linter.unusedSimpArgs false
set_option linter.unnecessarySimpa false
open Go Go.RowKit

set_option maxRecDepth 100000 in
set_option maxHeartbeats 4000000 in
theorem fmost_law (w : World) (As : Option Addr) (cs : Nat) (Ae : Option Addr) (ce : Nat) (x : Wb) (h : WebAt w As cs Ae ce x) (ok : x.Ok) (from_ to limit : Int) (hl : U64 limit) : Calls Try.prog 8 #[.agg #[.slice As x.spots.length cs, .slice Ae x.edges.length ce], .int .i64 from_, .int .i64 to, .int .u64 limit] w fun e w' => e = .returned (.bool true) ∧ Below w.heap.size w w' := by
 refine enter 77 Try.func8 rfl rfl rfl fun a F => ?_
 have hlu := hl
 unfold U64 at hlu
 have S := Sat.pushRest w
 refine s_reg ?_
 refine l_do F rfl rfl (op_box S _ _ (.agg #[.slice As x.spots.length cs, .slice Ae x.edges.length ce]) F rfl (by kernel_rfl) fun b1 z S a F => ?_)
 refine l_pure 1 (fun L => (8, .bool false) :: L) F (by kernel_rfl) fun a F => ?_
 refine l_then ?_
 refine wp_seq ?_
 refine s_reg ?_
 refine l_do F rfl rfl (op_loadK _ _ (some ⟨b1, 0, none⟩) 0 [.slice As x.spots.length cs, .slice Ae x.edges.length ce] F rfl (by kernel_rfl) (by kernel_rfl) (by kernel_rfl) (by simp) (cBoxK S 1 rfl 0 (by kernel_rfl)) (fun a F => ?_))
 cases hb2 : (lightP x) with
 | false =>
  refine l_do F rfl rfl (op_fn F (by kernel_rfl) (light_any _ As cs Ae ce x) ?_)
  rintro e z ⟨rfl, hb⟩
  have S := S.grow hb
  refine ⟨_, rfl, ?_⟩
  rw [hb2]
  intro a F
  refine l_pure 1 (fun L => (17, .bool true) :: L) F (by kernel_rfl) fun a F => ?_
  refine l_then ?_
  refine c_t F rfl ?_
  refine s_reg ?_
  refine l_do F rfl rfl (op_fn F (by kernel_rfl) (awake27_any _) ?_)
  rintro e z ⟨rfl, hb⟩
  have S := S.grow hb
  refine ⟨_, rfl, ?_⟩
  intro a F
  refine l_pure 1 (fun L => (8, .bool true) :: L) F (by kernel_rfl) fun a F => ?_
  refine l_then ?_
  refine wp_ret ?_
  refine then_r (?_)
  exact fin F [.tmp 8] [.bool true] rfl ⟨by kernel_rfl, trivial⟩ (.bool true) rfl ⟨rfl, S.below (i := 0) rfl⟩
 | true =>
  obtain ⟨l1, l2, l3, l4⟩ := light_small hb2
  refine l_do F rfl rfl (op_fn F (by kernel_rfl) (light_any _ As cs Ae ce x) ?_)
  rintro e z ⟨rfl, hb⟩
  have S := S.grow hb
  refine ⟨_, rfl, ?_⟩
  rw [hb2]
  intro a F
  refine l_pure 1 (fun L => (17, .bool false) :: L) F (by kernel_rfl) fun a F => ?_
  refine l_then ?_
  refine c_f F rfl ?_
  refine wp_skip ?_
  refine then_n ?_
  refine s_reg ?_
  refine l_do F rfl rfl (op_loadK _ _ (some ⟨b1, 0, none⟩) 0 [.slice As x.spots.length cs, .slice Ae x.edges.length ce] F rfl (by kernel_rfl) (by kernel_rfl) (by kernel_rfl) (by simp) (cBoxK S 1 rfl 0 (by kernel_rfl)) (fun a F => ?_))
  refine l_do F rfl rfl (op_fn F (by kernel_rfl) (to_any _ As cs Ae ce x (h.move S rfl) ok ⟨l1, l2⟩) ?_)
  rintro e z ⟨A3, c4, A5, c6, rfl, g⟩
  have S := S.pushThings g
  refine ⟨_, rfl, ?_⟩
  intro a F
  refine l_pure 3 (fun L => (24, .int .u64 limit) :: (23, .int .i64 to) :: (22, .int .i64 from_) :: L) F (by kernel_rfl) fun a F => ?_
  refine l_do F rfl rfl (op_fn F (by kernel_rfl) (most_any _ A3 c4 A5 c6 x (WebAt.ofNew (x := x) (w := w) S (i := 2) (j := 3) rfl rfl ⟨l1, l2⟩) ok (by omega) from_ to limit hl) ?_)
  rintro e z ⟨n9, Ap, cp, P9, rfl, hmost, g⟩
  have S := S.pushThings g
  refine ⟨_, rfl, ?_⟩
  intro a F
  refine l_pure 7 (fun L => (11, .int .i64 (frightP x from_ to)) :: (10, .slice Ap P9.length cp) :: (9, .int .u64 n9) :: (28, .int .i64 (frightP x from_ to)) :: (27, .slice Ap P9.length cp) :: (26, .int .u64 n9) :: (19, .tuple #[.int .u64 n9, .slice Ap P9.length cp, .int .i64 (frightP x from_ to)]) :: L) F (by kernel_rfl) fun a F => ?_
  refine l_then ?_
  refine s_reg ?_
  refine l_do F rfl rfl (op_loadK _ _ (some ⟨b1, 0, none⟩) 0 [.slice As x.spots.length cs, .slice Ae x.edges.length ce] F rfl (by kernel_rfl) (by kernel_rfl) (by kernel_rfl) (by simp) (cBoxK S 1 rfl 0 (by kernel_rfl)) (fun a F => ?_))
  refine l_pure 2 (fun L => (31, .int .i64 to) :: (30, .int .i64 from_) :: L) F (by kernel_rfl) fun a F => ?_
  refine l_do F rfl rfl (op_fn F (by kernel_rfl) (rfright_any _ As cs Ae ce x (h.move S rfl) ok (by omega) from_ to) ?_)
  rintro e z ⟨rfl, hb⟩
  have S := S.grow hb
  refine ⟨_, rfl, ?_⟩
  intro a F
  refine l_pure 1 (fun L => (12, .int .i64 (frightP x from_ to)) :: L) F (by kernel_rfl) fun a F => ?_
  refine l_then ?_
  refine wp_seq ?_
  refine s_reg ?_
  refine l_pure 1 (fun L => (33, .int .i64 (frightP x from_ to)) :: L) F (by kernel_rfl) fun a F => ?_
  by_cases ht7 : (frightP x from_ to : Int) = (0 : Int)
  ·
   skip
   have hr := ht7
   obtain ⟨hc, ⟨fr, t, hq1, hq2, hfr, ht, hne⟩, hal, hho, hsum⟩ := fright_zero ok hr
   obtain ⟨fr', t', y, hq3, hq4, hflow, hP9, hle9, hend⟩ := most_got hmost hr
   subst hq1
   subst hq2
   obtain rfl : fr = fr' := by omega
   obtain rfl : t = t' := by omega
   have hpl := pipes_len x y x.edges.length
   rw [← hP9] at hpl
   obtain ⟨hg1, hg2, hg3⟩ := pipes_goes ok hc hflow
   rw [← hP9] at hg1 hg2 hg3
   have hnn := hflow.nn
   refine l_do F rfl rfl (op_pure F (v0 := .bool ((frightP x (fr : Nat) (t : Nat) : Int) != (0 : Int))) (v := .bool false) (by kernel_rfl) (neqF hr) fun a F => ?_)
   refine l_then ?_
   refine c_f F rfl ?_
   refine wp_skip ?_
   refine then_n ?_
   refine s_reg ?_
   refine l_do F rfl rfl (op_loadK _ _ (some ⟨b1, 0, none⟩) 0 [.slice As x.spots.length cs, .slice Ae x.edges.length ce] F rfl (by kernel_rfl) (by kernel_rfl) (by kernel_rfl) (by simp) (cBoxK S 1 rfl 0 (by kernel_rfl)) (fun a F => ?_))
   refine l_pure 2 (fun L => (53, .int .i64 (t : Nat)) :: (52, .int .i64 (fr : Nat)) :: L) F (by kernel_rfl) fun a F => ?_
   refine l_do F rfl rfl (op_fn F (by kernel_rfl) (rmost_any _ As cs Ae ce x (h.move S rfl) ok (by omega) hc hho fr t hfr ht) ?_)
   rintro e z ⟨best, nodes, many, rfl, hms, hb⟩
   have S := S.grow hb
   obtain ⟨hb1, hb2, hb3⟩ := flow_least hc hfr ht hne hms hflow hle9 hend
   refine ⟨_, rfl, ?_⟩
   intro a F
   refine l_pure 5 (fun L => (14, .int .i64 (nodes : Nat)) :: (13, .int .u64 best) :: (56, .int .i64 (nodes : Nat)) :: (55, .int .u64 best) :: (50, .tuple #[.int .u64 best, .int .i64 (nodes : Nat)]) :: L) F (by kernel_rfl) fun a F => ?_
   refine l_then ?_
   refine s_reg ?_
   refine l_do F rfl rfl (op_fn F (by kernel_rfl) (awake27_any _) ?_)
   rintro e z ⟨rfl, hb⟩
   have S := S.grow hb
   refine ⟨_, rfl, ?_⟩
   intro a F
   refine l_pure 2 (fun L => (59, .int .i64 (frightP x (fr : Nat) (t : Nat))) :: (58, .bool true) :: L) F (by kernel_rfl) fun a F => ?_
   refine l_do F rfl rfl (op_pure F (v0 := .bool ((frightP x (fr : Nat) (t : Nat) : Int) == (0 : Int))) (v := .bool true) (by kernel_rfl) (eqlT hr) fun a F => ?_)
   refine l_pure 5 (fun L => (65, .int .u64 limit) :: (64, .int .u64 best) :: (63, .int .u64 n9) :: (62, .bool true) :: (61, .bool true) :: L) F (by kernel_rfl) fun a F => ?_
   by_cases ht8 : (best : Int) ≤ (limit : Int)
   ·
    skip
    refine l_do F rfl rfl (op_pure F (v0 := .int .u64 (if (limit : Int) < (best : Int) then (limit : Int) else (best : Int))) (v := .int .u64 best) (by kernel_rfl) (minT ht8) fun a F => ?_)
    refine l_do F rfl rfl (op_pure F (v0 := .bool ((n9 : Int) == (best : Int))) (v := .bool true) (by kernel_rfl) (eqlT (by omega)) fun a F => ?_)
    refine l_pure 2 (fun L => (69, .bool true) :: (68, .bool true) :: L) F (by kernel_rfl) fun a F => ?_
    refine l_do F rfl rfl (op_loadK _ _ (some ⟨b1, 0, none⟩) 0 [.slice As x.spots.length cs, .slice Ae x.edges.length ce] F rfl (by kernel_rfl) (by kernel_rfl) (by kernel_rfl) (by simp) (cBoxK S 1 rfl 0 (by kernel_rfl)) (fun a F => ?_))
    refine l_pure 4 (fun L => (74, .int .u64 n9) :: (73, .int .i64 (t : Nat)) :: (72, .int .i64 (fr : Nat)) :: (71, .slice Ap P9.length cp) :: L) F (by kernel_rfl) fun a F => ?_
    refine l_do F rfl rfl (op_fn F (by kernel_rfl) (goes_any _ As cs Ae ce x (h.move S rfl) ok hc Ap cp P9 (Recs.ofRow (S.rowOf (i := 4) rfl) (by omega)) (by omega) hg1 hg2 fr t n9 hne hnn (by omega) hg3) ?_)
    rintro e z ⟨rfl, hb⟩
    have S := S.grow hb
    refine ⟨_, rfl, ?_⟩
    intro a F
    refine l_pure 2 (fun L => (8, .bool true) :: (76, .bool true) :: L) F (by kernel_rfl) fun a F => ?_
    refine l_then ?_
    refine wp_ret ?_
    exact fin F [.tmp 8] [.bool true] rfl ⟨by kernel_rfl, trivial⟩ (.bool true) rfl ⟨rfl, S.below (i := 0) rfl⟩
   ·
    skip
    refine l_do F rfl rfl (op_pure F (v0 := .int .u64 (if (limit : Int) < (best : Int) then (limit : Int) else (best : Int))) (v := .int .u64 limit) (by kernel_rfl) (minF ht8) fun a F => ?_)
    refine l_do F rfl rfl (op_pure F (v0 := .bool ((n9 : Int) == (limit : Int))) (v := .bool true) (by kernel_rfl) (eqlT (by omega)) fun a F => ?_)
    refine l_pure 2 (fun L => (69, .bool true) :: (68, .bool true) :: L) F (by kernel_rfl) fun a F => ?_
    refine l_do F rfl rfl (op_loadK _ _ (some ⟨b1, 0, none⟩) 0 [.slice As x.spots.length cs, .slice Ae x.edges.length ce] F rfl (by kernel_rfl) (by kernel_rfl) (by kernel_rfl) (by simp) (cBoxK S 1 rfl 0 (by kernel_rfl)) (fun a F => ?_))
    refine l_pure 4 (fun L => (74, .int .u64 n9) :: (73, .int .i64 (t : Nat)) :: (72, .int .i64 (fr : Nat)) :: (71, .slice Ap P9.length cp) :: L) F (by kernel_rfl) fun a F => ?_
    refine l_do F rfl rfl (op_fn F (by kernel_rfl) (goes_any _ As cs Ae ce x (h.move S rfl) ok hc Ap cp P9 (Recs.ofRow (S.rowOf (i := 4) rfl) (by omega)) (by omega) hg1 hg2 fr t n9 hne hnn (by omega) hg3) ?_)
    rintro e z ⟨rfl, hb⟩
    have S := S.grow hb
    refine ⟨_, rfl, ?_⟩
    intro a F
    refine l_pure 2 (fun L => (8, .bool true) :: (76, .bool true) :: L) F (by kernel_rfl) fun a F => ?_
    refine l_then ?_
    refine wp_ret ?_
    exact fin F [.tmp 8] [.bool true] rfl ⟨by kernel_rfl, trivial⟩ (.bool true) rfl ⟨rfl, S.below (i := 0) rfl⟩
  ·
   skip
   obtain ⟨hn0, hP0⟩ := most_err hmost ht7
   refine l_do F rfl rfl (op_pure F (v0 := .bool ((frightP x from_ to : Int) != (0 : Int))) (v := .bool true) (by kernel_rfl) (neqT ht7) fun a F => ?_)
   refine l_then ?_
   refine c_t F rfl ?_
   refine s_reg ?_
   refine l_do F rfl rfl (op_fn F (by kernel_rfl) (awake27_any _) ?_)
   rintro e z ⟨rfl, hb⟩
   have S := S.grow hb
   refine ⟨_, rfl, ?_⟩
   intro a F
   refine l_pure 3 (fun L => (38, .int .i64 (frightP x from_ to)) :: (37, .int .i64 (frightP x from_ to)) :: (36, .bool true) :: L) F (by kernel_rfl) fun a F => ?_
   refine l_do F rfl rfl (op_pure F (v0 := .bool ((frightP x from_ to : Int) == (frightP x from_ to : Int))) (v := .bool true) (by kernel_rfl) (eqlT rfl) fun a F => ?_)
   refine l_pure 3 (fun L => (42, .int .u64 n9) :: (41, .bool true) :: (40, .bool true) :: L) F (by kernel_rfl) fun a F => ?_
   refine l_do F rfl rfl (op_pure F (v0 := .bool ((n9 : Int) == (0 : Int))) (v := .bool true) (by kernel_rfl) (eqlT hn0) fun a F => ?_)
   refine l_pure 4 (fun L => (47, .int .i64 (P9.length : Nat)) :: (46, .slice Ap P9.length cp) :: (45, .bool true) :: (44, .bool true) :: L) F (by kernel_rfl) fun a F => ?_
   refine l_do F rfl rfl (op_pure F (v0 := .bool (((P9.length : Nat) : Int) == (0 : Int))) (v := .bool true) (by kernel_rfl) (eqlT (by rw [hP0]; rfl)) fun a F => ?_)
   refine l_pure 2 (fun L => (8, .bool true) :: (49, .bool true) :: L) F (by kernel_rfl) fun a F => ?_
   refine l_then ?_
   refine wp_ret ?_
   refine then_r (?_)
   exact fin F [.tmp 8] [.bool true] rfl ⟨by kernel_rfl, trivial⟩ (.bool true) rfl ⟨rfl, S.below (i := 0) rfl⟩
end Go.Proofs.Ytcfpbemoocegfaa
