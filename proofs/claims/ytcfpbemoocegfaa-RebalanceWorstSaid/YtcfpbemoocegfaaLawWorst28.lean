/- Which channels are fullest and emptiest: the document's answer; the law RebalanceWorst. -/
import Derived.Test.YtcfpbemoocegfaaWorst
namespace Go.Proofs.Ytcfpbemoocegfaa
set_option linter.unusedVariables false
set_option linter.unusedSimpArgs false
set_option linter.unnecessarySimpa false
open Go Go.RowKit

/-- A step, written out. -/
theorem step_at {x : Wb} {node : Int} {i : Nat} (h : i < (stepsP x node).length) : ∃ (k : Nat) (sto sca sba sra : Int) (ed : Edg) (s : Nat), (stepsP x node)[i]? = some ⟨(k : Int), sto, sca, sba, sra⟩ ∧ x.edges[k]? = some ed ∧ sideP ed node = (s : Int) ∧ s < 2 ∧ atI x node i = shareP ed s := by
  have hq : (stepsP x node)[i]? = some ((stepsP x node)[i]) := List.getElem?_eq_getElem h
  obtain ⟨k, ed, s, h1, h2, h3, h4⟩ := step_in hq
  have h5 : atI x node i = shareP ed s := (atI_of hq).trans (atP_of ⟨h1, h2, h3, h4⟩)
  generalize (stepsP x node)[i] = q at hq h1
  obtain ⟨se, sto, sca, sba, sra⟩ := q
  have h1 : se = (k : Int) := h1
  subst h1
  exact ⟨k, sto, sca, sba, sra, ed, s, hq, h2, h3, h4, h5⟩
set_option maxRecDepth 100000 in
set_option maxHeartbeats 4000000 in
theorem rside_w (w : World) (As : Option Addr) (cs : Nat) (Ae : Option Addr) (ce : Nat) (x : Wb) (h : WebAt w As cs Ae ce x) (ok : x.Ok) (edge node : Int) {s : Int} (hv : sideAt x edge node = s) : Calls Try.prog 84 #[.agg #[.slice As x.spots.length cs, .slice Ae x.edges.length ce], .int .i64 edge, .int .i64 node] w fun e w' => e = .returned (.int .i64 s) ∧ Below w.heap.size w w' := by
 refine enter 32 Try.func84 rfl rfl rfl fun a F => ?_
 have S := Sat.pushRest w
 refine s_reg ?_
 refine l_do F rfl rfl (op_box S _ _ (.agg #[.slice As x.spots.length cs, .slice Ae x.edges.length ce]) F rfl (by kernel_rfl) fun b1 z S a F => ?_)
 refine l_pure 1 (fun L => (6, .int .i64 0) :: L) F (by kernel_rfl) fun a F => ?_
 refine l_then ?_
 refine wp_seq ?_
 refine s_reg ?_
 refine l_pure 1 (fun L => (8, .int .i64 edge) :: L) F (by kernel_rfl) fun a F => ?_
 by_cases ht2 : (edge : Int) < (0 : Int)
 ·
  skip
  obtain rfl := hv.symm.trans (sideAt_out (.inl ht2) node)
  refine l_do F rfl rfl (op_pure F (v0 := .bool (decide ((edge : Int) < (0 : Int)))) (v := .bool true) (by kernel_rfl) (lssT ht2) fun a F => ?_)
  refine l_pure 7 (fun L => (16, .bool true) :: (15, undef) :: (14, undef) :: (13, undef) :: (12, undef) :: (11, undef) :: (10, .bool true) :: L) F (by kernel_rfl) fun a F => ?_
  refine l_then ?_
  refine c_t F rfl ?_
  refine s_reg ?_
  refine l_pure 1 (fun L => (6, .int .i64 (-1)) :: L) F (by kernel_rfl) fun a F => ?_
  refine l_then ?_
  refine wp_ret ?_
  refine then_r (?_)
  exact fin F [.tmp 6] [.int .i64 (-1)] rfl ⟨by kernel_rfl, trivial⟩ (.int .i64 (-1)) rfl ⟨rfl, S.below (i := 0) rfl⟩
 ·
  skip
  refine l_do F rfl rfl (op_pure F (v0 := .bool (decide ((edge : Int) < (0 : Int)))) (v := .bool false) (by kernel_rfl) (lssF ht2) fun a F => ?_)
  refine l_pure 3 (fun L => (12, .pointer (some ⟨b1, 1, none⟩)) :: (11, .int .i64 edge) :: (10, .bool false) :: L) F (by kernel_rfl) fun a F => ?_
  refine l_do F rfl rfl (op_load _ _ (some ⟨b1, 0, none⟩) 1 (.slice Ae x.edges.length ce) F rfl (by kernel_rfl) (by kernel_rfl) (cBox S 1 rfl (j := 1) rfl) (fun a F => ?_))
  refine l_pure 1 (fun L => (14, .int .i64 (x.edges.length : Nat)) :: L) F (by kernel_rfl) fun a F => ?_
  by_cases ht3 : ((x.edges.length : Nat) : Int) ≤ (edge : Int)
  ·
   skip
   obtain rfl := hv.symm.trans (sideAt_out (.inr (by omega)) node)
   refine l_do F rfl rfl (op_pure F (v0 := .bool (decide ((edge : Int) ≥ ((x.edges.length : Nat) : Int)))) (v := .bool true) (by kernel_rfl) (geqT ht3) fun a F => ?_)
   refine l_pure 1 (fun L => (16, .bool true) :: L) F (by kernel_rfl) fun a F => ?_
   refine l_then ?_
   refine c_t F rfl ?_
   refine s_reg ?_
   refine l_pure 1 (fun L => (6, .int .i64 (-1)) :: L) F (by kernel_rfl) fun a F => ?_
   refine l_then ?_
   refine wp_ret ?_
   refine then_r (?_)
   exact fin F [.tmp 6] [.int .i64 (-1)] rfl ⟨by kernel_rfl, trivial⟩ (.int .i64 (-1)) rfl ⟨rfl, S.below (i := 0) rfl⟩
  ·
   skip
   obtain ⟨k, rfl⟩ : ∃ k : Nat, edge = k := ⟨edge.toNat, by omega⟩
   obtain ⟨ed, hed⟩ : ∃ ed, x.edges[k]? = some ed := ⟨_, List.getElem?_eq_getElem (by omega)⟩
   refine l_do F rfl rfl (op_pure F (v0 := .bool (decide (((k : Nat) : Int) ≥ ((x.edges.length : Nat) : Int)))) (v := .bool false) (by kernel_rfl) (geqF ht3) fun a F => ?_)
   refine l_pure 1 (fun L => (16, .bool false) :: L) F (by kernel_rfl) fun a F => ?_
   refine l_then ?_
   refine c_f F rfl ?_
   refine wp_skip ?_
   refine then_n ?_
   refine wp_seq ?_
   refine s_reg ?_
   refine l_pure 1 (fun L => (7, .int .i64 0) :: L) F (by kernel_rfl) fun a F => ?_
   refine l_then ?_
   refine wp_block ?_
   refine wp_loop_rounds 3 (rnd ?_)
   refine wp_seq ?_
   refine s_reg ?_
   refine l_pure 2 (fun L => (18, .bool true) :: (17, .int .i64 0) :: L) F (by kernel_rfl) fun a F => ?_
   refine l_then ?_
   refine c_t F rfl ?_
   refine wp_skip ?_
   refine then_n ?_
   refine wp_seq ?_
   refine wp_block ?_
   refine s_reg ?_
   refine l_pure 1 (fun L => (21, .pointer (some ⟨b1, 1, none⟩)) :: L) F (by kernel_rfl) fun a F => ?_
   refine l_do F rfl rfl (op_load _ _ (some ⟨b1, 0, none⟩) 1 (.slice Ae x.edges.length ce) F rfl (by kernel_rfl) (by kernel_rfl) (cBox S 1 rfl (j := 1) rfl) (fun a F => ?_))
   refine l_pure 2 (fun L => (24, .int .i64 0) :: (23, .int .i64 (k : Nat)) :: L) F (by kernel_rfl) fun a F => ?_
   refine l_do F rfl rfl (op_index _ 104 _ _ Ae x.edges.length ce k 8 .i64 F rfl (by kernel_rfl) (by kernel_rfl) (by kernel_rfl) (by kernel_rfl) (get_lt hed) (recs_some h.e (m := k) (get_lt hed)) (fun a F => ?_))
   refine l_do F rfl rfl (op_field _ _ _ Ae (k * 8) 0 F rfl (by kernel_rfl) (by kernel_rfl) (recs_some h.e (m := k) (get_lt hed)) (fun a F => ?_))
   refine l_do F rfl rfl (op_indexArr _ 3 _ _ Ae (k * 8) 2 0 1 .i64 F rfl (by kernel_rfl) (by kernel_rfl) (by kernel_rfl) (by kernel_rfl) (by decide) (recs_some h.e (m := k) (get_lt hed)) (fun a F => ?_))
   refine l_do F rfl rfl (op_load _ _ Ae (k * 8) (.int .i64 ed.a) F rfl (by kernel_rfl) (by kernel_rfl) (cOld S 0 edC_len h.e rfl 0 hed rfl) (fun a F => ?_))
   refine l_pure 1 (fun L => (29, .int .i64 node) :: L) F (by kernel_rfl) fun a F => ?_
   rcases side_cases ed node with ⟨hs0, hq0⟩ | ⟨hs0, hq0, hq1⟩ | ⟨hs0, hq0, hq1⟩
   ·
    skip
    obtain rfl := hv.symm.trans ((sideAt_in hed node).trans hs0)
    refine l_do F rfl rfl (op_pure F (v0 := .bool ((ed.a : Int) == (node : Int))) (v := .bool true) (by kernel_rfl) (eqlT (by omega)) fun a F => ?_)
    refine l_then ?_
    refine c_t F rfl ?_
    refine s_reg ?_
    refine l_pure 2 (fun L => (6, .int .i64 0) :: (31, .int .i64 0) :: L) F (by kernel_rfl) fun a F => ?_
    refine l_then ?_
    refine wp_ret ?_
    refine inb_r (then_r (then_r (inb_r (then_r (?_)))))
    exact fin F [.tmp 6] [.int .i64 0] rfl ⟨by kernel_rfl, trivial⟩ (.int .i64 0) rfl ⟨rfl, S.below (i := 0) rfl⟩
   ·
    skip
    obtain rfl := hv.symm.trans ((sideAt_in hed node).trans hs0)
    refine l_do F rfl rfl (op_pure F (v0 := .bool ((ed.a : Int) == (node : Int))) (v := .bool false) (by kernel_rfl) (eqlF (by omega)) fun a F => ?_)
    refine l_then ?_
    refine c_f F rfl ?_
    refine wp_skip ?_
    refine inb_n ?_
    refine then_n ?_
    refine wp_region_list ?_
    refine l_pure 3 (fun L => (7, .int .i64 1) :: (20, .int .i64 1) :: (19, .int .i64 0) :: L) F (by kernel_rfl) fun a F => ?_
    refine l_then ?_
    refine rnd ?_
    refine wp_seq ?_
    refine s_reg ?_
    refine l_pure 2 (fun L => (18, .bool true) :: (17, .int .i64 1) :: L) F (by kernel_rfl) fun a F => ?_
    refine l_then ?_
    refine c_t F rfl ?_
    refine wp_skip ?_
    refine then_n ?_
    refine wp_seq ?_
    refine wp_block ?_
    refine s_reg ?_
    refine l_pure 1 (fun L => (21, .pointer (some ⟨b1, 1, none⟩)) :: L) F (by kernel_rfl) fun a F => ?_
    refine l_do F rfl rfl (op_load _ _ (some ⟨b1, 0, none⟩) 1 (.slice Ae x.edges.length ce) F rfl (by kernel_rfl) (by kernel_rfl) (cBox S 1 rfl (j := 1) rfl) (fun a F => ?_))
    refine l_pure 2 (fun L => (24, .int .i64 1) :: (23, .int .i64 (k : Nat)) :: L) F (by kernel_rfl) fun a F => ?_
    refine l_do F rfl rfl (op_index _ 104 _ _ Ae x.edges.length ce k 8 .i64 F rfl (by kernel_rfl) (by kernel_rfl) (by kernel_rfl) (by kernel_rfl) (get_lt hed) (recs_some h.e (m := k) (get_lt hed)) (fun a F => ?_))
    refine l_do F rfl rfl (op_field _ _ _ Ae (k * 8) 0 F rfl (by kernel_rfl) (by kernel_rfl) (recs_some h.e (m := k) (get_lt hed)) (fun a F => ?_))
    refine l_do F rfl rfl (op_indexArr _ 3 _ _ Ae (k * 8) 2 1 1 .i64 F rfl (by kernel_rfl) (by kernel_rfl) (by kernel_rfl) (by kernel_rfl) (by decide) (recs_some h.e (m := k) (get_lt hed)) (fun a F => ?_))
    refine l_do F rfl rfl (op_load _ _ Ae (k * 8 + 1) (.int .i64 ed.b) F rfl (by kernel_rfl) (by kernel_rfl) (cOld S 0 edC_len h.e rfl 1 hed rfl) (fun a F => ?_))
    refine l_pure 1 (fun L => (29, .int .i64 node) :: L) F (by kernel_rfl) fun a F => ?_
    refine l_do F rfl rfl (op_pure F (v0 := .bool ((ed.b : Int) == (node : Int))) (v := .bool true) (by kernel_rfl) (eqlT (by omega)) fun a F => ?_)
    refine l_then ?_
    refine c_t F rfl ?_
    refine s_reg ?_
    refine l_pure 2 (fun L => (6, .int .i64 1) :: (31, .int .i64 1) :: L) F (by kernel_rfl) fun a F => ?_
    refine l_then ?_
    refine wp_ret ?_
    refine inb_r (then_r (then_r (inb_r (then_r (?_)))))
    exact fin F [.tmp 6] [.int .i64 1] rfl ⟨by kernel_rfl, trivial⟩ (.int .i64 1) rfl ⟨rfl, S.below (i := 0) rfl⟩
   ·
    skip
    obtain rfl := hv.symm.trans ((sideAt_in hed node).trans hs0)
    refine l_do F rfl rfl (op_pure F (v0 := .bool ((ed.a : Int) == (node : Int))) (v := .bool false) (by kernel_rfl) (eqlF (by omega)) fun a F => ?_)
    refine l_then ?_
    refine c_f F rfl ?_
    refine wp_skip ?_
    refine inb_n ?_
    refine then_n ?_
    refine wp_region_list ?_
    refine l_pure 3 (fun L => (7, .int .i64 1) :: (20, .int .i64 1) :: (19, .int .i64 0) :: L) F (by kernel_rfl) fun a F => ?_
    refine l_then ?_
    refine rnd ?_
    refine wp_seq ?_
    refine s_reg ?_
    refine l_pure 2 (fun L => (18, .bool true) :: (17, .int .i64 1) :: L) F (by kernel_rfl) fun a F => ?_
    refine l_then ?_
    refine c_t F rfl ?_
    refine wp_skip ?_
    refine then_n ?_
    refine wp_seq ?_
    refine wp_block ?_
    refine s_reg ?_
    refine l_pure 1 (fun L => (21, .pointer (some ⟨b1, 1, none⟩)) :: L) F (by kernel_rfl) fun a F => ?_
    refine l_do F rfl rfl (op_load _ _ (some ⟨b1, 0, none⟩) 1 (.slice Ae x.edges.length ce) F rfl (by kernel_rfl) (by kernel_rfl) (cBox S 1 rfl (j := 1) rfl) (fun a F => ?_))
    refine l_pure 2 (fun L => (24, .int .i64 1) :: (23, .int .i64 (k : Nat)) :: L) F (by kernel_rfl) fun a F => ?_
    refine l_do F rfl rfl (op_index _ 104 _ _ Ae x.edges.length ce k 8 .i64 F rfl (by kernel_rfl) (by kernel_rfl) (by kernel_rfl) (by kernel_rfl) (get_lt hed) (recs_some h.e (m := k) (get_lt hed)) (fun a F => ?_))
    refine l_do F rfl rfl (op_field _ _ _ Ae (k * 8) 0 F rfl (by kernel_rfl) (by kernel_rfl) (recs_some h.e (m := k) (get_lt hed)) (fun a F => ?_))
    refine l_do F rfl rfl (op_indexArr _ 3 _ _ Ae (k * 8) 2 1 1 .i64 F rfl (by kernel_rfl) (by kernel_rfl) (by kernel_rfl) (by kernel_rfl) (by decide) (recs_some h.e (m := k) (get_lt hed)) (fun a F => ?_))
    refine l_do F rfl rfl (op_load _ _ Ae (k * 8 + 1) (.int .i64 ed.b) F rfl (by kernel_rfl) (by kernel_rfl) (cOld S 0 edC_len h.e rfl 1 hed rfl) (fun a F => ?_))
    refine l_pure 1 (fun L => (29, .int .i64 node) :: L) F (by kernel_rfl) fun a F => ?_
    refine l_do F rfl rfl (op_pure F (v0 := .bool ((ed.b : Int) == (node : Int))) (v := .bool false) (by kernel_rfl) (eqlF (by omega)) fun a F => ?_)
    refine l_then ?_
    refine c_f F rfl ?_
    refine wp_skip ?_
    refine inb_n ?_
    refine then_n ?_
    refine wp_region_list ?_
    refine l_pure 3 (fun L => (7, .int .i64 2) :: (20, .int .i64 2) :: (19, .int .i64 1) :: L) F (by kernel_rfl) fun a F => ?_
    refine l_then ?_
    refine rnd ?_
    refine wp_seq ?_
    refine s_reg ?_
    refine l_pure 2 (fun L => (18, .bool false) :: (17, .int .i64 2) :: L) F (by kernel_rfl) fun a F => ?_
    refine l_then ?_
    refine c_f F rfl ?_
    refine wp_exit ?_
    refine then_x ?_
    refine then_x ?_
    refine inb_x ?_
    refine then_n ?_
    refine s_reg ?_
    refine l_pure 1 (fun L => (6, .int .i64 (-1)) :: L) F (by kernel_rfl) fun a F => ?_
    refine l_then ?_
    refine wp_ret ?_
    exact fin F [.tmp 6] [.int .i64 (-1)] rfl ⟨by kernel_rfl, trivial⟩ (.int .i64 (-1)) rfl ⟨rfl, S.below (i := 0) rfl⟩
set_option maxRecDepth 100000 in
set_option maxHeartbeats 4000000 in
theorem rworst_at (w : World) (As : Option Addr) (cs : Nat) (Ae : Option Addr) (ce : Nat) (x : Wb) (h : WebAt w As cs Ae ce x) (ok : x.Ok) (node : Int) {wa wb : Int} {wo : Bool} (hv : worstP x node = (wa, wb, wo)) : Calls Try.prog 50 #[.agg #[.slice As x.spots.length cs, .slice Ae x.edges.length ce], .int .i64 node] w fun e w' => e = .returned (.tuple #[.int .i64 wa, .int .i64 wb, .bool wo]) ∧ Below w.heap.size w w' := by
 refine enter 97 Try.func50 rfl rfl rfl fun a F => ?_
 have S := Sat.pushRest w
 refine s_reg ?_
 refine l_do F rfl rfl (op_box S _ _ (.agg #[.slice As x.spots.length cs, .slice Ae x.edges.length ce]) F rfl (by kernel_rfl) fun b1 z S a F => ?_)
 refine l_pure 3 (fun L => (6, .bool false) :: (5, .int .i64 0) :: (4, .int .i64 0) :: L) F (by kernel_rfl) fun a F => ?_
 refine l_then ?_
 refine s_reg ?_
 refine l_do F rfl rfl (op_loadK _ _ (some ⟨b1, 0, none⟩) 0 [.slice As x.spots.length cs, .slice Ae x.edges.length ce] F rfl (by kernel_rfl) (by kernel_rfl) (by kernel_rfl) (by simp) (cBoxK S 1 rfl 0 (by kernel_rfl)) (fun a F => ?_))
 refine l_pure 1 (fun L => (13, .int .i64 node) :: L) F (by kernel_rfl) fun a F => ?_
 refine l_do F rfl rfl (op_fn F (by kernel_rfl) (rsteps_any _ As cs Ae ce x (h.move S rfl) ok node) ?_)
 rintro e z ⟨A2, c3, rfl, g⟩
 have S := S.pushThings g
 refine ⟨_, rfl, ?_⟩
 intro a F
 refine l_pure 1 (fun L => (7, .slice A2 ((stepsP x node).length) c3) :: L) F (by kernel_rfl) fun a F => ?_
 refine l_then ?_
 refine wp_seq ?_
 refine s_reg ?_
 refine l_pure 2 (fun L => (16, .int .i64 ((stepsP x node).length : Nat)) :: (15, .slice A2 ((stepsP x node).length) c3) :: L) F (by kernel_rfl) fun a F => ?_
 by_cases ht4 : (((stepsP x node).length : Nat) : Int) < (2 : Int)
 ·
  skip
  have h9 := hv.symm.trans (worst_few (by omega))
  simp only [Prod.mk.injEq] at h9
  obtain ⟨rfl, rfl, rfl⟩ := h9
  refine l_do F rfl rfl (op_pure F (v0 := .bool (decide ((((stepsP x node).length : Nat) : Int) < (2 : Int)))) (v := .bool true) (by kernel_rfl) (lssT ht4) fun a F => ?_)
  refine l_then ?_
  refine c_t F rfl ?_
  refine s_reg ?_
  refine l_pure 3 (fun L => (6, .bool false) :: (5, .int .i64 0) :: (4, .int .i64 0) :: L) F (by kernel_rfl) fun a F => ?_
  refine l_then ?_
  refine wp_ret ?_
  refine then_r (?_)
  exact fin F [.tmp 4, .tmp 5, .tmp 6] [.int .i64 0, .int .i64 0, .bool false] rfl ⟨by kernel_rfl, by kernel_rfl, by kernel_rfl, trivial⟩ (.tuple #[.int .i64 0, .int .i64 0, .bool false]) rfl ⟨rfl, S.below (i := 0) rfl⟩
 ·
  skip
  have hl9 : ¬ (stepsP x node).length < 2 := by omega
  have hfew := steps_few x node
  refine l_do F rfl rfl (op_pure F (v0 := .bool (decide ((((stepsP x node).length : Nat) : Int) < (2 : Int)))) (v := .bool false) (by kernel_rfl) (lssF ht4) fun a F => ?_)
  refine l_then ?_
  refine c_f F rfl ?_
  refine wp_skip ?_
  refine then_n ?_
  refine s_reg ?_
  refine l_pure 2 (fun L => (9, .int .i64 0) :: (8, .int .i64 0) :: L) F (by kernel_rfl) fun a F => ?_
  refine l_then ?_
  refine wp_seq ?_
  refine s_reg ?_
  refine l_pure 1 (fun L => (10, .int .i64 1) :: L) F (by kernel_rfl) fun a F => ?_
  refine l_then ?_
  refine wp_block ?_
  refine wp_loop_m (fun m a z => ∃ (k : Nat) (ja : Nat) (jb : Nat), m = (stepsP x node).length - k ∧ (k + 1 ≤ (stepsP x node).length) ∧ (ja ≤ k) ∧ (jb ≤ k) ∧ (ja = maxIx (atI x node) k) ∧ (jb = minIx (atI x node) k) ∧ Fr a 97 [(1, .int .i64 node), (2, .pointer (some ⟨b1, 0, none⟩)), (7, .slice A2 ((stepsP x node).length) c3), (8, .int .i64 (ja : Nat)), (9, .int .i64 (jb : Nat)), (10, .int .i64 (k + 1 : Nat))] ∧ Sat w z [rest w (· < w.heap.size), box b1 25 [.slice As x.spots.length cs, .slice Ae x.edges.length ce], row 126 5 (.slice A2 ((stepsP x node).length) c3) ((stepsP x node).length) ((stepsP x node).flatMap stC)]) _ ⟨0, 0, 0, rfl, (by omega), (by omega), (by omega), rfl, rfl, F.sub ⟨by kernel_rfl, by kernel_rfl, by kernel_rfl, by kernel_rfl, by kernel_rfl, by kernel_rfl, trivial⟩, S⟩ ?_
  rintro m a z ⟨k, ja, jb, hm, hf5, hf6, hf7, hf8, hf9, F, S⟩
  have hja := hf8
  have hjb := hf9
  obtain ⟨ka, toa, caa, baa, raa, ea, sa, hqa, hea, hsa, hsa2, hva⟩ := step_at (x := x) (node := node) (i := ja) (by omega)
  obtain ⟨kb, tob, cab, bab, rab, eb, sb, hqb, heb, hsb, hsb2, hvb⟩ := step_at (x := x) (node := node) (i := jb) (by omega)
  refine wp_seq ?_
  refine s_reg ?_
  refine l_pure 3 (fun L => (20, .int .i64 ((stepsP x node).length : Nat)) :: (19, .slice A2 ((stepsP x node).length) c3) :: (18, .int .i64 (k + 1 : Nat)) :: L) F (by kernel_rfl) fun a F => ?_
  by_cases ht10 : ((k + 1 : Nat) : Int) < (((stepsP x node).length : Nat) : Int)
  ·
   skip
   obtain ⟨ki, toi, cai, bai, rai, ei, si, hqi, hei, hsi, hsi2, hvi⟩ := step_at (x := x) (node := node) (i := k + 1) (by omega)
   refine l_do F rfl rfl (op_pure F (v0 := .bool (decide (((k + 1 : Nat) : Int) < (((stepsP x node).length : Nat) : Int)))) (v := .bool true) (by kernel_rfl) (lssT ht10) fun a F => ?_)
   refine l_then ?_
   refine c_t F rfl ?_
   refine wp_skip ?_
   refine then_n ?_
   refine wp_seq ?_
   refine wp_block ?_
   refine wp_seq ?_
   refine region_gx (fun D => fun (_ : Unit) => [rest w (· < w.heap.size), box b1 25 [.slice As x.spots.length cs, .slice Ae x.edges.length ce], row 126 5 (.slice A2 ((stepsP x node).length) c3) ((stepsP x node).length) ((stepsP x node).flatMap stC)]) (fun (_ : Unit) => [.pointer (some ⟨b1, 1, none⟩), .slice Ae x.edges.length ce, .slice A2 ((stepsP x node).length) c3, .int .i64 (k + 1 : Nat), ptrA A2 ((k + 1) * 5), ptrA A2 ((k + 1) * 5), .int .i64 (ki : Nat), ptrA Ae (ki * 8), .agg #[.int .i64 ei.a, .int .i64 ei.b, .int .u64 ei.c0, .int .u64 ei.c1, .int .u64 ei.b0, .int .u64 ei.r0, .int .u64 ei.b1, .int .u64 ei.r1], .agg #[.slice As x.spots.length cs, .slice Ae x.edges.length ce], .slice A2 ((stepsP x node).length) c3, .int .i64 (k + 1 : Nat), ptrA A2 ((k + 1) * 5), ptrA A2 ((k + 1) * 5), .int .i64 (ki : Nat), .int .i64 node, .int .i64 (si : Nat), .int .u64 (shareP ei si), .int .u64 (shareP ei si)]) [(1, [], [7, 8, 17]), (4, [], [5, 6, 7, 8, 17]), (5, [4], [6, 7, 8, 17]), (6, [4, 5], [7, 8, 17]), (7, [1, 4, 5, 6], [8, 17]), (8, [1, 4, 5, 6, 7], [17]), (9, [], [16, 17]), (12, [], [13, 14, 16, 17]), (13, [12], [14, 16, 17]), (14, [12, 13], [16, 17]), (16, [9, 12, 13, 14], [17]), (17, [1, 4, 5, 6, 7, 8, 9, 12, 13, 14, 16], [])] () rfl (by kernel_rfl) (by kernel_rfl) F S.drew ?_ ?_ ?_ ?_ ?_
   · rintro ⟨⟩; rfl
   · rintro ⟨⟩; kernel_rfl
   ·
    intro D D' x h
    cases x
    rfl
   ·
    refine ⟨?_, ?_⟩
    ·
     refine ⟨_, rfl, rfl, by kernel_rfl, ?_⟩
     rintro D ⟨⟩ a z S F
     refine ⟨by kernel_rfl, ?_⟩
     exact op_load _ _ (some ⟨b1, 0, none⟩) 1 (.slice Ae x.edges.length ce) F rfl (by kernel_rfl) (by kernel_rfl) (cBox S 1 rfl (j := 1) rfl) (⟨(), rfl, (SameB.refl _ _ rfl), S⟩)
    refine ⟨?_, ?_⟩
    ·
     refine ⟨_, rfl, rfl, by kernel_rfl, ?_⟩
     rintro D ⟨⟩ a z S F
     refine ⟨by kernel_rfl, ?_⟩
     exact op_index _ 126 _ _ A2 ((stepsP x node).length) c3 (k + 1) 5 .i64 F rfl (by kernel_rfl) (by kernel_rfl) (by kernel_rfl) (by kernel_rfl) (get_lt hqi) (row_some S 2 rfl (m := k + 1) (get_lt hqi)) (⟨(), rfl, (SameB.refl _ _ rfl), S⟩)
    refine ⟨?_, ?_⟩
    ·
     refine ⟨_, rfl, rfl, by kernel_rfl, ?_⟩
     rintro D ⟨⟩ a z S F
     refine ⟨by kernel_rfl, ?_⟩
     exact op_field _ _ _ A2 ((k + 1) * 5) 0 F rfl (by kernel_rfl) (by kernel_rfl) (row_some S 2 rfl (m := k + 1) (get_lt hqi)) (⟨(), rfl, (SameB.refl _ _ rfl), S⟩)
    refine ⟨?_, ?_⟩
    ·
     refine ⟨_, rfl, rfl, by kernel_rfl, ?_⟩
     rintro D ⟨⟩ a z S F
     refine ⟨by kernel_rfl, ?_⟩
     exact op_load _ _ A2 ((k + 1) * 5) (.int .i64 (ki : Nat)) F rfl (by kernel_rfl) (by kernel_rfl) (cRec S 2 stC_len rfl 0 hqi rfl) (⟨(), rfl, (SameB.refl _ _ rfl), S⟩)
    refine ⟨?_, ?_⟩
    ·
     refine ⟨_, rfl, rfl, by kernel_rfl, ?_⟩
     rintro D ⟨⟩ a z S F
     refine ⟨by kernel_rfl, ?_⟩
     exact op_index _ 104 _ _ Ae x.edges.length ce ki 8 .i64 F rfl (by kernel_rfl) (by kernel_rfl) (by kernel_rfl) (by kernel_rfl) (get_lt hei) (recs_some h.e (m := ki) (get_lt hei)) (⟨(), rfl, (SameB.refl _ _ rfl), S⟩)
    refine ⟨?_, ?_⟩
    ·
     refine ⟨_, rfl, rfl, by kernel_rfl, ?_⟩
     rintro D ⟨⟩ a z S F
     refine ⟨by kernel_rfl, ?_⟩
     exact op_loadK _ _ Ae (ki * 8) [.int .i64 ei.a, .int .i64 ei.b, .int .u64 ei.c0, .int .u64 ei.c1, .int .u64 ei.b0, .int .u64 ei.r0, .int .u64 ei.b1, .int .u64 ei.r1] F rfl (by kernel_rfl) (by kernel_rfl) (by kernel_rfl) (by simp) (cOldK0 S 0 edC_len h.e rfl hei (by kernel_rfl)) (⟨(), rfl, (SameB.refl _ _ rfl), S⟩)
    refine ⟨?_, ?_⟩
    ·
     refine ⟨_, rfl, rfl, by kernel_rfl, ?_⟩
     rintro D ⟨⟩ a z S F
     refine ⟨by kernel_rfl, ?_⟩
     exact op_loadK _ _ (some ⟨b1, 0, none⟩) 0 [.slice As x.spots.length cs, .slice Ae x.edges.length ce] F rfl (by kernel_rfl) (by kernel_rfl) (by kernel_rfl) (by simp) (cBoxK S 1 rfl 0 (by kernel_rfl)) (⟨(), rfl, (SameB.refl _ _ rfl), S⟩)
    refine ⟨?_, ?_⟩
    ·
     refine ⟨_, rfl, rfl, by kernel_rfl, ?_⟩
     rintro D ⟨⟩ a z S F
     refine ⟨by kernel_rfl, ?_⟩
     exact op_index _ 126 _ _ A2 ((stepsP x node).length) c3 (k + 1) 5 .i64 F rfl (by kernel_rfl) (by kernel_rfl) (by kernel_rfl) (by kernel_rfl) (get_lt hqi) (row_some S 2 rfl (m := k + 1) (get_lt hqi)) (⟨(), rfl, (SameB.refl _ _ rfl), S⟩)
    refine ⟨?_, ?_⟩
    ·
     refine ⟨_, rfl, rfl, by kernel_rfl, ?_⟩
     rintro D ⟨⟩ a z S F
     refine ⟨by kernel_rfl, ?_⟩
     exact op_field _ _ _ A2 ((k + 1) * 5) 0 F rfl (by kernel_rfl) (by kernel_rfl) (row_some S 2 rfl (m := k + 1) (get_lt hqi)) (⟨(), rfl, (SameB.refl _ _ rfl), S⟩)
    refine ⟨?_, ?_⟩
    ·
     refine ⟨_, rfl, rfl, by kernel_rfl, ?_⟩
     rintro D ⟨⟩ a z S F
     refine ⟨by kernel_rfl, ?_⟩
     exact op_load _ _ A2 ((k + 1) * 5) (.int .i64 (ki : Nat)) F rfl (by kernel_rfl) (by kernel_rfl) (cRec S 2 stC_len rfl 0 hqi rfl) (⟨(), rfl, (SameB.refl _ _ rfl), S⟩)
    refine ⟨?_, ?_⟩
    ·
     refine ⟨_, rfl, rfl, by kernel_rfl, ?_⟩
     rintro D ⟨⟩ a z S F
     refine ⟨by kernel_rfl, ?_⟩
     refine op_fn F (by kernel_rfl) (rside_w _ As cs Ae ce x (h.move S rfl) ok (ki : Nat) node ((sideAt_in hei node).trans hsi)) ?_
     rintro e z ⟨rfl, hb⟩
     have S := S.grow hb
     exact ⟨_, rfl, (), rfl, (SameB.refl _ _ rfl), S⟩
    refine ⟨?_, ?_⟩
    ·
     refine ⟨_, rfl, rfl, by kernel_rfl, ?_⟩
     rintro D ⟨⟩ a z S F
     refine ⟨by kernel_rfl, ?_⟩
     refine op_fn F (by kernel_rfl) (rshare_any _ ei (ok.e ei (List.mem_of_getElem? hei)) si hsi2) ?_
     rintro e z ⟨rfl, hb⟩
     have S := S.grow hb
     exact ⟨_, rfl, (), rfl, (SameB.refl _ _ rfl), S⟩
    trivial
   ·
    rintro ⟨⟩ a z F S
    have F := F.sub (l := [(1, .int .i64 node), (2, .pointer (some ⟨b1, 0, none⟩)), (7, .slice A2 ((stepsP x node).length) c3), (8, .int .i64 (ja : Nat)), (9, .int .i64 (jb : Nat)), (10, .int .i64 (k + 1 : Nat)), (11, .int .u64 (shareP ei si))]) ⟨by kernel_rfl, by kernel_rfl, by kernel_rfl, by kernel_rfl, by kernel_rfl, by kernel_rfl, by kernel_rfl, trivial⟩
    have S : Sat w z [rest w (· < w.heap.size), box b1 25 [.slice As x.spots.length cs, .slice Ae x.edges.length ce], row 126 5 (.slice A2 ((stepsP x node).length) c3) ((stepsP x node).length) ((stepsP x node).flatMap stC)] := S
    refine then_n ?_
    refine wp_seq ?_
    refine wp_seq ?_
    by_cases ht11 : (shareP ea sa : Int) < (shareP ei si : Int)
    ·
     skip
     refine region_gx (fun D => fun (_ : Unit) => [rest w (· < w.heap.size), box b1 25 [.slice As x.spots.length cs, .slice Ae x.edges.length ce], row 126 5 (.slice A2 ((stepsP x node).length) c3) ((stepsP x node).length) ((stepsP x node).flatMap stC)]) (fun (_ : Unit) => [.int .u64 (shareP ei si), .pointer (some ⟨b1, 1, none⟩), .slice Ae x.edges.length ce, .slice A2 ((stepsP x node).length) c3, .int .i64 (ja : Nat), ptrA A2 (ja * 5), ptrA A2 (ja * 5), .int .i64 (ka : Nat), ptrA Ae (ka * 8), .agg #[.int .i64 ea.a, .int .i64 ea.b, .int .u64 ea.c0, .int .u64 ea.c1, .int .u64 ea.b0, .int .u64 ea.r0, .int .u64 ea.b1, .int .u64 ea.r1], .agg #[.slice As x.spots.length cs, .slice Ae x.edges.length ce], .slice A2 ((stepsP x node).length) c3, .int .i64 (ja : Nat), ptrA A2 (ja * 5), ptrA A2 (ja * 5), .int .i64 (ka : Nat), .int .i64 node, .int .i64 (sa : Nat), .int .u64 (shareP ea sa), .bool true]) [(2, [], [8, 9, 18, 19]), (5, [], [6, 7, 8, 9, 18, 19]), (6, [5], [7, 8, 9, 18, 19]), (7, [5, 6], [8, 9, 18, 19]), (8, [2, 5, 6, 7], [9, 18, 19]), (9, [2, 5, 6, 7, 8], [18, 19]), (10, [], [17, 18, 19]), (13, [], [14, 15, 17, 18, 19]), (14, [13], [15, 17, 18, 19]), (15, [13, 14], [17, 18, 19]), (17, [10, 13, 14, 15], [18, 19]), (18, [2, 5, 6, 7, 8, 9, 10, 13, 14, 15, 17], [19]), (19, [2, 5, 6, 7, 8, 9, 10, 13, 14, 15, 17, 18], [])] () rfl (by kernel_rfl) (by kernel_rfl) F S.drew ?_ ?_ ?_ ?_ ?_
     · rintro ⟨⟩; rfl
     · rintro ⟨⟩; kernel_rfl
     ·
      intro D D' x h
      cases x
      rfl
     ·
      refine ⟨?_, ?_⟩
      ·
       refine ⟨_, rfl, rfl, by kernel_rfl, ?_⟩
       rintro D ⟨⟩ a z S F
       refine ⟨by kernel_rfl, ?_⟩
       exact op_load _ _ (some ⟨b1, 0, none⟩) 1 (.slice Ae x.edges.length ce) F rfl (by kernel_rfl) (by kernel_rfl) (cBox S 1 rfl (j := 1) rfl) (⟨(), rfl, (SameB.refl _ _ rfl), S⟩)
      refine ⟨?_, ?_⟩
      ·
       refine ⟨_, rfl, rfl, by kernel_rfl, ?_⟩
       rintro D ⟨⟩ a z S F
       refine ⟨by kernel_rfl, ?_⟩
       exact op_index _ 126 _ _ A2 ((stepsP x node).length) c3 ja 5 .i64 F rfl (by kernel_rfl) (by kernel_rfl) (by kernel_rfl) (by kernel_rfl) (get_lt hqa) (row_some S 2 rfl (m := ja) (get_lt hqa)) (⟨(), rfl, (SameB.refl _ _ rfl), S⟩)
      refine ⟨?_, ?_⟩
      ·
       refine ⟨_, rfl, rfl, by kernel_rfl, ?_⟩
       rintro D ⟨⟩ a z S F
       refine ⟨by kernel_rfl, ?_⟩
       exact op_field _ _ _ A2 (ja * 5) 0 F rfl (by kernel_rfl) (by kernel_rfl) (row_some S 2 rfl (m := ja) (get_lt hqa)) (⟨(), rfl, (SameB.refl _ _ rfl), S⟩)
      refine ⟨?_, ?_⟩
      ·
       refine ⟨_, rfl, rfl, by kernel_rfl, ?_⟩
       rintro D ⟨⟩ a z S F
       refine ⟨by kernel_rfl, ?_⟩
       exact op_load _ _ A2 (ja * 5) (.int .i64 (ka : Nat)) F rfl (by kernel_rfl) (by kernel_rfl) (cRec S 2 stC_len rfl 0 hqa rfl) (⟨(), rfl, (SameB.refl _ _ rfl), S⟩)
      refine ⟨?_, ?_⟩
      ·
       refine ⟨_, rfl, rfl, by kernel_rfl, ?_⟩
       rintro D ⟨⟩ a z S F
       refine ⟨by kernel_rfl, ?_⟩
       exact op_index _ 104 _ _ Ae x.edges.length ce ka 8 .i64 F rfl (by kernel_rfl) (by kernel_rfl) (by kernel_rfl) (by kernel_rfl) (get_lt hea) (recs_some h.e (m := ka) (get_lt hea)) (⟨(), rfl, (SameB.refl _ _ rfl), S⟩)
      refine ⟨?_, ?_⟩
      ·
       refine ⟨_, rfl, rfl, by kernel_rfl, ?_⟩
       rintro D ⟨⟩ a z S F
       refine ⟨by kernel_rfl, ?_⟩
       exact op_loadK _ _ Ae (ka * 8) [.int .i64 ea.a, .int .i64 ea.b, .int .u64 ea.c0, .int .u64 ea.c1, .int .u64 ea.b0, .int .u64 ea.r0, .int .u64 ea.b1, .int .u64 ea.r1] F rfl (by kernel_rfl) (by kernel_rfl) (by kernel_rfl) (by simp) (cOldK0 S 0 edC_len h.e rfl hea (by kernel_rfl)) (⟨(), rfl, (SameB.refl _ _ rfl), S⟩)
      refine ⟨?_, ?_⟩
      ·
       refine ⟨_, rfl, rfl, by kernel_rfl, ?_⟩
       rintro D ⟨⟩ a z S F
       refine ⟨by kernel_rfl, ?_⟩
       exact op_loadK _ _ (some ⟨b1, 0, none⟩) 0 [.slice As x.spots.length cs, .slice Ae x.edges.length ce] F rfl (by kernel_rfl) (by kernel_rfl) (by kernel_rfl) (by simp) (cBoxK S 1 rfl 0 (by kernel_rfl)) (⟨(), rfl, (SameB.refl _ _ rfl), S⟩)
      refine ⟨?_, ?_⟩
      ·
       refine ⟨_, rfl, rfl, by kernel_rfl, ?_⟩
       rintro D ⟨⟩ a z S F
       refine ⟨by kernel_rfl, ?_⟩
       exact op_index _ 126 _ _ A2 ((stepsP x node).length) c3 ja 5 .i64 F rfl (by kernel_rfl) (by kernel_rfl) (by kernel_rfl) (by kernel_rfl) (get_lt hqa) (row_some S 2 rfl (m := ja) (get_lt hqa)) (⟨(), rfl, (SameB.refl _ _ rfl), S⟩)
      refine ⟨?_, ?_⟩
      ·
       refine ⟨_, rfl, rfl, by kernel_rfl, ?_⟩
       rintro D ⟨⟩ a z S F
       refine ⟨by kernel_rfl, ?_⟩
       exact op_field _ _ _ A2 (ja * 5) 0 F rfl (by kernel_rfl) (by kernel_rfl) (row_some S 2 rfl (m := ja) (get_lt hqa)) (⟨(), rfl, (SameB.refl _ _ rfl), S⟩)
      refine ⟨?_, ?_⟩
      ·
       refine ⟨_, rfl, rfl, by kernel_rfl, ?_⟩
       rintro D ⟨⟩ a z S F
       refine ⟨by kernel_rfl, ?_⟩
       exact op_load _ _ A2 (ja * 5) (.int .i64 (ka : Nat)) F rfl (by kernel_rfl) (by kernel_rfl) (cRec S 2 stC_len rfl 0 hqa rfl) (⟨(), rfl, (SameB.refl _ _ rfl), S⟩)
      refine ⟨?_, ?_⟩
      ·
       refine ⟨_, rfl, rfl, by kernel_rfl, ?_⟩
       rintro D ⟨⟩ a z S F
       refine ⟨by kernel_rfl, ?_⟩
       refine op_fn F (by kernel_rfl) (rside_w _ As cs Ae ce x (h.move S rfl) ok (ka : Nat) node ((sideAt_in hea node).trans hsa)) ?_
       rintro e z ⟨rfl, hb⟩
       have S := S.grow hb
       exact ⟨_, rfl, (), rfl, (SameB.refl _ _ rfl), S⟩
      refine ⟨?_, ?_⟩
      ·
       refine ⟨_, rfl, rfl, by kernel_rfl, ?_⟩
       rintro D ⟨⟩ a z S F
       refine ⟨by kernel_rfl, ?_⟩
       refine op_fn F (by kernel_rfl) (rshare_any _ ea (ok.e ea (List.mem_of_getElem? hea)) sa hsa2) ?_
       rintro e z ⟨rfl, hb⟩
       have S := S.grow hb
       exact ⟨_, rfl, (), rfl, (SameB.refl _ _ rfl), S⟩
      refine ⟨?_, ?_⟩
      ·
       refine ⟨_, rfl, rfl, by kernel_rfl, ?_⟩
       rintro D ⟨⟩ a z S F
       refine ⟨by kernel_rfl, ?_⟩
       exact op_pure F (v0 := .bool (decide ((shareP ei si : Int) > (shareP ea sa : Int)))) (v := .bool true) (by kernel_rfl) (gtrT ht11) ⟨(), rfl, (SameB.refl _ _ rfl), S⟩
      trivial
     ·
      rintro ⟨⟩ a z F S
      have F := F.sub (l := [(1, .int .i64 node), (2, .pointer (some ⟨b1, 0, none⟩)), (7, .slice A2 ((stepsP x node).length) c3), (8, .int .i64 (ja : Nat)), (9, .int .i64 (jb : Nat)), (10, .int .i64 (k + 1 : Nat)), (11, .int .u64 (shareP ei si)), (61, .bool true)]) ⟨by kernel_rfl, by kernel_rfl, by kernel_rfl, by kernel_rfl, by kernel_rfl, by kernel_rfl, by kernel_rfl, by kernel_rfl, trivial⟩
      have S : Sat w z [rest w (· < w.heap.size), box b1 25 [.slice As x.spots.length cs, .slice Ae x.edges.length ce], row 126 5 (.slice A2 ((stepsP x node).length) c3) ((stepsP x node).length) ((stepsP x node).flatMap stC)] := S
      refine then_n ?_
      refine c_t F rfl ?_
      refine wp_region_list ?_
      refine l_pure 2 (fun L => (8, .int .i64 (k + 1 : Nat)) :: (62, .int .i64 (k + 1 : Nat)) :: L) F (by kernel_rfl) fun a F => ?_
      refine l_then ?_
      refine wp_seq ?_
      by_cases ht12 : (shareP ei si : Int) < (shareP eb sb : Int)
      ·
       skip
       refine region_gx (fun D => fun (_ : Unit) => [rest w (· < w.heap.size), box b1 25 [.slice As x.spots.length cs, .slice Ae x.edges.length ce], row 126 5 (.slice A2 ((stepsP x node).length) c3) ((stepsP x node).length) ((stepsP x node).flatMap stC)]) (fun (_ : Unit) => [.int .u64 (shareP ei si), .pointer (some ⟨b1, 1, none⟩), .slice Ae x.edges.length ce, .slice A2 ((stepsP x node).length) c3, .int .i64 (jb : Nat), ptrA A2 (jb * 5), ptrA A2 (jb * 5), .int .i64 (kb : Nat), ptrA Ae (kb * 8), .agg #[.int .i64 eb.a, .int .i64 eb.b, .int .u64 eb.c0, .int .u64 eb.c1, .int .u64 eb.b0, .int .u64 eb.r0, .int .u64 eb.b1, .int .u64 eb.r1], .agg #[.slice As x.spots.length cs, .slice Ae x.edges.length ce], .slice A2 ((stepsP x node).length) c3, .int .i64 (jb : Nat), ptrA A2 (jb * 5), ptrA A2 (jb * 5), .int .i64 (kb : Nat), .int .i64 node, .int .i64 (sb : Nat), .int .u64 (shareP eb sb), .bool true]) [(2, [], [8, 9, 18, 19]), (5, [], [6, 7, 8, 9, 18, 19]), (6, [5], [7, 8, 9, 18, 19]), (7, [5, 6], [8, 9, 18, 19]), (8, [2, 5, 6, 7], [9, 18, 19]), (9, [2, 5, 6, 7, 8], [18, 19]), (10, [], [17, 18, 19]), (13, [], [14, 15, 17, 18, 19]), (14, [13], [15, 17, 18, 19]), (15, [13, 14], [17, 18, 19]), (17, [10, 13, 14, 15], [18, 19]), (18, [2, 5, 6, 7, 8, 9, 10, 13, 14, 15, 17], [19]), (19, [2, 5, 6, 7, 8, 9, 10, 13, 14, 15, 17, 18], [])] () rfl (by kernel_rfl) (by kernel_rfl) F S.drew ?_ ?_ ?_ ?_ ?_
       · rintro ⟨⟩; rfl
       · rintro ⟨⟩; kernel_rfl
       ·
        intro D D' x h
        cases x
        rfl
       ·
        refine ⟨?_, ?_⟩
        ·
         refine ⟨_, rfl, rfl, by kernel_rfl, ?_⟩
         rintro D ⟨⟩ a z S F
         refine ⟨by kernel_rfl, ?_⟩
         exact op_load _ _ (some ⟨b1, 0, none⟩) 1 (.slice Ae x.edges.length ce) F rfl (by kernel_rfl) (by kernel_rfl) (cBox S 1 rfl (j := 1) rfl) (⟨(), rfl, (SameB.refl _ _ rfl), S⟩)
        refine ⟨?_, ?_⟩
        ·
         refine ⟨_, rfl, rfl, by kernel_rfl, ?_⟩
         rintro D ⟨⟩ a z S F
         refine ⟨by kernel_rfl, ?_⟩
         exact op_index _ 126 _ _ A2 ((stepsP x node).length) c3 jb 5 .i64 F rfl (by kernel_rfl) (by kernel_rfl) (by kernel_rfl) (by kernel_rfl) (get_lt hqb) (row_some S 2 rfl (m := jb) (get_lt hqb)) (⟨(), rfl, (SameB.refl _ _ rfl), S⟩)
        refine ⟨?_, ?_⟩
        ·
         refine ⟨_, rfl, rfl, by kernel_rfl, ?_⟩
         rintro D ⟨⟩ a z S F
         refine ⟨by kernel_rfl, ?_⟩
         exact op_field _ _ _ A2 (jb * 5) 0 F rfl (by kernel_rfl) (by kernel_rfl) (row_some S 2 rfl (m := jb) (get_lt hqb)) (⟨(), rfl, (SameB.refl _ _ rfl), S⟩)
        refine ⟨?_, ?_⟩
        ·
         refine ⟨_, rfl, rfl, by kernel_rfl, ?_⟩
         rintro D ⟨⟩ a z S F
         refine ⟨by kernel_rfl, ?_⟩
         exact op_load _ _ A2 (jb * 5) (.int .i64 (kb : Nat)) F rfl (by kernel_rfl) (by kernel_rfl) (cRec S 2 stC_len rfl 0 hqb rfl) (⟨(), rfl, (SameB.refl _ _ rfl), S⟩)
        refine ⟨?_, ?_⟩
        ·
         refine ⟨_, rfl, rfl, by kernel_rfl, ?_⟩
         rintro D ⟨⟩ a z S F
         refine ⟨by kernel_rfl, ?_⟩
         exact op_index _ 104 _ _ Ae x.edges.length ce kb 8 .i64 F rfl (by kernel_rfl) (by kernel_rfl) (by kernel_rfl) (by kernel_rfl) (get_lt heb) (recs_some h.e (m := kb) (get_lt heb)) (⟨(), rfl, (SameB.refl _ _ rfl), S⟩)
        refine ⟨?_, ?_⟩
        ·
         refine ⟨_, rfl, rfl, by kernel_rfl, ?_⟩
         rintro D ⟨⟩ a z S F
         refine ⟨by kernel_rfl, ?_⟩
         exact op_loadK _ _ Ae (kb * 8) [.int .i64 eb.a, .int .i64 eb.b, .int .u64 eb.c0, .int .u64 eb.c1, .int .u64 eb.b0, .int .u64 eb.r0, .int .u64 eb.b1, .int .u64 eb.r1] F rfl (by kernel_rfl) (by kernel_rfl) (by kernel_rfl) (by simp) (cOldK0 S 0 edC_len h.e rfl heb (by kernel_rfl)) (⟨(), rfl, (SameB.refl _ _ rfl), S⟩)
        refine ⟨?_, ?_⟩
        ·
         refine ⟨_, rfl, rfl, by kernel_rfl, ?_⟩
         rintro D ⟨⟩ a z S F
         refine ⟨by kernel_rfl, ?_⟩
         exact op_loadK _ _ (some ⟨b1, 0, none⟩) 0 [.slice As x.spots.length cs, .slice Ae x.edges.length ce] F rfl (by kernel_rfl) (by kernel_rfl) (by kernel_rfl) (by simp) (cBoxK S 1 rfl 0 (by kernel_rfl)) (⟨(), rfl, (SameB.refl _ _ rfl), S⟩)
        refine ⟨?_, ?_⟩
        ·
         refine ⟨_, rfl, rfl, by kernel_rfl, ?_⟩
         rintro D ⟨⟩ a z S F
         refine ⟨by kernel_rfl, ?_⟩
         exact op_index _ 126 _ _ A2 ((stepsP x node).length) c3 jb 5 .i64 F rfl (by kernel_rfl) (by kernel_rfl) (by kernel_rfl) (by kernel_rfl) (get_lt hqb) (row_some S 2 rfl (m := jb) (get_lt hqb)) (⟨(), rfl, (SameB.refl _ _ rfl), S⟩)
        refine ⟨?_, ?_⟩
        ·
         refine ⟨_, rfl, rfl, by kernel_rfl, ?_⟩
         rintro D ⟨⟩ a z S F
         refine ⟨by kernel_rfl, ?_⟩
         exact op_field _ _ _ A2 (jb * 5) 0 F rfl (by kernel_rfl) (by kernel_rfl) (row_some S 2 rfl (m := jb) (get_lt hqb)) (⟨(), rfl, (SameB.refl _ _ rfl), S⟩)
        refine ⟨?_, ?_⟩
        ·
         refine ⟨_, rfl, rfl, by kernel_rfl, ?_⟩
         rintro D ⟨⟩ a z S F
         refine ⟨by kernel_rfl, ?_⟩
         exact op_load _ _ A2 (jb * 5) (.int .i64 (kb : Nat)) F rfl (by kernel_rfl) (by kernel_rfl) (cRec S 2 stC_len rfl 0 hqb rfl) (⟨(), rfl, (SameB.refl _ _ rfl), S⟩)
        refine ⟨?_, ?_⟩
        ·
         refine ⟨_, rfl, rfl, by kernel_rfl, ?_⟩
         rintro D ⟨⟩ a z S F
         refine ⟨by kernel_rfl, ?_⟩
         refine op_fn F (by kernel_rfl) (rside_w _ As cs Ae ce x (h.move S rfl) ok (kb : Nat) node ((sideAt_in heb node).trans hsb)) ?_
         rintro e z ⟨rfl, hb⟩
         have S := S.grow hb
         exact ⟨_, rfl, (), rfl, (SameB.refl _ _ rfl), S⟩
        refine ⟨?_, ?_⟩
        ·
         refine ⟨_, rfl, rfl, by kernel_rfl, ?_⟩
         rintro D ⟨⟩ a z S F
         refine ⟨by kernel_rfl, ?_⟩
         refine op_fn F (by kernel_rfl) (rshare_any _ eb (ok.e eb (List.mem_of_getElem? heb)) sb hsb2) ?_
         rintro e z ⟨rfl, hb⟩
         have S := S.grow hb
         exact ⟨_, rfl, (), rfl, (SameB.refl _ _ rfl), S⟩
        refine ⟨?_, ?_⟩
        ·
         refine ⟨_, rfl, rfl, by kernel_rfl, ?_⟩
         rintro D ⟨⟩ a z S F
         refine ⟨by kernel_rfl, ?_⟩
         exact op_pure F (v0 := .bool (decide ((shareP ei si : Int) < (shareP eb sb : Int)))) (v := .bool true) (by kernel_rfl) (lssT ht12) ⟨(), rfl, (SameB.refl _ _ rfl), S⟩
        trivial
       ·
        rintro ⟨⟩ a z F S
        have F := F.sub (l := [(1, .int .i64 node), (2, .pointer (some ⟨b1, 0, none⟩)), (7, .slice A2 ((stepsP x node).length) c3), (8, .int .i64 (k + 1 : Nat)), (9, .int .i64 (jb : Nat)), (10, .int .i64 (k + 1 : Nat)), (82, .bool true)]) ⟨by kernel_rfl, by kernel_rfl, by kernel_rfl, by kernel_rfl, by kernel_rfl, by kernel_rfl, by kernel_rfl, trivial⟩
        have S : Sat w z [rest w (· < w.heap.size), box b1 25 [.slice As x.spots.length cs, .slice Ae x.edges.length ce], row 126 5 (.slice A2 ((stepsP x node).length) c3) ((stepsP x node).length) ((stepsP x node).flatMap stC)] := S
        refine then_n ?_
        refine c_t F rfl ?_
        refine wp_region_list ?_
        refine l_pure 2 (fun L => (9, .int .i64 (k + 1 : Nat)) :: (83, .int .i64 (k + 1 : Nat)) :: L) F (by kernel_rfl) fun a F => ?_
        refine l_nil (inb_n ?_)
        refine then_n ?_
        refine wp_region_list ?_
        refine l_pure 1 (fun L => (22, .int .i64 (k + 1 : Nat)) :: L) F (by kernel_rfl) fun a F => ?_
        refine l_do F rfl rfl (op_pure F (v0 := .int .i64 (IntKind.wrap .i64 ((k + 1 : Nat) + 1))) (v := .int .i64 (k + 1 + 1 : Nat)) (by kernel_rfl) (wrn_i64 (by omega) (by omega) (by omega)) fun a F => ?_)
        refine l_pure 1 (fun L => (10, .int .i64 (k + 1 + 1 : Nat)) :: L) F (by kernel_rfl) fun a F => ?_
        refine l_then ?_
        exact ⟨_, (by omega), k + 1, k + 1, k + 1, rfl, (by omega), (by omega), (by omega), ((max_step hja).1 (by rw [hvi, hva]; exact ht11)), ((min_step hjb).1 (by rw [hvi, hvb]; exact ht12)), F.sub ⟨by kernel_rfl, by kernel_rfl, by kernel_rfl, by kernel_rfl, by kernel_rfl, by kernel_rfl, trivial⟩, S⟩
      ·
       skip
       refine region_gx (fun D => fun (_ : Unit) => [rest w (· < w.heap.size), box b1 25 [.slice As x.spots.length cs, .slice Ae x.edges.length ce], row 126 5 (.slice A2 ((stepsP x node).length) c3) ((stepsP x node).length) ((stepsP x node).flatMap stC)]) (fun (_ : Unit) => [.int .u64 (shareP ei si), .pointer (some ⟨b1, 1, none⟩), .slice Ae x.edges.length ce, .slice A2 ((stepsP x node).length) c3, .int .i64 (jb : Nat), ptrA A2 (jb * 5), ptrA A2 (jb * 5), .int .i64 (kb : Nat), ptrA Ae (kb * 8), .agg #[.int .i64 eb.a, .int .i64 eb.b, .int .u64 eb.c0, .int .u64 eb.c1, .int .u64 eb.b0, .int .u64 eb.r0, .int .u64 eb.b1, .int .u64 eb.r1], .agg #[.slice As x.spots.length cs, .slice Ae x.edges.length ce], .slice A2 ((stepsP x node).length) c3, .int .i64 (jb : Nat), ptrA A2 (jb * 5), ptrA A2 (jb * 5), .int .i64 (kb : Nat), .int .i64 node, .int .i64 (sb : Nat), .int .u64 (shareP eb sb), .bool false]) [(2, [], [8, 9, 18, 19]), (5, [], [6, 7, 8, 9, 18, 19]), (6, [5], [7, 8, 9, 18, 19]), (7, [5, 6], [8, 9, 18, 19]), (8, [2, 5, 6, 7], [9, 18, 19]), (9, [2, 5, 6, 7, 8], [18, 19]), (10, [], [17, 18, 19]), (13, [], [14, 15, 17, 18, 19]), (14, [13], [15, 17, 18, 19]), (15, [13, 14], [17, 18, 19]), (17, [10, 13, 14, 15], [18, 19]), (18, [2, 5, 6, 7, 8, 9, 10, 13, 14, 15, 17], [19]), (19, [2, 5, 6, 7, 8, 9, 10, 13, 14, 15, 17, 18], [])] () rfl (by kernel_rfl) (by kernel_rfl) F S.drew ?_ ?_ ?_ ?_ ?_
       · rintro ⟨⟩; rfl
       · rintro ⟨⟩; kernel_rfl
       ·
        intro D D' x h
        cases x
        rfl
       ·
        refine ⟨?_, ?_⟩
        ·
         refine ⟨_, rfl, rfl, by kernel_rfl, ?_⟩
         rintro D ⟨⟩ a z S F
         refine ⟨by kernel_rfl, ?_⟩
         exact op_load _ _ (some ⟨b1, 0, none⟩) 1 (.slice Ae x.edges.length ce) F rfl (by kernel_rfl) (by kernel_rfl) (cBox S 1 rfl (j := 1) rfl) (⟨(), rfl, (SameB.refl _ _ rfl), S⟩)
        refine ⟨?_, ?_⟩
        ·
         refine ⟨_, rfl, rfl, by kernel_rfl, ?_⟩
         rintro D ⟨⟩ a z S F
         refine ⟨by kernel_rfl, ?_⟩
         exact op_index _ 126 _ _ A2 ((stepsP x node).length) c3 jb 5 .i64 F rfl (by kernel_rfl) (by kernel_rfl) (by kernel_rfl) (by kernel_rfl) (get_lt hqb) (row_some S 2 rfl (m := jb) (get_lt hqb)) (⟨(), rfl, (SameB.refl _ _ rfl), S⟩)
        refine ⟨?_, ?_⟩
        ·
         refine ⟨_, rfl, rfl, by kernel_rfl, ?_⟩
         rintro D ⟨⟩ a z S F
         refine ⟨by kernel_rfl, ?_⟩
         exact op_field _ _ _ A2 (jb * 5) 0 F rfl (by kernel_rfl) (by kernel_rfl) (row_some S 2 rfl (m := jb) (get_lt hqb)) (⟨(), rfl, (SameB.refl _ _ rfl), S⟩)
        refine ⟨?_, ?_⟩
        ·
         refine ⟨_, rfl, rfl, by kernel_rfl, ?_⟩
         rintro D ⟨⟩ a z S F
         refine ⟨by kernel_rfl, ?_⟩
         exact op_load _ _ A2 (jb * 5) (.int .i64 (kb : Nat)) F rfl (by kernel_rfl) (by kernel_rfl) (cRec S 2 stC_len rfl 0 hqb rfl) (⟨(), rfl, (SameB.refl _ _ rfl), S⟩)
        refine ⟨?_, ?_⟩
        ·
         refine ⟨_, rfl, rfl, by kernel_rfl, ?_⟩
         rintro D ⟨⟩ a z S F
         refine ⟨by kernel_rfl, ?_⟩
         exact op_index _ 104 _ _ Ae x.edges.length ce kb 8 .i64 F rfl (by kernel_rfl) (by kernel_rfl) (by kernel_rfl) (by kernel_rfl) (get_lt heb) (recs_some h.e (m := kb) (get_lt heb)) (⟨(), rfl, (SameB.refl _ _ rfl), S⟩)
        refine ⟨?_, ?_⟩
        ·
         refine ⟨_, rfl, rfl, by kernel_rfl, ?_⟩
         rintro D ⟨⟩ a z S F
         refine ⟨by kernel_rfl, ?_⟩
         exact op_loadK _ _ Ae (kb * 8) [.int .i64 eb.a, .int .i64 eb.b, .int .u64 eb.c0, .int .u64 eb.c1, .int .u64 eb.b0, .int .u64 eb.r0, .int .u64 eb.b1, .int .u64 eb.r1] F rfl (by kernel_rfl) (by kernel_rfl) (by kernel_rfl) (by simp) (cOldK0 S 0 edC_len h.e rfl heb (by kernel_rfl)) (⟨(), rfl, (SameB.refl _ _ rfl), S⟩)
        refine ⟨?_, ?_⟩
        ·
         refine ⟨_, rfl, rfl, by kernel_rfl, ?_⟩
         rintro D ⟨⟩ a z S F
         refine ⟨by kernel_rfl, ?_⟩
         exact op_loadK _ _ (some ⟨b1, 0, none⟩) 0 [.slice As x.spots.length cs, .slice Ae x.edges.length ce] F rfl (by kernel_rfl) (by kernel_rfl) (by kernel_rfl) (by simp) (cBoxK S 1 rfl 0 (by kernel_rfl)) (⟨(), rfl, (SameB.refl _ _ rfl), S⟩)
        refine ⟨?_, ?_⟩
        ·
         refine ⟨_, rfl, rfl, by kernel_rfl, ?_⟩
         rintro D ⟨⟩ a z S F
         refine ⟨by kernel_rfl, ?_⟩
         exact op_index _ 126 _ _ A2 ((stepsP x node).length) c3 jb 5 .i64 F rfl (by kernel_rfl) (by kernel_rfl) (by kernel_rfl) (by kernel_rfl) (get_lt hqb) (row_some S 2 rfl (m := jb) (get_lt hqb)) (⟨(), rfl, (SameB.refl _ _ rfl), S⟩)
        refine ⟨?_, ?_⟩
        ·
         refine ⟨_, rfl, rfl, by kernel_rfl, ?_⟩
         rintro D ⟨⟩ a z S F
         refine ⟨by kernel_rfl, ?_⟩
         exact op_field _ _ _ A2 (jb * 5) 0 F rfl (by kernel_rfl) (by kernel_rfl) (row_some S 2 rfl (m := jb) (get_lt hqb)) (⟨(), rfl, (SameB.refl _ _ rfl), S⟩)
        refine ⟨?_, ?_⟩
        ·
         refine ⟨_, rfl, rfl, by kernel_rfl, ?_⟩
         rintro D ⟨⟩ a z S F
         refine ⟨by kernel_rfl, ?_⟩
         exact op_load _ _ A2 (jb * 5) (.int .i64 (kb : Nat)) F rfl (by kernel_rfl) (by kernel_rfl) (cRec S 2 stC_len rfl 0 hqb rfl) (⟨(), rfl, (SameB.refl _ _ rfl), S⟩)
        refine ⟨?_, ?_⟩
        ·
         refine ⟨_, rfl, rfl, by kernel_rfl, ?_⟩
         rintro D ⟨⟩ a z S F
         refine ⟨by kernel_rfl, ?_⟩
         refine op_fn F (by kernel_rfl) (rside_w _ As cs Ae ce x (h.move S rfl) ok (kb : Nat) node ((sideAt_in heb node).trans hsb)) ?_
         rintro e z ⟨rfl, hb⟩
         have S := S.grow hb
         exact ⟨_, rfl, (), rfl, (SameB.refl _ _ rfl), S⟩
        refine ⟨?_, ?_⟩
        ·
         refine ⟨_, rfl, rfl, by kernel_rfl, ?_⟩
         rintro D ⟨⟩ a z S F
         refine ⟨by kernel_rfl, ?_⟩
         refine op_fn F (by kernel_rfl) (rshare_any _ eb (ok.e eb (List.mem_of_getElem? heb)) sb hsb2) ?_
         rintro e z ⟨rfl, hb⟩
         have S := S.grow hb
         exact ⟨_, rfl, (), rfl, (SameB.refl _ _ rfl), S⟩
        refine ⟨?_, ?_⟩
        ·
         refine ⟨_, rfl, rfl, by kernel_rfl, ?_⟩
         rintro D ⟨⟩ a z S F
         refine ⟨by kernel_rfl, ?_⟩
         exact op_pure F (v0 := .bool (decide ((shareP ei si : Int) < (shareP eb sb : Int)))) (v := .bool false) (by kernel_rfl) (lssF ht12) ⟨(), rfl, (SameB.refl _ _ rfl), S⟩
        trivial
       ·
        rintro ⟨⟩ a z F S
        have F := F.sub (l := [(1, .int .i64 node), (2, .pointer (some ⟨b1, 0, none⟩)), (7, .slice A2 ((stepsP x node).length) c3), (8, .int .i64 (k + 1 : Nat)), (9, .int .i64 (jb : Nat)), (10, .int .i64 (k + 1 : Nat)), (82, .bool false)]) ⟨by kernel_rfl, by kernel_rfl, by kernel_rfl, by kernel_rfl, by kernel_rfl, by kernel_rfl, by kernel_rfl, trivial⟩
        have S : Sat w z [rest w (· < w.heap.size), box b1 25 [.slice As x.spots.length cs, .slice Ae x.edges.length ce], row 126 5 (.slice A2 ((stepsP x node).length) c3) ((stepsP x node).length) ((stepsP x node).flatMap stC)] := S
        refine then_n ?_
        refine c_f F rfl ?_
        refine wp_skip ?_
        refine inb_n ?_
        refine then_n ?_
        refine wp_region_list ?_
        refine l_pure 1 (fun L => (22, .int .i64 (k + 1 : Nat)) :: L) F (by kernel_rfl) fun a F => ?_
        refine l_do F rfl rfl (op_pure F (v0 := .int .i64 (IntKind.wrap .i64 ((k + 1 : Nat) + 1))) (v := .int .i64 (k + 1 + 1 : Nat)) (by kernel_rfl) (wrn_i64 (by omega) (by omega) (by omega)) fun a F => ?_)
        refine l_pure 1 (fun L => (10, .int .i64 (k + 1 + 1 : Nat)) :: L) F (by kernel_rfl) fun a F => ?_
        refine l_then ?_
        exact ⟨_, (by omega), k + 1, k + 1, jb, rfl, (by omega), (by omega), (by omega), ((max_step hja).1 (by rw [hvi, hva]; exact ht11)), ((min_step hjb).2 (by rw [hvi, hvb]; exact ht12)), F.sub ⟨by kernel_rfl, by kernel_rfl, by kernel_rfl, by kernel_rfl, by kernel_rfl, by kernel_rfl, trivial⟩, S⟩
    ·
     skip
     refine region_gx (fun D => fun (_ : Unit) => [rest w (· < w.heap.size), box b1 25 [.slice As x.spots.length cs, .slice Ae x.edges.length ce], row 126 5 (.slice A2 ((stepsP x node).length) c3) ((stepsP x node).length) ((stepsP x node).flatMap stC)]) (fun (_ : Unit) => [.int .u64 (shareP ei si), .pointer (some ⟨b1, 1, none⟩), .slice Ae x.edges.length ce, .slice A2 ((stepsP x node).length) c3, .int .i64 (ja : Nat), ptrA A2 (ja * 5), ptrA A2 (ja * 5), .int .i64 (ka : Nat), ptrA Ae (ka * 8), .agg #[.int .i64 ea.a, .int .i64 ea.b, .int .u64 ea.c0, .int .u64 ea.c1, .int .u64 ea.b0, .int .u64 ea.r0, .int .u64 ea.b1, .int .u64 ea.r1], .agg #[.slice As x.spots.length cs, .slice Ae x.edges.length ce], .slice A2 ((stepsP x node).length) c3, .int .i64 (ja : Nat), ptrA A2 (ja * 5), ptrA A2 (ja * 5), .int .i64 (ka : Nat), .int .i64 node, .int .i64 (sa : Nat), .int .u64 (shareP ea sa), .bool false]) [(2, [], [8, 9, 18, 19]), (5, [], [6, 7, 8, 9, 18, 19]), (6, [5], [7, 8, 9, 18, 19]), (7, [5, 6], [8, 9, 18, 19]), (8, [2, 5, 6, 7], [9, 18, 19]), (9, [2, 5, 6, 7, 8], [18, 19]), (10, [], [17, 18, 19]), (13, [], [14, 15, 17, 18, 19]), (14, [13], [15, 17, 18, 19]), (15, [13, 14], [17, 18, 19]), (17, [10, 13, 14, 15], [18, 19]), (18, [2, 5, 6, 7, 8, 9, 10, 13, 14, 15, 17], [19]), (19, [2, 5, 6, 7, 8, 9, 10, 13, 14, 15, 17, 18], [])] () rfl (by kernel_rfl) (by kernel_rfl) F S.drew ?_ ?_ ?_ ?_ ?_
     · rintro ⟨⟩; rfl
     · rintro ⟨⟩; kernel_rfl
     ·
      intro D D' x h
      cases x
      rfl
     ·
      refine ⟨?_, ?_⟩
      ·
       refine ⟨_, rfl, rfl, by kernel_rfl, ?_⟩
       rintro D ⟨⟩ a z S F
       refine ⟨by kernel_rfl, ?_⟩
       exact op_load _ _ (some ⟨b1, 0, none⟩) 1 (.slice Ae x.edges.length ce) F rfl (by kernel_rfl) (by kernel_rfl) (cBox S 1 rfl (j := 1) rfl) (⟨(), rfl, (SameB.refl _ _ rfl), S⟩)
      refine ⟨?_, ?_⟩
      ·
       refine ⟨_, rfl, rfl, by kernel_rfl, ?_⟩
       rintro D ⟨⟩ a z S F
       refine ⟨by kernel_rfl, ?_⟩
       exact op_index _ 126 _ _ A2 ((stepsP x node).length) c3 ja 5 .i64 F rfl (by kernel_rfl) (by kernel_rfl) (by kernel_rfl) (by kernel_rfl) (get_lt hqa) (row_some S 2 rfl (m := ja) (get_lt hqa)) (⟨(), rfl, (SameB.refl _ _ rfl), S⟩)
      refine ⟨?_, ?_⟩
      ·
       refine ⟨_, rfl, rfl, by kernel_rfl, ?_⟩
       rintro D ⟨⟩ a z S F
       refine ⟨by kernel_rfl, ?_⟩
       exact op_field _ _ _ A2 (ja * 5) 0 F rfl (by kernel_rfl) (by kernel_rfl) (row_some S 2 rfl (m := ja) (get_lt hqa)) (⟨(), rfl, (SameB.refl _ _ rfl), S⟩)
      refine ⟨?_, ?_⟩
      ·
       refine ⟨_, rfl, rfl, by kernel_rfl, ?_⟩
       rintro D ⟨⟩ a z S F
       refine ⟨by kernel_rfl, ?_⟩
       exact op_load _ _ A2 (ja * 5) (.int .i64 (ka : Nat)) F rfl (by kernel_rfl) (by kernel_rfl) (cRec S 2 stC_len rfl 0 hqa rfl) (⟨(), rfl, (SameB.refl _ _ rfl), S⟩)
      refine ⟨?_, ?_⟩
      ·
       refine ⟨_, rfl, rfl, by kernel_rfl, ?_⟩
       rintro D ⟨⟩ a z S F
       refine ⟨by kernel_rfl, ?_⟩
       exact op_index _ 104 _ _ Ae x.edges.length ce ka 8 .i64 F rfl (by kernel_rfl) (by kernel_rfl) (by kernel_rfl) (by kernel_rfl) (get_lt hea) (recs_some h.e (m := ka) (get_lt hea)) (⟨(), rfl, (SameB.refl _ _ rfl), S⟩)
      refine ⟨?_, ?_⟩
      ·
       refine ⟨_, rfl, rfl, by kernel_rfl, ?_⟩
       rintro D ⟨⟩ a z S F
       refine ⟨by kernel_rfl, ?_⟩
       exact op_loadK _ _ Ae (ka * 8) [.int .i64 ea.a, .int .i64 ea.b, .int .u64 ea.c0, .int .u64 ea.c1, .int .u64 ea.b0, .int .u64 ea.r0, .int .u64 ea.b1, .int .u64 ea.r1] F rfl (by kernel_rfl) (by kernel_rfl) (by kernel_rfl) (by simp) (cOldK0 S 0 edC_len h.e rfl hea (by kernel_rfl)) (⟨(), rfl, (SameB.refl _ _ rfl), S⟩)
      refine ⟨?_, ?_⟩
      ·
       refine ⟨_, rfl, rfl, by kernel_rfl, ?_⟩
       rintro D ⟨⟩ a z S F
       refine ⟨by kernel_rfl, ?_⟩
       exact op_loadK _ _ (some ⟨b1, 0, none⟩) 0 [.slice As x.spots.length cs, .slice Ae x.edges.length ce] F rfl (by kernel_rfl) (by kernel_rfl) (by kernel_rfl) (by simp) (cBoxK S 1 rfl 0 (by kernel_rfl)) (⟨(), rfl, (SameB.refl _ _ rfl), S⟩)
      refine ⟨?_, ?_⟩
      ·
       refine ⟨_, rfl, rfl, by kernel_rfl, ?_⟩
       rintro D ⟨⟩ a z S F
       refine ⟨by kernel_rfl, ?_⟩
       exact op_index _ 126 _ _ A2 ((stepsP x node).length) c3 ja 5 .i64 F rfl (by kernel_rfl) (by kernel_rfl) (by kernel_rfl) (by kernel_rfl) (get_lt hqa) (row_some S 2 rfl (m := ja) (get_lt hqa)) (⟨(), rfl, (SameB.refl _ _ rfl), S⟩)
      refine ⟨?_, ?_⟩
      ·
       refine ⟨_, rfl, rfl, by kernel_rfl, ?_⟩
       rintro D ⟨⟩ a z S F
       refine ⟨by kernel_rfl, ?_⟩
       exact op_field _ _ _ A2 (ja * 5) 0 F rfl (by kernel_rfl) (by kernel_rfl) (row_some S 2 rfl (m := ja) (get_lt hqa)) (⟨(), rfl, (SameB.refl _ _ rfl), S⟩)
      refine ⟨?_, ?_⟩
      ·
       refine ⟨_, rfl, rfl, by kernel_rfl, ?_⟩
       rintro D ⟨⟩ a z S F
       refine ⟨by kernel_rfl, ?_⟩
       exact op_load _ _ A2 (ja * 5) (.int .i64 (ka : Nat)) F rfl (by kernel_rfl) (by kernel_rfl) (cRec S 2 stC_len rfl 0 hqa rfl) (⟨(), rfl, (SameB.refl _ _ rfl), S⟩)
      refine ⟨?_, ?_⟩
      ·
       refine ⟨_, rfl, rfl, by kernel_rfl, ?_⟩
       rintro D ⟨⟩ a z S F
       refine ⟨by kernel_rfl, ?_⟩
       refine op_fn F (by kernel_rfl) (rside_w _ As cs Ae ce x (h.move S rfl) ok (ka : Nat) node ((sideAt_in hea node).trans hsa)) ?_
       rintro e z ⟨rfl, hb⟩
       have S := S.grow hb
       exact ⟨_, rfl, (), rfl, (SameB.refl _ _ rfl), S⟩
      refine ⟨?_, ?_⟩
      ·
       refine ⟨_, rfl, rfl, by kernel_rfl, ?_⟩
       rintro D ⟨⟩ a z S F
       refine ⟨by kernel_rfl, ?_⟩
       refine op_fn F (by kernel_rfl) (rshare_any _ ea (ok.e ea (List.mem_of_getElem? hea)) sa hsa2) ?_
       rintro e z ⟨rfl, hb⟩
       have S := S.grow hb
       exact ⟨_, rfl, (), rfl, (SameB.refl _ _ rfl), S⟩
      refine ⟨?_, ?_⟩
      ·
       refine ⟨_, rfl, rfl, by kernel_rfl, ?_⟩
       rintro D ⟨⟩ a z S F
       refine ⟨by kernel_rfl, ?_⟩
       exact op_pure F (v0 := .bool (decide ((shareP ei si : Int) > (shareP ea sa : Int)))) (v := .bool false) (by kernel_rfl) (gtrF ht11) ⟨(), rfl, (SameB.refl _ _ rfl), S⟩
      trivial
     ·
      rintro ⟨⟩ a z F S
      have F := F.sub (l := [(1, .int .i64 node), (2, .pointer (some ⟨b1, 0, none⟩)), (7, .slice A2 ((stepsP x node).length) c3), (8, .int .i64 (ja : Nat)), (9, .int .i64 (jb : Nat)), (10, .int .i64 (k + 1 : Nat)), (11, .int .u64 (shareP ei si)), (61, .bool false)]) ⟨by kernel_rfl, by kernel_rfl, by kernel_rfl, by kernel_rfl, by kernel_rfl, by kernel_rfl, by kernel_rfl, by kernel_rfl, trivial⟩
      have S : Sat w z [rest w (· < w.heap.size), box b1 25 [.slice As x.spots.length cs, .slice Ae x.edges.length ce], row 126 5 (.slice A2 ((stepsP x node).length) c3) ((stepsP x node).length) ((stepsP x node).flatMap stC)] := S
      refine then_n ?_
      refine c_f F rfl ?_
      refine wp_skip ?_
      refine then_n ?_
      refine wp_seq ?_
      by_cases ht13 : (shareP ei si : Int) < (shareP eb sb : Int)
      ·
       skip
       refine region_gx (fun D => fun (_ : Unit) => [rest w (· < w.heap.size), box b1 25 [.slice As x.spots.length cs, .slice Ae x.edges.length ce], row 126 5 (.slice A2 ((stepsP x node).length) c3) ((stepsP x node).length) ((stepsP x node).flatMap stC)]) (fun (_ : Unit) => [.int .u64 (shareP ei si), .pointer (some ⟨b1, 1, none⟩), .slice Ae x.edges.length ce, .slice A2 ((stepsP x node).length) c3, .int .i64 (jb : Nat), ptrA A2 (jb * 5), ptrA A2 (jb * 5), .int .i64 (kb : Nat), ptrA Ae (kb * 8), .agg #[.int .i64 eb.a, .int .i64 eb.b, .int .u64 eb.c0, .int .u64 eb.c1, .int .u64 eb.b0, .int .u64 eb.r0, .int .u64 eb.b1, .int .u64 eb.r1], .agg #[.slice As x.spots.length cs, .slice Ae x.edges.length ce], .slice A2 ((stepsP x node).length) c3, .int .i64 (jb : Nat), ptrA A2 (jb * 5), ptrA A2 (jb * 5), .int .i64 (kb : Nat), .int .i64 node, .int .i64 (sb : Nat), .int .u64 (shareP eb sb), .bool true]) [(2, [], [8, 9, 18, 19]), (5, [], [6, 7, 8, 9, 18, 19]), (6, [5], [7, 8, 9, 18, 19]), (7, [5, 6], [8, 9, 18, 19]), (8, [2, 5, 6, 7], [9, 18, 19]), (9, [2, 5, 6, 7, 8], [18, 19]), (10, [], [17, 18, 19]), (13, [], [14, 15, 17, 18, 19]), (14, [13], [15, 17, 18, 19]), (15, [13, 14], [17, 18, 19]), (17, [10, 13, 14, 15], [18, 19]), (18, [2, 5, 6, 7, 8, 9, 10, 13, 14, 15, 17], [19]), (19, [2, 5, 6, 7, 8, 9, 10, 13, 14, 15, 17, 18], [])] () rfl (by kernel_rfl) (by kernel_rfl) F S.drew ?_ ?_ ?_ ?_ ?_
       · rintro ⟨⟩; rfl
       · rintro ⟨⟩; kernel_rfl
       ·
        intro D D' x h
        cases x
        rfl
       ·
        refine ⟨?_, ?_⟩
        ·
         refine ⟨_, rfl, rfl, by kernel_rfl, ?_⟩
         rintro D ⟨⟩ a z S F
         refine ⟨by kernel_rfl, ?_⟩
         exact op_load _ _ (some ⟨b1, 0, none⟩) 1 (.slice Ae x.edges.length ce) F rfl (by kernel_rfl) (by kernel_rfl) (cBox S 1 rfl (j := 1) rfl) (⟨(), rfl, (SameB.refl _ _ rfl), S⟩)
        refine ⟨?_, ?_⟩
        ·
         refine ⟨_, rfl, rfl, by kernel_rfl, ?_⟩
         rintro D ⟨⟩ a z S F
         refine ⟨by kernel_rfl, ?_⟩
         exact op_index _ 126 _ _ A2 ((stepsP x node).length) c3 jb 5 .i64 F rfl (by kernel_rfl) (by kernel_rfl) (by kernel_rfl) (by kernel_rfl) (get_lt hqb) (row_some S 2 rfl (m := jb) (get_lt hqb)) (⟨(), rfl, (SameB.refl _ _ rfl), S⟩)
        refine ⟨?_, ?_⟩
        ·
         refine ⟨_, rfl, rfl, by kernel_rfl, ?_⟩
         rintro D ⟨⟩ a z S F
         refine ⟨by kernel_rfl, ?_⟩
         exact op_field _ _ _ A2 (jb * 5) 0 F rfl (by kernel_rfl) (by kernel_rfl) (row_some S 2 rfl (m := jb) (get_lt hqb)) (⟨(), rfl, (SameB.refl _ _ rfl), S⟩)
        refine ⟨?_, ?_⟩
        ·
         refine ⟨_, rfl, rfl, by kernel_rfl, ?_⟩
         rintro D ⟨⟩ a z S F
         refine ⟨by kernel_rfl, ?_⟩
         exact op_load _ _ A2 (jb * 5) (.int .i64 (kb : Nat)) F rfl (by kernel_rfl) (by kernel_rfl) (cRec S 2 stC_len rfl 0 hqb rfl) (⟨(), rfl, (SameB.refl _ _ rfl), S⟩)
        refine ⟨?_, ?_⟩
        ·
         refine ⟨_, rfl, rfl, by kernel_rfl, ?_⟩
         rintro D ⟨⟩ a z S F
         refine ⟨by kernel_rfl, ?_⟩
         exact op_index _ 104 _ _ Ae x.edges.length ce kb 8 .i64 F rfl (by kernel_rfl) (by kernel_rfl) (by kernel_rfl) (by kernel_rfl) (get_lt heb) (recs_some h.e (m := kb) (get_lt heb)) (⟨(), rfl, (SameB.refl _ _ rfl), S⟩)
        refine ⟨?_, ?_⟩
        ·
         refine ⟨_, rfl, rfl, by kernel_rfl, ?_⟩
         rintro D ⟨⟩ a z S F
         refine ⟨by kernel_rfl, ?_⟩
         exact op_loadK _ _ Ae (kb * 8) [.int .i64 eb.a, .int .i64 eb.b, .int .u64 eb.c0, .int .u64 eb.c1, .int .u64 eb.b0, .int .u64 eb.r0, .int .u64 eb.b1, .int .u64 eb.r1] F rfl (by kernel_rfl) (by kernel_rfl) (by kernel_rfl) (by simp) (cOldK0 S 0 edC_len h.e rfl heb (by kernel_rfl)) (⟨(), rfl, (SameB.refl _ _ rfl), S⟩)
        refine ⟨?_, ?_⟩
        ·
         refine ⟨_, rfl, rfl, by kernel_rfl, ?_⟩
         rintro D ⟨⟩ a z S F
         refine ⟨by kernel_rfl, ?_⟩
         exact op_loadK _ _ (some ⟨b1, 0, none⟩) 0 [.slice As x.spots.length cs, .slice Ae x.edges.length ce] F rfl (by kernel_rfl) (by kernel_rfl) (by kernel_rfl) (by simp) (cBoxK S 1 rfl 0 (by kernel_rfl)) (⟨(), rfl, (SameB.refl _ _ rfl), S⟩)
        refine ⟨?_, ?_⟩
        ·
         refine ⟨_, rfl, rfl, by kernel_rfl, ?_⟩
         rintro D ⟨⟩ a z S F
         refine ⟨by kernel_rfl, ?_⟩
         exact op_index _ 126 _ _ A2 ((stepsP x node).length) c3 jb 5 .i64 F rfl (by kernel_rfl) (by kernel_rfl) (by kernel_rfl) (by kernel_rfl) (get_lt hqb) (row_some S 2 rfl (m := jb) (get_lt hqb)) (⟨(), rfl, (SameB.refl _ _ rfl), S⟩)
        refine ⟨?_, ?_⟩
        ·
         refine ⟨_, rfl, rfl, by kernel_rfl, ?_⟩
         rintro D ⟨⟩ a z S F
         refine ⟨by kernel_rfl, ?_⟩
         exact op_field _ _ _ A2 (jb * 5) 0 F rfl (by kernel_rfl) (by kernel_rfl) (row_some S 2 rfl (m := jb) (get_lt hqb)) (⟨(), rfl, (SameB.refl _ _ rfl), S⟩)
        refine ⟨?_, ?_⟩
        ·
         refine ⟨_, rfl, rfl, by kernel_rfl, ?_⟩
         rintro D ⟨⟩ a z S F
         refine ⟨by kernel_rfl, ?_⟩
         exact op_load _ _ A2 (jb * 5) (.int .i64 (kb : Nat)) F rfl (by kernel_rfl) (by kernel_rfl) (cRec S 2 stC_len rfl 0 hqb rfl) (⟨(), rfl, (SameB.refl _ _ rfl), S⟩)
        refine ⟨?_, ?_⟩
        ·
         refine ⟨_, rfl, rfl, by kernel_rfl, ?_⟩
         rintro D ⟨⟩ a z S F
         refine ⟨by kernel_rfl, ?_⟩
         refine op_fn F (by kernel_rfl) (rside_w _ As cs Ae ce x (h.move S rfl) ok (kb : Nat) node ((sideAt_in heb node).trans hsb)) ?_
         rintro e z ⟨rfl, hb⟩
         have S := S.grow hb
         exact ⟨_, rfl, (), rfl, (SameB.refl _ _ rfl), S⟩
        refine ⟨?_, ?_⟩
        ·
         refine ⟨_, rfl, rfl, by kernel_rfl, ?_⟩
         rintro D ⟨⟩ a z S F
         refine ⟨by kernel_rfl, ?_⟩
         refine op_fn F (by kernel_rfl) (rshare_any _ eb (ok.e eb (List.mem_of_getElem? heb)) sb hsb2) ?_
         rintro e z ⟨rfl, hb⟩
         have S := S.grow hb
         exact ⟨_, rfl, (), rfl, (SameB.refl _ _ rfl), S⟩
        refine ⟨?_, ?_⟩
        ·
         refine ⟨_, rfl, rfl, by kernel_rfl, ?_⟩
         rintro D ⟨⟩ a z S F
         refine ⟨by kernel_rfl, ?_⟩
         exact op_pure F (v0 := .bool (decide ((shareP ei si : Int) < (shareP eb sb : Int)))) (v := .bool true) (by kernel_rfl) (lssT ht13) ⟨(), rfl, (SameB.refl _ _ rfl), S⟩
        trivial
       ·
        rintro ⟨⟩ a z F S
        have F := F.sub (l := [(1, .int .i64 node), (2, .pointer (some ⟨b1, 0, none⟩)), (7, .slice A2 ((stepsP x node).length) c3), (8, .int .i64 (ja : Nat)), (9, .int .i64 (jb : Nat)), (10, .int .i64 (k + 1 : Nat)), (82, .bool true)]) ⟨by kernel_rfl, by kernel_rfl, by kernel_rfl, by kernel_rfl, by kernel_rfl, by kernel_rfl, by kernel_rfl, trivial⟩
        have S : Sat w z [rest w (· < w.heap.size), box b1 25 [.slice As x.spots.length cs, .slice Ae x.edges.length ce], row 126 5 (.slice A2 ((stepsP x node).length) c3) ((stepsP x node).length) ((stepsP x node).flatMap stC)] := S
        refine then_n ?_
        refine c_t F rfl ?_
        refine wp_region_list ?_
        refine l_pure 2 (fun L => (9, .int .i64 (k + 1 : Nat)) :: (83, .int .i64 (k + 1 : Nat)) :: L) F (by kernel_rfl) fun a F => ?_
        refine l_nil (inb_n ?_)
        refine then_n ?_
        refine wp_region_list ?_
        refine l_pure 1 (fun L => (22, .int .i64 (k + 1 : Nat)) :: L) F (by kernel_rfl) fun a F => ?_
        refine l_do F rfl rfl (op_pure F (v0 := .int .i64 (IntKind.wrap .i64 ((k + 1 : Nat) + 1))) (v := .int .i64 (k + 1 + 1 : Nat)) (by kernel_rfl) (wrn_i64 (by omega) (by omega) (by omega)) fun a F => ?_)
        refine l_pure 1 (fun L => (10, .int .i64 (k + 1 + 1 : Nat)) :: L) F (by kernel_rfl) fun a F => ?_
        refine l_then ?_
        exact ⟨_, (by omega), k + 1, ja, k + 1, rfl, (by omega), (by omega), (by omega), ((max_step hja).2 (by rw [hvi, hva]; exact ht11)), ((min_step hjb).1 (by rw [hvi, hvb]; exact ht13)), F.sub ⟨by kernel_rfl, by kernel_rfl, by kernel_rfl, by kernel_rfl, by kernel_rfl, by kernel_rfl, trivial⟩, S⟩
      ·
       skip
       refine region_gx (fun D => fun (_ : Unit) => [rest w (· < w.heap.size), box b1 25 [.slice As x.spots.length cs, .slice Ae x.edges.length ce], row 126 5 (.slice A2 ((stepsP x node).length) c3) ((stepsP x node).length) ((stepsP x node).flatMap stC)]) (fun (_ : Unit) => [.int .u64 (shareP ei si), .pointer (some ⟨b1, 1, none⟩), .slice Ae x.edges.length ce, .slice A2 ((stepsP x node).length) c3, .int .i64 (jb : Nat), ptrA A2 (jb * 5), ptrA A2 (jb * 5), .int .i64 (kb : Nat), ptrA Ae (kb * 8), .agg #[.int .i64 eb.a, .int .i64 eb.b, .int .u64 eb.c0, .int .u64 eb.c1, .int .u64 eb.b0, .int .u64 eb.r0, .int .u64 eb.b1, .int .u64 eb.r1], .agg #[.slice As x.spots.length cs, .slice Ae x.edges.length ce], .slice A2 ((stepsP x node).length) c3, .int .i64 (jb : Nat), ptrA A2 (jb * 5), ptrA A2 (jb * 5), .int .i64 (kb : Nat), .int .i64 node, .int .i64 (sb : Nat), .int .u64 (shareP eb sb), .bool false]) [(2, [], [8, 9, 18, 19]), (5, [], [6, 7, 8, 9, 18, 19]), (6, [5], [7, 8, 9, 18, 19]), (7, [5, 6], [8, 9, 18, 19]), (8, [2, 5, 6, 7], [9, 18, 19]), (9, [2, 5, 6, 7, 8], [18, 19]), (10, [], [17, 18, 19]), (13, [], [14, 15, 17, 18, 19]), (14, [13], [15, 17, 18, 19]), (15, [13, 14], [17, 18, 19]), (17, [10, 13, 14, 15], [18, 19]), (18, [2, 5, 6, 7, 8, 9, 10, 13, 14, 15, 17], [19]), (19, [2, 5, 6, 7, 8, 9, 10, 13, 14, 15, 17, 18], [])] () rfl (by kernel_rfl) (by kernel_rfl) F S.drew ?_ ?_ ?_ ?_ ?_
       · rintro ⟨⟩; rfl
       · rintro ⟨⟩; kernel_rfl
       ·
        intro D D' x h
        cases x
        rfl
       ·
        refine ⟨?_, ?_⟩
        ·
         refine ⟨_, rfl, rfl, by kernel_rfl, ?_⟩
         rintro D ⟨⟩ a z S F
         refine ⟨by kernel_rfl, ?_⟩
         exact op_load _ _ (some ⟨b1, 0, none⟩) 1 (.slice Ae x.edges.length ce) F rfl (by kernel_rfl) (by kernel_rfl) (cBox S 1 rfl (j := 1) rfl) (⟨(), rfl, (SameB.refl _ _ rfl), S⟩)
        refine ⟨?_, ?_⟩
        ·
         refine ⟨_, rfl, rfl, by kernel_rfl, ?_⟩
         rintro D ⟨⟩ a z S F
         refine ⟨by kernel_rfl, ?_⟩
         exact op_index _ 126 _ _ A2 ((stepsP x node).length) c3 jb 5 .i64 F rfl (by kernel_rfl) (by kernel_rfl) (by kernel_rfl) (by kernel_rfl) (get_lt hqb) (row_some S 2 rfl (m := jb) (get_lt hqb)) (⟨(), rfl, (SameB.refl _ _ rfl), S⟩)
        refine ⟨?_, ?_⟩
        ·
         refine ⟨_, rfl, rfl, by kernel_rfl, ?_⟩
         rintro D ⟨⟩ a z S F
         refine ⟨by kernel_rfl, ?_⟩
         exact op_field _ _ _ A2 (jb * 5) 0 F rfl (by kernel_rfl) (by kernel_rfl) (row_some S 2 rfl (m := jb) (get_lt hqb)) (⟨(), rfl, (SameB.refl _ _ rfl), S⟩)
        refine ⟨?_, ?_⟩
        ·
         refine ⟨_, rfl, rfl, by kernel_rfl, ?_⟩
         rintro D ⟨⟩ a z S F
         refine ⟨by kernel_rfl, ?_⟩
         exact op_load _ _ A2 (jb * 5) (.int .i64 (kb : Nat)) F rfl (by kernel_rfl) (by kernel_rfl) (cRec S 2 stC_len rfl 0 hqb rfl) (⟨(), rfl, (SameB.refl _ _ rfl), S⟩)
        refine ⟨?_, ?_⟩
        ·
         refine ⟨_, rfl, rfl, by kernel_rfl, ?_⟩
         rintro D ⟨⟩ a z S F
         refine ⟨by kernel_rfl, ?_⟩
         exact op_index _ 104 _ _ Ae x.edges.length ce kb 8 .i64 F rfl (by kernel_rfl) (by kernel_rfl) (by kernel_rfl) (by kernel_rfl) (get_lt heb) (recs_some h.e (m := kb) (get_lt heb)) (⟨(), rfl, (SameB.refl _ _ rfl), S⟩)
        refine ⟨?_, ?_⟩
        ·
         refine ⟨_, rfl, rfl, by kernel_rfl, ?_⟩
         rintro D ⟨⟩ a z S F
         refine ⟨by kernel_rfl, ?_⟩
         exact op_loadK _ _ Ae (kb * 8) [.int .i64 eb.a, .int .i64 eb.b, .int .u64 eb.c0, .int .u64 eb.c1, .int .u64 eb.b0, .int .u64 eb.r0, .int .u64 eb.b1, .int .u64 eb.r1] F rfl (by kernel_rfl) (by kernel_rfl) (by kernel_rfl) (by simp) (cOldK0 S 0 edC_len h.e rfl heb (by kernel_rfl)) (⟨(), rfl, (SameB.refl _ _ rfl), S⟩)
        refine ⟨?_, ?_⟩
        ·
         refine ⟨_, rfl, rfl, by kernel_rfl, ?_⟩
         rintro D ⟨⟩ a z S F
         refine ⟨by kernel_rfl, ?_⟩
         exact op_loadK _ _ (some ⟨b1, 0, none⟩) 0 [.slice As x.spots.length cs, .slice Ae x.edges.length ce] F rfl (by kernel_rfl) (by kernel_rfl) (by kernel_rfl) (by simp) (cBoxK S 1 rfl 0 (by kernel_rfl)) (⟨(), rfl, (SameB.refl _ _ rfl), S⟩)
        refine ⟨?_, ?_⟩
        ·
         refine ⟨_, rfl, rfl, by kernel_rfl, ?_⟩
         rintro D ⟨⟩ a z S F
         refine ⟨by kernel_rfl, ?_⟩
         exact op_index _ 126 _ _ A2 ((stepsP x node).length) c3 jb 5 .i64 F rfl (by kernel_rfl) (by kernel_rfl) (by kernel_rfl) (by kernel_rfl) (get_lt hqb) (row_some S 2 rfl (m := jb) (get_lt hqb)) (⟨(), rfl, (SameB.refl _ _ rfl), S⟩)
        refine ⟨?_, ?_⟩
        ·
         refine ⟨_, rfl, rfl, by kernel_rfl, ?_⟩
         rintro D ⟨⟩ a z S F
         refine ⟨by kernel_rfl, ?_⟩
         exact op_field _ _ _ A2 (jb * 5) 0 F rfl (by kernel_rfl) (by kernel_rfl) (row_some S 2 rfl (m := jb) (get_lt hqb)) (⟨(), rfl, (SameB.refl _ _ rfl), S⟩)
        refine ⟨?_, ?_⟩
        ·
         refine ⟨_, rfl, rfl, by kernel_rfl, ?_⟩
         rintro D ⟨⟩ a z S F
         refine ⟨by kernel_rfl, ?_⟩
         exact op_load _ _ A2 (jb * 5) (.int .i64 (kb : Nat)) F rfl (by kernel_rfl) (by kernel_rfl) (cRec S 2 stC_len rfl 0 hqb rfl) (⟨(), rfl, (SameB.refl _ _ rfl), S⟩)
        refine ⟨?_, ?_⟩
        ·
         refine ⟨_, rfl, rfl, by kernel_rfl, ?_⟩
         rintro D ⟨⟩ a z S F
         refine ⟨by kernel_rfl, ?_⟩
         refine op_fn F (by kernel_rfl) (rside_w _ As cs Ae ce x (h.move S rfl) ok (kb : Nat) node ((sideAt_in heb node).trans hsb)) ?_
         rintro e z ⟨rfl, hb⟩
         have S := S.grow hb
         exact ⟨_, rfl, (), rfl, (SameB.refl _ _ rfl), S⟩
        refine ⟨?_, ?_⟩
        ·
         refine ⟨_, rfl, rfl, by kernel_rfl, ?_⟩
         rintro D ⟨⟩ a z S F
         refine ⟨by kernel_rfl, ?_⟩
         refine op_fn F (by kernel_rfl) (rshare_any _ eb (ok.e eb (List.mem_of_getElem? heb)) sb hsb2) ?_
         rintro e z ⟨rfl, hb⟩
         have S := S.grow hb
         exact ⟨_, rfl, (), rfl, (SameB.refl _ _ rfl), S⟩
        refine ⟨?_, ?_⟩
        ·
         refine ⟨_, rfl, rfl, by kernel_rfl, ?_⟩
         rintro D ⟨⟩ a z S F
         refine ⟨by kernel_rfl, ?_⟩
         exact op_pure F (v0 := .bool (decide ((shareP ei si : Int) < (shareP eb sb : Int)))) (v := .bool false) (by kernel_rfl) (lssF ht13) ⟨(), rfl, (SameB.refl _ _ rfl), S⟩
        trivial
       ·
        rintro ⟨⟩ a z F S
        have F := F.sub (l := [(1, .int .i64 node), (2, .pointer (some ⟨b1, 0, none⟩)), (7, .slice A2 ((stepsP x node).length) c3), (8, .int .i64 (ja : Nat)), (9, .int .i64 (jb : Nat)), (10, .int .i64 (k + 1 : Nat)), (82, .bool false)]) ⟨by kernel_rfl, by kernel_rfl, by kernel_rfl, by kernel_rfl, by kernel_rfl, by kernel_rfl, by kernel_rfl, trivial⟩
        have S : Sat w z [rest w (· < w.heap.size), box b1 25 [.slice As x.spots.length cs, .slice Ae x.edges.length ce], row 126 5 (.slice A2 ((stepsP x node).length) c3) ((stepsP x node).length) ((stepsP x node).flatMap stC)] := S
        refine then_n ?_
        refine c_f F rfl ?_
        refine wp_skip ?_
        refine inb_n ?_
        refine then_n ?_
        refine wp_region_list ?_
        refine l_pure 1 (fun L => (22, .int .i64 (k + 1 : Nat)) :: L) F (by kernel_rfl) fun a F => ?_
        refine l_do F rfl rfl (op_pure F (v0 := .int .i64 (IntKind.wrap .i64 ((k + 1 : Nat) + 1))) (v := .int .i64 (k + 1 + 1 : Nat)) (by kernel_rfl) (wrn_i64 (by omega) (by omega) (by omega)) fun a F => ?_)
        refine l_pure 1 (fun L => (10, .int .i64 (k + 1 + 1 : Nat)) :: L) F (by kernel_rfl) fun a F => ?_
        refine l_then ?_
        exact ⟨_, (by omega), k + 1, ja, jb, rfl, (by omega), (by omega), (by omega), ((max_step hja).2 (by rw [hvi, hva]; exact ht11)), ((min_step hjb).2 (by rw [hvi, hvb]; exact ht13)), F.sub ⟨by kernel_rfl, by kernel_rfl, by kernel_rfl, by kernel_rfl, by kernel_rfl, by kernel_rfl, trivial⟩, S⟩
  ·
   skip
   have hk9 : k = (stepsP x node).length - 1 := by omega
   rw [hk9] at hja hjb
   refine l_do F rfl rfl (op_pure F (v0 := .bool (decide (((k + 1 : Nat) : Int) < (((stepsP x node).length : Nat) : Int)))) (v := .bool false) (by kernel_rfl) (lssF ht10) fun a F => ?_)
   refine l_then ?_
   refine c_f F rfl ?_
   refine wp_exit ?_
   refine then_x ?_
   refine then_x ?_
   refine inb_x ?_
   refine then_n ?_
   refine wp_seq ?_
   refine s_reg ?_
   refine l_pure 2 (fun L => (85, .int .i64 (jb : Nat)) :: (84, .int .i64 (ja : Nat)) :: L) F (by kernel_rfl) fun a F => ?_
   by_cases ht14 : ((ja : Nat) : Int) = ((jb : Nat) : Int)
   ·
    skip
    have h9 := hv.symm.trans (worst_same hl9 hja (by rw [← hjb]; omega))
    simp only [Prod.mk.injEq] at h9
    obtain ⟨rfl, rfl, rfl⟩ := h9
    refine l_do F rfl rfl (op_pure F (v0 := .bool (((ja : Nat) : Int) == ((jb : Nat) : Int))) (v := .bool true) (by kernel_rfl) (eqlT ht14) fun a F => ?_)
    refine l_then ?_
    refine c_t F rfl ?_
    refine s_reg ?_
    refine l_pure 3 (fun L => (6, .bool false) :: (5, .int .i64 0) :: (4, .int .i64 0) :: L) F (by kernel_rfl) fun a F => ?_
    refine l_then ?_
    refine wp_ret ?_
    refine then_r (?_)
    exact fin F [.tmp 4, .tmp 5, .tmp 6] [.int .i64 0, .int .i64 0, .bool false] rfl ⟨by kernel_rfl, by kernel_rfl, by kernel_rfl, trivial⟩ (.tuple #[.int .i64 0, .int .i64 0, .bool false]) rfl ⟨rfl, S.below (i := 0) rfl⟩
   ·
    skip
    have h9 := hv.symm.trans (worst_two hl9 hja hjb (by omega) hqa hqb)
    simp only [Prod.mk.injEq] at h9
    obtain ⟨rfl, rfl, rfl⟩ := h9
    refine l_do F rfl rfl (op_pure F (v0 := .bool (((ja : Nat) : Int) == ((jb : Nat) : Int))) (v := .bool false) (by kernel_rfl) (eqlF ht14) fun a F => ?_)
    refine l_then ?_
    refine c_f F rfl ?_
    refine wp_skip ?_
    refine then_n ?_
    refine wp_seq ?_
    refine region_gx (fun D => fun (_ : Unit) => [rest w (· < w.heap.size), box b1 25 [.slice As x.spots.length cs, .slice Ae x.edges.length ce], row 126 5 (.slice A2 ((stepsP x node).length) c3) ((stepsP x node).length) ((stepsP x node).flatMap stC)]) (fun (_ : Unit) => [.slice A2 ((stepsP x node).length) c3, .int .i64 (ja : Nat), ptrA A2 (ja * 5), ptrA A2 (ja * 5), .int .i64 (ka : Nat), .slice A2 ((stepsP x node).length) c3, .int .i64 (jb : Nat), ptrA A2 (jb * 5), ptrA A2 (jb * 5), .int .i64 (kb : Nat), .int .i64 (ka : Nat), .int .i64 (kb : Nat), .bool true]) [(2, [], [3, 4]), (3, [2], [4]), (4, [2, 3], []), (7, [], [8, 9]), (8, [7], [9]), (9, [7, 8], [])] () rfl (by kernel_rfl) (by kernel_rfl) F S.drew ?_ ?_ ?_ ?_ ?_
    · rintro ⟨⟩; rfl
    · rintro ⟨⟩; kernel_rfl
    ·
     intro D D' x h
     cases x
     rfl
    ·
     refine ⟨?_, ?_⟩
     ·
      refine ⟨_, rfl, rfl, by kernel_rfl, ?_⟩
      rintro D ⟨⟩ a z S F
      refine ⟨by kernel_rfl, ?_⟩
      exact op_index _ 126 _ _ A2 ((stepsP x node).length) c3 ja 5 .i64 F rfl (by kernel_rfl) (by kernel_rfl) (by kernel_rfl) (by kernel_rfl) (get_lt hqa) (row_some S 2 rfl (m := ja) (get_lt hqa)) (⟨(), rfl, (SameB.refl _ _ rfl), S⟩)
     refine ⟨?_, ?_⟩
     ·
      refine ⟨_, rfl, rfl, by kernel_rfl, ?_⟩
      rintro D ⟨⟩ a z S F
      refine ⟨by kernel_rfl, ?_⟩
      exact op_field _ _ _ A2 (ja * 5) 0 F rfl (by kernel_rfl) (by kernel_rfl) (row_some S 2 rfl (m := ja) (get_lt hqa)) (⟨(), rfl, (SameB.refl _ _ rfl), S⟩)
     refine ⟨?_, ?_⟩
     ·
      refine ⟨_, rfl, rfl, by kernel_rfl, ?_⟩
      rintro D ⟨⟩ a z S F
      refine ⟨by kernel_rfl, ?_⟩
      exact op_load _ _ A2 (ja * 5) (.int .i64 (ka : Nat)) F rfl (by kernel_rfl) (by kernel_rfl) (cRec S 2 stC_len rfl 0 hqa rfl) (⟨(), rfl, (SameB.refl _ _ rfl), S⟩)
     refine ⟨?_, ?_⟩
     ·
      refine ⟨_, rfl, rfl, by kernel_rfl, ?_⟩
      rintro D ⟨⟩ a z S F
      refine ⟨by kernel_rfl, ?_⟩
      exact op_index _ 126 _ _ A2 ((stepsP x node).length) c3 jb 5 .i64 F rfl (by kernel_rfl) (by kernel_rfl) (by kernel_rfl) (by kernel_rfl) (get_lt hqb) (row_some S 2 rfl (m := jb) (get_lt hqb)) (⟨(), rfl, (SameB.refl _ _ rfl), S⟩)
     refine ⟨?_, ?_⟩
     ·
      refine ⟨_, rfl, rfl, by kernel_rfl, ?_⟩
      rintro D ⟨⟩ a z S F
      refine ⟨by kernel_rfl, ?_⟩
      exact op_field _ _ _ A2 (jb * 5) 0 F rfl (by kernel_rfl) (by kernel_rfl) (row_some S 2 rfl (m := jb) (get_lt hqb)) (⟨(), rfl, (SameB.refl _ _ rfl), S⟩)
     refine ⟨?_, ?_⟩
     ·
      refine ⟨_, rfl, rfl, by kernel_rfl, ?_⟩
      rintro D ⟨⟩ a z S F
      refine ⟨by kernel_rfl, ?_⟩
      exact op_load _ _ A2 (jb * 5) (.int .i64 (kb : Nat)) F rfl (by kernel_rfl) (by kernel_rfl) (cRec S 2 stC_len rfl 0 hqb rfl) (⟨(), rfl, (SameB.refl _ _ rfl), S⟩)
     trivial
    ·
     rintro ⟨⟩ a z F S
     have F := F.sub (l := [(4, .int .i64 (ka : Nat)), (5, .int .i64 (kb : Nat)), (6, .bool true)]) ⟨by kernel_rfl, by kernel_rfl, by kernel_rfl, trivial⟩
     have S : Sat w z [rest w (· < w.heap.size), box b1 25 [.slice As x.spots.length cs, .slice Ae x.edges.length ce], row 126 5 (.slice A2 ((stepsP x node).length) c3) ((stepsP x node).length) ((stepsP x node).flatMap stC)] := S
     refine then_n ?_
     refine wp_ret ?_
     exact fin F [.tmp 4, .tmp 5, .tmp 6] [.int .i64 (ka : Nat), .int .i64 (kb : Nat), .bool true] rfl ⟨by kernel_rfl, by kernel_rfl, by kernel_rfl, trivial⟩ (.tuple #[.int .i64 (ka : Nat), .int .i64 (kb : Nat), .bool true]) rfl ⟨rfl, S.below (i := 0) rfl⟩
set_option maxRecDepth 100000 in
set_option maxHeartbeats 4000000 in
theorem worst_law_true (w : World) (As : Option Addr) (cs : Nat) (Ae : Option Addr) (ce : Nat) (x : Wb) (h : WebAt w As cs Ae ce x) (ok : x.Ok) (node : Int) {wa wb : Int} (hv : worstP x node = (wa, wb, true)) : Calls Try.prog 12 #[.agg #[.slice As x.spots.length cs, .slice Ae x.edges.length ce], .int .i64 node] w fun e w' => e = .returned (.bool true) ∧ Below w.heap.size w w' := by
 refine enter 46 Try.func12 rfl rfl rfl fun a F => ?_
 have S := Sat.pushRest w
 refine s_reg ?_
 refine l_do F rfl rfl (op_box S _ _ (.agg #[.slice As x.spots.length cs, .slice Ae x.edges.length ce]) F rfl (by kernel_rfl) fun b1 z S a F => ?_)
 refine l_pure 1 (fun L => (4, .bool false) :: L) F (by kernel_rfl) fun a F => ?_
 refine l_then ?_
 refine wp_seq ?_
 refine s_reg ?_
 refine l_do F rfl rfl (op_loadK _ _ (some ⟨b1, 0, none⟩) 0 [.slice As x.spots.length cs, .slice Ae x.edges.length ce] F rfl (by kernel_rfl) (by kernel_rfl) (by kernel_rfl) (by simp) (cBoxK S 1 rfl 0 (by kernel_rfl)) (fun a F => ?_))
 cases hb2 : (lightP x) with
 | false =>
  refine l_do F rfl rfl (op_fn F (by kernel_rfl) (light_any _ As cs Ae ce x) ?_)
  rintro e z ⟨rfl, hb⟩
  have S := S.grow hb
  refine ⟨_, rfl, ?_⟩
  rw [hb2]
  intro a F
  refine l_pure 1 (fun L => (13, .bool true) :: L) F (by kernel_rfl) fun a F => ?_
  refine l_then ?_
  refine c_t F rfl ?_
  refine s_reg ?_
  refine l_do F rfl rfl (op_fn F (by kernel_rfl) (awake28_any _) ?_)
  rintro e z ⟨rfl, hb⟩
  have S := S.grow hb
  refine ⟨_, rfl, ?_⟩
  intro a F
  refine l_pure 1 (fun L => (4, .bool true) :: L) F (by kernel_rfl) fun a F => ?_
  refine l_then ?_
  refine wp_ret ?_
  refine then_r (?_)
  exact fin F [.tmp 4] [.bool true] rfl ⟨by kernel_rfl, trivial⟩ (.bool true) rfl ⟨rfl, S.below (i := 0) rfl⟩
 | true =>
  obtain ⟨l1, l2, l3, l4⟩ := light_small hb2
  refine l_do F rfl rfl (op_fn F (by kernel_rfl) (light_any _ As cs Ae ce x) ?_)
  rintro e z ⟨rfl, hb⟩
  have S := S.grow hb
  refine ⟨_, rfl, ?_⟩
  rw [hb2]
  intro a F
  refine l_pure 1 (fun L => (13, .bool false) :: L) F (by kernel_rfl) fun a F => ?_
  refine l_then ?_
  refine c_f F rfl ?_
  refine wp_skip ?_
  refine then_n ?_
  refine s_reg ?_
  refine l_do F rfl rfl (op_loadK _ _ (some ⟨b1, 0, none⟩) 0 [.slice As x.spots.length cs, .slice Ae x.edges.length ce] F rfl (by kernel_rfl) (by kernel_rfl) (by kernel_rfl) (by simp) (cBoxK S 1 rfl 0 (by kernel_rfl)) (fun a F => ?_))
  refine l_do F rfl rfl (op_fn F (by kernel_rfl) (to_any _ As cs Ae ce x (h.move S rfl) ok ⟨l1, l2⟩) ?_)
  rintro e z ⟨A3, c4, A5, c6, rfl, g⟩
  have S := S.pushThings g
  refine ⟨_, rfl, ?_⟩
  intro a F
  refine l_pure 1 (fun L => (18, .int .i64 node) :: L) F (by kernel_rfl) fun a F => ?_
  refine l_do F rfl rfl (op_fn F (by kernel_rfl) (worst_at _ A3 c4 A5 c6 x (WebAt.ofNew (x := x) (w := w) S (i := 2) (j := 3) rfl rfl ⟨l1, l2⟩) ok node hv) ?_)
  rintro e z ⟨rfl, hb⟩
  have S := S.grow hb
  refine ⟨_, rfl, ?_⟩
  intro a F
  refine l_pure 7 (fun L => (7, .bool true) :: (6, .int .i64 wb) :: (5, .int .i64 wa) :: (22, .bool true) :: (21, .int .i64 wb) :: (20, .int .i64 wa) :: (15, .tuple #[.int .i64 wa, .int .i64 wb, .bool true]) :: L) F (by kernel_rfl) fun a F => ?_
  refine l_then ?_
  refine s_reg ?_
  refine l_do F rfl rfl (op_loadK _ _ (some ⟨b1, 0, none⟩) 0 [.slice As x.spots.length cs, .slice Ae x.edges.length ce] F rfl (by kernel_rfl) (by kernel_rfl) (by kernel_rfl) (by simp) (cBoxK S 1 rfl 0 (by kernel_rfl)) (fun a F => ?_))
  refine l_pure 1 (fun L => (25, .int .i64 node) :: L) F (by kernel_rfl) fun a F => ?_
  refine l_do F rfl rfl (op_fn F (by kernel_rfl) (rworst_at _ As cs Ae ce x (h.move S rfl) ok node hv) ?_)
  rintro e z ⟨rfl, hb⟩
  have S := S.grow hb
  refine ⟨_, rfl, ?_⟩
  intro a F
  refine l_pure 7 (fun L => (10, .bool true) :: (9, .int .i64 wb) :: (8, .int .i64 wa) :: (29, .bool true) :: (28, .int .i64 wb) :: (27, .int .i64 wa) :: (23, .tuple #[.int .i64 wa, .int .i64 wb, .bool true]) :: L) F (by kernel_rfl) fun a F => ?_
  refine l_then ?_
  refine s_reg ?_
  refine l_do F rfl rfl (op_fn F (by kernel_rfl) (awake28_any _) ?_)
  rintro e z ⟨rfl, hb⟩
  have S := S.grow hb
  refine ⟨_, rfl, ?_⟩
  intro a F
  refine l_pure 3 (fun L => (33, .int .i64 wa) :: (32, .int .i64 wa) :: (31, .bool true) :: L) F (by kernel_rfl) fun a F => ?_
  refine l_do F rfl rfl (op_pure F (v0 := .bool ((wa : Int) == (wa : Int))) (v := .bool true) (by kernel_rfl) (eqlT rfl) fun a F => ?_)
  refine l_pure 4 (fun L => (38, .int .i64 wb) :: (37, .int .i64 wb) :: (36, .bool true) :: (35, .bool true) :: L) F (by kernel_rfl) fun a F => ?_
  refine l_do F rfl rfl (op_pure F (v0 := .bool ((wb : Int) == (wb : Int))) (v := .bool true) (by kernel_rfl) (eqlT rfl) fun a F => ?_)
  refine l_pure 7 (fun L => (4, .bool true) :: (45, .bool true) :: (44, .bool true) :: (43, .bool true) :: (42, .bool true) :: (41, .bool true) :: (40, .bool true) :: L) F (by kernel_rfl) fun a F => ?_
  refine l_then ?_
  refine wp_ret ?_
  exact fin F [.tmp 4] [.bool true] rfl ⟨by kernel_rfl, trivial⟩ (.bool true) rfl ⟨rfl, S.below (i := 0) rfl⟩
set_option maxRecDepth 100000 in
set_option maxHeartbeats 4000000 in
theorem worst_law_false (w : World) (As : Option Addr) (cs : Nat) (Ae : Option Addr) (ce : Nat) (x : Wb) (h : WebAt w As cs Ae ce x) (ok : x.Ok) (node : Int) {wa wb : Int} (hv : worstP x node = (wa, wb, false)) : Calls Try.prog 12 #[.agg #[.slice As x.spots.length cs, .slice Ae x.edges.length ce], .int .i64 node] w fun e w' => e = .returned (.bool true) ∧ Below w.heap.size w w' := by
 refine enter 46 Try.func12 rfl rfl rfl fun a F => ?_
 have S := Sat.pushRest w
 refine s_reg ?_
 refine l_do F rfl rfl (op_box S _ _ (.agg #[.slice As x.spots.length cs, .slice Ae x.edges.length ce]) F rfl (by kernel_rfl) fun b1 z S a F => ?_)
 refine l_pure 1 (fun L => (4, .bool false) :: L) F (by kernel_rfl) fun a F => ?_
 refine l_then ?_
 refine wp_seq ?_
 refine s_reg ?_
 refine l_do F rfl rfl (op_loadK _ _ (some ⟨b1, 0, none⟩) 0 [.slice As x.spots.length cs, .slice Ae x.edges.length ce] F rfl (by kernel_rfl) (by kernel_rfl) (by kernel_rfl) (by simp) (cBoxK S 1 rfl 0 (by kernel_rfl)) (fun a F => ?_))
 cases hb2 : (lightP x) with
 | false =>
  refine l_do F rfl rfl (op_fn F (by kernel_rfl) (light_any _ As cs Ae ce x) ?_)
  rintro e z ⟨rfl, hb⟩
  have S := S.grow hb
  refine ⟨_, rfl, ?_⟩
  rw [hb2]
  intro a F
  refine l_pure 1 (fun L => (13, .bool true) :: L) F (by kernel_rfl) fun a F => ?_
  refine l_then ?_
  refine c_t F rfl ?_
  refine s_reg ?_
  refine l_do F rfl rfl (op_fn F (by kernel_rfl) (awake28_any _) ?_)
  rintro e z ⟨rfl, hb⟩
  have S := S.grow hb
  refine ⟨_, rfl, ?_⟩
  intro a F
  refine l_pure 1 (fun L => (4, .bool true) :: L) F (by kernel_rfl) fun a F => ?_
  refine l_then ?_
  refine wp_ret ?_
  refine then_r (?_)
  exact fin F [.tmp 4] [.bool true] rfl ⟨by kernel_rfl, trivial⟩ (.bool true) rfl ⟨rfl, S.below (i := 0) rfl⟩
 | true =>
  obtain ⟨l1, l2, l3, l4⟩ := light_small hb2
  refine l_do F rfl rfl (op_fn F (by kernel_rfl) (light_any _ As cs Ae ce x) ?_)
  rintro e z ⟨rfl, hb⟩
  have S := S.grow hb
  refine ⟨_, rfl, ?_⟩
  rw [hb2]
  intro a F
  refine l_pure 1 (fun L => (13, .bool false) :: L) F (by kernel_rfl) fun a F => ?_
  refine l_then ?_
  refine c_f F rfl ?_
  refine wp_skip ?_
  refine then_n ?_
  refine s_reg ?_
  refine l_do F rfl rfl (op_loadK _ _ (some ⟨b1, 0, none⟩) 0 [.slice As x.spots.length cs, .slice Ae x.edges.length ce] F rfl (by kernel_rfl) (by kernel_rfl) (by kernel_rfl) (by simp) (cBoxK S 1 rfl 0 (by kernel_rfl)) (fun a F => ?_))
  refine l_do F rfl rfl (op_fn F (by kernel_rfl) (to_any _ As cs Ae ce x (h.move S rfl) ok ⟨l1, l2⟩) ?_)
  rintro e z ⟨A3, c4, A5, c6, rfl, g⟩
  have S := S.pushThings g
  refine ⟨_, rfl, ?_⟩
  intro a F
  refine l_pure 1 (fun L => (18, .int .i64 node) :: L) F (by kernel_rfl) fun a F => ?_
  refine l_do F rfl rfl (op_fn F (by kernel_rfl) (worst_at _ A3 c4 A5 c6 x (WebAt.ofNew (x := x) (w := w) S (i := 2) (j := 3) rfl rfl ⟨l1, l2⟩) ok node hv) ?_)
  rintro e z ⟨rfl, hb⟩
  have S := S.grow hb
  refine ⟨_, rfl, ?_⟩
  intro a F
  refine l_pure 7 (fun L => (7, .bool false) :: (6, .int .i64 wb) :: (5, .int .i64 wa) :: (22, .bool false) :: (21, .int .i64 wb) :: (20, .int .i64 wa) :: (15, .tuple #[.int .i64 wa, .int .i64 wb, .bool false]) :: L) F (by kernel_rfl) fun a F => ?_
  refine l_then ?_
  refine s_reg ?_
  refine l_do F rfl rfl (op_loadK _ _ (some ⟨b1, 0, none⟩) 0 [.slice As x.spots.length cs, .slice Ae x.edges.length ce] F rfl (by kernel_rfl) (by kernel_rfl) (by kernel_rfl) (by simp) (cBoxK S 1 rfl 0 (by kernel_rfl)) (fun a F => ?_))
  refine l_pure 1 (fun L => (25, .int .i64 node) :: L) F (by kernel_rfl) fun a F => ?_
  refine l_do F rfl rfl (op_fn F (by kernel_rfl) (rworst_at _ As cs Ae ce x (h.move S rfl) ok node hv) ?_)
  rintro e z ⟨rfl, hb⟩
  have S := S.grow hb
  refine ⟨_, rfl, ?_⟩
  intro a F
  refine l_pure 7 (fun L => (10, .bool false) :: (9, .int .i64 wb) :: (8, .int .i64 wa) :: (29, .bool false) :: (28, .int .i64 wb) :: (27, .int .i64 wa) :: (23, .tuple #[.int .i64 wa, .int .i64 wb, .bool false]) :: L) F (by kernel_rfl) fun a F => ?_
  refine l_then ?_
  refine s_reg ?_
  refine l_do F rfl rfl (op_fn F (by kernel_rfl) (awake28_any _) ?_)
  rintro e z ⟨rfl, hb⟩
  have S := S.grow hb
  refine ⟨_, rfl, ?_⟩
  intro a F
  refine l_pure 3 (fun L => (33, .int .i64 wa) :: (32, .int .i64 wa) :: (31, .bool true) :: L) F (by kernel_rfl) fun a F => ?_
  refine l_do F rfl rfl (op_pure F (v0 := .bool ((wa : Int) == (wa : Int))) (v := .bool true) (by kernel_rfl) (eqlT rfl) fun a F => ?_)
  refine l_pure 4 (fun L => (38, .int .i64 wb) :: (37, .int .i64 wb) :: (36, .bool true) :: (35, .bool true) :: L) F (by kernel_rfl) fun a F => ?_
  refine l_do F rfl rfl (op_pure F (v0 := .bool ((wb : Int) == (wb : Int))) (v := .bool true) (by kernel_rfl) (eqlT rfl) fun a F => ?_)
  refine l_pure 7 (fun L => (4, .bool true) :: (45, .bool true) :: (44, .bool true) :: (43, .bool false) :: (42, .bool false) :: (41, .bool true) :: (40, .bool true) :: L) F (by kernel_rfl) fun a F => ?_
  refine l_then ?_
  refine wp_ret ?_
  exact fin F [.tmp 4] [.bool true] rfl ⟨by kernel_rfl, trivial⟩ (.bool true) rfl ⟨rfl, S.below (i := 0) rfl⟩
theorem worst_law (w : World) (As : Option Addr) (cs : Nat) (Ae : Option Addr) (ce : Nat) (x : Wb) (h : WebAt w As cs Ae ce x) (ok : x.Ok) (node : Int) : Calls Try.prog 12 #[.agg #[.slice As x.spots.length cs, .slice Ae x.edges.length ce], .int .i64 node] w fun e w' => e = .returned (.bool true) ∧ Below w.heap.size w w' := by
  obtain ⟨wa, wb, wo, hv⟩ : ∃ wa wb wo, worstP x node = (wa, wb, wo) := ⟨_, _, _, rfl⟩
  cases wo with
  | true => exact worst_law_true w As cs Ae ce x h ok node hv
  | false => exact worst_law_false w As cs Ae ce x h ok node hv
end Go.Proofs.Ytcfpbemoocegfaa
