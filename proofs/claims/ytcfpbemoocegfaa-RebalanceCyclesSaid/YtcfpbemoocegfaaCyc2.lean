/- Walks over plans: the document's way out and back. -/
import Derived.Test.YtcfpbemoocegfaaCyc1
import Derived.Test.YtcfpbemoocegfaaRBest8
namespace Go.Proofs.Ytcfpbemoocegfaa
set_option linter.unusedVariables false
set_option linter.unusedSimpArgs false
set_option linter.unnecessarySimpa false
open Go Go.RowKit

set_option maxRecDepth 100000 in
set_option maxHeartbeats 4000000 in
theorem rside_at28 (w : World) (As : Option Addr) (cs : Nat) (Ae : Option Addr) (ce : Nat) (x : Wb) (h : WebAt w As cs Ae ce x) (ok : x.Ok) (edge node : Int) {s : Int} (hv : sideAt x edge node = s) : Calls Try.prog 84 #[.agg #[.slice As x.spots.length cs, .slice Ae x.edges.length ce], .int .i64 edge, .int .i64 node] w fun e w' => e = .returned (.int .i64 s) ∧ Below w.heap.size w w' := by
 refine enter 32 Try.func84 rfl rfl rfl fun a F => ?_
 have S := Sat.pushRest w
 refine s_reg ?_
 refine l_do F rfl rfl (op_box S _ _ (.agg #[.slice As x.spots.length cs, .slice Ae x.edges.length ce]) F rfl (by kernel_rfl) fun b1 z S a F => ?_)
 refine l_pure 1 (fun L => (6, .int .i64 0) :: L) F (by kernel_rfl) fun a F => ?_
 refine l_then ?_
 refine wp_seq ?_
 refine s_reg ?_
 refine l_pure 1 (fun L => (8, .int .i64 edge) :: L) F (by kernel_rfl) fun a F => ?_
 by_cases ht2 : (edge : Int) < (0 : Int)
 ·
  skip
  obtain rfl := hv.symm.trans (sideAt_out (.inl ht2) node)
  refine l_do F rfl rfl (op_pure F (v0 := .bool (decide ((edge : Int) < (0 : Int)))) (v := .bool true) (by kernel_rfl) (lssT ht2) fun a F => ?_)
  refine l_pure 7 (fun L => (16, .bool true) :: (15, undef) :: (14, undef) :: (13, undef) :: (12, undef) :: (11, undef) :: (10, .bool true) :: L) F (by kernel_rfl) fun a F => ?_
  refine l_then ?_
  refine c_t F rfl ?_
  refine s_reg ?_
  refine l_pure 1 (fun L => (6, .int .i64 (-1)) :: L) F (by kernel_rfl) fun a F => ?_
  refine l_then ?_
  refine wp_ret ?_
  refine then_r (?_)
  exact fin F [.tmp 6] [.int .i64 (-1)] rfl ⟨by kernel_rfl, trivial⟩ (.int .i64 (-1)) rfl ⟨rfl, S.below (i := 0) rfl⟩
 ·
  skip
  refine l_do F rfl rfl (op_pure F (v0 := .bool (decide ((edge : Int) < (0 : Int)))) (v := .bool false) (by kernel_rfl) (lssF ht2) fun a F => ?_)
  refine l_pure 3 (fun L => (12, .pointer (some ⟨b1, 1, none⟩)) :: (11, .int .i64 edge) :: (10, .bool false) :: L) F (by kernel_rfl) fun a F => ?_
  refine l_do F rfl rfl (op_load _ _ (some ⟨b1, 0, none⟩) 1 (.slice Ae x.edges.length ce) F rfl (by kernel_rfl) (by kernel_rfl) (cBox S 1 rfl (j := 1) rfl) (fun a F => ?_))
  refine l_pure 1 (fun L => (14, .int .i64 (x.edges.length : Nat)) :: L) F (by kernel_rfl) fun a F => ?_
  by_cases ht3 : ((x.edges.length : Nat) : Int) ≤ (edge : Int)
  ·
   skip
   obtain rfl := hv.symm.trans (sideAt_out (.inr (by omega)) node)
   refine l_do F rfl rfl (op_pure F (v0 := .bool (decide ((edge : Int) ≥ ((x.edges.length : Nat) : Int)))) (v := .bool true) (by kernel_rfl) (geqT ht3) fun a F => ?_)
   refine l_pure 1 (fun L => (16, .bool true) :: L) F (by kernel_rfl) fun a F => ?_
   refine l_then ?_
   refine c_t F rfl ?_
   refine s_reg ?_
   refine l_pure 1 (fun L => (6, .int .i64 (-1)) :: L) F (by kernel_rfl) fun a F => ?_
   refine l_then ?_
   refine wp_ret ?_
   refine then_r (?_)
   exact fin F [.tmp 6] [.int .i64 (-1)] rfl ⟨by kernel_rfl, trivial⟩ (.int .i64 (-1)) rfl ⟨rfl, S.below (i := 0) rfl⟩
  ·
   skip
   obtain ⟨k, rfl⟩ : ∃ k : Nat, edge = k := ⟨edge.toNat, by omega⟩
   obtain ⟨ed, hed⟩ : ∃ ed, x.edges[k]? = some ed := ⟨_, List.getElem?_eq_getElem (by omega)⟩
   refine l_do F rfl rfl (op_pure F (v0 := .bool (decide (((k : Nat) : Int) ≥ ((x.edges.length : Nat) : Int)))) (v := .bool false) (by kernel_rfl) (geqF ht3) fun a F => ?_)
   refine l_pure 1 (fun L => (16, .bool false) :: L) F (by kernel_rfl) fun a F => ?_
   refine l_then ?_
   refine c_f F rfl ?_
   refine wp_skip ?_
   refine then_n ?_
   refine wp_seq ?_
   refine s_reg ?_
   refine l_pure 1 (fun L => (7, .int .i64 0) :: L) F (by kernel_rfl) fun a F => ?_
   refine l_then ?_
   refine wp_block ?_
   refine wp_loop_rounds 3 (rnd ?_)
   refine wp_seq ?_
   refine s_reg ?_
   refine l_pure 2 (fun L => (18, .bool true) :: (17, .int .i64 0) :: L) F (by kernel_rfl) fun a F => ?_
   refine l_then ?_
   refine c_t F rfl ?_
   refine wp_skip ?_
   refine then_n ?_
   refine wp_seq ?_
   refine wp_block ?_
   refine s_reg ?_
   refine l_pure 1 (fun L => (21, .pointer (some ⟨b1, 1, none⟩)) :: L) F (by kernel_rfl) fun a F => ?_
   refine l_do F rfl rfl (op_load _ _ (some ⟨b1, 0, none⟩) 1 (.slice Ae x.edges.length ce) F rfl (by kernel_rfl) (by kernel_rfl) (cBox S 1 rfl (j := 1) rfl) (fun a F => ?_))
   refine l_pure 2 (fun L => (24, .int .i64 0) :: (23, .int .i64 (k : Nat)) :: L) F (by kernel_rfl) fun a F => ?_
   refine l_do F rfl rfl (op_index _ 104 _ _ Ae x.edges.length ce k 8 .i64 F rfl (by kernel_rfl) (by kernel_rfl) (by kernel_rfl) (by kernel_rfl) (get_lt hed) (recs_some h.e (m := k) (get_lt hed)) (fun a F => ?_))
   refine l_do F rfl rfl (op_field _ _ _ Ae (k * 8) 0 F rfl (by kernel_rfl) (by kernel_rfl) (recs_some h.e (m := k) (get_lt hed)) (fun a F => ?_))
   refine l_do F rfl rfl (op_indexArr _ 3 _ _ Ae (k * 8) 2 0 1 .i64 F rfl (by kernel_rfl) (by kernel_rfl) (by kernel_rfl) (by kernel_rfl) (by decide) (recs_some h.e (m := k) (get_lt hed)) (fun a F => ?_))
   refine l_do F rfl rfl (op_load _ _ Ae (k * 8) (.int .i64 ed.a) F rfl (by kernel_rfl) (by kernel_rfl) (cOld S 0 edC_len h.e rfl 0 hed rfl) (fun a F => ?_))
   refine l_pure 1 (fun L => (29, .int .i64 node) :: L) F (by kernel_rfl) fun a F => ?_
   rcases side_cases ed node with ⟨hs0, hq0⟩ | ⟨hs0, hq0, hq1⟩ | ⟨hs0, hq0, hq1⟩
   ·
    skip
    obtain rfl := hv.symm.trans ((sideAt_in hed node).trans hs0)
    refine l_do F rfl rfl (op_pure F (v0 := .bool ((ed.a : Int) == (node : Int))) (v := .bool true) (by kernel_rfl) (eqlT (by omega)) fun a F => ?_)
    refine l_then ?_
    refine c_t F rfl ?_
    refine s_reg ?_
    refine l_pure 2 (fun L => (6, .int .i64 0) :: (31, .int .i64 0) :: L) F (by kernel_rfl) fun a F => ?_
    refine l_then ?_
    refine wp_ret ?_
    refine inb_r (then_r (then_r (inb_r (then_r (?_)))))
    exact fin F [.tmp 6] [.int .i64 0] rfl ⟨by kernel_rfl, trivial⟩ (.int .i64 0) rfl ⟨rfl, S.below (i := 0) rfl⟩
   ·
    skip
    obtain rfl := hv.symm.trans ((sideAt_in hed node).trans hs0)
    refine l_do F rfl rfl (op_pure F (v0 := .bool ((ed.a : Int) == (node : Int))) (v := .bool false) (by kernel_rfl) (eqlF (by omega)) fun a F => ?_)
    refine l_then ?_
    refine c_f F rfl ?_
    refine wp_skip ?_
    refine inb_n ?_
    refine then_n ?_
    refine wp_region_list ?_
    refine l_pure 3 (fun L => (7, .int .i64 1) :: (20, .int .i64 1) :: (19, .int .i64 0) :: L) F (by kernel_rfl) fun a F => ?_
    refine l_then ?_
    refine rnd ?_
    refine wp_seq ?_
    refine s_reg ?_
    refine l_pure 2 (fun L => (18, .bool true) :: (17, .int .i64 1) :: L) F (by kernel_rfl) fun a F => ?_
    refine l_then ?_
    refine c_t F rfl ?_
    refine wp_skip ?_
    refine then_n ?_
    refine wp_seq ?_
    refine wp_block ?_
    refine s_reg ?_
    refine l_pure 1 (fun L => (21, .pointer (some ⟨b1, 1, none⟩)) :: L) F (by kernel_rfl) fun a F => ?_
    refine l_do F rfl rfl (op_load _ _ (some ⟨b1, 0, none⟩) 1 (.slice Ae x.edges.length ce) F rfl (by kernel_rfl) (by kernel_rfl) (cBox S 1 rfl (j := 1) rfl) (fun a F => ?_))
    refine l_pure 2 (fun L => (24, .int .i64 1) :: (23, .int .i64 (k : Nat)) :: L) F (by kernel_rfl) fun a F => ?_
    refine l_do F rfl rfl (op_index _ 104 _ _ Ae x.edges.length ce k 8 .i64 F rfl (by kernel_rfl) (by kernel_rfl) (by kernel_rfl) (by kernel_rfl) (get_lt hed) (recs_some h.e (m := k) (get_lt hed)) (fun a F => ?_))
    refine l_do F rfl rfl (op_field _ _ _ Ae (k * 8) 0 F rfl (by kernel_rfl) (by kernel_rfl) (recs_some h.e (m := k) (get_lt hed)) (fun a F => ?_))
    refine l_do F rfl rfl (op_indexArr _ 3 _ _ Ae (k * 8) 2 1 1 .i64 F rfl (by kernel_rfl) (by kernel_rfl) (by kernel_rfl) (by kernel_rfl) (by decide) (recs_some h.e (m := k) (get_lt hed)) (fun a F => ?_))
    refine l_do F rfl rfl (op_load _ _ Ae (k * 8 + 1) (.int .i64 ed.b) F rfl (by kernel_rfl) (by kernel_rfl) (cOld S 0 edC_len h.e rfl 1 hed rfl) (fun a F => ?_))
    refine l_pure 1 (fun L => (29, .int .i64 node) :: L) F (by kernel_rfl) fun a F => ?_
    refine l_do F rfl rfl (op_pure F (v0 := .bool ((ed.b : Int) == (node : Int))) (v := .bool true) (by kernel_rfl) (eqlT (by omega)) fun a F => ?_)
    refine l_then ?_
    refine c_t F rfl ?_
    refine s_reg ?_
    refine l_pure 2 (fun L => (6, .int .i64 1) :: (31, .int .i64 1) :: L) F (by kernel_rfl) fun a F => ?_
    refine l_then ?_
    refine wp_ret ?_
    refine inb_r (then_r (then_r (inb_r (then_r (?_)))))
    exact fin F [.tmp 6] [.int .i64 1] rfl ⟨by kernel_rfl, trivial⟩ (.int .i64 1) rfl ⟨rfl, S.below (i := 0) rfl⟩
   ·
    skip
    obtain rfl := hv.symm.trans ((sideAt_in hed node).trans hs0)
    refine l_do F rfl rfl (op_pure F (v0 := .bool ((ed.a : Int) == (node : Int))) (v := .bool false) (by kernel_rfl) (eqlF (by omega)) fun a F => ?_)
    refine l_then ?_
    refine c_f F rfl ?_
    refine wp_skip ?_
    refine inb_n ?_
    refine then_n ?_
    refine wp_region_list ?_
    refine l_pure 3 (fun L => (7, .int .i64 1) :: (20, .int .i64 1) :: (19, .int .i64 0) :: L) F (by kernel_rfl) fun a F => ?_
    refine l_then ?_
    refine rnd ?_
    refine wp_seq ?_
    refine s_reg ?_
    refine l_pure 2 (fun L => (18, .bool true) :: (17, .int .i64 1) :: L) F (by kernel_rfl) fun a F => ?_
    refine l_then ?_
    refine c_t F rfl ?_
    refine wp_skip ?_
    refine then_n ?_
    refine wp_seq ?_
    refine wp_block ?_
    refine s_reg ?_
    refine l_pure 1 (fun L => (21, .pointer (some ⟨b1, 1, none⟩)) :: L) F (by kernel_rfl) fun a F => ?_
    refine l_do F rfl rfl (op_load _ _ (some ⟨b1, 0, none⟩) 1 (.slice Ae x.edges.length ce) F rfl (by kernel_rfl) (by kernel_rfl) (cBox S 1 rfl (j := 1) rfl) (fun a F => ?_))
    refine l_pure 2 (fun L => (24, .int .i64 1) :: (23, .int .i64 (k : Nat)) :: L) F (by kernel_rfl) fun a F => ?_
    refine l_do F rfl rfl (op_index _ 104 _ _ Ae x.edges.length ce k 8 .i64 F rfl (by kernel_rfl) (by kernel_rfl) (by kernel_rfl) (by kernel_rfl) (get_lt hed) (recs_some h.e (m := k) (get_lt hed)) (fun a F => ?_))
    refine l_do F rfl rfl (op_field _ _ _ Ae (k * 8) 0 F rfl (by kernel_rfl) (by kernel_rfl) (recs_some h.e (m := k) (get_lt hed)) (fun a F => ?_))
    refine l_do F rfl rfl (op_indexArr _ 3 _ _ Ae (k * 8) 2 1 1 .i64 F rfl (by kernel_rfl) (by kernel_rfl) (by kernel_rfl) (by kernel_rfl) (by decide) (recs_some h.e (m := k) (get_lt hed)) (fun a F => ?_))
    refine l_do F rfl rfl (op_load _ _ Ae (k * 8 + 1) (.int .i64 ed.b) F rfl (by kernel_rfl) (by kernel_rfl) (cOld S 0 edC_len h.e rfl 1 hed rfl) (fun a F => ?_))
    refine l_pure 1 (fun L => (29, .int .i64 node) :: L) F (by kernel_rfl) fun a F => ?_
    refine l_do F rfl rfl (op_pure F (v0 := .bool ((ed.b : Int) == (node : Int))) (v := .bool false) (by kernel_rfl) (eqlF (by omega)) fun a F => ?_)
    refine l_then ?_
    refine c_f F rfl ?_
    refine wp_skip ?_
    refine inb_n ?_
    refine then_n ?_
    refine wp_region_list ?_
    refine l_pure 3 (fun L => (7, .int .i64 2) :: (20, .int .i64 2) :: (19, .int .i64 1) :: L) F (by kernel_rfl) fun a F => ?_
    refine l_then ?_
    refine rnd ?_
    refine wp_seq ?_
    refine s_reg ?_
    refine l_pure 2 (fun L => (18, .bool false) :: (17, .int .i64 2) :: L) F (by kernel_rfl) fun a F => ?_
    refine l_then ?_
    refine c_f F rfl ?_
    refine wp_exit ?_
    refine then_x ?_
    refine then_x ?_
    refine inb_x ?_
    refine then_n ?_
    refine s_reg ?_
    refine l_pure 1 (fun L => (6, .int .i64 (-1)) :: L) F (by kernel_rfl) fun a F => ?_
    refine l_then ?_
    refine wp_ret ?_
    exact fin F [.tmp 6] [.int .i64 (-1)] rfl ⟨by kernel_rfl, trivial⟩ (.int .i64 (-1)) rfl ⟨rfl, S.below (i := 0) rfl⟩
theorem rbest_n {y : Wb} {n : Nat} (hn : n = y.edges.length) (w : World) (As : Option Addr) (cs : Nat) (Ae : Option Addr) (ce : Nat) (h : WebAt w As cs Ae ce y) (ok : y.Ok) (from_ to am : Int) (hua : U64 am) (hs1 : y.spots.length ≤ 1000) : Calls Try.prog 22 #[.agg #[.slice As y.spots.length cs, .slice Ae n ce], .int .i64 from_, .int .i64 to, .int .u64 am] w fun e w' => ∃ (m : RtM) (R' : List RtM), e = .returned (.tuple #[.agg #[.slice m.A1 m.r.nodes.length m.c1, .slice m.A2 m.r.edges.length m.c2, .slice m.A3 m.r.amts.length m.c3], .int .i64 (bestRt y from_ to am).2]) ∧ m.r = (bestRt y from_ to am).1 ∧ R'.map RtM.r = allRt y from_ to am ∧ ((bestRt y from_ to am).2 = 0 → m ∈ R') ∧ ((bestRt y from_ to am).2 ≠ 0 → m = noM) ∧ Sat w w' [rest w (· < w.heap.size), bag (R'.flatMap rtRows)] := by
  subst hn
  exact rbest_any w As cs Ae ce y h ok from_ to am hua hs1
theorem tk_nodes {N : List Int} {k : Nat} {a b n : Int} (h : N[k + 1]? = some n) : (a :: b :: List.take (k + 1) (List.drop 1 N) : List Int) = (a :: b :: List.take k (List.drop 1 N) : List Int) ++ ([n] : List Int) := by
  have h1 : (List.drop 1 N)[k]? = some n := by rw [List.getElem?_drop, Nat.add_comm]; exact h
  rw [List.take_add_one, h1]; simp
theorem tk_edges {E : List Int} {k : Nat} {a e : Int} (h : E[k]? = some e) : (a :: List.take (k + 1) E : List Int) = (a :: List.take k E : List Int) ++ ([e] : List Int) := by
  rw [List.take_add_one, h]; simp
theorem tk_amts {A : List Int} {k : Nat} {a : Int} (h : A[k]? = some a) : (List.take (k + 1) A : List Int) = (List.take k A : List Int) ++ ([a] : List Int) := by
  rw [List.take_add_one, h]; simp
set_option maxRecDepth 100000 in
set_option maxHeartbeats 4000000 in
theorem rcycle_at (w : World) (As : Option Addr) (cs : Nat) (Ae : Option Addr) (ce : Nat) (x : Wb) (h : WebAt w As cs Ae ce x) (ok : x.Ok) (node out in_ am : Int) (hua : U64 am) (hl1 : x.spots.length ≤ 1000) (hl2 : x.edges.length ≤ 1000) {r : Rt} {er : Int} (hq : cycP x node out in_ am = (r, er)) : Calls Try.prog 48 #[.agg #[.slice As x.spots.length cs, .slice Ae x.edges.length ce], .int .i64 node, .int .i64 out, .int .i64 in_, .int .u64 am] w fun e w' => ∃ A1 c1 A2 c2 A3 c3, e = .returned (.tuple #[.agg #[.slice A1 r.nodes.length c1, .slice A2 r.edges.length c2, .slice A3 r.amts.length c3], .int .i64 er]) ∧ Sat w w' [rest w (· < w.heap.size), row 3 1 (.slice A1 r.nodes.length c1) r.nodes.length (r.nodes.flatMap iC_i64), row 3 1 (.slice A2 r.edges.length c2) r.edges.length (r.edges.flatMap iC_i64), row 26 1 (.slice A3 r.amts.length c3) r.amts.length (r.amts.flatMap iC_u64)] := by
 refine enter 252 Try.func48 rfl rfl rfl fun a F => ?_
 have S := Sat.pushRest w
 refine s_reg ?_
 refine l_do F rfl rfl (op_box S _ _ (.agg #[.slice As x.spots.length cs, .slice Ae x.edges.length ce]) F rfl (by kernel_rfl) fun b1 z S a F => ?_)
 refine l_do F rfl rfl (op_alloc S _ (.agg #[.slice none 0 0, .slice none 0 0, .slice none 0 0]) rfl (by kernel_rfl) fun b2 z S a F => ?_)
 refine l_pure 1 (fun L => (11, .int .i64 0) :: L) F (by kernel_rfl) fun a F => ?_
 refine l_then ?_
 refine s_reg ?_
 refine l_do F rfl rfl (op_loadK _ _ (some ⟨b1, 0, none⟩) 0 [.slice As x.spots.length cs, .slice Ae x.edges.length ce] F rfl (by kernel_rfl) (by kernel_rfl) (by kernel_rfl) (by simp) (cBoxK S 1 rfl 0 (by kernel_rfl)) (fun a F => ?_))
 refine l_do F rfl rfl (op_fn F (by kernel_rfl) (rcheck_any _ As cs Ae ce x (h.move S rfl) ok) ?_)
 rintro e z ⟨rfl, hb⟩
 have S := S.grow hb
 refine ⟨_, rfl, ?_⟩
 intro a F
 refine l_pure 1 (fun L => (12, .int .i64 (chkP x)) :: L) F (by kernel_rfl) fun a F => ?_
 refine l_then ?_
 refine wp_seq ?_
 refine s_reg ?_
 refine l_pure 1 (fun L => (28, .int .i64 (chkP x)) :: L) F (by kernel_rfl) fun a F => ?_
 by_cases ht3 : (chkP x : Int) = (0 : Int)
 ·
  skip
  have hc := ht3
  refine l_do F rfl rfl (op_pure F (v0 := .bool ((chkP x : Int) != (0 : Int))) (v := .bool false) (by kernel_rfl) (neqF ht3) fun a F => ?_)
  refine l_then ?_
  refine c_f F rfl ?_
  refine wp_skip ?_
  refine then_n ?_
  refine cutK 6 (fun a z => ∃ (ko : Nat) (ki : Nat) (eo : Edg) (ei : Edg) (sv : Nat) (tv : Nat) (fst : Int) (lst : Int) (q : Int), (out = (ko : Int)) ∧ (in_ = (ki : Int)) ∧ (CycAt x node am ko ki eo ei sv tv) ∧ (¬ ei.can (1 - tv : Nat) < am) ∧ (overP (ei.base (1 - tv : Nat)) (ei.rate (1 - tv : Nat)) am = (q, 0)) ∧ (eo.endp (1 - sv : Nat) = fst) ∧ (ei.endp (1 - tv : Nat) = lst) ∧ (am ≤ q) ∧ (U64 q) ∧ Fr a 252 [(1, .int .i64 node), (2, .int .i64 out), (3, .int .i64 in_), (4, .int .u64 am), (5, .pointer (some ⟨b1, 0, none⟩)), (10, .pointer (some ⟨b2, 0, none⟩)), (13, .int .i64 (sv : Nat)), (15, .int .i64 fst), (16, .int .i64 lst), (17, .int .u64 q)] ∧ Sat w z [rest w (· < w.heap.size), box b1 25 [.slice As x.spots.length cs, .slice Ae x.edges.length ce], box b2 45 [.slice none 0 0, .slice none 0 0, .slice none 0 0]]) ?_ ?_
  ·
   rintro a z ⟨ko, ki, eo, ei, sv, tv, fst, lst, q, hf4, hf5, hf6, hf7, hf8, hf9, hf10, hf11, hf12, F, S⟩
   dsimp only [tailAt]
   have hout := hf4
   subst hout
   have hin := hf5
   subst hin
   have hcy := hf6
   have hroom := hf7
   have hov := hf8
   have hF := hf9
   have hL := hf10
   have hq1 := hf11
   have hqu := hf12
   have heo := hcy.ho
   have hei := hcy.hi
   have hsv2 := hcy.s2
   refine cutK 3 (fun a z => ∃ (bp : Nat) (mid : Rt) (q2 : Int) (D1 : Option Addr) (d1 : Nat) (D2 : Option Addr) (d2 : Nat) (D3 : Option Addr) (d3 : Nat), (cycMid x node fst lst q = (mid, q2, 0)) ∧ (am ≤ q2) ∧ (U64 q2) ∧ (mid.nodes.length ≤ 100) ∧ (mid.edges.length ≤ 100) ∧ (mid.amts.length ≤ 100) ∧ Fr a 252 [(1, .int .i64 node), (2, .int .i64 (ko : Nat)), (3, .int .i64 (ki : Nat)), (4, .int .u64 am), (5, .pointer (some ⟨b1, 0, none⟩)), (10, .pointer (some ⟨b2, 0, none⟩)), (13, .int .i64 (sv : Nat)), (17, .int .u64 q2), (19, .pointer (some ⟨bp, 0, none⟩)), (20, .slice D3 mid.amts.length d3)] ∧ Sat w z [rest w (· < w.heap.size), box b1 25 [.slice As x.spots.length cs, .slice Ae x.edges.length ce], box b2 45 [.slice none 0 0, .slice none 0 0, .slice none 0 0], box bp 45 [.slice D1 ((node :: fst :: List.drop 1 mid.nodes : List Int).length) d1, .slice D2 (((ko : Int) :: mid.edges : List Int).length) d2, .slice none 0 0], row 3 1 (.slice D1 ((node :: fst :: List.drop 1 mid.nodes : List Int).length) d1) ((node :: fst :: List.drop 1 mid.nodes : List Int).length) ((node :: fst :: List.drop 1 mid.nodes : List Int).flatMap iC_i64), row 3 1 (.slice D2 (((ko : Int) :: mid.edges : List Int).length) d2) (((ko : Int) :: mid.edges : List Int).length) (((ko : Int) :: mid.edges : List Int).flatMap iC_i64), row 26 1 (.slice D3 mid.amts.length d3) mid.amts.length (mid.amts.flatMap iC_u64)]) ?_ ?_
   ·
    rintro a z ⟨bp, mid, q2, D1, d1, D2, d2, D3, d3, hf13, hf14, hf15, hf16, hf17, hf18, F, S⟩
    dsimp only [tailAt]
    have hmid := hf13
    have hf5 := hf14
    have hf6 := hf15
    have hf6' := hf6
    unfold U64 at hf6'
    have hua' := hua
    unfold U64 at hua'
    have hm1 := hf16
    have hm2 := hf17
    have hm3 := hf18
    refine wp_seq ?_
    refine s_reg ?_
    refine l_pure 1 (fun L => (220, .pointer (some ⟨b1, 1, none⟩)) :: L) F (by kernel_rfl) fun a F => ?_
    refine l_do F rfl rfl (op_load _ _ (some ⟨b1, 0, none⟩) 1 (.slice Ae x.edges.length ce) F rfl (by kernel_rfl) (by kernel_rfl) (cBox S 1 rfl (j := 1) rfl) (fun a F => ?_))
    refine l_pure 2 (fun L => (223, .int .i64 (sv : Nat)) :: (222, .int .i64 (ko : Nat)) :: L) F (by kernel_rfl) fun a F => ?_
    refine l_do F rfl rfl (op_index _ 104 _ _ Ae x.edges.length ce ko 8 .i64 F rfl (by kernel_rfl) (by kernel_rfl) (by kernel_rfl) (by kernel_rfl) (get_lt heo) (recs_some h.e (m := ko) (get_lt heo)) (fun a F => ?_))
    refine l_do F rfl rfl (op_field _ _ _ Ae (ko * 8) 2 F rfl (by kernel_rfl) (by kernel_rfl) (recs_some h.e (m := ko) (get_lt heo)) (fun a F => ?_))
    refine l_do F rfl rfl (op_indexArr _ 26 _ _ Ae (ko * 8 + 2) 2 sv 1 .i64 F rfl (by kernel_rfl) (by kernel_rfl) (by kernel_rfl) (by kernel_rfl) (by omega) (recs_some h.e (m := ko) (get_lt heo)) (fun a F => ?_))
    refine l_do F rfl rfl (op_load _ _ Ae (ko * 8 + 2 + sv * 1) (.int .u64 (eo.can (sv : Nat))) F rfl (by kernel_rfl) (by kernel_rfl) (cell_off (cOld S 0 edC_len h.e rfl (2 + sv * 1) heo (edC_can eo (m := sv) (by omega))) (by omega)) (fun a F => ?_))
    refine l_pure 1 (fun L => (228, .int .u64 q2) :: L) F (by kernel_rfl) fun a F => ?_
    by_cases ht19 : (eo.can (sv : Nat) : Int) < (q2 : Int)
    ·
     skip
     obtain ⟨rfl, rfl⟩ := Prod.mk.inj (hq.symm.trans (cyc_room' hcy hroom hov hF hL hmid ht19))
     refine l_do F rfl rfl (op_pure F (v0 := .bool (decide ((eo.can (sv : Nat) : Int) < (q2 : Int)))) (v := .bool true) (by kernel_rfl) (lssT ht19) fun a F => ?_)
     refine l_then ?_
     refine c_t F rfl ?_
     refine s_reg ?_
     refine l_pure 1 (fun L => (230, .agg #[.slice none 0 0, .slice none 0 0, .slice none 0 0]) :: L) F (by kernel_rfl) fun a F => ?_
     refine l_do F rfl rfl (op_storeB S 2 _ _ _ b2 0 (.agg #[.slice none 0 0, .slice none 0 0, .slice none 0 0]) F rfl rfl (by kernel_rfl) (by kernel_rfl) (by kernel_rfl) (by kernel_rfl) (by kernel_rfl) fun z S a F => ?_)
     refine l_pure 1 (fun L => (11, .int .i64 28) :: L) F (by kernel_rfl) fun a F => ?_
     refine l_then ?_
     refine wp_ret ?_
     refine then_r (?_)
     exact fin F [.cell 10 45, .tmp 11] [.agg #[.slice none 0 0, .slice none 0 0, .slice none 0 0], .int .i64 28] rfl ⟨⟨_, by kernel_rfl, resK S 2 (cs := [.slice none 0 0, .slice none 0 0, .slice none 0 0]) rfl (by kernel_rfl) (by kernel_rfl) (by simp)⟩, by kernel_rfl, trivial⟩ (.tuple #[.agg #[.slice none 0 0, .slice none 0 0, .slice none 0 0], .int .i64 28]) rfl ⟨none, 0, none, 0, none, 0, rfl, (((S.nilRow 3 1).nilRow 3 1).nilRow 26 1).pick [0, 7, 8, 9] (by decide)⟩
    ·
     skip
     have hcan := ht19
     obtain ⟨hra, rfl⟩ := Prod.mk.inj (hq.symm.trans (cyc_ok' hcy hroom hov hF hL hmid hcan))
     refine l_do F rfl rfl (op_pure F (v0 := .bool (decide ((eo.can (sv : Nat) : Int) < (q2 : Int)))) (v := .bool false) (by kernel_rfl) (lssF ht19) fun a F => ?_)
     refine l_then ?_
     refine c_f F rfl ?_
     refine wp_skip ?_
     refine then_n ?_
     refine s_reg ?_
     refine l_pure 1 (fun L => (231, .pointer (some ⟨bp, 0, none⟩)) :: L) F (by kernel_rfl) fun a F => ?_
     refine l_do F rfl rfl (op_load _ _ (some ⟨bp, 0, none⟩) 0 (.slice D1 ((node :: fst :: List.drop 1 mid.nodes : List Int).length) d1) F rfl (by kernel_rfl) (by kernel_rfl) (cBox S 3 rfl (j := 0) rfl) (fun a F => ?_))
     refine l_pure 1 (fun L => (233, .int .i64 node) :: L) F (by kernel_rfl) fun a F => ?_
     refine l_do F rfl rfl (op_buildSlice S _ 1 _ 3 1 iC_i64 ([node] : List Int) F rfl (by kernel_rfl) (by kernel_rfl) (by kernel_rfl) (by unfold maxLen; omega) fun b20 z S a F => ?_)
     refine l_do F rfl rfl (op_append S 4 _ _ _ 3 (.int .i64 0) 1 8 (node :: fst :: List.drop 1 mid.nodes : List Int) ([node] : List Int) iC_i64 (some ⟨b20, 0, none⟩) 1 F iC_len_i64 (fun _ => rfl) rfl rfl (by kernel_rfl) (by kernel_rfl) rfl rfl rfl (by kernel_rfl) (by kernel_rfl) (row_none (S.rowOf (i := 7) rfl)) (src_row (S.rowOf (i := 7) rfl)) (by first | omega | (simp <;> omega)) fun A21 c22 z S a F => ?_)
     refine l_pure 1 (fun L => (236, .pointer (some ⟨bp, 0, none⟩)) :: L) F (by kernel_rfl) fun a F => ?_
     refine l_do F rfl rfl (op_storeB S 3 _ _ _ bp 0 (.slice A21 (((node :: fst :: List.drop 1 mid.nodes : List Int) ++ ([node] : List Int)).length) c22) F rfl rfl (by kernel_rfl) (by kernel_rfl) (by kernel_rfl) (by kernel_rfl) (by kernel_rfl) fun z S a F => ?_)
     have S : Sat w z [rest w (· < w.heap.size), box b1 25 [.slice As x.spots.length cs, .slice Ae x.edges.length ce], box b2 45 [.slice none 0 0, .slice none 0 0, .slice none 0 0], box bp 45 [.slice A21 (((node :: fst :: List.drop 1 mid.nodes : List Int) ++ ([node] : List Int)).length) c22, .slice D2 (((ko : Int) :: mid.edges : List Int).length) d2, .slice none 0 0], row 3 1 (.slice A21 (((node :: fst :: List.drop 1 mid.nodes : List Int) ++ ([node] : List Int)).length) c22) (((node :: fst :: List.drop 1 mid.nodes : List Int) ++ ([node] : List Int)).length) (((node :: fst :: List.drop 1 mid.nodes : List Int) ++ ([node] : List Int)).flatMap iC_i64), row 3 1 (.slice D2 (((ko : Int) :: mid.edges : List Int).length) d2) (((ko : Int) :: mid.edges : List Int).length) (((ko : Int) :: mid.edges : List Int).flatMap iC_i64), row 26 1 (.slice D3 mid.amts.length d3) mid.amts.length (mid.amts.flatMap iC_u64), row 3 1 (.slice (some ⟨b20, 0, none⟩) 1 1) 1 (([node] : List Int).flatMap iC_i64)] := S
     refine l_then ?_
     refine s_reg ?_
     refine l_pure 1 (fun L => (237, .pointer (some ⟨bp, 1, none⟩)) :: L) F (by kernel_rfl) fun a F => ?_
     refine l_do F rfl rfl (op_load _ _ (some ⟨bp, 0, none⟩) 1 (.slice D2 (((ko : Int) :: mid.edges : List Int).length) d2) F rfl (by kernel_rfl) (by kernel_rfl) (cBox S 3 rfl (j := 1) rfl) (fun a F => ?_))
     refine l_pure 1 (fun L => (239, .int .i64 (ki : Nat)) :: L) F (by kernel_rfl) fun a F => ?_
     refine l_do F rfl rfl (op_buildSlice S _ 1 _ 3 1 iC_i64 ([(ki : Nat)] : List Int) F rfl (by kernel_rfl) (by kernel_rfl) (by kernel_rfl) (by unfold maxLen; omega) fun b23 z S a F => ?_)
     refine l_do F rfl rfl (op_append S 5 _ _ _ 3 (.int .i64 0) 1 8 ((ko : Int) :: mid.edges : List Int) ([(ki : Nat)] : List Int) iC_i64 (some ⟨b23, 0, none⟩) 1 F iC_len_i64 (fun _ => rfl) rfl rfl (by kernel_rfl) (by kernel_rfl) rfl rfl rfl (by kernel_rfl) (by kernel_rfl) (row_none (S.rowOf (i := 8) rfl)) (src_row (S.rowOf (i := 8) rfl)) (by first | omega | (simp <;> omega)) fun A24 c25 z S a F => ?_)
     refine l_pure 1 (fun L => (242, .pointer (some ⟨bp, 1, none⟩)) :: L) F (by kernel_rfl) fun a F => ?_
     refine l_do F rfl rfl (op_storeB S 3 _ _ _ bp 1 (.slice A24 ((((ko : Int) :: mid.edges : List Int) ++ ([(ki : Nat)] : List Int)).length) c25) F rfl rfl (by kernel_rfl) (by kernel_rfl) (by kernel_rfl) (by kernel_rfl) (by kernel_rfl) fun z S a F => ?_)
     refine l_then ?_
     refine s_reg ?_
     refine l_pure 1 (fun L => (243, .int .u64 q2) :: L) F (by kernel_rfl) fun a F => ?_
     refine l_do F rfl rfl (op_buildSlice S _ 1 _ 26 1 iC_u64 ([q2] : List Int) F rfl (by kernel_rfl) (by kernel_rfl) (by kernel_rfl) (by unfold maxLen; omega) fun b26 z S a F => ?_)
     refine l_pure 1 (fun L => (245, .slice D3 mid.amts.length d3) :: L) F (by kernel_rfl) fun a F => ?_
     refine l_do F rfl rfl (op_append S 9 _ _ _ 26 (.int .u64 0) 1 8 ([q2] : List Int) mid.amts iC_u64 D3 d3 F iC_len_u64 (fun _ => rfl) rfl rfl (by kernel_rfl) (by kernel_rfl) rfl rfl rfl (by kernel_rfl) (by kernel_rfl) (row_none (S.rowOf (i := 6) rfl)) (src_row (S.rowOf (i := 6) rfl)) (by first | omega | (simp <;> omega)) fun A27 c28 z S a F => ?_)
     have S : Sat w z [rest w (· < w.heap.size), box b1 25 [.slice As x.spots.length cs, .slice Ae x.edges.length ce], box b2 45 [.slice none 0 0, .slice none 0 0, .slice none 0 0], box bp 45 [.slice A21 (((node :: fst :: List.drop 1 mid.nodes : List Int) ++ ([node] : List Int)).length) c22, .slice A24 ((((ko : Int) :: mid.edges : List Int) ++ ([(ki : Nat)] : List Int)).length) c25, .slice none 0 0], row 3 1 (.slice A21 (((node :: fst :: List.drop 1 mid.nodes : List Int) ++ ([node] : List Int)).length) c22) (((node :: fst :: List.drop 1 mid.nodes : List Int) ++ ([node] : List Int)).length) (((node :: fst :: List.drop 1 mid.nodes : List Int) ++ ([node] : List Int)).flatMap iC_i64), row 3 1 (.slice A24 ((((ko : Int) :: mid.edges : List Int) ++ ([(ki : Nat)] : List Int)).length) c25) ((((ko : Int) :: mid.edges : List Int) ++ ([(ki : Nat)] : List Int)).length) ((((ko : Int) :: mid.edges : List Int) ++ ([(ki : Nat)] : List Int)).flatMap iC_i64), row 26 1 (.slice D3 mid.amts.length d3) mid.amts.length (mid.amts.flatMap iC_u64), row 3 1 (.slice (some ⟨b20, 0, none⟩) 1 1) 1 (([node] : List Int).flatMap iC_i64), row 3 1 (.slice (some ⟨b23, 0, none⟩) 1 1) 1 (([(ki : Nat)] : List Int).flatMap iC_i64), row 26 1 (.slice A27 ((([q2] : List Int) ++ mid.amts).length) c28) ((([q2] : List Int) ++ mid.amts).length) ((([q2] : List Int) ++ mid.amts).flatMap iC_u64)] := S
     refine l_pure 1 (fun L => (247, .int .u64 am) :: L) F (by kernel_rfl) fun a F => ?_
     refine l_do F rfl rfl (op_buildSlice S _ 1 _ 26 1 iC_u64 ([am] : List Int) F rfl (by kernel_rfl) (by kernel_rfl) (by kernel_rfl) (by unfold maxLen; omega) fun b29 z S a F => ?_)
     refine l_do F rfl rfl (op_append S 9 _ _ _ 26 (.int .u64 0) 1 8 (([q2] : List Int) ++ mid.amts) ([am] : List Int) iC_u64 (some ⟨b29, 0, none⟩) 1 F iC_len_u64 (fun _ => rfl) rfl rfl (by kernel_rfl) (by kernel_rfl) rfl rfl rfl (by kernel_rfl) (by kernel_rfl) (row_none (S.rowOf (i := 10) rfl)) (src_row (S.rowOf (i := 10) rfl)) (by first | omega | (simp <;> omega)) fun A30 c31 z S a F => ?_)
     refine l_pure 1 (fun L => (250, .pointer (some ⟨bp, 2, none⟩)) :: L) F (by kernel_rfl) fun a F => ?_
     refine l_do F rfl rfl (op_storeB S 3 _ _ _ bp 2 (.slice A30 (((([q2] : List Int) ++ mid.amts) ++ ([am] : List Int)).length) c31) F rfl rfl (by kernel_rfl) (by kernel_rfl) (by kernel_rfl) (by kernel_rfl) (by kernel_rfl) fun z S a F => ?_)
     refine l_then ?_
     refine s_reg ?_
     refine l_do F rfl rfl (op_loadK _ _ (some ⟨bp, 0, none⟩) 0 [.slice A21 (((node :: fst :: List.drop 1 mid.nodes : List Int) ++ ([node] : List Int)).length) c22, .slice A24 ((((ko : Int) :: mid.edges : List Int) ++ ([(ki : Nat)] : List Int)).length) c25, .slice A30 (((([q2] : List Int) ++ mid.amts) ++ ([am] : List Int)).length) c31] F rfl (by kernel_rfl) (by kernel_rfl) (by kernel_rfl) (by simp) (cBoxK S 3 rfl 0 (by kernel_rfl)) (fun a F => ?_))
     refine l_do F rfl rfl (op_storeB S 2 _ _ _ b2 0 (.agg #[.slice A21 (((node :: fst :: List.drop 1 mid.nodes : List Int) ++ ([node] : List Int)).length) c22, .slice A24 ((((ko : Int) :: mid.edges : List Int) ++ ([(ki : Nat)] : List Int)).length) c25, .slice A30 (((([q2] : List Int) ++ mid.amts) ++ ([am] : List Int)).length) c31]) F rfl rfl (by kernel_rfl) (by kernel_rfl) (by kernel_rfl) (by kernel_rfl) (by kernel_rfl) fun z S a F => ?_)
     have S : Sat w z [rest w (· < w.heap.size), box b1 25 [.slice As x.spots.length cs, .slice Ae x.edges.length ce], box b2 45 [.slice A21 (((node :: fst :: List.drop 1 mid.nodes : List Int) ++ ([node] : List Int)).length) c22, .slice A24 ((((ko : Int) :: mid.edges : List Int) ++ ([(ki : Nat)] : List Int)).length) c25, .slice A30 (((([q2] : List Int) ++ mid.amts) ++ ([am] : List Int)).length) c31], box bp 45 [.slice A21 (((node :: fst :: List.drop 1 mid.nodes : List Int) ++ ([node] : List Int)).length) c22, .slice A24 ((((ko : Int) :: mid.edges : List Int) ++ ([(ki : Nat)] : List Int)).length) c25, .slice A30 (((([q2] : List Int) ++ mid.amts) ++ ([am] : List Int)).length) c31], row 3 1 (.slice A21 (((node :: fst :: List.drop 1 mid.nodes : List Int) ++ ([node] : List Int)).length) c22) (((node :: fst :: List.drop 1 mid.nodes : List Int) ++ ([node] : List Int)).length) (((node :: fst :: List.drop 1 mid.nodes : List Int) ++ ([node] : List Int)).flatMap iC_i64), row 3 1 (.slice A24 ((((ko : Int) :: mid.edges : List Int) ++ ([(ki : Nat)] : List Int)).length) c25) ((((ko : Int) :: mid.edges : List Int) ++ ([(ki : Nat)] : List Int)).length) ((((ko : Int) :: mid.edges : List Int) ++ ([(ki : Nat)] : List Int)).flatMap iC_i64), row 26 1 (.slice D3 mid.amts.length d3) mid.amts.length (mid.amts.flatMap iC_u64), row 3 1 (.slice (some ⟨b20, 0, none⟩) 1 1) 1 (([node] : List Int).flatMap iC_i64), row 3 1 (.slice (some ⟨b23, 0, none⟩) 1 1) 1 (([(ki : Nat)] : List Int).flatMap iC_i64), row 26 1 (.slice A30 (((([q2] : List Int) ++ mid.amts) ++ ([am] : List Int)).length) c31) (((([q2] : List Int) ++ mid.amts) ++ ([am] : List Int)).length) (((([q2] : List Int) ++ mid.amts) ++ ([am] : List Int)).flatMap iC_u64), row 26 1 (.slice (some ⟨b29, 0, none⟩) 1 1) 1 (([am] : List Int).flatMap iC_u64)] := S
     refine l_pure 1 (fun L => (11, .int .i64 0) :: L) F (by kernel_rfl) fun a F => ?_
     refine l_then ?_
     refine wp_ret ?_
     have hX4 : ((node :: fst :: List.drop 1 mid.nodes : List Int) ++ ([node] : List Int)) = r.nodes := by rw [hra]; simp
     have hN4 : ((node :: fst :: List.drop 1 mid.nodes : List Int) ++ ([node] : List Int)).length = r.nodes.length := congrArg List.length hX4
     have S := S.rowEq 4 hX4 hN4 rfl
     have hX5 : (((ko : Int) :: mid.edges : List Int) ++ ([(ki : Nat)] : List Int)) = r.edges := by rw [hra]; simp
     have hN5 : (((ko : Int) :: mid.edges : List Int) ++ ([(ki : Nat)] : List Int)).length = r.edges.length := congrArg List.length hX5
     have S := S.rowEq 5 hX5 hN5 rfl
     have hX9 : ((([q2] : List Int) ++ mid.amts) ++ ([am] : List Int)) = r.amts := by rw [hra]; simp
     have hN9 : ((([q2] : List Int) ++ mid.amts) ++ ([am] : List Int)).length = r.amts.length := congrArg List.length hX9
     have S := S.rowEq 9 hX9 hN9 rfl
     have S : Sat w z [rest w (· < w.heap.size), box b1 25 [.slice As x.spots.length cs, .slice Ae x.edges.length ce], box b2 45 [.slice A21 (((node :: fst :: List.drop 1 mid.nodes : List Int) ++ ([node] : List Int)).length) c22, .slice A24 ((((ko : Int) :: mid.edges : List Int) ++ ([(ki : Nat)] : List Int)).length) c25, .slice A30 (((([q2] : List Int) ++ mid.amts) ++ ([am] : List Int)).length) c31], box bp 45 [.slice A21 (((node :: fst :: List.drop 1 mid.nodes : List Int) ++ ([node] : List Int)).length) c22, .slice A24 ((((ko : Int) :: mid.edges : List Int) ++ ([(ki : Nat)] : List Int)).length) c25, .slice A30 (((([q2] : List Int) ++ mid.amts) ++ ([am] : List Int)).length) c31], row 3 1 (.slice A21 r.nodes.length c22) r.nodes.length (r.nodes.flatMap iC_i64), row 3 1 (.slice A24 r.edges.length c25) r.edges.length (r.edges.flatMap iC_i64), row 26 1 (.slice D3 mid.amts.length d3) mid.amts.length (mid.amts.flatMap iC_u64), row 3 1 (.slice (some ⟨b20, 0, none⟩) 1 1) 1 (([node] : List Int).flatMap iC_i64), row 3 1 (.slice (some ⟨b23, 0, none⟩) 1 1) 1 (([(ki : Nat)] : List Int).flatMap iC_i64), row 26 1 (.slice A30 r.amts.length c31) r.amts.length (r.amts.flatMap iC_u64), row 26 1 (.slice (some ⟨b29, 0, none⟩) 1 1) 1 (([am] : List Int).flatMap iC_u64)] := S
     exact fin F [.cell 10 45, .tmp 11] [.agg #[.slice A21 (((node :: fst :: List.drop 1 mid.nodes : List Int) ++ ([node] : List Int)).length) c22, .slice A24 ((((ko : Int) :: mid.edges : List Int) ++ ([(ki : Nat)] : List Int)).length) c25, .slice A30 (((([q2] : List Int) ++ mid.amts) ++ ([am] : List Int)).length) c31], .int .i64 0] rfl ⟨⟨_, by kernel_rfl, resK S 2 (cs := [.slice A21 (((node :: fst :: List.drop 1 mid.nodes : List Int) ++ ([node] : List Int)).length) c22, .slice A24 ((((ko : Int) :: mid.edges : List Int) ++ ([(ki : Nat)] : List Int)).length) c25, .slice A30 (((([q2] : List Int) ++ mid.amts) ++ ([am] : List Int)).length) c31]) rfl (by kernel_rfl) (by kernel_rfl) (by simp)⟩, by kernel_rfl, trivial⟩ (.tuple #[.agg #[.slice A21 (((node :: fst :: List.drop 1 mid.nodes : List Int) ++ ([node] : List Int)).length) c22, .slice A24 ((((ko : Int) :: mid.edges : List Int) ++ ([(ki : Nat)] : List Int)).length) c25, .slice A30 (((([q2] : List Int) ++ mid.amts) ++ ([am] : List Int)).length) c31], .int .i64 0]) rfl ⟨A21, c22, A24, c25, A30, c31, by rw [← hN4, ← hN5, ← hN9], S.pick [0, 4, 5, 9] (by decide)⟩
   ·
    intro hcut36
    dsimp only [tailAt] at hcut36
    refine s_reg ?_
    refine l_pure 2 (fun L => (105, .int .i64 fst) :: (104, .int .i64 node) :: L) F (by kernel_rfl) fun a F => ?_
    refine l_do F rfl rfl (op_buildSlice S _ 2 _ 3 1 iC_i64 ([node, fst] : List Int) F rfl (by kernel_rfl) (by kernel_rfl) (by kernel_rfl) (by unfold maxLen; omega) fun b32 z S a F => ?_)
    refine l_pure 1 (fun L => (107, .int .i64 (ko : Nat)) :: L) F (by kernel_rfl) fun a F => ?_
    refine l_do F rfl rfl (op_buildSlice S _ 1 _ 3 1 iC_i64 ([(ko : Nat)] : List Int) F rfl (by kernel_rfl) (by kernel_rfl) (by kernel_rfl) (by unfold maxLen; omega) fun b33 z S a F => ?_)
    refine l_pure 1 (fun L => (109, .agg #[.slice (some ⟨b32, 0, none⟩) 2 2, .slice (some ⟨b33, 0, none⟩) 1 1, .slice none 0 0]) :: L) F (by kernel_rfl) fun a F => ?_
    refine l_do F rfl rfl (op_alloc S _ (.agg #[.slice none 0 0, .slice none 0 0, .slice none 0 0]) rfl (by kernel_rfl) fun b34 z S a F => ?_)
    refine l_do F rfl rfl (op_storeB S 5 _ _ _ b34 0 (.agg #[.slice (some ⟨b32, 0, none⟩) 2 2, .slice (some ⟨b33, 0, none⟩) 1 1, .slice none 0 0]) F rfl rfl (by kernel_rfl) (by kernel_rfl) (by kernel_rfl) (by kernel_rfl) (by kernel_rfl) fun z S a F => ?_)
    refine l_then ?_
    refine s_reg ?_
    refine l_pure 1 (fun L => (20, .slice none 0 0) :: L) F (by kernel_rfl) fun a F => ?_
    refine l_then ?_
    refine wp_seq ?_
    refine s_reg ?_
    refine l_pure 2 (fun L => (111, .int .i64 lst) :: (110, .int .i64 fst) :: L) F (by kernel_rfl) fun a F => ?_
    by_cases ht35 : (fst : Int) = (lst : Int)
    ·
     skip
     have hfl := ht35
     have hmid := mid_none (x := x) (node := node) (asked := q) hfl
     refine l_do F rfl rfl (op_pure F (v0 := .bool ((fst : Int) != (lst : Int))) (v := .bool false) (by kernel_rfl) (neqF ht35) fun a F => ?_)
     refine l_then ?_
     refine c_f F rfl ?_
     refine wp_skip ?_
     refine then_n ?_
     have hX3 : ([node, fst] : List Int) = (node :: fst :: List.drop 1 noRt.nodes : List Int) := by simp [noRt]
     have S := S.rowEq 3 hX3 (show 2 = ((node :: fst :: List.drop 1 noRt.nodes : List Int)).length from congrArg List.length hX3) rfl
     have hX4 : ([(ko : Nat)] : List Int) = ((ko : Int) :: noRt.edges : List Int) := by simp [noRt]
     have S := S.rowEq 4 hX4 (show 1 = (((ko : Int) :: noRt.edges : List Int)).length from congrArg List.length hX4) rfl
     have S := S.nilRow 26 1
     have S : Sat w z [rest w (· < w.heap.size), box b1 25 [.slice As x.spots.length cs, .slice Ae x.edges.length ce], box b2 45 [.slice none 0 0, .slice none 0 0, .slice none 0 0], row 3 1 (.slice (some ⟨b32, 0, none⟩) ((node :: fst :: List.drop 1 noRt.nodes : List Int).length) 2) ((node :: fst :: List.drop 1 noRt.nodes : List Int).length) ((node :: fst :: List.drop 1 noRt.nodes : List Int).flatMap iC_i64), row 3 1 (.slice (some ⟨b33, 0, none⟩) (((ko : Int) :: noRt.edges : List Int).length) 1) (((ko : Int) :: noRt.edges : List Int).length) (((ko : Int) :: noRt.edges : List Int).flatMap iC_i64), box b34 45 [.slice (some ⟨b32, 0, none⟩) ((node :: fst :: List.drop 1 noRt.nodes : List Int).length) 2, .slice (some ⟨b33, 0, none⟩) (((ko : Int) :: noRt.edges : List Int).length) 1, .slice none 0 0], row 26 1 (.slice none noRt.amts.length 0) noRt.amts.length (noRt.amts.flatMap iC_u64)] := S
     exact hcut36 _ _ ⟨b34, noRt, q, (some ⟨b32, 0, none⟩), 2, (some ⟨b33, 0, none⟩), 1, none, 0, hmid, hq1, hqu, (by decide), (by decide), (by decide), F.sub ⟨by kernel_rfl, by kernel_rfl, by kernel_rfl, by kernel_rfl, by kernel_rfl, by kernel_rfl, by kernel_rfl, by kernel_rfl, by kernel_rfl, by kernel_rfl, trivial⟩, (S.pick [0, 1, 2, 5, 3, 4, 6] (by decide))⟩
    ·
     skip
     have hfl := ht35
     refine l_do F rfl rfl (op_pure F (v0 := .bool ((fst : Int) != (lst : Int))) (v := .bool true) (by kernel_rfl) (neqT ht35) fun a F => ?_)
     refine l_then ?_
     refine c_t F rfl ?_
     refine wp_seq ?_
     have S := S.pushEmp.pushEmp
     refine region_gx (fun D => fun ((b36, A37, c38, b39) : Nat × Option Addr × Nat × Nat) => [rest w (· < w.heap.size), box b1 25 [.slice As x.spots.length cs, .slice Ae x.edges.length ce], box b2 45 [.slice none 0 0, .slice none 0 0, .slice none 0 0], row 3 1 (.slice (some ⟨b32, 0, none⟩) 2 2) 2 (([node, fst] : List Int).flatMap iC_i64), row 3 1 (.slice (some ⟨b33, 0, none⟩) 1 1) 1 (([(ko : Nat)] : List Int).flatMap iC_i64), box b34 45 [.slice (some ⟨b32, 0, none⟩) 2 2, .slice (some ⟨b33, 0, none⟩) 1 1, .slice none 0 0], bif D 5 then row 104 8 (.slice A37 ((([] : List Edg) ++ x.edges).length) c38) ((([] : List Edg) ++ x.edges).length) ((([] : List Edg) ++ x.edges).flatMap edC) else (bif D 2 then row 104 8 (.slice (some ⟨b36, 0, none⟩) 0 0) 0 (([] : List Edg).flatMap edC) else emp), bif D 8 then box b39 25 [.slice As x.spots.length cs, .slice A37 ((([] : List Edg) ++ x.edges).length) c38] else (bif D 7 then box b39 25 [.slice none 0 0, .slice none 0 0] else emp)]) (fun ((b36, A37, c38, b39) : Nat × Option Addr × Nat × Nat) => [.pointer (some ⟨b1, 0, none⟩), .slice As x.spots.length cs, .slice (some ⟨b36, 0, none⟩) 0 0, .pointer (some ⟨b1, 1, none⟩), .slice Ae x.edges.length ce, .slice A37 ((([] : List Edg) ++ x.edges).length) c38, .agg #[.slice As x.spots.length cs, .slice A37 ((([] : List Edg) ++ x.edges).length) c38], .pointer (some ⟨b39, 0, none⟩), undef]) [(1, [], [8]), (2, [], [5, 8]), (4, [], [5, 8]), (5, [2, 4], [8]), (7, [], [8]), (8, [1, 2, 4, 5, 7], [])] (0, none, 0, 0) rfl (by kernel_rfl) (by kernel_rfl) F S.drew ?_ ?_ ?_ ?_ ?_
     · rintro ⟨b36, A37, c38, b39⟩; rfl
     · rintro ⟨b36, A37, c38, b39⟩; kernel_rfl
     ·
      intro D D' x h
      obtain ⟨b36, A37, c38, b39⟩ := x
      simp only [h 2 (by decide), h 5 (by decide), h 7 (by decide), h 8 (by decide)]
     ·
      refine ⟨?_, ?_⟩
      ·
       refine ⟨_, rfl, rfl, by kernel_rfl, ?_⟩
       rintro D ⟨b36, A37, c38, b39⟩ a z S F
       refine ⟨by kernel_rfl, ?_⟩
       exact op_load _ _ (some ⟨b1, 0, none⟩) 0 (.slice As x.spots.length cs) F rfl (by kernel_rfl) (by kernel_rfl) (cBox S 1 rfl (j := 0) rfl) (⟨(b36, A37, c38, b39), rfl, (SameB.refl _ _ rfl), S⟩)
      refine ⟨?_, ?_⟩
      ·
       refine ⟨_, rfl, rfl, by kernel_rfl, ?_⟩
       rintro D ⟨b36, A37, c38, b39⟩ a z S F
       refine ⟨by kernel_rfl, ?_⟩
       exact op_buildSliceF S 6 rfl _ 0 _ 104 8 edC ([] : List Edg) F rfl (by kernel_rfl) (by kernel_rfl) (by kernel_rfl) (by unfold maxLen; omega) fun y40 z S => ⟨(y40, A37, c38, b39), rfl, ⟨rfl, rfl, trivial, rfl, rfl, trivial, trivial, rfl, trivial, trivial⟩, S⟩
      refine ⟨?_, ?_⟩
      ·
       refine ⟨_, rfl, rfl, by kernel_rfl, ?_⟩
       rintro D ⟨b36, A37, c38, b39⟩ a z S F
       refine ⟨by kernel_rfl, ?_⟩
       exact op_load _ _ (some ⟨b1, 0, none⟩) 1 (.slice Ae x.edges.length ce) F rfl (by kernel_rfl) (by kernel_rfl) (cBox S 1 rfl (j := 1) rfl) (⟨(b36, A37, c38, b39), rfl, (SameB.refl _ _ rfl), S⟩)
      refine ⟨?_, ?_⟩
      ·
       refine ⟨_, rfl, rfl, by kernel_rfl, ?_⟩
       rintro D ⟨b36, A37, c38, b39⟩ a z S F
       refine ⟨by kernel_rfl, ?_⟩
       exact op_append S 6 _ _ _ 104 (.agg #[.int .i64 0, .int .i64 0, .int .u64 0, .int .u64 0, .int .u64 0, .int .u64 0, .int .u64 0, .int .u64 0]) 8 64 ([] : List Edg) x.edges edC Ae ce F edC_len (fun _ => rfl) rfl rfl (by kernel_rfl) (by kernel_rfl) rfl rfl rfl (by kernel_rfl) (by kernel_rfl) h.e.none_ (src_rest S (i := 0) rfl h.e.src (src_lt h.e.src)) (by first | omega | (simp <;> omega)) fun y41 y42 z S => ⟨(b36, y41, y42, b39), rfl, ⟨rfl, rfl, rfl, rfl, rfl, trivial, trivial, rfl, trivial, trivial⟩, S⟩
      refine ⟨?_, ?_⟩
      ·
       refine ⟨_, rfl, rfl, by kernel_rfl, ?_⟩
       rintro D ⟨b36, A37, c38, b39⟩ a z S F
       refine ⟨by kernel_rfl, ?_⟩
       exact op_allocF S 7 rfl _ (.agg #[.slice none 0 0, .slice none 0 0]) rfl (by kernel_rfl) fun y43 z S => ⟨(b36, A37, c38, y43), rfl, ⟨rfl, rfl, rfl, rfl, rfl, rfl, rfl, trivial, trivial, trivial⟩, S⟩
      refine ⟨?_, ?_⟩
      ·
       refine ⟨_, rfl, rfl, by kernel_rfl, ?_⟩
       rintro D ⟨b36, A37, c38, b39⟩ a z S F
       refine ⟨by kernel_rfl, ?_⟩
       exact op_storeB S 7 _ _ _ b39 0 (.agg #[.slice As x.spots.length cs, .slice A37 ((([] : List Edg) ++ x.edges).length) c38]) F rfl rfl (by kernel_rfl) (by kernel_rfl) (by kernel_rfl) (by kernel_rfl) (by kernel_rfl) fun z S => ⟨(b36, A37, c38, b39), rfl, (SameB.refl _ _ rfl), S⟩
      trivial
     ·
      rintro ⟨b36, A37, c38, b39⟩ a z F S
      have F := F.sub (l := [(1, .int .i64 node), (2, .int .i64 (ko : Nat)), (3, .int .i64 (ki : Nat)), (4, .int .u64 am), (5, .pointer (some ⟨b1, 0, none⟩)), (10, .pointer (some ⟨b2, 0, none⟩)), (13, .int .i64 (sv : Nat)), (15, .int .i64 fst), (16, .int .i64 lst), (17, .int .u64 q), (19, .pointer (some ⟨b34, 0, none⟩)), (20, .slice none 0 0), (21, .pointer (some ⟨b39, 0, none⟩))]) ⟨by kernel_rfl, by kernel_rfl, by kernel_rfl, by kernel_rfl, by kernel_rfl, by kernel_rfl, by kernel_rfl, by kernel_rfl, by kernel_rfl, by kernel_rfl, by kernel_rfl, by kernel_rfl, by kernel_rfl, trivial⟩
      have S : Sat w z [rest w (· < w.heap.size), box b1 25 [.slice As x.spots.length cs, .slice Ae x.edges.length ce], box b2 45 [.slice none 0 0, .slice none 0 0, .slice none 0 0], row 3 1 (.slice (some ⟨b32, 0, none⟩) 2 2) 2 (([node, fst] : List Int).flatMap iC_i64), row 3 1 (.slice (some ⟨b33, 0, none⟩) 1 1) 1 (([(ko : Nat)] : List Int).flatMap iC_i64), box b34 45 [.slice (some ⟨b32, 0, none⟩) 2 2, .slice (some ⟨b33, 0, none⟩) 1 1, .slice none 0 0], row 104 8 (.slice A37 ((([] : List Edg) ++ x.edges).length) c38) ((([] : List Edg) ++ x.edges).length) ((([] : List Edg) ++ x.edges).flatMap edC), box b39 25 [.slice As x.spots.length cs, .slice A37 ((([] : List Edg) ++ x.edges).length) c38]] := S
      refine then_n ?_
      refine wp_seq ?_
      refine s_reg ?_
      refine l_pure 1 (fun L => (22, .int .i64 0) :: L) F (by kernel_rfl) fun a F => ?_
      refine l_then ?_
      refine wp_block ?_
      have S : Sat w z [rest w (· < w.heap.size), box b1 25 [.slice As x.spots.length cs, .slice Ae x.edges.length ce], box b2 45 [.slice none 0 0, .slice none 0 0, .slice none 0 0], row 3 1 (.slice (some ⟨b32, 0, none⟩) 2 2) 2 (([node, fst] : List Int).flatMap iC_i64), row 3 1 (.slice (some ⟨b33, 0, none⟩) 1 1) 1 (([(ko : Nat)] : List Int).flatMap iC_i64), box b34 45 [.slice (some ⟨b32, 0, none⟩) 2 2, .slice (some ⟨b33, 0, none⟩) 1 1, .slice none 0 0], row 104 8 (.slice A37 x.edges.length c38) x.edges.length (x.edges.flatMap edC), box b39 25 [.slice As x.spots.length cs, .slice A37 x.edges.length c38]] := S
      refine wp_loop_m (fun m a z => ∃ (i : Nat), m = x.edges.length - i ∧ (i ≤ x.edges.length) ∧ Fr a 252 [(1, .int .i64 node), (2, .int .i64 (ko : Nat)), (3, .int .i64 (ki : Nat)), (4, .int .u64 am), (5, .pointer (some ⟨b1, 0, none⟩)), (10, .pointer (some ⟨b2, 0, none⟩)), (13, .int .i64 (sv : Nat)), (15, .int .i64 fst), (16, .int .i64 lst), (17, .int .u64 q), (19, .pointer (some ⟨b34, 0, none⟩)), (20, .slice none 0 0), (21, .pointer (some ⟨b39, 0, none⟩)), (22, .int .i64 (i : Nat))] ∧ Sat w z [rest w (· < w.heap.size), box b1 25 [.slice As x.spots.length cs, .slice Ae x.edges.length ce], box b2 45 [.slice none 0 0, .slice none 0 0, .slice none 0 0], row 3 1 (.slice (some ⟨b32, 0, none⟩) 2 2) 2 (([node, fst] : List Int).flatMap iC_i64), row 3 1 (.slice (some ⟨b33, 0, none⟩) 1 1) 1 (([(ko : Nat)] : List Int).flatMap iC_i64), box b34 45 [.slice (some ⟨b32, 0, none⟩) 2 2, .slice (some ⟨b33, 0, none⟩) 1 1, .slice none 0 0], row 104 8 (.slice A37 x.edges.length c38) x.edges.length ((cutT node x.edges i).flatMap edC), box b39 25 [.slice As x.spots.length cs, .slice A37 x.edges.length c38]]) _ ⟨0, rfl, Nat.zero_le _, F.sub ⟨by kernel_rfl, by kernel_rfl, by kernel_rfl, by kernel_rfl, by kernel_rfl, by kernel_rfl, by kernel_rfl, by kernel_rfl, by kernel_rfl, by kernel_rfl, by kernel_rfl, by kernel_rfl, by kernel_rfl, by kernel_rfl, trivial⟩, (S.rowX 6 (show x.edges = (cutT node x.edges 0) from (cutT_zero node x.edges).symm) rfl)⟩ ?_
      rintro m a z ⟨i, hm, hf44, F, S⟩
      refine wp_seq ?_
      refine s_reg ?_
      refine l_pure 2 (fun L => (121, .pointer (some ⟨b39, 1, none⟩)) :: (120, .int .i64 (i : Nat)) :: L) F (by kernel_rfl) fun a F => ?_
      refine l_do F rfl rfl (op_load _ _ (some ⟨b39, 0, none⟩) 1 (.slice A37 x.edges.length c38) F rfl (by kernel_rfl) (by kernel_rfl) (cBox S 7 rfl (j := 1) rfl) (fun a F => ?_))
      refine l_pure 1 (fun L => (123, .int .i64 (x.edges.length : Nat)) :: L) F (by kernel_rfl) fun a F => ?_
      by_cases ht45 : ((i : Nat) : Int) < ((x.edges.length : Nat) : Int)
      ·
       skip
       obtain ⟨ed, hed⟩ : ∃ ed, x.edges[i]? = some ed := ⟨_, List.getElem?_eq_getElem (by omega)⟩
       refine l_do F rfl rfl (op_pure F (v0 := .bool (decide (((i : Nat) : Int) < ((x.edges.length : Nat) : Int)))) (v := .bool true) (by kernel_rfl) (lssT ht45) fun a F => ?_)
       refine l_then ?_
       refine c_t F rfl ?_
       refine wp_skip ?_
       refine then_n ?_
       refine wp_seq ?_
       refine wp_block ?_
       refine s_reg ?_
       refine l_do F rfl rfl (op_loadK _ _ (some ⟨b1, 0, none⟩) 0 [.slice As x.spots.length cs, .slice Ae x.edges.length ce] F rfl (by kernel_rfl) (by kernel_rfl) (by kernel_rfl) (by simp) (cBoxK S 1 rfl 0 (by kernel_rfl)) (fun a F => ?_))
       refine l_pure 2 (fun L => (129, .int .i64 node) :: (128, .int .i64 (i : Nat)) :: L) F (by kernel_rfl) fun a F => ?_
       rcases sideN_cases ed node with ⟨hs, ha, hb1⟩ | ⟨s, hs2, hs, hse⟩
       ·
        skip
        refine l_do F rfl rfl (op_fn F (by kernel_rfl) (rside_at28 _ As cs Ae ce x (h.move S rfl) ok (i : Nat) node ((sideAt_in hed node).trans hs)) ?_)
        rintro e z ⟨rfl, hb⟩
        have S := S.grow hb
        refine ⟨_, rfl, ?_⟩
        intro a F
        refine l_pure 1 (fun L => (131, .bool false) :: L) F (by kernel_rfl) fun a F => ?_
        refine l_then ?_
        refine c_f F rfl ?_
        refine wp_skip ?_
        refine inb_n ?_
        refine then_n ?_
        refine wp_region_list ?_
        refine l_pure 1 (fun L => (125, .int .i64 (i : Nat)) :: L) F (by kernel_rfl) fun a F => ?_
        refine l_do F rfl rfl (op_pure F (v0 := .int .i64 (IntKind.wrap .i64 ((i : Nat) + 1))) (v := .int .i64 (i + 1 : Nat)) (by kernel_rfl) (wrn_i64 (by omega) (by omega) (by omega)) fun a F => ?_)
        refine l_pure 1 (fun L => (22, .int .i64 (i + 1 : Nat)) :: L) F (by kernel_rfl) fun a F => ?_
        refine l_then ?_
        have S := S.rowX 6 (show (cutT node x.edges i) = (cutT node x.edges (i + 1)) from (cutT_same hed hs)) rfl
        exact ⟨_, (by omega), i + 1, rfl, (by omega), F.sub ⟨by kernel_rfl, by kernel_rfl, by kernel_rfl, by kernel_rfl, by kernel_rfl, by kernel_rfl, by kernel_rfl, by kernel_rfl, by kernel_rfl, by kernel_rfl, by kernel_rfl, by kernel_rfl, by kernel_rfl, by kernel_rfl, trivial⟩, S⟩
       ·
        skip
        refine l_do F rfl rfl (op_fn F (by kernel_rfl) (rside_at28 _ As cs Ae ce x (h.move S rfl) ok (i : Nat) node ((sideAt_in hed node).trans hs)) ?_)
        rintro e z ⟨rfl, hb⟩
        have S := S.grow hb
        refine ⟨_, rfl, ?_⟩
        intro a F
        refine l_do F rfl rfl (op_pure F (v0 := .bool (decide (((s : Nat) : Int) ≥ (0 : Int)))) (v := .bool true) (by kernel_rfl) (geqT (by omega)) fun a F => ?_)
        refine l_then ?_
        refine c_t F rfl ?_
        refine wp_region_list ?_
        refine l_pure 1 (fun L => (132, .pointer (some ⟨b39, 1, none⟩)) :: L) F (by kernel_rfl) fun a F => ?_
        refine l_do F rfl rfl (op_load _ _ (some ⟨b39, 0, none⟩) 1 (.slice A37 x.edges.length c38) F rfl (by kernel_rfl) (by kernel_rfl) (cBox S 7 rfl (j := 1) rfl) (fun a F => ?_))
        refine l_pure 2 (fun L => (135, .agg #[.int .u64 0, .int .u64 0]) :: (134, .int .i64 (i : Nat)) :: L) F (by kernel_rfl) fun a F => ?_
        refine l_do F rfl rfl (op_index _ 104 _ _ A37 x.edges.length c38 i 8 .i64 F rfl (by kernel_rfl) (by kernel_rfl) (by kernel_rfl) (by kernel_rfl) (by have h9 := get_lt (cutT_get (n := node) hed); (try simp only [List.length_set] at h9); omega) (row_some S 6 rfl (m := i) (by have h9 := get_lt (cutT_get (n := node) hed); (try simp only [List.length_set] at h9); omega)) (fun a F => ?_))
        refine l_do F rfl rfl (op_field _ _ _ A37 (i * 8) 2 F rfl (by kernel_rfl) (by kernel_rfl) (row_some S 6 rfl (m := i) (by have h9 := get_lt (cutT_get (n := node) hed); (try simp only [List.length_set] at h9); omega)) (fun a F => ?_))
        refine l_do F rfl rfl (op_storeRec S 6 _ _ _ A37 i 8 2 (.agg #[.int .u64 0, .int .u64 0]) (⟨ed.a, ed.b, 0, 0, ed.b0, ed.r0, ed.b1, ed.r1⟩ : Edg) F edC_len (cutT_get (n := node) hed) rfl rfl (by kernel_rfl) (by kernel_rfl) (by kernel_rfl) (by kernel_rfl) (by kernel_rfl) (by kernel_rfl) (by kernel_rfl) fun z S a F => ?_)
        refine l_nil (inb_n ?_)
        refine then_n ?_
        refine wp_region_list ?_
        refine l_pure 1 (fun L => (125, .int .i64 (i : Nat)) :: L) F (by kernel_rfl) fun a F => ?_
        refine l_do F rfl rfl (op_pure F (v0 := .int .i64 (IntKind.wrap .i64 ((i : Nat) + 1))) (v := .int .i64 (i + 1 : Nat)) (by kernel_rfl) (wrn_i64 (by omega) (by omega) (by omega)) fun a F => ?_)
        refine l_pure 1 (fun L => (22, .int .i64 (i + 1 : Nat)) :: L) F (by kernel_rfl) fun a F => ?_
        refine l_then ?_
        have S := S.rowX 6 (show ((cutT node x.edges i).set i (⟨ed.a, ed.b, 0, 0, ed.b0, ed.r0, ed.b1, ed.r1⟩ : Edg)) = (cutT node x.edges (i + 1)) from (by rw [← cutT_set hed, cutE_at (by omega)])) rfl
        exact ⟨_, (by omega), i + 1, rfl, (by omega), F.sub ⟨by kernel_rfl, by kernel_rfl, by kernel_rfl, by kernel_rfl, by kernel_rfl, by kernel_rfl, by kernel_rfl, by kernel_rfl, by kernel_rfl, by kernel_rfl, by kernel_rfl, by kernel_rfl, by kernel_rfl, by kernel_rfl, trivial⟩, S⟩
      ·
       skip
       refine l_do F rfl rfl (op_pure F (v0 := .bool (decide (((i : Nat) : Int) < ((x.edges.length : Nat) : Int)))) (v := .bool false) (by kernel_rfl) (lssF ht45) fun a F => ?_)
       refine l_then ?_
       refine c_f F rfl ?_
       refine wp_exit ?_
       refine then_x ?_
       refine then_x ?_
       refine inb_x ?_
       refine then_n ?_
       refine s_reg ?_
       refine l_do F rfl rfl (op_loadK _ _ (some ⟨b39, 0, none⟩) 0 [.slice As x.spots.length cs, .slice A37 x.edges.length c38] F rfl (by kernel_rfl) (by kernel_rfl) (by kernel_rfl) (by simp) (cBoxK S 7 rfl 0 (by kernel_rfl)) (fun a F => ?_))
       refine l_pure 3 (fun L => (142, .int .u64 q) :: (141, .int .i64 lst) :: (140, .int .i64 fst) :: L) F (by kernel_rfl) fun a F => ?_
       have hX9 : (cutT node x.edges i) = (withoutP x node).edges := cutT_all node x.edges (by omega)
       have hwl : (withoutP x node).edges.length ≤ 1000 := by rw [(without_len x node).2]; exact hl2
       have S := S.rowEq 6 hX9 (without_len x node).2.symm rfl
       refine l_do F rfl rfl (op_fn F (by kernel_rfl) (rbest_n (without_len x node).2.symm _ As cs A37 c38 ⟨(h.s.mono (src_rest S (i := 0) rfl h.s.src (src_lt h.s.src))), Recs.ofRow (S.rowOf (i := 6) rfl) (by omega)⟩ (without_ok ok node) fst lst q hqu hl1) ?_)
       rintro e z ⟨mb, R3, rfl, hmb1, hmbR, hmb3, hmb4, g⟩
       have S := S.pushThings g
       refine ⟨_, rfl, ?_⟩
       intro a F
       refine l_pure 3 (fun L => (145, .int .i64 ((bestRt (withoutP x node) fst lst q).2)) :: (144, .agg #[.slice mb.A1 mb.r.nodes.length mb.c1, .slice mb.A2 mb.r.edges.length mb.c2, .slice mb.A3 mb.r.amts.length mb.c3]) :: (138, .tuple #[.agg #[.slice mb.A1 mb.r.nodes.length mb.c1, .slice mb.A2 mb.r.edges.length mb.c2, .slice mb.A3 mb.r.amts.length mb.c3], .int .i64 ((bestRt (withoutP x node) fst lst q).2)]) :: L) F (by kernel_rfl) fun a F => ?_
       refine l_do F rfl rfl (op_alloc S _ (.agg #[.slice none 0 0, .slice none 0 0, .slice none 0 0]) rfl (by kernel_rfl) fun b46 z S a F => ?_)
       refine l_do F rfl rfl (op_storeB S 9 _ _ _ b46 0 (.agg #[.slice mb.A1 mb.r.nodes.length mb.c1, .slice mb.A2 mb.r.edges.length mb.c2, .slice mb.A3 mb.r.amts.length mb.c3]) F rfl rfl (by kernel_rfl) (by kernel_rfl) (by kernel_rfl) (by kernel_rfl) (by kernel_rfl) fun z S a F => ?_)
       have S : Sat w z [rest w (· < w.heap.size), box b1 25 [.slice As x.spots.length cs, .slice Ae x.edges.length ce], box b2 45 [.slice none 0 0, .slice none 0 0, .slice none 0 0], row 3 1 (.slice (some ⟨b32, 0, none⟩) 2 2) 2 (([node, fst] : List Int).flatMap iC_i64), row 3 1 (.slice (some ⟨b33, 0, none⟩) 1 1) 1 (([(ko : Nat)] : List Int).flatMap iC_i64), box b34 45 [.slice (some ⟨b32, 0, none⟩) 2 2, .slice (some ⟨b33, 0, none⟩) 1 1, .slice none 0 0], row 104 8 (.slice A37 (((withoutP x node).edges).length) c38) (((withoutP x node).edges).length) (((withoutP x node).edges).flatMap edC), box b39 25 [.slice As x.spots.length cs, .slice A37 x.edges.length c38], bag (R3.flatMap rtRows), box b46 45 [.slice mb.A1 mb.r.nodes.length mb.c1, .slice mb.A2 mb.r.edges.length mb.c2, .slice mb.A3 mb.r.amts.length mb.c3]] := S
       refine l_pure 1 (fun L => (24, .int .i64 ((bestRt (withoutP x node) fst lst q).2)) :: L) F (by kernel_rfl) fun a F => ?_
       refine l_then ?_
       refine wp_seq ?_
       refine s_reg ?_
       refine l_pure 1 (fun L => (146, .int .i64 ((bestRt (withoutP x node) fst lst q).2)) :: L) F (by kernel_rfl) fun a F => ?_
       by_cases ht47 : ((bestRt (withoutP x node) fst lst q).2 : Int) = (0 : Int)
       ·
        skip
        have hb0 := ht47
        have hmbm := hmb3 hb0
        obtain ⟨kb, hkb, hkb2⟩ := List.getElem_of_mem hmbm
        have hgm := good_of hmbR (i := kb) (m := mb) (by rw [List.getElem?_eq_getElem hkb, hkb2])
        have hr9 := (best_of hb0 hmb1).1
        have hs9 := good_snd (without_ok ok node) hqu hgm.2.1 hr9
        have hn1 := hs9.way.len
        have hn2 := hs9.alen
        have hn3 := hs9.few
        have hn4 := hs9.one
        have hbest : (bestRt (withoutP x node) fst lst q) = (mb.r, 0) := by rw [hmb1, ← hb0]
        obtain ⟨j, ej, sj, hej0, hej, hs5, hsj2⟩ := first_edge hs9
        obtain ⟨um, hum⟩ := hgm.2.2.2
        have hokj := ok.e ej (List.mem_of_getElem? hej)
        have huu := hs9.au um (List.mem_of_getElem? hum)
        have hge : q ≤ um := by
          by_cases h9 : mb.r.edges.length = 1
          · have h8 := hs9.alast
            rw [h9, show 1 - 1 = 0 from rfl, hum] at h8
            injection h8 with h8
            omega
          · exact hs9.fall 0 (mb.r.edges.length - 1) um _ (by omega) hum hs9.alast
        refine l_do F rfl rfl (op_pure F (v0 := .bool (((bestRt (withoutP x node) fst lst q).2 : Int) != (0 : Int))) (v := .bool false) (by kernel_rfl) (neqF ht47) fun a F => ?_)
        refine l_then ?_
        refine c_f F rfl ?_
        refine wp_skip ?_
        refine then_n ?_
        refine wp_seq ?_
        refine s_reg ?_
        refine l_pure 1 (fun L => (150, .pointer (some ⟨b46, 1, none⟩)) :: L) F (by kernel_rfl) fun a F => ?_
        refine l_do F rfl rfl (op_load _ _ (some ⟨b46, 0, none⟩) 1 (.slice mb.A2 mb.r.edges.length mb.c2) F rfl (by kernel_rfl) (by kernel_rfl) (cBox S 9 rfl (j := 1) rfl) (fun a F => ?_))
        refine l_pure 1 (fun L => (152, .int .i64 (mb.r.edges.length : Nat)) :: L) F (by kernel_rfl) fun a F => ?_
        by_cases ht48 : (5 : Int) < ((mb.r.edges.length : Nat) : Int)
        ·
         skip
         obtain ⟨rfl, rfl⟩ := Prod.mk.inj (hq.symm.trans (cyc_mid' hcy hroom hov hF hL (mid_long hfl hbest (by omega)) (by decide)))
         refine l_do F rfl rfl (op_pure F (v0 := .bool (decide (((mb.r.edges.length : Nat) : Int) > (5 : Int)))) (v := .bool true) (by kernel_rfl) (gtrT ht48) fun a F => ?_)
         refine l_then ?_
         refine c_t F rfl ?_
         refine s_reg ?_
         refine l_pure 1 (fun L => (154, .agg #[.slice none 0 0, .slice none 0 0, .slice none 0 0]) :: L) F (by kernel_rfl) fun a F => ?_
         refine l_do F rfl rfl (op_storeB S 2 _ _ _ b2 0 (.agg #[.slice none 0 0, .slice none 0 0, .slice none 0 0]) F rfl rfl (by kernel_rfl) (by kernel_rfl) (by kernel_rfl) (by kernel_rfl) (by kernel_rfl) fun z S a F => ?_)
         refine l_pure 1 (fun L => (11, .int .i64 27) :: L) F (by kernel_rfl) fun a F => ?_
         refine l_then ?_
         refine wp_ret ?_
         refine then_r (then_r (?_))
         exact fin F [.cell 10 45, .tmp 11] [.agg #[.slice none 0 0, .slice none 0 0, .slice none 0 0], .int .i64 27] rfl ⟨⟨_, by kernel_rfl, resK S 2 (cs := [.slice none 0 0, .slice none 0 0, .slice none 0 0]) rfl (by kernel_rfl) (by kernel_rfl) (by simp)⟩, by kernel_rfl, trivial⟩ (.tuple #[.agg #[.slice none 0 0, .slice none 0 0, .slice none 0 0], .int .i64 27]) rfl ⟨none, 0, none, 0, none, 0, rfl, (((S.nilRow 3 1).nilRow 3 1).nilRow 26 1).pick [0, 10, 11, 12] (by decide)⟩
        ·
         skip
         have hsh := ht48
         refine l_do F rfl rfl (op_pure F (v0 := .bool (decide (((mb.r.edges.length : Nat) : Int) > (5 : Int)))) (v := .bool false) (by kernel_rfl) (gtrF ht48) fun a F => ?_)
         refine l_then ?_
         refine c_f F rfl ?_
         refine wp_skip ?_
         refine then_n ?_
         refine wp_seq ?_
         refine s_reg ?_
         refine l_pure 1 (fun L => (25, .int .i64 0) :: L) F (by kernel_rfl) fun a F => ?_
         refine l_then ?_
         refine wp_block ?_
         have S := S.rowEq 3 (show ([node, fst] : List Int) = (node :: fst :: List.take 0 (List.drop 1 mb.r.nodes) : List Int) from rfl) (show 2 = ((node :: fst :: List.take 0 (List.drop 1 mb.r.nodes) : List Int)).length from rfl) rfl
         have S := S.rowEq 4 (show ([(ko : Nat)] : List Int) = ((ko : Int) :: List.take 0 mb.r.edges : List Int) from rfl) (show 1 = (((ko : Int) :: List.take 0 mb.r.edges : List Int)).length from rfl) rfl
         have S := S.nilRow 26 1
         have S : Sat w z [rest w (· < w.heap.size), box b1 25 [.slice As x.spots.length cs, .slice Ae x.edges.length ce], box b2 45 [.slice none 0 0, .slice none 0 0, .slice none 0 0], row 3 1 (.slice (some ⟨b32, 0, none⟩) ((node :: fst :: List.take 0 (List.drop 1 mb.r.nodes) : List Int).length) 2) ((node :: fst :: List.take 0 (List.drop 1 mb.r.nodes) : List Int).length) ((node :: fst :: List.take 0 (List.drop 1 mb.r.nodes) : List Int).flatMap iC_i64), row 3 1 (.slice (some ⟨b33, 0, none⟩) (((ko : Int) :: List.take 0 mb.r.edges : List Int).length) 1) (((ko : Int) :: List.take 0 mb.r.edges : List Int).length) (((ko : Int) :: List.take 0 mb.r.edges : List Int).flatMap iC_i64), box b34 45 [.slice (some ⟨b32, 0, none⟩) 2 2, .slice (some ⟨b33, 0, none⟩) 1 1, .slice none 0 0], row 104 8 (.slice A37 (((withoutP x node).edges).length) c38) (((withoutP x node).edges).length) (((withoutP x node).edges).flatMap edC), box b39 25 [.slice As x.spots.length cs, .slice A37 x.edges.length c38], bag (R3.flatMap rtRows), box b46 45 [.slice mb.A1 mb.r.nodes.length mb.c1, .slice mb.A2 mb.r.edges.length mb.c2, .slice mb.A3 mb.r.amts.length mb.c3], row 26 1 (.slice none ((List.take 0 mb.r.amts : List Int).length) 0) ((List.take 0 mb.r.amts : List Int).length) ((List.take 0 mb.r.amts : List Int).flatMap iC_u64)] := S
         refine wp_loop_m (fun m a z => ∃ (k : Nat) (D1 : Option Addr) (d1 : Nat) (D2 : Option Addr) (d2 : Nat) (D3 : Option Addr) (d3 : Nat), m = mb.r.edges.length - k ∧ (k ≤ mb.r.edges.length) ∧ Fr a 252 [(1, .int .i64 node), (2, .int .i64 (ko : Nat)), (3, .int .i64 (ki : Nat)), (4, .int .u64 am), (5, .pointer (some ⟨b1, 0, none⟩)), (10, .pointer (some ⟨b2, 0, none⟩)), (13, .int .i64 (sv : Nat)), (15, .int .i64 fst), (19, .pointer (some ⟨b34, 0, none⟩)), (20, .slice D3 ((List.take k mb.r.amts : List Int).length) d3), (23, .pointer (some ⟨b46, 0, none⟩)), (25, .int .i64 (k : Nat))] ∧ Sat w z [rest w (· < w.heap.size), box b1 25 [.slice As x.spots.length cs, .slice Ae x.edges.length ce], box b2 45 [.slice none 0 0, .slice none 0 0, .slice none 0 0], row 3 1 (.slice D1 ((node :: fst :: List.take k (List.drop 1 mb.r.nodes) : List Int).length) d1) ((node :: fst :: List.take k (List.drop 1 mb.r.nodes) : List Int).length) ((node :: fst :: List.take k (List.drop 1 mb.r.nodes) : List Int).flatMap iC_i64), row 3 1 (.slice D2 (((ko : Int) :: List.take k mb.r.edges : List Int).length) d2) (((ko : Int) :: List.take k mb.r.edges : List Int).length) (((ko : Int) :: List.take k mb.r.edges : List Int).flatMap iC_i64), box b34 45 [.slice D1 ((node :: fst :: List.take k (List.drop 1 mb.r.nodes) : List Int).length) d1, .slice D2 (((ko : Int) :: List.take k mb.r.edges : List Int).length) d2, .slice none 0 0], row 104 8 (.slice A37 (((withoutP x node).edges).length) c38) (((withoutP x node).edges).length) (((withoutP x node).edges).flatMap edC), box b39 25 [.slice As x.spots.length cs, .slice A37 x.edges.length c38], bag (R3.flatMap rtRows), box b46 45 [.slice mb.A1 mb.r.nodes.length mb.c1, .slice mb.A2 mb.r.edges.length mb.c2, .slice mb.A3 mb.r.amts.length mb.c3], row 26 1 (.slice D3 ((List.take k mb.r.amts : List Int).length) d3) ((List.take k mb.r.amts : List Int).length) ((List.take k mb.r.amts : List Int).flatMap iC_u64)]) _ ⟨0, (some ⟨b32, 0, none⟩), 2, (some ⟨b33, 0, none⟩), 1, none, 0, rfl, Nat.zero_le _, F.sub ⟨by kernel_rfl, by kernel_rfl, by kernel_rfl, by kernel_rfl, by kernel_rfl, by kernel_rfl, by kernel_rfl, by kernel_rfl, by kernel_rfl, by kernel_rfl, by kernel_rfl, by kernel_rfl, trivial⟩, S⟩ ?_
         rintro m a z ⟨k, D1, d1, D2, d2, D3, d3, hm, hf49, F, S⟩
         refine wp_seq ?_
         refine s_reg ?_
         refine l_pure 2 (fun L => (156, .pointer (some ⟨b46, 1, none⟩)) :: (155, .int .i64 (k : Nat)) :: L) F (by kernel_rfl) fun a F => ?_
         refine l_do F rfl rfl (op_load _ _ (some ⟨b46, 0, none⟩) 1 (.slice mb.A2 mb.r.edges.length mb.c2) F rfl (by kernel_rfl) (by kernel_rfl) (cBox S 9 rfl (j := 1) rfl) (fun a F => ?_))
         refine l_pure 1 (fun L => (158, .int .i64 (mb.r.edges.length : Nat)) :: L) F (by kernel_rfl) fun a F => ?_
         by_cases ht50 : ((k : Nat) : Int) < ((mb.r.edges.length : Nat) : Int)
         ·
          skip
          obtain ⟨nk, hnk⟩ : ∃ nk, mb.r.nodes[k + 1]? = some nk := ⟨_, List.getElem?_eq_getElem (by omega)⟩
          obtain ⟨ek, hek⟩ : ∃ ek, mb.r.edges[k]? = some ek := ⟨_, List.getElem?_eq_getElem (by omega)⟩
          obtain ⟨ak, hak⟩ : ∃ ak, mb.r.amts[k]? = some ak := ⟨_, List.getElem?_eq_getElem (by omega)⟩
          refine l_do F rfl rfl (op_pure F (v0 := .bool (decide (((k : Nat) : Int) < ((mb.r.edges.length : Nat) : Int)))) (v := .bool true) (by kernel_rfl) (lssT ht50) fun a F => ?_)
          refine l_then ?_
          refine c_t F rfl ?_
          refine wp_skip ?_
          refine then_n ?_
          refine wp_seq ?_
          refine wp_block ?_
          refine wp_seq ?_
          have S := S.pushEmp
          refine region_gx (fun D => fun ((b51, A52, c53) : Nat × Option Addr × Nat) => [rest w (· < w.heap.size), box b1 25 [.slice As x.spots.length cs, .slice Ae x.edges.length ce], box b2 45 [.slice none 0 0, .slice none 0 0, .slice none 0 0], bif D 9 then row 3 1 (.slice A52 (((node :: fst :: List.take k (List.drop 1 mb.r.nodes) : List Int) ++ ([nk] : List Int)).length) c53) (((node :: fst :: List.take k (List.drop 1 mb.r.nodes) : List Int) ++ ([nk] : List Int)).length) (((node :: fst :: List.take k (List.drop 1 mb.r.nodes) : List Int) ++ ([nk] : List Int)).flatMap iC_i64) else row 3 1 (.slice D1 ((node :: fst :: List.take k (List.drop 1 mb.r.nodes) : List Int).length) d1) ((node :: fst :: List.take k (List.drop 1 mb.r.nodes) : List Int).length) ((node :: fst :: List.take k (List.drop 1 mb.r.nodes) : List Int).flatMap iC_i64), row 3 1 (.slice D2 (((ko : Int) :: List.take k mb.r.edges : List Int).length) d2) (((ko : Int) :: List.take k mb.r.edges : List Int).length) (((ko : Int) :: List.take k mb.r.edges : List Int).flatMap iC_i64), bif D 11 then box b34 45 [.slice A52 (((node :: fst :: List.take k (List.drop 1 mb.r.nodes) : List Int) ++ ([nk] : List Int)).length) c53, .slice D2 (((ko : Int) :: List.take k mb.r.edges : List Int).length) d2, .slice none 0 0] else box b34 45 [.slice D1 ((node :: fst :: List.take k (List.drop 1 mb.r.nodes) : List Int).length) d1, .slice D2 (((ko : Int) :: List.take k mb.r.edges : List Int).length) d2, .slice none 0 0], row 104 8 (.slice A37 (((withoutP x node).edges).length) c38) (((withoutP x node).edges).length) (((withoutP x node).edges).flatMap edC), box b39 25 [.slice As x.spots.length cs, .slice A37 x.edges.length c38], bag (R3.flatMap rtRows), box b46 45 [.slice mb.A1 mb.r.nodes.length mb.c1, .slice mb.A2 mb.r.edges.length mb.c2, .slice mb.A3 mb.r.amts.length mb.c3], row 26 1 (.slice D3 ((List.take k mb.r.amts : List Int).length) d3) ((List.take k mb.r.amts : List Int).length) ((List.take k mb.r.amts : List Int).flatMap iC_u64), bif D 8 then row 3 1 (.slice (some ⟨b51, 0, none⟩) 1 1) 1 (([nk] : List Int).flatMap iC_i64) else emp]) (fun ((b51, A52, c53) : Nat × Option Addr × Nat) => [.pointer (some ⟨b34, 0, none⟩), .slice D1 ((node :: fst :: List.take k (List.drop 1 mb.r.nodes) : List Int).length) d1, .pointer (some ⟨b46, 0, none⟩), .slice mb.A1 mb.r.nodes.length mb.c1, .int .i64 (k : Nat), .int .i64 (k + 1 : Nat), ptrA mb.A1 ((k + 1) * 1), .int .i64 nk, .slice (some ⟨b51, 0, none⟩) 1 1, .slice A52 (((node :: fst :: List.take k (List.drop 1 mb.r.nodes) : List Int) ++ ([nk] : List Int)).length) c53, .pointer (some ⟨b34, 0, none⟩), undef]) [(1, [], [9, 11]), (3, [], [6, 7, 8, 9, 11]), (5, [], [6, 7, 8, 9, 11]), (6, [3, 5], [7, 8, 9, 11]), (7, [3, 5, 6], [8, 9, 11]), (8, [3, 5, 6, 7], [9, 11]), (9, [1, 3, 5, 6, 7, 8], [11]), (11, [1, 3, 5, 6, 7, 8, 9], [])] (0, none, 0) rfl (by kernel_rfl) (by kernel_rfl) F S.drew ?_ ?_ ?_ ?_ ?_
          · rintro ⟨b51, A52, c53⟩; rfl
          · rintro ⟨b51, A52, c53⟩; kernel_rfl
          ·
           intro D D' x h
           obtain ⟨b51, A52, c53⟩ := x
           simp only [h 8 (by decide), h 9 (by decide), h 11 (by decide)]
          ·
           refine ⟨?_, ?_⟩
           ·
            refine ⟨_, rfl, rfl, by kernel_rfl, ?_⟩
            rintro D ⟨b51, A52, c53⟩ a z S F
            refine ⟨by kernel_rfl, ?_⟩
            exact op_load _ _ (some ⟨b34, 0, none⟩) 0 (.slice D1 ((node :: fst :: List.take k (List.drop 1 mb.r.nodes) : List Int).length) d1) F rfl (by kernel_rfl) (by kernel_rfl) (cBox S 5 rfl (j := 0) rfl) (⟨(b51, A52, c53), rfl, (SameB.refl _ _ rfl), S⟩)
           refine ⟨?_, ?_⟩
           ·
            refine ⟨_, rfl, rfl, by kernel_rfl, ?_⟩
            rintro D ⟨b51, A52, c53⟩ a z S F
            refine ⟨by kernel_rfl, ?_⟩
            exact op_load _ _ (some ⟨b46, 0, none⟩) 0 (.slice mb.A1 mb.r.nodes.length mb.c1) F rfl (by kernel_rfl) (by kernel_rfl) (cBox S 9 rfl (j := 0) rfl) (⟨(b51, A52, c53), rfl, (SameB.refl _ _ rfl), S⟩)
           refine ⟨?_, ?_⟩
           ·
            refine ⟨_, rfl, rfl, by kernel_rfl, ?_⟩
            rintro D ⟨b51, A52, c53⟩ a z S F
            refine ⟨by kernel_rfl, ?_⟩
            exact op_pure F (v0 := .int .i64 (IntKind.wrap .i64 ((k : Nat) + 1))) (v := .int .i64 (k + 1 : Nat)) (by kernel_rfl) (wrn_i64 (by omega) (by omega) (by omega)) ⟨(b51, A52, c53), rfl, (SameB.refl _ _ rfl), S⟩
           refine ⟨?_, ?_⟩
           ·
            refine ⟨_, rfl, rfl, by kernel_rfl, ?_⟩
            rintro D ⟨b51, A52, c53⟩ a z S F
            refine ⟨by kernel_rfl, ?_⟩
            exact op_index _ 3 _ _ mb.A1 mb.r.nodes.length mb.c1 (k + 1) 1 .i64 F rfl (by kernel_rfl) (by kernel_rfl) (by kernel_rfl) (by kernel_rfl) (get_lt hnk) (recs_some (bag_nodes S 8 rfl hmbm (by omega)) (m := k + 1) (get_lt hnk)) (⟨(b51, A52, c53), rfl, (SameB.refl _ _ rfl), S⟩)
           refine ⟨?_, ?_⟩
           ·
            refine ⟨_, rfl, rfl, by kernel_rfl, ?_⟩
            rintro D ⟨b51, A52, c53⟩ a z S F
            refine ⟨by kernel_rfl, ?_⟩
            exact op_load _ _ mb.A1 ((k + 1) * 1) (.int .i64 nk) F rfl (by kernel_rfl) (by kernel_rfl) (recs_cell iC_len_i64 (bag_nodes S 8 rfl hmbm (by omega)) 0 hnk rfl) (⟨(b51, A52, c53), rfl, (SameB.refl _ _ rfl), S⟩)
           refine ⟨?_, ?_⟩
           ·
            refine ⟨_, rfl, rfl, by kernel_rfl, ?_⟩
            rintro D ⟨b51, A52, c53⟩ a z S F
            refine ⟨by kernel_rfl, ?_⟩
            exact op_buildSliceF S 11 rfl _ 1 _ 3 1 iC_i64 ([nk] : List Int) F rfl (by kernel_rfl) (by kernel_rfl) (by kernel_rfl) (by unfold maxLen; omega) fun y54 z S => ⟨(y54, A52, c53), rfl, ⟨rfl, rfl, rfl, rfl, rfl, rfl, rfl, rfl, trivial, trivial, trivial, trivial, trivial⟩, S⟩
           refine ⟨?_, ?_⟩
           ·
            refine ⟨_, rfl, rfl, by kernel_rfl, ?_⟩
            rintro D ⟨b51, A52, c53⟩ a z S F
            refine ⟨by kernel_rfl, ?_⟩
            exact op_append S 3 _ _ _ 3 (.int .i64 0) 1 8 (node :: fst :: List.take k (List.drop 1 mb.r.nodes) : List Int) ([nk] : List Int) iC_i64 (some ⟨b51, 0, none⟩) 1 F iC_len_i64 (fun _ => rfl) rfl rfl (by kernel_rfl) (by kernel_rfl) rfl rfl rfl (by kernel_rfl) (by kernel_rfl) (row_none (S.rowOf (i := 11) rfl)) (src_row (S.rowOf (i := 11) rfl)) (by first | omega | (simp <;> omega)) fun y55 y56 z S => ⟨(b51, y55, y56), rfl, ⟨rfl, rfl, rfl, rfl, rfl, rfl, rfl, rfl, rfl, trivial, trivial, trivial, trivial⟩, S⟩
           refine ⟨?_, ?_⟩
           ·
            refine ⟨_, rfl, rfl, by kernel_rfl, ?_⟩
            rintro D ⟨b51, A52, c53⟩ a z S F
            refine ⟨by kernel_rfl, ?_⟩
            exact op_storeB S 5 _ _ _ b34 0 (.slice A52 (((node :: fst :: List.take k (List.drop 1 mb.r.nodes) : List Int) ++ ([nk] : List Int)).length) c53) F rfl rfl (by kernel_rfl) (by kernel_rfl) (by kernel_rfl) (by kernel_rfl) (by kernel_rfl) fun z S => ⟨(b51, A52, c53), rfl, (SameB.refl _ _ rfl), S⟩
           trivial
          ·
           rintro ⟨b51, A52, c53⟩ a z F S
           have F := F.sub (l := [(1, .int .i64 node), (2, .int .i64 (ko : Nat)), (3, .int .i64 (ki : Nat)), (4, .int .u64 am), (5, .pointer (some ⟨b1, 0, none⟩)), (10, .pointer (some ⟨b2, 0, none⟩)), (13, .int .i64 (sv : Nat)), (15, .int .i64 fst), (19, .pointer (some ⟨b34, 0, none⟩)), (20, .slice D3 ((List.take k mb.r.amts : List Int).length) d3), (23, .pointer (some ⟨b46, 0, none⟩)), (25, .int .i64 (k : Nat))]) ⟨by kernel_rfl, by kernel_rfl, by kernel_rfl, by kernel_rfl, by kernel_rfl, by kernel_rfl, by kernel_rfl, by kernel_rfl, by kernel_rfl, by kernel_rfl, by kernel_rfl, by kernel_rfl, trivial⟩
           have S : Sat w z [rest w (· < w.heap.size), box b1 25 [.slice As x.spots.length cs, .slice Ae x.edges.length ce], box b2 45 [.slice none 0 0, .slice none 0 0, .slice none 0 0], row 3 1 (.slice A52 (((node :: fst :: List.take k (List.drop 1 mb.r.nodes) : List Int) ++ ([nk] : List Int)).length) c53) (((node :: fst :: List.take k (List.drop 1 mb.r.nodes) : List Int) ++ ([nk] : List Int)).length) (((node :: fst :: List.take k (List.drop 1 mb.r.nodes) : List Int) ++ ([nk] : List Int)).flatMap iC_i64), row 3 1 (.slice D2 (((ko : Int) :: List.take k mb.r.edges : List Int).length) d2) (((ko : Int) :: List.take k mb.r.edges : List Int).length) (((ko : Int) :: List.take k mb.r.edges : List Int).flatMap iC_i64), box b34 45 [.slice A52 (((node :: fst :: List.take k (List.drop 1 mb.r.nodes) : List Int) ++ ([nk] : List Int)).length) c53, .slice D2 (((ko : Int) :: List.take k mb.r.edges : List Int).length) d2, .slice none 0 0], row 104 8 (.slice A37 (((withoutP x node).edges).length) c38) (((withoutP x node).edges).length) (((withoutP x node).edges).flatMap edC), box b39 25 [.slice As x.spots.length cs, .slice A37 x.edges.length c38], bag (R3.flatMap rtRows), box b46 45 [.slice mb.A1 mb.r.nodes.length mb.c1, .slice mb.A2 mb.r.edges.length mb.c2, .slice mb.A3 mb.r.amts.length mb.c3], row 26 1 (.slice D3 ((List.take k mb.r.amts : List Int).length) d3) ((List.take k mb.r.amts : List Int).length) ((List.take k mb.r.amts : List Int).flatMap iC_u64), row 3 1 (.slice (some ⟨b51, 0, none⟩) 1 1) 1 (([nk] : List Int).flatMap iC_i64)] := S
           refine then_n ?_
           refine wp_seq ?_
           have S := S.pushEmp
           refine region_gx (fun D => fun ((b57, A58, c59) : Nat × Option Addr × Nat) => [rest w (· < w.heap.size), box b1 25 [.slice As x.spots.length cs, .slice Ae x.edges.length ce], box b2 45 [.slice none 0 0, .slice none 0 0, .slice none 0 0], row 3 1 (.slice A52 (((node :: fst :: List.take k (List.drop 1 mb.r.nodes) : List Int) ++ ([nk] : List Int)).length) c53) (((node :: fst :: List.take k (List.drop 1 mb.r.nodes) : List Int) ++ ([nk] : List Int)).length) (((node :: fst :: List.take k (List.drop 1 mb.r.nodes) : List Int) ++ ([nk] : List Int)).flatMap iC_i64), bif D 8 then row 3 1 (.slice A58 ((((ko : Int) :: List.take k mb.r.edges : List Int) ++ ([ek] : List Int)).length) c59) ((((ko : Int) :: List.take k mb.r.edges : List Int) ++ ([ek] : List Int)).length) ((((ko : Int) :: List.take k mb.r.edges : List Int) ++ ([ek] : List Int)).flatMap iC_i64) else row 3 1 (.slice D2 (((ko : Int) :: List.take k mb.r.edges : List Int).length) d2) (((ko : Int) :: List.take k mb.r.edges : List Int).length) (((ko : Int) :: List.take k mb.r.edges : List Int).flatMap iC_i64), bif D 10 then box b34 45 [.slice A52 (((node :: fst :: List.take k (List.drop 1 mb.r.nodes) : List Int) ++ ([nk] : List Int)).length) c53, .slice A58 ((((ko : Int) :: List.take k mb.r.edges : List Int) ++ ([ek] : List Int)).length) c59, .slice none 0 0] else box b34 45 [.slice A52 (((node :: fst :: List.take k (List.drop 1 mb.r.nodes) : List Int) ++ ([nk] : List Int)).length) c53, .slice D2 (((ko : Int) :: List.take k mb.r.edges : List Int).length) d2, .slice none 0 0], row 104 8 (.slice A37 (((withoutP x node).edges).length) c38) (((withoutP x node).edges).length) (((withoutP x node).edges).flatMap edC), box b39 25 [.slice As x.spots.length cs, .slice A37 x.edges.length c38], bag (R3.flatMap rtRows), box b46 45 [.slice mb.A1 mb.r.nodes.length mb.c1, .slice mb.A2 mb.r.edges.length mb.c2, .slice mb.A3 mb.r.amts.length mb.c3], row 26 1 (.slice D3 ((List.take k mb.r.amts : List Int).length) d3) ((List.take k mb.r.amts : List Int).length) ((List.take k mb.r.amts : List Int).flatMap iC_u64), row 3 1 (.slice (some ⟨b51, 0, none⟩) 1 1) 1 (([nk] : List Int).flatMap iC_i64), bif D 7 then row 3 1 (.slice (some ⟨b57, 0, none⟩) 1 1) 1 (([ek] : List Int).flatMap iC_i64) else emp]) (fun ((b57, A58, c59) : Nat × Option Addr × Nat) => [.pointer (some ⟨b34, 1, none⟩), .slice D2 (((ko : Int) :: List.take k mb.r.edges : List Int).length) d2, .pointer (some ⟨b46, 1, none⟩), .slice mb.A2 mb.r.edges.length mb.c2, .int .i64 (k : Nat), ptrA mb.A2 (k * 1), .int .i64 ek, .slice (some ⟨b57, 0, none⟩) 1 1, .slice A58 ((((ko : Int) :: List.take k mb.r.edges : List Int) ++ ([ek] : List Int)).length) c59, .pointer (some ⟨b34, 1, none⟩), undef]) [(1, [], [8, 10]), (3, [], [5, 6, 7, 8, 10]), (5, [3], [6, 7, 8, 10]), (6, [3, 5], [7, 8, 10]), (7, [3, 5, 6], [8, 10]), (8, [1, 3, 5, 6, 7], [10]), (10, [1, 3, 5, 6, 7, 8], [])] (0, none, 0) rfl (by kernel_rfl) (by kernel_rfl) F S.drew ?_ ?_ ?_ ?_ ?_
           · rintro ⟨b57, A58, c59⟩; rfl
           · rintro ⟨b57, A58, c59⟩; kernel_rfl
           ·
            intro D D' x h
            obtain ⟨b57, A58, c59⟩ := x
            simp only [h 7 (by decide), h 8 (by decide), h 10 (by decide)]
           ·
            refine ⟨?_, ?_⟩
            ·
             refine ⟨_, rfl, rfl, by kernel_rfl, ?_⟩
             rintro D ⟨b57, A58, c59⟩ a z S F
             refine ⟨by kernel_rfl, ?_⟩
             exact op_load _ _ (some ⟨b34, 0, none⟩) 1 (.slice D2 (((ko : Int) :: List.take k mb.r.edges : List Int).length) d2) F rfl (by kernel_rfl) (by kernel_rfl) (cBox S 5 rfl (j := 1) rfl) (⟨(b57, A58, c59), rfl, (SameB.refl _ _ rfl), S⟩)
            refine ⟨?_, ?_⟩
            ·
             refine ⟨_, rfl, rfl, by kernel_rfl, ?_⟩
             rintro D ⟨b57, A58, c59⟩ a z S F
             refine ⟨by kernel_rfl, ?_⟩
             exact op_load _ _ (some ⟨b46, 0, none⟩) 1 (.slice mb.A2 mb.r.edges.length mb.c2) F rfl (by kernel_rfl) (by kernel_rfl) (cBox S 9 rfl (j := 1) rfl) (⟨(b57, A58, c59), rfl, (SameB.refl _ _ rfl), S⟩)
            refine ⟨?_, ?_⟩
            ·
             refine ⟨_, rfl, rfl, by kernel_rfl, ?_⟩
             rintro D ⟨b57, A58, c59⟩ a z S F
             refine ⟨by kernel_rfl, ?_⟩
             exact op_index _ 3 _ _ mb.A2 mb.r.edges.length mb.c2 k 1 .i64 F rfl (by kernel_rfl) (by kernel_rfl) (by kernel_rfl) (by kernel_rfl) (get_lt hek) (recs_some (bag_edges S 8 rfl hmbm (by omega)) (m := k) (get_lt hek)) (⟨(b57, A58, c59), rfl, (SameB.refl _ _ rfl), S⟩)
            refine ⟨?_, ?_⟩
            ·
             refine ⟨_, rfl, rfl, by kernel_rfl, ?_⟩
             rintro D ⟨b57, A58, c59⟩ a z S F
             refine ⟨by kernel_rfl, ?_⟩
             exact op_load _ _ mb.A2 (k * 1) (.int .i64 ek) F rfl (by kernel_rfl) (by kernel_rfl) (recs_cell iC_len_i64 (bag_edges S 8 rfl hmbm (by omega)) 0 hek rfl) (⟨(b57, A58, c59), rfl, (SameB.refl _ _ rfl), S⟩)
            refine ⟨?_, ?_⟩
            ·
             refine ⟨_, rfl, rfl, by kernel_rfl, ?_⟩
             rintro D ⟨b57, A58, c59⟩ a z S F
             refine ⟨by kernel_rfl, ?_⟩
             exact op_buildSliceF S 12 rfl _ 1 _ 3 1 iC_i64 ([ek] : List Int) F rfl (by kernel_rfl) (by kernel_rfl) (by kernel_rfl) (by unfold maxLen; omega) fun y60 z S => ⟨(y60, A58, c59), rfl, ⟨rfl, rfl, rfl, rfl, rfl, rfl, rfl, trivial, trivial, trivial, trivial, trivial⟩, S⟩
            refine ⟨?_, ?_⟩
            ·
             refine ⟨_, rfl, rfl, by kernel_rfl, ?_⟩
             rintro D ⟨b57, A58, c59⟩ a z S F
             refine ⟨by kernel_rfl, ?_⟩
             exact op_append S 4 _ _ _ 3 (.int .i64 0) 1 8 ((ko : Int) :: List.take k mb.r.edges : List Int) ([ek] : List Int) iC_i64 (some ⟨b57, 0, none⟩) 1 F iC_len_i64 (fun _ => rfl) rfl rfl (by kernel_rfl) (by kernel_rfl) rfl rfl rfl (by kernel_rfl) (by kernel_rfl) (row_none (S.rowOf (i := 12) rfl)) (src_row (S.rowOf (i := 12) rfl)) (by first | omega | (simp <;> omega)) fun y61 y62 z S => ⟨(b57, y61, y62), rfl, ⟨rfl, rfl, rfl, rfl, rfl, rfl, rfl, rfl, trivial, trivial, trivial, trivial⟩, S⟩
            refine ⟨?_, ?_⟩
            ·
             refine ⟨_, rfl, rfl, by kernel_rfl, ?_⟩
             rintro D ⟨b57, A58, c59⟩ a z S F
             refine ⟨by kernel_rfl, ?_⟩
             exact op_storeB S 5 _ _ _ b34 1 (.slice A58 ((((ko : Int) :: List.take k mb.r.edges : List Int) ++ ([ek] : List Int)).length) c59) F rfl rfl (by kernel_rfl) (by kernel_rfl) (by kernel_rfl) (by kernel_rfl) (by kernel_rfl) fun z S => ⟨(b57, A58, c59), rfl, (SameB.refl _ _ rfl), S⟩
            trivial
           ·
            rintro ⟨b57, A58, c59⟩ a z F S
            have F := F.sub (l := [(1, .int .i64 node), (2, .int .i64 (ko : Nat)), (3, .int .i64 (ki : Nat)), (4, .int .u64 am), (5, .pointer (some ⟨b1, 0, none⟩)), (10, .pointer (some ⟨b2, 0, none⟩)), (13, .int .i64 (sv : Nat)), (15, .int .i64 fst), (19, .pointer (some ⟨b34, 0, none⟩)), (20, .slice D3 ((List.take k mb.r.amts : List Int).length) d3), (23, .pointer (some ⟨b46, 0, none⟩)), (25, .int .i64 (k : Nat))]) ⟨by kernel_rfl, by kernel_rfl, by kernel_rfl, by kernel_rfl, by kernel_rfl, by kernel_rfl, by kernel_rfl, by kernel_rfl, by kernel_rfl, by kernel_rfl, by kernel_rfl, by kernel_rfl, trivial⟩
            have S : Sat w z [rest w (· < w.heap.size), box b1 25 [.slice As x.spots.length cs, .slice Ae x.edges.length ce], box b2 45 [.slice none 0 0, .slice none 0 0, .slice none 0 0], row 3 1 (.slice A52 (((node :: fst :: List.take k (List.drop 1 mb.r.nodes) : List Int) ++ ([nk] : List Int)).length) c53) (((node :: fst :: List.take k (List.drop 1 mb.r.nodes) : List Int) ++ ([nk] : List Int)).length) (((node :: fst :: List.take k (List.drop 1 mb.r.nodes) : List Int) ++ ([nk] : List Int)).flatMap iC_i64), row 3 1 (.slice A58 ((((ko : Int) :: List.take k mb.r.edges : List Int) ++ ([ek] : List Int)).length) c59) ((((ko : Int) :: List.take k mb.r.edges : List Int) ++ ([ek] : List Int)).length) ((((ko : Int) :: List.take k mb.r.edges : List Int) ++ ([ek] : List Int)).flatMap iC_i64), box b34 45 [.slice A52 (((node :: fst :: List.take k (List.drop 1 mb.r.nodes) : List Int) ++ ([nk] : List Int)).length) c53, .slice A58 ((((ko : Int) :: List.take k mb.r.edges : List Int) ++ ([ek] : List Int)).length) c59, .slice none 0 0], row 104 8 (.slice A37 (((withoutP x node).edges).length) c38) (((withoutP x node).edges).length) (((withoutP x node).edges).flatMap edC), box b39 25 [.slice As x.spots.length cs, .slice A37 x.edges.length c38], bag (R3.flatMap rtRows), box b46 45 [.slice mb.A1 mb.r.nodes.length mb.c1, .slice mb.A2 mb.r.edges.length mb.c2, .slice mb.A3 mb.r.amts.length mb.c3], row 26 1 (.slice D3 ((List.take k mb.r.amts : List Int).length) d3) ((List.take k mb.r.amts : List Int).length) ((List.take k mb.r.amts : List Int).flatMap iC_u64), row 3 1 (.slice (some ⟨b51, 0, none⟩) 1 1) 1 (([nk] : List Int).flatMap iC_i64), row 3 1 (.slice (some ⟨b57, 0, none⟩) 1 1) 1 (([ek] : List Int).flatMap iC_i64)] := S
            refine then_n ?_
            refine wp_region_list ?_
            refine l_pure 2 (fun L => (184, .pointer (some ⟨b46, 2, none⟩)) :: (183, .slice D3 ((List.take k mb.r.amts : List Int).length) d3) :: L) F (by kernel_rfl) fun a F => ?_
            refine l_do F rfl rfl (op_load _ _ (some ⟨b46, 0, none⟩) 2 (.slice mb.A3 mb.r.amts.length mb.c3) F rfl (by kernel_rfl) (by kernel_rfl) (cBox S 9 rfl (j := 2) rfl) (fun a F => ?_))
            refine l_pure 1 (fun L => (186, .int .i64 (k : Nat)) :: L) F (by kernel_rfl) fun a F => ?_
            refine l_do F rfl rfl (op_index _ 26 _ _ mb.A3 mb.r.amts.length mb.c3 k 1 .i64 F rfl (by kernel_rfl) (by kernel_rfl) (by kernel_rfl) (by kernel_rfl) (get_lt hak) (recs_some (bag_amts S 8 rfl hmbm (by omega)) (m := k) (get_lt hak)) (fun a F => ?_))
            refine l_do F rfl rfl (op_load _ _ mb.A3 (k * 1) (.int .u64 ak) F rfl (by kernel_rfl) (by kernel_rfl) (recs_cell iC_len_u64 (bag_amts S 8 rfl hmbm (by omega)) 0 hak rfl) (fun a F => ?_))
            refine l_do F rfl rfl (op_buildSlice S _ 1 _ 26 1 iC_u64 ([ak] : List Int) F rfl (by kernel_rfl) (by kernel_rfl) (by kernel_rfl) (by unfold maxLen; omega) fun b63 z S a F => ?_)
            refine l_do F rfl rfl (op_append S 10 _ _ _ 26 (.int .u64 0) 1 8 (List.take k mb.r.amts : List Int) ([ak] : List Int) iC_u64 (some ⟨b63, 0, none⟩) 1 F iC_len_u64 (fun _ => rfl) rfl rfl (by kernel_rfl) (by kernel_rfl) rfl rfl rfl (by kernel_rfl) (by kernel_rfl) (row_none (S.rowOf (i := 13) rfl)) (src_row (S.rowOf (i := 13) rfl)) (by first | omega | (simp <;> omega)) fun A64 c65 z S a F => ?_)
            refine l_pure 1 (fun L => (20, .slice A64 (((List.take k mb.r.amts : List Int) ++ ([ak] : List Int)).length) c65) :: L) F (by kernel_rfl) fun a F => ?_
            refine l_nil (inb_n ?_)
            refine then_n ?_
            refine wp_region_list ?_
            refine l_pure 1 (fun L => (160, .int .i64 (k : Nat)) :: L) F (by kernel_rfl) fun a F => ?_
            refine l_do F rfl rfl (op_pure F (v0 := .int .i64 (IntKind.wrap .i64 ((k : Nat) + 1))) (v := .int .i64 (k + 1 : Nat)) (by kernel_rfl) (wrn_i64 (by omega) (by omega) (by omega)) fun a F => ?_)
            refine l_pure 1 (fun L => (25, .int .i64 (k + 1 : Nat)) :: L) F (by kernel_rfl) fun a F => ?_
            refine l_then ?_
            have hX3 : ((node :: fst :: List.take k (List.drop 1 mb.r.nodes) : List Int) ++ ([nk] : List Int)) = (node :: fst :: List.take (k + 1) (List.drop 1 mb.r.nodes) : List Int) := (tk_nodes hnk).symm
            have hN3 : ((node :: fst :: List.take k (List.drop 1 mb.r.nodes) : List Int) ++ ([nk] : List Int)).length = ((node :: fst :: List.take (k + 1) (List.drop 1 mb.r.nodes) : List Int)).length := congrArg List.length hX3
            have S := S.rowEq 3 hX3 hN3 rfl
            have hX4 : (((ko : Int) :: List.take k mb.r.edges : List Int) ++ ([ek] : List Int)) = ((ko : Int) :: List.take (k + 1) mb.r.edges : List Int) := (tk_edges hek).symm
            have hN4 : (((ko : Int) :: List.take k mb.r.edges : List Int) ++ ([ek] : List Int)).length = (((ko : Int) :: List.take (k + 1) mb.r.edges : List Int)).length := congrArg List.length hX4
            have S := S.rowEq 4 hX4 hN4 rfl
            have hX10 : ((List.take k mb.r.amts : List Int) ++ ([ak] : List Int)) = (List.take (k + 1) mb.r.amts : List Int) := (tk_amts hak).symm
            have hN10 : ((List.take k mb.r.amts : List Int) ++ ([ak] : List Int)).length = ((List.take (k + 1) mb.r.amts : List Int)).length := congrArg List.length hX10
            have S := S.rowEq 10 hX10 hN10 rfl
            rw [hN3, hN4] at S
            rw [hN10] at F
            have S : Sat w z [rest w (· < w.heap.size), box b1 25 [.slice As x.spots.length cs, .slice Ae x.edges.length ce], box b2 45 [.slice none 0 0, .slice none 0 0, .slice none 0 0], row 3 1 (.slice A52 ((node :: fst :: List.take (k + 1) (List.drop 1 mb.r.nodes) : List Int).length) c53) ((node :: fst :: List.take (k + 1) (List.drop 1 mb.r.nodes) : List Int).length) ((node :: fst :: List.take (k + 1) (List.drop 1 mb.r.nodes) : List Int).flatMap iC_i64), row 3 1 (.slice A58 (((ko : Int) :: List.take (k + 1) mb.r.edges : List Int).length) c59) (((ko : Int) :: List.take (k + 1) mb.r.edges : List Int).length) (((ko : Int) :: List.take (k + 1) mb.r.edges : List Int).flatMap iC_i64), box b34 45 [.slice A52 ((node :: fst :: List.take (k + 1) (List.drop 1 mb.r.nodes) : List Int).length) c53, .slice A58 (((ko : Int) :: List.take (k + 1) mb.r.edges : List Int).length) c59, .slice none 0 0], row 104 8 (.slice A37 (((withoutP x node).edges).length) c38) (((withoutP x node).edges).length) (((withoutP x node).edges).flatMap edC), box b39 25 [.slice As x.spots.length cs, .slice A37 x.edges.length c38], bag (R3.flatMap rtRows), box b46 45 [.slice mb.A1 mb.r.nodes.length mb.c1, .slice mb.A2 mb.r.edges.length mb.c2, .slice mb.A3 mb.r.amts.length mb.c3], row 26 1 (.slice A64 ((List.take (k + 1) mb.r.amts : List Int).length) c65) ((List.take (k + 1) mb.r.amts : List Int).length) ((List.take (k + 1) mb.r.amts : List Int).flatMap iC_u64), row 3 1 (.slice (some ⟨b51, 0, none⟩) 1 1) 1 (([nk] : List Int).flatMap iC_i64), row 3 1 (.slice (some ⟨b57, 0, none⟩) 1 1) 1 (([ek] : List Int).flatMap iC_i64), row 26 1 (.slice (some ⟨b63, 0, none⟩) 1 1) 1 (([ak] : List Int).flatMap iC_u64)] := S
            exact ⟨_, (by omega), k + 1, A52, c53, A58, c59, A64, c65, rfl, (by omega), F.sub ⟨by kernel_rfl, by kernel_rfl, by kernel_rfl, by kernel_rfl, by kernel_rfl, by kernel_rfl, by kernel_rfl, by kernel_rfl, by kernel_rfl, by kernel_rfl, by kernel_rfl, by kernel_rfl, trivial⟩, (S.pick [0, 1, 2, 3, 4, 5, 6, 7, 8, 9, 10] (by decide))⟩
         ·
          skip
          have hk9 : k = mb.r.edges.length := by omega
          have hN9 : List.take k (List.drop 1 mb.r.nodes) = List.drop 1 mb.r.nodes := List.take_of_length_le (by rw [List.length_drop]; omega)
          have hE9 : List.take k mb.r.edges = mb.r.edges := List.take_of_length_le (by omega)
          have hA9 : List.take k mb.r.amts = mb.r.amts := List.take_of_length_le (by omega)
          rw [hN9, hE9, hA9] at S
          rw [hA9] at F
          refine l_do F rfl rfl (op_pure F (v0 := .bool (decide (((k : Nat) : Int) < ((mb.r.edges.length : Nat) : Int)))) (v := .bool false) (by kernel_rfl) (lssF ht50) fun a F => ?_)
          refine l_then ?_
          refine c_f F rfl ?_
          refine wp_exit ?_
          refine then_x ?_
          refine then_x ?_
          refine inb_x ?_
          refine then_n ?_
          refine wp_seq ?_
          refine region_gx (fun D => fun (_ : Unit) => [rest w (· < w.heap.size), box b1 25 [.slice As x.spots.length cs, .slice Ae x.edges.length ce], box b2 45 [.slice none 0 0, .slice none 0 0, .slice none 0 0], row 3 1 (.slice D1 ((node :: fst :: List.drop 1 mb.r.nodes : List Int).length) d1) ((node :: fst :: List.drop 1 mb.r.nodes : List Int).length) ((node :: fst :: List.drop 1 mb.r.nodes : List Int).flatMap iC_i64), row 3 1 (.slice D2 (((ko : Int) :: mb.r.edges : List Int).length) d2) (((ko : Int) :: mb.r.edges : List Int).length) (((ko : Int) :: mb.r.edges : List Int).flatMap iC_i64), box b34 45 [.slice D1 ((node :: fst :: List.drop 1 mb.r.nodes : List Int).length) d1, .slice D2 (((ko : Int) :: mb.r.edges : List Int).length) d2, .slice none 0 0], row 104 8 (.slice A37 (((withoutP x node).edges).length) c38) (((withoutP x node).edges).length) (((withoutP x node).edges).flatMap edC), box b39 25 [.slice As x.spots.length cs, .slice A37 x.edges.length c38], bag (R3.flatMap rtRows), box b46 45 [.slice mb.A1 mb.r.nodes.length mb.c1, .slice mb.A2 mb.r.edges.length mb.c2, .slice mb.A3 mb.r.amts.length mb.c3], row 26 1 (.slice D3 mb.r.amts.length d3) mb.r.amts.length (mb.r.amts.flatMap iC_u64)]) (fun (_ : Unit) => [.pointer (some ⟨b1, 1, none⟩), .slice Ae x.edges.length ce, .pointer (some ⟨b46, 1, none⟩), .slice mb.A2 mb.r.edges.length mb.c2, ptrA mb.A2 (0 * 1), .int .i64 (j : Nat), .agg #[.slice As x.spots.length cs, .slice Ae x.edges.length ce], .pointer (some ⟨b46, 1, none⟩), .slice mb.A2 mb.r.edges.length mb.c2, ptrA mb.A2 (0 * 1), .int .i64 (j : Nat), .int .i64 fst, .int .i64 (sj : Nat), ptrA Ae (j * 8), ptrA Ae (j * 8 + 4), ptrA Ae (j * 8 + 4 + sj * 2), .agg #[.int .u64 (ej.base (sj : Nat)), .int .u64 (ej.rate (sj : Nat))], .pointer (some ⟨b46, 2, none⟩), .slice mb.A3 mb.r.amts.length mb.c3, ptrA mb.A3 (0 * 1), .int .u64 um, .tuple #[.int .u64 ((overP (ej.base (sj : Nat)) (ej.rate (sj : Nat)) um).1), .int .i64 ((overP (ej.base (sj : Nat)) (ej.rate (sj : Nat)) um).2)], .tuple #[.int .u64 ((overP (ej.base (sj : Nat)) (ej.rate (sj : Nat)) um).1), .int .i64 ((overP (ej.base (sj : Nat)) (ej.rate (sj : Nat)) um).2)], .int .u64 ((overP (ej.base (sj : Nat)) (ej.rate (sj : Nat)) um).1), .int .i64 ((overP (ej.base (sj : Nat)) (ej.rate (sj : Nat)) um).2), .int .u64 ((overP (ej.base (sj : Nat)) (ej.rate (sj : Nat)) um).1), .int .i64 ((overP (ej.base (sj : Nat)) (ej.rate (sj : Nat)) um).2)]) [(1, [], [13, 14, 15, 16, 21]), (3, [], [4, 5, 13, 14, 15, 16, 21]), (4, [3], [5, 13, 14, 15, 16, 21]), (5, [3, 4], [13, 14, 15, 16, 21]), (6, [], [12, 15, 16, 21]), (8, [], [9, 10, 12, 15, 16, 21]), (9, [8], [10, 12, 15, 16, 21]), (10, [8, 9], [12, 15, 16, 21]), (12, [6, 8, 9, 10], [15, 16, 21]), (13, [1, 3, 4, 5], [14, 15, 16, 21]), (14, [1, 3, 4, 5, 13], [15, 16, 21]), (15, [1, 3, 4, 5, 6, 8, 9, 10, 12, 13, 14], [16, 21]), (16, [1, 3, 4, 5, 6, 8, 9, 10, 12, 13, 14, 15], [21]), (18, [], [19, 20, 21]), (19, [18], [20, 21]), (20, [18, 19], [21]), (21, [1, 3, 4, 5, 6, 8, 9, 10, 12, 13, 14, 15, 16, 18, 19, 20], [])] () rfl (by kernel_rfl) (by kernel_rfl) F S.drew ?_ ?_ ?_ ?_ ?_
          · rintro ⟨⟩; rfl
          · rintro ⟨⟩; kernel_rfl
          ·
           intro D D' x h
           cases x
           rfl
          ·
           refine ⟨?_, ?_⟩
           ·
            refine ⟨_, rfl, rfl, by kernel_rfl, ?_⟩
            rintro D ⟨⟩ a z S F
            refine ⟨by kernel_rfl, ?_⟩
            exact op_load _ _ (some ⟨b1, 0, none⟩) 1 (.slice Ae x.edges.length ce) F rfl (by kernel_rfl) (by kernel_rfl) (cBox S 1 rfl (j := 1) rfl) (⟨(), rfl, (SameB.refl _ _ rfl), S⟩)
           refine ⟨?_, ?_⟩
           ·
            refine ⟨_, rfl, rfl, by kernel_rfl, ?_⟩
            rintro D ⟨⟩ a z S F
            refine ⟨by kernel_rfl, ?_⟩
            exact op_load _ _ (some ⟨b46, 0, none⟩) 1 (.slice mb.A2 mb.r.edges.length mb.c2) F rfl (by kernel_rfl) (by kernel_rfl) (cBox S 9 rfl (j := 1) rfl) (⟨(), rfl, (SameB.refl _ _ rfl), S⟩)
           refine ⟨?_, ?_⟩
           ·
            refine ⟨_, rfl, rfl, by kernel_rfl, ?_⟩
            rintro D ⟨⟩ a z S F
            refine ⟨by kernel_rfl, ?_⟩
            exact op_index _ 3 _ _ mb.A2 mb.r.edges.length mb.c2 0 1 .i64 F rfl (by kernel_rfl) (by kernel_rfl) (by kernel_rfl) (by kernel_rfl) (get_lt hej0) (recs_some (bag_edges S 8 rfl hmbm (by omega)) (m := 0) (get_lt hej0)) (⟨(), rfl, (SameB.refl _ _ rfl), S⟩)
           refine ⟨?_, ?_⟩
           ·
            refine ⟨_, rfl, rfl, by kernel_rfl, ?_⟩
            rintro D ⟨⟩ a z S F
            refine ⟨by kernel_rfl, ?_⟩
            exact op_load _ _ mb.A2 (0 * 1) (.int .i64 (j : Nat)) F rfl (by kernel_rfl) (by kernel_rfl) (recs_cell iC_len_i64 (bag_edges S 8 rfl hmbm (by omega)) 0 hej0 rfl) (⟨(), rfl, (SameB.refl _ _ rfl), S⟩)
           refine ⟨?_, ?_⟩
           ·
            refine ⟨_, rfl, rfl, by kernel_rfl, ?_⟩
            rintro D ⟨⟩ a z S F
            refine ⟨by kernel_rfl, ?_⟩
            exact op_loadK _ _ (some ⟨b1, 0, none⟩) 0 [.slice As x.spots.length cs, .slice Ae x.edges.length ce] F rfl (by kernel_rfl) (by kernel_rfl) (by kernel_rfl) (by simp) (cBoxK S 1 rfl 0 (by kernel_rfl)) (⟨(), rfl, (SameB.refl _ _ rfl), S⟩)
           refine ⟨?_, ?_⟩
           ·
            refine ⟨_, rfl, rfl, by kernel_rfl, ?_⟩
            rintro D ⟨⟩ a z S F
            refine ⟨by kernel_rfl, ?_⟩
            exact op_load _ _ (some ⟨b46, 0, none⟩) 1 (.slice mb.A2 mb.r.edges.length mb.c2) F rfl (by kernel_rfl) (by kernel_rfl) (cBox S 9 rfl (j := 1) rfl) (⟨(), rfl, (SameB.refl _ _ rfl), S⟩)
           refine ⟨?_, ?_⟩
           ·
            refine ⟨_, rfl, rfl, by kernel_rfl, ?_⟩
            rintro D ⟨⟩ a z S F
            refine ⟨by kernel_rfl, ?_⟩
            exact op_index _ 3 _ _ mb.A2 mb.r.edges.length mb.c2 0 1 .i64 F rfl (by kernel_rfl) (by kernel_rfl) (by kernel_rfl) (by kernel_rfl) (get_lt hej0) (recs_some (bag_edges S 8 rfl hmbm (by omega)) (m := 0) (get_lt hej0)) (⟨(), rfl, (SameB.refl _ _ rfl), S⟩)
           refine ⟨?_, ?_⟩
           ·
            refine ⟨_, rfl, rfl, by kernel_rfl, ?_⟩
            rintro D ⟨⟩ a z S F
            refine ⟨by kernel_rfl, ?_⟩
            exact op_load _ _ mb.A2 (0 * 1) (.int .i64 (j : Nat)) F rfl (by kernel_rfl) (by kernel_rfl) (recs_cell iC_len_i64 (bag_edges S 8 rfl hmbm (by omega)) 0 hej0 rfl) (⟨(), rfl, (SameB.refl _ _ rfl), S⟩)
           refine ⟨?_, ?_⟩
           ·
            refine ⟨_, rfl, rfl, by kernel_rfl, ?_⟩
            rintro D ⟨⟩ a z S F
            refine ⟨by kernel_rfl, ?_⟩
            refine op_fn F (by kernel_rfl) (rside_at28 _ As cs Ae ce x (h.move S rfl) ok (j : Nat) fst ((sideAt_in hej _).trans hs5)) ?_
            rintro e z ⟨rfl, hb⟩
            have S := S.grow hb
            exact ⟨_, rfl, (), rfl, (SameB.refl _ _ rfl), S⟩
           refine ⟨?_, ?_⟩
           ·
            refine ⟨_, rfl, rfl, by kernel_rfl, ?_⟩
            rintro D ⟨⟩ a z S F
            refine ⟨by kernel_rfl, ?_⟩
            exact op_index _ 104 _ _ Ae x.edges.length ce j 8 .i64 F rfl (by kernel_rfl) (by kernel_rfl) (by kernel_rfl) (by kernel_rfl) (get_lt hej) (recs_some h.e (m := j) (get_lt hej)) (⟨(), rfl, (SameB.refl _ _ rfl), S⟩)
           refine ⟨?_, ?_⟩
           ·
            refine ⟨_, rfl, rfl, by kernel_rfl, ?_⟩
            rintro D ⟨⟩ a z S F
            refine ⟨by kernel_rfl, ?_⟩
            exact op_field _ _ _ Ae (j * 8) 4 F rfl (by kernel_rfl) (by kernel_rfl) (recs_some h.e (m := j) (get_lt hej)) (⟨(), rfl, (SameB.refl _ _ rfl), S⟩)
           refine ⟨?_, ?_⟩
           ·
            refine ⟨_, rfl, rfl, by kernel_rfl, ?_⟩
            rintro D ⟨⟩ a z S F
            refine ⟨by kernel_rfl, ?_⟩
            exact op_indexArr _ 101 _ _ Ae (j * 8 + 4) 2 sj 2 .i64 F rfl (by kernel_rfl) (by kernel_rfl) (by kernel_rfl) (by kernel_rfl) (by omega) (recs_some h.e (m := j) (get_lt hej)) (⟨(), rfl, (SameB.refl _ _ rfl), S⟩)
           refine ⟨?_, ?_⟩
           ·
            refine ⟨_, rfl, rfl, by kernel_rfl, ?_⟩
            rintro D ⟨⟩ a z S F
            refine ⟨by kernel_rfl, ?_⟩
            exact op_loadK _ _ Ae (j * 8 + 4 + sj * 2) [.int .u64 (ej.base (sj : Nat)), .int .u64 (ej.rate (sj : Nat))] F rfl (by kernel_rfl) (by kernel_rfl) (by kernel_rfl) (by simp) (two_cells (cell_off (cOld S 0 edC_len h.e rfl (4 + sj * 2) hej (edC_base ej (m := sj) (by omega))) (by omega)) (cell_off (cOld S 0 edC_len h.e rfl (4 + sj * 2 + 1) hej (edC_rate ej (m := sj) (by omega))) (by omega))) (⟨(), rfl, (SameB.refl _ _ rfl), S⟩)
           refine ⟨?_, ?_⟩
           ·
            refine ⟨_, rfl, rfl, by kernel_rfl, ?_⟩
            rintro D ⟨⟩ a z S F
            refine ⟨by kernel_rfl, ?_⟩
            exact op_load _ _ (some ⟨b46, 0, none⟩) 2 (.slice mb.A3 mb.r.amts.length mb.c3) F rfl (by kernel_rfl) (by kernel_rfl) (cBox S 9 rfl (j := 2) rfl) (⟨(), rfl, (SameB.refl _ _ rfl), S⟩)
           refine ⟨?_, ?_⟩
           ·
            refine ⟨_, rfl, rfl, by kernel_rfl, ?_⟩
            rintro D ⟨⟩ a z S F
            refine ⟨by kernel_rfl, ?_⟩
            exact op_index _ 26 _ _ mb.A3 mb.r.amts.length mb.c3 0 1 .i64 F rfl (by kernel_rfl) (by kernel_rfl) (by kernel_rfl) (by kernel_rfl) (get_lt hum) (recs_some (bag_amts S 8 rfl hmbm (by omega)) (m := 0) (get_lt hum)) (⟨(), rfl, (SameB.refl _ _ rfl), S⟩)
           refine ⟨?_, ?_⟩
           ·
            refine ⟨_, rfl, rfl, by kernel_rfl, ?_⟩
            rintro D ⟨⟩ a z S F
            refine ⟨by kernel_rfl, ?_⟩
            exact op_load _ _ mb.A3 (0 * 1) (.int .u64 um) F rfl (by kernel_rfl) (by kernel_rfl) (recs_cell iC_len_u64 (bag_amts S 8 rfl hmbm (by omega)) 0 hum rfl) (⟨(), rfl, (SameB.refl _ _ rfl), S⟩)
           refine ⟨?_, ?_⟩
           ·
            refine ⟨_, rfl, rfl, by kernel_rfl, ?_⟩
            rintro D ⟨⟩ a z S F
            refine ⟨by kernel_rfl, ?_⟩
            refine op_fn F (by kernel_rfl) (rover_any (ej.base (sj : Nat)) (ej.rate (sj : Nat)) um (hokj.base _) (hokj.rate _) huu _) ?_
            rintro e z ⟨rfl, hb⟩
            have S := S.grow hb
            exact ⟨_, rfl, (), rfl, (SameB.refl _ _ rfl), S⟩
           trivial
          ·
           rintro ⟨⟩ a z F S
           have F := F.sub (l := [(1, .int .i64 node), (2, .int .i64 (ko : Nat)), (3, .int .i64 (ki : Nat)), (4, .int .u64 am), (5, .pointer (some ⟨b1, 0, none⟩)), (10, .pointer (some ⟨b2, 0, none⟩)), (13, .int .i64 (sv : Nat)), (17, .int .u64 ((overP (ej.base (sj : Nat)) (ej.rate (sj : Nat)) um).1)), (18, .int .i64 ((overP (ej.base (sj : Nat)) (ej.rate (sj : Nat)) um).2)), (19, .pointer (some ⟨b34, 0, none⟩)), (20, .slice D3 mb.r.amts.length d3)]) ⟨by kernel_rfl, by kernel_rfl, by kernel_rfl, by kernel_rfl, by kernel_rfl, by kernel_rfl, by kernel_rfl, by kernel_rfl, by kernel_rfl, by kernel_rfl, by kernel_rfl, trivial⟩
           have S : Sat w z [rest w (· < w.heap.size), box b1 25 [.slice As x.spots.length cs, .slice Ae x.edges.length ce], box b2 45 [.slice none 0 0, .slice none 0 0, .slice none 0 0], row 3 1 (.slice D1 ((node :: fst :: List.drop 1 mb.r.nodes : List Int).length) d1) ((node :: fst :: List.drop 1 mb.r.nodes : List Int).length) ((node :: fst :: List.drop 1 mb.r.nodes : List Int).flatMap iC_i64), row 3 1 (.slice D2 (((ko : Int) :: mb.r.edges : List Int).length) d2) (((ko : Int) :: mb.r.edges : List Int).length) (((ko : Int) :: mb.r.edges : List Int).flatMap iC_i64), box b34 45 [.slice D1 ((node :: fst :: List.drop 1 mb.r.nodes : List Int).length) d1, .slice D2 (((ko : Int) :: mb.r.edges : List Int).length) d2, .slice none 0 0], row 104 8 (.slice A37 (((withoutP x node).edges).length) c38) (((withoutP x node).edges).length) (((withoutP x node).edges).flatMap edC), box b39 25 [.slice As x.spots.length cs, .slice A37 x.edges.length c38], bag (R3.flatMap rtRows), box b46 45 [.slice mb.A1 mb.r.nodes.length mb.c1, .slice mb.A2 mb.r.edges.length mb.c2, .slice mb.A3 mb.r.amts.length mb.c3], row 26 1 (.slice D3 mb.r.amts.length d3) mb.r.amts.length (mb.r.amts.flatMap iC_u64)] := S
           refine then_n ?_
           refine s_reg ?_
           refine l_pure 1 (fun L => (216, .int .i64 ((overP (ej.base (sj : Nat)) (ej.rate (sj : Nat)) um).2)) :: L) F (by kernel_rfl) fun a F => ?_
           by_cases ht66 : ((overP (ej.base (sj : Nat)) (ej.rate (sj : Nat)) um).2 : Int) = (0 : Int)
           ·
            skip
            have hfe2 := ht66
            have hmid : cycMid x node fst lst q = (mb.r, (overP (ej.base (sj : Nat)) (ej.rate (sj : Nat)) um).1, 0) := by
              rw [mid_in (x := x) (node := node) hfl hbest (by omega) hej0 hej hs5 hum]
              exact if_neg (fun h9 => h9 hfe2)
            obtain ⟨hf3, hf4⟩ := over_fit huu (hokj.base _) (hokj.rate _) hfe2
            refine l_do F rfl rfl (op_pure F (v0 := .bool (((overP (ej.base (sj : Nat)) (ej.rate (sj : Nat)) um).2 : Int) != (0 : Int))) (v := .bool false) (by kernel_rfl) (neqF ht66) fun a F => ?_)
            refine l_then ?_
            refine c_f F rfl ?_
            refine wp_skip ?_
            refine then_n ?_
            have hX3 : (node :: fst :: List.drop 1 mb.r.nodes : List Int) = (node :: fst :: List.drop 1 mb.r.nodes : List Int) := by simp [noRt, hk9]
            have S := S.rowEq 3 hX3 (show (node :: fst :: List.drop 1 mb.r.nodes : List Int).length = ((node :: fst :: List.drop 1 mb.r.nodes : List Int)).length from congrArg List.length hX3) rfl
            have hX4 : ((ko : Int) :: mb.r.edges : List Int) = ((ko : Int) :: mb.r.edges : List Int) := by simp [noRt, hk9]
            have S := S.rowEq 4 hX4 (show ((ko : Int) :: mb.r.edges : List Int).length = (((ko : Int) :: mb.r.edges : List Int)).length from congrArg List.length hX4) rfl
            have hX10 : mb.r.amts = mb.r.amts := by simp [hk9]
            have S := S.rowEq 10 hX10 (show mb.r.amts.length = mb.r.amts.length from by rw [← hX10]) rfl
            have S : Sat w z [rest w (· < w.heap.size), box b1 25 [.slice As x.spots.length cs, .slice Ae x.edges.length ce], box b2 45 [.slice none 0 0, .slice none 0 0, .slice none 0 0], row 3 1 (.slice D1 ((node :: fst :: List.drop 1 mb.r.nodes : List Int).length) d1) ((node :: fst :: List.drop 1 mb.r.nodes : List Int).length) ((node :: fst :: List.drop 1 mb.r.nodes : List Int).flatMap iC_i64), row 3 1 (.slice D2 (((ko : Int) :: mb.r.edges : List Int).length) d2) (((ko : Int) :: mb.r.edges : List Int).length) (((ko : Int) :: mb.r.edges : List Int).flatMap iC_i64), box b34 45 [.slice D1 ((node :: fst :: List.drop 1 mb.r.nodes : List Int).length) d1, .slice D2 (((ko : Int) :: mb.r.edges : List Int).length) d2, .slice none 0 0], row 104 8 (.slice A37 (((withoutP x node).edges).length) c38) (((withoutP x node).edges).length) (((withoutP x node).edges).flatMap edC), box b39 25 [.slice As x.spots.length cs, .slice A37 x.edges.length c38], bag (R3.flatMap rtRows), box b46 45 [.slice mb.A1 mb.r.nodes.length mb.c1, .slice mb.A2 mb.r.edges.length mb.c2, .slice mb.A3 mb.r.amts.length mb.c3], row 26 1 (.slice D3 mb.r.amts.length d3) mb.r.amts.length (mb.r.amts.flatMap iC_u64)] := S
            exact hcut36 _ _ ⟨b34, mb.r, (overP (ej.base (sj : Nat)) (ej.rate (sj : Nat)) um).1, D1, d1, D2, d2, D3, d3, hmid, (by omega), hf4, (by omega), (by omega), (by omega), F.sub ⟨by kernel_rfl, by kernel_rfl, by kernel_rfl, by kernel_rfl, by kernel_rfl, by kernel_rfl, by kernel_rfl, by kernel_rfl, by kernel_rfl, by kernel_rfl, trivial⟩, (S.pick [0, 1, 2, 5, 3, 4, 10] (by decide))⟩
           ·
            skip
            have hmid : cycMid x node fst lst q = (noRt, 0, (overP (ej.base (sj : Nat)) (ej.rate (sj : Nat)) um).2) := by
              rw [mid_in (x := x) (node := node) hfl hbest (by omega) hej0 hej hs5 hum]
              exact if_pos ht66
            obtain ⟨rfl, rfl⟩ := Prod.mk.inj (hq.symm.trans (cyc_mid' hcy hroom hov hF hL hmid ht66))
            refine l_do F rfl rfl (op_pure F (v0 := .bool (((overP (ej.base (sj : Nat)) (ej.rate (sj : Nat)) um).2 : Int) != (0 : Int))) (v := .bool true) (by kernel_rfl) (neqT ht66) fun a F => ?_)
            refine l_then ?_
            refine c_t F rfl ?_
            refine s_reg ?_
            refine l_pure 2 (fun L => (219, .int .i64 ((overP (ej.base (sj : Nat)) (ej.rate (sj : Nat)) um).2)) :: (218, .agg #[.slice none 0 0, .slice none 0 0, .slice none 0 0]) :: L) F (by kernel_rfl) fun a F => ?_
            refine l_do F rfl rfl (op_storeB S 2 _ _ _ b2 0 (.agg #[.slice none 0 0, .slice none 0 0, .slice none 0 0]) F rfl rfl (by kernel_rfl) (by kernel_rfl) (by kernel_rfl) (by kernel_rfl) (by kernel_rfl) fun z S a F => ?_)
            have S : Sat w z [rest w (· < w.heap.size), box b1 25 [.slice As x.spots.length cs, .slice Ae x.edges.length ce], box b2 45 [.slice none 0 0, .slice none 0 0, .slice none 0 0], row 3 1 (.slice D1 ((node :: fst :: List.drop 1 mb.r.nodes : List Int).length) d1) ((node :: fst :: List.drop 1 mb.r.nodes : List Int).length) ((node :: fst :: List.drop 1 mb.r.nodes : List Int).flatMap iC_i64), row 3 1 (.slice D2 (((ko : Int) :: mb.r.edges : List Int).length) d2) (((ko : Int) :: mb.r.edges : List Int).length) (((ko : Int) :: mb.r.edges : List Int).flatMap iC_i64), box b34 45 [.slice D1 ((node :: fst :: List.drop 1 mb.r.nodes : List Int).length) d1, .slice D2 (((ko : Int) :: mb.r.edges : List Int).length) d2, .slice none 0 0], row 104 8 (.slice A37 (((withoutP x node).edges).length) c38) (((withoutP x node).edges).length) (((withoutP x node).edges).flatMap edC), box b39 25 [.slice As x.spots.length cs, .slice A37 x.edges.length c38], bag (R3.flatMap rtRows), box b46 45 [.slice mb.A1 mb.r.nodes.length mb.c1, .slice mb.A2 mb.r.edges.length mb.c2, .slice mb.A3 mb.r.amts.length mb.c3], row 26 1 (.slice D3 mb.r.amts.length d3) mb.r.amts.length (mb.r.amts.flatMap iC_u64)] := S
            refine l_pure 1 (fun L => (11, .int .i64 ((overP (ej.base (sj : Nat)) (ej.rate (sj : Nat)) um).2)) :: L) F (by kernel_rfl) fun a F => ?_
            refine l_then ?_
            refine wp_ret ?_
            refine then_r (?_)
            exact fin F [.cell 10 45, .tmp 11] [.agg #[.slice none 0 0, .slice none 0 0, .slice none 0 0], .int .i64 ((overP (ej.base (sj : Nat)) (ej.rate (sj : Nat)) um).2)] rfl ⟨⟨_, by kernel_rfl, resK S 2 (cs := [.slice none 0 0, .slice none 0 0, .slice none 0 0]) rfl (by kernel_rfl) (by kernel_rfl) (by simp)⟩, by kernel_rfl, trivial⟩ (.tuple #[.agg #[.slice none 0 0, .slice none 0 0, .slice none 0 0], .int .i64 ((overP (ej.base (sj : Nat)) (ej.rate (sj : Nat)) um).2)]) rfl ⟨none, 0, none, 0, none, 0, rfl, (((S.nilRow 3 1).nilRow 3 1).nilRow 26 1).pick [0, 11, 12, 13] (by decide)⟩
       ·
        skip
        obtain ⟨rfl, rfl⟩ := Prod.mk.inj (hq.symm.trans (cyc_mid' hcy hroom hov hF hL (mid_err hfl (r := (bestRt (withoutP x node) fst lst q).1) (e := (bestRt (withoutP x node) fst lst q).2) rfl ht47) ht47))
        refine l_do F rfl rfl (op_pure F (v0 := .bool (((bestRt (withoutP x node) fst lst q).2 : Int) != (0 : Int))) (v := .bool true) (by kernel_rfl) (neqT ht47) fun a F => ?_)
        refine l_then ?_
        refine c_t F rfl ?_
        refine s_reg ?_
        refine l_pure 2 (fun L => (149, .int .i64 ((bestRt (withoutP x node) fst lst q).2)) :: (148, .agg #[.slice none 0 0, .slice none 0 0, .slice none 0 0]) :: L) F (by kernel_rfl) fun a F => ?_
        refine l_do F rfl rfl (op_storeB S 2 _ _ _ b2 0 (.agg #[.slice none 0 0, .slice none 0 0, .slice none 0 0]) F rfl rfl (by kernel_rfl) (by kernel_rfl) (by kernel_rfl) (by kernel_rfl) (by kernel_rfl) fun z S a F => ?_)
        refine l_pure 1 (fun L => (11, .int .i64 ((bestRt (withoutP x node) fst lst q).2)) :: L) F (by kernel_rfl) fun a F => ?_
        refine l_then ?_
        refine wp_ret ?_
        refine then_r (then_r (?_))
        exact fin F [.cell 10 45, .tmp 11] [.agg #[.slice none 0 0, .slice none 0 0, .slice none 0 0], .int .i64 ((bestRt (withoutP x node) fst lst q).2)] rfl ⟨⟨_, by kernel_rfl, resK S 2 (cs := [.slice none 0 0, .slice none 0 0, .slice none 0 0]) rfl (by kernel_rfl) (by kernel_rfl) (by simp)⟩, by kernel_rfl, trivial⟩ (.tuple #[.agg #[.slice none 0 0, .slice none 0 0, .slice none 0 0], .int .i64 ((bestRt (withoutP x node) fst lst q).2)]) rfl ⟨none, 0, none, 0, none, 0, rfl, (((S.nilRow 3 1).nilRow 3 1).nilRow 26 1).pick [0, 10, 11, 12] (by decide)⟩
  ·
   intro hcut13
   dsimp only [tailAt] at hcut13
   refine wp_seq ?_
   rcases sideAtN_cases x out node with hsao | ⟨ko, eo, so, rfl, heo, hsao, hso, hso2⟩
   ·
    skip
    obtain ⟨rfl, rfl⟩ := Prod.mk.inj (hq.symm.trans (cyc_arg hc (.inl (by omega))))
    refine region_gx (fun D => fun (_ : Unit) => [rest w (· < w.heap.size), box b1 25 [.slice As x.spots.length cs, .slice Ae x.edges.length ce], box b2 45 [.slice none 0 0, .slice none 0 0, .slice none 0 0]]) (fun (_ : Unit) => [.agg #[.slice As x.spots.length cs, .slice Ae x.edges.length ce], .int .i64 out, .int .i64 node, .int .i64 (-1), .agg #[.slice As x.spots.length cs, .slice Ae x.edges.length ce], .int .i64 in_, .int .i64 node, .int .i64 (sideAt x in_ node), .int .i64 (-1), .int .i64 (sideAt x in_ node)]) [(0, [], [3, 7]), (3, [0], [7]), (4, [], [7]), (7, [0, 3, 4], [])] () rfl (by kernel_rfl) (by kernel_rfl) F S.drew ?_ ?_ ?_ ?_ ?_
    · rintro ⟨⟩; rfl
    · rintro ⟨⟩; kernel_rfl
    ·
     intro D D' x h
     cases x
     rfl
    ·
     refine ⟨?_, ?_⟩
     ·
      refine ⟨_, rfl, rfl, by kernel_rfl, ?_⟩
      rintro D ⟨⟩ a z S F
      refine ⟨by kernel_rfl, ?_⟩
      exact op_loadK _ _ (some ⟨b1, 0, none⟩) 0 [.slice As x.spots.length cs, .slice Ae x.edges.length ce] F rfl (by kernel_rfl) (by kernel_rfl) (by kernel_rfl) (by simp) (cBoxK S 1 rfl 0 (by kernel_rfl)) (⟨(), rfl, (SameB.refl _ _ rfl), S⟩)
     refine ⟨?_, ?_⟩
     ·
      refine ⟨_, rfl, rfl, by kernel_rfl, ?_⟩
      rintro D ⟨⟩ a z S F
      refine ⟨by kernel_rfl, ?_⟩
      refine op_fn F (by kernel_rfl) (rside_at28 _ As cs Ae ce x (h.move S rfl) ok out node hsao) ?_
      rintro e z ⟨rfl, hb⟩
      have S := S.grow hb
      exact ⟨_, rfl, (), rfl, (SameB.refl _ _ rfl), S⟩
     refine ⟨?_, ?_⟩
     ·
      refine ⟨_, rfl, rfl, by kernel_rfl, ?_⟩
      rintro D ⟨⟩ a z S F
      refine ⟨by kernel_rfl, ?_⟩
      exact op_loadK _ _ (some ⟨b1, 0, none⟩) 0 [.slice As x.spots.length cs, .slice Ae x.edges.length ce] F rfl (by kernel_rfl) (by kernel_rfl) (by kernel_rfl) (by simp) (cBoxK S 1 rfl 0 (by kernel_rfl)) (⟨(), rfl, (SameB.refl _ _ rfl), S⟩)
     refine ⟨?_, ?_⟩
     ·
      refine ⟨_, rfl, rfl, by kernel_rfl, ?_⟩
      rintro D ⟨⟩ a z S F
      refine ⟨by kernel_rfl, ?_⟩
      refine op_fn F (by kernel_rfl) (rside_at28 _ As cs Ae ce x (h.move S rfl) ok in_ node rfl) ?_
      rintro e z ⟨rfl, hb⟩
      have S := S.grow hb
      exact ⟨_, rfl, (), rfl, (SameB.refl _ _ rfl), S⟩
     trivial
    ·
     rintro ⟨⟩ a z F S
     have F := F.sub (l := [(1, .int .i64 node), (2, .int .i64 out), (3, .int .i64 in_), (4, .int .u64 am), (5, .pointer (some ⟨b1, 0, none⟩)), (10, .pointer (some ⟨b2, 0, none⟩)), (13, .int .i64 (-1)), (14, .int .i64 (sideAt x in_ node))]) ⟨by kernel_rfl, by kernel_rfl, by kernel_rfl, by kernel_rfl, by kernel_rfl, by kernel_rfl, by kernel_rfl, by kernel_rfl, trivial⟩
     have S : Sat w z [rest w (· < w.heap.size), box b1 25 [.slice As x.spots.length cs, .slice Ae x.edges.length ce], box b2 45 [.slice none 0 0, .slice none 0 0, .slice none 0 0]] := S
     refine then_n ?_
     refine wp_seq ?_
     refine s_reg ?_
     refine l_pure 15 (fun L => (54, .bool true) :: (53, undef) :: (52, undef) :: (51, .bool true) :: (50, .bool true) :: (49, undef) :: (48, undef) :: (47, undef) :: (46, .bool true) :: (45, .bool true) :: (44, undef) :: (43, undef) :: (42, .bool true) :: (41, .bool true) :: (40, .int .i64 (-1)) :: L) F (by kernel_rfl) fun a F => ?_
     refine l_then ?_
     refine c_t F rfl ?_
     refine s_reg ?_
     refine l_pure 1 (fun L => (55, .agg #[.slice none 0 0, .slice none 0 0, .slice none 0 0]) :: L) F (by kernel_rfl) fun a F => ?_
     refine l_do F rfl rfl (op_storeB S 2 _ _ _ b2 0 (.agg #[.slice none 0 0, .slice none 0 0, .slice none 0 0]) F rfl rfl (by kernel_rfl) (by kernel_rfl) (by kernel_rfl) (by kernel_rfl) (by kernel_rfl) fun z S a F => ?_)
     refine l_pure 1 (fun L => (11, .int .i64 1) :: L) F (by kernel_rfl) fun a F => ?_
     refine l_then ?_
     refine wp_ret ?_
     refine then_r (?_)
     exact fin F [.cell 10 45, .tmp 11] [.agg #[.slice none 0 0, .slice none 0 0, .slice none 0 0], .int .i64 1] rfl ⟨⟨_, by kernel_rfl, resK S 2 (cs := [.slice none 0 0, .slice none 0 0, .slice none 0 0]) rfl (by kernel_rfl) (by kernel_rfl) (by simp)⟩, by kernel_rfl, trivial⟩ (.tuple #[.agg #[.slice none 0 0, .slice none 0 0, .slice none 0 0], .int .i64 1]) rfl ⟨none, 0, none, 0, none, 0, rfl, (((S.nilRow 3 1).nilRow 3 1).nilRow 26 1).pick [0, 3, 4, 5] (by decide)⟩
   ·
    skip
    rcases sideAtN_cases x in_ node with hsai | ⟨ki, ei, si, rfl, hei, hsai, hsi, hsi2⟩
    ·
     skip
     obtain ⟨rfl, rfl⟩ := Prod.mk.inj (hq.symm.trans (cyc_arg hc (.inr (.inl (by omega)))))
     refine region_gx (fun D => fun (_ : Unit) => [rest w (· < w.heap.size), box b1 25 [.slice As x.spots.length cs, .slice Ae x.edges.length ce], box b2 45 [.slice none 0 0, .slice none 0 0, .slice none 0 0]]) (fun (_ : Unit) => [.agg #[.slice As x.spots.length cs, .slice Ae x.edges.length ce], .int .i64 (ko : Nat), .int .i64 node, .int .i64 (so : Nat), .agg #[.slice As x.spots.length cs, .slice Ae x.edges.length ce], .int .i64 in_, .int .i64 node, .int .i64 (-1), .int .i64 (so : Nat), .int .i64 (-1)]) [(0, [], [3, 7]), (3, [0], [7]), (4, [], [7]), (7, [0, 3, 4], [])] () rfl (by kernel_rfl) (by kernel_rfl) F S.drew ?_ ?_ ?_ ?_ ?_
     · rintro ⟨⟩; rfl
     · rintro ⟨⟩; kernel_rfl
     ·
      intro D D' x h
      cases x
      rfl
     ·
      refine ⟨?_, ?_⟩
      ·
       refine ⟨_, rfl, rfl, by kernel_rfl, ?_⟩
       rintro D ⟨⟩ a z S F
       refine ⟨by kernel_rfl, ?_⟩
       exact op_loadK _ _ (some ⟨b1, 0, none⟩) 0 [.slice As x.spots.length cs, .slice Ae x.edges.length ce] F rfl (by kernel_rfl) (by kernel_rfl) (by kernel_rfl) (by simp) (cBoxK S 1 rfl 0 (by kernel_rfl)) (⟨(), rfl, (SameB.refl _ _ rfl), S⟩)
      refine ⟨?_, ?_⟩
      ·
       refine ⟨_, rfl, rfl, by kernel_rfl, ?_⟩
       rintro D ⟨⟩ a z S F
       refine ⟨by kernel_rfl, ?_⟩
       refine op_fn F (by kernel_rfl) (rside_at28 _ As cs Ae ce x (h.move S rfl) ok (ko : Nat) node hsao) ?_
       rintro e z ⟨rfl, hb⟩
       have S := S.grow hb
       exact ⟨_, rfl, (), rfl, (SameB.refl _ _ rfl), S⟩
      refine ⟨?_, ?_⟩
      ·
       refine ⟨_, rfl, rfl, by kernel_rfl, ?_⟩
       rintro D ⟨⟩ a z S F
       refine ⟨by kernel_rfl, ?_⟩
       exact op_loadK _ _ (some ⟨b1, 0, none⟩) 0 [.slice As x.spots.length cs, .slice Ae x.edges.length ce] F rfl (by kernel_rfl) (by kernel_rfl) (by kernel_rfl) (by simp) (cBoxK S 1 rfl 0 (by kernel_rfl)) (⟨(), rfl, (SameB.refl _ _ rfl), S⟩)
      refine ⟨?_, ?_⟩
      ·
       refine ⟨_, rfl, rfl, by kernel_rfl, ?_⟩
       rintro D ⟨⟩ a z S F
       refine ⟨by kernel_rfl, ?_⟩
       refine op_fn F (by kernel_rfl) (rside_at28 _ As cs Ae ce x (h.move S rfl) ok in_ node hsai) ?_
       rintro e z ⟨rfl, hb⟩
       have S := S.grow hb
       exact ⟨_, rfl, (), rfl, (SameB.refl _ _ rfl), S⟩
      trivial
     ·
      rintro ⟨⟩ a z F S
      have F := F.sub (l := [(1, .int .i64 node), (2, .int .i64 (ko : Nat)), (3, .int .i64 in_), (4, .int .u64 am), (5, .pointer (some ⟨b1, 0, none⟩)), (10, .pointer (some ⟨b2, 0, none⟩)), (13, .int .i64 (so : Nat)), (14, .int .i64 (-1))]) ⟨by kernel_rfl, by kernel_rfl, by kernel_rfl, by kernel_rfl, by kernel_rfl, by kernel_rfl, by kernel_rfl, by kernel_rfl, trivial⟩
      have S : Sat w z [rest w (· < w.heap.size), box b1 25 [.slice As x.spots.length cs, .slice Ae x.edges.length ce], box b2 45 [.slice none 0 0, .slice none 0 0, .slice none 0 0]] := S
      refine then_n ?_
      refine wp_seq ?_
      refine s_reg ?_
      refine l_pure 1 (fun L => (40, .int .i64 (so : Nat)) :: L) F (by kernel_rfl) fun a F => ?_
      refine l_do F rfl rfl (op_pure F (v0 := .bool (decide (((so : Nat) : Int) < (0 : Int)))) (v := .bool false) (by kernel_rfl) (lssF (by omega)) fun a F => ?_)
      refine l_pure 13 (fun L => (54, .bool true) :: (53, undef) :: (52, undef) :: (51, .bool true) :: (50, .bool true) :: (49, undef) :: (48, undef) :: (47, undef) :: (46, .bool true) :: (45, .bool true) :: (44, .bool true) :: (43, .int .i64 (-1)) :: (42, .bool false) :: L) F (by kernel_rfl) fun a F => ?_
      refine l_then ?_
      refine c_t F rfl ?_
      refine s_reg ?_
      refine l_pure 1 (fun L => (55, .agg #[.slice none 0 0, .slice none 0 0, .slice none 0 0]) :: L) F (by kernel_rfl) fun a F => ?_
      refine l_do F rfl rfl (op_storeB S 2 _ _ _ b2 0 (.agg #[.slice none 0 0, .slice none 0 0, .slice none 0 0]) F rfl rfl (by kernel_rfl) (by kernel_rfl) (by kernel_rfl) (by kernel_rfl) (by kernel_rfl) fun z S a F => ?_)
      have S : Sat w z [rest w (· < w.heap.size), box b1 25 [.slice As x.spots.length cs, .slice Ae x.edges.length ce], box b2 45 [.slice none 0 0, .slice none 0 0, .slice none 0 0]] := S
      refine l_pure 1 (fun L => (11, .int .i64 1) :: L) F (by kernel_rfl) fun a F => ?_
      refine l_then ?_
      refine wp_ret ?_
      refine then_r (?_)
      exact fin F [.cell 10 45, .tmp 11] [.agg #[.slice none 0 0, .slice none 0 0, .slice none 0 0], .int .i64 1] rfl ⟨⟨_, by kernel_rfl, resK S 2 (cs := [.slice none 0 0, .slice none 0 0, .slice none 0 0]) rfl (by kernel_rfl) (by kernel_rfl) (by simp)⟩, by kernel_rfl, trivial⟩ (.tuple #[.agg #[.slice none 0 0, .slice none 0 0, .slice none 0 0], .int .i64 1]) rfl ⟨none, 0, none, 0, none, 0, rfl, (((S.nilRow 3 1).nilRow 3 1).nilRow 26 1).pick [0, 3, 4, 5] (by decide)⟩
    ·
     skip
     have hoki := ok.e ei (List.mem_of_getElem? hei)
     have oke := ok.e eo (List.mem_of_getElem? heo)
     refine region_gx (fun D => fun (_ : Unit) => [rest w (· < w.heap.size), box b1 25 [.slice As x.spots.length cs, .slice Ae x.edges.length ce], box b2 45 [.slice none 0 0, .slice none 0 0, .slice none 0 0]]) (fun (_ : Unit) => [.agg #[.slice As x.spots.length cs, .slice Ae x.edges.length ce], .int .i64 (ko : Nat), .int .i64 node, .int .i64 (so : Nat), .agg #[.slice As x.spots.length cs, .slice Ae x.edges.length ce], .int .i64 (ki : Nat), .int .i64 node, .int .i64 (si : Nat), .int .i64 (so : Nat), .int .i64 (si : Nat)]) [(0, [], [3, 7]), (3, [0], [7]), (4, [], [7]), (7, [0, 3, 4], [])] () rfl (by kernel_rfl) (by kernel_rfl) F S.drew ?_ ?_ ?_ ?_ ?_
     · rintro ⟨⟩; rfl
     · rintro ⟨⟩; kernel_rfl
     ·
      intro D D' x h
      cases x
      rfl
     ·
      refine ⟨?_, ?_⟩
      ·
       refine ⟨_, rfl, rfl, by kernel_rfl, ?_⟩
       rintro D ⟨⟩ a z S F
       refine ⟨by kernel_rfl, ?_⟩
       exact op_loadK _ _ (some ⟨b1, 0, none⟩) 0 [.slice As x.spots.length cs, .slice Ae x.edges.length ce] F rfl (by kernel_rfl) (by kernel_rfl) (by kernel_rfl) (by simp) (cBoxK S 1 rfl 0 (by kernel_rfl)) (⟨(), rfl, (SameB.refl _ _ rfl), S⟩)
      refine ⟨?_, ?_⟩
      ·
       refine ⟨_, rfl, rfl, by kernel_rfl, ?_⟩
       rintro D ⟨⟩ a z S F
       refine ⟨by kernel_rfl, ?_⟩
       refine op_fn F (by kernel_rfl) (rside_at28 _ As cs Ae ce x (h.move S rfl) ok (ko : Nat) node hsao) ?_
       rintro e z ⟨rfl, hb⟩
       have S := S.grow hb
       exact ⟨_, rfl, (), rfl, (SameB.refl _ _ rfl), S⟩
      refine ⟨?_, ?_⟩
      ·
       refine ⟨_, rfl, rfl, by kernel_rfl, ?_⟩
       rintro D ⟨⟩ a z S F
       refine ⟨by kernel_rfl, ?_⟩
       exact op_loadK _ _ (some ⟨b1, 0, none⟩) 0 [.slice As x.spots.length cs, .slice Ae x.edges.length ce] F rfl (by kernel_rfl) (by kernel_rfl) (by kernel_rfl) (by simp) (cBoxK S 1 rfl 0 (by kernel_rfl)) (⟨(), rfl, (SameB.refl _ _ rfl), S⟩)
      refine ⟨?_, ?_⟩
      ·
       refine ⟨_, rfl, rfl, by kernel_rfl, ?_⟩
       rintro D ⟨⟩ a z S F
       refine ⟨by kernel_rfl, ?_⟩
       refine op_fn F (by kernel_rfl) (rside_at28 _ As cs Ae ce x (h.move S rfl) ok (ki : Nat) node hsai) ?_
       rintro e z ⟨rfl, hb⟩
       have S := S.grow hb
       exact ⟨_, rfl, (), rfl, (SameB.refl _ _ rfl), S⟩
      trivial
     ·
      rintro ⟨⟩ a z F S
      have F := F.sub (l := [(1, .int .i64 node), (2, .int .i64 (ko : Nat)), (3, .int .i64 (ki : Nat)), (4, .int .u64 am), (5, .pointer (some ⟨b1, 0, none⟩)), (10, .pointer (some ⟨b2, 0, none⟩)), (13, .int .i64 (so : Nat)), (14, .int .i64 (si : Nat))]) ⟨by kernel_rfl, by kernel_rfl, by kernel_rfl, by kernel_rfl, by kernel_rfl, by kernel_rfl, by kernel_rfl, by kernel_rfl, trivial⟩
      have S : Sat w z [rest w (· < w.heap.size), box b1 25 [.slice As x.spots.length cs, .slice Ae x.edges.length ce], box b2 45 [.slice none 0 0, .slice none 0 0, .slice none 0 0]] := S
      refine then_n ?_
      refine wp_seq ?_
      refine s_reg ?_
      refine l_pure 1 (fun L => (40, .int .i64 (so : Nat)) :: L) F (by kernel_rfl) fun a F => ?_
      refine l_do F rfl rfl (op_pure F (v0 := .bool (decide (((so : Nat) : Int) < (0 : Int)))) (v := .bool false) (by kernel_rfl) (lssF (by omega)) fun a F => ?_)
      refine l_pure 2 (fun L => (43, .int .i64 (si : Nat)) :: (42, .bool false) :: L) F (by kernel_rfl) fun a F => ?_
      refine l_do F rfl rfl (op_pure F (v0 := .bool (decide (((si : Nat) : Int) < (0 : Int)))) (v := .bool false) (by kernel_rfl) (lssF (by omega)) fun a F => ?_)
      refine l_pure 4 (fun L => (48, .int .i64 (ki : Nat)) :: (47, .int .i64 (ko : Nat)) :: (46, .bool false) :: (45, .bool false) :: L) F (by kernel_rfl) fun a F => ?_
      by_cases ht67 : ((ko : Nat) : Int) = ((ki : Nat) : Int)
      ·
       skip
       obtain ⟨rfl, rfl⟩ := Prod.mk.inj (hq.symm.trans (cyc_arg hc (.inr (.inr (.inl ht67)))))
       refine l_do F rfl rfl (op_pure F (v0 := .bool (((ko : Nat) : Int) == ((ki : Nat) : Int))) (v := .bool true) (by kernel_rfl) (eqlT ht67) fun a F => ?_)
       refine l_pure 5 (fun L => (54, .bool true) :: (53, undef) :: (52, undef) :: (51, .bool true) :: (50, .bool true) :: L) F (by kernel_rfl) fun a F => ?_
       refine l_then ?_
       refine c_t F rfl ?_
       refine s_reg ?_
       refine l_pure 1 (fun L => (55, .agg #[.slice none 0 0, .slice none 0 0, .slice none 0 0]) :: L) F (by kernel_rfl) fun a F => ?_
       refine l_do F rfl rfl (op_storeB S 2 _ _ _ b2 0 (.agg #[.slice none 0 0, .slice none 0 0, .slice none 0 0]) F rfl rfl (by kernel_rfl) (by kernel_rfl) (by kernel_rfl) (by kernel_rfl) (by kernel_rfl) fun z S a F => ?_)
       refine l_pure 1 (fun L => (11, .int .i64 1) :: L) F (by kernel_rfl) fun a F => ?_
       refine l_then ?_
       refine wp_ret ?_
       refine then_r (?_)
       exact fin F [.cell 10 45, .tmp 11] [.agg #[.slice none 0 0, .slice none 0 0, .slice none 0 0], .int .i64 1] rfl ⟨⟨_, by kernel_rfl, resK S 2 (cs := [.slice none 0 0, .slice none 0 0, .slice none 0 0]) rfl (by kernel_rfl) (by kernel_rfl) (by simp)⟩, by kernel_rfl, trivial⟩ (.tuple #[.agg #[.slice none 0 0, .slice none 0 0, .slice none 0 0], .int .i64 1]) rfl ⟨none, 0, none, 0, none, 0, rfl, (((S.nilRow 3 1).nilRow 3 1).nilRow 26 1).pick [0, 3, 4, 5] (by decide)⟩
      ·
       skip
       have hne := ht67
       refine l_do F rfl rfl (op_pure F (v0 := .bool (((ko : Nat) : Int) == ((ki : Nat) : Int))) (v := .bool false) (by kernel_rfl) (eqlF ht67) fun a F => ?_)
       refine l_pure 3 (fun L => (52, .int .u64 am) :: (51, .bool false) :: (50, .bool false) :: L) F (by kernel_rfl) fun a F => ?_
       by_cases ht68 : (am : Int) = (0 : Int)
       ·
        skip
        obtain ⟨rfl, rfl⟩ := Prod.mk.inj (hq.symm.trans (cyc_arg hc (.inr (.inr (.inr ht68)))))
        refine l_do F rfl rfl (op_pure F (v0 := .bool ((am : Int) == (0 : Int))) (v := .bool true) (by kernel_rfl) (eqlT ht68) fun a F => ?_)
        refine l_pure 1 (fun L => (54, .bool true) :: L) F (by kernel_rfl) fun a F => ?_
        refine l_then ?_
        refine c_t F rfl ?_
        refine s_reg ?_
        refine l_pure 1 (fun L => (55, .agg #[.slice none 0 0, .slice none 0 0, .slice none 0 0]) :: L) F (by kernel_rfl) fun a F => ?_
        refine l_do F rfl rfl (op_storeB S 2 _ _ _ b2 0 (.agg #[.slice none 0 0, .slice none 0 0, .slice none 0 0]) F rfl rfl (by kernel_rfl) (by kernel_rfl) (by kernel_rfl) (by kernel_rfl) (by kernel_rfl) fun z S a F => ?_)
        refine l_pure 1 (fun L => (11, .int .i64 1) :: L) F (by kernel_rfl) fun a F => ?_
        refine l_then ?_
        refine wp_ret ?_
        refine then_r (?_)
        exact fin F [.cell 10 45, .tmp 11] [.agg #[.slice none 0 0, .slice none 0 0, .slice none 0 0], .int .i64 1] rfl ⟨⟨_, by kernel_rfl, resK S 2 (cs := [.slice none 0 0, .slice none 0 0, .slice none 0 0]) rfl (by kernel_rfl) (by kernel_rfl) (by simp)⟩, by kernel_rfl, trivial⟩ (.tuple #[.agg #[.slice none 0 0, .slice none 0 0, .slice none 0 0], .int .i64 1]) rfl ⟨none, 0, none, 0, none, 0, rfl, (((S.nilRow 3 1).nilRow 3 1).nilRow 26 1).pick [0, 3, 4, 5] (by decide)⟩
       ·
        skip
        have hcy : CycAt x node am ko ki eo ei so si := ⟨hc, heo, hei, hso, hsi, hso2, hsi2, hne, ht68⟩
        refine l_do F rfl rfl (op_pure F (v0 := .bool ((am : Int) == (0 : Int))) (v := .bool false) (by kernel_rfl) (eqlF ht68) fun a F => ?_)
        refine l_pure 1 (fun L => (54, .bool false) :: L) F (by kernel_rfl) fun a F => ?_
        refine l_then ?_
        refine c_f F rfl ?_
        refine wp_skip ?_
        refine then_n ?_
        refine wp_seq ?_
        refine region_gx (fun D => fun (_ : Unit) => [rest w (· < w.heap.size), box b1 25 [.slice As x.spots.length cs, .slice Ae x.edges.length ce], box b2 45 [.slice none 0 0, .slice none 0 0, .slice none 0 0]]) (fun (_ : Unit) => [.pointer (some ⟨b1, 1, none⟩), .slice Ae x.edges.length ce, .int .i64 (ko : Nat), .int .i64 (so : Nat), .int .i64 (1 - so : Nat), ptrA Ae (ko * 8), ptrA Ae (ko * 8), ptrA Ae (ko * 8 + (1 - so) * 1), .int .i64 (eo.endp (1 - so : Nat)), .pointer (some ⟨b1, 1, none⟩), .slice Ae x.edges.length ce, .int .i64 (ki : Nat), .int .i64 (si : Nat), .int .i64 (1 - si : Nat), ptrA Ae (ki * 8), ptrA Ae (ki * 8), ptrA Ae (ki * 8 + (1 - si) * 1), .int .i64 (ei.endp (1 - si : Nat)), .int .i64 (eo.endp (1 - so : Nat)), .int .i64 (ei.endp (1 - si : Nat))]) [(1, [], [5, 6, 7, 8]), (4, [], [7, 8]), (5, [1], [6, 7, 8]), (6, [1, 5], [7, 8]), (7, [1, 4, 5, 6], [8]), (8, [1, 4, 5, 6, 7], []), (10, [], [14, 15, 16, 17]), (13, [], [16, 17]), (14, [10], [15, 16, 17]), (15, [10, 14], [16, 17]), (16, [10, 13, 14, 15], [17]), (17, [10, 13, 14, 15, 16], [])] () rfl (by kernel_rfl) (by kernel_rfl) F S.drew ?_ ?_ ?_ ?_ ?_
        · rintro ⟨⟩; rfl
        · rintro ⟨⟩; kernel_rfl
        ·
         intro D D' x h
         cases x
         rfl
        ·
         refine ⟨?_, ?_⟩
         ·
          refine ⟨_, rfl, rfl, by kernel_rfl, ?_⟩
          rintro D ⟨⟩ a z S F
          refine ⟨by kernel_rfl, ?_⟩
          exact op_load _ _ (some ⟨b1, 0, none⟩) 1 (.slice Ae x.edges.length ce) F rfl (by kernel_rfl) (by kernel_rfl) (cBox S 1 rfl (j := 1) rfl) (⟨(), rfl, (SameB.refl _ _ rfl), S⟩)
         refine ⟨?_, ?_⟩
         ·
          refine ⟨_, rfl, rfl, by kernel_rfl, ?_⟩
          rintro D ⟨⟩ a z S F
          refine ⟨by kernel_rfl, ?_⟩
          exact op_pure F (v0 := .int .i64 (IntKind.wrap .i64 (1 - (so : Nat)))) (v := .int .i64 (1 - so : Nat)) (by kernel_rfl) (wrn_i64 (by omega) (by omega) (by omega)) ⟨(), rfl, (SameB.refl _ _ rfl), S⟩
         refine ⟨?_, ?_⟩
         ·
          refine ⟨_, rfl, rfl, by kernel_rfl, ?_⟩
          rintro D ⟨⟩ a z S F
          refine ⟨by kernel_rfl, ?_⟩
          exact op_index _ 104 _ _ Ae x.edges.length ce ko 8 .i64 F rfl (by kernel_rfl) (by kernel_rfl) (by kernel_rfl) (by kernel_rfl) (get_lt heo) (recs_some h.e (m := ko) (get_lt heo)) (⟨(), rfl, (SameB.refl _ _ rfl), S⟩)
         refine ⟨?_, ?_⟩
         ·
          refine ⟨_, rfl, rfl, by kernel_rfl, ?_⟩
          rintro D ⟨⟩ a z S F
          refine ⟨by kernel_rfl, ?_⟩
          exact op_field _ _ _ Ae (ko * 8) 0 F rfl (by kernel_rfl) (by kernel_rfl) (recs_some h.e (m := ko) (get_lt heo)) (⟨(), rfl, (SameB.refl _ _ rfl), S⟩)
         refine ⟨?_, ?_⟩
         ·
          refine ⟨_, rfl, rfl, by kernel_rfl, ?_⟩
          rintro D ⟨⟩ a z S F
          refine ⟨by kernel_rfl, ?_⟩
          exact op_indexArr _ 3 _ _ Ae (ko * 8) 2 (1 - so) 1 .i64 F rfl (by kernel_rfl) (by kernel_rfl) (by kernel_rfl) (by kernel_rfl) (by omega) (recs_some h.e (m := ko) (get_lt heo)) (⟨(), rfl, (SameB.refl _ _ rfl), S⟩)
         refine ⟨?_, ?_⟩
         ·
          refine ⟨_, rfl, rfl, by kernel_rfl, ?_⟩
          rintro D ⟨⟩ a z S F
          refine ⟨by kernel_rfl, ?_⟩
          exact op_load _ _ Ae (ko * 8 + (1 - so) * 1) (.int .i64 (eo.endp (1 - so : Nat))) F rfl (by kernel_rfl) (by kernel_rfl) (cell_off (cOld S 0 edC_len h.e rfl (0 + (1 - so) * 1) heo (edC_end eo (m := 1 - so) (by omega))) (by omega)) (⟨(), rfl, (SameB.refl _ _ rfl), S⟩)
         refine ⟨?_, ?_⟩
         ·
          refine ⟨_, rfl, rfl, by kernel_rfl, ?_⟩
          rintro D ⟨⟩ a z S F
          refine ⟨by kernel_rfl, ?_⟩
          exact op_load _ _ (some ⟨b1, 0, none⟩) 1 (.slice Ae x.edges.length ce) F rfl (by kernel_rfl) (by kernel_rfl) (cBox S 1 rfl (j := 1) rfl) (⟨(), rfl, (SameB.refl _ _ rfl), S⟩)
         refine ⟨?_, ?_⟩
         ·
          refine ⟨_, rfl, rfl, by kernel_rfl, ?_⟩
          rintro D ⟨⟩ a z S F
          refine ⟨by kernel_rfl, ?_⟩
          exact op_pure F (v0 := .int .i64 (IntKind.wrap .i64 (1 - (si : Nat)))) (v := .int .i64 (1 - si : Nat)) (by kernel_rfl) (wrn_i64 (by omega) (by omega) (by omega)) ⟨(), rfl, (SameB.refl _ _ rfl), S⟩
         refine ⟨?_, ?_⟩
         ·
          refine ⟨_, rfl, rfl, by kernel_rfl, ?_⟩
          rintro D ⟨⟩ a z S F
          refine ⟨by kernel_rfl, ?_⟩
          exact op_index _ 104 _ _ Ae x.edges.length ce ki 8 .i64 F rfl (by kernel_rfl) (by kernel_rfl) (by kernel_rfl) (by kernel_rfl) (get_lt hei) (recs_some h.e (m := ki) (get_lt hei)) (⟨(), rfl, (SameB.refl _ _ rfl), S⟩)
         refine ⟨?_, ?_⟩
         ·
          refine ⟨_, rfl, rfl, by kernel_rfl, ?_⟩
          rintro D ⟨⟩ a z S F
          refine ⟨by kernel_rfl, ?_⟩
          exact op_field _ _ _ Ae (ki * 8) 0 F rfl (by kernel_rfl) (by kernel_rfl) (recs_some h.e (m := ki) (get_lt hei)) (⟨(), rfl, (SameB.refl _ _ rfl), S⟩)
         refine ⟨?_, ?_⟩
         ·
          refine ⟨_, rfl, rfl, by kernel_rfl, ?_⟩
          rintro D ⟨⟩ a z S F
          refine ⟨by kernel_rfl, ?_⟩
          exact op_indexArr _ 3 _ _ Ae (ki * 8) 2 (1 - si) 1 .i64 F rfl (by kernel_rfl) (by kernel_rfl) (by kernel_rfl) (by kernel_rfl) (by omega) (recs_some h.e (m := ki) (get_lt hei)) (⟨(), rfl, (SameB.refl _ _ rfl), S⟩)
         refine ⟨?_, ?_⟩
         ·
          refine ⟨_, rfl, rfl, by kernel_rfl, ?_⟩
          rintro D ⟨⟩ a z S F
          refine ⟨by kernel_rfl, ?_⟩
          exact op_load _ _ Ae (ki * 8 + (1 - si) * 1) (.int .i64 (ei.endp (1 - si : Nat))) F rfl (by kernel_rfl) (by kernel_rfl) (cell_off (cOld S 0 edC_len h.e rfl (0 + (1 - si) * 1) hei (edC_end ei (m := 1 - si) (by omega))) (by omega)) (⟨(), rfl, (SameB.refl _ _ rfl), S⟩)
         trivial
        ·
         rintro ⟨⟩ a z F S
         have F := F.sub (l := [(1, .int .i64 node), (2, .int .i64 (ko : Nat)), (3, .int .i64 (ki : Nat)), (4, .int .u64 am), (5, .pointer (some ⟨b1, 0, none⟩)), (10, .pointer (some ⟨b2, 0, none⟩)), (13, .int .i64 (so : Nat)), (14, .int .i64 (si : Nat)), (15, .int .i64 (eo.endp (1 - so : Nat))), (16, .int .i64 (ei.endp (1 - si : Nat)))]) ⟨by kernel_rfl, by kernel_rfl, by kernel_rfl, by kernel_rfl, by kernel_rfl, by kernel_rfl, by kernel_rfl, by kernel_rfl, by kernel_rfl, by kernel_rfl, trivial⟩
         have S : Sat w z [rest w (· < w.heap.size), box b1 25 [.slice As x.spots.length cs, .slice Ae x.edges.length ce], box b2 45 [.slice none 0 0, .slice none 0 0, .slice none 0 0]] := S
         refine then_n ?_
         refine wp_seq ?_
         refine s_reg ?_
         refine l_pure 1 (fun L => (74, .pointer (some ⟨b1, 1, none⟩)) :: L) F (by kernel_rfl) fun a F => ?_
         refine l_do F rfl rfl (op_load _ _ (some ⟨b1, 0, none⟩) 1 (.slice Ae x.edges.length ce) F rfl (by kernel_rfl) (by kernel_rfl) (cBox S 1 rfl (j := 1) rfl) (fun a F => ?_))
         refine l_pure 2 (fun L => (77, .int .i64 (si : Nat)) :: (76, .int .i64 (ki : Nat)) :: L) F (by kernel_rfl) fun a F => ?_
         refine l_do F rfl rfl (op_pure F (v0 := .int .i64 (IntKind.wrap .i64 (1 - (si : Nat)))) (v := .int .i64 (1 - si : Nat)) (by kernel_rfl) (wrn_i64 (by omega) (by omega) (by omega)) fun a F => ?_)
         refine l_do F rfl rfl (op_index _ 104 _ _ Ae x.edges.length ce ki 8 .i64 F rfl (by kernel_rfl) (by kernel_rfl) (by kernel_rfl) (by kernel_rfl) (get_lt hei) (recs_some h.e (m := ki) (get_lt hei)) (fun a F => ?_))
         refine l_do F rfl rfl (op_field _ _ _ Ae (ki * 8) 2 F rfl (by kernel_rfl) (by kernel_rfl) (recs_some h.e (m := ki) (get_lt hei)) (fun a F => ?_))
         refine l_do F rfl rfl (op_indexArr _ 26 _ _ Ae (ki * 8 + 2) 2 (1 - si) 1 .i64 F rfl (by kernel_rfl) (by kernel_rfl) (by kernel_rfl) (by kernel_rfl) (by omega) (recs_some h.e (m := ki) (get_lt hei)) (fun a F => ?_))
         refine l_do F rfl rfl (op_load _ _ Ae (ki * 8 + 2 + (1 - si) * 1) (.int .u64 (ei.can (1 - si : Nat))) F rfl (by kernel_rfl) (by kernel_rfl) (cell_off (cOld S 0 edC_len h.e rfl (2 + (1 - si) * 1) hei (edC_can ei (m := 1 - si) (by omega))) (by omega)) (fun a F => ?_))
         refine l_pure 1 (fun L => (83, .int .u64 am) :: L) F (by kernel_rfl) fun a F => ?_
         by_cases ht69 : (ei.can (1 - si : Nat) : Int) < (am : Int)
         ·
          skip
          obtain ⟨rfl, rfl⟩ := Prod.mk.inj (hq.symm.trans (cyc_room1 hcy ht69))
          refine l_do F rfl rfl (op_pure F (v0 := .bool (decide ((ei.can (1 - si : Nat) : Int) < (am : Int)))) (v := .bool true) (by kernel_rfl) (lssT ht69) fun a F => ?_)
          refine l_then ?_
          refine c_t F rfl ?_
          refine s_reg ?_
          refine l_pure 1 (fun L => (85, .agg #[.slice none 0 0, .slice none 0 0, .slice none 0 0]) :: L) F (by kernel_rfl) fun a F => ?_
          refine l_do F rfl rfl (op_storeB S 2 _ _ _ b2 0 (.agg #[.slice none 0 0, .slice none 0 0, .slice none 0 0]) F rfl rfl (by kernel_rfl) (by kernel_rfl) (by kernel_rfl) (by kernel_rfl) (by kernel_rfl) fun z S a F => ?_)
          have S : Sat w z [rest w (· < w.heap.size), box b1 25 [.slice As x.spots.length cs, .slice Ae x.edges.length ce], box b2 45 [.slice none 0 0, .slice none 0 0, .slice none 0 0]] := S
          refine l_pure 1 (fun L => (11, .int .i64 28) :: L) F (by kernel_rfl) fun a F => ?_
          refine l_then ?_
          refine wp_ret ?_
          refine then_r (?_)
          exact fin F [.cell 10 45, .tmp 11] [.agg #[.slice none 0 0, .slice none 0 0, .slice none 0 0], .int .i64 28] rfl ⟨⟨_, by kernel_rfl, resK S 2 (cs := [.slice none 0 0, .slice none 0 0, .slice none 0 0]) rfl (by kernel_rfl) (by kernel_rfl) (by simp)⟩, by kernel_rfl, trivial⟩ (.tuple #[.agg #[.slice none 0 0, .slice none 0 0, .slice none 0 0], .int .i64 28]) rfl ⟨none, 0, none, 0, none, 0, rfl, (((S.nilRow 3 1).nilRow 3 1).nilRow 26 1).pick [0, 3, 4, 5] (by decide)⟩
         ·
          skip
          have hroom := ht69
          refine l_do F rfl rfl (op_pure F (v0 := .bool (decide ((ei.can (1 - si : Nat) : Int) < (am : Int)))) (v := .bool false) (by kernel_rfl) (lssF ht69) fun a F => ?_)
          refine l_then ?_
          refine c_f F rfl ?_
          refine wp_skip ?_
          refine then_n ?_
          refine s_reg ?_
          refine l_pure 1 (fun L => (87, .pointer (some ⟨b1, 1, none⟩)) :: L) F (by kernel_rfl) fun a F => ?_
          refine l_do F rfl rfl (op_load _ _ (some ⟨b1, 0, none⟩) 1 (.slice Ae x.edges.length ce) F rfl (by kernel_rfl) (by kernel_rfl) (cBox S 1 rfl (j := 1) rfl) (fun a F => ?_))
          refine l_pure 2 (fun L => (90, .int .i64 (si : Nat)) :: (89, .int .i64 (ki : Nat)) :: L) F (by kernel_rfl) fun a F => ?_
          refine l_do F rfl rfl (op_pure F (v0 := .int .i64 (IntKind.wrap .i64 (1 - (si : Nat)))) (v := .int .i64 (1 - si : Nat)) (by kernel_rfl) (wrn_i64 (by omega) (by omega) (by omega)) fun a F => ?_)
          refine l_do F rfl rfl (op_index _ 104 _ _ Ae x.edges.length ce ki 8 .i64 F rfl (by kernel_rfl) (by kernel_rfl) (by kernel_rfl) (by kernel_rfl) (get_lt hei) (recs_some h.e (m := ki) (get_lt hei)) (fun a F => ?_))
          refine l_do F rfl rfl (op_field _ _ _ Ae (ki * 8) 4 F rfl (by kernel_rfl) (by kernel_rfl) (recs_some h.e (m := ki) (get_lt hei)) (fun a F => ?_))
          refine l_do F rfl rfl (op_indexArr _ 101 _ _ Ae (ki * 8 + 4) 2 (1 - si) 2 .i64 F rfl (by kernel_rfl) (by kernel_rfl) (by kernel_rfl) (by kernel_rfl) (by omega) (recs_some h.e (m := ki) (get_lt hei)) (fun a F => ?_))
          refine l_do F rfl rfl (op_loadK _ _ Ae (ki * 8 + 4 + (1 - si) * 2) [.int .u64 (ei.base (1 - si : Nat)), .int .u64 (ei.rate (1 - si : Nat))] F rfl (by kernel_rfl) (by kernel_rfl) (by kernel_rfl) (by simp) (two_cells (cell_off (cOld S 0 edC_len h.e rfl (4 + (1 - si) * 2) hei (edC_base ei (m := 1 - si) (by omega))) (by omega)) (cell_off (cOld S 0 edC_len h.e rfl (4 + (1 - si) * 2 + 1) hei (edC_rate ei (m := 1 - si) (by omega))) (by omega))) (fun a F => ?_))
          refine l_pure 1 (fun L => (96, .int .u64 am) :: L) F (by kernel_rfl) fun a F => ?_
          refine l_do F rfl rfl (op_fn F (by kernel_rfl) (rover_any (ei.base (1 - si : Nat)) (ei.rate (1 - si : Nat)) am (hoki.base _) (hoki.rate _) hua _) ?_)
          rintro e z ⟨rfl, hb⟩
          have S := S.grow hb
          refine ⟨_, rfl, ?_⟩
          intro a F
          refine l_pure 5 (fun L => (18, .int .i64 ((overP (ei.base (1 - si : Nat)) (ei.rate (1 - si : Nat)) am).2)) :: (17, .int .u64 ((overP (ei.base (1 - si : Nat)) (ei.rate (1 - si : Nat)) am).1)) :: (99, .int .i64 ((overP (ei.base (1 - si : Nat)) (ei.rate (1 - si : Nat)) am).2)) :: (98, .int .u64 ((overP (ei.base (1 - si : Nat)) (ei.rate (1 - si : Nat)) am).1)) :: (86, .tuple #[.int .u64 ((overP (ei.base (1 - si : Nat)) (ei.rate (1 - si : Nat)) am).1), .int .i64 ((overP (ei.base (1 - si : Nat)) (ei.rate (1 - si : Nat)) am).2)]) :: L) F (by kernel_rfl) fun a F => ?_
          refine l_then ?_
          refine wp_seq ?_
          refine s_reg ?_
          refine l_pure 1 (fun L => (100, .int .i64 ((overP (ei.base (1 - si : Nat)) (ei.rate (1 - si : Nat)) am).2)) :: L) F (by kernel_rfl) fun a F => ?_
          by_cases ht70 : ((overP (ei.base (1 - si : Nat)) (ei.rate (1 - si : Nat)) am).2 : Int) = (0 : Int)
          ·
           skip
           have hfee := ht70
           have hfit := over_fit hua (hoki.base _) (hoki.rate _) hfee
           refine l_do F rfl rfl (op_pure F (v0 := .bool (((overP (ei.base (1 - si : Nat)) (ei.rate (1 - si : Nat)) am).2 : Int) != (0 : Int))) (v := .bool false) (by kernel_rfl) (neqF ht70) fun a F => ?_)
           refine l_then ?_
           refine c_f F rfl ?_
           refine wp_skip ?_
           refine then_n ?_
           exact hcut13 _ _ ⟨ko, ki, eo, ei, so, si, eo.endp (1 - so : Nat), ei.endp (1 - si : Nat), (overP (ei.base (1 - si : Nat)) (ei.rate (1 - si : Nat)) am).1, rfl, rfl, hcy, hroom, (by have h9 : (overP (ei.base (1 - si : Nat)) (ei.rate (1 - si : Nat)) am) = ((overP (ei.base (1 - si : Nat)) (ei.rate (1 - si : Nat)) am).1, (overP (ei.base (1 - si : Nat)) (ei.rate (1 - si : Nat)) am).2) := rfl; rw [hfee] at h9; exact h9), rfl, rfl, hfit.1, hfit.2, F.sub ⟨by kernel_rfl, by kernel_rfl, by kernel_rfl, by kernel_rfl, by kernel_rfl, by kernel_rfl, by kernel_rfl, by kernel_rfl, by kernel_rfl, by kernel_rfl, trivial⟩, S⟩
          ·
           skip
           obtain ⟨rfl, rfl⟩ := Prod.mk.inj (hq.symm.trans (cyc_fee hcy hroom ht70))
           refine l_do F rfl rfl (op_pure F (v0 := .bool (((overP (ei.base (1 - si : Nat)) (ei.rate (1 - si : Nat)) am).2 : Int) != (0 : Int))) (v := .bool true) (by kernel_rfl) (neqT ht70) fun a F => ?_)
           refine l_then ?_
           refine c_t F rfl ?_
           refine s_reg ?_
           refine l_pure 2 (fun L => (103, .int .i64 ((overP (ei.base (1 - si : Nat)) (ei.rate (1 - si : Nat)) am).2)) :: (102, .agg #[.slice none 0 0, .slice none 0 0, .slice none 0 0]) :: L) F (by kernel_rfl) fun a F => ?_
           refine l_do F rfl rfl (op_storeB S 2 _ _ _ b2 0 (.agg #[.slice none 0 0, .slice none 0 0, .slice none 0 0]) F rfl rfl (by kernel_rfl) (by kernel_rfl) (by kernel_rfl) (by kernel_rfl) (by kernel_rfl) fun z S a F => ?_)
           refine l_pure 1 (fun L => (11, .int .i64 ((overP (ei.base (1 - si : Nat)) (ei.rate (1 - si : Nat)) am).2)) :: L) F (by kernel_rfl) fun a F => ?_
           refine l_then ?_
           refine wp_ret ?_
           refine then_r (?_)
           exact fin F [.cell 10 45, .tmp 11] [.agg #[.slice none 0 0, .slice none 0 0, .slice none 0 0], .int .i64 ((overP (ei.base (1 - si : Nat)) (ei.rate (1 - si : Nat)) am).2)] rfl ⟨⟨_, by kernel_rfl, resK S 2 (cs := [.slice none 0 0, .slice none 0 0, .slice none 0 0]) rfl (by kernel_rfl) (by kernel_rfl) (by simp)⟩, by kernel_rfl, trivial⟩ (.tuple #[.agg #[.slice none 0 0, .slice none 0 0, .slice none 0 0], .int .i64 ((overP (ei.base (1 - si : Nat)) (ei.rate (1 - si : Nat)) am).2)]) rfl ⟨none, 0, none, 0, none, 0, rfl, (((S.nilRow 3 1).nilRow 3 1).nilRow 26 1).pick [0, 3, 4, 5] (by decide)⟩
 ·
  skip
  have hc := ht3
  obtain ⟨rfl, rfl⟩ := Prod.mk.inj (hq.symm.trans (cyc_bad hc))
  refine l_do F rfl rfl (op_pure F (v0 := .bool ((chkP x : Int) != (0 : Int))) (v := .bool true) (by kernel_rfl) (neqT ht3) fun a F => ?_)
  refine l_then ?_
  refine c_t F rfl ?_
  refine s_reg ?_
  refine l_pure 2 (fun L => (31, .int .i64 (chkP x)) :: (30, .agg #[.slice none 0 0, .slice none 0 0, .slice none 0 0]) :: L) F (by kernel_rfl) fun a F => ?_
  refine l_do F rfl rfl (op_storeB S 2 _ _ _ b2 0 (.agg #[.slice none 0 0, .slice none 0 0, .slice none 0 0]) F rfl rfl (by kernel_rfl) (by kernel_rfl) (by kernel_rfl) (by kernel_rfl) (by kernel_rfl) fun z S a F => ?_)
  refine l_pure 1 (fun L => (11, .int .i64 (chkP x)) :: L) F (by kernel_rfl) fun a F => ?_
  refine l_then ?_
  refine wp_ret ?_
  refine then_r (?_)
  exact fin F [.cell 10 45, .tmp 11] [.agg #[.slice none 0 0, .slice none 0 0, .slice none 0 0], .int .i64 (chkP x)] rfl ⟨⟨_, by kernel_rfl, resK S 2 (cs := [.slice none 0 0, .slice none 0 0, .slice none 0 0]) rfl (by kernel_rfl) (by kernel_rfl) (by simp)⟩, by kernel_rfl, trivial⟩ (.tuple #[.agg #[.slice none 0 0, .slice none 0 0, .slice none 0 0], .int .i64 (chkP x)]) rfl ⟨none, 0, none, 0, none, 0, rfl, (((S.nilRow 3 1).nilRow 3 1).nilRow 26 1).pick [0, 3, 4, 5] (by decide)⟩
end Go.Proofs.Ytcfpbemoocegfaa
