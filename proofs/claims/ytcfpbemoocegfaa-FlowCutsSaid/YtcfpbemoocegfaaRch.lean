/- Walk over the search: how nodes are come to. -/
import Derived.Test.YtcfpbemoocegfaaRchQ
namespace Go.Proofs.Ytcfpbemoocegfaa
set_option linter.unusedVariables false
set_option linter.unusedSimpArgs false
set_option linter.unnecessarySimpa false
open Go Go.RowKit

theorem Sat.rowEq9 {w0 w : World} {l : List Asn} (S : Sat w0 w l) (i : Nat) {α : Type} {k : Nat} {f : α → List Value} {T : TypeId} {A : Option Addr} {c n : Nat} {X : List α} (hn : n = X.length) (hi : l[i]? = some (row T k (.slice A n c) n (X.flatMap f))) : Sat w0 w (l.set i (row T k (.slice A X.length c) X.length (X.flatMap f))) := by
  subst hn
  exact S.turn hi fun F hF => ⟨F, hF, fun _ h => h⟩
set_option maxRecDepth 100000 in
set_option maxHeartbeats 4000000 in
theorem reach27_any (w : World) (As : Option Addr) (cs : Nat) (Ae : Option Addr) (ce : Nat) (x : Wb) (h : WebAt w As cs Ae ce x) (ok : x.Ok) (Ar : Option Addr) (cr : Nat) (y : Wb) (hR : Recs 2 resC w Ar cr y.edges) (hres : ResOf x y) (hc : chkP x = 0) (fr : Nat) (hfr : fr < x.spots.length) : Calls Try.prog 77 #[.slice Ar y.edges.length cr, .agg #[.slice As x.spots.length cs, .slice Ae x.edges.length ce], .int .i64 (fr : Nat)] w fun e w' => ∃ A' c' by_, e = .returned (.slice A' by_.length c') ∧ RchOk x y fr by_ ∧ Sat w w' [rest w (· < w.heap.size), row 3 1 (.slice A' by_.length c') by_.length (by_.flatMap iC_i64)] := by
 refine enter 94 Try.func77 rfl rfl rfl fun a F => ?_
 have hxl := h.s.len
 obtain ⟨zc1, zc2, _⟩ := chk_zero hc
 have hyl := hres.len
 have S := Sat.pushRest w
 refine s_reg ?_
 refine l_do F rfl rfl (op_box S _ _ (.agg #[.slice As x.spots.length cs, .slice Ae x.edges.length ce]) F rfl (by kernel_rfl) fun b1 z S a F => ?_)
 refine l_pure 1 (fun L => (6, .slice none 0 0) :: L) F (by kernel_rfl) fun a F => ?_
 refine l_then ?_
 refine s_reg ?_
 refine l_pure 1 (fun L => (14, .pointer (some ⟨b1, 0, none⟩)) :: L) F (by kernel_rfl) fun a F => ?_
 refine l_do F rfl rfl (op_load _ _ (some ⟨b1, 0, none⟩) 0 (.slice As x.spots.length cs) F rfl (by kernel_rfl) (by kernel_rfl) (cBox S 1 rfl (j := 0) rfl) (fun a F => ?_))
 refine l_pure 1 (fun L => (16, .int .i64 (x.spots.length : Nat)) :: L) F (by kernel_rfl) fun a F => ?_
 refine l_do F rfl rfl (op_make S _ 3 _ _ .i64 .i64 (.int .i64 0) 1 8 x.spots.length 0 iC_i64 F iC_len_i64 rfl (by kernel_rfl) (by kernel_rfl) rfl (by kernel_rfl) (by kernel_rfl) (by kernel_rfl) (by omega) (by omega) fun b2 z S a F => ?_)
 refine l_pure 1 (fun L => (7, .slice (some ⟨b2, 0, none⟩) x.spots.length x.spots.length) :: L) F (by kernel_rfl) fun a F => ?_
 refine l_then ?_
 refine wp_seq ?_
 refine s_reg ?_
 refine l_pure 3 (fun L => (20, .int .i64 0) :: (19, .int .i64 (x.spots.length : Nat)) :: (18, .slice (some ⟨b2, 0, none⟩) x.spots.length x.spots.length) :: L) F (by kernel_rfl) fun a F => ?_
 refine l_then ?_
 refine wp_block ?_
 refine wp_loop_m (fun m a z => ∃ (i : Nat), m = x.spots.length - i ∧ (i ≤ x.spots.length) ∧ Fr a 94 [(0, .slice Ar y.edges.length cr), (2, .int .i64 (fr : Nat)), (4, .pointer (some ⟨b1, 0, none⟩)), (7, .slice (some ⟨b2, 0, none⟩) x.spots.length x.spots.length), (19, .int .i64 (x.spots.length : Nat)), (20, .int .i64 (i : Nat))] ∧ Sat w z [rest w (· < w.heap.size), box b1 32 [.slice As x.spots.length cs, .slice Ae x.edges.length ce], row 3 1 (.slice (some ⟨b2, 0, none⟩) x.spots.length x.spots.length) x.spots.length ((minusT x.spots.length i).flatMap iC_i64)]) _ ⟨0, rfl, Nat.zero_le _, F.sub ⟨by kernel_rfl, by kernel_rfl, by kernel_rfl, by kernel_rfl, by kernel_rfl, by kernel_rfl, trivial⟩, (S.rowX 2 (show (List.replicate x.spots.length 0) = minusT x.spots.length 0 from (minusT_zero _).symm) rfl)⟩ ?_
 rintro m a z ⟨i, hm, hf3, F, S⟩
 refine s_reg ?_
 by_cases ht4 : ((i : Nat) : Int) < ((x.spots.length : Nat) : Int)
 ·
  skip
  refine l_do F rfl rfl (op_pure F (v0 := .bool (decide (((i : Nat) : Int) < ((x.spots.length : Nat) : Int)))) (v := .bool true) (by kernel_rfl) (lssT ht4) fun a F => ?_)
  refine l_then ?_
  refine wp_seq ?_
  refine c_t F rfl ?_
  refine wp_skip ?_
  refine then_n ?_
  refine wp_seq ?_
  refine wp_block ?_
  refine s_reg ?_
  refine l_pure 2 (fun L => (8, .int .i64 (i : Nat)) :: (22, .int .i64 (i : Nat)) :: L) F (by kernel_rfl) fun a F => ?_
  refine l_then ?_
  refine wp_region_list ?_
  refine l_pure 2 (fun L => (24, .int .i64 (i : Nat)) :: (23, .slice (some ⟨b2, 0, none⟩) x.spots.length x.spots.length) :: L) F (by kernel_rfl) fun a F => ?_
  refine l_do F rfl rfl (op_index _ 3 _ _ (some ⟨b2, 0, none⟩) x.spots.length x.spots.length i 1 .i64 F rfl (by kernel_rfl) (by kernel_rfl) (by kernel_rfl) (by kernel_rfl) (by omega) rfl (fun a F => ?_))
  refine l_do F rfl rfl (op_storeRec S 2 _ _ _ (some ⟨b2, 0, none⟩) i 1 0 (.int .i64 (-1)) (-1) F iC_len_i64 (minusT_get (by omega)) rfl rfl (by kernel_rfl) (by kernel_rfl) (by kernel_rfl) (by kernel_rfl) (by kernel_rfl) (by kernel_rfl) (by kernel_rfl) fun z S a F => ?_)
  refine l_nil (inb_n ?_)
  refine then_n ?_
  refine wp_region_list ?_
  refine l_do F rfl rfl (op_pure F (v0 := .int .i64 (IntKind.wrap .i64 ((i : Nat) + 1))) (v := .int .i64 (i + 1 : Nat)) (by kernel_rfl) (wrn_i64 (by omega) (by omega) (by omega)) fun a F => ?_)
  refine l_pure 1 (fun L => (20, .int .i64 (i + 1 : Nat)) :: L) F (by kernel_rfl) fun a F => ?_
  refine l_then ?_
  have S := S.rowX 2 (show ((minusT x.spots.length i).set i (-1)) = minusT x.spots.length (i + 1) from minusT_set (by omega)) rfl
  exact ⟨_, (by omega), i + 1, rfl, (by omega), F.sub ⟨by kernel_rfl, by kernel_rfl, by kernel_rfl, by kernel_rfl, by kernel_rfl, by kernel_rfl, trivial⟩, S⟩
 ·
  skip
  refine l_do F rfl rfl (op_pure F (v0 := .bool (decide (((i : Nat) : Int) < ((x.spots.length : Nat) : Int)))) (v := .bool false) (by kernel_rfl) (lssF ht4) fun a F => ?_)
  refine l_then ?_
  refine wp_seq ?_
  refine c_f F rfl ?_
  refine wp_exit ?_
  refine then_x ?_
  refine then_x ?_
  refine inb_x ?_
  refine then_n ?_
  refine s_reg ?_
  refine l_pure 3 (fun L => (29, .pointer (some ⟨b1, 1, none⟩)) :: (28, .int .i64 (fr : Nat)) :: (27, .slice (some ⟨b2, 0, none⟩) x.spots.length x.spots.length) :: L) F (by kernel_rfl) fun a F => ?_
  refine l_do F rfl rfl (op_load _ _ (some ⟨b1, 0, none⟩) 1 (.slice Ae x.edges.length ce) F rfl (by kernel_rfl) (by kernel_rfl) (cBox S 1 rfl (j := 1) rfl) (fun a F => ?_))
  refine l_pure 1 (fun L => (31, .int .i64 (x.edges.length : Nat)) :: L) F (by kernel_rfl) fun a F => ?_
  refine l_do F rfl rfl (op_index _ 3 _ _ (some ⟨b2, 0, none⟩) x.spots.length x.spots.length fr 1 .i64 F rfl (by kernel_rfl) (by kernel_rfl) (by kernel_rfl) (by kernel_rfl) (by omega) rfl (fun a F => ?_))
  refine l_do F rfl rfl (op_storeRec S 2 _ _ _ (some ⟨b2, 0, none⟩) fr 1 0 (.int .i64 (x.edges.length : Nat)) ((x.edges.length : Nat) : Int) F iC_len_i64 (by rw [minusT_all (by omega) (by omega), List.getElem?_replicate, if_pos hfr]) rfl rfl (by kernel_rfl) (by kernel_rfl) (by kernel_rfl) (by kernel_rfl) (by kernel_rfl) (by kernel_rfl) (by kernel_rfl) fun z S a F => ?_)
  refine l_then ?_
  refine s_reg ?_
  refine l_pure 1 (fun L => (33, .int .i64 (fr : Nat)) :: L) F (by kernel_rfl) fun a F => ?_
  refine l_do F rfl rfl (op_buildSlice S _ 1 _ 3 1 iC_i64 ([(fr : Nat)] : List Int) F rfl (by kernel_rfl) (by kernel_rfl) (by kernel_rfl) (by unfold maxLen; omega) fun b5 z S a F => ?_)
  refine l_pure 1 (fun L => (9, .slice (some ⟨b5, 0, none⟩) 1 1) :: L) F (by kernel_rfl) fun a F => ?_
  refine l_then ?_
  refine wp_seq ?_
  refine wp_block ?_
  have S := S.rowX 2 (show ((minusT x.spots.length i).set fr ((x.edges.length : Nat) : Int)) = ((List.replicate x.spots.length (-1 : Int)).set fr (x.edges.length : Nat)) from by rw [minusT_all (by omega) (by omega)]) rfl
  have S := S.qOfRow (X := qI (List.drop 0 [fr])) 3 iC_len_i64 rfl rfl
  refine wp_loop_m (fun m a z => ∃ (h9 : Nat) (Q : List Nat) (by_ : List Int) (qA : Option Addr) (qc : Nat), m = x.spots.length - h9 ∧ (Bfs x y fr by_ Q) ∧ (Done y Q h9) ∧ (h9 ≤ Q.length) ∧ Fr a 94 [(0, .slice Ar y.edges.length cr), (4, .pointer (some ⟨b1, 0, none⟩)), (7, .slice (some ⟨b2, 0, none⟩) x.spots.length x.spots.length), (9, .slice qA ((qI (List.drop h9 Q)).length) qc)] ∧ Sat w z [rest w (· < w.heap.size), box b1 32 [.slice As x.spots.length cs, .slice Ae x.edges.length ce], row 3 1 (.slice (some ⟨b2, 0, none⟩) x.spots.length x.spots.length) x.spots.length (by_.flatMap iC_i64), qrow 3 1 iC_i64 qA qc (qI (List.drop h9 Q))]) _ ⟨0, [fr], ((List.replicate x.spots.length (-1 : Int)).set fr (x.edges.length : Nat)), (some ⟨b5, 0, none⟩), 1, rfl, (bfs_start hfr), (fun j u hj => absurd hj (Nat.not_lt_zero j)), (by simp), F.sub ⟨by kernel_rfl, by kernel_rfl, by kernel_rfl, by kernel_rfl, trivial⟩, S⟩ ?_
  rintro m a z ⟨h9, Q, by_, qA, qc, hm, hf6, hf7, hf8, F, S⟩
  have hbfs := hf6
  have hdone := hf7
  have hcnt := hbfs.cnt
  have hblen := hbfs.len
  refine wp_seq ?_
  refine s_reg ?_
  refine l_pure 2 (fun L => (36, .int .i64 ((qI (List.drop h9 Q)).length : Nat)) :: (35, .slice qA ((qI (List.drop h9 Q)).length) qc) :: L) F (by kernel_rfl) fun a F => ?_
  by_cases ht9 : (0 : Int) < (((qI (List.drop h9 Q)).length : Nat) : Int)
  ·
   skip
   obtain ⟨u, tl, hu, htl, hQd⟩ := qI_next (Q := Q) (h := h9) (by omega)
   have hQl := (List.getElem?_eq_some_iff.1 hu).1
   have hqlen : tl.length ≤ 100 := by rw [htl]; unfold qI; rw [List.length_map, List.length_drop]; omega
   rw [hQd] at F S
   have hpos9 : (0 : Int) < ((((u : Int) :: tl).length : Nat) : Int) := by rw [List.length_cons]; omega
   refine l_do F rfl rfl (op_pure F (v0 := .bool (decide (((((u : Int) :: tl).length : Nat) : Int) > (0 : Int)))) (v := .bool true) (by kernel_rfl) (gtrT hpos9) fun a F => ?_)
   refine l_then ?_
   refine c_t F rfl ?_
   refine wp_skip ?_
   refine then_n ?_
   refine wp_block ?_
   refine s_reg ?_
   refine l_pure 1 (fun L => (38, .slice qA (((u : Int) :: tl).length) qc) :: L) F (by kernel_rfl) fun a F => ?_
   refine l_do F rfl rfl (op_index _ 3 _ _ qA (((u : Int) :: tl).length) qc 0 1 .i64 F rfl (by kernel_rfl) (by kernel_rfl) (by kernel_rfl) (by kernel_rfl) (get_lt (show (((u : Int) :: tl) : List Int)[0]? = some (u : Int) from rfl)) (recs_some (qrow_recs S 3 rfl (by first | omega | (simp <;> omega))) (m := 0) (get_lt (show (((u : Int) :: tl) : List Int)[0]? = some (u : Int) from rfl))) (fun a F => ?_))
   refine l_do F rfl rfl (op_load _ _ qA (0 * 1) (.int .i64 (u : Nat)) F rfl (by kernel_rfl) (by kernel_rfl) (recs_cell iC_len_i64 (qrow_recs S 3 rfl (by first | omega | (simp <;> omega))) 0 (show (((u : Int) :: tl) : List Int)[0]? = some (u : Int) from rfl) rfl) (fun a F => ?_))
   refine l_pure 1 (fun L => (10, .int .i64 (u : Nat)) :: L) F (by kernel_rfl) fun a F => ?_
   refine l_then ?_
   refine s_reg ?_
   refine l_pure 1 (fun L => (41, .slice qA (((u : Int) :: tl).length) qc) :: L) F (by kernel_rfl) fun a F => ?_
   refine l_do F rfl rfl (op_sliceT (.slice (if qc = 1 then qA else Option.map (·.add (1 * 1)) qA) tl.length (qc - 1)) _ 3 _ _ qA (((u : Int) :: tl).length) qc 1 .i64 F rfl (by kernel_rfl) (by kernel_rfl) (by kernel_rfl) (by kernel_rfl) (by simp) rfl fun a F => ?_)
   have S := S.qTail 3 iC_len_i64 rfl
   have S : Sat w z [rest w (· < w.heap.size), box b1 32 [.slice As x.spots.length cs, .slice Ae x.edges.length ce], row 3 1 (.slice (some ⟨b2, 0, none⟩) x.spots.length x.spots.length) x.spots.length (by_.flatMap iC_i64), qrow 3 1 iC_i64 (if qc = 1 then qA else Option.map (·.add (1 * 1)) qA) (qc - 1) tl] := S
   refine l_pure 1 (fun L => (9, .slice (if qc = 1 then qA else Option.map (·.add (1 * 1)) qA) tl.length (qc - 1)) :: L) F (by kernel_rfl) fun a F => ?_
   refine l_then ?_
   refine s_reg ?_
   refine l_pure 1 (fun L => (43, .pointer (some ⟨b1, 1, none⟩)) :: L) F (by kernel_rfl) fun a F => ?_
   refine l_do F rfl rfl (op_load _ _ (some ⟨b1, 0, none⟩) 1 (.slice Ae x.edges.length ce) F rfl (by kernel_rfl) (by kernel_rfl) (cBox S 1 rfl (j := 1) rfl) (fun a F => ?_))
   refine l_pure 2 (fun L => (46, .int .i64 0) :: (45, .int .i64 (x.edges.length : Nat)) :: L) F (by kernel_rfl) fun a F => ?_
   refine l_then ?_
   refine wp_block ?_
   refine wp_loop_m (fun m a z => ∃ (k : Nat) (Q2 : List Nat) (by2 : List Int) (qA2 : Option Addr) (qc2 : Nat) (tl2 : List Int), m = x.edges.length - k ∧ (k ≤ x.edges.length) ∧ (Bfs x y fr by2 Q2) ∧ (Done y Q2 h9) ∧ (Part y Q2 u k) ∧ (Q2[h9]? = some u) ∧ (tl2 = qI (List.drop (h9 + 1) Q2)) ∧ Fr a 94 [(0, .slice Ar y.edges.length cr), (4, .pointer (some ⟨b1, 0, none⟩)), (7, .slice (some ⟨b2, 0, none⟩) x.spots.length x.spots.length), (9, .slice qA2 tl2.length qc2), (10, .int .i64 (u : Nat)), (44, .slice Ae x.edges.length ce), (45, .int .i64 (x.edges.length : Nat)), (46, .int .i64 (k : Nat))] ∧ Sat w z [rest w (· < w.heap.size), box b1 32 [.slice As x.spots.length cs, .slice Ae x.edges.length ce], row 3 1 (.slice (some ⟨b2, 0, none⟩) x.spots.length x.spots.length) x.spots.length (by2.flatMap iC_i64), qrow 3 1 iC_i64 qA2 qc2 tl2]) _ ⟨0, Q, by_, (if qc = 1 then qA else Option.map (·.add (1 * 1)) qA), (qc - 1), tl, rfl, Nat.zero_le _, hbfs, hdone, (fun i f s hi => absurd hi (Nat.not_lt_zero i)), hu, htl, F.sub ⟨by kernel_rfl, by kernel_rfl, by kernel_rfl, by kernel_rfl, by kernel_rfl, by kernel_rfl, by kernel_rfl, by kernel_rfl, trivial⟩, S⟩ ?_
   rintro m a z ⟨k, Q2, by2, qA2, qc2, tl2, hm, hf10, hf11, hf12, hf13, hf14, hf15, F, S⟩
   have hbfs2 := hf11
   have hdone2 := hf12
   have hpart := hf13
   have hu2 := hf14
   have htl2 := hf15
   have hcnt2 := hbfs2.cnt
   have hblen2 := hbfs2.len
   have hQ2l9 := (List.getElem?_eq_some_iff.1 hu2).1
   have htl2l : tl2.length ≤ 100 := by rw [htl2]; unfold qI; rw [List.length_map, List.length_drop]; omega
   refine s_reg ?_
   by_cases ht16 : ((k : Nat) : Int) < ((x.edges.length : Nat) : Int)
   ·
    skip
    obtain ⟨ed, hed⟩ : ∃ ed, x.edges[k]? = some ed := ⟨_, List.getElem?_eq_getElem (by omega)⟩
    have hlen9 := hres.len
    obtain ⟨f, hf⟩ : ∃ f, y.edges[k]? = some f := ⟨_, List.getElem?_eq_getElem (by omega)⟩
    refine l_do F rfl rfl (op_pure F (v0 := .bool (decide (((k : Nat) : Int) < ((x.edges.length : Nat) : Int)))) (v := .bool true) (by kernel_rfl) (lssT ht16) fun a F => ?_)
    refine l_then ?_
    refine wp_seq ?_
    refine c_t F rfl ?_
    refine wp_skip ?_
    refine then_n ?_
    refine wp_seq ?_
    refine wp_block ?_
    refine s_reg ?_
    refine l_pure 1 (fun L => (48, .int .i64 (k : Nat)) :: L) F (by kernel_rfl) fun a F => ?_
    refine l_do F rfl rfl (op_index _ 62 _ _ Ae x.edges.length ce k 8 .i64 F rfl (by kernel_rfl) (by kernel_rfl) (by kernel_rfl) (by kernel_rfl) (get_lt hed) (recs_some h.e (m := k) (get_lt hed)) (fun a F => ?_))
    refine l_do F rfl rfl (op_loadK _ _ Ae (k * 8) [.int .i64 ed.a, .int .i64 ed.b, .int .u64 ed.c0, .int .u64 ed.c1, .int .u64 ed.b0, .int .u64 ed.r0, .int .u64 ed.b1, .int .u64 ed.r1] F rfl (by kernel_rfl) (by kernel_rfl) (by kernel_rfl) (by simp) (cOldK0 S 0 edC_len h.e rfl hed (by kernel_rfl)) (fun a F => ?_))
    refine l_do F rfl rfl (op_alloc S _ (.agg #[.int .i64 0, .int .i64 0, .int .u64 0, .int .u64 0, .int .u64 0, .int .u64 0, .int .u64 0, .int .u64 0]) rfl (by kernel_rfl) fun b17 z S a F => ?_)
    refine l_pure 1 (fun L => (11, .int .i64 (k : Nat)) :: L) F (by kernel_rfl) fun a F => ?_
    refine l_do F rfl rfl (op_storeB S 4 _ _ _ b17 0 (.agg #[.int .i64 ed.a, .int .i64 ed.b, .int .u64 ed.c0, .int .u64 ed.c1, .int .u64 ed.b0, .int .u64 ed.r0, .int .u64 ed.b1, .int .u64 ed.r1]) F rfl rfl (by kernel_rfl) (by kernel_rfl) (by kernel_rfl) (by kernel_rfl) (by kernel_rfl) fun z S a F => ?_)
    have S : Sat w z [rest w (· < w.heap.size), box b1 32 [.slice As x.spots.length cs, .slice Ae x.edges.length ce], row 3 1 (.slice (some ⟨b2, 0, none⟩) x.spots.length x.spots.length) x.spots.length (by2.flatMap iC_i64), qrow 3 1 iC_i64 qA2 qc2 tl2, box b17 62 [.int .i64 ed.a, .int .i64 ed.b, .int .u64 ed.c0, .int .u64 ed.c1, .int .u64 ed.b0, .int .u64 ed.r0, .int .u64 ed.b1, .int .u64 ed.r1]] := S
    refine l_then ?_
    refine s_reg ?_
    refine l_do F rfl rfl (op_loadK _ _ (some ⟨b17, 0, none⟩) 0 [.int .i64 ed.a, .int .i64 ed.b, .int .u64 ed.c0, .int .u64 ed.c1, .int .u64 ed.b0, .int .u64 ed.r0, .int .u64 ed.b1, .int .u64 ed.r1] F rfl (by kernel_rfl) (by kernel_rfl) (by kernel_rfl) (by simp) (cBoxK S 4 rfl 0 (by kernel_rfl)) (fun a F => ?_))
    refine l_pure 1 (fun L => (52, .int .i64 (u : Nat)) :: L) F (by kernel_rfl) fun a F => ?_
    rcases sideN_cases ed (u : Nat) with ⟨hs, ha, hb1⟩ | ⟨s, hs2, hs, hse⟩
    ·
     skip
     refine l_do F rfl rfl (op_fn F (by kernel_rfl) (side_at hs _) ?_)
     rintro e z ⟨rfl, hb⟩
     have S := S.grow hb
     refine ⟨_, rfl, ?_⟩
     intro a F
     refine l_pure 1 (fun L => (13, .int .i64 (-1)) :: L) F (by kernel_rfl) fun a F => ?_
     refine l_then ?_
     refine wp_seq ?_
     refine s_reg ?_
     refine l_pure 22 (fun L => (75, .bool true) :: (74, undef) :: (73, undef) :: (72, undef) :: (71, undef) :: (70, undef) :: (69, undef) :: (68, undef) :: (67, undef) :: (66, undef) :: (65, .bool true) :: (64, .bool true) :: (63, undef) :: (62, undef) :: (61, undef) :: (60, undef) :: (59, undef) :: (58, undef) :: (57, undef) :: (56, .bool true) :: (55, .bool true) :: (54, .int .i64 (-1)) :: L) F (by kernel_rfl) fun a F => ?_
     refine l_then ?_
     refine c_t F rfl ?_
     refine wp_exit ?_
     refine then_x ?_
     refine inb_x ?_
     refine then_n ?_
     refine wp_region_list ?_
     refine l_do F rfl rfl (op_pure F (v0 := .int .i64 (IntKind.wrap .i64 ((k : Nat) + 1))) (v := .int .i64 (k + 1 : Nat)) (by kernel_rfl) (wrn_i64 (by omega) (by omega) (by omega)) fun a F => ?_)
     refine l_pure 1 (fun L => (46, .int .i64 (k + 1 : Nat)) :: L) F (by kernel_rfl) fun a F => ?_
     refine l_then ?_
     exact ⟨_, (by omega), k + 1, Q2, by2, qA2, qc2, tl2, rfl, (by omega), hbfs2, hdone2, (part_none hres hpart hed hf ha hb1), hu2, htl2, F.sub ⟨by kernel_rfl, by kernel_rfl, by kernel_rfl, by kernel_rfl, by kernel_rfl, by kernel_rfl, by kernel_rfl, by kernel_rfl, trivial⟩, (S.pick [0, 1, 2, 3] (by decide))⟩
    ·
     skip
     obtain ⟨v, hv, hvl⟩ := ends_in hc hed (1 - s)
     obtain ⟨bv, hbv⟩ : ∃ bv, by2[v]? = some bv := ⟨_, List.getElem?_eq_getElem (by omega)⟩
     refine l_do F rfl rfl (op_fn F (by kernel_rfl) (side_at hs _) ?_)
     rintro e z ⟨rfl, hb⟩
     have S := S.grow hb
     refine ⟨_, rfl, ?_⟩
     intro a F
     refine l_pure 1 (fun L => (13, .int .i64 (s : Nat)) :: L) F (by kernel_rfl) fun a F => ?_
     refine l_then ?_
     refine wp_seq ?_
     refine s_reg ?_
     refine l_pure 1 (fun L => (54, .int .i64 (s : Nat)) :: L) F (by kernel_rfl) fun a F => ?_
     refine l_do F rfl rfl (op_pure F (v0 := .bool (decide (((s : Nat) : Int) < (0 : Int)))) (v := .bool false) (by kernel_rfl) (lssF (by omega)) fun a F => ?_)
     refine l_pure 4 (fun L => (59, .int .i64 (s : Nat)) :: (58, .int .i64 (k : Nat)) :: (57, .slice Ar y.edges.length cr) :: (56, .bool false) :: L) F (by kernel_rfl) fun a F => ?_
     refine l_do F rfl rfl (op_index _ 57 _ _ Ar y.edges.length cr k 2 .i64 F rfl (by kernel_rfl) (by kernel_rfl) (by kernel_rfl) (by kernel_rfl) (get_lt hf) (recs_some hR (m := k) (get_lt hf)) (fun a F => ?_))
     refine l_do F rfl rfl (op_indexArr _ 26 _ _ Ar (k * 2) 2 s 1 .i64 F rfl (by kernel_rfl) (by kernel_rfl) (by kernel_rfl) (by kernel_rfl) (by omega) (recs_some hR (m := k) (get_lt hf)) (fun a F => ?_))
     refine l_do F rfl rfl (op_load _ _ Ar (k * 2 + s * 1) (.int .u64 (f.can (s : Nat))) F rfl (by kernel_rfl) (by kernel_rfl) (cell_off (cOld S 0 resC_len hR rfl (0 + s * 1) hf (resC_can f (m := s) (by omega))) (by omega)) (fun a F => ?_))
     by_cases ht18 : (f.can (s : Nat) : Int) = (0 : Int)
     ·
      skip
      refine l_do F rfl rfl (op_pure F (v0 := .bool ((f.can (s : Nat) : Int) == (0 : Int))) (v := .bool true) (by kernel_rfl) (eqlT ht18) fun a F => ?_)
      refine l_pure 12 (fun L => (75, .bool true) :: (74, undef) :: (73, undef) :: (72, undef) :: (71, undef) :: (70, undef) :: (69, undef) :: (68, undef) :: (67, undef) :: (66, undef) :: (65, .bool true) :: (64, .bool true) :: L) F (by kernel_rfl) fun a F => ?_
      refine l_then ?_
      refine c_t F rfl ?_
      refine wp_exit ?_
      refine then_x ?_
      refine inb_x ?_
      refine then_n ?_
      refine wp_region_list ?_
      refine l_do F rfl rfl (op_pure F (v0 := .int .i64 (IntKind.wrap .i64 ((k : Nat) + 1))) (v := .int .i64 (k + 1 : Nat)) (by kernel_rfl) (wrn_i64 (by omega) (by omega) (by omega)) fun a F => ?_)
      refine l_pure 1 (fun L => (46, .int .i64 (k + 1 : Nat)) :: L) F (by kernel_rfl) fun a F => ?_
      refine l_then ?_
      exact ⟨_, (by omega), k + 1, Q2, by2, qA2, qc2, tl2, rfl, (by omega), hbfs2, hdone2, (part_dry hc hres hpart hed hf hs2 hse ht18), hu2, htl2, F.sub ⟨by kernel_rfl, by kernel_rfl, by kernel_rfl, by kernel_rfl, by kernel_rfl, by kernel_rfl, by kernel_rfl, by kernel_rfl, trivial⟩, (S.pick [0, 1, 2, 3] (by decide))⟩
     ·
      skip
      refine l_do F rfl rfl (op_pure F (v0 := .bool ((f.can (s : Nat) : Int) == (0 : Int))) (v := .bool false) (by kernel_rfl) (eqlF ht18) fun a F => ?_)
      refine l_pure 4 (fun L => (67, .int .i64 (s : Nat)) :: (66, .slice (some ⟨b2, 0, none⟩) x.spots.length x.spots.length) :: (65, .bool false) :: (64, .bool false) :: L) F (by kernel_rfl) fun a F => ?_
      refine l_do F rfl rfl (op_pure F (v0 := .int .i64 (IntKind.wrap .i64 (1 - (s : Nat)))) (v := .int .i64 (1 - s : Nat)) (by kernel_rfl) (wrn_i64 (by omega) (by omega) (by omega)) fun a F => ?_)
      refine l_pure 1 (fun L => (69, .pointer (some ⟨b17, 0, none⟩)) :: L) F (by kernel_rfl) fun a F => ?_
      refine l_do F rfl rfl (op_indexArr _ 3 _ _ (some ⟨b17, 0, none⟩) (0) 2 (1 - s) 1 .i64 F rfl (by kernel_rfl) (by kernel_rfl) (by kernel_rfl) (by kernel_rfl) (by omega) rfl (fun a F => ?_))
      refine l_do F rfl rfl (op_load _ _ (some ⟨b17, 0, none⟩) (0 + (1 - s) * 1) (.int .i64 (v : Nat)) F rfl (by kernel_rfl) (by kernel_rfl) (cell_off (cBox S 4 rfl (j := 0 + (1 - s) * 1) (by rw [← hv]; exact (edC_end ed (m := 1 - s) (by omega)))) (by omega)) (fun a F => ?_))
      refine l_do F rfl rfl (op_index _ 3 _ _ (some ⟨b2, 0, none⟩) x.spots.length x.spots.length v 1 .i64 F rfl (by kernel_rfl) (by kernel_rfl) (by kernel_rfl) (by kernel_rfl) (by have h9 := get_lt hbv; (try simp only [List.length_set] at h9); omega) rfl (fun a F => ?_))
      refine l_do F rfl rfl (op_load _ _ (some ⟨b2, 0, none⟩) (v * 1) (.int .i64 bv) F rfl (by kernel_rfl) (by kernel_rfl) (cRec S 2 iC_len_i64 rfl 0 hbv rfl) (fun a F => ?_))
      by_cases ht19 : (0 : Int) ≤ (bv : Int)
      ·
       skip
       refine l_do F rfl rfl (op_pure F (v0 := .bool (decide ((bv : Int) ≥ (0 : Int)))) (v := .bool true) (by kernel_rfl) (geqT ht19) fun a F => ?_)
       refine l_pure 1 (fun L => (75, .bool true) :: L) F (by kernel_rfl) fun a F => ?_
       refine l_then ?_
       refine c_t F rfl ?_
       refine wp_exit ?_
       refine then_x ?_
       refine inb_x ?_
       refine then_n ?_
       refine wp_region_list ?_
       refine l_do F rfl rfl (op_pure F (v0 := .int .i64 (IntKind.wrap .i64 ((k : Nat) + 1))) (v := .int .i64 (k + 1 : Nat)) (by kernel_rfl) (wrn_i64 (by omega) (by omega) (by omega)) fun a F => ?_)
       refine l_pure 1 (fun L => (46, .int .i64 (k + 1 : Nat)) :: L) F (by kernel_rfl) fun a F => ?_
       refine l_then ?_
       exact ⟨_, (by omega), k + 1, Q2, by2, qA2, qc2, tl2, rfl, (by omega), hbfs2, hdone2, (part_seen hc hres hpart hed hf hs2 hse hv ((hbfs2.mem v).2 ⟨bv, hbv, ht19⟩)), hu2, htl2, F.sub ⟨by kernel_rfl, by kernel_rfl, by kernel_rfl, by kernel_rfl, by kernel_rfl, by kernel_rfl, by kernel_rfl, by kernel_rfl, trivial⟩, (S.pick [0, 1, 2, 3] (by decide))⟩
      ·
       skip
       refine l_do F rfl rfl (op_pure F (v0 := .bool (decide ((bv : Int) ≥ (0 : Int)))) (v := .bool false) (by kernel_rfl) (geqF ht19) fun a F => ?_)
       refine l_pure 1 (fun L => (75, .bool false) :: L) F (by kernel_rfl) fun a F => ?_
       refine l_then ?_
       refine c_f F rfl ?_
       refine wp_skip ?_
       refine then_n ?_
       refine s_reg ?_
       refine l_pure 2 (fun L => (77, .int .i64 (s : Nat)) :: (76, .slice (some ⟨b2, 0, none⟩) x.spots.length x.spots.length) :: L) F (by kernel_rfl) fun a F => ?_
       refine l_do F rfl rfl (op_pure F (v0 := .int .i64 (IntKind.wrap .i64 (1 - (s : Nat)))) (v := .int .i64 (1 - s : Nat)) (by kernel_rfl) (wrn_i64 (by omega) (by omega) (by omega)) fun a F => ?_)
       refine l_pure 1 (fun L => (79, .pointer (some ⟨b17, 0, none⟩)) :: L) F (by kernel_rfl) fun a F => ?_
       refine l_do F rfl rfl (op_indexArr _ 3 _ _ (some ⟨b17, 0, none⟩) (0) 2 (1 - s) 1 .i64 F rfl (by kernel_rfl) (by kernel_rfl) (by kernel_rfl) (by kernel_rfl) (by omega) rfl (fun a F => ?_))
       refine l_do F rfl rfl (op_load _ _ (some ⟨b17, 0, none⟩) (0 + (1 - s) * 1) (.int .i64 (v : Nat)) F rfl (by kernel_rfl) (by kernel_rfl) (cell_off (cBox S 4 rfl (j := 0 + (1 - s) * 1) (by rw [← hv]; exact (edC_end ed (m := 1 - s) (by omega)))) (by omega)) (fun a F => ?_))
       refine l_pure 1 (fun L => (82, .int .i64 (k : Nat)) :: L) F (by kernel_rfl) fun a F => ?_
       refine l_do F rfl rfl (op_index _ 3 _ _ (some ⟨b2, 0, none⟩) x.spots.length x.spots.length v 1 .i64 F rfl (by kernel_rfl) (by kernel_rfl) (by kernel_rfl) (by kernel_rfl) (by have h9 := get_lt hbv; (try simp only [List.length_set] at h9); omega) rfl (fun a F => ?_))
       refine l_do F rfl rfl (op_storeRec S 2 _ _ _ (some ⟨b2, 0, none⟩) v 1 0 (.int .i64 (k : Nat)) ((k : Nat) : Int) F iC_len_i64 hbv rfl rfl (by kernel_rfl) (by kernel_rfl) (by kernel_rfl) (by kernel_rfl) (by kernel_rfl) (by kernel_rfl) (by kernel_rfl) fun z S a F => ?_)
       refine l_then ?_
       refine wp_region_list ?_
       refine l_pure 2 (fun L => (85, .int .i64 (s : Nat)) :: (84, .slice qA2 tl2.length qc2) :: L) F (by kernel_rfl) fun a F => ?_
       refine l_do F rfl rfl (op_pure F (v0 := .int .i64 (IntKind.wrap .i64 (1 - (s : Nat)))) (v := .int .i64 (1 - s : Nat)) (by kernel_rfl) (wrn_i64 (by omega) (by omega) (by omega)) fun a F => ?_)
       refine l_pure 1 (fun L => (87, .pointer (some ⟨b17, 0, none⟩)) :: L) F (by kernel_rfl) fun a F => ?_
       refine l_do F rfl rfl (op_indexArr _ 3 _ _ (some ⟨b17, 0, none⟩) (0) 2 (1 - s) 1 .i64 F rfl (by kernel_rfl) (by kernel_rfl) (by kernel_rfl) (by kernel_rfl) (by omega) rfl (fun a F => ?_))
       refine l_do F rfl rfl (op_load _ _ (some ⟨b17, 0, none⟩) (0 + (1 - s) * 1) (.int .i64 (v : Nat)) F rfl (by kernel_rfl) (by kernel_rfl) (cell_off (cBox S 4 rfl (j := 0 + (1 - s) * 1) (by rw [← hv]; exact (edC_end ed (m := 1 - s) (by omega)))) (by omega)) (fun a F => ?_))
       refine l_do F rfl rfl (op_buildSlice S _ 1 _ 3 1 iC_i64 ([(v : Nat)] : List Int) F rfl (by kernel_rfl) (by kernel_rfl) (by kernel_rfl) (by unfold maxLen; omega) fun b20 z S a F => ?_)
       refine l_do F rfl rfl (op_appendQ S 3 _ _ _ 3 (.int .i64 0) 1 8 tl2 ([(v : Nat)] : List Int) iC_i64 (some ⟨b20, 0, none⟩) 1 F iC_len_i64 (fun _ => rfl) rfl rfl (by kernel_rfl) (by kernel_rfl) rfl rfl rfl (by kernel_rfl) (by kernel_rfl) (row_none (S.rowOf (i := 5) rfl)) (src_row (S.rowOf (i := 5) rfl)) (by first | omega | (simp <;> omega)) fun A21 c22 z S a F => ?_)
       refine l_pure 1 (fun L => (9, .slice A21 ((tl2 ++ ([(v : Nat)] : List Int)).length) c22) :: L) F (by kernel_rfl) fun a F => ?_
       refine l_nil (inb_n ?_)
       refine then_n ?_
       refine wp_region_list ?_
       refine l_do F rfl rfl (op_pure F (v0 := .int .i64 (IntKind.wrap .i64 ((k : Nat) + 1))) (v := .int .i64 (k + 1 : Nat)) (by kernel_rfl) (wrn_i64 (by omega) (by omega) (by omega)) fun a F => ?_)
       refine l_pure 1 (fun L => (46, .int .i64 (k + 1 : Nat)) :: L) F (by kernel_rfl) fun a F => ?_
       refine l_then ?_
       have S := S.rowX 2 (show (by2.set v ((k : Nat) : Int)) = (by2.set v (k : Nat)) from rfl) rfl
       have hfe := hres.at_ k ed f hed hf
       have hfu : f.endp (s : Int) = (u : Int) := (endp_ends hfe.1 hfe.2.1 _).trans hse
       have hfv : f.endp ((1 - s : Nat) : Int) = (v : Int) := (endp_ends hfe.1 hfe.2.1 _).trans hv
       have hcf : 0 < f.can (s : Int) := by
         have h9 := hres.ok.e f (List.mem_of_getElem? hf)
         have h8 := h9.c0.1
         have h7 := h9.c1.1
         have h6 : 0 ≤ f.can (s : Int) := by unfold Edg.can; split <;> assumption
         omega
       have hQ2l := (List.getElem?_eq_some_iff.1 hu2).1
       have htl3 : (tl2 ++ ([(v : Nat)] : List Int)) = tl2 ++ [(v : Int)] := rfl
       have S : Sat w z [rest w (· < w.heap.size), box b1 32 [.slice As x.spots.length cs, .slice Ae x.edges.length ce], row 3 1 (.slice (some ⟨b2, 0, none⟩) x.spots.length x.spots.length) x.spots.length ((by2.set v (k : Nat)).flatMap iC_i64), qrow 3 1 iC_i64 A21 c22 (tl2 ++ [(v : Int)]), box b17 62 [.int .i64 ed.a, .int .i64 ed.b, .int .u64 ed.c0, .int .u64 ed.c1, .int .u64 ed.b0, .int .u64 ed.r0, .int .u64 ed.b1, .int .u64 ed.r1], row 3 1 (.slice (some ⟨b20, 0, none⟩) 1 1) 1 (([(v : Nat)] : List Int).flatMap iC_i64)] := S
       exact ⟨_, (by omega), k + 1, Q2 ++ [v], (by2.set v (k : Nat)), A21, c22, (tl2 ++ [(v : Int)]), rfl, (by omega), (bfs_more hbfs2 hf hs2 hfu hfv hcf hu2 hbv (by omega)), (hdone2.more (by omega) v), (part_seen hc hres (hpart.more v) hed hf hs2 hse hv (by simp)), (get_app hu2), (qI_snoc htl2 (by omega)), F.sub ⟨by kernel_rfl, by kernel_rfl, by kernel_rfl, by kernel_rfl, by kernel_rfl, by kernel_rfl, by kernel_rfl, by kernel_rfl, trivial⟩, (S.pick [0, 1, 2, 3] (by decide))⟩
   ·
    skip
    refine l_do F rfl rfl (op_pure F (v0 := .bool (decide (((k : Nat) : Int) < ((x.edges.length : Nat) : Int)))) (v := .bool false) (by kernel_rfl) (lssF ht16) fun a F => ?_)
    refine l_then ?_
    refine wp_seq ?_
    refine c_f F rfl ?_
    refine wp_exit ?_
    refine then_x ?_
    refine then_x ?_
    refine inb_x ?_
    refine inb_n ?_
    refine then_n ?_
    rw [htl2] at F S
    exact ⟨_, (by have := hbfs2.cnt; have := hbfs.cnt; omega), h9 + 1, Q2, by2, qA2, qc2, rfl, hbfs2, (done_next hdone2 hu2 (by have h7 := hpart; rw [show k = y.edges.length from by have := hres.len; omega] at h7; exact h7)), (by omega), F.sub ⟨by kernel_rfl, by kernel_rfl, by kernel_rfl, by kernel_rfl, trivial⟩, S⟩
  ·
   skip
   have hend := qI_end (Q := Q) (h := h9) (by omega)
   have hrch : RchOk x y fr by_ := ⟨Q, hbfs, by rw [show Q.length = h9 from by omega]; exact hdone⟩
   refine l_do F rfl rfl (op_pure F (v0 := .bool (decide ((((qI (List.drop h9 Q)).length : Nat) : Int) > (0 : Int)))) (v := .bool false) (by kernel_rfl) (gtrF ht9) fun a F => ?_)
   refine l_then ?_
   refine c_f F rfl ?_
   refine wp_exit ?_
   refine then_x ?_
   refine then_x ?_
   refine inb_x ?_
   refine then_n ?_
   refine s_reg ?_
   refine l_pure 2 (fun L => (6, .slice (some ⟨b2, 0, none⟩) x.spots.length x.spots.length) :: (93, .slice (some ⟨b2, 0, none⟩) x.spots.length x.spots.length) :: L) F (by kernel_rfl) fun a F => ?_
   refine l_then ?_
   refine wp_ret ?_
   have hN9 : x.spots.length = by_.length := hbfs.len.symm
   have S := S.rowEq9 2 hN9 rfl
   exact fin F [.tmp 6] [.slice (some ⟨b2, 0, none⟩) x.spots.length x.spots.length] rfl ⟨by kernel_rfl, trivial⟩ (.slice (some ⟨b2, 0, none⟩) x.spots.length x.spots.length) rfl ⟨(some ⟨b2, 0, none⟩), x.spots.length, by_, by rw [hN9], hrch, S.pick [0, 2] (by decide)⟩
end Go.Proofs.Ytcfpbemoocegfaa
