/- Walks over routes, as the document says: what goes over each channel. -/
import Derived.Test.YtcfpbemoocegfaaRoutes
import Derived.Test.YtcfpbemoocegfaaPathP
namespace Go.Proofs.Ytcfpbemoocegfaa
set_option linter.unusedVariables false
set_option linter.unusedSimpArgs false
set_option linter.unnecessarySimpa false
open Go Go.RowKit

set_option maxRecDepth 100000 in
set_option maxHeartbeats 4000000 in
theorem rside_at (w : World) (As : Option Addr) (cs : Nat) (Ae : Option Addr) (ce : Nat) (x : Wb) (h : WebAt w As cs Ae ce x) (ok : x.Ok) (j : Nat) (ed : Edg) (hed : x.edges[j]? = some ed) (n v : Int) (hs : sideP ed n = v) (hv : 0 ≤ v) : Calls Try.prog 103 #[.agg #[.slice As x.spots.length cs, .slice Ae x.edges.length ce], .int .i64 (j : Nat), .int .i64 n] w fun e w' => e = .returned (.int .i64 v) ∧ Below w.heap.size w w' := by
 refine enter 16 Try.func103 rfl rfl rfl fun a F => ?_
 have S := Sat.pushRest w
 have hj9 := get_lt hed
 have sb : ¬ ed.a = n → ed.b = n := fun h1 => by
   rcases side_cases ed n with ⟨h, h2⟩ | ⟨h, h2, h3⟩ | ⟨h, h2, h3⟩
   · exact absurd h2 h1
   · exact h2
   · rw [hs] at h; omega
 refine s_reg ?_
 refine l_do F rfl rfl (op_box S _ _ (.agg #[.slice As x.spots.length cs, .slice Ae x.edges.length ce]) F rfl (by kernel_rfl) fun b1 z S a F => ?_)
 refine l_pure 1 (fun L => (6, .int .i64 0) :: L) F (by kernel_rfl) fun a F => ?_
 refine l_then ?_
 refine wp_seq ?_
 refine s_reg ?_
 refine l_pure 1 (fun L => (7, .pointer (some ⟨b1, 1, none⟩)) :: L) F (by kernel_rfl) fun a F => ?_
 refine l_do F rfl rfl (op_load _ _ (some ⟨b1, 0, none⟩) 1 (.slice Ae x.edges.length ce) F rfl (by kernel_rfl) (by kernel_rfl) (cBox S 1 rfl (j := 1) rfl) (fun a F => ?_))
 refine l_pure 1 (fun L => (9, .int .i64 (j : Nat)) :: L) F (by kernel_rfl) fun a F => ?_
 refine l_do F rfl rfl (op_index _ 104 _ _ Ae x.edges.length ce j 8 .i64 F rfl (by kernel_rfl) (by kernel_rfl) (by kernel_rfl) (by kernel_rfl) (by omega) (recs_some h.e (m := j) (by omega)) (fun a F => ?_))
 refine l_do F rfl rfl (op_field _ _ _ Ae (j * 8) 0 F rfl (by kernel_rfl) (by kernel_rfl) (recs_some h.e (m := j) (by omega)) (fun a F => ?_))
 refine l_do F rfl rfl (op_indexArr _ 3 _ _ Ae (j * 8) 2 0 1 .i64 F rfl (by kernel_rfl) (by kernel_rfl) (by kernel_rfl) (by kernel_rfl) (by decide) (recs_some h.e (m := j) (by omega)) (fun a F => ?_))
 refine l_do F rfl rfl (op_load _ _ Ae (j * 8) (.int .i64 ed.a) F rfl (by kernel_rfl) (by kernel_rfl) (cOld S 0 edC_len h.e rfl 0 hed rfl) (fun a F => ?_))
 refine l_pure 1 (fun L => (14, .int .i64 n) :: L) F (by kernel_rfl) fun a F => ?_
 by_cases ht2 : (ed.a : Int) = (n : Int)
 ·
  skip
  refine l_do F rfl rfl (op_pure F (v0 := .bool ((ed.a : Int) == (n : Int))) (v := .bool true) (by kernel_rfl) (eqlT ht2) fun a F => ?_)
  refine l_then ?_
  refine c_t F rfl ?_
  refine s_reg ?_
  refine l_pure 1 (fun L => (6, .int .i64 0) :: L) F (by kernel_rfl) fun a F => ?_
  refine l_then ?_
  refine wp_ret ?_
  refine then_r (?_)
  exact fin F [.tmp 6] [.int .i64 0] rfl ⟨by kernel_rfl, trivial⟩ (.int .i64 0) rfl ⟨by rw [← hs]; unfold sideP; rw [if_pos ht2], S.below (i := 0) rfl⟩
 ·
  skip
  refine l_do F rfl rfl (op_pure F (v0 := .bool ((ed.a : Int) == (n : Int))) (v := .bool false) (by kernel_rfl) (eqlF ht2) fun a F => ?_)
  refine l_then ?_
  refine c_f F rfl ?_
  refine wp_skip ?_
  refine then_n ?_
  refine s_reg ?_
  refine l_pure 1 (fun L => (6, .int .i64 1) :: L) F (by kernel_rfl) fun a F => ?_
  refine l_then ?_
  refine wp_ret ?_
  exact fin F [.tmp 6] [.int .i64 1] rfl ⟨by kernel_rfl, trivial⟩ (.int .i64 1) rfl ⟨by rw [← hs]; unfold sideP; rw [if_neg ht2, if_pos (sb ht2)], S.below (i := 0) rfl⟩
set_option maxRecDepth 100000 in
set_option maxHeartbeats 4000000 in
theorem rin_any (w : World) (A : Option Addr) (c : Nat) (X : List Int) (n : Int) (h : Recs 1 iC_i64 w A c X) (hl : X.length ≤ 1000) : Calls Try.prog 95 #[.slice A X.length c, .int .i64 n] w fun e w' => e = .returned (.bool (decide (n ∈ X))) ∧ Below w.heap.size w w' := by
 refine enter 18 Try.func95 rfl rfl rfl fun a F => ?_
 have S := Sat.pushRest w
 refine s_reg ?_
 refine l_pure 1 (fun L => (4, .bool false) :: L) F (by kernel_rfl) fun a F => ?_
 refine l_then ?_
 refine wp_seq ?_
 refine s_reg ?_
 refine l_pure 1 (fun L => (5, .int .i64 0) :: L) F (by kernel_rfl) fun a F => ?_
 refine l_then ?_
 refine wp_block ?_
 refine wp_loop_m (fun m a z => ∃ (i : Nat), m = X.length - i ∧ (i ≤ X.length) ∧ (n ∉ X.take i) ∧ Fr a 18 [(0, .slice A X.length c), (1, .int .i64 n), (5, .int .i64 (i : Nat))] ∧ Sat w z [rest w (· < w.heap.size)]) _ ⟨0, rfl, Nat.zero_le _, (by simp), F.sub ⟨by kernel_rfl, by kernel_rfl, by kernel_rfl, trivial⟩, S⟩ ?_
 rintro m a z ⟨i, hm, hf1, hf2, F, S⟩
 have hi9 := hf2
 refine wp_seq ?_
 refine s_reg ?_
 refine l_pure 3 (fun L => (8, .int .i64 (X.length : Nat)) :: (7, .slice A X.length c) :: (6, .int .i64 (i : Nat)) :: L) F (by kernel_rfl) fun a F => ?_
 by_cases ht3 : ((i : Nat) : Int) < ((X.length : Nat) : Int)
 ·
  skip
  obtain ⟨v, hv⟩ : ∃ v, X[i]? = some v := ⟨_, List.getElem?_eq_getElem (by omega)⟩
  refine l_do F rfl rfl (op_pure F (v0 := .bool (decide (((i : Nat) : Int) < ((X.length : Nat) : Int)))) (v := .bool true) (by kernel_rfl) (lssT ht3) fun a F => ?_)
  refine l_then ?_
  refine c_t F rfl ?_
  refine wp_skip ?_
  refine then_n ?_
  refine wp_seq ?_
  refine wp_block ?_
  refine s_reg ?_
  refine l_pure 2 (fun L => (13, .int .i64 (i : Nat)) :: (12, .slice A X.length c) :: L) F (by kernel_rfl) fun a F => ?_
  refine l_do F rfl rfl (op_index _ 3 _ _ A X.length c i 1 .i64 F rfl (by kernel_rfl) (by kernel_rfl) (by kernel_rfl) (by kernel_rfl) (get_lt hv) (recs_some h (m := i) (get_lt hv)) (fun a F => ?_))
  refine l_do F rfl rfl (op_load _ _ A (i * 1) (.int .i64 v) F rfl (by kernel_rfl) (by kernel_rfl) (cOld S 0 iC_len_i64 h rfl 0 hv rfl) (fun a F => ?_))
  refine l_pure 1 (fun L => (16, .int .i64 n) :: L) F (by kernel_rfl) fun a F => ?_
  by_cases ht4 : (v : Int) = (n : Int)
  ·
   skip
   refine l_do F rfl rfl (op_pure F (v0 := .bool ((v : Int) == (n : Int))) (v := .bool true) (by kernel_rfl) (eqlT ht4) fun a F => ?_)
   refine l_then ?_
   refine c_t F rfl ?_
   refine s_reg ?_
   refine l_pure 1 (fun L => (4, .bool true) :: L) F (by kernel_rfl) fun a F => ?_
   refine l_then ?_
   refine wp_ret ?_
   refine inb_r (then_r (then_r (inb_r (then_r (?_)))))
   exact fin F [.tmp 4] [.bool true] rfl ⟨by kernel_rfl, trivial⟩ (.bool true) rfl ⟨by rw [decide_eq_true (ht4 ▸ List.mem_of_getElem? hv)], S.below (i := 0) rfl⟩
  ·
   skip
   refine l_do F rfl rfl (op_pure F (v0 := .bool ((v : Int) == (n : Int))) (v := .bool false) (by kernel_rfl) (eqlF ht4) fun a F => ?_)
   refine l_then ?_
   refine c_f F rfl ?_
   refine wp_skip ?_
   refine inb_n ?_
   refine then_n ?_
   refine wp_region_list ?_
   refine l_pure 1 (fun L => (10, .int .i64 (i : Nat)) :: L) F (by kernel_rfl) fun a F => ?_
   refine l_do F rfl rfl (op_pure F (v0 := .int .i64 (IntKind.wrap .i64 ((i : Nat) + 1))) (v := .int .i64 (i + 1 : Nat)) (by kernel_rfl) (wrn_i64 (by omega) (by omega) (by omega)) fun a F => ?_)
   refine l_pure 1 (fun L => (5, .int .i64 (i + 1 : Nat)) :: L) F (by kernel_rfl) fun a F => ?_
   refine l_then ?_
   exact ⟨_, (by omega), i + 1, rfl, (by omega), (fun hm => by
     rw [List.take_add_one, hv] at hm
     rcases List.mem_append.1 hm with hm | hm
     · exact hi9 hm
     · simp at hm; exact ht4 hm.symm), F.sub ⟨by kernel_rfl, by kernel_rfl, by kernel_rfl, trivial⟩, S⟩
 ·
  skip
  refine l_do F rfl rfl (op_pure F (v0 := .bool (decide (((i : Nat) : Int) < ((X.length : Nat) : Int)))) (v := .bool false) (by kernel_rfl) (lssF ht3) fun a F => ?_)
  refine l_then ?_
  refine c_f F rfl ?_
  refine wp_exit ?_
  refine then_x ?_
  refine then_x ?_
  refine inb_x ?_
  refine then_n ?_
  refine s_reg ?_
  refine l_pure 1 (fun L => (4, .bool false) :: L) F (by kernel_rfl) fun a F => ?_
  refine l_then ?_
  refine wp_ret ?_
  exact fin F [.tmp 4] [.bool false] rfl ⟨by kernel_rfl, trivial⟩ (.bool false) rfl ⟨by rw [decide_eq_false (fun hm => hi9 (by rw [List.take_of_length_le (by omega)]; exact hm))], S.below (i := 0) rfl⟩
set_option maxRecDepth 100000 in
set_option maxHeartbeats 4000000 in
theorem rfill_any (w : World) (As : Option Addr) (cs : Nat) (Ae : Option Addr) (ce : Nat) (x : Wb) (h : WebAt w As cs Ae ce x) (ok : x.Ok) (An : Option Addr) (cn : Nat) (N : List Int) (hN : Recs 1 iC_i64 w An cn N) (Am : Option Addr) (cm : Nat) (E : List Int) (hE : Recs 1 iC_i64 w Am cm E) (am : Int) (hua : U64 am) (hw : WayOk x N E) (hl : E.length ≤ 7) (hl1 : 1 ≤ E.length) : Calls Try.prog 74 #[.agg #[.slice As x.spots.length cs, .slice Ae x.edges.length ce], .slice An N.length cn, .slice Am E.length cm, .int .u64 am] w fun e w' => (fillP x N E am = none ∧ e = .returned (.tuple #[.agg #[.slice none 0 0, .slice none 0 0, .slice none 0 0], .bool false]) ∧ Below w.heap.size w w') ∨ ∃ r, fillP x N E am = some r ∧ ∃ A1 c1 A2 c2 A3 c3, e = .returned (.tuple #[.agg #[.slice A1 r.nodes.length c1, .slice A2 r.edges.length c2, .slice A3 r.amts.length c3], .bool true]) ∧ Sat w w' [rest w (· < w.heap.size), row 3 1 (.slice A1 r.nodes.length c1) r.nodes.length (r.nodes.flatMap iC_i64), row 3 1 (.slice A2 r.edges.length c2) r.edges.length (r.edges.flatMap iC_i64), row 26 1 (.slice A3 r.amts.length c3) r.amts.length (r.amts.flatMap iC_u64)] := by
 refine enter 100 Try.func74 rfl rfl rfl fun a F => ?_
 have S := Sat.pushRest w
 have hwl := hw.len
 refine s_reg ?_
 refine l_do F rfl rfl (op_box S _ _ (.agg #[.slice As x.spots.length cs, .slice Ae x.edges.length ce]) F rfl (by kernel_rfl) fun b1 z S a F => ?_)
 refine l_do F rfl rfl (op_alloc S _ (.agg #[.slice none 0 0, .slice none 0 0, .slice none 0 0]) rfl (by kernel_rfl) fun b2 z S a F => ?_)
 refine l_pure 1 (fun L => (9, .bool false) :: L) F (by kernel_rfl) fun a F => ?_
 refine l_then ?_
 refine s_reg ?_
 refine l_pure 1 (fun L => (16, .int .u64 am) :: L) F (by kernel_rfl) fun a F => ?_
 refine l_do F rfl rfl (op_buildSlice S _ 1 _ 26 1 iC_u64 ([am] : List Int) F rfl (by kernel_rfl) (by kernel_rfl) (by kernel_rfl) (by unfold maxLen; omega) fun b3 z S a F => ?_)
 refine l_pure 1 (fun L => (10, .slice (some ⟨b3, 0, none⟩) 1 1) :: L) F (by kernel_rfl) fun a F => ?_
 refine l_then ?_
 refine wp_seq ?_
 refine s_reg ?_
 refine l_pure 2 (fun L => (19, .int .i64 (E.length : Nat)) :: (18, .slice Am E.length cm) :: L) F (by kernel_rfl) fun a F => ?_
 refine l_do F rfl rfl (op_pure F (v0 := .int .i64 (IntKind.wrap .i64 ((E.length : Nat) - 1))) (v := .int .i64 (E.length - 1 : Nat)) (by kernel_rfl) (wrn_i64 (by omega) (by omega) (by omega)) fun a F => ?_)
 refine l_pure 1 (fun L => (11, .int .i64 (E.length - 1 : Nat)) :: L) F (by kernel_rfl) fun a F => ?_
 refine l_then ?_
 refine wp_block ?_
 refine wp_loop_m (fun m a z => ∃ (i : Nat) (X : List Int) (A : Option Addr) (c : Nat), m = i ∧ (i ≤ E.length - 1) ∧ (RInv x N E am i X) ∧ Fr a 100 [(1, .slice An N.length cn), (2, .slice Am E.length cm), (4, .pointer (some ⟨b1, 0, none⟩)), (8, .pointer (some ⟨b2, 0, none⟩)), (10, .slice A X.length c), (11, .int .i64 (i : Nat))] ∧ Sat w z [rest w (· < w.heap.size), box b1 25 [.slice As x.spots.length cs, .slice Ae x.edges.length ce], box b2 45 [.slice none 0 0, .slice none 0 0, .slice none 0 0], row 26 1 (.slice A X.length c) X.length (X.flatMap iC_u64)]) _ ⟨E.length - 1, [am], (some ⟨b3, 0, none⟩), 1, rfl, (Nat.le_refl _), (RInv.start x am hwl), F.sub ⟨by kernel_rfl, by kernel_rfl, by kernel_rfl, by kernel_rfl, by kernel_rfl, by kernel_rfl, trivial⟩, S⟩ ?_
 rintro m a z ⟨i, X, A, c, hm, hf4, hf5, F, S⟩
 have hI := hf5
 refine wp_seq ?_
 refine s_reg ?_
 refine l_pure 1 (fun L => (21, .int .i64 (i : Nat)) :: L) F (by kernel_rfl) fun a F => ?_
 by_cases ht6 : (0 : Int) < ((i : Nat) : Int)
 ·
  skip
  obtain ⟨e0, he⟩ : ∃ e0, E[i]? = some e0 := ⟨_, List.getElem?_eq_getElem (by omega)⟩
  obtain ⟨n, hn⟩ : ∃ n, N[i]? = some n := ⟨_, List.getElem?_eq_getElem (by omega)⟩
  obtain ⟨j, rfl, ed, hed, hsd, hnx⟩ := hw.at_ i n e0 hn he
  have hXl := hI.len hwl
  obtain ⟨u, hu⟩ : ∃ u, X[0]? = some u := ⟨_, List.getElem?_eq_getElem (by omega)⟩
  have huu := hI.hd ok hua hu
  have hee := ok.e ed (List.mem_of_getElem? hed)
  refine l_do F rfl rfl (op_pure F (v0 := .bool (decide (((i : Nat) : Int) > (0 : Int)))) (v := .bool true) (by kernel_rfl) (gtrT ht6) fun a F => ?_)
  refine l_then ?_
  refine c_t F rfl ?_
  refine wp_skip ?_
  refine then_n ?_
  refine wp_seq ?_
  refine wp_block ?_
  refine wp_seq ?_
  rcases side_cases ed n with ⟨hs, ha⟩ | ⟨hs, hb1, ha⟩ | ⟨hs, ha, hb1⟩
  ·
   skip
   have S := S.pushEmp
   refine region_gx (fun D => fun (b7 : Nat) => [rest w (· < w.heap.size), box b1 25 [.slice As x.spots.length cs, .slice Ae x.edges.length ce], box b2 45 [.slice none 0 0, .slice none 0 0, .slice none 0 0], row 26 1 (.slice A X.length c) X.length (X.flatMap iC_u64), bif D 21 then box b7 101 [.int .u64 ed.b0, .int .u64 ed.r0] else (bif D 20 then box b7 101 [.int .u64 0, .int .u64 0] else emp)]) (fun (b7 : Nat) => [.pointer (some ⟨b1, 1, none⟩), .slice Ae x.edges.length ce, .slice Am E.length cm, .int .i64 (i : Nat), ptrA Am (i * 1), .int .i64 (j : Nat), .agg #[.slice As x.spots.length cs, .slice Ae x.edges.length ce], .slice Am E.length cm, .int .i64 (i : Nat), ptrA Am (i * 1), .int .i64 (j : Nat), .slice An N.length cn, .int .i64 (i : Nat), ptrA An (i * 1), .int .i64 n, .int .i64 0, ptrA Ae (j * 8), ptrA Ae (j * 8 + 4), ptrA Ae (j * 8 + 4), .agg #[.int .u64 ed.b0, .int .u64 ed.r0], .pointer (some ⟨b7, 0, none⟩), undef]) [(1, [], [16, 17, 18, 19, 21]), (4, [], [5, 16, 17, 18, 19, 21]), (5, [4], [16, 17, 18, 19, 21]), (6, [], [15, 18, 19, 21]), (9, [], [10, 15, 18, 19, 21]), (10, [9], [15, 18, 19, 21]), (13, [], [14, 15, 18, 19, 21]), (14, [13], [15, 18, 19, 21]), (15, [6, 9, 10, 13, 14], [18, 19, 21]), (16, [1, 4, 5], [17, 18, 19, 21]), (17, [1, 4, 5, 16], [18, 19, 21]), (18, [1, 4, 5, 6, 9, 10, 13, 14, 15, 16, 17], [19, 21]), (19, [1, 4, 5, 6, 9, 10, 13, 14, 15, 16, 17, 18], [21]), (20, [], [21]), (21, [1, 4, 5, 6, 9, 10, 13, 14, 15, 16, 17, 18, 19, 20], [])] 0 rfl (by kernel_rfl) (by kernel_rfl) F S.drew ?_ ?_ ?_ ?_ ?_
   · rintro b7; rfl
   · rintro b7; kernel_rfl
   ·
    intro D D' x h
    obtain b7 := x
    simp only [h 20 (by decide), h 21 (by decide)]
   ·
    refine ⟨?_, ?_⟩
    ·
     refine ⟨_, rfl, rfl, by kernel_rfl, ?_⟩
     rintro D b7 a z S F
     refine ⟨by kernel_rfl, ?_⟩
     exact op_load _ _ (some ⟨b1, 0, none⟩) 1 (.slice Ae x.edges.length ce) F rfl (by kernel_rfl) (by kernel_rfl) (cBox S 1 rfl (j := 1) rfl) (⟨b7, rfl, (SameB.refl _ _ rfl), S⟩)
    refine ⟨?_, ?_⟩
    ·
     refine ⟨_, rfl, rfl, by kernel_rfl, ?_⟩
     rintro D b7 a z S F
     refine ⟨by kernel_rfl, ?_⟩
     exact op_index _ 3 _ _ Am E.length cm i 1 .i64 F rfl (by kernel_rfl) (by kernel_rfl) (by kernel_rfl) (by kernel_rfl) (get_lt he) (recs_some hE (m := i) (get_lt he)) (⟨b7, rfl, (SameB.refl _ _ rfl), S⟩)
    refine ⟨?_, ?_⟩
    ·
     refine ⟨_, rfl, rfl, by kernel_rfl, ?_⟩
     rintro D b7 a z S F
     refine ⟨by kernel_rfl, ?_⟩
     exact op_load _ _ Am (i * 1) (.int .i64 (j : Nat)) F rfl (by kernel_rfl) (by kernel_rfl) (cOld S 0 iC_len_i64 hE rfl 0 he rfl) (⟨b7, rfl, (SameB.refl _ _ rfl), S⟩)
    refine ⟨?_, ?_⟩
    ·
     refine ⟨_, rfl, rfl, by kernel_rfl, ?_⟩
     rintro D b7 a z S F
     refine ⟨by kernel_rfl, ?_⟩
     exact op_loadK _ _ (some ⟨b1, 0, none⟩) 0 [.slice As x.spots.length cs, .slice Ae x.edges.length ce] F rfl (by kernel_rfl) (by kernel_rfl) (by kernel_rfl) (by simp) (cBoxK S 1 rfl 0 (by kernel_rfl)) (⟨b7, rfl, (SameB.refl _ _ rfl), S⟩)
    refine ⟨?_, ?_⟩
    ·
     refine ⟨_, rfl, rfl, by kernel_rfl, ?_⟩
     rintro D b7 a z S F
     refine ⟨by kernel_rfl, ?_⟩
     exact op_index _ 3 _ _ Am E.length cm i 1 .i64 F rfl (by kernel_rfl) (by kernel_rfl) (by kernel_rfl) (by kernel_rfl) (get_lt he) (recs_some hE (m := i) (get_lt he)) (⟨b7, rfl, (SameB.refl _ _ rfl), S⟩)
    refine ⟨?_, ?_⟩
    ·
     refine ⟨_, rfl, rfl, by kernel_rfl, ?_⟩
     rintro D b7 a z S F
     refine ⟨by kernel_rfl, ?_⟩
     exact op_load _ _ Am (i * 1) (.int .i64 (j : Nat)) F rfl (by kernel_rfl) (by kernel_rfl) (cOld S 0 iC_len_i64 hE rfl 0 he rfl) (⟨b7, rfl, (SameB.refl _ _ rfl), S⟩)
    refine ⟨?_, ?_⟩
    ·
     refine ⟨_, rfl, rfl, by kernel_rfl, ?_⟩
     rintro D b7 a z S F
     refine ⟨by kernel_rfl, ?_⟩
     exact op_index _ 3 _ _ An N.length cn i 1 .i64 F rfl (by kernel_rfl) (by kernel_rfl) (by kernel_rfl) (by kernel_rfl) (get_lt hn) (recs_some hN (m := i) (get_lt hn)) (⟨b7, rfl, (SameB.refl _ _ rfl), S⟩)
    refine ⟨?_, ?_⟩
    ·
     refine ⟨_, rfl, rfl, by kernel_rfl, ?_⟩
     rintro D b7 a z S F
     refine ⟨by kernel_rfl, ?_⟩
     exact op_load _ _ An (i * 1) (.int .i64 n) F rfl (by kernel_rfl) (by kernel_rfl) (cOld S 0 iC_len_i64 hN rfl 0 hn rfl) (⟨b7, rfl, (SameB.refl _ _ rfl), S⟩)
    refine ⟨?_, ?_⟩
    ·
     refine ⟨_, rfl, rfl, by kernel_rfl, ?_⟩
     rintro D b7 a z S F
     refine ⟨by kernel_rfl, ?_⟩
     refine op_fn F (by kernel_rfl) (rside_at _ As cs Ae ce x (h.move S rfl) ok j ed hed n _ hs (by decide)) ?_
     rintro e z ⟨rfl, hb⟩
     have S := S.grow hb
     exact ⟨_, rfl, b7, rfl, (SameB.refl _ _ rfl), S⟩
    refine ⟨?_, ?_⟩
    ·
     refine ⟨_, rfl, rfl, by kernel_rfl, ?_⟩
     rintro D b7 a z S F
     refine ⟨by kernel_rfl, ?_⟩
     exact op_index _ 104 _ _ Ae x.edges.length ce j 8 .i64 F rfl (by kernel_rfl) (by kernel_rfl) (by kernel_rfl) (by kernel_rfl) (get_lt hed) (recs_some h.e (m := j) (get_lt hed)) (⟨b7, rfl, (SameB.refl _ _ rfl), S⟩)
    refine ⟨?_, ?_⟩
    ·
     refine ⟨_, rfl, rfl, by kernel_rfl, ?_⟩
     rintro D b7 a z S F
     refine ⟨by kernel_rfl, ?_⟩
     exact op_field _ _ _ Ae (j * 8) 4 F rfl (by kernel_rfl) (by kernel_rfl) (recs_some h.e (m := j) (get_lt hed)) (⟨b7, rfl, (SameB.refl _ _ rfl), S⟩)
    refine ⟨?_, ?_⟩
    ·
     refine ⟨_, rfl, rfl, by kernel_rfl, ?_⟩
     rintro D b7 a z S F
     refine ⟨by kernel_rfl, ?_⟩
     exact op_indexArr _ 101 _ _ Ae (j * 8 + 4) 2 0 2 .i64 F rfl (by kernel_rfl) (by kernel_rfl) (by kernel_rfl) (by kernel_rfl) (by decide) (recs_some h.e (m := j) (get_lt hed)) (⟨b7, rfl, (SameB.refl _ _ rfl), S⟩)
    refine ⟨?_, ?_⟩
    ·
     refine ⟨_, rfl, rfl, by kernel_rfl, ?_⟩
     rintro D b7 a z S F
     refine ⟨by kernel_rfl, ?_⟩
     exact op_loadK _ _ Ae (j * 8 + 4) [.int .u64 ed.b0, .int .u64 ed.r0] F rfl (by kernel_rfl) (by kernel_rfl) (by kernel_rfl) (by simp) (cOldK S 0 edC_len h.e rfl 4 hed (by kernel_rfl)) (⟨b7, rfl, (SameB.refl _ _ rfl), S⟩)
    refine ⟨?_, ?_⟩
    ·
     refine ⟨_, rfl, rfl, by kernel_rfl, ?_⟩
     rintro D b7 a z S F
     refine ⟨by kernel_rfl, ?_⟩
     exact op_allocF S 4 rfl _ (.agg #[.int .u64 0, .int .u64 0]) rfl (by kernel_rfl) fun y8 z S => ⟨y8, rfl, ⟨rfl, rfl, rfl, rfl, rfl, rfl, rfl, rfl, rfl, rfl, rfl, rfl, rfl, rfl, rfl, rfl, rfl, rfl, rfl, rfl, trivial, trivial, trivial⟩, S⟩
    refine ⟨?_, ?_⟩
    ·
     refine ⟨_, rfl, rfl, by kernel_rfl, ?_⟩
     rintro D b7 a z S F
     refine ⟨by kernel_rfl, ?_⟩
     exact op_storeB S 4 _ _ _ b7 0 (.agg #[.int .u64 ed.b0, .int .u64 ed.r0]) F rfl rfl (by kernel_rfl) (by kernel_rfl) (by kernel_rfl) (by kernel_rfl) (by kernel_rfl) fun z S => ⟨b7, rfl, (SameB.refl _ _ rfl), S⟩
    trivial
   ·
    rintro b7 a z F S
    have F := F.sub (l := [(1, .slice An N.length cn), (2, .slice Am E.length cm), (4, .pointer (some ⟨b1, 0, none⟩)), (8, .pointer (some ⟨b2, 0, none⟩)), (10, .slice A X.length c), (11, .int .i64 (i : Nat)), (12, .pointer (some ⟨b7, 0, none⟩))]) ⟨by kernel_rfl, by kernel_rfl, by kernel_rfl, by kernel_rfl, by kernel_rfl, by kernel_rfl, by kernel_rfl, trivial⟩
    have S : Sat w z [rest w (· < w.heap.size), box b1 25 [.slice As x.spots.length cs, .slice Ae x.edges.length ce], box b2 45 [.slice none 0 0, .slice none 0 0, .slice none 0 0], row 26 1 (.slice A X.length c) X.length (X.flatMap iC_u64), box b7 101 [.int .u64 ed.b0, .int .u64 ed.r0]] := S
    refine then_n ?_
    refine wp_seq ?_
    refine region_gx (fun D => fun (_ : Unit) => [rest w (· < w.heap.size), box b1 25 [.slice As x.spots.length cs, .slice Ae x.edges.length ce], box b2 45 [.slice none 0 0, .slice none 0 0, .slice none 0 0], row 26 1 (.slice A X.length c) X.length (X.flatMap iC_u64), box b7 101 [.int .u64 ed.b0, .int .u64 ed.r0]]) (fun (_ : Unit) => [.agg #[.int .u64 ed.b0, .int .u64 ed.r0], .slice A X.length c, ptrA A (0 * 1), .int .u64 u, .tuple #[.int .u64 ((overP ed.b0 ed.r0 u).1), .int .i64 ((overP ed.b0 ed.r0 u).2)], .tuple #[.int .u64 ((overP ed.b0 ed.r0 u).1), .int .i64 ((overP ed.b0 ed.r0 u).2)], .int .u64 ((overP ed.b0 ed.r0 u).1), .int .i64 ((overP ed.b0 ed.r0 u).2), .int .u64 ((overP ed.b0 ed.r0 u).1), .int .i64 ((overP ed.b0 ed.r0 u).2)]) [(0, [], [4]), (2, [], [3, 4]), (3, [2], [4]), (4, [0, 2, 3], [])] () rfl (by kernel_rfl) (by kernel_rfl) F S.drew ?_ ?_ ?_ ?_ ?_
    · rintro ⟨⟩; rfl
    · rintro ⟨⟩; kernel_rfl
    ·
     intro D D' x h
     cases x
     rfl
    ·
     refine ⟨?_, ?_⟩
     ·
      refine ⟨_, rfl, rfl, by kernel_rfl, ?_⟩
      rintro D ⟨⟩ a z S F
      refine ⟨by kernel_rfl, ?_⟩
      exact op_loadK _ _ (some ⟨b7, 0, none⟩) 0 [.int .u64 ed.b0, .int .u64 ed.r0] F rfl (by kernel_rfl) (by kernel_rfl) (by kernel_rfl) (by simp) (cBoxK S 4 rfl 0 (by kernel_rfl)) (⟨(), rfl, (SameB.refl _ _ rfl), S⟩)
     refine ⟨?_, ?_⟩
     ·
      refine ⟨_, rfl, rfl, by kernel_rfl, ?_⟩
      rintro D ⟨⟩ a z S F
      refine ⟨by kernel_rfl, ?_⟩
      exact op_index _ 26 _ _ A X.length c 0 1 .i64 F rfl (by kernel_rfl) (by kernel_rfl) (by kernel_rfl) (by kernel_rfl) (get_lt hu) (row_some S 3 rfl (m := 0) (get_lt hu)) (⟨(), rfl, (SameB.refl _ _ rfl), S⟩)
     refine ⟨?_, ?_⟩
     ·
      refine ⟨_, rfl, rfl, by kernel_rfl, ?_⟩
      rintro D ⟨⟩ a z S F
      refine ⟨by kernel_rfl, ?_⟩
      exact op_load _ _ A (0 * 1) (.int .u64 u) F rfl (by kernel_rfl) (by kernel_rfl) (cRec S 3 iC_len_u64 rfl 0 hu rfl) (⟨(), rfl, (SameB.refl _ _ rfl), S⟩)
     refine ⟨?_, ?_⟩
     ·
      refine ⟨_, rfl, rfl, by kernel_rfl, ?_⟩
      rintro D ⟨⟩ a z S F
      refine ⟨by kernel_rfl, ?_⟩
      refine op_fn F (by kernel_rfl) (rover_any ed.b0 ed.r0 u hee.b0 hee.r0 huu _) ?_
      rintro e z ⟨rfl, hb⟩
      have S := S.grow hb
      exact ⟨_, rfl, (), rfl, (SameB.refl _ _ rfl), S⟩
     trivial
    ·
     rintro ⟨⟩ a z F S
     have F := F.sub (l := [(1, .slice An N.length cn), (2, .slice Am E.length cm), (4, .pointer (some ⟨b1, 0, none⟩)), (8, .pointer (some ⟨b2, 0, none⟩)), (10, .slice A X.length c), (11, .int .i64 (i : Nat)), (13, .int .u64 ((overP ed.b0 ed.r0 u).1)), (14, .int .i64 ((overP ed.b0 ed.r0 u).2))]) ⟨by kernel_rfl, by kernel_rfl, by kernel_rfl, by kernel_rfl, by kernel_rfl, by kernel_rfl, by kernel_rfl, by kernel_rfl, trivial⟩
     have S : Sat w z [rest w (· < w.heap.size), box b1 25 [.slice As x.spots.length cs, .slice Ae x.edges.length ce], box b2 45 [.slice none 0 0, .slice none 0 0, .slice none 0 0], row 26 1 (.slice A X.length c) X.length (X.flatMap iC_u64), box b7 101 [.int .u64 ed.b0, .int .u64 ed.r0]] := S
     refine then_n ?_
     refine wp_seq ?_
     refine s_reg ?_
     refine l_pure 1 (fun L => (53, .int .i64 ((overP ed.b0 ed.r0 u).2)) :: L) F (by kernel_rfl) fun a F => ?_
     by_cases ht9 : ((overP ed.b0 ed.r0 u).2 : Int) = (0 : Int)
     ·
      skip
      have hov := ht9
      refine l_do F rfl rfl (op_pure F (v0 := .bool (((overP ed.b0 ed.r0 u).2 : Int) != (0 : Int))) (v := .bool false) (by kernel_rfl) (neqF ht9) fun a F => ?_)
      refine l_then ?_
      refine c_f F rfl ?_
      refine wp_skip ?_
      refine then_n ?_
      refine wp_region_list ?_
      refine l_pure 1 (fun L => (56, .int .u64 ((overP ed.b0 ed.r0 u).1)) :: L) F (by kernel_rfl) fun a F => ?_
      refine l_do F rfl rfl (op_buildSlice S _ 1 _ 26 1 iC_u64 ([(overP ed.b0 ed.r0 u).1] : List Int) F rfl (by kernel_rfl) (by kernel_rfl) (by kernel_rfl) (by unfold maxLen; omega) fun b10 z S a F => ?_)
      refine l_pure 1 (fun L => (58, .slice A X.length c) :: L) F (by kernel_rfl) fun a F => ?_
      refine l_do F rfl rfl (op_append S 5 _ _ _ 26 (.int .u64 0) 1 8 ([(overP ed.b0 ed.r0 u).1] : List Int) X iC_u64 A c F iC_len_u64 (fun _ => rfl) rfl rfl (by kernel_rfl) (by kernel_rfl) rfl rfl rfl (by kernel_rfl) (by kernel_rfl) (row_none (S.rowOf (i := 3) rfl)) (src_row (S.rowOf (i := 3) rfl)) (by first | omega | (simp <;> omega)) fun A11 c12 z S a F => ?_)
      refine l_pure 1 (fun L => (10, .slice A11 ((([(overP ed.b0 ed.r0 u).1] : List Int) ++ X).length) c12) :: L) F (by kernel_rfl) fun a F => ?_
      refine l_nil (inb_n ?_)
      refine then_n ?_
      refine wp_region_list ?_
      refine l_pure 1 (fun L => (23, .int .i64 (i : Nat)) :: L) F (by kernel_rfl) fun a F => ?_
      refine l_do F rfl rfl (op_pure F (v0 := .int .i64 (IntKind.wrap .i64 ((i : Nat) - 1))) (v := .int .i64 (i - 1 : Nat)) (by kernel_rfl) (wrn_i64 (by omega) (by omega) (by omega)) fun a F => ?_)
      refine l_pure 1 (fun L => (11, .int .i64 (i - 1 : Nat)) :: L) F (by kernel_rfl) fun a F => ?_
      refine l_then ?_
      exact ⟨_, (by omega), i - 1, (([(overP ed.b0 ed.r0 u).1] : List Int) ++ X), A11, c12, rfl, (by omega), ((hI.step hwl (by omega) (by omega) hn he (fee_at0 hed hs) hu).1 hov), F.sub ⟨by kernel_rfl, by kernel_rfl, by kernel_rfl, by kernel_rfl, by kernel_rfl, by kernel_rfl, trivial⟩, (S.pick [0, 1, 2, 5] (by decide))⟩
     ·
      skip
      have hov := ht9
      have hf : fillP x N E am = none := (hI.step hwl (by omega) (by omega) hn he (fee_at0 hed hs) hu).2 hov
      refine l_do F rfl rfl (op_pure F (v0 := .bool (((overP ed.b0 ed.r0 u).2 : Int) != (0 : Int))) (v := .bool true) (by kernel_rfl) (neqT ht9) fun a F => ?_)
      refine l_then ?_
      refine c_t F rfl ?_
      refine s_reg ?_
      refine l_pure 1 (fun L => (55, .agg #[.slice none 0 0, .slice none 0 0, .slice none 0 0]) :: L) F (by kernel_rfl) fun a F => ?_
      refine l_do F rfl rfl (op_storeB S 2 _ _ _ b2 0 (.agg #[.slice none 0 0, .slice none 0 0, .slice none 0 0]) F rfl rfl (by kernel_rfl) (by kernel_rfl) (by kernel_rfl) (by kernel_rfl) (by kernel_rfl) fun z S a F => ?_)
      refine l_pure 1 (fun L => (9, .bool false) :: L) F (by kernel_rfl) fun a F => ?_
      refine l_then ?_
      refine wp_ret ?_
      refine then_r (inb_r (then_r (then_r (inb_r (then_r (?_))))))
      exact fin F [.cell 8 45, .tmp 9] [.agg #[.slice none 0 0, .slice none 0 0, .slice none 0 0], .bool false] rfl ⟨⟨_, by kernel_rfl, resK S 2 (cs := [.slice none 0 0, .slice none 0 0, .slice none 0 0]) rfl (by kernel_rfl) (by kernel_rfl) (by simp)⟩, by kernel_rfl, trivial⟩ (.tuple #[.agg #[.slice none 0 0, .slice none 0 0, .slice none 0 0], .bool false]) rfl (.inl ⟨hf, rfl, S.below (i := 0) rfl⟩)
  ·
   skip
   have S := S.pushEmp
   refine region_gx (fun D => fun (b13 : Nat) => [rest w (· < w.heap.size), box b1 25 [.slice As x.spots.length cs, .slice Ae x.edges.length ce], box b2 45 [.slice none 0 0, .slice none 0 0, .slice none 0 0], row 26 1 (.slice A X.length c) X.length (X.flatMap iC_u64), bif D 21 then box b13 101 [.int .u64 ed.b1, .int .u64 ed.r1] else (bif D 20 then box b13 101 [.int .u64 0, .int .u64 0] else emp)]) (fun (b13 : Nat) => [.pointer (some ⟨b1, 1, none⟩), .slice Ae x.edges.length ce, .slice Am E.length cm, .int .i64 (i : Nat), ptrA Am (i * 1), .int .i64 (j : Nat), .agg #[.slice As x.spots.length cs, .slice Ae x.edges.length ce], .slice Am E.length cm, .int .i64 (i : Nat), ptrA Am (i * 1), .int .i64 (j : Nat), .slice An N.length cn, .int .i64 (i : Nat), ptrA An (i * 1), .int .i64 n, .int .i64 1, ptrA Ae (j * 8), ptrA Ae (j * 8 + 4), ptrA Ae (j * 8 + 6), .agg #[.int .u64 ed.b1, .int .u64 ed.r1], .pointer (some ⟨b13, 0, none⟩), undef]) [(1, [], [16, 17, 18, 19, 21]), (4, [], [5, 16, 17, 18, 19, 21]), (5, [4], [16, 17, 18, 19, 21]), (6, [], [15, 18, 19, 21]), (9, [], [10, 15, 18, 19, 21]), (10, [9], [15, 18, 19, 21]), (13, [], [14, 15, 18, 19, 21]), (14, [13], [15, 18, 19, 21]), (15, [6, 9, 10, 13, 14], [18, 19, 21]), (16, [1, 4, 5], [17, 18, 19, 21]), (17, [1, 4, 5, 16], [18, 19, 21]), (18, [1, 4, 5, 6, 9, 10, 13, 14, 15, 16, 17], [19, 21]), (19, [1, 4, 5, 6, 9, 10, 13, 14, 15, 16, 17, 18], [21]), (20, [], [21]), (21, [1, 4, 5, 6, 9, 10, 13, 14, 15, 16, 17, 18, 19, 20], [])] 0 rfl (by kernel_rfl) (by kernel_rfl) F S.drew ?_ ?_ ?_ ?_ ?_
   · rintro b13; rfl
   · rintro b13; kernel_rfl
   ·
    intro D D' x h
    obtain b13 := x
    simp only [h 20 (by decide), h 21 (by decide)]
   ·
    refine ⟨?_, ?_⟩
    ·
     refine ⟨_, rfl, rfl, by kernel_rfl, ?_⟩
     rintro D b13 a z S F
     refine ⟨by kernel_rfl, ?_⟩
     exact op_load _ _ (some ⟨b1, 0, none⟩) 1 (.slice Ae x.edges.length ce) F rfl (by kernel_rfl) (by kernel_rfl) (cBox S 1 rfl (j := 1) rfl) (⟨b13, rfl, (SameB.refl _ _ rfl), S⟩)
    refine ⟨?_, ?_⟩
    ·
     refine ⟨_, rfl, rfl, by kernel_rfl, ?_⟩
     rintro D b13 a z S F
     refine ⟨by kernel_rfl, ?_⟩
     exact op_index _ 3 _ _ Am E.length cm i 1 .i64 F rfl (by kernel_rfl) (by kernel_rfl) (by kernel_rfl) (by kernel_rfl) (get_lt he) (recs_some hE (m := i) (get_lt he)) (⟨b13, rfl, (SameB.refl _ _ rfl), S⟩)
    refine ⟨?_, ?_⟩
    ·
     refine ⟨_, rfl, rfl, by kernel_rfl, ?_⟩
     rintro D b13 a z S F
     refine ⟨by kernel_rfl, ?_⟩
     exact op_load _ _ Am (i * 1) (.int .i64 (j : Nat)) F rfl (by kernel_rfl) (by kernel_rfl) (cOld S 0 iC_len_i64 hE rfl 0 he rfl) (⟨b13, rfl, (SameB.refl _ _ rfl), S⟩)
    refine ⟨?_, ?_⟩
    ·
     refine ⟨_, rfl, rfl, by kernel_rfl, ?_⟩
     rintro D b13 a z S F
     refine ⟨by kernel_rfl, ?_⟩
     exact op_loadK _ _ (some ⟨b1, 0, none⟩) 0 [.slice As x.spots.length cs, .slice Ae x.edges.length ce] F rfl (by kernel_rfl) (by kernel_rfl) (by kernel_rfl) (by simp) (cBoxK S 1 rfl 0 (by kernel_rfl)) (⟨b13, rfl, (SameB.refl _ _ rfl), S⟩)
    refine ⟨?_, ?_⟩
    ·
     refine ⟨_, rfl, rfl, by kernel_rfl, ?_⟩
     rintro D b13 a z S F
     refine ⟨by kernel_rfl, ?_⟩
     exact op_index _ 3 _ _ Am E.length cm i 1 .i64 F rfl (by kernel_rfl) (by kernel_rfl) (by kernel_rfl) (by kernel_rfl) (get_lt he) (recs_some hE (m := i) (get_lt he)) (⟨b13, rfl, (SameB.refl _ _ rfl), S⟩)
    refine ⟨?_, ?_⟩
    ·
     refine ⟨_, rfl, rfl, by kernel_rfl, ?_⟩
     rintro D b13 a z S F
     refine ⟨by kernel_rfl, ?_⟩
     exact op_load _ _ Am (i * 1) (.int .i64 (j : Nat)) F rfl (by kernel_rfl) (by kernel_rfl) (cOld S 0 iC_len_i64 hE rfl 0 he rfl) (⟨b13, rfl, (SameB.refl _ _ rfl), S⟩)
    refine ⟨?_, ?_⟩
    ·
     refine ⟨_, rfl, rfl, by kernel_rfl, ?_⟩
     rintro D b13 a z S F
     refine ⟨by kernel_rfl, ?_⟩
     exact op_index _ 3 _ _ An N.length cn i 1 .i64 F rfl (by kernel_rfl) (by kernel_rfl) (by kernel_rfl) (by kernel_rfl) (get_lt hn) (recs_some hN (m := i) (get_lt hn)) (⟨b13, rfl, (SameB.refl _ _ rfl), S⟩)
    refine ⟨?_, ?_⟩
    ·
     refine ⟨_, rfl, rfl, by kernel_rfl, ?_⟩
     rintro D b13 a z S F
     refine ⟨by kernel_rfl, ?_⟩
     exact op_load _ _ An (i * 1) (.int .i64 n) F rfl (by kernel_rfl) (by kernel_rfl) (cOld S 0 iC_len_i64 hN rfl 0 hn rfl) (⟨b13, rfl, (SameB.refl _ _ rfl), S⟩)
    refine ⟨?_, ?_⟩
    ·
     refine ⟨_, rfl, rfl, by kernel_rfl, ?_⟩
     rintro D b13 a z S F
     refine ⟨by kernel_rfl, ?_⟩
     refine op_fn F (by kernel_rfl) (rside_at _ As cs Ae ce x (h.move S rfl) ok j ed hed n _ hs (by decide)) ?_
     rintro e z ⟨rfl, hb⟩
     have S := S.grow hb
     exact ⟨_, rfl, b13, rfl, (SameB.refl _ _ rfl), S⟩
    refine ⟨?_, ?_⟩
    ·
     refine ⟨_, rfl, rfl, by kernel_rfl, ?_⟩
     rintro D b13 a z S F
     refine ⟨by kernel_rfl, ?_⟩
     exact op_index _ 104 _ _ Ae x.edges.length ce j 8 .i64 F rfl (by kernel_rfl) (by kernel_rfl) (by kernel_rfl) (by kernel_rfl) (get_lt hed) (recs_some h.e (m := j) (get_lt hed)) (⟨b13, rfl, (SameB.refl _ _ rfl), S⟩)
    refine ⟨?_, ?_⟩
    ·
     refine ⟨_, rfl, rfl, by kernel_rfl, ?_⟩
     rintro D b13 a z S F
     refine ⟨by kernel_rfl, ?_⟩
     exact op_field _ _ _ Ae (j * 8) 4 F rfl (by kernel_rfl) (by kernel_rfl) (recs_some h.e (m := j) (get_lt hed)) (⟨b13, rfl, (SameB.refl _ _ rfl), S⟩)
    refine ⟨?_, ?_⟩
    ·
     refine ⟨_, rfl, rfl, by kernel_rfl, ?_⟩
     rintro D b13 a z S F
     refine ⟨by kernel_rfl, ?_⟩
     exact op_indexArr _ 101 _ _ Ae (j * 8 + 4) 2 1 2 .i64 F rfl (by kernel_rfl) (by kernel_rfl) (by kernel_rfl) (by kernel_rfl) (by decide) (recs_some h.e (m := j) (get_lt hed)) (⟨b13, rfl, (SameB.refl _ _ rfl), S⟩)
    refine ⟨?_, ?_⟩
    ·
     refine ⟨_, rfl, rfl, by kernel_rfl, ?_⟩
     rintro D b13 a z S F
     refine ⟨by kernel_rfl, ?_⟩
     exact op_loadK _ _ Ae (j * 8 + 6) [.int .u64 ed.b1, .int .u64 ed.r1] F rfl (by kernel_rfl) (by kernel_rfl) (by kernel_rfl) (by simp) (cOldK S 0 edC_len h.e rfl 6 hed (by kernel_rfl)) (⟨b13, rfl, (SameB.refl _ _ rfl), S⟩)
    refine ⟨?_, ?_⟩
    ·
     refine ⟨_, rfl, rfl, by kernel_rfl, ?_⟩
     rintro D b13 a z S F
     refine ⟨by kernel_rfl, ?_⟩
     exact op_allocF S 4 rfl _ (.agg #[.int .u64 0, .int .u64 0]) rfl (by kernel_rfl) fun y14 z S => ⟨y14, rfl, ⟨rfl, rfl, rfl, rfl, rfl, rfl, rfl, rfl, rfl, rfl, rfl, rfl, rfl, rfl, rfl, rfl, rfl, rfl, rfl, rfl, trivial, trivial, trivial⟩, S⟩
    refine ⟨?_, ?_⟩
    ·
     refine ⟨_, rfl, rfl, by kernel_rfl, ?_⟩
     rintro D b13 a z S F
     refine ⟨by kernel_rfl, ?_⟩
     exact op_storeB S 4 _ _ _ b13 0 (.agg #[.int .u64 ed.b1, .int .u64 ed.r1]) F rfl rfl (by kernel_rfl) (by kernel_rfl) (by kernel_rfl) (by kernel_rfl) (by kernel_rfl) fun z S => ⟨b13, rfl, (SameB.refl _ _ rfl), S⟩
    trivial
   ·
    rintro b13 a z F S
    have F := F.sub (l := [(1, .slice An N.length cn), (2, .slice Am E.length cm), (4, .pointer (some ⟨b1, 0, none⟩)), (8, .pointer (some ⟨b2, 0, none⟩)), (10, .slice A X.length c), (11, .int .i64 (i : Nat)), (12, .pointer (some ⟨b13, 0, none⟩))]) ⟨by kernel_rfl, by kernel_rfl, by kernel_rfl, by kernel_rfl, by kernel_rfl, by kernel_rfl, by kernel_rfl, trivial⟩
    have S : Sat w z [rest w (· < w.heap.size), box b1 25 [.slice As x.spots.length cs, .slice Ae x.edges.length ce], box b2 45 [.slice none 0 0, .slice none 0 0, .slice none 0 0], row 26 1 (.slice A X.length c) X.length (X.flatMap iC_u64), box b13 101 [.int .u64 ed.b1, .int .u64 ed.r1]] := S
    refine then_n ?_
    refine wp_seq ?_
    refine region_gx (fun D => fun (_ : Unit) => [rest w (· < w.heap.size), box b1 25 [.slice As x.spots.length cs, .slice Ae x.edges.length ce], box b2 45 [.slice none 0 0, .slice none 0 0, .slice none 0 0], row 26 1 (.slice A X.length c) X.length (X.flatMap iC_u64), box b13 101 [.int .u64 ed.b1, .int .u64 ed.r1]]) (fun (_ : Unit) => [.agg #[.int .u64 ed.b1, .int .u64 ed.r1], .slice A X.length c, ptrA A (0 * 1), .int .u64 u, .tuple #[.int .u64 ((overP ed.b1 ed.r1 u).1), .int .i64 ((overP ed.b1 ed.r1 u).2)], .tuple #[.int .u64 ((overP ed.b1 ed.r1 u).1), .int .i64 ((overP ed.b1 ed.r1 u).2)], .int .u64 ((overP ed.b1 ed.r1 u).1), .int .i64 ((overP ed.b1 ed.r1 u).2), .int .u64 ((overP ed.b1 ed.r1 u).1), .int .i64 ((overP ed.b1 ed.r1 u).2)]) [(0, [], [4]), (2, [], [3, 4]), (3, [2], [4]), (4, [0, 2, 3], [])] () rfl (by kernel_rfl) (by kernel_rfl) F S.drew ?_ ?_ ?_ ?_ ?_
    · rintro ⟨⟩; rfl
    · rintro ⟨⟩; kernel_rfl
    ·
     intro D D' x h
     cases x
     rfl
    ·
     refine ⟨?_, ?_⟩
     ·
      refine ⟨_, rfl, rfl, by kernel_rfl, ?_⟩
      rintro D ⟨⟩ a z S F
      refine ⟨by kernel_rfl, ?_⟩
      exact op_loadK _ _ (some ⟨b13, 0, none⟩) 0 [.int .u64 ed.b1, .int .u64 ed.r1] F rfl (by kernel_rfl) (by kernel_rfl) (by kernel_rfl) (by simp) (cBoxK S 4 rfl 0 (by kernel_rfl)) (⟨(), rfl, (SameB.refl _ _ rfl), S⟩)
     refine ⟨?_, ?_⟩
     ·
      refine ⟨_, rfl, rfl, by kernel_rfl, ?_⟩
      rintro D ⟨⟩ a z S F
      refine ⟨by kernel_rfl, ?_⟩
      exact op_index _ 26 _ _ A X.length c 0 1 .i64 F rfl (by kernel_rfl) (by kernel_rfl) (by kernel_rfl) (by kernel_rfl) (get_lt hu) (row_some S 3 rfl (m := 0) (get_lt hu)) (⟨(), rfl, (SameB.refl _ _ rfl), S⟩)
     refine ⟨?_, ?_⟩
     ·
      refine ⟨_, rfl, rfl, by kernel_rfl, ?_⟩
      rintro D ⟨⟩ a z S F
      refine ⟨by kernel_rfl, ?_⟩
      exact op_load _ _ A (0 * 1) (.int .u64 u) F rfl (by kernel_rfl) (by kernel_rfl) (cRec S 3 iC_len_u64 rfl 0 hu rfl) (⟨(), rfl, (SameB.refl _ _ rfl), S⟩)
     refine ⟨?_, ?_⟩
     ·
      refine ⟨_, rfl, rfl, by kernel_rfl, ?_⟩
      rintro D ⟨⟩ a z S F
      refine ⟨by kernel_rfl, ?_⟩
      refine op_fn F (by kernel_rfl) (rover_any ed.b1 ed.r1 u hee.b1 hee.r1 huu _) ?_
      rintro e z ⟨rfl, hb⟩
      have S := S.grow hb
      exact ⟨_, rfl, (), rfl, (SameB.refl _ _ rfl), S⟩
     trivial
    ·
     rintro ⟨⟩ a z F S
     have F := F.sub (l := [(1, .slice An N.length cn), (2, .slice Am E.length cm), (4, .pointer (some ⟨b1, 0, none⟩)), (8, .pointer (some ⟨b2, 0, none⟩)), (10, .slice A X.length c), (11, .int .i64 (i : Nat)), (13, .int .u64 ((overP ed.b1 ed.r1 u).1)), (14, .int .i64 ((overP ed.b1 ed.r1 u).2))]) ⟨by kernel_rfl, by kernel_rfl, by kernel_rfl, by kernel_rfl, by kernel_rfl, by kernel_rfl, by kernel_rfl, by kernel_rfl, trivial⟩
     have S : Sat w z [rest w (· < w.heap.size), box b1 25 [.slice As x.spots.length cs, .slice Ae x.edges.length ce], box b2 45 [.slice none 0 0, .slice none 0 0, .slice none 0 0], row 26 1 (.slice A X.length c) X.length (X.flatMap iC_u64), box b13 101 [.int .u64 ed.b1, .int .u64 ed.r1]] := S
     refine then_n ?_
     refine wp_seq ?_
     refine s_reg ?_
     refine l_pure 1 (fun L => (53, .int .i64 ((overP ed.b1 ed.r1 u).2)) :: L) F (by kernel_rfl) fun a F => ?_
     by_cases ht15 : ((overP ed.b1 ed.r1 u).2 : Int) = (0 : Int)
     ·
      skip
      have hov := ht15
      refine l_do F rfl rfl (op_pure F (v0 := .bool (((overP ed.b1 ed.r1 u).2 : Int) != (0 : Int))) (v := .bool false) (by kernel_rfl) (neqF ht15) fun a F => ?_)
      refine l_then ?_
      refine c_f F rfl ?_
      refine wp_skip ?_
      refine then_n ?_
      refine wp_region_list ?_
      refine l_pure 1 (fun L => (56, .int .u64 ((overP ed.b1 ed.r1 u).1)) :: L) F (by kernel_rfl) fun a F => ?_
      refine l_do F rfl rfl (op_buildSlice S _ 1 _ 26 1 iC_u64 ([(overP ed.b1 ed.r1 u).1] : List Int) F rfl (by kernel_rfl) (by kernel_rfl) (by kernel_rfl) (by unfold maxLen; omega) fun b16 z S a F => ?_)
      refine l_pure 1 (fun L => (58, .slice A X.length c) :: L) F (by kernel_rfl) fun a F => ?_
      refine l_do F rfl rfl (op_append S 5 _ _ _ 26 (.int .u64 0) 1 8 ([(overP ed.b1 ed.r1 u).1] : List Int) X iC_u64 A c F iC_len_u64 (fun _ => rfl) rfl rfl (by kernel_rfl) (by kernel_rfl) rfl rfl rfl (by kernel_rfl) (by kernel_rfl) (row_none (S.rowOf (i := 3) rfl)) (src_row (S.rowOf (i := 3) rfl)) (by first | omega | (simp <;> omega)) fun A17 c18 z S a F => ?_)
      refine l_pure 1 (fun L => (10, .slice A17 ((([(overP ed.b1 ed.r1 u).1] : List Int) ++ X).length) c18) :: L) F (by kernel_rfl) fun a F => ?_
      refine l_nil (inb_n ?_)
      refine then_n ?_
      refine wp_region_list ?_
      refine l_pure 1 (fun L => (23, .int .i64 (i : Nat)) :: L) F (by kernel_rfl) fun a F => ?_
      refine l_do F rfl rfl (op_pure F (v0 := .int .i64 (IntKind.wrap .i64 ((i : Nat) - 1))) (v := .int .i64 (i - 1 : Nat)) (by kernel_rfl) (wrn_i64 (by omega) (by omega) (by omega)) fun a F => ?_)
      refine l_pure 1 (fun L => (11, .int .i64 (i - 1 : Nat)) :: L) F (by kernel_rfl) fun a F => ?_
      refine l_then ?_
      exact ⟨_, (by omega), i - 1, (([(overP ed.b1 ed.r1 u).1] : List Int) ++ X), A17, c18, rfl, (by omega), ((hI.step hwl (by omega) (by omega) hn he (fee_at1 hed hs) hu).1 hov), F.sub ⟨by kernel_rfl, by kernel_rfl, by kernel_rfl, by kernel_rfl, by kernel_rfl, by kernel_rfl, trivial⟩, (S.pick [0, 1, 2, 5] (by decide))⟩
     ·
      skip
      have hov := ht15
      have hf : fillP x N E am = none := (hI.step hwl (by omega) (by omega) hn he (fee_at1 hed hs) hu).2 hov
      refine l_do F rfl rfl (op_pure F (v0 := .bool (((overP ed.b1 ed.r1 u).2 : Int) != (0 : Int))) (v := .bool true) (by kernel_rfl) (neqT ht15) fun a F => ?_)
      refine l_then ?_
      refine c_t F rfl ?_
      refine s_reg ?_
      refine l_pure 1 (fun L => (55, .agg #[.slice none 0 0, .slice none 0 0, .slice none 0 0]) :: L) F (by kernel_rfl) fun a F => ?_
      refine l_do F rfl rfl (op_storeB S 2 _ _ _ b2 0 (.agg #[.slice none 0 0, .slice none 0 0, .slice none 0 0]) F rfl rfl (by kernel_rfl) (by kernel_rfl) (by kernel_rfl) (by kernel_rfl) (by kernel_rfl) fun z S a F => ?_)
      refine l_pure 1 (fun L => (9, .bool false) :: L) F (by kernel_rfl) fun a F => ?_
      refine l_then ?_
      refine wp_ret ?_
      refine then_r (inb_r (then_r (then_r (inb_r (then_r (?_))))))
      exact fin F [.cell 8 45, .tmp 9] [.agg #[.slice none 0 0, .slice none 0 0, .slice none 0 0], .bool false] rfl ⟨⟨_, by kernel_rfl, resK S 2 (cs := [.slice none 0 0, .slice none 0 0, .slice none 0 0]) rfl (by kernel_rfl) (by kernel_rfl) (by simp)⟩, by kernel_rfl, trivial⟩ (.tuple #[.agg #[.slice none 0 0, .slice none 0 0, .slice none 0 0], .bool false]) rfl (.inl ⟨hf, rfl, S.below (i := 0) rfl⟩)
  · exact absurd hsd (by rw [hs]; decide)
 ·
  skip
  obtain ⟨hX, h0⟩ := hI.done (by omega)
  have hXl := hI.len hwl
  refine l_do F rfl rfl (op_pure F (v0 := .bool (decide (((i : Nat) : Int) > (0 : Int)))) (v := .bool false) (by kernel_rfl) (gtrF ht6) fun a F => ?_)
  refine l_then ?_
  refine c_f F rfl ?_
  refine wp_exit ?_
  refine then_x ?_
  refine then_x ?_
  refine inb_x ?_
  refine then_n ?_
  refine wp_seq ?_
  refine s_reg ?_
  refine l_pure 1 (fun L => (15, .int .i64 0) :: L) F (by kernel_rfl) fun a F => ?_
  refine l_then ?_
  refine wp_block ?_
  refine wp_loop_m (fun m a z => ∃ (i : Nat), m = E.length - i ∧ (i ≤ E.length) ∧ (CanTo x N E X i) ∧ Fr a 100 [(1, .slice An N.length cn), (2, .slice Am E.length cm), (4, .pointer (some ⟨b1, 0, none⟩)), (8, .pointer (some ⟨b2, 0, none⟩)), (10, .slice A X.length c), (15, .int .i64 (i : Nat))] ∧ Sat w z [rest w (· < w.heap.size), box b1 25 [.slice As x.spots.length cs, .slice Ae x.edges.length ce], box b2 45 [.slice none 0 0, .slice none 0 0, .slice none 0 0], row 26 1 (.slice A X.length c) X.length (X.flatMap iC_u64)]) _ ⟨0, rfl, Nat.zero_le _, (CanTo.zero _ _ _ _), F.sub ⟨by kernel_rfl, by kernel_rfl, by kernel_rfl, by kernel_rfl, by kernel_rfl, by kernel_rfl, trivial⟩, S⟩ ?_
  rintro m a z ⟨i, hm, hf19, hf20, F, S⟩
  have hC := hf20
  refine wp_seq ?_
  refine s_reg ?_
  refine l_pure 3 (fun L => (62, .int .i64 (E.length : Nat)) :: (61, .slice Am E.length cm) :: (60, .int .i64 (i : Nat)) :: L) F (by kernel_rfl) fun a F => ?_
  by_cases ht21 : ((i : Nat) : Int) < ((E.length : Nat) : Int)
  ·
   skip
   obtain ⟨e0, he⟩ : ∃ e0, E[i]? = some e0 := ⟨_, List.getElem?_eq_getElem (by omega)⟩
   obtain ⟨n, hn⟩ : ∃ n, N[i]? = some n := ⟨_, List.getElem?_eq_getElem (by omega)⟩
   obtain ⟨j, rfl, ed, hed, hsd, hnx⟩ := hw.at_ i n e0 hn he
   obtain ⟨a1, ha1⟩ : ∃ a1, X[i]? = some a1 := ⟨_, List.getElem?_eq_getElem (by omega)⟩
   refine l_do F rfl rfl (op_pure F (v0 := .bool (decide (((i : Nat) : Int) < ((E.length : Nat) : Int)))) (v := .bool true) (by kernel_rfl) (lssT ht21) fun a F => ?_)
   refine l_then ?_
   refine c_t F rfl ?_
   refine wp_skip ?_
   refine then_n ?_
   refine wp_seq ?_
   refine wp_block ?_
   refine wp_seq ?_
   rcases side_cases ed n with ⟨hs, ha⟩ | ⟨hs, hb1, ha⟩ | ⟨hs, ha, hb1⟩
   ·
    skip
    by_cases ht22 : (ed.c0 : Int) < (a1 : Int)
    ·
     skip
     have hf : fillP x N E am = none := by
       have h9 := canB_no hn he ha1 (by rw [can_at0 hed hs]; exact ht22)
       rw [hX] at h9
       exact fill_no h9
     refine region_gx (fun D => fun (_ : Unit) => [rest w (· < w.heap.size), box b1 25 [.slice As x.spots.length cs, .slice Ae x.edges.length ce], box b2 45 [.slice none 0 0, .slice none 0 0, .slice none 0 0], row 26 1 (.slice A X.length c) X.length (X.flatMap iC_u64)]) (fun (_ : Unit) => [.pointer (some ⟨b1, 1, none⟩), .slice Ae x.edges.length ce, .slice Am E.length cm, .int .i64 (i : Nat), ptrA Am (i * 1), .int .i64 (j : Nat), .agg #[.slice As x.spots.length cs, .slice Ae x.edges.length ce], .slice Am E.length cm, .int .i64 (i : Nat), ptrA Am (i * 1), .int .i64 (j : Nat), .slice An N.length cn, .int .i64 (i : Nat), ptrA An (i * 1), .int .i64 n, .int .i64 0, ptrA Ae (j * 8), ptrA Ae (j * 8 + 2), ptrA Ae (j * 8 + 2), .int .u64 ed.c0, .slice A X.length c, .int .i64 (i : Nat), ptrA A (i * 1), .int .u64 a1, .bool true]) [(1, [], [16, 17, 18, 19, 24]), (4, [], [5, 16, 17, 18, 19, 24]), (5, [4], [16, 17, 18, 19, 24]), (6, [], [15, 18, 19, 24]), (9, [], [10, 15, 18, 19, 24]), (10, [9], [15, 18, 19, 24]), (13, [], [14, 15, 18, 19, 24]), (14, [13], [15, 18, 19, 24]), (15, [6, 9, 10, 13, 14], [18, 19, 24]), (16, [1, 4, 5], [17, 18, 19, 24]), (17, [1, 4, 5, 16], [18, 19, 24]), (18, [1, 4, 5, 6, 9, 10, 13, 14, 15, 16, 17], [19, 24]), (19, [1, 4, 5, 6, 9, 10, 13, 14, 15, 16, 17, 18], [24]), (22, [], [23, 24]), (23, [22], [24]), (24, [1, 4, 5, 6, 9, 10, 13, 14, 15, 16, 17, 18, 19, 22, 23], [])] () rfl (by kernel_rfl) (by kernel_rfl) F S.drew ?_ ?_ ?_ ?_ ?_
     · rintro ⟨⟩; rfl
     · rintro ⟨⟩; kernel_rfl
     ·
      intro D D' x h
      cases x
      rfl
     ·
      refine ⟨?_, ?_⟩
      ·
       refine ⟨_, rfl, rfl, by kernel_rfl, ?_⟩
       rintro D ⟨⟩ a z S F
       refine ⟨by kernel_rfl, ?_⟩
       exact op_load _ _ (some ⟨b1, 0, none⟩) 1 (.slice Ae x.edges.length ce) F rfl (by kernel_rfl) (by kernel_rfl) (cBox S 1 rfl (j := 1) rfl) (⟨(), rfl, (SameB.refl _ _ rfl), S⟩)
      refine ⟨?_, ?_⟩
      ·
       refine ⟨_, rfl, rfl, by kernel_rfl, ?_⟩
       rintro D ⟨⟩ a z S F
       refine ⟨by kernel_rfl, ?_⟩
       exact op_index _ 3 _ _ Am E.length cm i 1 .i64 F rfl (by kernel_rfl) (by kernel_rfl) (by kernel_rfl) (by kernel_rfl) (get_lt he) (recs_some hE (m := i) (get_lt he)) (⟨(), rfl, (SameB.refl _ _ rfl), S⟩)
      refine ⟨?_, ?_⟩
      ·
       refine ⟨_, rfl, rfl, by kernel_rfl, ?_⟩
       rintro D ⟨⟩ a z S F
       refine ⟨by kernel_rfl, ?_⟩
       exact op_load _ _ Am (i * 1) (.int .i64 (j : Nat)) F rfl (by kernel_rfl) (by kernel_rfl) (cOld S 0 iC_len_i64 hE rfl 0 he rfl) (⟨(), rfl, (SameB.refl _ _ rfl), S⟩)
      refine ⟨?_, ?_⟩
      ·
       refine ⟨_, rfl, rfl, by kernel_rfl, ?_⟩
       rintro D ⟨⟩ a z S F
       refine ⟨by kernel_rfl, ?_⟩
       exact op_loadK _ _ (some ⟨b1, 0, none⟩) 0 [.slice As x.spots.length cs, .slice Ae x.edges.length ce] F rfl (by kernel_rfl) (by kernel_rfl) (by kernel_rfl) (by simp) (cBoxK S 1 rfl 0 (by kernel_rfl)) (⟨(), rfl, (SameB.refl _ _ rfl), S⟩)
      refine ⟨?_, ?_⟩
      ·
       refine ⟨_, rfl, rfl, by kernel_rfl, ?_⟩
       rintro D ⟨⟩ a z S F
       refine ⟨by kernel_rfl, ?_⟩
       exact op_index _ 3 _ _ Am E.length cm i 1 .i64 F rfl (by kernel_rfl) (by kernel_rfl) (by kernel_rfl) (by kernel_rfl) (get_lt he) (recs_some hE (m := i) (get_lt he)) (⟨(), rfl, (SameB.refl _ _ rfl), S⟩)
      refine ⟨?_, ?_⟩
      ·
       refine ⟨_, rfl, rfl, by kernel_rfl, ?_⟩
       rintro D ⟨⟩ a z S F
       refine ⟨by kernel_rfl, ?_⟩
       exact op_load _ _ Am (i * 1) (.int .i64 (j : Nat)) F rfl (by kernel_rfl) (by kernel_rfl) (cOld S 0 iC_len_i64 hE rfl 0 he rfl) (⟨(), rfl, (SameB.refl _ _ rfl), S⟩)
      refine ⟨?_, ?_⟩
      ·
       refine ⟨_, rfl, rfl, by kernel_rfl, ?_⟩
       rintro D ⟨⟩ a z S F
       refine ⟨by kernel_rfl, ?_⟩
       exact op_index _ 3 _ _ An N.length cn i 1 .i64 F rfl (by kernel_rfl) (by kernel_rfl) (by kernel_rfl) (by kernel_rfl) (get_lt hn) (recs_some hN (m := i) (get_lt hn)) (⟨(), rfl, (SameB.refl _ _ rfl), S⟩)
      refine ⟨?_, ?_⟩
      ·
       refine ⟨_, rfl, rfl, by kernel_rfl, ?_⟩
       rintro D ⟨⟩ a z S F
       refine ⟨by kernel_rfl, ?_⟩
       exact op_load _ _ An (i * 1) (.int .i64 n) F rfl (by kernel_rfl) (by kernel_rfl) (cOld S 0 iC_len_i64 hN rfl 0 hn rfl) (⟨(), rfl, (SameB.refl _ _ rfl), S⟩)
      refine ⟨?_, ?_⟩
      ·
       refine ⟨_, rfl, rfl, by kernel_rfl, ?_⟩
       rintro D ⟨⟩ a z S F
       refine ⟨by kernel_rfl, ?_⟩
       refine op_fn F (by kernel_rfl) (rside_at _ As cs Ae ce x (h.move S rfl) ok j ed hed n _ hs (by decide)) ?_
       rintro e z ⟨rfl, hb⟩
       have S := S.grow hb
       exact ⟨_, rfl, (), rfl, (SameB.refl _ _ rfl), S⟩
      refine ⟨?_, ?_⟩
      ·
       refine ⟨_, rfl, rfl, by kernel_rfl, ?_⟩
       rintro D ⟨⟩ a z S F
       refine ⟨by kernel_rfl, ?_⟩
       exact op_index _ 104 _ _ Ae x.edges.length ce j 8 .i64 F rfl (by kernel_rfl) (by kernel_rfl) (by kernel_rfl) (by kernel_rfl) (get_lt hed) (recs_some h.e (m := j) (get_lt hed)) (⟨(), rfl, (SameB.refl _ _ rfl), S⟩)
      refine ⟨?_, ?_⟩
      ·
       refine ⟨_, rfl, rfl, by kernel_rfl, ?_⟩
       rintro D ⟨⟩ a z S F
       refine ⟨by kernel_rfl, ?_⟩
       exact op_field _ _ _ Ae (j * 8) 2 F rfl (by kernel_rfl) (by kernel_rfl) (recs_some h.e (m := j) (get_lt hed)) (⟨(), rfl, (SameB.refl _ _ rfl), S⟩)
      refine ⟨?_, ?_⟩
      ·
       refine ⟨_, rfl, rfl, by kernel_rfl, ?_⟩
       rintro D ⟨⟩ a z S F
       refine ⟨by kernel_rfl, ?_⟩
       exact op_indexArr _ 26 _ _ Ae (j * 8 + 2) 2 0 1 .i64 F rfl (by kernel_rfl) (by kernel_rfl) (by kernel_rfl) (by kernel_rfl) (by decide) (recs_some h.e (m := j) (get_lt hed)) (⟨(), rfl, (SameB.refl _ _ rfl), S⟩)
      refine ⟨?_, ?_⟩
      ·
       refine ⟨_, rfl, rfl, by kernel_rfl, ?_⟩
       rintro D ⟨⟩ a z S F
       refine ⟨by kernel_rfl, ?_⟩
       exact op_load _ _ Ae (j * 8 + 2) (.int .u64 ed.c0) F rfl (by kernel_rfl) (by kernel_rfl) (cOld S 0 edC_len h.e rfl 2 hed rfl) (⟨(), rfl, (SameB.refl _ _ rfl), S⟩)
      refine ⟨?_, ?_⟩
      ·
       refine ⟨_, rfl, rfl, by kernel_rfl, ?_⟩
       rintro D ⟨⟩ a z S F
       refine ⟨by kernel_rfl, ?_⟩
       exact op_index _ 26 _ _ A X.length c i 1 .i64 F rfl (by kernel_rfl) (by kernel_rfl) (by kernel_rfl) (by kernel_rfl) (get_lt ha1) (row_some S 3 rfl (m := i) (get_lt ha1)) (⟨(), rfl, (SameB.refl _ _ rfl), S⟩)
      refine ⟨?_, ?_⟩
      ·
       refine ⟨_, rfl, rfl, by kernel_rfl, ?_⟩
       rintro D ⟨⟩ a z S F
       refine ⟨by kernel_rfl, ?_⟩
       exact op_load _ _ A (i * 1) (.int .u64 a1) F rfl (by kernel_rfl) (by kernel_rfl) (cRec S 3 iC_len_u64 rfl 0 ha1 rfl) (⟨(), rfl, (SameB.refl _ _ rfl), S⟩)
      refine ⟨?_, ?_⟩
      ·
       refine ⟨_, rfl, rfl, by kernel_rfl, ?_⟩
       rintro D ⟨⟩ a z S F
       refine ⟨by kernel_rfl, ?_⟩
       exact op_pure F (v0 := .bool (decide ((ed.c0 : Int) < (a1 : Int)))) (v := .bool true) (by kernel_rfl) (lssT ht22) ⟨(), rfl, (SameB.refl _ _ rfl), S⟩
      trivial
     ·
      rintro ⟨⟩ a z F S
      have F := F.sub (l := [(1, .slice An N.length cn), (2, .slice Am E.length cm), (4, .pointer (some ⟨b1, 0, none⟩)), (8, .pointer (some ⟨b2, 0, none⟩)), (10, .slice A X.length c), (15, .int .i64 (i : Nat)), (90, .bool true)]) ⟨by kernel_rfl, by kernel_rfl, by kernel_rfl, by kernel_rfl, by kernel_rfl, by kernel_rfl, by kernel_rfl, trivial⟩
      have S : Sat w z [rest w (· < w.heap.size), box b1 25 [.slice As x.spots.length cs, .slice Ae x.edges.length ce], box b2 45 [.slice none 0 0, .slice none 0 0, .slice none 0 0], row 26 1 (.slice A X.length c) X.length (X.flatMap iC_u64)] := S
      refine then_n ?_
      refine c_t F rfl ?_
      refine s_reg ?_
      refine l_pure 1 (fun L => (91, .agg #[.slice none 0 0, .slice none 0 0, .slice none 0 0]) :: L) F (by kernel_rfl) fun a F => ?_
      refine l_do F rfl rfl (op_storeB S 2 _ _ _ b2 0 (.agg #[.slice none 0 0, .slice none 0 0, .slice none 0 0]) F rfl rfl (by kernel_rfl) (by kernel_rfl) (by kernel_rfl) (by kernel_rfl) (by kernel_rfl) fun z S a F => ?_)
      refine l_pure 1 (fun L => (9, .bool false) :: L) F (by kernel_rfl) fun a F => ?_
      refine l_then ?_
      refine wp_ret ?_
      refine inb_r (then_r (then_r (inb_r (then_r (?_)))))
      exact fin F [.cell 8 45, .tmp 9] [.agg #[.slice none 0 0, .slice none 0 0, .slice none 0 0], .bool false] rfl ⟨⟨_, by kernel_rfl, resK S 2 (cs := [.slice none 0 0, .slice none 0 0, .slice none 0 0]) rfl (by kernel_rfl) (by kernel_rfl) (by simp)⟩, by kernel_rfl, trivial⟩ (.tuple #[.agg #[.slice none 0 0, .slice none 0 0, .slice none 0 0], .bool false]) rfl (.inl ⟨hf, rfl, S.below (i := 0) rfl⟩)
    ·
     skip
     refine region_gx (fun D => fun (_ : Unit) => [rest w (· < w.heap.size), box b1 25 [.slice As x.spots.length cs, .slice Ae x.edges.length ce], box b2 45 [.slice none 0 0, .slice none 0 0, .slice none 0 0], row 26 1 (.slice A X.length c) X.length (X.flatMap iC_u64)]) (fun (_ : Unit) => [.pointer (some ⟨b1, 1, none⟩), .slice Ae x.edges.length ce, .slice Am E.length cm, .int .i64 (i : Nat), ptrA Am (i * 1), .int .i64 (j : Nat), .agg #[.slice As x.spots.length cs, .slice Ae x.edges.length ce], .slice Am E.length cm, .int .i64 (i : Nat), ptrA Am (i * 1), .int .i64 (j : Nat), .slice An N.length cn, .int .i64 (i : Nat), ptrA An (i * 1), .int .i64 n, .int .i64 0, ptrA Ae (j * 8), ptrA Ae (j * 8 + 2), ptrA Ae (j * 8 + 2), .int .u64 ed.c0, .slice A X.length c, .int .i64 (i : Nat), ptrA A (i * 1), .int .u64 a1, .bool false]) [(1, [], [16, 17, 18, 19, 24]), (4, [], [5, 16, 17, 18, 19, 24]), (5, [4], [16, 17, 18, 19, 24]), (6, [], [15, 18, 19, 24]), (9, [], [10, 15, 18, 19, 24]), (10, [9], [15, 18, 19, 24]), (13, [], [14, 15, 18, 19, 24]), (14, [13], [15, 18, 19, 24]), (15, [6, 9, 10, 13, 14], [18, 19, 24]), (16, [1, 4, 5], [17, 18, 19, 24]), (17, [1, 4, 5, 16], [18, 19, 24]), (18, [1, 4, 5, 6, 9, 10, 13, 14, 15, 16, 17], [19, 24]), (19, [1, 4, 5, 6, 9, 10, 13, 14, 15, 16, 17, 18], [24]), (22, [], [23, 24]), (23, [22], [24]), (24, [1, 4, 5, 6, 9, 10, 13, 14, 15, 16, 17, 18, 19, 22, 23], [])] () rfl (by kernel_rfl) (by kernel_rfl) F S.drew ?_ ?_ ?_ ?_ ?_
     · rintro ⟨⟩; rfl
     · rintro ⟨⟩; kernel_rfl
     ·
      intro D D' x h
      cases x
      rfl
     ·
      refine ⟨?_, ?_⟩
      ·
       refine ⟨_, rfl, rfl, by kernel_rfl, ?_⟩
       rintro D ⟨⟩ a z S F
       refine ⟨by kernel_rfl, ?_⟩
       exact op_load _ _ (some ⟨b1, 0, none⟩) 1 (.slice Ae x.edges.length ce) F rfl (by kernel_rfl) (by kernel_rfl) (cBox S 1 rfl (j := 1) rfl) (⟨(), rfl, (SameB.refl _ _ rfl), S⟩)
      refine ⟨?_, ?_⟩
      ·
       refine ⟨_, rfl, rfl, by kernel_rfl, ?_⟩
       rintro D ⟨⟩ a z S F
       refine ⟨by kernel_rfl, ?_⟩
       exact op_index _ 3 _ _ Am E.length cm i 1 .i64 F rfl (by kernel_rfl) (by kernel_rfl) (by kernel_rfl) (by kernel_rfl) (get_lt he) (recs_some hE (m := i) (get_lt he)) (⟨(), rfl, (SameB.refl _ _ rfl), S⟩)
      refine ⟨?_, ?_⟩
      ·
       refine ⟨_, rfl, rfl, by kernel_rfl, ?_⟩
       rintro D ⟨⟩ a z S F
       refine ⟨by kernel_rfl, ?_⟩
       exact op_load _ _ Am (i * 1) (.int .i64 (j : Nat)) F rfl (by kernel_rfl) (by kernel_rfl) (cOld S 0 iC_len_i64 hE rfl 0 he rfl) (⟨(), rfl, (SameB.refl _ _ rfl), S⟩)
      refine ⟨?_, ?_⟩
      ·
       refine ⟨_, rfl, rfl, by kernel_rfl, ?_⟩
       rintro D ⟨⟩ a z S F
       refine ⟨by kernel_rfl, ?_⟩
       exact op_loadK _ _ (some ⟨b1, 0, none⟩) 0 [.slice As x.spots.length cs, .slice Ae x.edges.length ce] F rfl (by kernel_rfl) (by kernel_rfl) (by kernel_rfl) (by simp) (cBoxK S 1 rfl 0 (by kernel_rfl)) (⟨(), rfl, (SameB.refl _ _ rfl), S⟩)
      refine ⟨?_, ?_⟩
      ·
       refine ⟨_, rfl, rfl, by kernel_rfl, ?_⟩
       rintro D ⟨⟩ a z S F
       refine ⟨by kernel_rfl, ?_⟩
       exact op_index _ 3 _ _ Am E.length cm i 1 .i64 F rfl (by kernel_rfl) (by kernel_rfl) (by kernel_rfl) (by kernel_rfl) (get_lt he) (recs_some hE (m := i) (get_lt he)) (⟨(), rfl, (SameB.refl _ _ rfl), S⟩)
      refine ⟨?_, ?_⟩
      ·
       refine ⟨_, rfl, rfl, by kernel_rfl, ?_⟩
       rintro D ⟨⟩ a z S F
       refine ⟨by kernel_rfl, ?_⟩
       exact op_load _ _ Am (i * 1) (.int .i64 (j : Nat)) F rfl (by kernel_rfl) (by kernel_rfl) (cOld S 0 iC_len_i64 hE rfl 0 he rfl) (⟨(), rfl, (SameB.refl _ _ rfl), S⟩)
      refine ⟨?_, ?_⟩
      ·
       refine ⟨_, rfl, rfl, by kernel_rfl, ?_⟩
       rintro D ⟨⟩ a z S F
       refine ⟨by kernel_rfl, ?_⟩
       exact op_index _ 3 _ _ An N.length cn i 1 .i64 F rfl (by kernel_rfl) (by kernel_rfl) (by kernel_rfl) (by kernel_rfl) (get_lt hn) (recs_some hN (m := i) (get_lt hn)) (⟨(), rfl, (SameB.refl _ _ rfl), S⟩)
      refine ⟨?_, ?_⟩
      ·
       refine ⟨_, rfl, rfl, by kernel_rfl, ?_⟩
       rintro D ⟨⟩ a z S F
       refine ⟨by kernel_rfl, ?_⟩
       exact op_load _ _ An (i * 1) (.int .i64 n) F rfl (by kernel_rfl) (by kernel_rfl) (cOld S 0 iC_len_i64 hN rfl 0 hn rfl) (⟨(), rfl, (SameB.refl _ _ rfl), S⟩)
      refine ⟨?_, ?_⟩
      ·
       refine ⟨_, rfl, rfl, by kernel_rfl, ?_⟩
       rintro D ⟨⟩ a z S F
       refine ⟨by kernel_rfl, ?_⟩
       refine op_fn F (by kernel_rfl) (rside_at _ As cs Ae ce x (h.move S rfl) ok j ed hed n _ hs (by decide)) ?_
       rintro e z ⟨rfl, hb⟩
       have S := S.grow hb
       exact ⟨_, rfl, (), rfl, (SameB.refl _ _ rfl), S⟩
      refine ⟨?_, ?_⟩
      ·
       refine ⟨_, rfl, rfl, by kernel_rfl, ?_⟩
       rintro D ⟨⟩ a z S F
       refine ⟨by kernel_rfl, ?_⟩
       exact op_index _ 104 _ _ Ae x.edges.length ce j 8 .i64 F rfl (by kernel_rfl) (by kernel_rfl) (by kernel_rfl) (by kernel_rfl) (get_lt hed) (recs_some h.e (m := j) (get_lt hed)) (⟨(), rfl, (SameB.refl _ _ rfl), S⟩)
      refine ⟨?_, ?_⟩
      ·
       refine ⟨_, rfl, rfl, by kernel_rfl, ?_⟩
       rintro D ⟨⟩ a z S F
       refine ⟨by kernel_rfl, ?_⟩
       exact op_field _ _ _ Ae (j * 8) 2 F rfl (by kernel_rfl) (by kernel_rfl) (recs_some h.e (m := j) (get_lt hed)) (⟨(), rfl, (SameB.refl _ _ rfl), S⟩)
      refine ⟨?_, ?_⟩
      ·
       refine ⟨_, rfl, rfl, by kernel_rfl, ?_⟩
       rintro D ⟨⟩ a z S F
       refine ⟨by kernel_rfl, ?_⟩
       exact op_indexArr _ 26 _ _ Ae (j * 8 + 2) 2 0 1 .i64 F rfl (by kernel_rfl) (by kernel_rfl) (by kernel_rfl) (by kernel_rfl) (by decide) (recs_some h.e (m := j) (get_lt hed)) (⟨(), rfl, (SameB.refl _ _ rfl), S⟩)
      refine ⟨?_, ?_⟩
      ·
       refine ⟨_, rfl, rfl, by kernel_rfl, ?_⟩
       rintro D ⟨⟩ a z S F
       refine ⟨by kernel_rfl, ?_⟩
       exact op_load _ _ Ae (j * 8 + 2) (.int .u64 ed.c0) F rfl (by kernel_rfl) (by kernel_rfl) (cOld S 0 edC_len h.e rfl 2 hed rfl) (⟨(), rfl, (SameB.refl _ _ rfl), S⟩)
      refine ⟨?_, ?_⟩
      ·
       refine ⟨_, rfl, rfl, by kernel_rfl, ?_⟩
       rintro D ⟨⟩ a z S F
       refine ⟨by kernel_rfl, ?_⟩
       exact op_index _ 26 _ _ A X.length c i 1 .i64 F rfl (by kernel_rfl) (by kernel_rfl) (by kernel_rfl) (by kernel_rfl) (get_lt ha1) (row_some S 3 rfl (m := i) (get_lt ha1)) (⟨(), rfl, (SameB.refl _ _ rfl), S⟩)
      refine ⟨?_, ?_⟩
      ·
       refine ⟨_, rfl, rfl, by kernel_rfl, ?_⟩
       rintro D ⟨⟩ a z S F
       refine ⟨by kernel_rfl, ?_⟩
       exact op_load _ _ A (i * 1) (.int .u64 a1) F rfl (by kernel_rfl) (by kernel_rfl) (cRec S 3 iC_len_u64 rfl 0 ha1 rfl) (⟨(), rfl, (SameB.refl _ _ rfl), S⟩)
      refine ⟨?_, ?_⟩
      ·
       refine ⟨_, rfl, rfl, by kernel_rfl, ?_⟩
       rintro D ⟨⟩ a z S F
       refine ⟨by kernel_rfl, ?_⟩
       exact op_pure F (v0 := .bool (decide ((ed.c0 : Int) < (a1 : Int)))) (v := .bool false) (by kernel_rfl) (lssF ht22) ⟨(), rfl, (SameB.refl _ _ rfl), S⟩
      trivial
     ·
      rintro ⟨⟩ a z F S
      have F := F.sub (l := [(1, .slice An N.length cn), (2, .slice Am E.length cm), (4, .pointer (some ⟨b1, 0, none⟩)), (8, .pointer (some ⟨b2, 0, none⟩)), (10, .slice A X.length c), (15, .int .i64 (i : Nat)), (90, .bool false)]) ⟨by kernel_rfl, by kernel_rfl, by kernel_rfl, by kernel_rfl, by kernel_rfl, by kernel_rfl, by kernel_rfl, trivial⟩
      have S : Sat w z [rest w (· < w.heap.size), box b1 25 [.slice As x.spots.length cs, .slice Ae x.edges.length ce], box b2 45 [.slice none 0 0, .slice none 0 0, .slice none 0 0], row 26 1 (.slice A X.length c) X.length (X.flatMap iC_u64)] := S
      refine then_n ?_
      refine c_f F rfl ?_
      refine wp_skip ?_
      refine inb_n ?_
      refine then_n ?_
      refine wp_region_list ?_
      refine l_pure 1 (fun L => (64, .int .i64 (i : Nat)) :: L) F (by kernel_rfl) fun a F => ?_
      refine l_do F rfl rfl (op_pure F (v0 := .int .i64 (IntKind.wrap .i64 ((i : Nat) + 1))) (v := .int .i64 (i + 1 : Nat)) (by kernel_rfl) (wrn_i64 (by omega) (by omega) (by omega)) fun a F => ?_)
      refine l_pure 1 (fun L => (15, .int .i64 (i + 1 : Nat)) :: L) F (by kernel_rfl) fun a F => ?_
      refine l_then ?_
      exact ⟨_, (by omega), i + 1, rfl, (by omega), (hC.next hn he ha1 (by rw [can_at0 hed hs]; omega)), F.sub ⟨by kernel_rfl, by kernel_rfl, by kernel_rfl, by kernel_rfl, by kernel_rfl, by kernel_rfl, trivial⟩, S⟩
   ·
    skip
    by_cases ht23 : (ed.c1 : Int) < (a1 : Int)
    ·
     skip
     have hf : fillP x N E am = none := by
       have h9 := canB_no hn he ha1 (by rw [can_at1 hed hs]; exact ht23)
       rw [hX] at h9
       exact fill_no h9
     refine region_gx (fun D => fun (_ : Unit) => [rest w (· < w.heap.size), box b1 25 [.slice As x.spots.length cs, .slice Ae x.edges.length ce], box b2 45 [.slice none 0 0, .slice none 0 0, .slice none 0 0], row 26 1 (.slice A X.length c) X.length (X.flatMap iC_u64)]) (fun (_ : Unit) => [.pointer (some ⟨b1, 1, none⟩), .slice Ae x.edges.length ce, .slice Am E.length cm, .int .i64 (i : Nat), ptrA Am (i * 1), .int .i64 (j : Nat), .agg #[.slice As x.spots.length cs, .slice Ae x.edges.length ce], .slice Am E.length cm, .int .i64 (i : Nat), ptrA Am (i * 1), .int .i64 (j : Nat), .slice An N.length cn, .int .i64 (i : Nat), ptrA An (i * 1), .int .i64 n, .int .i64 1, ptrA Ae (j * 8), ptrA Ae (j * 8 + 2), ptrA Ae (j * 8 + 3), .int .u64 ed.c1, .slice A X.length c, .int .i64 (i : Nat), ptrA A (i * 1), .int .u64 a1, .bool true]) [(1, [], [16, 17, 18, 19, 24]), (4, [], [5, 16, 17, 18, 19, 24]), (5, [4], [16, 17, 18, 19, 24]), (6, [], [15, 18, 19, 24]), (9, [], [10, 15, 18, 19, 24]), (10, [9], [15, 18, 19, 24]), (13, [], [14, 15, 18, 19, 24]), (14, [13], [15, 18, 19, 24]), (15, [6, 9, 10, 13, 14], [18, 19, 24]), (16, [1, 4, 5], [17, 18, 19, 24]), (17, [1, 4, 5, 16], [18, 19, 24]), (18, [1, 4, 5, 6, 9, 10, 13, 14, 15, 16, 17], [19, 24]), (19, [1, 4, 5, 6, 9, 10, 13, 14, 15, 16, 17, 18], [24]), (22, [], [23, 24]), (23, [22], [24]), (24, [1, 4, 5, 6, 9, 10, 13, 14, 15, 16, 17, 18, 19, 22, 23], [])] () rfl (by kernel_rfl) (by kernel_rfl) F S.drew ?_ ?_ ?_ ?_ ?_
     · rintro ⟨⟩; rfl
     · rintro ⟨⟩; kernel_rfl
     ·
      intro D D' x h
      cases x
      rfl
     ·
      refine ⟨?_, ?_⟩
      ·
       refine ⟨_, rfl, rfl, by kernel_rfl, ?_⟩
       rintro D ⟨⟩ a z S F
       refine ⟨by kernel_rfl, ?_⟩
       exact op_load _ _ (some ⟨b1, 0, none⟩) 1 (.slice Ae x.edges.length ce) F rfl (by kernel_rfl) (by kernel_rfl) (cBox S 1 rfl (j := 1) rfl) (⟨(), rfl, (SameB.refl _ _ rfl), S⟩)
      refine ⟨?_, ?_⟩
      ·
       refine ⟨_, rfl, rfl, by kernel_rfl, ?_⟩
       rintro D ⟨⟩ a z S F
       refine ⟨by kernel_rfl, ?_⟩
       exact op_index _ 3 _ _ Am E.length cm i 1 .i64 F rfl (by kernel_rfl) (by kernel_rfl) (by kernel_rfl) (by kernel_rfl) (get_lt he) (recs_some hE (m := i) (get_lt he)) (⟨(), rfl, (SameB.refl _ _ rfl), S⟩)
      refine ⟨?_, ?_⟩
      ·
       refine ⟨_, rfl, rfl, by kernel_rfl, ?_⟩
       rintro D ⟨⟩ a z S F
       refine ⟨by kernel_rfl, ?_⟩
       exact op_load _ _ Am (i * 1) (.int .i64 (j : Nat)) F rfl (by kernel_rfl) (by kernel_rfl) (cOld S 0 iC_len_i64 hE rfl 0 he rfl) (⟨(), rfl, (SameB.refl _ _ rfl), S⟩)
      refine ⟨?_, ?_⟩
      ·
       refine ⟨_, rfl, rfl, by kernel_rfl, ?_⟩
       rintro D ⟨⟩ a z S F
       refine ⟨by kernel_rfl, ?_⟩
       exact op_loadK _ _ (some ⟨b1, 0, none⟩) 0 [.slice As x.spots.length cs, .slice Ae x.edges.length ce] F rfl (by kernel_rfl) (by kernel_rfl) (by kernel_rfl) (by simp) (cBoxK S 1 rfl 0 (by kernel_rfl)) (⟨(), rfl, (SameB.refl _ _ rfl), S⟩)
      refine ⟨?_, ?_⟩
      ·
       refine ⟨_, rfl, rfl, by kernel_rfl, ?_⟩
       rintro D ⟨⟩ a z S F
       refine ⟨by kernel_rfl, ?_⟩
       exact op_index _ 3 _ _ Am E.length cm i 1 .i64 F rfl (by kernel_rfl) (by kernel_rfl) (by kernel_rfl) (by kernel_rfl) (get_lt he) (recs_some hE (m := i) (get_lt he)) (⟨(), rfl, (SameB.refl _ _ rfl), S⟩)
      refine ⟨?_, ?_⟩
      ·
       refine ⟨_, rfl, rfl, by kernel_rfl, ?_⟩
       rintro D ⟨⟩ a z S F
       refine ⟨by kernel_rfl, ?_⟩
       exact op_load _ _ Am (i * 1) (.int .i64 (j : Nat)) F rfl (by kernel_rfl) (by kernel_rfl) (cOld S 0 iC_len_i64 hE rfl 0 he rfl) (⟨(), rfl, (SameB.refl _ _ rfl), S⟩)
      refine ⟨?_, ?_⟩
      ·
       refine ⟨_, rfl, rfl, by kernel_rfl, ?_⟩
       rintro D ⟨⟩ a z S F
       refine ⟨by kernel_rfl, ?_⟩
       exact op_index _ 3 _ _ An N.length cn i 1 .i64 F rfl (by kernel_rfl) (by kernel_rfl) (by kernel_rfl) (by kernel_rfl) (get_lt hn) (recs_some hN (m := i) (get_lt hn)) (⟨(), rfl, (SameB.refl _ _ rfl), S⟩)
      refine ⟨?_, ?_⟩
      ·
       refine ⟨_, rfl, rfl, by kernel_rfl, ?_⟩
       rintro D ⟨⟩ a z S F
       refine ⟨by kernel_rfl, ?_⟩
       exact op_load _ _ An (i * 1) (.int .i64 n) F rfl (by kernel_rfl) (by kernel_rfl) (cOld S 0 iC_len_i64 hN rfl 0 hn rfl) (⟨(), rfl, (SameB.refl _ _ rfl), S⟩)
      refine ⟨?_, ?_⟩
      ·
       refine ⟨_, rfl, rfl, by kernel_rfl, ?_⟩
       rintro D ⟨⟩ a z S F
       refine ⟨by kernel_rfl, ?_⟩
       refine op_fn F (by kernel_rfl) (rside_at _ As cs Ae ce x (h.move S rfl) ok j ed hed n _ hs (by decide)) ?_
       rintro e z ⟨rfl, hb⟩
       have S := S.grow hb
       exact ⟨_, rfl, (), rfl, (SameB.refl _ _ rfl), S⟩
      refine ⟨?_, ?_⟩
      ·
       refine ⟨_, rfl, rfl, by kernel_rfl, ?_⟩
       rintro D ⟨⟩ a z S F
       refine ⟨by kernel_rfl, ?_⟩
       exact op_index _ 104 _ _ Ae x.edges.length ce j 8 .i64 F rfl (by kernel_rfl) (by kernel_rfl) (by kernel_rfl) (by kernel_rfl) (get_lt hed) (recs_some h.e (m := j) (get_lt hed)) (⟨(), rfl, (SameB.refl _ _ rfl), S⟩)
      refine ⟨?_, ?_⟩
      ·
       refine ⟨_, rfl, rfl, by kernel_rfl, ?_⟩
       rintro D ⟨⟩ a z S F
       refine ⟨by kernel_rfl, ?_⟩
       exact op_field _ _ _ Ae (j * 8) 2 F rfl (by kernel_rfl) (by kernel_rfl) (recs_some h.e (m := j) (get_lt hed)) (⟨(), rfl, (SameB.refl _ _ rfl), S⟩)
      refine ⟨?_, ?_⟩
      ·
       refine ⟨_, rfl, rfl, by kernel_rfl, ?_⟩
       rintro D ⟨⟩ a z S F
       refine ⟨by kernel_rfl, ?_⟩
       exact op_indexArr _ 26 _ _ Ae (j * 8 + 2) 2 1 1 .i64 F rfl (by kernel_rfl) (by kernel_rfl) (by kernel_rfl) (by kernel_rfl) (by decide) (recs_some h.e (m := j) (get_lt hed)) (⟨(), rfl, (SameB.refl _ _ rfl), S⟩)
      refine ⟨?_, ?_⟩
      ·
       refine ⟨_, rfl, rfl, by kernel_rfl, ?_⟩
       rintro D ⟨⟩ a z S F
       refine ⟨by kernel_rfl, ?_⟩
       exact op_load _ _ Ae (j * 8 + 3) (.int .u64 ed.c1) F rfl (by kernel_rfl) (by kernel_rfl) (cOld S 0 edC_len h.e rfl 3 hed rfl) (⟨(), rfl, (SameB.refl _ _ rfl), S⟩)
      refine ⟨?_, ?_⟩
      ·
       refine ⟨_, rfl, rfl, by kernel_rfl, ?_⟩
       rintro D ⟨⟩ a z S F
       refine ⟨by kernel_rfl, ?_⟩
       exact op_index _ 26 _ _ A X.length c i 1 .i64 F rfl (by kernel_rfl) (by kernel_rfl) (by kernel_rfl) (by kernel_rfl) (get_lt ha1) (row_some S 3 rfl (m := i) (get_lt ha1)) (⟨(), rfl, (SameB.refl _ _ rfl), S⟩)
      refine ⟨?_, ?_⟩
      ·
       refine ⟨_, rfl, rfl, by kernel_rfl, ?_⟩
       rintro D ⟨⟩ a z S F
       refine ⟨by kernel_rfl, ?_⟩
       exact op_load _ _ A (i * 1) (.int .u64 a1) F rfl (by kernel_rfl) (by kernel_rfl) (cRec S 3 iC_len_u64 rfl 0 ha1 rfl) (⟨(), rfl, (SameB.refl _ _ rfl), S⟩)
      refine ⟨?_, ?_⟩
      ·
       refine ⟨_, rfl, rfl, by kernel_rfl, ?_⟩
       rintro D ⟨⟩ a z S F
       refine ⟨by kernel_rfl, ?_⟩
       exact op_pure F (v0 := .bool (decide ((ed.c1 : Int) < (a1 : Int)))) (v := .bool true) (by kernel_rfl) (lssT ht23) ⟨(), rfl, (SameB.refl _ _ rfl), S⟩
      trivial
     ·
      rintro ⟨⟩ a z F S
      have F := F.sub (l := [(1, .slice An N.length cn), (2, .slice Am E.length cm), (4, .pointer (some ⟨b1, 0, none⟩)), (8, .pointer (some ⟨b2, 0, none⟩)), (10, .slice A X.length c), (15, .int .i64 (i : Nat)), (90, .bool true)]) ⟨by kernel_rfl, by kernel_rfl, by kernel_rfl, by kernel_rfl, by kernel_rfl, by kernel_rfl, by kernel_rfl, trivial⟩
      have S : Sat w z [rest w (· < w.heap.size), box b1 25 [.slice As x.spots.length cs, .slice Ae x.edges.length ce], box b2 45 [.slice none 0 0, .slice none 0 0, .slice none 0 0], row 26 1 (.slice A X.length c) X.length (X.flatMap iC_u64)] := S
      refine then_n ?_
      refine c_t F rfl ?_
      refine s_reg ?_
      refine l_pure 1 (fun L => (91, .agg #[.slice none 0 0, .slice none 0 0, .slice none 0 0]) :: L) F (by kernel_rfl) fun a F => ?_
      refine l_do F rfl rfl (op_storeB S 2 _ _ _ b2 0 (.agg #[.slice none 0 0, .slice none 0 0, .slice none 0 0]) F rfl rfl (by kernel_rfl) (by kernel_rfl) (by kernel_rfl) (by kernel_rfl) (by kernel_rfl) fun z S a F => ?_)
      refine l_pure 1 (fun L => (9, .bool false) :: L) F (by kernel_rfl) fun a F => ?_
      refine l_then ?_
      refine wp_ret ?_
      refine inb_r (then_r (then_r (inb_r (then_r (?_)))))
      exact fin F [.cell 8 45, .tmp 9] [.agg #[.slice none 0 0, .slice none 0 0, .slice none 0 0], .bool false] rfl ⟨⟨_, by kernel_rfl, resK S 2 (cs := [.slice none 0 0, .slice none 0 0, .slice none 0 0]) rfl (by kernel_rfl) (by kernel_rfl) (by simp)⟩, by kernel_rfl, trivial⟩ (.tuple #[.agg #[.slice none 0 0, .slice none 0 0, .slice none 0 0], .bool false]) rfl (.inl ⟨hf, rfl, S.below (i := 0) rfl⟩)
    ·
     skip
     refine region_gx (fun D => fun (_ : Unit) => [rest w (· < w.heap.size), box b1 25 [.slice As x.spots.length cs, .slice Ae x.edges.length ce], box b2 45 [.slice none 0 0, .slice none 0 0, .slice none 0 0], row 26 1 (.slice A X.length c) X.length (X.flatMap iC_u64)]) (fun (_ : Unit) => [.pointer (some ⟨b1, 1, none⟩), .slice Ae x.edges.length ce, .slice Am E.length cm, .int .i64 (i : Nat), ptrA Am (i * 1), .int .i64 (j : Nat), .agg #[.slice As x.spots.length cs, .slice Ae x.edges.length ce], .slice Am E.length cm, .int .i64 (i : Nat), ptrA Am (i * 1), .int .i64 (j : Nat), .slice An N.length cn, .int .i64 (i : Nat), ptrA An (i * 1), .int .i64 n, .int .i64 1, ptrA Ae (j * 8), ptrA Ae (j * 8 + 2), ptrA Ae (j * 8 + 3), .int .u64 ed.c1, .slice A X.length c, .int .i64 (i : Nat), ptrA A (i * 1), .int .u64 a1, .bool false]) [(1, [], [16, 17, 18, 19, 24]), (4, [], [5, 16, 17, 18, 19, 24]), (5, [4], [16, 17, 18, 19, 24]), (6, [], [15, 18, 19, 24]), (9, [], [10, 15, 18, 19, 24]), (10, [9], [15, 18, 19, 24]), (13, [], [14, 15, 18, 19, 24]), (14, [13], [15, 18, 19, 24]), (15, [6, 9, 10, 13, 14], [18, 19, 24]), (16, [1, 4, 5], [17, 18, 19, 24]), (17, [1, 4, 5, 16], [18, 19, 24]), (18, [1, 4, 5, 6, 9, 10, 13, 14, 15, 16, 17], [19, 24]), (19, [1, 4, 5, 6, 9, 10, 13, 14, 15, 16, 17, 18], [24]), (22, [], [23, 24]), (23, [22], [24]), (24, [1, 4, 5, 6, 9, 10, 13, 14, 15, 16, 17, 18, 19, 22, 23], [])] () rfl (by kernel_rfl) (by kernel_rfl) F S.drew ?_ ?_ ?_ ?_ ?_
     · rintro ⟨⟩; rfl
     · rintro ⟨⟩; kernel_rfl
     ·
      intro D D' x h
      cases x
      rfl
     ·
      refine ⟨?_, ?_⟩
      ·
       refine ⟨_, rfl, rfl, by kernel_rfl, ?_⟩
       rintro D ⟨⟩ a z S F
       refine ⟨by kernel_rfl, ?_⟩
       exact op_load _ _ (some ⟨b1, 0, none⟩) 1 (.slice Ae x.edges.length ce) F rfl (by kernel_rfl) (by kernel_rfl) (cBox S 1 rfl (j := 1) rfl) (⟨(), rfl, (SameB.refl _ _ rfl), S⟩)
      refine ⟨?_, ?_⟩
      ·
       refine ⟨_, rfl, rfl, by kernel_rfl, ?_⟩
       rintro D ⟨⟩ a z S F
       refine ⟨by kernel_rfl, ?_⟩
       exact op_index _ 3 _ _ Am E.length cm i 1 .i64 F rfl (by kernel_rfl) (by kernel_rfl) (by kernel_rfl) (by kernel_rfl) (get_lt he) (recs_some hE (m := i) (get_lt he)) (⟨(), rfl, (SameB.refl _ _ rfl), S⟩)
      refine ⟨?_, ?_⟩
      ·
       refine ⟨_, rfl, rfl, by kernel_rfl, ?_⟩
       rintro D ⟨⟩ a z S F
       refine ⟨by kernel_rfl, ?_⟩
       exact op_load _ _ Am (i * 1) (.int .i64 (j : Nat)) F rfl (by kernel_rfl) (by kernel_rfl) (cOld S 0 iC_len_i64 hE rfl 0 he rfl) (⟨(), rfl, (SameB.refl _ _ rfl), S⟩)
      refine ⟨?_, ?_⟩
      ·
       refine ⟨_, rfl, rfl, by kernel_rfl, ?_⟩
       rintro D ⟨⟩ a z S F
       refine ⟨by kernel_rfl, ?_⟩
       exact op_loadK _ _ (some ⟨b1, 0, none⟩) 0 [.slice As x.spots.length cs, .slice Ae x.edges.length ce] F rfl (by kernel_rfl) (by kernel_rfl) (by kernel_rfl) (by simp) (cBoxK S 1 rfl 0 (by kernel_rfl)) (⟨(), rfl, (SameB.refl _ _ rfl), S⟩)
      refine ⟨?_, ?_⟩
      ·
       refine ⟨_, rfl, rfl, by kernel_rfl, ?_⟩
       rintro D ⟨⟩ a z S F
       refine ⟨by kernel_rfl, ?_⟩
       exact op_index _ 3 _ _ Am E.length cm i 1 .i64 F rfl (by kernel_rfl) (by kernel_rfl) (by kernel_rfl) (by kernel_rfl) (get_lt he) (recs_some hE (m := i) (get_lt he)) (⟨(), rfl, (SameB.refl _ _ rfl), S⟩)
      refine ⟨?_, ?_⟩
      ·
       refine ⟨_, rfl, rfl, by kernel_rfl, ?_⟩
       rintro D ⟨⟩ a z S F
       refine ⟨by kernel_rfl, ?_⟩
       exact op_load _ _ Am (i * 1) (.int .i64 (j : Nat)) F rfl (by kernel_rfl) (by kernel_rfl) (cOld S 0 iC_len_i64 hE rfl 0 he rfl) (⟨(), rfl, (SameB.refl _ _ rfl), S⟩)
      refine ⟨?_, ?_⟩
      ·
       refine ⟨_, rfl, rfl, by kernel_rfl, ?_⟩
       rintro D ⟨⟩ a z S F
       refine ⟨by kernel_rfl, ?_⟩
       exact op_index _ 3 _ _ An N.length cn i 1 .i64 F rfl (by kernel_rfl) (by kernel_rfl) (by kernel_rfl) (by kernel_rfl) (get_lt hn) (recs_some hN (m := i) (get_lt hn)) (⟨(), rfl, (SameB.refl _ _ rfl), S⟩)
      refine ⟨?_, ?_⟩
      ·
       refine ⟨_, rfl, rfl, by kernel_rfl, ?_⟩
       rintro D ⟨⟩ a z S F
       refine ⟨by kernel_rfl, ?_⟩
       exact op_load _ _ An (i * 1) (.int .i64 n) F rfl (by kernel_rfl) (by kernel_rfl) (cOld S 0 iC_len_i64 hN rfl 0 hn rfl) (⟨(), rfl, (SameB.refl _ _ rfl), S⟩)
      refine ⟨?_, ?_⟩
      ·
       refine ⟨_, rfl, rfl, by kernel_rfl, ?_⟩
       rintro D ⟨⟩ a z S F
       refine ⟨by kernel_rfl, ?_⟩
       refine op_fn F (by kernel_rfl) (rside_at _ As cs Ae ce x (h.move S rfl) ok j ed hed n _ hs (by decide)) ?_
       rintro e z ⟨rfl, hb⟩
       have S := S.grow hb
       exact ⟨_, rfl, (), rfl, (SameB.refl _ _ rfl), S⟩
      refine ⟨?_, ?_⟩
      ·
       refine ⟨_, rfl, rfl, by kernel_rfl, ?_⟩
       rintro D ⟨⟩ a z S F
       refine ⟨by kernel_rfl, ?_⟩
       exact op_index _ 104 _ _ Ae x.edges.length ce j 8 .i64 F rfl (by kernel_rfl) (by kernel_rfl) (by kernel_rfl) (by kernel_rfl) (get_lt hed) (recs_some h.e (m := j) (get_lt hed)) (⟨(), rfl, (SameB.refl _ _ rfl), S⟩)
      refine ⟨?_, ?_⟩
      ·
       refine ⟨_, rfl, rfl, by kernel_rfl, ?_⟩
       rintro D ⟨⟩ a z S F
       refine ⟨by kernel_rfl, ?_⟩
       exact op_field _ _ _ Ae (j * 8) 2 F rfl (by kernel_rfl) (by kernel_rfl) (recs_some h.e (m := j) (get_lt hed)) (⟨(), rfl, (SameB.refl _ _ rfl), S⟩)
      refine ⟨?_, ?_⟩
      ·
       refine ⟨_, rfl, rfl, by kernel_rfl, ?_⟩
       rintro D ⟨⟩ a z S F
       refine ⟨by kernel_rfl, ?_⟩
       exact op_indexArr _ 26 _ _ Ae (j * 8 + 2) 2 1 1 .i64 F rfl (by kernel_rfl) (by kernel_rfl) (by kernel_rfl) (by kernel_rfl) (by decide) (recs_some h.e (m := j) (get_lt hed)) (⟨(), rfl, (SameB.refl _ _ rfl), S⟩)
      refine ⟨?_, ?_⟩
      ·
       refine ⟨_, rfl, rfl, by kernel_rfl, ?_⟩
       rintro D ⟨⟩ a z S F
       refine ⟨by kernel_rfl, ?_⟩
       exact op_load _ _ Ae (j * 8 + 3) (.int .u64 ed.c1) F rfl (by kernel_rfl) (by kernel_rfl) (cOld S 0 edC_len h.e rfl 3 hed rfl) (⟨(), rfl, (SameB.refl _ _ rfl), S⟩)
      refine ⟨?_, ?_⟩
      ·
       refine ⟨_, rfl, rfl, by kernel_rfl, ?_⟩
       rintro D ⟨⟩ a z S F
       refine ⟨by kernel_rfl, ?_⟩
       exact op_index _ 26 _ _ A X.length c i 1 .i64 F rfl (by kernel_rfl) (by kernel_rfl) (by kernel_rfl) (by kernel_rfl) (get_lt ha1) (row_some S 3 rfl (m := i) (get_lt ha1)) (⟨(), rfl, (SameB.refl _ _ rfl), S⟩)
      refine ⟨?_, ?_⟩
      ·
       refine ⟨_, rfl, rfl, by kernel_rfl, ?_⟩
       rintro D ⟨⟩ a z S F
       refine ⟨by kernel_rfl, ?_⟩
       exact op_load _ _ A (i * 1) (.int .u64 a1) F rfl (by kernel_rfl) (by kernel_rfl) (cRec S 3 iC_len_u64 rfl 0 ha1 rfl) (⟨(), rfl, (SameB.refl _ _ rfl), S⟩)
      refine ⟨?_, ?_⟩
      ·
       refine ⟨_, rfl, rfl, by kernel_rfl, ?_⟩
       rintro D ⟨⟩ a z S F
       refine ⟨by kernel_rfl, ?_⟩
       exact op_pure F (v0 := .bool (decide ((ed.c1 : Int) < (a1 : Int)))) (v := .bool false) (by kernel_rfl) (lssF ht23) ⟨(), rfl, (SameB.refl _ _ rfl), S⟩
      trivial
     ·
      rintro ⟨⟩ a z F S
      have F := F.sub (l := [(1, .slice An N.length cn), (2, .slice Am E.length cm), (4, .pointer (some ⟨b1, 0, none⟩)), (8, .pointer (some ⟨b2, 0, none⟩)), (10, .slice A X.length c), (15, .int .i64 (i : Nat)), (90, .bool false)]) ⟨by kernel_rfl, by kernel_rfl, by kernel_rfl, by kernel_rfl, by kernel_rfl, by kernel_rfl, by kernel_rfl, trivial⟩
      have S : Sat w z [rest w (· < w.heap.size), box b1 25 [.slice As x.spots.length cs, .slice Ae x.edges.length ce], box b2 45 [.slice none 0 0, .slice none 0 0, .slice none 0 0], row 26 1 (.slice A X.length c) X.length (X.flatMap iC_u64)] := S
      refine then_n ?_
      refine c_f F rfl ?_
      refine wp_skip ?_
      refine inb_n ?_
      refine then_n ?_
      refine wp_region_list ?_
      refine l_pure 1 (fun L => (64, .int .i64 (i : Nat)) :: L) F (by kernel_rfl) fun a F => ?_
      refine l_do F rfl rfl (op_pure F (v0 := .int .i64 (IntKind.wrap .i64 ((i : Nat) + 1))) (v := .int .i64 (i + 1 : Nat)) (by kernel_rfl) (wrn_i64 (by omega) (by omega) (by omega)) fun a F => ?_)
      refine l_pure 1 (fun L => (15, .int .i64 (i + 1 : Nat)) :: L) F (by kernel_rfl) fun a F => ?_
      refine l_then ?_
      exact ⟨_, (by omega), i + 1, rfl, (by omega), (hC.next hn he ha1 (by rw [can_at1 hed hs]; omega)), F.sub ⟨by kernel_rfl, by kernel_rfl, by kernel_rfl, by kernel_rfl, by kernel_rfl, by kernel_rfl, trivial⟩, S⟩
   · exact absurd hsd (by rw [hs]; decide)
  ·
   skip
   refine l_do F rfl rfl (op_pure F (v0 := .bool (decide (((i : Nat) : Int) < ((E.length : Nat) : Int)))) (v := .bool false) (by kernel_rfl) (lssF ht21) fun a F => ?_)
   refine l_then ?_
   refine c_f F rfl ?_
   refine wp_exit ?_
   refine then_x ?_
   refine then_x ?_
   refine inb_x ?_
   refine then_n ?_
   refine s_reg ?_
   refine l_do F rfl rfl (op_buildSlice S _ 0 _ 3 1 iC_i64 ([] : List Int) F rfl (by kernel_rfl) (by kernel_rfl) (by kernel_rfl) (by unfold maxLen; omega) fun b24 z S a F => ?_)
   refine l_pure 1 (fun L => (93, .slice An N.length cn) :: L) F (by kernel_rfl) fun a F => ?_
   refine l_do F rfl rfl (op_append S 4 _ _ _ 3 (.int .i64 0) 1 8 ([] : List Int) N iC_i64 An cn F iC_len_i64 (fun _ => rfl) rfl rfl (by kernel_rfl) (by kernel_rfl) rfl rfl rfl (by kernel_rfl) (by kernel_rfl) hN.none_ (src_rest S (i := 0) rfl hN.src (src_lt hN.src)) (by first | omega | (simp <;> omega)) fun A25 c26 z S a F => ?_)
   refine l_do F rfl rfl (op_buildSlice S _ 0 _ 3 1 iC_i64 ([] : List Int) F rfl (by kernel_rfl) (by kernel_rfl) (by kernel_rfl) (by unfold maxLen; omega) fun b27 z S a F => ?_)
   refine l_pure 1 (fun L => (96, .slice Am E.length cm) :: L) F (by kernel_rfl) fun a F => ?_
   refine l_do F rfl rfl (op_append S 5 _ _ _ 3 (.int .i64 0) 1 8 ([] : List Int) E iC_i64 Am cm F iC_len_i64 (fun _ => rfl) rfl rfl (by kernel_rfl) (by kernel_rfl) rfl rfl rfl (by kernel_rfl) (by kernel_rfl) hE.none_ (src_rest S (i := 0) rfl hE.src (src_lt hE.src)) (by first | omega | (simp <;> omega)) fun A28 c29 z S a F => ?_)
   refine l_pure 2 (fun L => (99, .agg #[.slice A25 ((([] : List Int) ++ N).length) c26, .slice A28 ((([] : List Int) ++ E).length) c29, .slice A X.length c]) :: (98, .slice A X.length c) :: L) F (by kernel_rfl) fun a F => ?_
   refine l_do F rfl rfl (op_storeB S 2 _ _ _ b2 0 (.agg #[.slice A25 ((([] : List Int) ++ N).length) c26, .slice A28 ((([] : List Int) ++ E).length) c29, .slice A X.length c]) F rfl rfl (by kernel_rfl) (by kernel_rfl) (by kernel_rfl) (by kernel_rfl) (by kernel_rfl) fun z S a F => ?_)
   refine l_pure 1 (fun L => (9, .bool true) :: L) F (by kernel_rfl) fun a F => ?_
   refine l_then ?_
   refine wp_ret ?_
   have hf : fillP x N E am = some ⟨N, E, X⟩ := by
     have h9 := hC.all (by omega)
     rw [hX] at h9 ⊢
     exact fill_some h0 h9
   exact fin F [.cell 8 45, .tmp 9] [.agg #[.slice A25 ((([] : List Int) ++ N).length) c26, .slice A28 ((([] : List Int) ++ E).length) c29, .slice A X.length c], .bool true] rfl ⟨⟨_, by kernel_rfl, resK S 2 (cs := [.slice A25 ((([] : List Int) ++ N).length) c26, .slice A28 ((([] : List Int) ++ E).length) c29, .slice A X.length c]) rfl (by kernel_rfl) (by kernel_rfl) (by simp)⟩, by kernel_rfl, trivial⟩ (.tuple #[.agg #[.slice A25 ((([] : List Int) ++ N).length) c26, .slice A28 ((([] : List Int) ++ E).length) c29, .slice A X.length c], .bool true]) rfl (.inr ⟨⟨N, E, X⟩, hf, _, _, _, _, _, _, rfl, S.pick [0, 4, 5, 3] (by decide)⟩)
theorem rfill_got (w : World) (As : Option Addr) (cs : Nat) (Ae : Option Addr) (ce : Nat) (x : Wb) (h : WebAt w As cs Ae ce x) (ok : x.Ok) (An : Option Addr) (cn : Nat) (N : List Int) (hN : Recs 1 iC_i64 w An cn N) (Am : Option Addr) (cm : Nat) (E : List Int) (hE : Recs 1 iC_i64 w Am cm E) (am : Int) (hua : U64 am) (hw : WayOk x N E) (hl : E.length ≤ 7) (hl1 : 1 ≤ E.length) {r : Rt} (hf : fillP x N E am = some r) : Calls Try.prog 74 #[.agg #[.slice As x.spots.length cs, .slice Ae x.edges.length ce], .slice An N.length cn, .slice Am E.length cm, .int .u64 am] w fun e w' => ∃ A1 c1 A2 c2 A3 c3, e = .returned (.tuple #[.agg #[.slice A1 r.nodes.length c1, .slice A2 r.edges.length c2, .slice A3 r.amts.length c3], .bool true]) ∧ Sat w w' [rest w (· < w.heap.size), row 3 1 (.slice A1 r.nodes.length c1) r.nodes.length (r.nodes.flatMap iC_i64), row 3 1 (.slice A2 r.edges.length c2) r.edges.length (r.edges.flatMap iC_i64), row 26 1 (.slice A3 r.amts.length c3) r.amts.length (r.amts.flatMap iC_u64)] := (rfill_any w As cs Ae ce x h ok An cn N hN Am cm E hE am hua hw hl hl1).mono fun e w' h9 => by
  rcases h9 with ⟨h1, _⟩ | ⟨r2, h1, h2⟩
  · rw [hf] at h1; cases h1
  · rw [hf] at h1; cases h1; exact h2
theorem rfill_not (w : World) (As : Option Addr) (cs : Nat) (Ae : Option Addr) (ce : Nat) (x : Wb) (h : WebAt w As cs Ae ce x) (ok : x.Ok) (An : Option Addr) (cn : Nat) (N : List Int) (hN : Recs 1 iC_i64 w An cn N) (Am : Option Addr) (cm : Nat) (E : List Int) (hE : Recs 1 iC_i64 w Am cm E) (am : Int) (hua : U64 am) (hw : WayOk x N E) (hl : E.length ≤ 7) (hl1 : 1 ≤ E.length) (hf : fillP x N E am = none) : Calls Try.prog 74 #[.agg #[.slice As x.spots.length cs, .slice Ae x.edges.length ce], .slice An N.length cn, .slice Am E.length cm, .int .u64 am] w fun e w' => e = .returned (.tuple #[.agg #[.slice none 0 0, .slice none 0 0, .slice none 0 0], .bool false]) ∧ Below w.heap.size w w' := (rfill_any w As cs Ae ce x h ok An cn N hN Am cm E hE am hua hw hl hl1).mono fun e w' h9 => by
  rcases h9 with ⟨_, h1⟩ | ⟨r2, h1, h2⟩
  · exact h1
  · rw [hf] at h1; cases h1
end Go.Proofs.Ytcfpbemoocegfaa
