/- Walks over webs: to which nodes a way leads. -/
import Derived.Test.YtcfpbemoocegfaaSteps
import Derived.Test.YtcfpbemoocegfaaReachP
import Derived.Test.YtcfpbemoocegfaaSort07
namespace Go.Proofs.Ytcfpbemoocegfaa
set_option linter.unusedVariables false
set_option linter.unusedSimpArgs false
set_option linter.unnecessarySimpa false
open Go Go.RowKit

theorem side_at {e : Edg} {n v : Int} (hs : sideP e n = v) (w : World) : Calls Try.prog 25 #[.agg #[.int .i64 e.a, .int .i64 e.b, .int .u64 e.c0, .int .u64 e.c1, .int .u64 e.b0, .int .u64 e.r0, .int .u64 e.b1, .int .u64 e.r1], .int .i64 n] w fun e w' => e = .returned (.int .i64 v) ∧ Below w.heap.size w w' := hs ▸ side_any w e.a e.b e.c0 e.c1 e.b0 e.r0 e.b1 e.r1 n
theorem recs_below {α : Type} {k : Nat} {f : α → List Value} {w w' : World} {l : List Asn} (S : Sat w w' l) (hi : l[0]? = some (rest w (· < w.heap.size))) {A : Option Addr} {c : Nat} {X : List α} (h : Recs k f w A c X) : Recs k f w' A c X := h.mono (src_rest S hi h.src (src_lt h.src))
theorem steps_few (x : Wb) (n : Int) : (stepsP x n).length ≤ 16 := by
  unfold stepsP
  split
  · rename_i h
    have := stepsF_len n x.edges 0
    have := (chk_zero h).2.1
    omega
  · simp
set_option maxRecDepth 100000 in
set_option maxHeartbeats 4000000 in
theorem reach_any (w : World) (As : Option Addr) (cs : Nat) (Ae : Option Addr) (ce : Nat) (x : Wb) (h : WebAt w As cs Ae ce x) (ok : x.Ok) (n am : Int) : Calls Try.prog 45 #[.agg #[.slice As x.spots.length cs, .slice Ae x.edges.length ce], .int .i64 n, .int .u64 am] w fun e w' => ∃ A' c', e = .returned (.slice A' (reachP x n am).length c') ∧ Sat w w' [rest w (· < w.heap.size), row 3 1 (.slice A' (reachP x n am).length c') (reachP x n am).length ((reachP x n am).flatMap iC_i64)] := by
 refine enter 64 Try.func45 rfl rfl rfl fun a F => ?_
 have S := Sat.pushRest w
 refine s_reg ?_
 refine l_do F rfl rfl (op_box S _ _ (.agg #[.slice As x.spots.length cs, .slice Ae x.edges.length ce]) F rfl (by kernel_rfl) fun b1 z S a F => ?_)
 refine l_pure 1 (fun L => (6, .slice none 0 0) :: L) F (by kernel_rfl) fun a F => ?_
 refine l_then ?_
 refine wp_seq ?_
 refine s_reg ?_
 refine l_do F rfl rfl (op_loadK _ _ (some ⟨b1, 0, none⟩) 0 [.slice As x.spots.length cs, .slice Ae x.edges.length ce] F rfl (by kernel_rfl) (by kernel_rfl) (by kernel_rfl) (by simp) (cBoxK S 1 rfl 0 (by kernel_rfl)) (fun a F => ?_))
 refine l_do F rfl rfl (op_fn F (by kernel_rfl) (check_any _ As cs Ae ce x (h.move S rfl) ok) ?_)
 rintro e z ⟨rfl, hb⟩
 have S := S.grow hb
 refine ⟨_, rfl, ?_⟩
 intro a F
 by_cases ht2 : (chkP x : Int) = (0 : Int)
 ·
  skip
  refine l_do F rfl rfl (op_pure F (v0 := .bool ((chkP x : Int) != (0 : Int))) (v := .bool false) (by kernel_rfl) (neqF ht2) fun a F => ?_)
  refine l_pure 2 (fun L => (15, .int .i64 n) :: (14, .bool false) :: L) F (by kernel_rfl) fun a F => ?_
  by_cases ht3 : (n : Int) < (0 : Int)
  ·
   skip
   refine l_do F rfl rfl (op_pure F (v0 := .bool (decide ((n : Int) < (0 : Int)))) (v := .bool true) (by kernel_rfl) (lssT ht3) fun a F => ?_)
   refine l_pure 8 (fun L => (24, .bool true) :: (23, undef) :: (22, undef) :: (21, undef) :: (20, undef) :: (19, undef) :: (18, .bool true) :: (17, .bool true) :: L) F (by kernel_rfl) fun a F => ?_
   refine l_then ?_
   refine c_t F rfl ?_
   refine s_reg ?_
   refine l_pure 1 (fun L => (6, .slice none 0 0) :: L) F (by kernel_rfl) fun a F => ?_
   refine l_then ?_
   refine wp_ret ?_
   refine then_r (?_)
   have hz := reach_none (x := x) (n := n) (am := am) (fun hi => by obtain ⟨i1, i2, i3⟩ := hi; first | exact absurd i1 ‹_› | omega)
   have S := S.nilRow 3 1
   exact fin F [.tmp 6] [.slice none 0 0] rfl ⟨by kernel_rfl, trivial⟩ (.slice none 0 0) rfl ⟨none, 0, ret_sl (by rw [hz]; rfl) rfl, by rw [hz]; exact S.pick [0, 2] (by decide)⟩
  ·
   skip
   refine l_do F rfl rfl (op_pure F (v0 := .bool (decide ((n : Int) < (0 : Int)))) (v := .bool false) (by kernel_rfl) (lssF ht3) fun a F => ?_)
   refine l_pure 4 (fun L => (20, .pointer (some ⟨b1, 0, none⟩)) :: (19, .int .i64 n) :: (18, .bool false) :: (17, .bool false) :: L) F (by kernel_rfl) fun a F => ?_
   refine l_do F rfl rfl (op_load _ _ (some ⟨b1, 0, none⟩) 0 (.slice As x.spots.length cs) F rfl (by kernel_rfl) (by kernel_rfl) (cBox S 1 rfl (j := 0) rfl) (fun a F => ?_))
   refine l_pure 1 (fun L => (22, .int .i64 (x.spots.length : Nat)) :: L) F (by kernel_rfl) fun a F => ?_
   by_cases ht4 : ((x.spots.length : Nat) : Int) ≤ (n : Int)
   ·
    skip
    refine l_do F rfl rfl (op_pure F (v0 := .bool (decide ((n : Int) ≥ ((x.spots.length : Nat) : Int)))) (v := .bool true) (by kernel_rfl) (geqT ht4) fun a F => ?_)
    refine l_pure 1 (fun L => (24, .bool true) :: L) F (by kernel_rfl) fun a F => ?_
    refine l_then ?_
    refine c_t F rfl ?_
    refine s_reg ?_
    refine l_pure 1 (fun L => (6, .slice none 0 0) :: L) F (by kernel_rfl) fun a F => ?_
    refine l_then ?_
    refine wp_ret ?_
    refine then_r (?_)
    have hz := reach_none (x := x) (n := n) (am := am) (fun hi => by obtain ⟨i1, i2, i3⟩ := hi; first | exact absurd i1 ‹_› | omega)
    have S := S.nilRow 3 1
    exact fin F [.tmp 6] [.slice none 0 0] rfl ⟨by kernel_rfl, trivial⟩ (.slice none 0 0) rfl ⟨none, 0, ret_sl (by rw [hz]; rfl) rfl, by rw [hz]; exact S.pick [0, 2] (by decide)⟩
   ·
    skip
    have hn : inWeb x n := ⟨ht2, by omega, by omega⟩
    refine l_do F rfl rfl (op_pure F (v0 := .bool (decide ((n : Int) ≥ ((x.spots.length : Nat) : Int)))) (v := .bool false) (by kernel_rfl) (geqF ht4) fun a F => ?_)
    refine l_pure 1 (fun L => (24, .bool false) :: L) F (by kernel_rfl) fun a F => ?_
    refine l_then ?_
    refine c_f F rfl ?_
    refine wp_skip ?_
    refine then_n ?_
    refine s_reg ?_
    refine l_pure 1 (fun L => (25, .int .i64 n) :: L) F (by kernel_rfl) fun a F => ?_
    refine l_do F rfl rfl (op_buildSlice S _ 1 _ 3 1 iC_i64 ([n] : List Int) F rfl (by kernel_rfl) (by kernel_rfl) (by kernel_rfl) (by unfold maxLen; omega) fun b5 z S a F => ?_)
    refine l_pure 1 (fun L => (7, .slice (some ⟨b5, 0, none⟩) 1 1) :: L) F (by kernel_rfl) fun a F => ?_
    refine l_then ?_
    refine wp_seq ?_
    refine s_reg ?_
    refine l_pure 1 (fun L => (8, .int .i64 0) :: L) F (by kernel_rfl) fun a F => ?_
    refine l_then ?_
    refine wp_block ?_
    refine wp_loop_m (fun m a z => ∃ (i : Nat) (X : List Int) (A : Option Addr) (c : Nat), m = 8 - i ∧ (i ≤ X.length) ∧ (BInv x am n X i) ∧ Fr a 64 [(2, .int .u64 am), (3, .pointer (some ⟨b1, 0, none⟩)), (7, .slice A X.length c), (8, .int .i64 (i : Nat))] ∧ Sat w z [rest w (· < w.heap.size), box b1 32 [.slice As x.spots.length cs, .slice Ae x.edges.length ce], row 3 1 (.slice A X.length c) X.length (X.flatMap iC_i64)]) _ ⟨0, [n], (some ⟨b5, 0, none⟩), 1, rfl, Nat.zero_le _, (BInv.start x am n), F.sub ⟨by kernel_rfl, by kernel_rfl, by kernel_rfl, by kernel_rfl, trivial⟩, S⟩ ?_
    rintro m a z ⟨i, X, A, c, hm, hf6, hf7, F, S⟩
    have hB := hf7
    refine wp_seq ?_
    refine s_reg ?_
    refine l_pure 3 (fun L => (29, .int .i64 (X.length : Nat)) :: (28, .slice A X.length c) :: (27, .int .i64 (i : Nat)) :: L) F (by kernel_rfl) fun a F => ?_
    by_cases ht8 : ((i : Nat) : Int) < ((X.length : Nat) : Int)
    ·
     skip
     obtain ⟨nd, hnd⟩ : ∃ nd, X[i]? = some nd := ⟨_, List.getElem?_eq_getElem (by omega)⟩
     have hbl := hB.len hn
     refine l_do F rfl rfl (op_pure F (v0 := .bool (decide (((i : Nat) : Int) < ((X.length : Nat) : Int)))) (v := .bool true) (by kernel_rfl) (lssT ht8) fun a F => ?_)
     refine l_then ?_
     refine c_t F rfl ?_
     refine wp_skip ?_
     refine then_n ?_
     refine wp_seq ?_
     refine wp_block ?_
     refine wp_seq ?_
     have S := S.pushEmp
     refine region_gx (fun D => fun ((A9, c10) : Option Addr × Nat) => [rest w (· < w.heap.size), box b1 32 [.slice As x.spots.length cs, .slice Ae x.edges.length ce], row 3 1 (.slice A X.length c) X.length (X.flatMap iC_i64), bif D 5 then row 133 5 (.slice A9 ((stepsP x nd).length) c10) ((stepsP x nd).length) ((stepsP x nd).flatMap stC) else emp]) (fun ((A9, c10) : Option Addr × Nat) => [.agg #[.slice As x.spots.length cs, .slice Ae x.edges.length ce], .slice A X.length c, .int .i64 (i : Nat), ptrA A (i * 1), .int .i64 nd, .slice A9 ((stepsP x nd).length) c10, .int .i64 ((stepsP x nd).length : Nat), .int .i64 0]) [(0, [], [5]), (3, [], [4, 5]), (4, [3], [5]), (5, [0, 3, 4], [])] (none, 0) rfl (by kernel_rfl) (by kernel_rfl) F S.drew ?_ ?_ ?_ ?_ ?_
     · rintro ⟨A9, c10⟩; rfl
     · rintro ⟨A9, c10⟩; kernel_rfl
     ·
      intro D D' x h
      obtain ⟨A9, c10⟩ := x
      simp only [h 5 (by decide)]
     ·
      refine ⟨?_, ?_⟩
      ·
       refine ⟨_, rfl, rfl, by kernel_rfl, ?_⟩
       rintro D ⟨A9, c10⟩ a z S F
       refine ⟨by kernel_rfl, ?_⟩
       exact op_loadK _ _ (some ⟨b1, 0, none⟩) 0 [.slice As x.spots.length cs, .slice Ae x.edges.length ce] F rfl (by kernel_rfl) (by kernel_rfl) (by kernel_rfl) (by simp) (cBoxK S 1 rfl 0 (by kernel_rfl)) (⟨(A9, c10), rfl, (SameB.refl _ _ rfl), S⟩)
      refine ⟨?_, ?_⟩
      ·
       refine ⟨_, rfl, rfl, by kernel_rfl, ?_⟩
       rintro D ⟨A9, c10⟩ a z S F
       refine ⟨by kernel_rfl, ?_⟩
       exact op_index _ 3 _ _ A X.length c i 1 .i64 F rfl (by kernel_rfl) (by kernel_rfl) (by kernel_rfl) (by kernel_rfl) (get_lt hnd) (row_some S 2 rfl (m := i) (get_lt hnd)) (⟨(A9, c10), rfl, (SameB.refl _ _ rfl), S⟩)
      refine ⟨?_, ?_⟩
      ·
       refine ⟨_, rfl, rfl, by kernel_rfl, ?_⟩
       rintro D ⟨A9, c10⟩ a z S F
       refine ⟨by kernel_rfl, ?_⟩
       exact op_load _ _ A (i * 1) (.int .i64 nd) F rfl (by kernel_rfl) (by kernel_rfl) (cRec S 2 iC_len_i64 rfl 0 hnd rfl) (⟨(A9, c10), rfl, (SameB.refl _ _ rfl), S⟩)
      refine ⟨?_, ?_⟩
      ·
       refine ⟨_, rfl, rfl, by kernel_rfl, ?_⟩
       rintro D ⟨A9, c10⟩ a z S F
       refine ⟨by kernel_rfl, ?_⟩
       refine op_fn F (by kernel_rfl) (steps_any _ As cs Ae ce x (h.move S rfl) ok nd) ?_
       rintro e z ⟨y11, y12, rfl, g⟩
       have S := S.fillThing 3 rfl g
       exact ⟨_, rfl, (y11, y12), rfl, ⟨rfl, rfl, rfl, rfl, rfl, trivial, trivial, rfl, trivial⟩, S⟩
      trivial
     ·
      rintro ⟨A9, c10⟩ a z F S
      have F := F.sub (l := [(2, .int .u64 am), (3, .pointer (some ⟨b1, 0, none⟩)), (7, .slice A X.length c), (8, .int .i64 (i : Nat)), (38, .slice A9 ((stepsP x nd).length) c10), (39, .int .i64 ((stepsP x nd).length : Nat)), (40, .int .i64 0)]) ⟨by kernel_rfl, by kernel_rfl, by kernel_rfl, by kernel_rfl, by kernel_rfl, by kernel_rfl, by kernel_rfl, trivial⟩
      have S : Sat w z [rest w (· < w.heap.size), box b1 32 [.slice As x.spots.length cs, .slice Ae x.edges.length ce], row 3 1 (.slice A X.length c) X.length (X.flatMap iC_i64), row 133 5 (.slice A9 ((stepsP x nd).length) c10) ((stepsP x nd).length) ((stepsP x nd).flatMap stC)] := S
      refine then_n ?_
      refine wp_block ?_
      have hfew := steps_few x nd
      refine wp_loop_m (fun m a z => ∃ (j : Nat) (X : List Int) (A : Option Addr) (c : Nat), m = (stepsP x nd).length - j ∧ (j ≤ (stepsP x nd).length) ∧ (X[i]? = some nd) ∧ (BInv x am n X i) ∧ (∀ t ∈ (stepsP x nd).take j, am ≤ t.can → t.to ∈ X) ∧ Fr a 64 [(2, .int .u64 am), (3, .pointer (some ⟨b1, 0, none⟩)), (7, .slice A X.length c), (8, .int .i64 (i : Nat)), (38, .slice A9 ((stepsP x nd).length) c10), (39, .int .i64 ((stepsP x nd).length : Nat)), (40, .int .i64 (j : Nat))] ∧ Sat w z [rest w (· < w.heap.size), box b1 32 [.slice As x.spots.length cs, .slice Ae x.edges.length ce], row 3 1 (.slice A X.length c) X.length (X.flatMap iC_i64), row 133 5 (.slice A9 ((stepsP x nd).length) c10) ((stepsP x nd).length) ((stepsP x nd).flatMap stC)]) _ ⟨0, X, A, c, rfl, Nat.zero_le _, hnd, hB, (fun t ht => by simp at ht), F.sub ⟨by kernel_rfl, by kernel_rfl, by kernel_rfl, by kernel_rfl, by kernel_rfl, by kernel_rfl, by kernel_rfl, trivial⟩, S⟩ ?_
      rintro m a z ⟨j, X, A, c, hm, hf15, hf16, hf17, hf18, F, S⟩
      have hnd := hf16
      have hB := hf17
      have hj := hf18
      refine s_reg ?_
      by_cases ht19 : ((j : Nat) : Int) < (((stepsP x nd).length : Nat) : Int)
      ·
       skip
       obtain ⟨s, hs⟩ : ∃ s, (stepsP x nd)[j]? = some s := ⟨_, List.getElem?_eq_getElem (by omega)⟩
       have hbl := hB.len hn
       refine l_do F rfl rfl (op_pure F (v0 := .bool (decide (((j : Nat) : Int) < (((stepsP x nd).length : Nat) : Int)))) (v := .bool true) (by kernel_rfl) (lssT ht19) fun a F => ?_)
       refine l_then ?_
       refine wp_seq ?_
       refine c_t F rfl ?_
       refine wp_skip ?_
       refine then_n ?_
       refine wp_seq ?_
       refine wp_block ?_
       refine s_reg ?_
       refine l_do F rfl rfl (op_index _ 133 _ _ A9 ((stepsP x nd).length) c10 j 5 .i64 F rfl (by kernel_rfl) (by kernel_rfl) (by kernel_rfl) (by kernel_rfl) (get_lt hs) (row_some S 3 rfl (m := j) (get_lt hs)) (fun a F => ?_))
       refine l_do F rfl rfl (op_loadK _ _ A9 (j * 5) [.int .i64 s.edge, .int .i64 s.to, .int .u64 s.can, .int .u64 s.base, .int .u64 s.rate] F rfl (by kernel_rfl) (by kernel_rfl) (by kernel_rfl) (by simp) (cRecK0 S 3 stC_len rfl hs (by kernel_rfl)) (fun a F => ?_))
       refine l_do F rfl rfl (op_alloc S _ (.agg #[.int .i64 0, .int .i64 0, .int .u64 0, .int .u64 0, .int .u64 0]) rfl (by kernel_rfl) fun b20 z S a F => ?_)
       refine l_do F rfl rfl (op_storeB S 4 _ _ _ b20 0 (.agg #[.int .i64 s.edge, .int .i64 s.to, .int .u64 s.can, .int .u64 s.base, .int .u64 s.rate]) F rfl rfl (by kernel_rfl) (by kernel_rfl) (by kernel_rfl) (by kernel_rfl) (by kernel_rfl) fun z S a F => ?_)
       refine l_then ?_
       refine s_reg ?_
       refine l_pure 1 (fun L => (44, .pointer (some ⟨b20, 2, none⟩)) :: L) F (by kernel_rfl) fun a F => ?_
       refine l_do F rfl rfl (op_load _ _ (some ⟨b20, 0, none⟩) 2 (.int .u64 s.can) F rfl (by kernel_rfl) (by kernel_rfl) (cBox S 4 rfl (j := 2) rfl) (fun a F => ?_))
       refine l_pure 1 (fun L => (46, .int .u64 am) :: L) F (by kernel_rfl) fun a F => ?_
       by_cases ht21 : (am : Int) ≤ (s.can : Int)
       ·
        skip
        refine l_do F rfl rfl (op_pure F (v0 := .bool (decide ((s.can : Int) ≥ (am : Int)))) (v := .bool true) (by kernel_rfl) (geqT ht21) fun a F => ?_)
        refine l_pure 3 (fun L => (50, .pointer (some ⟨b20, 1, none⟩)) :: (49, .slice A X.length c) :: (48, .bool true) :: L) F (by kernel_rfl) fun a F => ?_
        refine l_do F rfl rfl (op_load _ _ (some ⟨b20, 0, none⟩) 1 (.int .i64 s.to) F rfl (by kernel_rfl) (by kernel_rfl) (cBox S 4 rfl (j := 1) rfl) (fun a F => ?_))
        cases hb22 : (decide (s.to ∈ X)) with
        | false =>
         refine l_do F rfl rfl (op_fn F (by kernel_rfl) (contains_any _ A c X s.to (Recs.ofRow (S.rowOf (i := 2) rfl) (by omega)) (by omega)) ?_)
         rintro e z ⟨rfl, hb⟩
         have S := S.grow hb
         refine ⟨_, rfl, ?_⟩
         rw [hb22]
         intro a F
         refine l_pure 2 (fun L => (54, .bool true) :: (53, .bool true) :: L) F (by kernel_rfl) fun a F => ?_
         refine l_then ?_
         refine c_t F rfl ?_
         refine wp_region_list ?_
         refine l_pure 2 (fun L => (56, .pointer (some ⟨b20, 1, none⟩)) :: (55, .slice A X.length c) :: L) F (by kernel_rfl) fun a F => ?_
         refine l_do F rfl rfl (op_load _ _ (some ⟨b20, 0, none⟩) 1 (.int .i64 s.to) F rfl (by kernel_rfl) (by kernel_rfl) (cBox S 4 rfl (j := 1) rfl) (fun a F => ?_))
         refine l_do F rfl rfl (op_buildSlice S _ 1 _ 3 1 iC_i64 ([s.to] : List Int) F rfl (by kernel_rfl) (by kernel_rfl) (by kernel_rfl) (by unfold maxLen; omega) fun b23 z S a F => ?_)
         refine l_do F rfl rfl (op_append S 2 _ _ _ 3 (.int .i64 0) 1 8 X ([s.to] : List Int) iC_i64 (some ⟨b23, 0, none⟩) 1 F iC_len_i64 (fun _ => rfl) rfl rfl (by kernel_rfl) (by kernel_rfl) rfl rfl rfl (by kernel_rfl) (by kernel_rfl) (row_none (S.rowOf (i := 5) rfl)) (src_row (S.rowOf (i := 5) rfl)) (by first | omega | (simp <;> omega)) fun A24 c25 z S a F => ?_)
         refine l_pure 1 (fun L => (7, .slice A24 ((X ++ ([s.to] : List Int)).length) c25) :: L) F (by kernel_rfl) fun a F => ?_
         refine l_nil (inb_n ?_)
         refine then_n ?_
         refine wp_region_list ?_
         refine l_do F rfl rfl (op_pure F (v0 := .int .i64 (IntKind.wrap .i64 ((j : Nat) + 1))) (v := .int .i64 (j + 1 : Nat)) (by kernel_rfl) (wrn_i64 (by omega) (by omega) (by omega)) fun a F => ?_)
         refine l_pure 1 (fun L => (40, .int .i64 (j + 1 : Nat)) :: L) F (by kernel_rfl) fun a F => ?_
         refine l_then ?_
         obtain ⟨hB', ha', hj'⟩ := hB.add (get_lt hnd) hnd hs ht21 (of_decide_eq_false hb22) hj
         exact ⟨_, (by omega), j + 1, (X ++ ([s.to] : List Int)), A24, c25, rfl, (by omega), ha', hB', hj', F.sub ⟨by kernel_rfl, by kernel_rfl, by kernel_rfl, by kernel_rfl, by kernel_rfl, by kernel_rfl, by kernel_rfl, trivial⟩, (S.pick [0, 1, 2, 3] (by decide))⟩
        | true =>
         refine l_do F rfl rfl (op_fn F (by kernel_rfl) (contains_any _ A c X s.to (Recs.ofRow (S.rowOf (i := 2) rfl) (by omega)) (by omega)) ?_)
         rintro e z ⟨rfl, hb⟩
         have S := S.grow hb
         refine ⟨_, rfl, ?_⟩
         rw [hb22]
         intro a F
         refine l_pure 2 (fun L => (54, .bool false) :: (53, .bool false) :: L) F (by kernel_rfl) fun a F => ?_
         refine l_then ?_
         refine c_f F rfl ?_
         refine wp_skip ?_
         refine inb_n ?_
         refine then_n ?_
         refine wp_region_list ?_
         refine l_do F rfl rfl (op_pure F (v0 := .int .i64 (IntKind.wrap .i64 ((j : Nat) + 1))) (v := .int .i64 (j + 1 : Nat)) (by kernel_rfl) (wrn_i64 (by omega) (by omega) (by omega)) fun a F => ?_)
         refine l_pure 1 (fun L => (40, .int .i64 (j + 1 : Nat)) :: L) F (by kernel_rfl) fun a F => ?_
         refine l_then ?_
         exact ⟨_, (by omega), j + 1, X, A, c, rfl, (by omega), hnd, hB, (BInv.skip hs (.inr (of_decide_eq_true hb22)) hj), F.sub ⟨by kernel_rfl, by kernel_rfl, by kernel_rfl, by kernel_rfl, by kernel_rfl, by kernel_rfl, by kernel_rfl, trivial⟩, (S.pick [0, 1, 2, 3] (by decide))⟩
       ·
        skip
        refine l_do F rfl rfl (op_pure F (v0 := .bool (decide ((s.can : Int) ≥ (am : Int)))) (v := .bool false) (by kernel_rfl) (geqF ht21) fun a F => ?_)
        refine l_pure 7 (fun L => (54, .bool false) :: (53, undef) :: (52, undef) :: (51, undef) :: (50, undef) :: (49, undef) :: (48, .bool false) :: L) F (by kernel_rfl) fun a F => ?_
        refine l_then ?_
        refine c_f F rfl ?_
        refine wp_skip ?_
        refine inb_n ?_
        refine then_n ?_
        refine wp_region_list ?_
        refine l_do F rfl rfl (op_pure F (v0 := .int .i64 (IntKind.wrap .i64 ((j : Nat) + 1))) (v := .int .i64 (j + 1 : Nat)) (by kernel_rfl) (wrn_i64 (by omega) (by omega) (by omega)) fun a F => ?_)
        refine l_pure 1 (fun L => (40, .int .i64 (j + 1 : Nat)) :: L) F (by kernel_rfl) fun a F => ?_
        refine l_then ?_
        exact ⟨_, (by omega), j + 1, X, A, c, rfl, (by omega), hnd, hB, (BInv.skip hs (.inl ht21) hj), F.sub ⟨by kernel_rfl, by kernel_rfl, by kernel_rfl, by kernel_rfl, by kernel_rfl, by kernel_rfl, by kernel_rfl, trivial⟩, (S.pick [0, 1, 2, 3] (by decide))⟩
      ·
       skip
       refine l_do F rfl rfl (op_pure F (v0 := .bool (decide (((j : Nat) : Int) < (((stepsP x nd).length : Nat) : Int)))) (v := .bool false) (by kernel_rfl) (lssF ht19) fun a F => ?_)
       refine l_then ?_
       refine wp_seq ?_
       refine c_f F rfl ?_
       refine wp_exit ?_
       refine then_x ?_
       refine then_x ?_
       refine inb_x ?_
       refine inb_n ?_
       refine then_n ?_
       refine wp_region_list ?_
       refine l_pure 1 (fun L => (31, .int .i64 (i : Nat)) :: L) F (by kernel_rfl) fun a F => ?_
       refine l_do F rfl rfl (op_pure F (v0 := .int .i64 (IntKind.wrap .i64 ((i : Nat) + 1))) (v := .int .i64 (i + 1 : Nat)) (by kernel_rfl) (wrn_i64 (by omega) (by omega) (by omega)) fun a F => ?_)
       refine l_pure 1 (fun L => (8, .int .i64 (i + 1 : Nat)) :: L) F (by kernel_rfl) fun a F => ?_
       refine l_then ?_
       exact ⟨_, (by have := hB.len hn; omega), i + 1, X, A, c, rfl, (get_lt hnd), (hB.next hnd (by rw [show (stepsP x nd).length = j from by omega]; exact hj)), F.sub ⟨by kernel_rfl, by kernel_rfl, by kernel_rfl, by kernel_rfl, trivial⟩, (S.pick [0, 1, 2] (by decide))⟩
    ·
     skip
     refine l_do F rfl rfl (op_pure F (v0 := .bool (decide (((i : Nat) : Int) < ((X.length : Nat) : Int)))) (v := .bool false) (by kernel_rfl) (lssF ht8) fun a F => ?_)
     refine l_then ?_
     refine c_f F rfl ?_
     refine wp_exit ?_
     refine then_x ?_
     refine then_x ?_
     refine inb_x ?_
     refine then_n ?_
     refine s_reg ?_
     refine l_pure 1 (fun L => (61, .slice A X.length c) :: L) F (by kernel_rfl) fun a F => ?_
     have h8 : 1 ≤ X.length := List.length_pos_of_mem hB.st
     have h9 : X.length ≤ 12 := by have := hB.len hn; omega
     refine l_do F rfl rfl (op_fn F (by kernel_rfl) (S.call1 (i := 2) (A' := row 3 1 (.slice A X.length c) X.length ((isort X).flatMap iC_i64)) (Q := fun e => e = .returned (.tuple #[])) rfl (fun F2 h2 _ => sort_any _ A c X h8 h9 F2 h2)) ?_)
     rintro e z ⟨rfl, S⟩
     refine ⟨_, rfl, ?_⟩
     intro a F
     refine l_then ?_
     refine s_reg ?_
     refine l_pure 2 (fun L => (6, .slice A X.length c) :: (63, .slice A X.length c) :: L) F (by kernel_rfl) fun a F => ?_
     refine l_then ?_
     refine wp_ret ?_
     have he : isort X = reachP x n am := BInv.done (by rw [show X.length = i from by omega]; exact hB) hn
     have hlen : X.length = (reachP x n am).length := by rw [← he, isort_len]
     rw [he, hlen] at S
     rw [hlen] at F
     exact fin F [.tmp 6] [.slice A ((reachP x n am).length) c] rfl ⟨by kernel_rfl, trivial⟩ (.slice A ((reachP x n am).length) c) rfl ⟨_, _, rfl, S.pick [0, 2] (by decide)⟩
 ·
  skip
  refine l_do F rfl rfl (op_pure F (v0 := .bool ((chkP x : Int) != (0 : Int))) (v := .bool true) (by kernel_rfl) (neqT ht2) fun a F => ?_)
  refine l_pure 11 (fun L => (24, .bool true) :: (23, undef) :: (22, undef) :: (21, undef) :: (20, undef) :: (19, undef) :: (18, .bool true) :: (17, .bool true) :: (16, undef) :: (15, undef) :: (14, .bool true) :: L) F (by kernel_rfl) fun a F => ?_
  refine l_then ?_
  refine c_t F rfl ?_
  refine s_reg ?_
  refine l_pure 1 (fun L => (6, .slice none 0 0) :: L) F (by kernel_rfl) fun a F => ?_
  refine l_then ?_
  refine wp_ret ?_
  refine then_r (?_)
  have hz := reach_none (x := x) (n := n) (am := am) (fun hi => by obtain ⟨i1, i2, i3⟩ := hi; first | exact absurd i1 ‹_› | omega)
  have S := S.nilRow 3 1
  exact fin F [.tmp 6] [.slice none 0 0] rfl ⟨by kernel_rfl, trivial⟩ (.slice none 0 0) rfl ⟨none, 0, ret_sl (by rw [hz]; rfl) rfl, by rw [hz]; exact S.pick [0, 2] (by decide)⟩
end Go.Proofs.Ytcfpbemoocegfaa
