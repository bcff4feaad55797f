/- Walk over the law WebBoth. -/
import Derived.Test.YtjbblgefgjmdaaaReadWeb
import Derived.Test.YtjbblgefgjmdaaaReach07
import Derived.Test.YtjbblgefgjmdaaaBothP
namespace Go.Proofs.Ytjbblgefgjmdaaa
set_option linter.unusedVariables false
set_option linter.unusedSimpArgs false
set_option linter.unnecessarySimpa false
open Go Go.RowKit

theorem steps_nil {x : Wb} {n : Int} (h : ¬ chkP x = 0) : stepsP x n = [] := if_neg h
set_option maxRecDepth 100000 in
set_option maxHeartbeats 4000000 in
theorem both_law (w : World) (As : Option Addr) (cs : Nat) (Ae : Option Addr) (ce : Nat) (x : Wb) (h : WebAt w As cs Ae ce x) (ok : x.Ok) (n am le : Int) : Calls Try.prog 5 #[.agg #[.slice As x.spots.length cs, .slice Ae x.edges.length ce], .int .i64 n, .int .u64 am, .int .u64 le] w fun e w' => e = .returned (.bool true) ∧ Below w.heap.size w w' := by
  refine enter 158 Try.func5 rfl rfl rfl fun a F => ?_
  have S := Sat.pushRest w
  refine s_reg ?_
  refine l_do F rfl rfl (op_box S _ _ (.agg #[.slice As x.spots.length cs, .slice Ae x.edges.length ce]) F rfl (by kernel_rfl) fun b1 z S a F => ?_)
  refine l_pure 1 (fun L => (8, .bool false) :: L) F (by kernel_rfl) fun a F => ?_
  refine l_then ?_
  refine wp_seq ?_
  refine s_reg ?_
  refine l_do F rfl rfl (op_loadK _ _ (some ⟨b1, 0, none⟩) 0 [.slice As x.spots.length cs, .slice Ae x.edges.length ce] F rfl (by kernel_rfl) (by kernel_rfl) (by kernel_rfl) (by simp) (cBoxK S 1 rfl 0 (by kernel_rfl)) (fun a F => ?_))
  cases hb2 : (lightP x) with
  | false =>
    refine l_do F rfl rfl (op_fn F (by kernel_rfl) (light_any _ As cs Ae ce x) ?_)
    rintro e z ⟨rfl, hb⟩
    have S := S.grow hb
    refine ⟨_, rfl, ?_⟩
    rw [hb2]
    intro a F
    refine l_pure 1 (fun L => (25, .bool true) :: L) F (by kernel_rfl) fun a F => ?_
    refine l_then ?_
    refine c_t F rfl ?_
    refine s_reg ?_
    refine l_do F rfl rfl (op_fn F (by kernel_rfl) (awake_any _) ?_)
    rintro e z ⟨rfl, hb⟩
    have S := S.grow hb
    refine ⟨_, rfl, ?_⟩
    intro a F
    refine l_pure 1 (fun L => (8, .bool true) :: L) F (by kernel_rfl) fun a F => ?_
    refine l_then ?_
    refine wp_ret ?_
    refine then_r (?_)
    exact fin F [.tmp 8] [.bool true] rfl ⟨by kernel_rfl, trivial⟩ (.bool true) rfl ⟨rfl, S.below (i := 0) rfl⟩
  | true =>
    obtain ⟨l1, l2, l3, l4⟩ := light_small hb2
    refine l_do F rfl rfl (op_fn F (by kernel_rfl) (light_any _ As cs Ae ce x) ?_)
    rintro e z ⟨rfl, hb⟩
    have S := S.grow hb
    refine ⟨_, rfl, ?_⟩
    rw [hb2]
    intro a F
    refine l_pure 1 (fun L => (25, .bool false) :: L) F (by kernel_rfl) fun a F => ?_
    refine l_then ?_
    refine c_f F rfl ?_
    refine wp_skip ?_
    refine then_n ?_
    refine s_reg ?_
    refine l_do F rfl rfl (op_loadK _ _ (some ⟨b1, 0, none⟩) 0 [.slice As x.spots.length cs, .slice Ae x.edges.length ce] F rfl (by kernel_rfl) (by kernel_rfl) (by kernel_rfl) (by simp) (cBoxK S 1 rfl 0 (by kernel_rfl)) (fun a F => ?_))
    refine l_do F rfl rfl (op_fn F (by kernel_rfl) (to_any _ As cs Ae ce x (h.move S rfl) ok ⟨l1, l2⟩) ?_)
    rintro e z ⟨A3, c4, A5, c6, rfl, g⟩
    have S := S.pushThings g
    refine ⟨_, rfl, ?_⟩
    intro a F
    refine l_do F rfl rfl (op_alloc S _ (.agg #[.slice none 0 0, .slice none 0 0]) rfl (by kernel_rfl) fun b7 z S a F => ?_)
    refine l_do F rfl rfl (op_storeB S 4 _ _ _ b7 0 (.agg #[.slice A3 x.spots.length c4, .slice A5 x.edges.length c6]) F rfl rfl (by kernel_rfl) (by kernel_rfl) (by kernel_rfl) (by kernel_rfl) (by kernel_rfl) fun z S a F => ?_)
    refine l_then ?_
    refine wp_seq ?_
    refine s_reg ?_
    refine l_do F rfl rfl (op_loadK _ _ (some ⟨b7, 0, none⟩) 0 [.slice A3 x.spots.length c4, .slice A5 x.edges.length c6] F rfl (by kernel_rfl) (by kernel_rfl) (by kernel_rfl) (by simp) (cBoxK S 4 rfl 0 (by kernel_rfl)) (fun a F => ?_))
    refine l_do F rfl rfl (op_fn F (by kernel_rfl) (check_any _ A3 c4 A5 c6 x (WebAt.ofNew (x := x) (w := w) S (i := 2) (j := 3) rfl rfl ⟨l1, l2⟩) ok) ?_)
    rintro e z ⟨rfl, hb⟩
    have S := S.grow hb
    refine ⟨_, rfl, ?_⟩
    intro a F
    by_cases ht8 : (chkP x : Int) = (0 : Int)
    · skip
      have hc0 := ht8
      obtain ⟨z1, z2, -⟩ := chk_zero hc0
      refine l_do F rfl rfl (op_pure F (v0 := .bool ((chkP x : Int) != (0 : Int))) (v := .bool false) (by kernel_rfl) (neqF ht8) fun a F => ?_)
      refine l_then ?_
      refine c_f F rfl ?_
      refine wp_skip ?_
      refine then_n ?_
      refine wp_seq ?_
      refine s_reg ?_
      refine l_pure 1 (fun L => (48, .pointer (some ⟨b7, 1, none⟩)) :: L) F (by kernel_rfl) fun a F => ?_
      refine l_do F rfl rfl (op_load _ _ (some ⟨b7, 0, none⟩) 1 (.slice A5 x.edges.length c6) F rfl (by kernel_rfl) (by kernel_rfl) (cBox S 4 rfl (j := 1) rfl) (fun a F => ?_))
      refine l_pure 2 (fun L => (51, .int .i64 0) :: (50, .int .i64 (x.edges.length : Nat)) :: L) F (by kernel_rfl) fun a F => ?_
      refine l_then ?_
      refine wp_block ?_
      refine wp_loop_m (fun m a z => ∃ (i : Nat), m = x.edges.length - i ∧ (i ≤ x.edges.length) ∧ Fr a 158 [(1, .int .i64 n), (2, .int .u64 am), (3, .int .u64 le), (4, .pointer (some ⟨b1, 0, none⟩)), (9, .pointer (some ⟨b7, 0, none⟩)), (49, .slice A5 x.edges.length c6), (50, .int .i64 (x.edges.length : Nat)), (51, .int .i64 (i : Nat))] ∧ Sat w z [rest w (· < w.heap.size), box b1 25 [.slice As x.spots.length cs, .slice Ae x.edges.length ce], row 74 2 (.slice A3 x.spots.length c4) x.spots.length (x.spots.flatMap spC), row 52 8 (.slice A5 x.edges.length c6) x.edges.length (x.edges.flatMap edC), box b7 31 [.slice A3 x.spots.length c4, .slice A5 x.edges.length c6]]) _ ⟨0, rfl, Nat.zero_le _, F.sub ⟨by kernel_rfl, by kernel_rfl, by kernel_rfl, by kernel_rfl, by kernel_rfl, by kernel_rfl, by kernel_rfl, by kernel_rfl, trivial⟩, S⟩ ?_
      rintro m a z ⟨i, hm, hf9, F, S⟩
      refine s_reg ?_
      by_cases ht10 : ((i : Nat) : Int) < ((x.edges.length : Nat) : Int)
      · skip
        obtain ⟨e, he⟩ : ∃ e, x.edges[i]? = some e := ⟨_, List.getElem?_eq_getElem (by omega)⟩
        refine l_do F rfl rfl (op_pure F (v0 := .bool (decide (((i : Nat) : Int) < ((x.edges.length : Nat) : Int)))) (v := .bool true) (by kernel_rfl) (lssT ht10) fun a F => ?_)
        refine l_then ?_
        refine wp_seq ?_
        refine c_t F rfl ?_
        refine wp_skip ?_
        refine then_n ?_
        refine wp_seq ?_
        refine wp_block ?_
        refine s_reg ?_
        refine l_pure 1 (fun L => (53, .int .i64 (i : Nat)) :: L) F (by kernel_rfl) fun a F => ?_
        refine l_do F rfl rfl (op_index _ 52 _ _ A5 x.edges.length c6 i 8 .i64 F rfl (by kernel_rfl) (by kernel_rfl) (by kernel_rfl) (by kernel_rfl) (get_lt he) (row_some S 3 rfl (m := i) (get_lt he)) (fun a F => ?_))
        refine l_do F rfl rfl (op_loadK _ _ A5 (i * 8) [.int .i64 e.a, .int .i64 e.b, .int .u64 e.c0, .int .u64 e.c1, .int .u64 e.b0, .int .u64 e.r0, .int .u64 e.b1, .int .u64 e.r1] F rfl (by kernel_rfl) (by kernel_rfl) (by kernel_rfl) (by simp) (cRecK0 S 3 edC_len rfl he (by kernel_rfl)) (fun a F => ?_))
        refine l_do F rfl rfl (op_alloc S _ (.agg #[.int .i64 0, .int .i64 0, .int .u64 0, .int .u64 0, .int .u64 0, .int .u64 0, .int .u64 0, .int .u64 0]) rfl (by kernel_rfl) fun b11 z S a F => ?_)
        refine l_pure 1 (fun L => (10, .int .i64 (i : Nat)) :: L) F (by kernel_rfl) fun a F => ?_
        refine l_do F rfl rfl (op_storeB S 5 _ _ _ b11 0 (.agg #[.int .i64 e.a, .int .i64 e.b, .int .u64 e.c0, .int .u64 e.c1, .int .u64 e.b0, .int .u64 e.r0, .int .u64 e.b1, .int .u64 e.r1]) F rfl rfl (by kernel_rfl) (by kernel_rfl) (by kernel_rfl) (by kernel_rfl) (by kernel_rfl) fun z S a F => ?_)
        refine l_then ?_
        refine s_reg ?_
        refine l_pure 1 (fun L => (56, .pointer (some ⟨b11, 0, none⟩)) :: L) F (by kernel_rfl) fun a F => ?_
        refine l_do F rfl rfl (op_loadK _ _ (some ⟨b11, 0, none⟩) 0 [.int .i64 e.a, .int .i64 e.b] F rfl (by kernel_rfl) (by kernel_rfl) (by kernel_rfl) (by simp) (cBoxK S 5 rfl 0 (by kernel_rfl)) (fun a F => ?_))
        refine l_pure 1 (fun L => (58, .int .i64 0) :: L) F (by kernel_rfl) fun a F => ?_
        refine l_then ?_
        refine wp_block ?_
        refine wp_loop_rounds 3 (rnd ?_)
        refine s_reg ?_
        refine l_pure 1 (fun L => (59, .bool true) :: L) F (by kernel_rfl) fun a F => ?_
        refine l_then ?_
        refine wp_seq ?_
        refine c_t F rfl ?_
        refine wp_skip ?_
        refine then_n ?_
        refine wp_seq ?_
        refine wp_block ?_
        refine s_reg ?_
        refine l_pure 4 (fun L => (13, .int .i64 e.a) :: (12, .int .i64 0) :: (61, .int .i64 e.a) :: (60, .int .i64 0) :: L) F (by kernel_rfl) fun a F => ?_
        refine l_then ?_
        refine s_reg ?_
        refine l_pure 1 (fun L => (14, .int .i64 0) :: L) F (by kernel_rfl) fun a F => ?_
        refine l_then ?_
        refine wp_seq ?_
        refine s_reg ?_
        refine l_do F rfl rfl (op_loadK _ _ (some ⟨b7, 0, none⟩) 0 [.slice A3 x.spots.length c4, .slice A5 x.edges.length c6] F rfl (by kernel_rfl) (by kernel_rfl) (by kernel_rfl) (by simp) (cBoxK S 4 rfl 0 (by kernel_rfl)) (fun a F => ?_))
        refine l_pure 1 (fun L => (63, .int .i64 e.a) :: L) F (by kernel_rfl) fun a F => ?_
        refine l_do F rfl rfl (op_fn F (by kernel_rfl) (steps_any _ A3 c4 A5 c6 x (WebAt.ofNew (x := x) (w := w) S (i := 2) (j := 3) rfl rfl ⟨l1, l2⟩) ok e.a) ?_)
        rintro e z ⟨A12, c13, rfl, g⟩
        have S := S.pushThings g
        refine ⟨_, rfl, ?_⟩
        intro a F
        refine l_pure 2 (fun L => (66, .int .i64 0) :: (65, .int .i64 ((stepsP x e.a).length : Nat)) :: L) F (by kernel_rfl) fun a F => ?_
        refine l_then ?_
        refine wp_block ?_
        have hfew := steps_few x e.a
        have hcp := fun j => List.countP_le_length (p := isStp i e.b e.c0) (l := (stepsP x e.a).take j)
        refine wp_loop_m (fun m a z => ∃ (j : Nat), m = (stepsP x e.a).length - j ∧ (j ≤ (stepsP x e.a).length) ∧ Fr a 158 [(1, .int .i64 n), (2, .int .u64 am), (3, .int .u64 le), (4, .pointer (some ⟨b1, 0, none⟩)), (9, .pointer (some ⟨b7, 0, none⟩)), (10, .int .i64 (i : Nat)), (11, .pointer (some ⟨b11, 0, none⟩)), (12, .int .i64 0), (14, .int .i64 ((((stepsP x e.a).take j).countP (isStp i e.b e.c0)) : Nat)), (49, .slice A5 x.edges.length c6), (50, .int .i64 (x.edges.length : Nat)), (51, .int .i64 (i : Nat)), (57, .agg #[.int .i64 e.a, .int .i64 e.b]), (58, .int .i64 0), (64, .slice A12 ((stepsP x e.a).length) c13), (65, .int .i64 ((stepsP x e.a).length : Nat)), (66, .int .i64 (j : Nat))] ∧ Sat w z [rest w (· < w.heap.size), box b1 25 [.slice As x.spots.length cs, .slice Ae x.edges.length ce], row 74 2 (.slice A3 x.spots.length c4) x.spots.length (x.spots.flatMap spC), row 52 8 (.slice A5 x.edges.length c6) x.edges.length (x.edges.flatMap edC), box b7 31 [.slice A3 x.spots.length c4, .slice A5 x.edges.length c6], box b11 52 [.int .i64 e.a, .int .i64 e.b, .int .u64 e.c0, .int .u64 e.c1, .int .u64 e.b0, .int .u64 e.r0, .int .u64 e.b1, .int .u64 e.r1], row 44 5 (.slice A12 ((stepsP x e.a).length) c13) ((stepsP x e.a).length) ((stepsP x e.a).flatMap stC)]) _ ⟨0, rfl, Nat.zero_le _, F.sub ⟨by kernel_rfl, by kernel_rfl, by kernel_rfl, by kernel_rfl, by kernel_rfl, by kernel_rfl, by kernel_rfl, by kernel_rfl, by kernel_rfl, by kernel_rfl, by kernel_rfl, by kernel_rfl, by kernel_rfl, by kernel_rfl, by kernel_rfl, by kernel_rfl, by kernel_rfl, trivial⟩, S⟩ ?_
        rintro m a z ⟨j, hm, hf14, F, S⟩
        have hcl := hcp j
        rw [List.length_take] at hcl
        refine s_reg ?_
        by_cases ht15 : ((j : Nat) : Int) < (((stepsP x e.a).length : Nat) : Int)
        · skip
          obtain ⟨s, hs⟩ : ∃ s, (stepsP x e.a)[j]? = some s := ⟨_, List.getElem?_eq_getElem (by omega)⟩
          refine l_do F rfl rfl (op_pure F (v0 := .bool (decide (((j : Nat) : Int) < (((stepsP x e.a).length : Nat) : Int)))) (v := .bool true) (by kernel_rfl) (lssT ht15) fun a F => ?_)
          refine l_then ?_
          refine wp_seq ?_
          refine c_t F rfl ?_
          refine wp_skip ?_
          refine then_n ?_
          refine wp_seq ?_
          refine wp_block ?_
          refine s_reg ?_
          refine l_do F rfl rfl (op_index _ 44 _ _ A12 ((stepsP x e.a).length) c13 j 5 .i64 F rfl (by kernel_rfl) (by kernel_rfl) (by kernel_rfl) (by kernel_rfl) (get_lt hs) (row_some S 6 rfl (m := j) (get_lt hs)) (fun a F => ?_))
          refine l_do F rfl rfl (op_loadK _ _ A12 (j * 5) [.int .i64 s.edge, .int .i64 s.to, .int .u64 s.can, .int .u64 s.base, .int .u64 s.rate] F rfl (by kernel_rfl) (by kernel_rfl) (by kernel_rfl) (by simp) (cRecK0 S 6 stC_len rfl hs (by kernel_rfl)) (fun a F => ?_))
          refine l_do F rfl rfl (op_alloc S _ (.agg #[.int .i64 0, .int .i64 0, .int .u64 0, .int .u64 0, .int .u64 0]) rfl (by kernel_rfl) fun b16 z S a F => ?_)
          refine l_do F rfl rfl (op_storeB S 7 _ _ _ b16 0 (.agg #[.int .i64 s.edge, .int .i64 s.to, .int .u64 s.can, .int .u64 s.base, .int .u64 s.rate]) F rfl rfl (by kernel_rfl) (by kernel_rfl) (by kernel_rfl) (by kernel_rfl) (by kernel_rfl) fun z S a F => ?_)
          refine l_then ?_
          refine wp_seq ?_
          by_cases ht17 : (s.edge : Int) = ((i : Nat) : Int)
          · skip
            by_cases ht18 : (s.to : Int) = (e.b : Int)
            · skip
              by_cases ht19 : (s.can : Int) = (e.c0 : Int)
              · skip
                refine region_gx (fun D => fun (_ : Unit) => [rest w (· < w.heap.size), box b1 25 [.slice As x.spots.length cs, .slice Ae x.edges.length ce], row 74 2 (.slice A3 x.spots.length c4) x.spots.length (x.spots.flatMap spC), row 52 8 (.slice A5 x.edges.length c6) x.edges.length (x.edges.flatMap edC), box b7 31 [.slice A3 x.spots.length c4, .slice A5 x.edges.length c6], box b11 52 [.int .i64 e.a, .int .i64 e.b, .int .u64 e.c0, .int .u64 e.c1, .int .u64 e.b0, .int .u64 e.r0, .int .u64 e.b1, .int .u64 e.r1], row 44 5 (.slice A12 ((stepsP x e.a).length) c13) ((stepsP x e.a).length) ((stepsP x e.a).flatMap stC), box b16 44 [.int .i64 s.edge, .int .i64 s.to, .int .u64 s.can, .int .u64 s.base, .int .u64 s.rate]]) (fun (_ : Unit) => [.pointer (some ⟨b16, 0, none⟩), .int .i64 s.edge, .int .i64 (i : Nat), .bool true, .bool true, .pointer (some ⟨b16, 1, none⟩), .int .i64 s.to, .int .i64 0, .int .i64 1, .pointer (some ⟨b11, 0, none⟩), .pointer (some ⟨b11, 1, none⟩), .int .i64 e.b, .bool true, .bool true, .bool true, .pointer (some ⟨b16, 2, none⟩), .int .u64 s.can, .int .i64 0, .pointer (some ⟨b11, 2, none⟩), .pointer (some ⟨b11, 2, none⟩), .int .u64 e.c0, .bool true, .bool true]) [(1, [], [3, 6, 11, 12, 16, 20, 21]), (3, [1], [6, 11, 12, 16, 20, 21]), (6, [1, 3], [12, 16, 20, 21]), (11, [1, 3], [12, 16, 20, 21]), (12, [1, 3, 6, 11], [16, 20, 21]), (16, [1, 3, 6, 11, 12], [21]), (20, [1, 3, 6, 11, 12], [21]), (21, [1, 3, 6, 11, 12, 16, 20], [])] () rfl (by kernel_rfl) (by kernel_rfl) F S.drew ?_ ?_ ?_ ?_ ?_
                · rintro ⟨⟩; rfl
                · rintro ⟨⟩; kernel_rfl
                · intro D D' x h
                  cases x
                  rfl
                · refine ⟨?_, ?_⟩
                  · refine ⟨_, rfl, rfl, by kernel_rfl, ?_⟩
                    rintro D ⟨⟩ a z S F
                    refine ⟨by kernel_rfl, ?_⟩
                    exact op_load _ _ (some ⟨b16, 0, none⟩) 0 (.int .i64 s.edge) F rfl (by kernel_rfl) (by kernel_rfl) (cBox S 7 rfl (j := 0) rfl) (⟨(), rfl, (SameB.refl _ _ rfl), S⟩)
                  refine ⟨?_, ?_⟩
                  · refine ⟨_, rfl, rfl, by kernel_rfl, ?_⟩
                    rintro D ⟨⟩ a z S F
                    refine ⟨by kernel_rfl, ?_⟩
                    exact op_pure F (v0 := .bool ((s.edge : Int) == ((i : Nat) : Int))) (v := .bool true) (by kernel_rfl) (eqlT ht17) ⟨(), rfl, (SameB.refl _ _ rfl), S⟩
                  refine ⟨?_, ?_⟩
                  · refine ⟨_, rfl, rfl, by kernel_rfl, ?_⟩
                    rintro D ⟨⟩ a z S F
                    refine ⟨by kernel_rfl, ?_⟩
                    exact op_load _ _ (some ⟨b16, 0, none⟩) 1 (.int .i64 s.to) F rfl (by kernel_rfl) (by kernel_rfl) (cBox S 7 rfl (j := 1) rfl) (⟨(), rfl, (SameB.refl _ _ rfl), S⟩)
                  refine ⟨?_, ?_⟩
                  · refine ⟨_, rfl, rfl, by kernel_rfl, ?_⟩
                    rintro D ⟨⟩ a z S F
                    refine ⟨by kernel_rfl, ?_⟩
                    exact op_load _ _ (some ⟨b11, 0, none⟩) 1 (.int .i64 e.b) F rfl (by kernel_rfl) (by kernel_rfl) (cBox S 5 rfl (j := 1) rfl) (⟨(), rfl, (SameB.refl _ _ rfl), S⟩)
                  refine ⟨?_, ?_⟩
                  · refine ⟨_, rfl, rfl, by kernel_rfl, ?_⟩
                    rintro D ⟨⟩ a z S F
                    refine ⟨by kernel_rfl, ?_⟩
                    exact op_pure F (v0 := .bool ((s.to : Int) == (e.b : Int))) (v := .bool true) (by kernel_rfl) (eqlT ht18) ⟨(), rfl, (SameB.refl _ _ rfl), S⟩
                  refine ⟨?_, ?_⟩
                  · refine ⟨_, rfl, rfl, by kernel_rfl, ?_⟩
                    rintro D ⟨⟩ a z S F
                    refine ⟨by kernel_rfl, ?_⟩
                    exact op_load _ _ (some ⟨b16, 0, none⟩) 2 (.int .u64 s.can) F rfl (by kernel_rfl) (by kernel_rfl) (cBox S 7 rfl (j := 2) rfl) (⟨(), rfl, (SameB.refl _ _ rfl), S⟩)
                  refine ⟨?_, ?_⟩
                  · refine ⟨_, rfl, rfl, by kernel_rfl, ?_⟩
                    rintro D ⟨⟩ a z S F
                    refine ⟨by kernel_rfl, ?_⟩
                    exact op_load _ _ (some ⟨b11, 0, none⟩) 2 (.int .u64 e.c0) F rfl (by kernel_rfl) (by kernel_rfl) (cBox S 5 rfl (j := 2) rfl) (⟨(), rfl, (SameB.refl _ _ rfl), S⟩)
                  refine ⟨?_, ?_⟩
                  · refine ⟨_, rfl, rfl, by kernel_rfl, ?_⟩
                    rintro D ⟨⟩ a z S F
                    refine ⟨by kernel_rfl, ?_⟩
                    exact op_pure F (v0 := .bool ((s.can : Int) == (e.c0 : Int))) (v := .bool true) (by kernel_rfl) (eqlT ht19) ⟨(), rfl, (SameB.refl _ _ rfl), S⟩
                  trivial
                · rintro ⟨⟩ a z F S
                  have F := F.sub (l := [(1, .int .i64 n), (2, .int .u64 am), (3, .int .u64 le), (4, .pointer (some ⟨b1, 0, none⟩)), (9, .pointer (some ⟨b7, 0, none⟩)), (10, .int .i64 (i : Nat)), (11, .pointer (some ⟨b11, 0, none⟩)), (12, .int .i64 0), (14, .int .i64 ((((stepsP x e.a).take j).countP (isStp i e.b e.c0)) : Nat)), (49, .slice A5 x.edges.length c6), (50, .int .i64 (x.edges.length : Nat)), (51, .int .i64 (i : Nat)), (57, .agg #[.int .i64 e.a, .int .i64 e.b]), (58, .int .i64 0), (64, .slice A12 ((stepsP x e.a).length) c13), (65, .int .i64 ((stepsP x e.a).length : Nat)), (66, .int .i64 (j : Nat)), (92, .bool true)]) ⟨by kernel_rfl, by kernel_rfl, by kernel_rfl, by kernel_rfl, by kernel_rfl, by kernel_rfl, by kernel_rfl, by kernel_rfl, by kernel_rfl, by kernel_rfl, by kernel_rfl, by kernel_rfl, by kernel_rfl, by kernel_rfl, by kernel_rfl, by kernel_rfl, by kernel_rfl, by kernel_rfl, trivial⟩
                  have S : Sat w z [rest w (· < w.heap.size), box b1 25 [.slice As x.spots.length cs, .slice Ae x.edges.length ce], row 74 2 (.slice A3 x.spots.length c4) x.spots.length (x.spots.flatMap spC), row 52 8 (.slice A5 x.edges.length c6) x.edges.length (x.edges.flatMap edC), box b7 31 [.slice A3 x.spots.length c4, .slice A5 x.edges.length c6], box b11 52 [.int .i64 e.a, .int .i64 e.b, .int .u64 e.c0, .int .u64 e.c1, .int .u64 e.b0, .int .u64 e.r0, .int .u64 e.b1, .int .u64 e.r1], row 44 5 (.slice A12 ((stepsP x e.a).length) c13) ((stepsP x e.a).length) ((stepsP x e.a).flatMap stC), box b16 44 [.int .i64 s.edge, .int .i64 s.to, .int .u64 s.can, .int .u64 s.base, .int .u64 s.rate]] := S
                  refine then_n ?_
                  refine c_t F rfl ?_
                  refine wp_region_list ?_
                  refine l_pure 1 (fun L => (93, .int .i64 ((((stepsP x e.a).take j).countP (isStp i e.b e.c0)) : Nat)) :: L) F (by kernel_rfl) fun a F => ?_
                  refine l_do F rfl rfl (op_pure F (v0 := .int .i64 (IntKind.wrap .i64 (((((stepsP x e.a).take j).countP (isStp i e.b e.c0)) : Nat) + 1))) (v := .int .i64 ((((stepsP x e.a).take j).countP (isStp i e.b e.c0)) + 1 : Nat)) (by kernel_rfl) (wrn_i64 (by omega) (by omega) (by omega)) fun a F => ?_)
                  refine l_pure 1 (fun L => (14, .int .i64 ((((stepsP x e.a).take j).countP (isStp i e.b e.c0)) + 1 : Nat)) :: L) F (by kernel_rfl) fun a F => ?_
                  refine l_nil (inb_n ?_)
                  refine then_n ?_
                  refine wp_region_list ?_
                  refine l_do F rfl rfl (op_pure F (v0 := .int .i64 (IntKind.wrap .i64 ((j : Nat) + 1))) (v := .int .i64 (j + 1 : Nat)) (by kernel_rfl) (wrn_i64 (by omega) (by omega) (by omega)) fun a F => ?_)
                  refine l_pure 1 (fun L => (66, .int .i64 (j + 1 : Nat)) :: L) F (by kernel_rfl) fun a F => ?_
                  refine l_then ?_
                  have e9 := cnt_yes (p := isStp i e.b e.c0) hs (by unfold isStp; exact decide_eq_true ⟨ht17, ht18, ht19⟩)
                  exact ⟨_, (by omega), j + 1, rfl, (by omega), F.sub ⟨by kernel_rfl, by kernel_rfl, by kernel_rfl, by kernel_rfl, by kernel_rfl, by kernel_rfl, by kernel_rfl, by kernel_rfl, by rw [e9]; kernel_rfl, by kernel_rfl, by kernel_rfl, by kernel_rfl, by kernel_rfl, by kernel_rfl, by kernel_rfl, by kernel_rfl, by kernel_rfl, trivial⟩, (S.pick [0, 1, 2, 3, 4, 5, 6] (by decide))⟩
              · skip
                refine region_gx (fun D => fun (_ : Unit) => [rest w (· < w.heap.size), box b1 25 [.slice As x.spots.length cs, .slice Ae x.edges.length ce], row 74 2 (.slice A3 x.spots.length c4) x.spots.length (x.spots.flatMap spC), row 52 8 (.slice A5 x.edges.length c6) x.edges.length (x.edges.flatMap edC), box b7 31 [.slice A3 x.spots.length c4, .slice A5 x.edges.length c6], box b11 52 [.int .i64 e.a, .int .i64 e.b, .int .u64 e.c0, .int .u64 e.c1, .int .u64 e.b0, .int .u64 e.r0, .int .u64 e.b1, .int .u64 e.r1], row 44 5 (.slice A12 ((stepsP x e.a).length) c13) ((stepsP x e.a).length) ((stepsP x e.a).flatMap stC), box b16 44 [.int .i64 s.edge, .int .i64 s.to, .int .u64 s.can, .int .u64 s.base, .int .u64 s.rate]]) (fun (_ : Unit) => [.pointer (some ⟨b16, 0, none⟩), .int .i64 s.edge, .int .i64 (i : Nat), .bool true, .bool true, .pointer (some ⟨b16, 1, none⟩), .int .i64 s.to, .int .i64 0, .int .i64 1, .pointer (some ⟨b11, 0, none⟩), .pointer (some ⟨b11, 1, none⟩), .int .i64 e.b, .bool true, .bool true, .bool true, .pointer (some ⟨b16, 2, none⟩), .int .u64 s.can, .int .i64 0, .pointer (some ⟨b11, 2, none⟩), .pointer (some ⟨b11, 2, none⟩), .int .u64 e.c0, .bool false, .bool false]) [(1, [], [3, 6, 11, 12, 16, 20, 21]), (3, [1], [6, 11, 12, 16, 20, 21]), (6, [1, 3], [12, 16, 20, 21]), (11, [1, 3], [12, 16, 20, 21]), (12, [1, 3, 6, 11], [16, 20, 21]), (16, [1, 3, 6, 11, 12], [21]), (20, [1, 3, 6, 11, 12], [21]), (21, [1, 3, 6, 11, 12, 16, 20], [])] () rfl (by kernel_rfl) (by kernel_rfl) F S.drew ?_ ?_ ?_ ?_ ?_
                · rintro ⟨⟩; rfl
                · rintro ⟨⟩; kernel_rfl
                · intro D D' x h
                  cases x
                  rfl
                · refine ⟨?_, ?_⟩
                  · refine ⟨_, rfl, rfl, by kernel_rfl, ?_⟩
                    rintro D ⟨⟩ a z S F
                    refine ⟨by kernel_rfl, ?_⟩
                    exact op_load _ _ (some ⟨b16, 0, none⟩) 0 (.int .i64 s.edge) F rfl (by kernel_rfl) (by kernel_rfl) (cBox S 7 rfl (j := 0) rfl) (⟨(), rfl, (SameB.refl _ _ rfl), S⟩)
                  refine ⟨?_, ?_⟩
                  · refine ⟨_, rfl, rfl, by kernel_rfl, ?_⟩
                    rintro D ⟨⟩ a z S F
                    refine ⟨by kernel_rfl, ?_⟩
                    exact op_pure F (v0 := .bool ((s.edge : Int) == ((i : Nat) : Int))) (v := .bool true) (by kernel_rfl) (eqlT ht17) ⟨(), rfl, (SameB.refl _ _ rfl), S⟩
                  refine ⟨?_, ?_⟩
                  · refine ⟨_, rfl, rfl, by kernel_rfl, ?_⟩
                    rintro D ⟨⟩ a z S F
                    refine ⟨by kernel_rfl, ?_⟩
                    exact op_load _ _ (some ⟨b16, 0, none⟩) 1 (.int .i64 s.to) F rfl (by kernel_rfl) (by kernel_rfl) (cBox S 7 rfl (j := 1) rfl) (⟨(), rfl, (SameB.refl _ _ rfl), S⟩)
                  refine ⟨?_, ?_⟩
                  · refine ⟨_, rfl, rfl, by kernel_rfl, ?_⟩
                    rintro D ⟨⟩ a z S F
                    refine ⟨by kernel_rfl, ?_⟩
                    exact op_load _ _ (some ⟨b11, 0, none⟩) 1 (.int .i64 e.b) F rfl (by kernel_rfl) (by kernel_rfl) (cBox S 5 rfl (j := 1) rfl) (⟨(), rfl, (SameB.refl _ _ rfl), S⟩)
                  refine ⟨?_, ?_⟩
                  · refine ⟨_, rfl, rfl, by kernel_rfl, ?_⟩
                    rintro D ⟨⟩ a z S F
                    refine ⟨by kernel_rfl, ?_⟩
                    exact op_pure F (v0 := .bool ((s.to : Int) == (e.b : Int))) (v := .bool true) (by kernel_rfl) (eqlT ht18) ⟨(), rfl, (SameB.refl _ _ rfl), S⟩
                  refine ⟨?_, ?_⟩
                  · refine ⟨_, rfl, rfl, by kernel_rfl, ?_⟩
                    rintro D ⟨⟩ a z S F
                    refine ⟨by kernel_rfl, ?_⟩
                    exact op_load _ _ (some ⟨b16, 0, none⟩) 2 (.int .u64 s.can) F rfl (by kernel_rfl) (by kernel_rfl) (cBox S 7 rfl (j := 2) rfl) (⟨(), rfl, (SameB.refl _ _ rfl), S⟩)
                  refine ⟨?_, ?_⟩
                  · refine ⟨_, rfl, rfl, by kernel_rfl, ?_⟩
                    rintro D ⟨⟩ a z S F
                    refine ⟨by kernel_rfl, ?_⟩
                    exact op_load _ _ (some ⟨b11, 0, none⟩) 2 (.int .u64 e.c0) F rfl (by kernel_rfl) (by kernel_rfl) (cBox S 5 rfl (j := 2) rfl) (⟨(), rfl, (SameB.refl _ _ rfl), S⟩)
                  refine ⟨?_, ?_⟩
                  · refine ⟨_, rfl, rfl, by kernel_rfl, ?_⟩
                    rintro D ⟨⟩ a z S F
                    refine ⟨by kernel_rfl, ?_⟩
                    exact op_pure F (v0 := .bool ((s.can : Int) == (e.c0 : Int))) (v := .bool false) (by kernel_rfl) (eqlF ht19) ⟨(), rfl, (SameB.refl _ _ rfl), S⟩
                  trivial
                · rintro ⟨⟩ a z F S
                  have F := F.sub (l := [(1, .int .i64 n), (2, .int .u64 am), (3, .int .u64 le), (4, .pointer (some ⟨b1, 0, none⟩)), (9, .pointer (some ⟨b7, 0, none⟩)), (10, .int .i64 (i : Nat)), (11, .pointer (some ⟨b11, 0, none⟩)), (12, .int .i64 0), (14, .int .i64 ((((stepsP x e.a).take j).countP (isStp i e.b e.c0)) : Nat)), (49, .slice A5 x.edges.length c6), (50, .int .i64 (x.edges.length : Nat)), (51, .int .i64 (i : Nat)), (57, .agg #[.int .i64 e.a, .int .i64 e.b]), (58, .int .i64 0), (64, .slice A12 ((stepsP x e.a).length) c13), (65, .int .i64 ((stepsP x e.a).length : Nat)), (66, .int .i64 (j : Nat)), (92, .bool false)]) ⟨by kernel_rfl, by kernel_rfl, by kernel_rfl, by kernel_rfl, by kernel_rfl, by kernel_rfl, by kernel_rfl, by kernel_rfl, by kernel_rfl, by kernel_rfl, by kernel_rfl, by kernel_rfl, by kernel_rfl, by kernel_rfl, by kernel_rfl, by kernel_rfl, by kernel_rfl, by kernel_rfl, trivial⟩
                  have S : Sat w z [rest w (· < w.heap.size), box b1 25 [.slice As x.spots.length cs, .slice Ae x.edges.length ce], row 74 2 (.slice A3 x.spots.length c4) x.spots.length (x.spots.flatMap spC), row 52 8 (.slice A5 x.edges.length c6) x.edges.length (x.edges.flatMap edC), box b7 31 [.slice A3 x.spots.length c4, .slice A5 x.edges.length c6], box b11 52 [.int .i64 e.a, .int .i64 e.b, .int .u64 e.c0, .int .u64 e.c1, .int .u64 e.b0, .int .u64 e.r0, .int .u64 e.b1, .int .u64 e.r1], row 44 5 (.slice A12 ((stepsP x e.a).length) c13) ((stepsP x e.a).length) ((stepsP x e.a).flatMap stC), box b16 44 [.int .i64 s.edge, .int .i64 s.to, .int .u64 s.can, .int .u64 s.base, .int .u64 s.rate]] := S
                  refine then_n ?_
                  refine c_f F rfl ?_
                  refine wp_skip ?_
                  refine inb_n ?_
                  refine then_n ?_
                  refine wp_region_list ?_
                  refine l_do F rfl rfl (op_pure F (v0 := .int .i64 (IntKind.wrap .i64 ((j : Nat) + 1))) (v := .int .i64 (j + 1 : Nat)) (by kernel_rfl) (wrn_i64 (by omega) (by omega) (by omega)) fun a F => ?_)
                  refine l_pure 1 (fun L => (66, .int .i64 (j + 1 : Nat)) :: L) F (by kernel_rfl) fun a F => ?_
                  refine l_then ?_
                  have e9 := cnt_no (p := isStp i e.b e.c0) hs (by unfold isStp; exact decide_eq_false fun h9 => ht19 h9.2.2)
                  exact ⟨_, (by omega), j + 1, rfl, (by omega), F.sub ⟨by kernel_rfl, by kernel_rfl, by kernel_rfl, by kernel_rfl, by kernel_rfl, by kernel_rfl, by kernel_rfl, by kernel_rfl, by rw [e9]; kernel_rfl, by kernel_rfl, by kernel_rfl, by kernel_rfl, by kernel_rfl, by kernel_rfl, by kernel_rfl, by kernel_rfl, by kernel_rfl, trivial⟩, (S.pick [0, 1, 2, 3, 4, 5, 6] (by decide))⟩
            · skip
              refine region_gx (fun D => fun (_ : Unit) => [rest w (· < w.heap.size), box b1 25 [.slice As x.spots.length cs, .slice Ae x.edges.length ce], row 74 2 (.slice A3 x.spots.length c4) x.spots.length (x.spots.flatMap spC), row 52 8 (.slice A5 x.edges.length c6) x.edges.length (x.edges.flatMap edC), box b7 31 [.slice A3 x.spots.length c4, .slice A5 x.edges.length c6], box b11 52 [.int .i64 e.a, .int .i64 e.b, .int .u64 e.c0, .int .u64 e.c1, .int .u64 e.b0, .int .u64 e.r0, .int .u64 e.b1, .int .u64 e.r1], row 44 5 (.slice A12 ((stepsP x e.a).length) c13) ((stepsP x e.a).length) ((stepsP x e.a).flatMap stC), box b16 44 [.int .i64 s.edge, .int .i64 s.to, .int .u64 s.can, .int .u64 s.base, .int .u64 s.rate]]) (fun (_ : Unit) => [.pointer (some ⟨b16, 0, none⟩), .int .i64 s.edge, .int .i64 (i : Nat), .bool true, .bool true, .pointer (some ⟨b16, 1, none⟩), .int .i64 s.to, .int .i64 0, .int .i64 1, .pointer (some ⟨b11, 0, none⟩), .pointer (some ⟨b11, 1, none⟩), .int .i64 e.b, .bool false, .bool false, .bool false, undef, undef, undef, undef, undef, undef, undef, .bool false]) [(1, [], [3, 6, 11, 12]), (3, [1], [6, 11, 12]), (6, [1, 3], [12]), (11, [1, 3], [12]), (12, [1, 3, 6, 11], [])] () rfl (by kernel_rfl) (by kernel_rfl) F S.drew ?_ ?_ ?_ ?_ ?_
              · rintro ⟨⟩; rfl
              · rintro ⟨⟩; kernel_rfl
              · intro D D' x h
                cases x
                rfl
              · refine ⟨?_, ?_⟩
                · refine ⟨_, rfl, rfl, by kernel_rfl, ?_⟩
                  rintro D ⟨⟩ a z S F
                  refine ⟨by kernel_rfl, ?_⟩
                  exact op_load _ _ (some ⟨b16, 0, none⟩) 0 (.int .i64 s.edge) F rfl (by kernel_rfl) (by kernel_rfl) (cBox S 7 rfl (j := 0) rfl) (⟨(), rfl, (SameB.refl _ _ rfl), S⟩)
                refine ⟨?_, ?_⟩
                · refine ⟨_, rfl, rfl, by kernel_rfl, ?_⟩
                  rintro D ⟨⟩ a z S F
                  refine ⟨by kernel_rfl, ?_⟩
                  exact op_pure F (v0 := .bool ((s.edge : Int) == ((i : Nat) : Int))) (v := .bool true) (by kernel_rfl) (eqlT ht17) ⟨(), rfl, (SameB.refl _ _ rfl), S⟩
                refine ⟨?_, ?_⟩
                · refine ⟨_, rfl, rfl, by kernel_rfl, ?_⟩
                  rintro D ⟨⟩ a z S F
                  refine ⟨by kernel_rfl, ?_⟩
                  exact op_load _ _ (some ⟨b16, 0, none⟩) 1 (.int .i64 s.to) F rfl (by kernel_rfl) (by kernel_rfl) (cBox S 7 rfl (j := 1) rfl) (⟨(), rfl, (SameB.refl _ _ rfl), S⟩)
                refine ⟨?_, ?_⟩
                · refine ⟨_, rfl, rfl, by kernel_rfl, ?_⟩
                  rintro D ⟨⟩ a z S F
                  refine ⟨by kernel_rfl, ?_⟩
                  exact op_load _ _ (some ⟨b11, 0, none⟩) 1 (.int .i64 e.b) F rfl (by kernel_rfl) (by kernel_rfl) (cBox S 5 rfl (j := 1) rfl) (⟨(), rfl, (SameB.refl _ _ rfl), S⟩)
                refine ⟨?_, ?_⟩
                · refine ⟨_, rfl, rfl, by kernel_rfl, ?_⟩
                  rintro D ⟨⟩ a z S F
                  refine ⟨by kernel_rfl, ?_⟩
                  exact op_pure F (v0 := .bool ((s.to : Int) == (e.b : Int))) (v := .bool false) (by kernel_rfl) (eqlF ht18) ⟨(), rfl, (SameB.refl _ _ rfl), S⟩
                trivial
              · rintro ⟨⟩ a z F S
                have F := F.sub (l := [(1, .int .i64 n), (2, .int .u64 am), (3, .int .u64 le), (4, .pointer (some ⟨b1, 0, none⟩)), (9, .pointer (some ⟨b7, 0, none⟩)), (10, .int .i64 (i : Nat)), (11, .pointer (some ⟨b11, 0, none⟩)), (12, .int .i64 0), (14, .int .i64 ((((stepsP x e.a).take j).countP (isStp i e.b e.c0)) : Nat)), (49, .slice A5 x.edges.length c6), (50, .int .i64 (x.edges.length : Nat)), (51, .int .i64 (i : Nat)), (57, .agg #[.int .i64 e.a, .int .i64 e.b]), (58, .int .i64 0), (64, .slice A12 ((stepsP x e.a).length) c13), (65, .int .i64 ((stepsP x e.a).length : Nat)), (66, .int .i64 (j : Nat)), (92, .bool false)]) ⟨by kernel_rfl, by kernel_rfl, by kernel_rfl, by kernel_rfl, by kernel_rfl, by kernel_rfl, by kernel_rfl, by kernel_rfl, by kernel_rfl, by kernel_rfl, by kernel_rfl, by kernel_rfl, by kernel_rfl, by kernel_rfl, by kernel_rfl, by kernel_rfl, by kernel_rfl, by kernel_rfl, trivial⟩
                have S : Sat w z [rest w (· < w.heap.size), box b1 25 [.slice As x.spots.length cs, .slice Ae x.edges.length ce], row 74 2 (.slice A3 x.spots.length c4) x.spots.length (x.spots.flatMap spC), row 52 8 (.slice A5 x.edges.length c6) x.edges.length (x.edges.flatMap edC), box b7 31 [.slice A3 x.spots.length c4, .slice A5 x.edges.length c6], box b11 52 [.int .i64 e.a, .int .i64 e.b, .int .u64 e.c0, .int .u64 e.c1, .int .u64 e.b0, .int .u64 e.r0, .int .u64 e.b1, .int .u64 e.r1], row 44 5 (.slice A12 ((stepsP x e.a).length) c13) ((stepsP x e.a).length) ((stepsP x e.a).flatMap stC), box b16 44 [.int .i64 s.edge, .int .i64 s.to, .int .u64 s.can, .int .u64 s.base, .int .u64 s.rate]] := S
                refine then_n ?_
                refine c_f F rfl ?_
                refine wp_skip ?_
                refine inb_n ?_
                refine then_n ?_
                refine wp_region_list ?_
                refine l_do F rfl rfl (op_pure F (v0 := .int .i64 (IntKind.wrap .i64 ((j : Nat) + 1))) (v := .int .i64 (j + 1 : Nat)) (by kernel_rfl) (wrn_i64 (by omega) (by omega) (by omega)) fun a F => ?_)
                refine l_pure 1 (fun L => (66, .int .i64 (j + 1 : Nat)) :: L) F (by kernel_rfl) fun a F => ?_
                refine l_then ?_
                have e9 := cnt_no (p := isStp i e.b e.c0) hs (by unfold isStp; exact decide_eq_false fun h9 => ht18 h9.2.1)
                exact ⟨_, (by omega), j + 1, rfl, (by omega), F.sub ⟨by kernel_rfl, by kernel_rfl, by kernel_rfl, by kernel_rfl, by kernel_rfl, by kernel_rfl, by kernel_rfl, by kernel_rfl, by rw [e9]; kernel_rfl, by kernel_rfl, by kernel_rfl, by kernel_rfl, by kernel_rfl, by kernel_rfl, by kernel_rfl, by kernel_rfl, by kernel_rfl, trivial⟩, (S.pick [0, 1, 2, 3, 4, 5, 6] (by decide))⟩
          · skip
            refine region_gx (fun D => fun (_ : Unit) => [rest w (· < w.heap.size), box b1 25 [.slice As x.spots.length cs, .slice Ae x.edges.length ce], row 74 2 (.slice A3 x.spots.length c4) x.spots.length (x.spots.flatMap spC), row 52 8 (.slice A5 x.edges.length c6) x.edges.length (x.edges.flatMap edC), box b7 31 [.slice A3 x.spots.length c4, .slice A5 x.edges.length c6], box b11 52 [.int .i64 e.a, .int .i64 e.b, .int .u64 e.c0, .int .u64 e.c1, .int .u64 e.b0, .int .u64 e.r0, .int .u64 e.b1, .int .u64 e.r1], row 44 5 (.slice A12 ((stepsP x e.a).length) c13) ((stepsP x e.a).length) ((stepsP x e.a).flatMap stC), box b16 44 [.int .i64 s.edge, .int .i64 s.to, .int .u64 s.can, .int .u64 s.base, .int .u64 s.rate]]) (fun (_ : Unit) => [.pointer (some ⟨b16, 0, none⟩), .int .i64 s.edge, .int .i64 (i : Nat), .bool false, .bool false, undef, undef, undef, undef, undef, undef, undef, undef, .bool false, .bool false, undef, undef, undef, undef, undef, undef, undef, .bool false]) [(1, [], [3]), (3, [1], [])] () rfl (by kernel_rfl) (by kernel_rfl) F S.drew ?_ ?_ ?_ ?_ ?_
            · rintro ⟨⟩; rfl
            · rintro ⟨⟩; kernel_rfl
            · intro D D' x h
              cases x
              rfl
            · refine ⟨?_, ?_⟩
              · refine ⟨_, rfl, rfl, by kernel_rfl, ?_⟩
                rintro D ⟨⟩ a z S F
                refine ⟨by kernel_rfl, ?_⟩
                exact op_load _ _ (some ⟨b16, 0, none⟩) 0 (.int .i64 s.edge) F rfl (by kernel_rfl) (by kernel_rfl) (cBox S 7 rfl (j := 0) rfl) (⟨(), rfl, (SameB.refl _ _ rfl), S⟩)
              refine ⟨?_, ?_⟩
              · refine ⟨_, rfl, rfl, by kernel_rfl, ?_⟩
                rintro D ⟨⟩ a z S F
                refine ⟨by kernel_rfl, ?_⟩
                exact op_pure F (v0 := .bool ((s.edge : Int) == ((i : Nat) : Int))) (v := .bool false) (by kernel_rfl) (eqlF ht17) ⟨(), rfl, (SameB.refl _ _ rfl), S⟩
              trivial
            · rintro ⟨⟩ a z F S
              have F := F.sub (l := [(1, .int .i64 n), (2, .int .u64 am), (3, .int .u64 le), (4, .pointer (some ⟨b1, 0, none⟩)), (9, .pointer (some ⟨b7, 0, none⟩)), (10, .int .i64 (i : Nat)), (11, .pointer (some ⟨b11, 0, none⟩)), (12, .int .i64 0), (14, .int .i64 ((((stepsP x e.a).take j).countP (isStp i e.b e.c0)) : Nat)), (49, .slice A5 x.edges.length c6), (50, .int .i64 (x.edges.length : Nat)), (51, .int .i64 (i : Nat)), (57, .agg #[.int .i64 e.a, .int .i64 e.b]), (58, .int .i64 0), (64, .slice A12 ((stepsP x e.a).length) c13), (65, .int .i64 ((stepsP x e.a).length : Nat)), (66, .int .i64 (j : Nat)), (92, .bool false)]) ⟨by kernel_rfl, by kernel_rfl, by kernel_rfl, by kernel_rfl, by kernel_rfl, by kernel_rfl, by kernel_rfl, by kernel_rfl, by kernel_rfl, by kernel_rfl, by kernel_rfl, by kernel_rfl, by kernel_rfl, by kernel_rfl, by kernel_rfl, by kernel_rfl, by kernel_rfl, by kernel_rfl, trivial⟩
              have S : Sat w z [rest w (· < w.heap.size), box b1 25 [.slice As x.spots.length cs, .slice Ae x.edges.length ce], row 74 2 (.slice A3 x.spots.length c4) x.spots.length (x.spots.flatMap spC), row 52 8 (.slice A5 x.edges.length c6) x.edges.length (x.edges.flatMap edC), box b7 31 [.slice A3 x.spots.length c4, .slice A5 x.edges.length c6], box b11 52 [.int .i64 e.a, .int .i64 e.b, .int .u64 e.c0, .int .u64 e.c1, .int .u64 e.b0, .int .u64 e.r0, .int .u64 e.b1, .int .u64 e.r1], row 44 5 (.slice A12 ((stepsP x e.a).length) c13) ((stepsP x e.a).length) ((stepsP x e.a).flatMap stC), box b16 44 [.int .i64 s.edge, .int .i64 s.to, .int .u64 s.can, .int .u64 s.base, .int .u64 s.rate]] := S
              refine then_n ?_
              refine c_f F rfl ?_
              refine wp_skip ?_
              refine inb_n ?_
              refine then_n ?_
              refine wp_region_list ?_
              refine l_do F rfl rfl (op_pure F (v0 := .int .i64 (IntKind.wrap .i64 ((j : Nat) + 1))) (v := .int .i64 (j + 1 : Nat)) (by kernel_rfl) (wrn_i64 (by omega) (by omega) (by omega)) fun a F => ?_)
              refine l_pure 1 (fun L => (66, .int .i64 (j + 1 : Nat)) :: L) F (by kernel_rfl) fun a F => ?_
              refine l_then ?_
              have e9 := cnt_no (p := isStp i e.b e.c0) hs (by unfold isStp; exact decide_eq_false fun h9 => ht17 h9.1)
              exact ⟨_, (by omega), j + 1, rfl, (by omega), F.sub ⟨by kernel_rfl, by kernel_rfl, by kernel_rfl, by kernel_rfl, by kernel_rfl, by kernel_rfl, by kernel_rfl, by kernel_rfl, by rw [e9]; kernel_rfl, by kernel_rfl, by kernel_rfl, by kernel_rfl, by kernel_rfl, by kernel_rfl, by kernel_rfl, by kernel_rfl, by kernel_rfl, trivial⟩, (S.pick [0, 1, 2, 3, 4, 5, 6] (by decide))⟩
        · skip
          refine l_do F rfl rfl (op_pure F (v0 := .bool (decide (((j : Nat) : Int) < (((stepsP x e.a).length : Nat) : Int)))) (v := .bool false) (by kernel_rfl) (lssF ht15) fun a F => ?_)
          refine l_then ?_
          refine wp_seq ?_
          refine c_f F rfl ?_
          refine wp_exit ?_
          refine then_x ?_
          refine then_x ?_
          refine inb_x ?_
          refine then_n ?_
          refine s_reg ?_
          refine l_pure 1 (fun L => (96, .int .i64 ((((stepsP x e.a).take j).countP (isStp i e.b e.c0)) : Nat)) :: L) F (by kernel_rfl) fun a F => ?_
          refine l_do F rfl rfl (op_pure F (v0 := .bool ((((((stepsP x e.a).take j).countP (isStp i e.b e.c0)) : Nat) : Int) != (1 : Int))) (v := .bool false) (by kernel_rfl) (neqF (by have h9 := cnt_a hc0 he; rw [List.take_of_length_le (by omega), h9]; rfl)) fun a F => ?_)
          refine l_then ?_
          refine c_f F rfl ?_
          refine wp_skip ?_
          refine inb_n ?_
          refine then_n ?_
          refine wp_region_list ?_
          refine l_pure 2 (fun L => (58, .int .i64 1) :: (98, .int .i64 1) :: L) F (by kernel_rfl) fun a F => ?_
          refine l_then ?_
          refine rnd ?_
          refine s_reg ?_
          refine l_pure 1 (fun L => (59, .bool true) :: L) F (by kernel_rfl) fun a F => ?_
          refine l_then ?_
          refine wp_seq ?_
          refine c_t F rfl ?_
          refine wp_skip ?_
          refine then_n ?_
          refine wp_seq ?_
          refine wp_block ?_
          refine s_reg ?_
          refine l_pure 4 (fun L => (13, .int .i64 e.b) :: (12, .int .i64 1) :: (61, .int .i64 e.b) :: (60, .int .i64 1) :: L) F (by kernel_rfl) fun a F => ?_
          refine l_then ?_
          refine s_reg ?_
          refine l_pure 1 (fun L => (14, .int .i64 0) :: L) F (by kernel_rfl) fun a F => ?_
          refine l_then ?_
          refine wp_seq ?_
          refine s_reg ?_
          refine l_do F rfl rfl (op_loadK _ _ (some ⟨b7, 0, none⟩) 0 [.slice A3 x.spots.length c4, .slice A5 x.edges.length c6] F rfl (by kernel_rfl) (by kernel_rfl) (by kernel_rfl) (by simp) (cBoxK S 4 rfl 0 (by kernel_rfl)) (fun a F => ?_))
          refine l_pure 1 (fun L => (63, .int .i64 e.b) :: L) F (by kernel_rfl) fun a F => ?_
          refine l_do F rfl rfl (op_fn F (by kernel_rfl) (steps_any _ A3 c4 A5 c6 x (WebAt.ofNew (x := x) (w := w) S (i := 2) (j := 3) rfl rfl ⟨l1, l2⟩) ok e.b) ?_)
          rintro e z ⟨A20, c21, rfl, g⟩
          have S := S.pushThings g
          refine ⟨_, rfl, ?_⟩
          intro a F
          refine l_pure 2 (fun L => (66, .int .i64 0) :: (65, .int .i64 ((stepsP x e.b).length : Nat)) :: L) F (by kernel_rfl) fun a F => ?_
          refine l_then ?_
          refine wp_block ?_
          have hfew := steps_few x e.b
          have hcp := fun j => List.countP_le_length (p := isStp i e.a e.c1) (l := (stepsP x e.b).take j)
          refine wp_loop_m (fun m a z => ∃ (j : Nat), m = (stepsP x e.b).length - j ∧ (j ≤ (stepsP x e.b).length) ∧ Fr a 158 [(1, .int .i64 n), (2, .int .u64 am), (3, .int .u64 le), (4, .pointer (some ⟨b1, 0, none⟩)), (9, .pointer (some ⟨b7, 0, none⟩)), (10, .int .i64 (i : Nat)), (11, .pointer (some ⟨b11, 0, none⟩)), (12, .int .i64 1), (14, .int .i64 ((((stepsP x e.b).take j).countP (isStp i e.a e.c1)) : Nat)), (49, .slice A5 x.edges.length c6), (50, .int .i64 (x.edges.length : Nat)), (51, .int .i64 (i : Nat)), (57, .agg #[.int .i64 e.a, .int .i64 e.b]), (58, .int .i64 1), (64, .slice A20 ((stepsP x e.b).length) c21), (65, .int .i64 ((stepsP x e.b).length : Nat)), (66, .int .i64 (j : Nat))] ∧ Sat w z [rest w (· < w.heap.size), box b1 25 [.slice As x.spots.length cs, .slice Ae x.edges.length ce], row 74 2 (.slice A3 x.spots.length c4) x.spots.length (x.spots.flatMap spC), row 52 8 (.slice A5 x.edges.length c6) x.edges.length (x.edges.flatMap edC), box b7 31 [.slice A3 x.spots.length c4, .slice A5 x.edges.length c6], box b11 52 [.int .i64 e.a, .int .i64 e.b, .int .u64 e.c0, .int .u64 e.c1, .int .u64 e.b0, .int .u64 e.r0, .int .u64 e.b1, .int .u64 e.r1], row 44 5 (.slice A12 ((stepsP x e.a).length) c13) ((stepsP x e.a).length) ((stepsP x e.a).flatMap stC), row 44 5 (.slice A20 ((stepsP x e.b).length) c21) ((stepsP x e.b).length) ((stepsP x e.b).flatMap stC)]) _ ⟨0, rfl, Nat.zero_le _, F.sub ⟨by kernel_rfl, by kernel_rfl, by kernel_rfl, by kernel_rfl, by kernel_rfl, by kernel_rfl, by kernel_rfl, by kernel_rfl, by kernel_rfl, by kernel_rfl, by kernel_rfl, by kernel_rfl, by kernel_rfl, by kernel_rfl, by kernel_rfl, by kernel_rfl, by kernel_rfl, trivial⟩, S⟩ ?_
          rintro m a z ⟨j, hm, hf22, F, S⟩
          have hcl := hcp j
          rw [List.length_take] at hcl
          refine s_reg ?_
          by_cases ht23 : ((j : Nat) : Int) < (((stepsP x e.b).length : Nat) : Int)
          · skip
            obtain ⟨s, hs⟩ : ∃ s, (stepsP x e.b)[j]? = some s := ⟨_, List.getElem?_eq_getElem (by omega)⟩
            refine l_do F rfl rfl (op_pure F (v0 := .bool (decide (((j : Nat) : Int) < (((stepsP x e.b).length : Nat) : Int)))) (v := .bool true) (by kernel_rfl) (lssT ht23) fun a F => ?_)
            refine l_then ?_
            refine wp_seq ?_
            refine c_t F rfl ?_
            refine wp_skip ?_
            refine then_n ?_
            refine wp_seq ?_
            refine wp_block ?_
            refine s_reg ?_
            refine l_do F rfl rfl (op_index _ 44 _ _ A20 ((stepsP x e.b).length) c21 j 5 .i64 F rfl (by kernel_rfl) (by kernel_rfl) (by kernel_rfl) (by kernel_rfl) (get_lt hs) (row_some S 7 rfl (m := j) (get_lt hs)) (fun a F => ?_))
            refine l_do F rfl rfl (op_loadK _ _ A20 (j * 5) [.int .i64 s.edge, .int .i64 s.to, .int .u64 s.can, .int .u64 s.base, .int .u64 s.rate] F rfl (by kernel_rfl) (by kernel_rfl) (by kernel_rfl) (by simp) (cRecK0 S 7 stC_len rfl hs (by kernel_rfl)) (fun a F => ?_))
            refine l_do F rfl rfl (op_alloc S _ (.agg #[.int .i64 0, .int .i64 0, .int .u64 0, .int .u64 0, .int .u64 0]) rfl (by kernel_rfl) fun b24 z S a F => ?_)
            refine l_do F rfl rfl (op_storeB S 8 _ _ _ b24 0 (.agg #[.int .i64 s.edge, .int .i64 s.to, .int .u64 s.can, .int .u64 s.base, .int .u64 s.rate]) F rfl rfl (by kernel_rfl) (by kernel_rfl) (by kernel_rfl) (by kernel_rfl) (by kernel_rfl) fun z S a F => ?_)
            refine l_then ?_
            refine wp_seq ?_
            by_cases ht25 : (s.edge : Int) = ((i : Nat) : Int)
            · skip
              by_cases ht26 : (s.to : Int) = (e.a : Int)
              · skip
                by_cases ht27 : (s.can : Int) = (e.c1 : Int)
                · skip
                  refine region_gx (fun D => fun (_ : Unit) => [rest w (· < w.heap.size), box b1 25 [.slice As x.spots.length cs, .slice Ae x.edges.length ce], row 74 2 (.slice A3 x.spots.length c4) x.spots.length (x.spots.flatMap spC), row 52 8 (.slice A5 x.edges.length c6) x.edges.length (x.edges.flatMap edC), box b7 31 [.slice A3 x.spots.length c4, .slice A5 x.edges.length c6], box b11 52 [.int .i64 e.a, .int .i64 e.b, .int .u64 e.c0, .int .u64 e.c1, .int .u64 e.b0, .int .u64 e.r0, .int .u64 e.b1, .int .u64 e.r1], row 44 5 (.slice A12 ((stepsP x e.a).length) c13) ((stepsP x e.a).length) ((stepsP x e.a).flatMap stC), row 44 5 (.slice A20 ((stepsP x e.b).length) c21) ((stepsP x e.b).length) ((stepsP x e.b).flatMap stC), box b24 44 [.int .i64 s.edge, .int .i64 s.to, .int .u64 s.can, .int .u64 s.base, .int .u64 s.rate]]) (fun (_ : Unit) => [.pointer (some ⟨b24, 0, none⟩), .int .i64 s.edge, .int .i64 (i : Nat), .bool true, .bool true, .pointer (some ⟨b24, 1, none⟩), .int .i64 s.to, .int .i64 1, .int .i64 0, .pointer (some ⟨b11, 0, none⟩), .pointer (some ⟨b11, 0, none⟩), .int .i64 e.a, .bool true, .bool true, .bool true, .pointer (some ⟨b24, 2, none⟩), .int .u64 s.can, .int .i64 1, .pointer (some ⟨b11, 2, none⟩), .pointer (some ⟨b11, 3, none⟩), .int .u64 e.c1, .bool true, .bool true]) [(1, [], [3, 6, 11, 12, 16, 20, 21]), (3, [1], [6, 11, 12, 16, 20, 21]), (6, [1, 3], [12, 16, 20, 21]), (11, [1, 3], [12, 16, 20, 21]), (12, [1, 3, 6, 11], [16, 20, 21]), (16, [1, 3, 6, 11, 12], [21]), (20, [1, 3, 6, 11, 12], [21]), (21, [1, 3, 6, 11, 12, 16, 20], [])] () rfl (by kernel_rfl) (by kernel_rfl) F S.drew ?_ ?_ ?_ ?_ ?_
                  · rintro ⟨⟩; rfl
                  · rintro ⟨⟩; kernel_rfl
                  · intro D D' x h
                    cases x
                    rfl
                  · refine ⟨?_, ?_⟩
                    · refine ⟨_, rfl, rfl, by kernel_rfl, ?_⟩
                      rintro D ⟨⟩ a z S F
                      refine ⟨by kernel_rfl, ?_⟩
                      exact op_load _ _ (some ⟨b24, 0, none⟩) 0 (.int .i64 s.edge) F rfl (by kernel_rfl) (by kernel_rfl) (cBox S 8 rfl (j := 0) rfl) (⟨(), rfl, (SameB.refl _ _ rfl), S⟩)
                    refine ⟨?_, ?_⟩
                    · refine ⟨_, rfl, rfl, by kernel_rfl, ?_⟩
                      rintro D ⟨⟩ a z S F
                      refine ⟨by kernel_rfl, ?_⟩
                      exact op_pure F (v0 := .bool ((s.edge : Int) == ((i : Nat) : Int))) (v := .bool true) (by kernel_rfl) (eqlT ht25) ⟨(), rfl, (SameB.refl _ _ rfl), S⟩
                    refine ⟨?_, ?_⟩
                    · refine ⟨_, rfl, rfl, by kernel_rfl, ?_⟩
                      rintro D ⟨⟩ a z S F
                      refine ⟨by kernel_rfl, ?_⟩
                      exact op_load _ _ (some ⟨b24, 0, none⟩) 1 (.int .i64 s.to) F rfl (by kernel_rfl) (by kernel_rfl) (cBox S 8 rfl (j := 1) rfl) (⟨(), rfl, (SameB.refl _ _ rfl), S⟩)
                    refine ⟨?_, ?_⟩
                    · refine ⟨_, rfl, rfl, by kernel_rfl, ?_⟩
                      rintro D ⟨⟩ a z S F
                      refine ⟨by kernel_rfl, ?_⟩
                      exact op_load _ _ (some ⟨b11, 0, none⟩) 0 (.int .i64 e.a) F rfl (by kernel_rfl) (by kernel_rfl) (cBox S 5 rfl (j := 0) rfl) (⟨(), rfl, (SameB.refl _ _ rfl), S⟩)
                    refine ⟨?_, ?_⟩
                    · refine ⟨_, rfl, rfl, by kernel_rfl, ?_⟩
                      rintro D ⟨⟩ a z S F
                      refine ⟨by kernel_rfl, ?_⟩
                      exact op_pure F (v0 := .bool ((s.to : Int) == (e.a : Int))) (v := .bool true) (by kernel_rfl) (eqlT ht26) ⟨(), rfl, (SameB.refl _ _ rfl), S⟩
                    refine ⟨?_, ?_⟩
                    · refine ⟨_, rfl, rfl, by kernel_rfl, ?_⟩
                      rintro D ⟨⟩ a z S F
                      refine ⟨by kernel_rfl, ?_⟩
                      exact op_load _ _ (some ⟨b24, 0, none⟩) 2 (.int .u64 s.can) F rfl (by kernel_rfl) (by kernel_rfl) (cBox S 8 rfl (j := 2) rfl) (⟨(), rfl, (SameB.refl _ _ rfl), S⟩)
                    refine ⟨?_, ?_⟩
                    · refine ⟨_, rfl, rfl, by kernel_rfl, ?_⟩
                      rintro D ⟨⟩ a z S F
                      refine ⟨by kernel_rfl, ?_⟩
                      exact op_load _ _ (some ⟨b11, 0, none⟩) 3 (.int .u64 e.c1) F rfl (by kernel_rfl) (by kernel_rfl) (cBox S 5 rfl (j := 3) rfl) (⟨(), rfl, (SameB.refl _ _ rfl), S⟩)
                    refine ⟨?_, ?_⟩
                    · refine ⟨_, rfl, rfl, by kernel_rfl, ?_⟩
                      rintro D ⟨⟩ a z S F
                      refine ⟨by kernel_rfl, ?_⟩
                      exact op_pure F (v0 := .bool ((s.can : Int) == (e.c1 : Int))) (v := .bool true) (by kernel_rfl) (eqlT ht27) ⟨(), rfl, (SameB.refl _ _ rfl), S⟩
                    trivial
                  · rintro ⟨⟩ a z F S
                    have F := F.sub (l := [(1, .int .i64 n), (2, .int .u64 am), (3, .int .u64 le), (4, .pointer (some ⟨b1, 0, none⟩)), (9, .pointer (some ⟨b7, 0, none⟩)), (10, .int .i64 (i : Nat)), (11, .pointer (some ⟨b11, 0, none⟩)), (12, .int .i64 1), (14, .int .i64 ((((stepsP x e.b).take j).countP (isStp i e.a e.c1)) : Nat)), (49, .slice A5 x.edges.length c6), (50, .int .i64 (x.edges.length : Nat)), (51, .int .i64 (i : Nat)), (57, .agg #[.int .i64 e.a, .int .i64 e.b]), (58, .int .i64 1), (64, .slice A20 ((stepsP x e.b).length) c21), (65, .int .i64 ((stepsP x e.b).length : Nat)), (66, .int .i64 (j : Nat)), (92, .bool true)]) ⟨by kernel_rfl, by kernel_rfl, by kernel_rfl, by kernel_rfl, by kernel_rfl, by kernel_rfl, by kernel_rfl, by kernel_rfl, by kernel_rfl, by kernel_rfl, by kernel_rfl, by kernel_rfl, by kernel_rfl, by kernel_rfl, by kernel_rfl, by kernel_rfl, by kernel_rfl, by kernel_rfl, trivial⟩
                    have S : Sat w z [rest w (· < w.heap.size), box b1 25 [.slice As x.spots.length cs, .slice Ae x.edges.length ce], row 74 2 (.slice A3 x.spots.length c4) x.spots.length (x.spots.flatMap spC), row 52 8 (.slice A5 x.edges.length c6) x.edges.length (x.edges.flatMap edC), box b7 31 [.slice A3 x.spots.length c4, .slice A5 x.edges.length c6], box b11 52 [.int .i64 e.a, .int .i64 e.b, .int .u64 e.c0, .int .u64 e.c1, .int .u64 e.b0, .int .u64 e.r0, .int .u64 e.b1, .int .u64 e.r1], row 44 5 (.slice A12 ((stepsP x e.a).length) c13) ((stepsP x e.a).length) ((stepsP x e.a).flatMap stC), row 44 5 (.slice A20 ((stepsP x e.b).length) c21) ((stepsP x e.b).length) ((stepsP x e.b).flatMap stC), box b24 44 [.int .i64 s.edge, .int .i64 s.to, .int .u64 s.can, .int .u64 s.base, .int .u64 s.rate]] := S
                    refine then_n ?_
                    refine c_t F rfl ?_
                    refine wp_region_list ?_
                    refine l_pure 1 (fun L => (93, .int .i64 ((((stepsP x e.b).take j).countP (isStp i e.a e.c1)) : Nat)) :: L) F (by kernel_rfl) fun a F => ?_
                    refine l_do F rfl rfl (op_pure F (v0 := .int .i64 (IntKind.wrap .i64 (((((stepsP x e.b).take j).countP (isStp i e.a e.c1)) : Nat) + 1))) (v := .int .i64 ((((stepsP x e.b).take j).countP (isStp i e.a e.c1)) + 1 : Nat)) (by kernel_rfl) (wrn_i64 (by omega) (by omega) (by omega)) fun a F => ?_)
                    refine l_pure 1 (fun L => (14, .int .i64 ((((stepsP x e.b).take j).countP (isStp i e.a e.c1)) + 1 : Nat)) :: L) F (by kernel_rfl) fun a F => ?_
                    refine l_nil (inb_n ?_)
                    refine then_n ?_
                    refine wp_region_list ?_
                    refine l_do F rfl rfl (op_pure F (v0 := .int .i64 (IntKind.wrap .i64 ((j : Nat) + 1))) (v := .int .i64 (j + 1 : Nat)) (by kernel_rfl) (wrn_i64 (by omega) (by omega) (by omega)) fun a F => ?_)
                    refine l_pure 1 (fun L => (66, .int .i64 (j + 1 : Nat)) :: L) F (by kernel_rfl) fun a F => ?_
                    refine l_then ?_
                    have e9 := cnt_yes (p := isStp i e.a e.c1) hs (by unfold isStp; exact decide_eq_true ⟨ht25, ht26, ht27⟩)
                    exact ⟨_, (by omega), j + 1, rfl, (by omega), F.sub ⟨by kernel_rfl, by kernel_rfl, by kernel_rfl, by kernel_rfl, by kernel_rfl, by kernel_rfl, by kernel_rfl, by kernel_rfl, by rw [e9]; kernel_rfl, by kernel_rfl, by kernel_rfl, by kernel_rfl, by kernel_rfl, by kernel_rfl, by kernel_rfl, by kernel_rfl, by kernel_rfl, trivial⟩, (S.pick [0, 1, 2, 3, 4, 5, 6, 7] (by decide))⟩
                · skip
                  refine region_gx (fun D => fun (_ : Unit) => [rest w (· < w.heap.size), box b1 25 [.slice As x.spots.length cs, .slice Ae x.edges.length ce], row 74 2 (.slice A3 x.spots.length c4) x.spots.length (x.spots.flatMap spC), row 52 8 (.slice A5 x.edges.length c6) x.edges.length (x.edges.flatMap edC), box b7 31 [.slice A3 x.spots.length c4, .slice A5 x.edges.length c6], box b11 52 [.int .i64 e.a, .int .i64 e.b, .int .u64 e.c0, .int .u64 e.c1, .int .u64 e.b0, .int .u64 e.r0, .int .u64 e.b1, .int .u64 e.r1], row 44 5 (.slice A12 ((stepsP x e.a).length) c13) ((stepsP x e.a).length) ((stepsP x e.a).flatMap stC), row 44 5 (.slice A20 ((stepsP x e.b).length) c21) ((stepsP x e.b).length) ((stepsP x e.b).flatMap stC), box b24 44 [.int .i64 s.edge, .int .i64 s.to, .int .u64 s.can, .int .u64 s.base, .int .u64 s.rate]]) (fun (_ : Unit) => [.pointer (some ⟨b24, 0, none⟩), .int .i64 s.edge, .int .i64 (i : Nat), .bool true, .bool true, .pointer (some ⟨b24, 1, none⟩), .int .i64 s.to, .int .i64 1, .int .i64 0, .pointer (some ⟨b11, 0, none⟩), .pointer (some ⟨b11, 0, none⟩), .int .i64 e.a, .bool true, .bool true, .bool true, .pointer (some ⟨b24, 2, none⟩), .int .u64 s.can, .int .i64 1, .pointer (some ⟨b11, 2, none⟩), .pointer (some ⟨b11, 3, none⟩), .int .u64 e.c1, .bool false, .bool false]) [(1, [], [3, 6, 11, 12, 16, 20, 21]), (3, [1], [6, 11, 12, 16, 20, 21]), (6, [1, 3], [12, 16, 20, 21]), (11, [1, 3], [12, 16, 20, 21]), (12, [1, 3, 6, 11], [16, 20, 21]), (16, [1, 3, 6, 11, 12], [21]), (20, [1, 3, 6, 11, 12], [21]), (21, [1, 3, 6, 11, 12, 16, 20], [])] () rfl (by kernel_rfl) (by kernel_rfl) F S.drew ?_ ?_ ?_ ?_ ?_
                  · rintro ⟨⟩; rfl
                  · rintro ⟨⟩; kernel_rfl
                  · intro D D' x h
                    cases x
                    rfl
                  · refine ⟨?_, ?_⟩
                    · refine ⟨_, rfl, rfl, by kernel_rfl, ?_⟩
                      rintro D ⟨⟩ a z S F
                      refine ⟨by kernel_rfl, ?_⟩
                      exact op_load _ _ (some ⟨b24, 0, none⟩) 0 (.int .i64 s.edge) F rfl (by kernel_rfl) (by kernel_rfl) (cBox S 8 rfl (j := 0) rfl) (⟨(), rfl, (SameB.refl _ _ rfl), S⟩)
                    refine ⟨?_, ?_⟩
                    · refine ⟨_, rfl, rfl, by kernel_rfl, ?_⟩
                      rintro D ⟨⟩ a z S F
                      refine ⟨by kernel_rfl, ?_⟩
                      exact op_pure F (v0 := .bool ((s.edge : Int) == ((i : Nat) : Int))) (v := .bool true) (by kernel_rfl) (eqlT ht25) ⟨(), rfl, (SameB.refl _ _ rfl), S⟩
                    refine ⟨?_, ?_⟩
                    · refine ⟨_, rfl, rfl, by kernel_rfl, ?_⟩
                      rintro D ⟨⟩ a z S F
                      refine ⟨by kernel_rfl, ?_⟩
                      exact op_load _ _ (some ⟨b24, 0, none⟩) 1 (.int .i64 s.to) F rfl (by kernel_rfl) (by kernel_rfl) (cBox S 8 rfl (j := 1) rfl) (⟨(), rfl, (SameB.refl _ _ rfl), S⟩)
                    refine ⟨?_, ?_⟩
                    · refine ⟨_, rfl, rfl, by kernel_rfl, ?_⟩
                      rintro D ⟨⟩ a z S F
                      refine ⟨by kernel_rfl, ?_⟩
                      exact op_load _ _ (some ⟨b11, 0, none⟩) 0 (.int .i64 e.a) F rfl (by kernel_rfl) (by kernel_rfl) (cBox S 5 rfl (j := 0) rfl) (⟨(), rfl, (SameB.refl _ _ rfl), S⟩)
                    refine ⟨?_, ?_⟩
                    · refine ⟨_, rfl, rfl, by kernel_rfl, ?_⟩
                      rintro D ⟨⟩ a z S F
                      refine ⟨by kernel_rfl, ?_⟩
                      exact op_pure F (v0 := .bool ((s.to : Int) == (e.a : Int))) (v := .bool true) (by kernel_rfl) (eqlT ht26) ⟨(), rfl, (SameB.refl _ _ rfl), S⟩
                    refine ⟨?_, ?_⟩
                    · refine ⟨_, rfl, rfl, by kernel_rfl, ?_⟩
                      rintro D ⟨⟩ a z S F
                      refine ⟨by kernel_rfl, ?_⟩
                      exact op_load _ _ (some ⟨b24, 0, none⟩) 2 (.int .u64 s.can) F rfl (by kernel_rfl) (by kernel_rfl) (cBox S 8 rfl (j := 2) rfl) (⟨(), rfl, (SameB.refl _ _ rfl), S⟩)
                    refine ⟨?_, ?_⟩
                    · refine ⟨_, rfl, rfl, by kernel_rfl, ?_⟩
                      rintro D ⟨⟩ a z S F
                      refine ⟨by kernel_rfl, ?_⟩
                      exact op_load _ _ (some ⟨b11, 0, none⟩) 3 (.int .u64 e.c1) F rfl (by kernel_rfl) (by kernel_rfl) (cBox S 5 rfl (j := 3) rfl) (⟨(), rfl, (SameB.refl _ _ rfl), S⟩)
                    refine ⟨?_, ?_⟩
                    · refine ⟨_, rfl, rfl, by kernel_rfl, ?_⟩
                      rintro D ⟨⟩ a z S F
                      refine ⟨by kernel_rfl, ?_⟩
                      exact op_pure F (v0 := .bool ((s.can : Int) == (e.c1 : Int))) (v := .bool false) (by kernel_rfl) (eqlF ht27) ⟨(), rfl, (SameB.refl _ _ rfl), S⟩
                    trivial
                  · rintro ⟨⟩ a z F S
                    have F := F.sub (l := [(1, .int .i64 n), (2, .int .u64 am), (3, .int .u64 le), (4, .pointer (some ⟨b1, 0, none⟩)), (9, .pointer (some ⟨b7, 0, none⟩)), (10, .int .i64 (i : Nat)), (11, .pointer (some ⟨b11, 0, none⟩)), (12, .int .i64 1), (14, .int .i64 ((((stepsP x e.b).take j).countP (isStp i e.a e.c1)) : Nat)), (49, .slice A5 x.edges.length c6), (50, .int .i64 (x.edges.length : Nat)), (51, .int .i64 (i : Nat)), (57, .agg #[.int .i64 e.a, .int .i64 e.b]), (58, .int .i64 1), (64, .slice A20 ((stepsP x e.b).length) c21), (65, .int .i64 ((stepsP x e.b).length : Nat)), (66, .int .i64 (j : Nat)), (92, .bool false)]) ⟨by kernel_rfl, by kernel_rfl, by kernel_rfl, by kernel_rfl, by kernel_rfl, by kernel_rfl, by kernel_rfl, by kernel_rfl, by kernel_rfl, by kernel_rfl, by kernel_rfl, by kernel_rfl, by kernel_rfl, by kernel_rfl, by kernel_rfl, by kernel_rfl, by kernel_rfl, by kernel_rfl, trivial⟩
                    have S : Sat w z [rest w (· < w.heap.size), box b1 25 [.slice As x.spots.length cs, .slice Ae x.edges.length ce], row 74 2 (.slice A3 x.spots.length c4) x.spots.length (x.spots.flatMap spC), row 52 8 (.slice A5 x.edges.length c6) x.edges.length (x.edges.flatMap edC), box b7 31 [.slice A3 x.spots.length c4, .slice A5 x.edges.length c6], box b11 52 [.int .i64 e.a, .int .i64 e.b, .int .u64 e.c0, .int .u64 e.c1, .int .u64 e.b0, .int .u64 e.r0, .int .u64 e.b1, .int .u64 e.r1], row 44 5 (.slice A12 ((stepsP x e.a).length) c13) ((stepsP x e.a).length) ((stepsP x e.a).flatMap stC), row 44 5 (.slice A20 ((stepsP x e.b).length) c21) ((stepsP x e.b).length) ((stepsP x e.b).flatMap stC), box b24 44 [.int .i64 s.edge, .int .i64 s.to, .int .u64 s.can, .int .u64 s.base, .int .u64 s.rate]] := S
                    refine then_n ?_
                    refine c_f F rfl ?_
                    refine wp_skip ?_
                    refine inb_n ?_
                    refine then_n ?_
                    refine wp_region_list ?_
                    refine l_do F rfl rfl (op_pure F (v0 := .int .i64 (IntKind.wrap .i64 ((j : Nat) + 1))) (v := .int .i64 (j + 1 : Nat)) (by kernel_rfl) (wrn_i64 (by omega) (by omega) (by omega)) fun a F => ?_)
                    refine l_pure 1 (fun L => (66, .int .i64 (j + 1 : Nat)) :: L) F (by kernel_rfl) fun a F => ?_
                    refine l_then ?_
                    have e9 := cnt_no (p := isStp i e.a e.c1) hs (by unfold isStp; exact decide_eq_false fun h9 => ht27 h9.2.2)
                    exact ⟨_, (by omega), j + 1, rfl, (by omega), F.sub ⟨by kernel_rfl, by kernel_rfl, by kernel_rfl, by kernel_rfl, by kernel_rfl, by kernel_rfl, by kernel_rfl, by kernel_rfl, by rw [e9]; kernel_rfl, by kernel_rfl, by kernel_rfl, by kernel_rfl, by kernel_rfl, by kernel_rfl, by kernel_rfl, by kernel_rfl, by kernel_rfl, trivial⟩, (S.pick [0, 1, 2, 3, 4, 5, 6, 7] (by decide))⟩
              · skip
                refine region_gx (fun D => fun (_ : Unit) => [rest w (· < w.heap.size), box b1 25 [.slice As x.spots.length cs, .slice Ae x.edges.length ce], row 74 2 (.slice A3 x.spots.length c4) x.spots.length (x.spots.flatMap spC), row 52 8 (.slice A5 x.edges.length c6) x.edges.length (x.edges.flatMap edC), box b7 31 [.slice A3 x.spots.length c4, .slice A5 x.edges.length c6], box b11 52 [.int .i64 e.a, .int .i64 e.b, .int .u64 e.c0, .int .u64 e.c1, .int .u64 e.b0, .int .u64 e.r0, .int .u64 e.b1, .int .u64 e.r1], row 44 5 (.slice A12 ((stepsP x e.a).length) c13) ((stepsP x e.a).length) ((stepsP x e.a).flatMap stC), row 44 5 (.slice A20 ((stepsP x e.b).length) c21) ((stepsP x e.b).length) ((stepsP x e.b).flatMap stC), box b24 44 [.int .i64 s.edge, .int .i64 s.to, .int .u64 s.can, .int .u64 s.base, .int .u64 s.rate]]) (fun (_ : Unit) => [.pointer (some ⟨b24, 0, none⟩), .int .i64 s.edge, .int .i64 (i : Nat), .bool true, .bool true, .pointer (some ⟨b24, 1, none⟩), .int .i64 s.to, .int .i64 1, .int .i64 0, .pointer (some ⟨b11, 0, none⟩), .pointer (some ⟨b11, 0, none⟩), .int .i64 e.a, .bool false, .bool false, .bool false, undef, undef, undef, undef, undef, undef, undef, .bool false]) [(1, [], [3, 6, 11, 12]), (3, [1], [6, 11, 12]), (6, [1, 3], [12]), (11, [1, 3], [12]), (12, [1, 3, 6, 11], [])] () rfl (by kernel_rfl) (by kernel_rfl) F S.drew ?_ ?_ ?_ ?_ ?_
                · rintro ⟨⟩; rfl
                · rintro ⟨⟩; kernel_rfl
                · intro D D' x h
                  cases x
                  rfl
                · refine ⟨?_, ?_⟩
                  · refine ⟨_, rfl, rfl, by kernel_rfl, ?_⟩
                    rintro D ⟨⟩ a z S F
                    refine ⟨by kernel_rfl, ?_⟩
                    exact op_load _ _ (some ⟨b24, 0, none⟩) 0 (.int .i64 s.edge) F rfl (by kernel_rfl) (by kernel_rfl) (cBox S 8 rfl (j := 0) rfl) (⟨(), rfl, (SameB.refl _ _ rfl), S⟩)
                  refine ⟨?_, ?_⟩
                  · refine ⟨_, rfl, rfl, by kernel_rfl, ?_⟩
                    rintro D ⟨⟩ a z S F
                    refine ⟨by kernel_rfl, ?_⟩
                    exact op_pure F (v0 := .bool ((s.edge : Int) == ((i : Nat) : Int))) (v := .bool true) (by kernel_rfl) (eqlT ht25) ⟨(), rfl, (SameB.refl _ _ rfl), S⟩
                  refine ⟨?_, ?_⟩
                  · refine ⟨_, rfl, rfl, by kernel_rfl, ?_⟩
                    rintro D ⟨⟩ a z S F
                    refine ⟨by kernel_rfl, ?_⟩
                    exact op_load _ _ (some ⟨b24, 0, none⟩) 1 (.int .i64 s.to) F rfl (by kernel_rfl) (by kernel_rfl) (cBox S 8 rfl (j := 1) rfl) (⟨(), rfl, (SameB.refl _ _ rfl), S⟩)
                  refine ⟨?_, ?_⟩
                  · refine ⟨_, rfl, rfl, by kernel_rfl, ?_⟩
                    rintro D ⟨⟩ a z S F
                    refine ⟨by kernel_rfl, ?_⟩
                    exact op_load _ _ (some ⟨b11, 0, none⟩) 0 (.int .i64 e.a) F rfl (by kernel_rfl) (by kernel_rfl) (cBox S 5 rfl (j := 0) rfl) (⟨(), rfl, (SameB.refl _ _ rfl), S⟩)
                  refine ⟨?_, ?_⟩
                  · refine ⟨_, rfl, rfl, by kernel_rfl, ?_⟩
                    rintro D ⟨⟩ a z S F
                    refine ⟨by kernel_rfl, ?_⟩
                    exact op_pure F (v0 := .bool ((s.to : Int) == (e.a : Int))) (v := .bool false) (by kernel_rfl) (eqlF ht26) ⟨(), rfl, (SameB.refl _ _ rfl), S⟩
                  trivial
                · rintro ⟨⟩ a z F S
                  have F := F.sub (l := [(1, .int .i64 n), (2, .int .u64 am), (3, .int .u64 le), (4, .pointer (some ⟨b1, 0, none⟩)), (9, .pointer (some ⟨b7, 0, none⟩)), (10, .int .i64 (i : Nat)), (11, .pointer (some ⟨b11, 0, none⟩)), (12, .int .i64 1), (14, .int .i64 ((((stepsP x e.b).take j).countP (isStp i e.a e.c1)) : Nat)), (49, .slice A5 x.edges.length c6), (50, .int .i64 (x.edges.length : Nat)), (51, .int .i64 (i : Nat)), (57, .agg #[.int .i64 e.a, .int .i64 e.b]), (58, .int .i64 1), (64, .slice A20 ((stepsP x e.b).length) c21), (65, .int .i64 ((stepsP x e.b).length : Nat)), (66, .int .i64 (j : Nat)), (92, .bool false)]) ⟨by kernel_rfl, by kernel_rfl, by kernel_rfl, by kernel_rfl, by kernel_rfl, by kernel_rfl, by kernel_rfl, by kernel_rfl, by kernel_rfl, by kernel_rfl, by kernel_rfl, by kernel_rfl, by kernel_rfl, by kernel_rfl, by kernel_rfl, by kernel_rfl, by kernel_rfl, by kernel_rfl, trivial⟩
                  have S : Sat w z [rest w (· < w.heap.size), box b1 25 [.slice As x.spots.length cs, .slice Ae x.edges.length ce], row 74 2 (.slice A3 x.spots.length c4) x.spots.length (x.spots.flatMap spC), row 52 8 (.slice A5 x.edges.length c6) x.edges.length (x.edges.flatMap edC), box b7 31 [.slice A3 x.spots.length c4, .slice A5 x.edges.length c6], box b11 52 [.int .i64 e.a, .int .i64 e.b, .int .u64 e.c0, .int .u64 e.c1, .int .u64 e.b0, .int .u64 e.r0, .int .u64 e.b1, .int .u64 e.r1], row 44 5 (.slice A12 ((stepsP x e.a).length) c13) ((stepsP x e.a).length) ((stepsP x e.a).flatMap stC), row 44 5 (.slice A20 ((stepsP x e.b).length) c21) ((stepsP x e.b).length) ((stepsP x e.b).flatMap stC), box b24 44 [.int .i64 s.edge, .int .i64 s.to, .int .u64 s.can, .int .u64 s.base, .int .u64 s.rate]] := S
                  refine then_n ?_
                  refine c_f F rfl ?_
                  refine wp_skip ?_
                  refine inb_n ?_
                  refine then_n ?_
                  refine wp_region_list ?_
                  refine l_do F rfl rfl (op_pure F (v0 := .int .i64 (IntKind.wrap .i64 ((j : Nat) + 1))) (v := .int .i64 (j + 1 : Nat)) (by kernel_rfl) (wrn_i64 (by omega) (by omega) (by omega)) fun a F => ?_)
                  refine l_pure 1 (fun L => (66, .int .i64 (j + 1 : Nat)) :: L) F (by kernel_rfl) fun a F => ?_
                  refine l_then ?_
                  have e9 := cnt_no (p := isStp i e.a e.c1) hs (by unfold isStp; exact decide_eq_false fun h9 => ht26 h9.2.1)
                  exact ⟨_, (by omega), j + 1, rfl, (by omega), F.sub ⟨by kernel_rfl, by kernel_rfl, by kernel_rfl, by kernel_rfl, by kernel_rfl, by kernel_rfl, by kernel_rfl, by kernel_rfl, by rw [e9]; kernel_rfl, by kernel_rfl, by kernel_rfl, by kernel_rfl, by kernel_rfl, by kernel_rfl, by kernel_rfl, by kernel_rfl, by kernel_rfl, trivial⟩, (S.pick [0, 1, 2, 3, 4, 5, 6, 7] (by decide))⟩
            · skip
              refine region_gx (fun D => fun (_ : Unit) => [rest w (· < w.heap.size), box b1 25 [.slice As x.spots.length cs, .slice Ae x.edges.length ce], row 74 2 (.slice A3 x.spots.length c4) x.spots.length (x.spots.flatMap spC), row 52 8 (.slice A5 x.edges.length c6) x.edges.length (x.edges.flatMap edC), box b7 31 [.slice A3 x.spots.length c4, .slice A5 x.edges.length c6], box b11 52 [.int .i64 e.a, .int .i64 e.b, .int .u64 e.c0, .int .u64 e.c1, .int .u64 e.b0, .int .u64 e.r0, .int .u64 e.b1, .int .u64 e.r1], row 44 5 (.slice A12 ((stepsP x e.a).length) c13) ((stepsP x e.a).length) ((stepsP x e.a).flatMap stC), row 44 5 (.slice A20 ((stepsP x e.b).length) c21) ((stepsP x e.b).length) ((stepsP x e.b).flatMap stC), box b24 44 [.int .i64 s.edge, .int .i64 s.to, .int .u64 s.can, .int .u64 s.base, .int .u64 s.rate]]) (fun (_ : Unit) => [.pointer (some ⟨b24, 0, none⟩), .int .i64 s.edge, .int .i64 (i : Nat), .bool false, .bool false, undef, undef, undef, undef, undef, undef, undef, undef, .bool false, .bool false, undef, undef, undef, undef, undef, undef, undef, .bool false]) [(1, [], [3]), (3, [1], [])] () rfl (by kernel_rfl) (by kernel_rfl) F S.drew ?_ ?_ ?_ ?_ ?_
              · rintro ⟨⟩; rfl
              · rintro ⟨⟩; kernel_rfl
              · intro D D' x h
                cases x
                rfl
              · refine ⟨?_, ?_⟩
                · refine ⟨_, rfl, rfl, by kernel_rfl, ?_⟩
                  rintro D ⟨⟩ a z S F
                  refine ⟨by kernel_rfl, ?_⟩
                  exact op_load _ _ (some ⟨b24, 0, none⟩) 0 (.int .i64 s.edge) F rfl (by kernel_rfl) (by kernel_rfl) (cBox S 8 rfl (j := 0) rfl) (⟨(), rfl, (SameB.refl _ _ rfl), S⟩)
                refine ⟨?_, ?_⟩
                · refine ⟨_, rfl, rfl, by kernel_rfl, ?_⟩
                  rintro D ⟨⟩ a z S F
                  refine ⟨by kernel_rfl, ?_⟩
                  exact op_pure F (v0 := .bool ((s.edge : Int) == ((i : Nat) : Int))) (v := .bool false) (by kernel_rfl) (eqlF ht25) ⟨(), rfl, (SameB.refl _ _ rfl), S⟩
                trivial
              · rintro ⟨⟩ a z F S
                have F := F.sub (l := [(1, .int .i64 n), (2, .int .u64 am), (3, .int .u64 le), (4, .pointer (some ⟨b1, 0, none⟩)), (9, .pointer (some ⟨b7, 0, none⟩)), (10, .int .i64 (i : Nat)), (11, .pointer (some ⟨b11, 0, none⟩)), (12, .int .i64 1), (14, .int .i64 ((((stepsP x e.b).take j).countP (isStp i e.a e.c1)) : Nat)), (49, .slice A5 x.edges.length c6), (50, .int .i64 (x.edges.length : Nat)), (51, .int .i64 (i : Nat)), (57, .agg #[.int .i64 e.a, .int .i64 e.b]), (58, .int .i64 1), (64, .slice A20 ((stepsP x e.b).length) c21), (65, .int .i64 ((stepsP x e.b).length : Nat)), (66, .int .i64 (j : Nat)), (92, .bool false)]) ⟨by kernel_rfl, by kernel_rfl, by kernel_rfl, by kernel_rfl, by kernel_rfl, by kernel_rfl, by kernel_rfl, by kernel_rfl, by kernel_rfl, by kernel_rfl, by kernel_rfl, by kernel_rfl, by kernel_rfl, by kernel_rfl, by kernel_rfl, by kernel_rfl, by kernel_rfl, by kernel_rfl, trivial⟩
                have S : Sat w z [rest w (· < w.heap.size), box b1 25 [.slice As x.spots.length cs, .slice Ae x.edges.length ce], row 74 2 (.slice A3 x.spots.length c4) x.spots.length (x.spots.flatMap spC), row 52 8 (.slice A5 x.edges.length c6) x.edges.length (x.edges.flatMap edC), box b7 31 [.slice A3 x.spots.length c4, .slice A5 x.edges.length c6], box b11 52 [.int .i64 e.a, .int .i64 e.b, .int .u64 e.c0, .int .u64 e.c1, .int .u64 e.b0, .int .u64 e.r0, .int .u64 e.b1, .int .u64 e.r1], row 44 5 (.slice A12 ((stepsP x e.a).length) c13) ((stepsP x e.a).length) ((stepsP x e.a).flatMap stC), row 44 5 (.slice A20 ((stepsP x e.b).length) c21) ((stepsP x e.b).length) ((stepsP x e.b).flatMap stC), box b24 44 [.int .i64 s.edge, .int .i64 s.to, .int .u64 s.can, .int .u64 s.base, .int .u64 s.rate]] := S
                refine then_n ?_
                refine c_f F rfl ?_
                refine wp_skip ?_
                refine inb_n ?_
                refine then_n ?_
                refine wp_region_list ?_
                refine l_do F rfl rfl (op_pure F (v0 := .int .i64 (IntKind.wrap .i64 ((j : Nat) + 1))) (v := .int .i64 (j + 1 : Nat)) (by kernel_rfl) (wrn_i64 (by omega) (by omega) (by omega)) fun a F => ?_)
                refine l_pure 1 (fun L => (66, .int .i64 (j + 1 : Nat)) :: L) F (by kernel_rfl) fun a F => ?_
                refine l_then ?_
                have e9 := cnt_no (p := isStp i e.a e.c1) hs (by unfold isStp; exact decide_eq_false fun h9 => ht25 h9.1)
                exact ⟨_, (by omega), j + 1, rfl, (by omega), F.sub ⟨by kernel_rfl, by kernel_rfl, by kernel_rfl, by kernel_rfl, by kernel_rfl, by kernel_rfl, by kernel_rfl, by kernel_rfl, by rw [e9]; kernel_rfl, by kernel_rfl, by kernel_rfl, by kernel_rfl, by kernel_rfl, by kernel_rfl, by kernel_rfl, by kernel_rfl, by kernel_rfl, trivial⟩, (S.pick [0, 1, 2, 3, 4, 5, 6, 7] (by decide))⟩
          · skip
            refine l_do F rfl rfl (op_pure F (v0 := .bool (decide (((j : Nat) : Int) < (((stepsP x e.b).length : Nat) : Int)))) (v := .bool false) (by kernel_rfl) (lssF ht23) fun a F => ?_)
            refine l_then ?_
            refine wp_seq ?_
            refine c_f F rfl ?_
            refine wp_exit ?_
            refine then_x ?_
            refine then_x ?_
            refine inb_x ?_
            refine then_n ?_
            refine s_reg ?_
            refine l_pure 1 (fun L => (96, .int .i64 ((((stepsP x e.b).take j).countP (isStp i e.a e.c1)) : Nat)) :: L) F (by kernel_rfl) fun a F => ?_
            refine l_do F rfl rfl (op_pure F (v0 := .bool ((((((stepsP x e.b).take j).countP (isStp i e.a e.c1)) : Nat) : Int) != (1 : Int))) (v := .bool false) (by kernel_rfl) (neqF (by have h9 := cnt_b hc0 he; rw [List.take_of_length_le (by omega), h9]; rfl)) fun a F => ?_)
            refine l_then ?_
            refine c_f F rfl ?_
            refine wp_skip ?_
            refine inb_n ?_
            refine then_n ?_
            refine wp_region_list ?_
            refine l_pure 2 (fun L => (58, .int .i64 2) :: (98, .int .i64 2) :: L) F (by kernel_rfl) fun a F => ?_
            refine l_then ?_
            refine rnd ?_
            refine s_reg ?_
            refine l_pure 1 (fun L => (59, .bool false) :: L) F (by kernel_rfl) fun a F => ?_
            refine l_then ?_
            refine wp_seq ?_
            refine c_f F rfl ?_
            refine wp_exit ?_
            refine then_x ?_
            refine then_x ?_
            refine inb_x ?_
            refine inb_n ?_
            refine then_n ?_
            refine wp_region_list ?_
            refine l_do F rfl rfl (op_pure F (v0 := .int .i64 (IntKind.wrap .i64 ((i : Nat) + 1))) (v := .int .i64 (i + 1 : Nat)) (by kernel_rfl) (wrn_i64 (by omega) (by omega) (by omega)) fun a F => ?_)
            refine l_pure 1 (fun L => (51, .int .i64 (i + 1 : Nat)) :: L) F (by kernel_rfl) fun a F => ?_
            refine l_then ?_
            exact ⟨_, (by omega), i + 1, rfl, (by omega), F.sub ⟨by kernel_rfl, by kernel_rfl, by kernel_rfl, by kernel_rfl, by kernel_rfl, by kernel_rfl, by kernel_rfl, by kernel_rfl, trivial⟩, (S.pick [0, 1, 2, 3, 4] (by decide))⟩
      · skip
        refine l_do F rfl rfl (op_pure F (v0 := .bool (decide (((i : Nat) : Int) < ((x.edges.length : Nat) : Int)))) (v := .bool false) (by kernel_rfl) (lssF ht10) fun a F => ?_)
        refine l_then ?_
        refine wp_seq ?_
        refine c_f F rfl ?_
        refine wp_exit ?_
        refine then_x ?_
        refine then_x ?_
        refine inb_x ?_
        refine then_n ?_
        refine wp_seq ?_
        by_cases ht28 : (am : Int) ≤ (le : Int)
        · skip
          have S := S.pushEmp.pushEmp
          refine region_gx (fun D => fun ((A29, c30, A31, c32) : Option Addr × Nat × Option Addr × Nat) => [rest w (· < w.heap.size), box b1 25 [.slice As x.spots.length cs, .slice Ae x.edges.length ce], row 74 2 (.slice A3 x.spots.length c4) x.spots.length (x.spots.flatMap spC), row 52 8 (.slice A5 x.edges.length c6) x.edges.length (x.edges.flatMap edC), box b7 31 [.slice A3 x.spots.length c4, .slice A5 x.edges.length c6], bif D 5 then row 3 1 (.slice A29 ((reachP x n am).length) c30) ((reachP x n am).length) ((reachP x n am).flatMap iC_i64) else emp, bif D 11 then row 3 1 (.slice A31 ((reachP x n le).length) c32) ((reachP x n le).length) ((reachP x n le).flatMap iC_i64) else emp]) (fun ((A29, c30, A31, c32) : Option Addr × Nat × Option Addr × Nat) => [.agg #[.slice A3 x.spots.length c4, .slice A5 x.edges.length c6], .int .i64 n, .int .u64 am, .int .u64 le, .int .u64 am, .slice A29 ((reachP x n am).length) c30, .agg #[.slice A3 x.spots.length c4, .slice A5 x.edges.length c6], .int .i64 n, .int .u64 am, .int .u64 le, .int .u64 le, .slice A31 ((reachP x n le).length) c32, .slice A29 ((reachP x n am).length) c30, .slice A31 ((reachP x n le).length) c32]) [(0, [], [5, 11]), (4, [], [5, 11]), (5, [0, 4], [11]), (6, [], [11]), (10, [], [11]), (11, [0, 4, 5, 6, 10], [])] (none, 0, none, 0) rfl (by kernel_rfl) (by kernel_rfl) F S.drew ?_ ?_ ?_ ?_ ?_
          · rintro ⟨A29, c30, A31, c32⟩; rfl
          · rintro ⟨A29, c30, A31, c32⟩; kernel_rfl
          · intro D D' x h
            obtain ⟨A29, c30, A31, c32⟩ := x
            simp only [h 5 (by decide), h 11 (by decide)]
          · refine ⟨?_, ?_⟩
            · refine ⟨_, rfl, rfl, by kernel_rfl, ?_⟩
              rintro D ⟨A29, c30, A31, c32⟩ a z S F
              refine ⟨by kernel_rfl, ?_⟩
              exact op_loadK _ _ (some ⟨b7, 0, none⟩) 0 [.slice A3 x.spots.length c4, .slice A5 x.edges.length c6] F rfl (by kernel_rfl) (by kernel_rfl) (by kernel_rfl) (by simp) (cBoxK S 4 rfl 0 (by kernel_rfl)) (⟨(A29, c30, A31, c32), rfl, (SameB.refl _ _ rfl), S⟩)
            refine ⟨?_, ?_⟩
            · refine ⟨_, rfl, rfl, by kernel_rfl, ?_⟩
              rintro D ⟨A29, c30, A31, c32⟩ a z S F
              refine ⟨by kernel_rfl, ?_⟩
              exact op_pure F (v0 := .int .u64 (if (le : Int) < (am : Int) then (le : Int) else (am : Int))) (v := .int .u64 am) (by kernel_rfl) (minT ht28) ⟨(A29, c30, A31, c32), rfl, (SameB.refl _ _ rfl), S⟩
            refine ⟨?_, ?_⟩
            · refine ⟨_, rfl, rfl, by kernel_rfl, ?_⟩
              rintro D ⟨A29, c30, A31, c32⟩ a z S F
              refine ⟨by kernel_rfl, ?_⟩
              refine op_fn F (by kernel_rfl) (reach_any _ A3 c4 A5 c6 x (WebAt.ofNew (x := x) (w := w) S (i := 2) (j := 3) rfl rfl ⟨l1, l2⟩) ok n am) ?_
              rintro e z ⟨y33, y34, rfl, g⟩
              have S := S.fillThing 5 rfl g
              exact ⟨_, rfl, (y33, y34, A31, c32), rfl, ⟨rfl, rfl, rfl, rfl, rfl, trivial, rfl, rfl, rfl, rfl, rfl, trivial, trivial, trivial, trivial⟩, S⟩
            refine ⟨?_, ?_⟩
            · refine ⟨_, rfl, rfl, by kernel_rfl, ?_⟩
              rintro D ⟨A29, c30, A31, c32⟩ a z S F
              refine ⟨by kernel_rfl, ?_⟩
              exact op_loadK _ _ (some ⟨b7, 0, none⟩) 0 [.slice A3 x.spots.length c4, .slice A5 x.edges.length c6] F rfl (by kernel_rfl) (by kernel_rfl) (by kernel_rfl) (by simp) (cBoxK S 4 rfl 0 (by kernel_rfl)) (⟨(A29, c30, A31, c32), rfl, (SameB.refl _ _ rfl), S⟩)
            refine ⟨?_, ?_⟩
            · refine ⟨_, rfl, rfl, by kernel_rfl, ?_⟩
              rintro D ⟨A29, c30, A31, c32⟩ a z S F
              refine ⟨by kernel_rfl, ?_⟩
              exact op_pure F (v0 := .int .u64 (if (am : Int) < (le : Int) then (le : Int) else (am : Int))) (v := .int .u64 le) (by kernel_rfl) (maxT ht28) ⟨(A29, c30, A31, c32), rfl, (SameB.refl _ _ rfl), S⟩
            refine ⟨?_, ?_⟩
            · refine ⟨_, rfl, rfl, by kernel_rfl, ?_⟩
              rintro D ⟨A29, c30, A31, c32⟩ a z S F
              refine ⟨by kernel_rfl, ?_⟩
              refine op_fn F (by kernel_rfl) (reach_any _ A3 c4 A5 c6 x (WebAt.ofNew (x := x) (w := w) S (i := 2) (j := 3) rfl rfl ⟨l1, l2⟩) ok n le) ?_
              rintro e z ⟨y37, y38, rfl, g⟩
              have S := S.fillThing 6 rfl g
              exact ⟨_, rfl, (A29, c30, y37, y38), rfl, ⟨rfl, rfl, rfl, rfl, rfl, rfl, rfl, rfl, rfl, rfl, rfl, trivial, trivial, trivial, trivial⟩, S⟩
            trivial
          · rintro ⟨A29, c30, A31, c32⟩ a z F S
            have F := F.sub (l := [(1, .int .i64 n), (4, .pointer (some ⟨b1, 0, none⟩)), (17, .slice A29 ((reachP x n am).length) c30), (18, .slice A31 ((reachP x n le).length) c32)]) ⟨by kernel_rfl, by kernel_rfl, by kernel_rfl, by kernel_rfl, trivial⟩
            have S : Sat w z [rest w (· < w.heap.size), box b1 25 [.slice As x.spots.length cs, .slice Ae x.edges.length ce], row 74 2 (.slice A3 x.spots.length c4) x.spots.length (x.spots.flatMap spC), row 52 8 (.slice A5 x.edges.length c6) x.edges.length (x.edges.flatMap edC), box b7 31 [.slice A3 x.spots.length c4, .slice A5 x.edges.length c6], row 3 1 (.slice A29 ((reachP x n am).length) c30) ((reachP x n am).length) ((reachP x n am).flatMap iC_i64), row 3 1 (.slice A31 ((reachP x n le).length) c32) ((reachP x n le).length) ((reachP x n le).flatMap iC_i64)] := S
            refine then_n ?_
            refine s_reg ?_
            refine l_pure 1 (fun L => (19, .int .i64 0) :: L) F (by kernel_rfl) fun a F => ?_
            refine l_then ?_
            refine s_reg ?_
            refine l_pure 1 (fun L => (112, .int .i64 n) :: L) F (by kernel_rfl) fun a F => ?_
            by_cases ht41 : (n : Int) < (0 : Int)
            · skip
              refine l_do F rfl rfl (op_pure F (v0 := .bool (decide ((n : Int) < (0 : Int)))) (v := .bool true) (by kernel_rfl) (lssT ht41) fun a F => ?_)
              refine l_pure 8 (fun L => (20, .bool true) :: (120, .bool true) :: (119, undef) :: (118, undef) :: (117, undef) :: (116, undef) :: (115, undef) :: (114, .bool true) :: L) F (by kernel_rfl) fun a F => ?_
              refine l_then ?_
              refine wp_seq ?_
              refine s_reg ?_
              refine l_pure 3 (fun L => (123, .int .i64 0) :: (122, .int .i64 ((reachP x n am).length : Nat)) :: (121, .slice A29 ((reachP x n am).length) c30) :: L) F (by kernel_rfl) fun a F => ?_
              refine l_then ?_
              refine wp_block ?_
              have hl1 := reach_len x n am
              have hl2 := reach_len x n le
              refine wp_loop_m (fun m a z => ∃ (k : Nat) (at_ : Nat) (sb : Bool), m = (reachP x n am).length - k ∧ (k ≤ (reachP x n am).length) ∧ (at_ ≤ (reachP x n le).length) ∧ (((reachP x n le).drop at_).Sublist ((reachP x n am).drop k)) ∧ (sb = true ∨ n ∈ (reachP x n am).drop k) ∧ Fr a 158 [(1, .int .i64 n), (18, .slice A31 ((reachP x n le).length) c32), (19, .int .i64 (at_ : Nat)), (20, .bool sb), (121, .slice A29 ((reachP x n am).length) c30), (122, .int .i64 ((reachP x n am).length : Nat)), (123, .int .i64 (k : Nat))] ∧ Sat w z [rest w (· < w.heap.size), box b1 25 [.slice As x.spots.length cs, .slice Ae x.edges.length ce], row 74 2 (.slice A3 x.spots.length c4) x.spots.length (x.spots.flatMap spC), row 52 8 (.slice A5 x.edges.length c6) x.edges.length (x.edges.flatMap edC), box b7 31 [.slice A3 x.spots.length c4, .slice A5 x.edges.length c6], row 3 1 (.slice A29 ((reachP x n am).length) c30) ((reachP x n am).length) ((reachP x n am).flatMap iC_i64), row 3 1 (.slice A31 ((reachP x n le).length) c32) ((reachP x n le).length) ((reachP x n le).flatMap iC_i64)]) _ ⟨0, 0, true, rfl, Nat.zero_le _, Nat.zero_le _, (reach_sub (by omega)), (.inl rfl), F.sub ⟨by kernel_rfl, by kernel_rfl, by kernel_rfl, by kernel_rfl, by kernel_rfl, by kernel_rfl, by kernel_rfl, trivial⟩, S⟩ ?_
              rintro m a z ⟨k, at_, sb, hm, hf42, hf43, hf44, hf45, F, S⟩
              have hg := hf44
              have hq := hf45
              refine s_reg ?_
              by_cases ht46 : ((k : Nat) : Int) < (((reachP x n am).length : Nat) : Int)
              · skip
                obtain ⟨nd, hnd⟩ : ∃ nd, (reachP x n am)[k]? = some nd := ⟨_, List.getElem?_eq_getElem (by omega)⟩
                refine l_do F rfl rfl (op_pure F (v0 := .bool (decide (((k : Nat) : Int) < (((reachP x n am).length : Nat) : Int)))) (v := .bool true) (by kernel_rfl) (lssT ht46) fun a F => ?_)
                refine l_then ?_
                refine wp_seq ?_
                refine c_t F rfl ?_
                refine wp_skip ?_
                refine then_n ?_
                refine wp_seq ?_
                refine wp_block ?_
                refine s_reg ?_
                refine l_do F rfl rfl (op_index _ 3 _ _ A29 ((reachP x n am).length) c30 k 1 .i64 F rfl (by kernel_rfl) (by kernel_rfl) (by kernel_rfl) (by kernel_rfl) (get_lt hnd) (row_some S 5 rfl (m := k) (get_lt hnd)) (fun a F => ?_))
                refine l_do F rfl rfl (op_load _ _ A29 (k * 1) (.int .i64 nd) F rfl (by kernel_rfl) (by kernel_rfl) (cRec S 5 iC_len_i64 rfl 0 hnd rfl) (fun a F => ?_))
                refine l_pure 1 (fun L => (22, .int .i64 nd) :: L) F (by kernel_rfl) fun a F => ?_
                refine l_then ?_
                refine s_reg ?_
                refine l_pure 2 (fun L => (128, .bool sb) :: (127, .bool sb) :: L) F (by kernel_rfl) fun a F => ?_
                cases sb with
                | false =>
                  skip
                  refine l_pure 2 (fun L => (130, .int .i64 n) :: (129, .int .i64 nd) :: L) F (by kernel_rfl) fun a F => ?_
                  by_cases ht47 : (nd : Int) = (n : Int)
                  · skip
                    refine l_do F rfl rfl (op_pure F (v0 := .bool ((nd : Int) == (n : Int))) (v := .bool true) (by kernel_rfl) (eqlT ht47) fun a F => ?_)
                    refine l_pure 2 (fun L => (20, .bool true) :: (132, .bool true) :: L) F (by kernel_rfl) fun a F => ?_
                    refine l_then ?_
                    refine s_reg ?_
                    refine l_pure 3 (fun L => (135, .int .i64 ((reachP x n le).length : Nat)) :: (134, .slice A31 ((reachP x n le).length) c32) :: (133, .int .i64 (at_ : Nat)) :: L) F (by kernel_rfl) fun a F => ?_
                    by_cases ht48 : ((at_ : Nat) : Int) < (((reachP x n le).length : Nat) : Int)
                    · skip
                      obtain ⟨fw, hfw⟩ : ∃ fw, (reachP x n le)[at_]? = some fw := ⟨_, List.getElem?_eq_getElem (by omega)⟩
                      refine l_do F rfl rfl (op_pure F (v0 := .bool (decide (((at_ : Nat) : Int) < (((reachP x n le).length : Nat) : Int)))) (v := .bool true) (by kernel_rfl) (lssT ht48) fun a F => ?_)
                      refine l_pure 3 (fun L => (139, .int .i64 (at_ : Nat)) :: (138, .slice A31 ((reachP x n le).length) c32) :: (137, .bool true) :: L) F (by kernel_rfl) fun a F => ?_
                      refine l_do F rfl rfl (op_index _ 3 _ _ A31 ((reachP x n le).length) c32 at_ 1 .i64 F rfl (by kernel_rfl) (by kernel_rfl) (by kernel_rfl) (by kernel_rfl) (get_lt hfw) (row_some S 6 rfl (m := at_) (get_lt hfw)) (fun a F => ?_))
                      refine l_do F rfl rfl (op_load _ _ A31 (at_ * 1) (.int .i64 fw) F rfl (by kernel_rfl) (by kernel_rfl) (cRec S 6 iC_len_i64 rfl 0 hfw rfl) (fun a F => ?_))
                      refine l_pure 1 (fun L => (142, .int .i64 nd) :: L) F (by kernel_rfl) fun a F => ?_
                      by_cases ht49 : (fw : Int) = (nd : Int)
                      · skip
                        refine l_do F rfl rfl (op_pure F (v0 := .bool ((fw : Int) == (nd : Int))) (v := .bool true) (by kernel_rfl) (eqlT ht49) fun a F => ?_)
                        refine l_pure 1 (fun L => (144, .bool true) :: L) F (by kernel_rfl) fun a F => ?_
                        refine l_then ?_
                        refine c_t F rfl ?_
                        refine wp_region_list ?_
                        refine l_pure 1 (fun L => (145, .int .i64 (at_ : Nat)) :: L) F (by kernel_rfl) fun a F => ?_
                        refine l_do F rfl rfl (op_pure F (v0 := .int .i64 (IntKind.wrap .i64 ((at_ : Nat) + 1))) (v := .int .i64 (at_ + 1 : Nat)) (by kernel_rfl) (wrn_i64 (by omega) (by omega) (by omega)) fun a F => ?_)
                        refine l_pure 1 (fun L => (19, .int .i64 (at_ + 1 : Nat)) :: L) F (by kernel_rfl) fun a F => ?_
                        refine l_nil (inb_n ?_)
                        refine then_n ?_
                        refine wp_region_list ?_
                        refine l_do F rfl rfl (op_pure F (v0 := .int .i64 (IntKind.wrap .i64 ((k : Nat) + 1))) (v := .int .i64 (k + 1 : Nat)) (by kernel_rfl) (wrn_i64 (by omega) (by omega) (by omega)) fun a F => ?_)
                        refine l_pure 1 (fun L => (123, .int .i64 (k + 1 : Nat)) :: L) F (by kernel_rfl) fun a F => ?_
                        refine l_then ?_
                        exact ⟨_, (by omega), k + 1, at_ + 1, true, rfl, (by omega), (by omega), (greedy_yes (by rw [hfw, ht49]) hnd hg), (.inl rfl), F.sub ⟨by kernel_rfl, by kernel_rfl, by kernel_rfl, by kernel_rfl, by kernel_rfl, by kernel_rfl, by kernel_rfl, trivial⟩, S⟩
                      · skip
                        refine l_do F rfl rfl (op_pure F (v0 := .bool ((fw : Int) == (nd : Int))) (v := .bool false) (by kernel_rfl) (eqlF ht49) fun a F => ?_)
                        refine l_pure 1 (fun L => (144, .bool false) :: L) F (by kernel_rfl) fun a F => ?_
                        refine l_then ?_
                        refine c_f F rfl ?_
                        refine wp_skip ?_
                        refine inb_n ?_
                        refine then_n ?_
                        refine wp_region_list ?_
                        refine l_do F rfl rfl (op_pure F (v0 := .int .i64 (IntKind.wrap .i64 ((k : Nat) + 1))) (v := .int .i64 (k + 1 : Nat)) (by kernel_rfl) (wrn_i64 (by omega) (by omega) (by omega)) fun a F => ?_)
                        refine l_pure 1 (fun L => (123, .int .i64 (k + 1 : Nat)) :: L) F (by kernel_rfl) fun a F => ?_
                        refine l_then ?_
                        exact ⟨_, (by omega), k + 1, at_, true, rfl, (by omega), (by omega), (greedy_no hfw hnd ht49 hg), (.inl rfl), F.sub ⟨by kernel_rfl, by kernel_rfl, by kernel_rfl, by kernel_rfl, by kernel_rfl, by kernel_rfl, by kernel_rfl, trivial⟩, S⟩
                    · skip
                      refine l_do F rfl rfl (op_pure F (v0 := .bool (decide (((at_ : Nat) : Int) < (((reachP x n le).length : Nat) : Int)))) (v := .bool false) (by kernel_rfl) (lssF ht48) fun a F => ?_)
                      refine l_pure 8 (fun L => (144, .bool false) :: (143, undef) :: (142, undef) :: (141, undef) :: (140, undef) :: (139, undef) :: (138, undef) :: (137, .bool false) :: L) F (by kernel_rfl) fun a F => ?_
                      refine l_then ?_
                      refine c_f F rfl ?_
                      refine wp_skip ?_
                      refine inb_n ?_
                      refine then_n ?_
                      refine wp_region_list ?_
                      refine l_do F rfl rfl (op_pure F (v0 := .int .i64 (IntKind.wrap .i64 ((k : Nat) + 1))) (v := .int .i64 (k + 1 : Nat)) (by kernel_rfl) (wrn_i64 (by omega) (by omega) (by omega)) fun a F => ?_)
                      refine l_pure 1 (fun L => (123, .int .i64 (k + 1 : Nat)) :: L) F (by kernel_rfl) fun a F => ?_
                      refine l_then ?_
                      exact ⟨_, (by omega), k + 1, at_, true, rfl, (by omega), (by omega), (greedy_out (by omega)), (.inl rfl), F.sub ⟨by kernel_rfl, by kernel_rfl, by kernel_rfl, by kernel_rfl, by kernel_rfl, by kernel_rfl, by kernel_rfl, trivial⟩, S⟩
                  · skip
                    refine l_do F rfl rfl (op_pure F (v0 := .bool ((nd : Int) == (n : Int))) (v := .bool false) (by kernel_rfl) (eqlF ht47) fun a F => ?_)
                    refine l_pure 2 (fun L => (20, .bool false) :: (132, .bool false) :: L) F (by kernel_rfl) fun a F => ?_
                    refine l_then ?_
                    refine s_reg ?_
                    refine l_pure 3 (fun L => (135, .int .i64 ((reachP x n le).length : Nat)) :: (134, .slice A31 ((reachP x n le).length) c32) :: (133, .int .i64 (at_ : Nat)) :: L) F (by kernel_rfl) fun a F => ?_
                    by_cases ht50 : ((at_ : Nat) : Int) < (((reachP x n le).length : Nat) : Int)
                    · skip
                      obtain ⟨fw, hfw⟩ : ∃ fw, (reachP x n le)[at_]? = some fw := ⟨_, List.getElem?_eq_getElem (by omega)⟩
                      refine l_do F rfl rfl (op_pure F (v0 := .bool (decide (((at_ : Nat) : Int) < (((reachP x n le).length : Nat) : Int)))) (v := .bool true) (by kernel_rfl) (lssT ht50) fun a F => ?_)
                      refine l_pure 3 (fun L => (139, .int .i64 (at_ : Nat)) :: (138, .slice A31 ((reachP x n le).length) c32) :: (137, .bool true) :: L) F (by kernel_rfl) fun a F => ?_
                      refine l_do F rfl rfl (op_index _ 3 _ _ A31 ((reachP x n le).length) c32 at_ 1 .i64 F rfl (by kernel_rfl) (by kernel_rfl) (by kernel_rfl) (by kernel_rfl) (get_lt hfw) (row_some S 6 rfl (m := at_) (get_lt hfw)) (fun a F => ?_))
                      refine l_do F rfl rfl (op_load _ _ A31 (at_ * 1) (.int .i64 fw) F rfl (by kernel_rfl) (by kernel_rfl) (cRec S 6 iC_len_i64 rfl 0 hfw rfl) (fun a F => ?_))
                      refine l_pure 1 (fun L => (142, .int .i64 nd) :: L) F (by kernel_rfl) fun a F => ?_
                      by_cases ht51 : (fw : Int) = (nd : Int)
                      · skip
                        refine l_do F rfl rfl (op_pure F (v0 := .bool ((fw : Int) == (nd : Int))) (v := .bool true) (by kernel_rfl) (eqlT ht51) fun a F => ?_)
                        refine l_pure 1 (fun L => (144, .bool true) :: L) F (by kernel_rfl) fun a F => ?_
                        refine l_then ?_
                        refine c_t F rfl ?_
                        refine wp_region_list ?_
                        refine l_pure 1 (fun L => (145, .int .i64 (at_ : Nat)) :: L) F (by kernel_rfl) fun a F => ?_
                        refine l_do F rfl rfl (op_pure F (v0 := .int .i64 (IntKind.wrap .i64 ((at_ : Nat) + 1))) (v := .int .i64 (at_ + 1 : Nat)) (by kernel_rfl) (wrn_i64 (by omega) (by omega) (by omega)) fun a F => ?_)
                        refine l_pure 1 (fun L => (19, .int .i64 (at_ + 1 : Nat)) :: L) F (by kernel_rfl) fun a F => ?_
                        refine l_nil (inb_n ?_)
                        refine then_n ?_
                        refine wp_region_list ?_
                        refine l_do F rfl rfl (op_pure F (v0 := .int .i64 (IntKind.wrap .i64 ((k : Nat) + 1))) (v := .int .i64 (k + 1 : Nat)) (by kernel_rfl) (wrn_i64 (by omega) (by omega) (by omega)) fun a F => ?_)
                        refine l_pure 1 (fun L => (123, .int .i64 (k + 1 : Nat)) :: L) F (by kernel_rfl) fun a F => ?_
                        refine l_then ?_
                        exact ⟨_, (by omega), k + 1, at_ + 1, false, rfl, (by omega), (by omega), (greedy_yes (by rw [hfw, ht51]) hnd hg), (.inr (drop_mem hnd (hq.resolve_left (by simp)) ht47)), F.sub ⟨by kernel_rfl, by kernel_rfl, by kernel_rfl, by kernel_rfl, by kernel_rfl, by kernel_rfl, by kernel_rfl, trivial⟩, S⟩
                      · skip
                        refine l_do F rfl rfl (op_pure F (v0 := .bool ((fw : Int) == (nd : Int))) (v := .bool false) (by kernel_rfl) (eqlF ht51) fun a F => ?_)
                        refine l_pure 1 (fun L => (144, .bool false) :: L) F (by kernel_rfl) fun a F => ?_
                        refine l_then ?_
                        refine c_f F rfl ?_
                        refine wp_skip ?_
                        refine inb_n ?_
                        refine then_n ?_
                        refine wp_region_list ?_
                        refine l_do F rfl rfl (op_pure F (v0 := .int .i64 (IntKind.wrap .i64 ((k : Nat) + 1))) (v := .int .i64 (k + 1 : Nat)) (by kernel_rfl) (wrn_i64 (by omega) (by omega) (by omega)) fun a F => ?_)
                        refine l_pure 1 (fun L => (123, .int .i64 (k + 1 : Nat)) :: L) F (by kernel_rfl) fun a F => ?_
                        refine l_then ?_
                        exact ⟨_, (by omega), k + 1, at_, false, rfl, (by omega), (by omega), (greedy_no hfw hnd ht51 hg), (.inr (drop_mem hnd (hq.resolve_left (by simp)) ht47)), F.sub ⟨by kernel_rfl, by kernel_rfl, by kernel_rfl, by kernel_rfl, by kernel_rfl, by kernel_rfl, by kernel_rfl, trivial⟩, S⟩
                    · skip
                      refine l_do F rfl rfl (op_pure F (v0 := .bool (decide (((at_ : Nat) : Int) < (((reachP x n le).length : Nat) : Int)))) (v := .bool false) (by kernel_rfl) (lssF ht50) fun a F => ?_)
                      refine l_pure 8 (fun L => (144, .bool false) :: (143, undef) :: (142, undef) :: (141, undef) :: (140, undef) :: (139, undef) :: (138, undef) :: (137, .bool false) :: L) F (by kernel_rfl) fun a F => ?_
                      refine l_then ?_
                      refine c_f F rfl ?_
                      refine wp_skip ?_
                      refine inb_n ?_
                      refine then_n ?_
                      refine wp_region_list ?_
                      refine l_do F rfl rfl (op_pure F (v0 := .int .i64 (IntKind.wrap .i64 ((k : Nat) + 1))) (v := .int .i64 (k + 1 : Nat)) (by kernel_rfl) (wrn_i64 (by omega) (by omega) (by omega)) fun a F => ?_)
                      refine l_pure 1 (fun L => (123, .int .i64 (k + 1 : Nat)) :: L) F (by kernel_rfl) fun a F => ?_
                      refine l_then ?_
                      exact ⟨_, (by omega), k + 1, at_, false, rfl, (by omega), (by omega), (greedy_out (by omega)), (.inr (drop_mem hnd (hq.resolve_left (by simp)) ht47)), F.sub ⟨by kernel_rfl, by kernel_rfl, by kernel_rfl, by kernel_rfl, by kernel_rfl, by kernel_rfl, by kernel_rfl, trivial⟩, S⟩
                | true =>
                  skip
                  refine l_pure 5 (fun L => (20, .bool true) :: (132, .bool true) :: (131, undef) :: (130, undef) :: (129, undef) :: L) F (by kernel_rfl) fun a F => ?_
                  refine l_then ?_
                  refine s_reg ?_
                  refine l_pure 3 (fun L => (135, .int .i64 ((reachP x n le).length : Nat)) :: (134, .slice A31 ((reachP x n le).length) c32) :: (133, .int .i64 (at_ : Nat)) :: L) F (by kernel_rfl) fun a F => ?_
                  by_cases ht52 : ((at_ : Nat) : Int) < (((reachP x n le).length : Nat) : Int)
                  · skip
                    obtain ⟨fw, hfw⟩ : ∃ fw, (reachP x n le)[at_]? = some fw := ⟨_, List.getElem?_eq_getElem (by omega)⟩
                    refine l_do F rfl rfl (op_pure F (v0 := .bool (decide (((at_ : Nat) : Int) < (((reachP x n le).length : Nat) : Int)))) (v := .bool true) (by kernel_rfl) (lssT ht52) fun a F => ?_)
                    refine l_pure 3 (fun L => (139, .int .i64 (at_ : Nat)) :: (138, .slice A31 ((reachP x n le).length) c32) :: (137, .bool true) :: L) F (by kernel_rfl) fun a F => ?_
                    refine l_do F rfl rfl (op_index _ 3 _ _ A31 ((reachP x n le).length) c32 at_ 1 .i64 F rfl (by kernel_rfl) (by kernel_rfl) (by kernel_rfl) (by kernel_rfl) (get_lt hfw) (row_some S 6 rfl (m := at_) (get_lt hfw)) (fun a F => ?_))
                    refine l_do F rfl rfl (op_load _ _ A31 (at_ * 1) (.int .i64 fw) F rfl (by kernel_rfl) (by kernel_rfl) (cRec S 6 iC_len_i64 rfl 0 hfw rfl) (fun a F => ?_))
                    refine l_pure 1 (fun L => (142, .int .i64 nd) :: L) F (by kernel_rfl) fun a F => ?_
                    by_cases ht53 : (fw : Int) = (nd : Int)
                    · skip
                      refine l_do F rfl rfl (op_pure F (v0 := .bool ((fw : Int) == (nd : Int))) (v := .bool true) (by kernel_rfl) (eqlT ht53) fun a F => ?_)
                      refine l_pure 1 (fun L => (144, .bool true) :: L) F (by kernel_rfl) fun a F => ?_
                      refine l_then ?_
                      refine c_t F rfl ?_
                      refine wp_region_list ?_
                      refine l_pure 1 (fun L => (145, .int .i64 (at_ : Nat)) :: L) F (by kernel_rfl) fun a F => ?_
                      refine l_do F rfl rfl (op_pure F (v0 := .int .i64 (IntKind.wrap .i64 ((at_ : Nat) + 1))) (v := .int .i64 (at_ + 1 : Nat)) (by kernel_rfl) (wrn_i64 (by omega) (by omega) (by omega)) fun a F => ?_)
                      refine l_pure 1 (fun L => (19, .int .i64 (at_ + 1 : Nat)) :: L) F (by kernel_rfl) fun a F => ?_
                      refine l_nil (inb_n ?_)
                      refine then_n ?_
                      refine wp_region_list ?_
                      refine l_do F rfl rfl (op_pure F (v0 := .int .i64 (IntKind.wrap .i64 ((k : Nat) + 1))) (v := .int .i64 (k + 1 : Nat)) (by kernel_rfl) (wrn_i64 (by omega) (by omega) (by omega)) fun a F => ?_)
                      refine l_pure 1 (fun L => (123, .int .i64 (k + 1 : Nat)) :: L) F (by kernel_rfl) fun a F => ?_
                      refine l_then ?_
                      exact ⟨_, (by omega), k + 1, at_ + 1, true, rfl, (by omega), (by omega), (greedy_yes (by rw [hfw, ht53]) hnd hg), (.inl rfl), F.sub ⟨by kernel_rfl, by kernel_rfl, by kernel_rfl, by kernel_rfl, by kernel_rfl, by kernel_rfl, by kernel_rfl, trivial⟩, S⟩
                    · skip
                      refine l_do F rfl rfl (op_pure F (v0 := .bool ((fw : Int) == (nd : Int))) (v := .bool false) (by kernel_rfl) (eqlF ht53) fun a F => ?_)
                      refine l_pure 1 (fun L => (144, .bool false) :: L) F (by kernel_rfl) fun a F => ?_
                      refine l_then ?_
                      refine c_f F rfl ?_
                      refine wp_skip ?_
                      refine inb_n ?_
                      refine then_n ?_
                      refine wp_region_list ?_
                      refine l_do F rfl rfl (op_pure F (v0 := .int .i64 (IntKind.wrap .i64 ((k : Nat) + 1))) (v := .int .i64 (k + 1 : Nat)) (by kernel_rfl) (wrn_i64 (by omega) (by omega) (by omega)) fun a F => ?_)
                      refine l_pure 1 (fun L => (123, .int .i64 (k + 1 : Nat)) :: L) F (by kernel_rfl) fun a F => ?_
                      refine l_then ?_
                      exact ⟨_, (by omega), k + 1, at_, true, rfl, (by omega), (by omega), (greedy_no hfw hnd ht53 hg), (.inl rfl), F.sub ⟨by kernel_rfl, by kernel_rfl, by kernel_rfl, by kernel_rfl, by kernel_rfl, by kernel_rfl, by kernel_rfl, trivial⟩, S⟩
                  · skip
                    refine l_do F rfl rfl (op_pure F (v0 := .bool (decide (((at_ : Nat) : Int) < (((reachP x n le).length : Nat) : Int)))) (v := .bool false) (by kernel_rfl) (lssF ht52) fun a F => ?_)
                    refine l_pure 8 (fun L => (144, .bool false) :: (143, undef) :: (142, undef) :: (141, undef) :: (140, undef) :: (139, undef) :: (138, undef) :: (137, .bool false) :: L) F (by kernel_rfl) fun a F => ?_
                    refine l_then ?_
                    refine c_f F rfl ?_
                    refine wp_skip ?_
                    refine inb_n ?_
                    refine then_n ?_
                    refine wp_region_list ?_
                    refine l_do F rfl rfl (op_pure F (v0 := .int .i64 (IntKind.wrap .i64 ((k : Nat) + 1))) (v := .int .i64 (k + 1 : Nat)) (by kernel_rfl) (wrn_i64 (by omega) (by omega) (by omega)) fun a F => ?_)
                    refine l_pure 1 (fun L => (123, .int .i64 (k + 1 : Nat)) :: L) F (by kernel_rfl) fun a F => ?_
                    refine l_then ?_
                    exact ⟨_, (by omega), k + 1, at_, true, rfl, (by omega), (by omega), (greedy_out (by omega)), (.inl rfl), F.sub ⟨by kernel_rfl, by kernel_rfl, by kernel_rfl, by kernel_rfl, by kernel_rfl, by kernel_rfl, by kernel_rfl, trivial⟩, S⟩
              · skip
                have hsb : sb = true := by
                  rcases hq with h | h
                  · exact h
                  · rw [List.drop_of_length_le (by omega)] at h; cases h
                subst hsb
                refine l_do F rfl rfl (op_pure F (v0 := .bool (decide (((k : Nat) : Int) < (((reachP x n am).length : Nat) : Int)))) (v := .bool false) (by kernel_rfl) (lssF ht46) fun a F => ?_)
                refine l_then ?_
                refine wp_seq ?_
                refine c_f F rfl ?_
                refine wp_exit ?_
                refine then_x ?_
                refine then_x ?_
                refine inb_x ?_
                refine then_n ?_
                refine s_reg ?_
                refine l_do F rfl rfl (op_fn F (by kernel_rfl) (awake_any _) ?_)
                rintro e z ⟨rfl, hb⟩
                have S := S.grow hb
                refine ⟨_, rfl, ?_⟩
                intro a F
                refine l_pure 4 (fun L => (152, .int .i64 ((reachP x n le).length : Nat)) :: (151, .slice A31 ((reachP x n le).length) c32) :: (150, .int .i64 (at_ : Nat)) :: (149, .bool true) :: L) F (by kernel_rfl) fun a F => ?_
                refine l_do F rfl rfl (op_pure F (v0 := .bool (((at_ : Nat) : Int) == (((reachP x n le).length : Nat) : Int))) (v := .bool true) (by kernel_rfl) (eqlT (by have h9 := greedy_end (by omega) (by omega) hg; omega)) fun a F => ?_)
                refine l_pure 5 (fun L => (8, .bool true) :: (157, .bool true) :: (156, .bool true) :: (155, .bool true) :: (154, .bool true) :: L) F (by kernel_rfl) fun a F => ?_
                refine l_then ?_
                refine wp_ret ?_
                exact fin F [.tmp 8] [.bool true] rfl ⟨by kernel_rfl, trivial⟩ (.bool true) rfl ⟨rfl, S.below (i := 0) rfl⟩
            · skip
              refine l_do F rfl rfl (op_pure F (v0 := .bool (decide ((n : Int) < (0 : Int)))) (v := .bool false) (by kernel_rfl) (lssF ht41) fun a F => ?_)
              refine l_pure 3 (fun L => (116, .pointer (some ⟨b1, 0, none⟩)) :: (115, .int .i64 n) :: (114, .bool false) :: L) F (by kernel_rfl) fun a F => ?_
              refine l_do F rfl rfl (op_load _ _ (some ⟨b1, 0, none⟩) 0 (.slice As x.spots.length cs) F rfl (by kernel_rfl) (by kernel_rfl) (cBox S 1 rfl (j := 0) rfl) (fun a F => ?_))
              refine l_pure 1 (fun L => (118, .int .i64 (x.spots.length : Nat)) :: L) F (by kernel_rfl) fun a F => ?_
              by_cases ht54 : ((x.spots.length : Nat) : Int) ≤ (n : Int)
              · skip
                refine l_do F rfl rfl (op_pure F (v0 := .bool (decide ((n : Int) ≥ ((x.spots.length : Nat) : Int)))) (v := .bool true) (by kernel_rfl) (geqT ht54) fun a F => ?_)
                refine l_pure 2 (fun L => (20, .bool true) :: (120, .bool true) :: L) F (by kernel_rfl) fun a F => ?_
                refine l_then ?_
                refine wp_seq ?_
                refine s_reg ?_
                refine l_pure 3 (fun L => (123, .int .i64 0) :: (122, .int .i64 ((reachP x n am).length : Nat)) :: (121, .slice A29 ((reachP x n am).length) c30) :: L) F (by kernel_rfl) fun a F => ?_
                refine l_then ?_
                refine wp_block ?_
                have hl1 := reach_len x n am
                have hl2 := reach_len x n le
                refine wp_loop_m (fun m a z => ∃ (k : Nat) (at_ : Nat) (sb : Bool), m = (reachP x n am).length - k ∧ (k ≤ (reachP x n am).length) ∧ (at_ ≤ (reachP x n le).length) ∧ (((reachP x n le).drop at_).Sublist ((reachP x n am).drop k)) ∧ (sb = true ∨ n ∈ (reachP x n am).drop k) ∧ Fr a 158 [(1, .int .i64 n), (18, .slice A31 ((reachP x n le).length) c32), (19, .int .i64 (at_ : Nat)), (20, .bool sb), (121, .slice A29 ((reachP x n am).length) c30), (122, .int .i64 ((reachP x n am).length : Nat)), (123, .int .i64 (k : Nat))] ∧ Sat w z [rest w (· < w.heap.size), box b1 25 [.slice As x.spots.length cs, .slice Ae x.edges.length ce], row 74 2 (.slice A3 x.spots.length c4) x.spots.length (x.spots.flatMap spC), row 52 8 (.slice A5 x.edges.length c6) x.edges.length (x.edges.flatMap edC), box b7 31 [.slice A3 x.spots.length c4, .slice A5 x.edges.length c6], row 3 1 (.slice A29 ((reachP x n am).length) c30) ((reachP x n am).length) ((reachP x n am).flatMap iC_i64), row 3 1 (.slice A31 ((reachP x n le).length) c32) ((reachP x n le).length) ((reachP x n le).flatMap iC_i64)]) _ ⟨0, 0, true, rfl, Nat.zero_le _, Nat.zero_le _, (reach_sub (by omega)), (.inl rfl), F.sub ⟨by kernel_rfl, by kernel_rfl, by kernel_rfl, by kernel_rfl, by kernel_rfl, by kernel_rfl, by kernel_rfl, trivial⟩, S⟩ ?_
                rintro m a z ⟨k, at_, sb, hm, hf55, hf56, hf57, hf58, F, S⟩
                have hg := hf57
                have hq := hf58
                refine s_reg ?_
                by_cases ht59 : ((k : Nat) : Int) < (((reachP x n am).length : Nat) : Int)
                · skip
                  obtain ⟨nd, hnd⟩ : ∃ nd, (reachP x n am)[k]? = some nd := ⟨_, List.getElem?_eq_getElem (by omega)⟩
                  refine l_do F rfl rfl (op_pure F (v0 := .bool (decide (((k : Nat) : Int) < (((reachP x n am).length : Nat) : Int)))) (v := .bool true) (by kernel_rfl) (lssT ht59) fun a F => ?_)
                  refine l_then ?_
                  refine wp_seq ?_
                  refine c_t F rfl ?_
                  refine wp_skip ?_
                  refine then_n ?_
                  refine wp_seq ?_
                  refine wp_block ?_
                  refine s_reg ?_
                  refine l_do F rfl rfl (op_index _ 3 _ _ A29 ((reachP x n am).length) c30 k 1 .i64 F rfl (by kernel_rfl) (by kernel_rfl) (by kernel_rfl) (by kernel_rfl) (get_lt hnd) (row_some S 5 rfl (m := k) (get_lt hnd)) (fun a F => ?_))
                  refine l_do F rfl rfl (op_load _ _ A29 (k * 1) (.int .i64 nd) F rfl (by kernel_rfl) (by kernel_rfl) (cRec S 5 iC_len_i64 rfl 0 hnd rfl) (fun a F => ?_))
                  refine l_pure 1 (fun L => (22, .int .i64 nd) :: L) F (by kernel_rfl) fun a F => ?_
                  refine l_then ?_
                  refine s_reg ?_
                  refine l_pure 2 (fun L => (128, .bool sb) :: (127, .bool sb) :: L) F (by kernel_rfl) fun a F => ?_
                  cases sb with
                  | false =>
                    skip
                    refine l_pure 2 (fun L => (130, .int .i64 n) :: (129, .int .i64 nd) :: L) F (by kernel_rfl) fun a F => ?_
                    by_cases ht60 : (nd : Int) = (n : Int)
                    · skip
                      refine l_do F rfl rfl (op_pure F (v0 := .bool ((nd : Int) == (n : Int))) (v := .bool true) (by kernel_rfl) (eqlT ht60) fun a F => ?_)
                      refine l_pure 2 (fun L => (20, .bool true) :: (132, .bool true) :: L) F (by kernel_rfl) fun a F => ?_
                      refine l_then ?_
                      refine s_reg ?_
                      refine l_pure 3 (fun L => (135, .int .i64 ((reachP x n le).length : Nat)) :: (134, .slice A31 ((reachP x n le).length) c32) :: (133, .int .i64 (at_ : Nat)) :: L) F (by kernel_rfl) fun a F => ?_
                      by_cases ht61 : ((at_ : Nat) : Int) < (((reachP x n le).length : Nat) : Int)
                      · skip
                        obtain ⟨fw, hfw⟩ : ∃ fw, (reachP x n le)[at_]? = some fw := ⟨_, List.getElem?_eq_getElem (by omega)⟩
                        refine l_do F rfl rfl (op_pure F (v0 := .bool (decide (((at_ : Nat) : Int) < (((reachP x n le).length : Nat) : Int)))) (v := .bool true) (by kernel_rfl) (lssT ht61) fun a F => ?_)
                        refine l_pure 3 (fun L => (139, .int .i64 (at_ : Nat)) :: (138, .slice A31 ((reachP x n le).length) c32) :: (137, .bool true) :: L) F (by kernel_rfl) fun a F => ?_
                        refine l_do F rfl rfl (op_index _ 3 _ _ A31 ((reachP x n le).length) c32 at_ 1 .i64 F rfl (by kernel_rfl) (by kernel_rfl) (by kernel_rfl) (by kernel_rfl) (get_lt hfw) (row_some S 6 rfl (m := at_) (get_lt hfw)) (fun a F => ?_))
                        refine l_do F rfl rfl (op_load _ _ A31 (at_ * 1) (.int .i64 fw) F rfl (by kernel_rfl) (by kernel_rfl) (cRec S 6 iC_len_i64 rfl 0 hfw rfl) (fun a F => ?_))
                        refine l_pure 1 (fun L => (142, .int .i64 nd) :: L) F (by kernel_rfl) fun a F => ?_
                        by_cases ht62 : (fw : Int) = (nd : Int)
                        · skip
                          refine l_do F rfl rfl (op_pure F (v0 := .bool ((fw : Int) == (nd : Int))) (v := .bool true) (by kernel_rfl) (eqlT ht62) fun a F => ?_)
                          refine l_pure 1 (fun L => (144, .bool true) :: L) F (by kernel_rfl) fun a F => ?_
                          refine l_then ?_
                          refine c_t F rfl ?_
                          refine wp_region_list ?_
                          refine l_pure 1 (fun L => (145, .int .i64 (at_ : Nat)) :: L) F (by kernel_rfl) fun a F => ?_
                          refine l_do F rfl rfl (op_pure F (v0 := .int .i64 (IntKind.wrap .i64 ((at_ : Nat) + 1))) (v := .int .i64 (at_ + 1 : Nat)) (by kernel_rfl) (wrn_i64 (by omega) (by omega) (by omega)) fun a F => ?_)
                          refine l_pure 1 (fun L => (19, .int .i64 (at_ + 1 : Nat)) :: L) F (by kernel_rfl) fun a F => ?_
                          refine l_nil (inb_n ?_)
                          refine then_n ?_
                          refine wp_region_list ?_
                          refine l_do F rfl rfl (op_pure F (v0 := .int .i64 (IntKind.wrap .i64 ((k : Nat) + 1))) (v := .int .i64 (k + 1 : Nat)) (by kernel_rfl) (wrn_i64 (by omega) (by omega) (by omega)) fun a F => ?_)
                          refine l_pure 1 (fun L => (123, .int .i64 (k + 1 : Nat)) :: L) F (by kernel_rfl) fun a F => ?_
                          refine l_then ?_
                          exact ⟨_, (by omega), k + 1, at_ + 1, true, rfl, (by omega), (by omega), (greedy_yes (by rw [hfw, ht62]) hnd hg), (.inl rfl), F.sub ⟨by kernel_rfl, by kernel_rfl, by kernel_rfl, by kernel_rfl, by kernel_rfl, by kernel_rfl, by kernel_rfl, trivial⟩, S⟩
                        · skip
                          refine l_do F rfl rfl (op_pure F (v0 := .bool ((fw : Int) == (nd : Int))) (v := .bool false) (by kernel_rfl) (eqlF ht62) fun a F => ?_)
                          refine l_pure 1 (fun L => (144, .bool false) :: L) F (by kernel_rfl) fun a F => ?_
                          refine l_then ?_
                          refine c_f F rfl ?_
                          refine wp_skip ?_
                          refine inb_n ?_
                          refine then_n ?_
                          refine wp_region_list ?_
                          refine l_do F rfl rfl (op_pure F (v0 := .int .i64 (IntKind.wrap .i64 ((k : Nat) + 1))) (v := .int .i64 (k + 1 : Nat)) (by kernel_rfl) (wrn_i64 (by omega) (by omega) (by omega)) fun a F => ?_)
                          refine l_pure 1 (fun L => (123, .int .i64 (k + 1 : Nat)) :: L) F (by kernel_rfl) fun a F => ?_
                          refine l_then ?_
                          exact ⟨_, (by omega), k + 1, at_, true, rfl, (by omega), (by omega), (greedy_no hfw hnd ht62 hg), (.inl rfl), F.sub ⟨by kernel_rfl, by kernel_rfl, by kernel_rfl, by kernel_rfl, by kernel_rfl, by kernel_rfl, by kernel_rfl, trivial⟩, S⟩
                      · skip
                        refine l_do F rfl rfl (op_pure F (v0 := .bool (decide (((at_ : Nat) : Int) < (((reachP x n le).length : Nat) : Int)))) (v := .bool false) (by kernel_rfl) (lssF ht61) fun a F => ?_)
                        refine l_pure 8 (fun L => (144, .bool false) :: (143, undef) :: (142, undef) :: (141, undef) :: (140, undef) :: (139, undef) :: (138, undef) :: (137, .bool false) :: L) F (by kernel_rfl) fun a F => ?_
                        refine l_then ?_
                        refine c_f F rfl ?_
                        refine wp_skip ?_
                        refine inb_n ?_
                        refine then_n ?_
                        refine wp_region_list ?_
                        refine l_do F rfl rfl (op_pure F (v0 := .int .i64 (IntKind.wrap .i64 ((k : Nat) + 1))) (v := .int .i64 (k + 1 : Nat)) (by kernel_rfl) (wrn_i64 (by omega) (by omega) (by omega)) fun a F => ?_)
                        refine l_pure 1 (fun L => (123, .int .i64 (k + 1 : Nat)) :: L) F (by kernel_rfl) fun a F => ?_
                        refine l_then ?_
                        exact ⟨_, (by omega), k + 1, at_, true, rfl, (by omega), (by omega), (greedy_out (by omega)), (.inl rfl), F.sub ⟨by kernel_rfl, by kernel_rfl, by kernel_rfl, by kernel_rfl, by kernel_rfl, by kernel_rfl, by kernel_rfl, trivial⟩, S⟩
                    · skip
                      refine l_do F rfl rfl (op_pure F (v0 := .bool ((nd : Int) == (n : Int))) (v := .bool false) (by kernel_rfl) (eqlF ht60) fun a F => ?_)
                      refine l_pure 2 (fun L => (20, .bool false) :: (132, .bool false) :: L) F (by kernel_rfl) fun a F => ?_
                      refine l_then ?_
                      refine s_reg ?_
                      refine l_pure 3 (fun L => (135, .int .i64 ((reachP x n le).length : Nat)) :: (134, .slice A31 ((reachP x n le).length) c32) :: (133, .int .i64 (at_ : Nat)) :: L) F (by kernel_rfl) fun a F => ?_
                      by_cases ht63 : ((at_ : Nat) : Int) < (((reachP x n le).length : Nat) : Int)
                      · skip
                        obtain ⟨fw, hfw⟩ : ∃ fw, (reachP x n le)[at_]? = some fw := ⟨_, List.getElem?_eq_getElem (by omega)⟩
                        refine l_do F rfl rfl (op_pure F (v0 := .bool (decide (((at_ : Nat) : Int) < (((reachP x n le).length : Nat) : Int)))) (v := .bool true) (by kernel_rfl) (lssT ht63) fun a F => ?_)
                        refine l_pure 3 (fun L => (139, .int .i64 (at_ : Nat)) :: (138, .slice A31 ((reachP x n le).length) c32) :: (137, .bool true) :: L) F (by kernel_rfl) fun a F => ?_
                        refine l_do F rfl rfl (op_index _ 3 _ _ A31 ((reachP x n le).length) c32 at_ 1 .i64 F rfl (by kernel_rfl) (by kernel_rfl) (by kernel_rfl) (by kernel_rfl) (get_lt hfw) (row_some S 6 rfl (m := at_) (get_lt hfw)) (fun a F => ?_))
                        refine l_do F rfl rfl (op_load _ _ A31 (at_ * 1) (.int .i64 fw) F rfl (by kernel_rfl) (by kernel_rfl) (cRec S 6 iC_len_i64 rfl 0 hfw rfl) (fun a F => ?_))
                        refine l_pure 1 (fun L => (142, .int .i64 nd) :: L) F (by kernel_rfl) fun a F => ?_
                        by_cases ht64 : (fw : Int) = (nd : Int)
                        · skip
                          refine l_do F rfl rfl (op_pure F (v0 := .bool ((fw : Int) == (nd : Int))) (v := .bool true) (by kernel_rfl) (eqlT ht64) fun a F => ?_)
                          refine l_pure 1 (fun L => (144, .bool true) :: L) F (by kernel_rfl) fun a F => ?_
                          refine l_then ?_
                          refine c_t F rfl ?_
                          refine wp_region_list ?_
                          refine l_pure 1 (fun L => (145, .int .i64 (at_ : Nat)) :: L) F (by kernel_rfl) fun a F => ?_
                          refine l_do F rfl rfl (op_pure F (v0 := .int .i64 (IntKind.wrap .i64 ((at_ : Nat) + 1))) (v := .int .i64 (at_ + 1 : Nat)) (by kernel_rfl) (wrn_i64 (by omega) (by omega) (by omega)) fun a F => ?_)
                          refine l_pure 1 (fun L => (19, .int .i64 (at_ + 1 : Nat)) :: L) F (by kernel_rfl) fun a F => ?_
                          refine l_nil (inb_n ?_)
                          refine then_n ?_
                          refine wp_region_list ?_
                          refine l_do F rfl rfl (op_pure F (v0 := .int .i64 (IntKind.wrap .i64 ((k : Nat) + 1))) (v := .int .i64 (k + 1 : Nat)) (by kernel_rfl) (wrn_i64 (by omega) (by omega) (by omega)) fun a F => ?_)
                          refine l_pure 1 (fun L => (123, .int .i64 (k + 1 : Nat)) :: L) F (by kernel_rfl) fun a F => ?_
                          refine l_then ?_
                          exact ⟨_, (by omega), k + 1, at_ + 1, false, rfl, (by omega), (by omega), (greedy_yes (by rw [hfw, ht64]) hnd hg), (.inr (drop_mem hnd (hq.resolve_left (by simp)) ht60)), F.sub ⟨by kernel_rfl, by kernel_rfl, by kernel_rfl, by kernel_rfl, by kernel_rfl, by kernel_rfl, by kernel_rfl, trivial⟩, S⟩
                        · skip
                          refine l_do F rfl rfl (op_pure F (v0 := .bool ((fw : Int) == (nd : Int))) (v := .bool false) (by kernel_rfl) (eqlF ht64) fun a F => ?_)
                          refine l_pure 1 (fun L => (144, .bool false) :: L) F (by kernel_rfl) fun a F => ?_
                          refine l_then ?_
                          refine c_f F rfl ?_
                          refine wp_skip ?_
                          refine inb_n ?_
                          refine then_n ?_
                          refine wp_region_list ?_
                          refine l_do F rfl rfl (op_pure F (v0 := .int .i64 (IntKind.wrap .i64 ((k : Nat) + 1))) (v := .int .i64 (k + 1 : Nat)) (by kernel_rfl) (wrn_i64 (by omega) (by omega) (by omega)) fun a F => ?_)
                          refine l_pure 1 (fun L => (123, .int .i64 (k + 1 : Nat)) :: L) F (by kernel_rfl) fun a F => ?_
                          refine l_then ?_
                          exact ⟨_, (by omega), k + 1, at_, false, rfl, (by omega), (by omega), (greedy_no hfw hnd ht64 hg), (.inr (drop_mem hnd (hq.resolve_left (by simp)) ht60)), F.sub ⟨by kernel_rfl, by kernel_rfl, by kernel_rfl, by kernel_rfl, by kernel_rfl, by kernel_rfl, by kernel_rfl, trivial⟩, S⟩
                      · skip
                        refine l_do F rfl rfl (op_pure F (v0 := .bool (decide (((at_ : Nat) : Int) < (((reachP x n le).length : Nat) : Int)))) (v := .bool false) (by kernel_rfl) (lssF ht63) fun a F => ?_)
                        refine l_pure 8 (fun L => (144, .bool false) :: (143, undef) :: (142, undef) :: (141, undef) :: (140, undef) :: (139, undef) :: (138, undef) :: (137, .bool false) :: L) F (by kernel_rfl) fun a F => ?_
                        refine l_then ?_
                        refine c_f F rfl ?_
                        refine wp_skip ?_
                        refine inb_n ?_
                        refine then_n ?_
                        refine wp_region_list ?_
                        refine l_do F rfl rfl (op_pure F (v0 := .int .i64 (IntKind.wrap .i64 ((k : Nat) + 1))) (v := .int .i64 (k + 1 : Nat)) (by kernel_rfl) (wrn_i64 (by omega) (by omega) (by omega)) fun a F => ?_)
                        refine l_pure 1 (fun L => (123, .int .i64 (k + 1 : Nat)) :: L) F (by kernel_rfl) fun a F => ?_
                        refine l_then ?_
                        exact ⟨_, (by omega), k + 1, at_, false, rfl, (by omega), (by omega), (greedy_out (by omega)), (.inr (drop_mem hnd (hq.resolve_left (by simp)) ht60)), F.sub ⟨by kernel_rfl, by kernel_rfl, by kernel_rfl, by kernel_rfl, by kernel_rfl, by kernel_rfl, by kernel_rfl, trivial⟩, S⟩
                  | true =>
                    skip
                    refine l_pure 5 (fun L => (20, .bool true) :: (132, .bool true) :: (131, undef) :: (130, undef) :: (129, undef) :: L) F (by kernel_rfl) fun a F => ?_
                    refine l_then ?_
                    refine s_reg ?_
                    refine l_pure 3 (fun L => (135, .int .i64 ((reachP x n le).length : Nat)) :: (134, .slice A31 ((reachP x n le).length) c32) :: (133, .int .i64 (at_ : Nat)) :: L) F (by kernel_rfl) fun a F => ?_
                    by_cases ht65 : ((at_ : Nat) : Int) < (((reachP x n le).length : Nat) : Int)
                    · skip
                      obtain ⟨fw, hfw⟩ : ∃ fw, (reachP x n le)[at_]? = some fw := ⟨_, List.getElem?_eq_getElem (by omega)⟩
                      refine l_do F rfl rfl (op_pure F (v0 := .bool (decide (((at_ : Nat) : Int) < (((reachP x n le).length : Nat) : Int)))) (v := .bool true) (by kernel_rfl) (lssT ht65) fun a F => ?_)
                      refine l_pure 3 (fun L => (139, .int .i64 (at_ : Nat)) :: (138, .slice A31 ((reachP x n le).length) c32) :: (137, .bool true) :: L) F (by kernel_rfl) fun a F => ?_
                      refine l_do F rfl rfl (op_index _ 3 _ _ A31 ((reachP x n le).length) c32 at_ 1 .i64 F rfl (by kernel_rfl) (by kernel_rfl) (by kernel_rfl) (by kernel_rfl) (get_lt hfw) (row_some S 6 rfl (m := at_) (get_lt hfw)) (fun a F => ?_))
                      refine l_do F rfl rfl (op_load _ _ A31 (at_ * 1) (.int .i64 fw) F rfl (by kernel_rfl) (by kernel_rfl) (cRec S 6 iC_len_i64 rfl 0 hfw rfl) (fun a F => ?_))
                      refine l_pure 1 (fun L => (142, .int .i64 nd) :: L) F (by kernel_rfl) fun a F => ?_
                      by_cases ht66 : (fw : Int) = (nd : Int)
                      · skip
                        refine l_do F rfl rfl (op_pure F (v0 := .bool ((fw : Int) == (nd : Int))) (v := .bool true) (by kernel_rfl) (eqlT ht66) fun a F => ?_)
                        refine l_pure 1 (fun L => (144, .bool true) :: L) F (by kernel_rfl) fun a F => ?_
                        refine l_then ?_
                        refine c_t F rfl ?_
                        refine wp_region_list ?_
                        refine l_pure 1 (fun L => (145, .int .i64 (at_ : Nat)) :: L) F (by kernel_rfl) fun a F => ?_
                        refine l_do F rfl rfl (op_pure F (v0 := .int .i64 (IntKind.wrap .i64 ((at_ : Nat) + 1))) (v := .int .i64 (at_ + 1 : Nat)) (by kernel_rfl) (wrn_i64 (by omega) (by omega) (by omega)) fun a F => ?_)
                        refine l_pure 1 (fun L => (19, .int .i64 (at_ + 1 : Nat)) :: L) F (by kernel_rfl) fun a F => ?_
                        refine l_nil (inb_n ?_)
                        refine then_n ?_
                        refine wp_region_list ?_
                        refine l_do F rfl rfl (op_pure F (v0 := .int .i64 (IntKind.wrap .i64 ((k : Nat) + 1))) (v := .int .i64 (k + 1 : Nat)) (by kernel_rfl) (wrn_i64 (by omega) (by omega) (by omega)) fun a F => ?_)
                        refine l_pure 1 (fun L => (123, .int .i64 (k + 1 : Nat)) :: L) F (by kernel_rfl) fun a F => ?_
                        refine l_then ?_
                        exact ⟨_, (by omega), k + 1, at_ + 1, true, rfl, (by omega), (by omega), (greedy_yes (by rw [hfw, ht66]) hnd hg), (.inl rfl), F.sub ⟨by kernel_rfl, by kernel_rfl, by kernel_rfl, by kernel_rfl, by kernel_rfl, by kernel_rfl, by kernel_rfl, trivial⟩, S⟩
                      · skip
                        refine l_do F rfl rfl (op_pure F (v0 := .bool ((fw : Int) == (nd : Int))) (v := .bool false) (by kernel_rfl) (eqlF ht66) fun a F => ?_)
                        refine l_pure 1 (fun L => (144, .bool false) :: L) F (by kernel_rfl) fun a F => ?_
                        refine l_then ?_
                        refine c_f F rfl ?_
                        refine wp_skip ?_
                        refine inb_n ?_
                        refine then_n ?_
                        refine wp_region_list ?_
                        refine l_do F rfl rfl (op_pure F (v0 := .int .i64 (IntKind.wrap .i64 ((k : Nat) + 1))) (v := .int .i64 (k + 1 : Nat)) (by kernel_rfl) (wrn_i64 (by omega) (by omega) (by omega)) fun a F => ?_)
                        refine l_pure 1 (fun L => (123, .int .i64 (k + 1 : Nat)) :: L) F (by kernel_rfl) fun a F => ?_
                        refine l_then ?_
                        exact ⟨_, (by omega), k + 1, at_, true, rfl, (by omega), (by omega), (greedy_no hfw hnd ht66 hg), (.inl rfl), F.sub ⟨by kernel_rfl, by kernel_rfl, by kernel_rfl, by kernel_rfl, by kernel_rfl, by kernel_rfl, by kernel_rfl, trivial⟩, S⟩
                    · skip
                      refine l_do F rfl rfl (op_pure F (v0 := .bool (decide (((at_ : Nat) : Int) < (((reachP x n le).length : Nat) : Int)))) (v := .bool false) (by kernel_rfl) (lssF ht65) fun a F => ?_)
                      refine l_pure 8 (fun L => (144, .bool false) :: (143, undef) :: (142, undef) :: (141, undef) :: (140, undef) :: (139, undef) :: (138, undef) :: (137, .bool false) :: L) F (by kernel_rfl) fun a F => ?_
                      refine l_then ?_
                      refine c_f F rfl ?_
                      refine wp_skip ?_
                      refine inb_n ?_
                      refine then_n ?_
                      refine wp_region_list ?_
                      refine l_do F rfl rfl (op_pure F (v0 := .int .i64 (IntKind.wrap .i64 ((k : Nat) + 1))) (v := .int .i64 (k + 1 : Nat)) (by kernel_rfl) (wrn_i64 (by omega) (by omega) (by omega)) fun a F => ?_)
                      refine l_pure 1 (fun L => (123, .int .i64 (k + 1 : Nat)) :: L) F (by kernel_rfl) fun a F => ?_
                      refine l_then ?_
                      exact ⟨_, (by omega), k + 1, at_, true, rfl, (by omega), (by omega), (greedy_out (by omega)), (.inl rfl), F.sub ⟨by kernel_rfl, by kernel_rfl, by kernel_rfl, by kernel_rfl, by kernel_rfl, by kernel_rfl, by kernel_rfl, trivial⟩, S⟩
                · skip
                  have hsb : sb = true := by
                    rcases hq with h | h
                    · exact h
                    · rw [List.drop_of_length_le (by omega)] at h; cases h
                  subst hsb
                  refine l_do F rfl rfl (op_pure F (v0 := .bool (decide (((k : Nat) : Int) < (((reachP x n am).length : Nat) : Int)))) (v := .bool false) (by kernel_rfl) (lssF ht59) fun a F => ?_)
                  refine l_then ?_
                  refine wp_seq ?_
                  refine c_f F rfl ?_
                  refine wp_exit ?_
                  refine then_x ?_
                  refine then_x ?_
                  refine inb_x ?_
                  refine then_n ?_
                  refine s_reg ?_
                  refine l_do F rfl rfl (op_fn F (by kernel_rfl) (awake_any _) ?_)
                  rintro e z ⟨rfl, hb⟩
                  have S := S.grow hb
                  refine ⟨_, rfl, ?_⟩
                  intro a F
                  refine l_pure 4 (fun L => (152, .int .i64 ((reachP x n le).length : Nat)) :: (151, .slice A31 ((reachP x n le).length) c32) :: (150, .int .i64 (at_ : Nat)) :: (149, .bool true) :: L) F (by kernel_rfl) fun a F => ?_
                  refine l_do F rfl rfl (op_pure F (v0 := .bool (((at_ : Nat) : Int) == (((reachP x n le).length : Nat) : Int))) (v := .bool true) (by kernel_rfl) (eqlT (by have h9 := greedy_end (by omega) (by omega) hg; omega)) fun a F => ?_)
                  refine l_pure 5 (fun L => (8, .bool true) :: (157, .bool true) :: (156, .bool true) :: (155, .bool true) :: (154, .bool true) :: L) F (by kernel_rfl) fun a F => ?_
                  refine l_then ?_
                  refine wp_ret ?_
                  exact fin F [.tmp 8] [.bool true] rfl ⟨by kernel_rfl, trivial⟩ (.bool true) rfl ⟨rfl, S.below (i := 0) rfl⟩
              · skip
                refine l_do F rfl rfl (op_pure F (v0 := .bool (decide ((n : Int) ≥ ((x.spots.length : Nat) : Int)))) (v := .bool false) (by kernel_rfl) (geqF ht54) fun a F => ?_)
                refine l_pure 2 (fun L => (20, .bool false) :: (120, .bool false) :: L) F (by kernel_rfl) fun a F => ?_
                refine l_then ?_
                refine wp_seq ?_
                refine s_reg ?_
                refine l_pure 3 (fun L => (123, .int .i64 0) :: (122, .int .i64 ((reachP x n am).length : Nat)) :: (121, .slice A29 ((reachP x n am).length) c30) :: L) F (by kernel_rfl) fun a F => ?_
                refine l_then ?_
                refine wp_block ?_
                have hl1 := reach_len x n am
                have hl2 := reach_len x n le
                have hn : inWeb x n := ⟨hc0, by omega, by omega⟩
                refine wp_loop_m (fun m a z => ∃ (k : Nat) (at_ : Nat) (sb : Bool), m = (reachP x n am).length - k ∧ (k ≤ (reachP x n am).length) ∧ (at_ ≤ (reachP x n le).length) ∧ (((reachP x n le).drop at_).Sublist ((reachP x n am).drop k)) ∧ (sb = true ∨ n ∈ (reachP x n am).drop k) ∧ Fr a 158 [(1, .int .i64 n), (18, .slice A31 ((reachP x n le).length) c32), (19, .int .i64 (at_ : Nat)), (20, .bool sb), (121, .slice A29 ((reachP x n am).length) c30), (122, .int .i64 ((reachP x n am).length : Nat)), (123, .int .i64 (k : Nat))] ∧ Sat w z [rest w (· < w.heap.size), box b1 25 [.slice As x.spots.length cs, .slice Ae x.edges.length ce], row 74 2 (.slice A3 x.spots.length c4) x.spots.length (x.spots.flatMap spC), row 52 8 (.slice A5 x.edges.length c6) x.edges.length (x.edges.flatMap edC), box b7 31 [.slice A3 x.spots.length c4, .slice A5 x.edges.length c6], row 3 1 (.slice A29 ((reachP x n am).length) c30) ((reachP x n am).length) ((reachP x n am).flatMap iC_i64), row 3 1 (.slice A31 ((reachP x n le).length) c32) ((reachP x n le).length) ((reachP x n le).flatMap iC_i64)]) _ ⟨0, 0, false, rfl, Nat.zero_le _, Nat.zero_le _, (reach_sub (by omega)), (.inr (by rw [List.drop_zero]; exact reach_self hn)), F.sub ⟨by kernel_rfl, by kernel_rfl, by kernel_rfl, by kernel_rfl, by kernel_rfl, by kernel_rfl, by kernel_rfl, trivial⟩, S⟩ ?_
                rintro m a z ⟨k, at_, sb, hm, hf67, hf68, hf69, hf70, F, S⟩
                have hg := hf69
                have hq := hf70
                refine s_reg ?_
                by_cases ht71 : ((k : Nat) : Int) < (((reachP x n am).length : Nat) : Int)
                · skip
                  obtain ⟨nd, hnd⟩ : ∃ nd, (reachP x n am)[k]? = some nd := ⟨_, List.getElem?_eq_getElem (by omega)⟩
                  refine l_do F rfl rfl (op_pure F (v0 := .bool (decide (((k : Nat) : Int) < (((reachP x n am).length : Nat) : Int)))) (v := .bool true) (by kernel_rfl) (lssT ht71) fun a F => ?_)
                  refine l_then ?_
                  refine wp_seq ?_
                  refine c_t F rfl ?_
                  refine wp_skip ?_
                  refine then_n ?_
                  refine wp_seq ?_
                  refine wp_block ?_
                  refine s_reg ?_
                  refine l_do F rfl rfl (op_index _ 3 _ _ A29 ((reachP x n am).length) c30 k 1 .i64 F rfl (by kernel_rfl) (by kernel_rfl) (by kernel_rfl) (by kernel_rfl) (get_lt hnd) (row_some S 5 rfl (m := k) (get_lt hnd)) (fun a F => ?_))
                  refine l_do F rfl rfl (op_load _ _ A29 (k * 1) (.int .i64 nd) F rfl (by kernel_rfl) (by kernel_rfl) (cRec S 5 iC_len_i64 rfl 0 hnd rfl) (fun a F => ?_))
                  refine l_pure 1 (fun L => (22, .int .i64 nd) :: L) F (by kernel_rfl) fun a F => ?_
                  refine l_then ?_
                  refine s_reg ?_
                  refine l_pure 2 (fun L => (128, .bool sb) :: (127, .bool sb) :: L) F (by kernel_rfl) fun a F => ?_
                  cases sb with
                  | false =>
                    skip
                    refine l_pure 2 (fun L => (130, .int .i64 n) :: (129, .int .i64 nd) :: L) F (by kernel_rfl) fun a F => ?_
                    by_cases ht72 : (nd : Int) = (n : Int)
                    · skip
                      refine l_do F rfl rfl (op_pure F (v0 := .bool ((nd : Int) == (n : Int))) (v := .bool true) (by kernel_rfl) (eqlT ht72) fun a F => ?_)
                      refine l_pure 2 (fun L => (20, .bool true) :: (132, .bool true) :: L) F (by kernel_rfl) fun a F => ?_
                      refine l_then ?_
                      refine s_reg ?_
                      refine l_pure 3 (fun L => (135, .int .i64 ((reachP x n le).length : Nat)) :: (134, .slice A31 ((reachP x n le).length) c32) :: (133, .int .i64 (at_ : Nat)) :: L) F (by kernel_rfl) fun a F => ?_
                      by_cases ht73 : ((at_ : Nat) : Int) < (((reachP x n le).length : Nat) : Int)
                      · skip
                        obtain ⟨fw, hfw⟩ : ∃ fw, (reachP x n le)[at_]? = some fw := ⟨_, List.getElem?_eq_getElem (by omega)⟩
                        refine l_do F rfl rfl (op_pure F (v0 := .bool (decide (((at_ : Nat) : Int) < (((reachP x n le).length : Nat) : Int)))) (v := .bool true) (by kernel_rfl) (lssT ht73) fun a F => ?_)
                        refine l_pure 3 (fun L => (139, .int .i64 (at_ : Nat)) :: (138, .slice A31 ((reachP x n le).length) c32) :: (137, .bool true) :: L) F (by kernel_rfl) fun a F => ?_
                        refine l_do F rfl rfl (op_index _ 3 _ _ A31 ((reachP x n le).length) c32 at_ 1 .i64 F rfl (by kernel_rfl) (by kernel_rfl) (by kernel_rfl) (by kernel_rfl) (get_lt hfw) (row_some S 6 rfl (m := at_) (get_lt hfw)) (fun a F => ?_))
                        refine l_do F rfl rfl (op_load _ _ A31 (at_ * 1) (.int .i64 fw) F rfl (by kernel_rfl) (by kernel_rfl) (cRec S 6 iC_len_i64 rfl 0 hfw rfl) (fun a F => ?_))
                        refine l_pure 1 (fun L => (142, .int .i64 nd) :: L) F (by kernel_rfl) fun a F => ?_
                        by_cases ht74 : (fw : Int) = (nd : Int)
                        · skip
                          refine l_do F rfl rfl (op_pure F (v0 := .bool ((fw : Int) == (nd : Int))) (v := .bool true) (by kernel_rfl) (eqlT ht74) fun a F => ?_)
                          refine l_pure 1 (fun L => (144, .bool true) :: L) F (by kernel_rfl) fun a F => ?_
                          refine l_then ?_
                          refine c_t F rfl ?_
                          refine wp_region_list ?_
                          refine l_pure 1 (fun L => (145, .int .i64 (at_ : Nat)) :: L) F (by kernel_rfl) fun a F => ?_
                          refine l_do F rfl rfl (op_pure F (v0 := .int .i64 (IntKind.wrap .i64 ((at_ : Nat) + 1))) (v := .int .i64 (at_ + 1 : Nat)) (by kernel_rfl) (wrn_i64 (by omega) (by omega) (by omega)) fun a F => ?_)
                          refine l_pure 1 (fun L => (19, .int .i64 (at_ + 1 : Nat)) :: L) F (by kernel_rfl) fun a F => ?_
                          refine l_nil (inb_n ?_)
                          refine then_n ?_
                          refine wp_region_list ?_
                          refine l_do F rfl rfl (op_pure F (v0 := .int .i64 (IntKind.wrap .i64 ((k : Nat) + 1))) (v := .int .i64 (k + 1 : Nat)) (by kernel_rfl) (wrn_i64 (by omega) (by omega) (by omega)) fun a F => ?_)
                          refine l_pure 1 (fun L => (123, .int .i64 (k + 1 : Nat)) :: L) F (by kernel_rfl) fun a F => ?_
                          refine l_then ?_
                          exact ⟨_, (by omega), k + 1, at_ + 1, true, rfl, (by omega), (by omega), (greedy_yes (by rw [hfw, ht74]) hnd hg), (.inl rfl), F.sub ⟨by kernel_rfl, by kernel_rfl, by kernel_rfl, by kernel_rfl, by kernel_rfl, by kernel_rfl, by kernel_rfl, trivial⟩, S⟩
                        · skip
                          refine l_do F rfl rfl (op_pure F (v0 := .bool ((fw : Int) == (nd : Int))) (v := .bool false) (by kernel_rfl) (eqlF ht74) fun a F => ?_)
                          refine l_pure 1 (fun L => (144, .bool false) :: L) F (by kernel_rfl) fun a F => ?_
                          refine l_then ?_
                          refine c_f F rfl ?_
                          refine wp_skip ?_
                          refine inb_n ?_
                          refine then_n ?_
                          refine wp_region_list ?_
                          refine l_do F rfl rfl (op_pure F (v0 := .int .i64 (IntKind.wrap .i64 ((k : Nat) + 1))) (v := .int .i64 (k + 1 : Nat)) (by kernel_rfl) (wrn_i64 (by omega) (by omega) (by omega)) fun a F => ?_)
                          refine l_pure 1 (fun L => (123, .int .i64 (k + 1 : Nat)) :: L) F (by kernel_rfl) fun a F => ?_
                          refine l_then ?_
                          exact ⟨_, (by omega), k + 1, at_, true, rfl, (by omega), (by omega), (greedy_no hfw hnd ht74 hg), (.inl rfl), F.sub ⟨by kernel_rfl, by kernel_rfl, by kernel_rfl, by kernel_rfl, by kernel_rfl, by kernel_rfl, by kernel_rfl, trivial⟩, S⟩
                      · skip
                        refine l_do F rfl rfl (op_pure F (v0 := .bool (decide (((at_ : Nat) : Int) < (((reachP x n le).length : Nat) : Int)))) (v := .bool false) (by kernel_rfl) (lssF ht73) fun a F => ?_)
                        refine l_pure 8 (fun L => (144, .bool false) :: (143, undef) :: (142, undef) :: (141, undef) :: (140, undef) :: (139, undef) :: (138, undef) :: (137, .bool false) :: L) F (by kernel_rfl) fun a F => ?_
                        refine l_then ?_
                        refine c_f F rfl ?_
                        refine wp_skip ?_
                        refine inb_n ?_
                        refine then_n ?_
                        refine wp_region_list ?_
                        refine l_do F rfl rfl (op_pure F (v0 := .int .i64 (IntKind.wrap .i64 ((k : Nat) + 1))) (v := .int .i64 (k + 1 : Nat)) (by kernel_rfl) (wrn_i64 (by omega) (by omega) (by omega)) fun a F => ?_)
                        refine l_pure 1 (fun L => (123, .int .i64 (k + 1 : Nat)) :: L) F (by kernel_rfl) fun a F => ?_
                        refine l_then ?_
                        exact ⟨_, (by omega), k + 1, at_, true, rfl, (by omega), (by omega), (greedy_out (by omega)), (.inl rfl), F.sub ⟨by kernel_rfl, by kernel_rfl, by kernel_rfl, by kernel_rfl, by kernel_rfl, by kernel_rfl, by kernel_rfl, trivial⟩, S⟩
                    · skip
                      refine l_do F rfl rfl (op_pure F (v0 := .bool ((nd : Int) == (n : Int))) (v := .bool false) (by kernel_rfl) (eqlF ht72) fun a F => ?_)
                      refine l_pure 2 (fun L => (20, .bool false) :: (132, .bool false) :: L) F (by kernel_rfl) fun a F => ?_
                      refine l_then ?_
                      refine s_reg ?_
                      refine l_pure 3 (fun L => (135, .int .i64 ((reachP x n le).length : Nat)) :: (134, .slice A31 ((reachP x n le).length) c32) :: (133, .int .i64 (at_ : Nat)) :: L) F (by kernel_rfl) fun a F => ?_
                      by_cases ht75 : ((at_ : Nat) : Int) < (((reachP x n le).length : Nat) : Int)
                      · skip
                        obtain ⟨fw, hfw⟩ : ∃ fw, (reachP x n le)[at_]? = some fw := ⟨_, List.getElem?_eq_getElem (by omega)⟩
                        refine l_do F rfl rfl (op_pure F (v0 := .bool (decide (((at_ : Nat) : Int) < (((reachP x n le).length : Nat) : Int)))) (v := .bool true) (by kernel_rfl) (lssT ht75) fun a F => ?_)
                        refine l_pure 3 (fun L => (139, .int .i64 (at_ : Nat)) :: (138, .slice A31 ((reachP x n le).length) c32) :: (137, .bool true) :: L) F (by kernel_rfl) fun a F => ?_
                        refine l_do F rfl rfl (op_index _ 3 _ _ A31 ((reachP x n le).length) c32 at_ 1 .i64 F rfl (by kernel_rfl) (by kernel_rfl) (by kernel_rfl) (by kernel_rfl) (get_lt hfw) (row_some S 6 rfl (m := at_) (get_lt hfw)) (fun a F => ?_))
                        refine l_do F rfl rfl (op_load _ _ A31 (at_ * 1) (.int .i64 fw) F rfl (by kernel_rfl) (by kernel_rfl) (cRec S 6 iC_len_i64 rfl 0 hfw rfl) (fun a F => ?_))
                        refine l_pure 1 (fun L => (142, .int .i64 nd) :: L) F (by kernel_rfl) fun a F => ?_
                        by_cases ht76 : (fw : Int) = (nd : Int)
                        · skip
                          refine l_do F rfl rfl (op_pure F (v0 := .bool ((fw : Int) == (nd : Int))) (v := .bool true) (by kernel_rfl) (eqlT ht76) fun a F => ?_)
                          refine l_pure 1 (fun L => (144, .bool true) :: L) F (by kernel_rfl) fun a F => ?_
                          refine l_then ?_
                          refine c_t F rfl ?_
                          refine wp_region_list ?_
                          refine l_pure 1 (fun L => (145, .int .i64 (at_ : Nat)) :: L) F (by kernel_rfl) fun a F => ?_
                          refine l_do F rfl rfl (op_pure F (v0 := .int .i64 (IntKind.wrap .i64 ((at_ : Nat) + 1))) (v := .int .i64 (at_ + 1 : Nat)) (by kernel_rfl) (wrn_i64 (by omega) (by omega) (by omega)) fun a F => ?_)
                          refine l_pure 1 (fun L => (19, .int .i64 (at_ + 1 : Nat)) :: L) F (by kernel_rfl) fun a F => ?_
                          refine l_nil (inb_n ?_)
                          refine then_n ?_
                          refine wp_region_list ?_
                          refine l_do F rfl rfl (op_pure F (v0 := .int .i64 (IntKind.wrap .i64 ((k : Nat) + 1))) (v := .int .i64 (k + 1 : Nat)) (by kernel_rfl) (wrn_i64 (by omega) (by omega) (by omega)) fun a F => ?_)
                          refine l_pure 1 (fun L => (123, .int .i64 (k + 1 : Nat)) :: L) F (by kernel_rfl) fun a F => ?_
                          refine l_then ?_
                          exact ⟨_, (by omega), k + 1, at_ + 1, false, rfl, (by omega), (by omega), (greedy_yes (by rw [hfw, ht76]) hnd hg), (.inr (drop_mem hnd (hq.resolve_left (by simp)) ht72)), F.sub ⟨by kernel_rfl, by kernel_rfl, by kernel_rfl, by kernel_rfl, by kernel_rfl, by kernel_rfl, by kernel_rfl, trivial⟩, S⟩
                        · skip
                          refine l_do F rfl rfl (op_pure F (v0 := .bool ((fw : Int) == (nd : Int))) (v := .bool false) (by kernel_rfl) (eqlF ht76) fun a F => ?_)
                          refine l_pure 1 (fun L => (144, .bool false) :: L) F (by kernel_rfl) fun a F => ?_
                          refine l_then ?_
                          refine c_f F rfl ?_
                          refine wp_skip ?_
                          refine inb_n ?_
                          refine then_n ?_
                          refine wp_region_list ?_
                          refine l_do F rfl rfl (op_pure F (v0 := .int .i64 (IntKind.wrap .i64 ((k : Nat) + 1))) (v := .int .i64 (k + 1 : Nat)) (by kernel_rfl) (wrn_i64 (by omega) (by omega) (by omega)) fun a F => ?_)
                          refine l_pure 1 (fun L => (123, .int .i64 (k + 1 : Nat)) :: L) F (by kernel_rfl) fun a F => ?_
                          refine l_then ?_
                          exact ⟨_, (by omega), k + 1, at_, false, rfl, (by omega), (by omega), (greedy_no hfw hnd ht76 hg), (.inr (drop_mem hnd (hq.resolve_left (by simp)) ht72)), F.sub ⟨by kernel_rfl, by kernel_rfl, by kernel_rfl, by kernel_rfl, by kernel_rfl, by kernel_rfl, by kernel_rfl, trivial⟩, S⟩
                      · skip
                        refine l_do F rfl rfl (op_pure F (v0 := .bool (decide (((at_ : Nat) : Int) < (((reachP x n le).length : Nat) : Int)))) (v := .bool false) (by kernel_rfl) (lssF ht75) fun a F => ?_)
                        refine l_pure 8 (fun L => (144, .bool false) :: (143, undef) :: (142, undef) :: (141, undef) :: (140, undef) :: (139, undef) :: (138, undef) :: (137, .bool false) :: L) F (by kernel_rfl) fun a F => ?_
                        refine l_then ?_
                        refine c_f F rfl ?_
                        refine wp_skip ?_
                        refine inb_n ?_
                        refine then_n ?_
                        refine wp_region_list ?_
                        refine l_do F rfl rfl (op_pure F (v0 := .int .i64 (IntKind.wrap .i64 ((k : Nat) + 1))) (v := .int .i64 (k + 1 : Nat)) (by kernel_rfl) (wrn_i64 (by omega) (by omega) (by omega)) fun a F => ?_)
                        refine l_pure 1 (fun L => (123, .int .i64 (k + 1 : Nat)) :: L) F (by kernel_rfl) fun a F => ?_
                        refine l_then ?_
                        exact ⟨_, (by omega), k + 1, at_, false, rfl, (by omega), (by omega), (greedy_out (by omega)), (.inr (drop_mem hnd (hq.resolve_left (by simp)) ht72)), F.sub ⟨by kernel_rfl, by kernel_rfl, by kernel_rfl, by kernel_rfl, by kernel_rfl, by kernel_rfl, by kernel_rfl, trivial⟩, S⟩
                  | true =>
                    skip
                    refine l_pure 5 (fun L => (20, .bool true) :: (132, .bool true) :: (131, undef) :: (130, undef) :: (129, undef) :: L) F (by kernel_rfl) fun a F => ?_
                    refine l_then ?_
                    refine s_reg ?_
                    refine l_pure 3 (fun L => (135, .int .i64 ((reachP x n le).length : Nat)) :: (134, .slice A31 ((reachP x n le).length) c32) :: (133, .int .i64 (at_ : Nat)) :: L) F (by kernel_rfl) fun a F => ?_
                    by_cases ht77 : ((at_ : Nat) : Int) < (((reachP x n le).length : Nat) : Int)
                    · skip
                      obtain ⟨fw, hfw⟩ : ∃ fw, (reachP x n le)[at_]? = some fw := ⟨_, List.getElem?_eq_getElem (by omega)⟩
                      refine l_do F rfl rfl (op_pure F (v0 := .bool (decide (((at_ : Nat) : Int) < (((reachP x n le).length : Nat) : Int)))) (v := .bool true) (by kernel_rfl) (lssT ht77) fun a F => ?_)
                      refine l_pure 3 (fun L => (139, .int .i64 (at_ : Nat)) :: (138, .slice A31 ((reachP x n le).length) c32) :: (137, .bool true) :: L) F (by kernel_rfl) fun a F => ?_
                      refine l_do F rfl rfl (op_index _ 3 _ _ A31 ((reachP x n le).length) c32 at_ 1 .i64 F rfl (by kernel_rfl) (by kernel_rfl) (by kernel_rfl) (by kernel_rfl) (get_lt hfw) (row_some S 6 rfl (m := at_) (get_lt hfw)) (fun a F => ?_))
                      refine l_do F rfl rfl (op_load _ _ A31 (at_ * 1) (.int .i64 fw) F rfl (by kernel_rfl) (by kernel_rfl) (cRec S 6 iC_len_i64 rfl 0 hfw rfl) (fun a F => ?_))
                      refine l_pure 1 (fun L => (142, .int .i64 nd) :: L) F (by kernel_rfl) fun a F => ?_
                      by_cases ht78 : (fw : Int) = (nd : Int)
                      · skip
                        refine l_do F rfl rfl (op_pure F (v0 := .bool ((fw : Int) == (nd : Int))) (v := .bool true) (by kernel_rfl) (eqlT ht78) fun a F => ?_)
                        refine l_pure 1 (fun L => (144, .bool true) :: L) F (by kernel_rfl) fun a F => ?_
                        refine l_then ?_
                        refine c_t F rfl ?_
                        refine wp_region_list ?_
                        refine l_pure 1 (fun L => (145, .int .i64 (at_ : Nat)) :: L) F (by kernel_rfl) fun a F => ?_
                        refine l_do F rfl rfl (op_pure F (v0 := .int .i64 (IntKind.wrap .i64 ((at_ : Nat) + 1))) (v := .int .i64 (at_ + 1 : Nat)) (by kernel_rfl) (wrn_i64 (by omega) (by omega) (by omega)) fun a F => ?_)
                        refine l_pure 1 (fun L => (19, .int .i64 (at_ + 1 : Nat)) :: L) F (by kernel_rfl) fun a F => ?_
                        refine l_nil (inb_n ?_)
                        refine then_n ?_
                        refine wp_region_list ?_
                        refine l_do F rfl rfl (op_pure F (v0 := .int .i64 (IntKind.wrap .i64 ((k : Nat) + 1))) (v := .int .i64 (k + 1 : Nat)) (by kernel_rfl) (wrn_i64 (by omega) (by omega) (by omega)) fun a F => ?_)
                        refine l_pure 1 (fun L => (123, .int .i64 (k + 1 : Nat)) :: L) F (by kernel_rfl) fun a F => ?_
                        refine l_then ?_
                        exact ⟨_, (by omega), k + 1, at_ + 1, true, rfl, (by omega), (by omega), (greedy_yes (by rw [hfw, ht78]) hnd hg), (.inl rfl), F.sub ⟨by kernel_rfl, by kernel_rfl, by kernel_rfl, by kernel_rfl, by kernel_rfl, by kernel_rfl, by kernel_rfl, trivial⟩, S⟩
                      · skip
                        refine l_do F rfl rfl (op_pure F (v0 := .bool ((fw : Int) == (nd : Int))) (v := .bool false) (by kernel_rfl) (eqlF ht78) fun a F => ?_)
                        refine l_pure 1 (fun L => (144, .bool false) :: L) F (by kernel_rfl) fun a F => ?_
                        refine l_then ?_
                        refine c_f F rfl ?_
                        refine wp_skip ?_
                        refine inb_n ?_
                        refine then_n ?_
                        refine wp_region_list ?_
                        refine l_do F rfl rfl (op_pure F (v0 := .int .i64 (IntKind.wrap .i64 ((k : Nat) + 1))) (v := .int .i64 (k + 1 : Nat)) (by kernel_rfl) (wrn_i64 (by omega) (by omega) (by omega)) fun a F => ?_)
                        refine l_pure 1 (fun L => (123, .int .i64 (k + 1 : Nat)) :: L) F (by kernel_rfl) fun a F => ?_
                        refine l_then ?_
                        exact ⟨_, (by omega), k + 1, at_, true, rfl, (by omega), (by omega), (greedy_no hfw hnd ht78 hg), (.inl rfl), F.sub ⟨by kernel_rfl, by kernel_rfl, by kernel_rfl, by kernel_rfl, by kernel_rfl, by kernel_rfl, by kernel_rfl, trivial⟩, S⟩
                    · skip
                      refine l_do F rfl rfl (op_pure F (v0 := .bool (decide (((at_ : Nat) : Int) < (((reachP x n le).length : Nat) : Int)))) (v := .bool false) (by kernel_rfl) (lssF ht77) fun a F => ?_)
                      refine l_pure 8 (fun L => (144, .bool false) :: (143, undef) :: (142, undef) :: (141, undef) :: (140, undef) :: (139, undef) :: (138, undef) :: (137, .bool false) :: L) F (by kernel_rfl) fun a F => ?_
                      refine l_then ?_
                      refine c_f F rfl ?_
                      refine wp_skip ?_
                      refine inb_n ?_
                      refine then_n ?_
                      refine wp_region_list ?_
                      refine l_do F rfl rfl (op_pure F (v0 := .int .i64 (IntKind.wrap .i64 ((k : Nat) + 1))) (v := .int .i64 (k + 1 : Nat)) (by kernel_rfl) (wrn_i64 (by omega) (by omega) (by omega)) fun a F => ?_)
                      refine l_pure 1 (fun L => (123, .int .i64 (k + 1 : Nat)) :: L) F (by kernel_rfl) fun a F => ?_
                      refine l_then ?_
                      exact ⟨_, (by omega), k + 1, at_, true, rfl, (by omega), (by omega), (greedy_out (by omega)), (.inl rfl), F.sub ⟨by kernel_rfl, by kernel_rfl, by kernel_rfl, by kernel_rfl, by kernel_rfl, by kernel_rfl, by kernel_rfl, trivial⟩, S⟩
                · skip
                  have hsb : sb = true := by
                    rcases hq with h | h
                    · exact h
                    · rw [List.drop_of_length_le (by omega)] at h; cases h
                  subst hsb
                  refine l_do F rfl rfl (op_pure F (v0 := .bool (decide (((k : Nat) : Int) < (((reachP x n am).length : Nat) : Int)))) (v := .bool false) (by kernel_rfl) (lssF ht71) fun a F => ?_)
                  refine l_then ?_
                  refine wp_seq ?_
                  refine c_f F rfl ?_
                  refine wp_exit ?_
                  refine then_x ?_
                  refine then_x ?_
                  refine inb_x ?_
                  refine then_n ?_
                  refine s_reg ?_
                  refine l_do F rfl rfl (op_fn F (by kernel_rfl) (awake_any _) ?_)
                  rintro e z ⟨rfl, hb⟩
                  have S := S.grow hb
                  refine ⟨_, rfl, ?_⟩
                  intro a F
                  refine l_pure 4 (fun L => (152, .int .i64 ((reachP x n le).length : Nat)) :: (151, .slice A31 ((reachP x n le).length) c32) :: (150, .int .i64 (at_ : Nat)) :: (149, .bool true) :: L) F (by kernel_rfl) fun a F => ?_
                  refine l_do F rfl rfl (op_pure F (v0 := .bool (((at_ : Nat) : Int) == (((reachP x n le).length : Nat) : Int))) (v := .bool true) (by kernel_rfl) (eqlT (by have h9 := greedy_end (by omega) (by omega) hg; omega)) fun a F => ?_)
                  refine l_pure 5 (fun L => (8, .bool true) :: (157, .bool true) :: (156, .bool true) :: (155, .bool true) :: (154, .bool true) :: L) F (by kernel_rfl) fun a F => ?_
                  refine l_then ?_
                  refine wp_ret ?_
                  exact fin F [.tmp 8] [.bool true] rfl ⟨by kernel_rfl, trivial⟩ (.bool true) rfl ⟨rfl, S.below (i := 0) rfl⟩
        · skip
          have S := S.pushEmp.pushEmp
          refine region_gx (fun D => fun ((A79, c80, A81, c82) : Option Addr × Nat × Option Addr × Nat) => [rest w (· < w.heap.size), box b1 25 [.slice As x.spots.length cs, .slice Ae x.edges.length ce], row 74 2 (.slice A3 x.spots.length c4) x.spots.length (x.spots.flatMap spC), row 52 8 (.slice A5 x.edges.length c6) x.edges.length (x.edges.flatMap edC), box b7 31 [.slice A3 x.spots.length c4, .slice A5 x.edges.length c6], bif D 5 then row 3 1 (.slice A79 ((reachP x n le).length) c80) ((reachP x n le).length) ((reachP x n le).flatMap iC_i64) else emp, bif D 11 then row 3 1 (.slice A81 ((reachP x n am).length) c82) ((reachP x n am).length) ((reachP x n am).flatMap iC_i64) else emp]) (fun ((A79, c80, A81, c82) : Option Addr × Nat × Option Addr × Nat) => [.agg #[.slice A3 x.spots.length c4, .slice A5 x.edges.length c6], .int .i64 n, .int .u64 am, .int .u64 le, .int .u64 le, .slice A79 ((reachP x n le).length) c80, .agg #[.slice A3 x.spots.length c4, .slice A5 x.edges.length c6], .int .i64 n, .int .u64 am, .int .u64 le, .int .u64 am, .slice A81 ((reachP x n am).length) c82, .slice A79 ((reachP x n le).length) c80, .slice A81 ((reachP x n am).length) c82]) [(0, [], [5, 11]), (4, [], [5, 11]), (5, [0, 4], [11]), (6, [], [11]), (10, [], [11]), (11, [0, 4, 5, 6, 10], [])] (none, 0, none, 0) rfl (by kernel_rfl) (by kernel_rfl) F S.drew ?_ ?_ ?_ ?_ ?_
          · rintro ⟨A79, c80, A81, c82⟩; rfl
          · rintro ⟨A79, c80, A81, c82⟩; kernel_rfl
          · intro D D' x h
            obtain ⟨A79, c80, A81, c82⟩ := x
            simp only [h 5 (by decide), h 11 (by decide)]
          · refine ⟨?_, ?_⟩
            · refine ⟨_, rfl, rfl, by kernel_rfl, ?_⟩
              rintro D ⟨A79, c80, A81, c82⟩ a z S F
              refine ⟨by kernel_rfl, ?_⟩
              exact op_loadK _ _ (some ⟨b7, 0, none⟩) 0 [.slice A3 x.spots.length c4, .slice A5 x.edges.length c6] F rfl (by kernel_rfl) (by kernel_rfl) (by kernel_rfl) (by simp) (cBoxK S 4 rfl 0 (by kernel_rfl)) (⟨(A79, c80, A81, c82), rfl, (SameB.refl _ _ rfl), S⟩)
            refine ⟨?_, ?_⟩
            · refine ⟨_, rfl, rfl, by kernel_rfl, ?_⟩
              rintro D ⟨A79, c80, A81, c82⟩ a z S F
              refine ⟨by kernel_rfl, ?_⟩
              exact op_pure F (v0 := .int .u64 (if (le : Int) < (am : Int) then (le : Int) else (am : Int))) (v := .int .u64 le) (by kernel_rfl) (minF ht28) ⟨(A79, c80, A81, c82), rfl, (SameB.refl _ _ rfl), S⟩
            refine ⟨?_, ?_⟩
            · refine ⟨_, rfl, rfl, by kernel_rfl, ?_⟩
              rintro D ⟨A79, c80, A81, c82⟩ a z S F
              refine ⟨by kernel_rfl, ?_⟩
              refine op_fn F (by kernel_rfl) (reach_any _ A3 c4 A5 c6 x (WebAt.ofNew (x := x) (w := w) S (i := 2) (j := 3) rfl rfl ⟨l1, l2⟩) ok n le) ?_
              rintro e z ⟨y83, y84, rfl, g⟩
              have S := S.fillThing 5 rfl g
              exact ⟨_, rfl, (y83, y84, A81, c82), rfl, ⟨rfl, rfl, rfl, rfl, rfl, trivial, rfl, rfl, rfl, rfl, rfl, trivial, trivial, trivial, trivial⟩, S⟩
            refine ⟨?_, ?_⟩
            · refine ⟨_, rfl, rfl, by kernel_rfl, ?_⟩
              rintro D ⟨A79, c80, A81, c82⟩ a z S F
              refine ⟨by kernel_rfl, ?_⟩
              exact op_loadK _ _ (some ⟨b7, 0, none⟩) 0 [.slice A3 x.spots.length c4, .slice A5 x.edges.length c6] F rfl (by kernel_rfl) (by kernel_rfl) (by kernel_rfl) (by simp) (cBoxK S 4 rfl 0 (by kernel_rfl)) (⟨(A79, c80, A81, c82), rfl, (SameB.refl _ _ rfl), S⟩)
            refine ⟨?_, ?_⟩
            · refine ⟨_, rfl, rfl, by kernel_rfl, ?_⟩
              rintro D ⟨A79, c80, A81, c82⟩ a z S F
              refine ⟨by kernel_rfl, ?_⟩
              exact op_pure F (v0 := .int .u64 (if (am : Int) < (le : Int) then (le : Int) else (am : Int))) (v := .int .u64 am) (by kernel_rfl) (maxF ht28) ⟨(A79, c80, A81, c82), rfl, (SameB.refl _ _ rfl), S⟩
            refine ⟨?_, ?_⟩
            · refine ⟨_, rfl, rfl, by kernel_rfl, ?_⟩
              rintro D ⟨A79, c80, A81, c82⟩ a z S F
              refine ⟨by kernel_rfl, ?_⟩
              refine op_fn F (by kernel_rfl) (reach_any _ A3 c4 A5 c6 x (WebAt.ofNew (x := x) (w := w) S (i := 2) (j := 3) rfl rfl ⟨l1, l2⟩) ok n am) ?_
              rintro e z ⟨y87, y88, rfl, g⟩
              have S := S.fillThing 6 rfl g
              exact ⟨_, rfl, (A79, c80, y87, y88), rfl, ⟨rfl, rfl, rfl, rfl, rfl, rfl, rfl, rfl, rfl, rfl, rfl, trivial, trivial, trivial, trivial⟩, S⟩
            trivial
          · rintro ⟨A79, c80, A81, c82⟩ a z F S
            have F := F.sub (l := [(1, .int .i64 n), (4, .pointer (some ⟨b1, 0, none⟩)), (17, .slice A79 ((reachP x n le).length) c80), (18, .slice A81 ((reachP x n am).length) c82)]) ⟨by kernel_rfl, by kernel_rfl, by kernel_rfl, by kernel_rfl, trivial⟩
            have S : Sat w z [rest w (· < w.heap.size), box b1 25 [.slice As x.spots.length cs, .slice Ae x.edges.length ce], row 74 2 (.slice A3 x.spots.length c4) x.spots.length (x.spots.flatMap spC), row 52 8 (.slice A5 x.edges.length c6) x.edges.length (x.edges.flatMap edC), box b7 31 [.slice A3 x.spots.length c4, .slice A5 x.edges.length c6], row 3 1 (.slice A79 ((reachP x n le).length) c80) ((reachP x n le).length) ((reachP x n le).flatMap iC_i64), row 3 1 (.slice A81 ((reachP x n am).length) c82) ((reachP x n am).length) ((reachP x n am).flatMap iC_i64)] := S
            refine then_n ?_
            refine s_reg ?_
            refine l_pure 1 (fun L => (19, .int .i64 0) :: L) F (by kernel_rfl) fun a F => ?_
            refine l_then ?_
            refine s_reg ?_
            refine l_pure 1 (fun L => (112, .int .i64 n) :: L) F (by kernel_rfl) fun a F => ?_
            by_cases ht91 : (n : Int) < (0 : Int)
            · skip
              refine l_do F rfl rfl (op_pure F (v0 := .bool (decide ((n : Int) < (0 : Int)))) (v := .bool true) (by kernel_rfl) (lssT ht91) fun a F => ?_)
              refine l_pure 8 (fun L => (20, .bool true) :: (120, .bool true) :: (119, undef) :: (118, undef) :: (117, undef) :: (116, undef) :: (115, undef) :: (114, .bool true) :: L) F (by kernel_rfl) fun a F => ?_
              refine l_then ?_
              refine wp_seq ?_
              refine s_reg ?_
              refine l_pure 3 (fun L => (123, .int .i64 0) :: (122, .int .i64 ((reachP x n le).length : Nat)) :: (121, .slice A79 ((reachP x n le).length) c80) :: L) F (by kernel_rfl) fun a F => ?_
              refine l_then ?_
              refine wp_block ?_
              have hl1 := reach_len x n am
              have hl2 := reach_len x n le
              refine wp_loop_m (fun m a z => ∃ (k : Nat) (at_ : Nat) (sb : Bool), m = (reachP x n le).length - k ∧ (k ≤ (reachP x n le).length) ∧ (at_ ≤ (reachP x n am).length) ∧ (((reachP x n am).drop at_).Sublist ((reachP x n le).drop k)) ∧ (sb = true ∨ n ∈ (reachP x n le).drop k) ∧ Fr a 158 [(1, .int .i64 n), (18, .slice A81 ((reachP x n am).length) c82), (19, .int .i64 (at_ : Nat)), (20, .bool sb), (121, .slice A79 ((reachP x n le).length) c80), (122, .int .i64 ((reachP x n le).length : Nat)), (123, .int .i64 (k : Nat))] ∧ Sat w z [rest w (· < w.heap.size), box b1 25 [.slice As x.spots.length cs, .slice Ae x.edges.length ce], row 74 2 (.slice A3 x.spots.length c4) x.spots.length (x.spots.flatMap spC), row 52 8 (.slice A5 x.edges.length c6) x.edges.length (x.edges.flatMap edC), box b7 31 [.slice A3 x.spots.length c4, .slice A5 x.edges.length c6], row 3 1 (.slice A79 ((reachP x n le).length) c80) ((reachP x n le).length) ((reachP x n le).flatMap iC_i64), row 3 1 (.slice A81 ((reachP x n am).length) c82) ((reachP x n am).length) ((reachP x n am).flatMap iC_i64)]) _ ⟨0, 0, true, rfl, Nat.zero_le _, Nat.zero_le _, (reach_sub (by omega)), (.inl rfl), F.sub ⟨by kernel_rfl, by kernel_rfl, by kernel_rfl, by kernel_rfl, by kernel_rfl, by kernel_rfl, by kernel_rfl, trivial⟩, S⟩ ?_
              rintro m a z ⟨k, at_, sb, hm, hf92, hf93, hf94, hf95, F, S⟩
              have hg := hf94
              have hq := hf95
              refine s_reg ?_
              by_cases ht96 : ((k : Nat) : Int) < (((reachP x n le).length : Nat) : Int)
              · skip
                obtain ⟨nd, hnd⟩ : ∃ nd, (reachP x n le)[k]? = some nd := ⟨_, List.getElem?_eq_getElem (by omega)⟩
                refine l_do F rfl rfl (op_pure F (v0 := .bool (decide (((k : Nat) : Int) < (((reachP x n le).length : Nat) : Int)))) (v := .bool true) (by kernel_rfl) (lssT ht96) fun a F => ?_)
                refine l_then ?_
                refine wp_seq ?_
                refine c_t F rfl ?_
                refine wp_skip ?_
                refine then_n ?_
                refine wp_seq ?_
                refine wp_block ?_
                refine s_reg ?_
                refine l_do F rfl rfl (op_index _ 3 _ _ A79 ((reachP x n le).length) c80 k 1 .i64 F rfl (by kernel_rfl) (by kernel_rfl) (by kernel_rfl) (by kernel_rfl) (get_lt hnd) (row_some S 5 rfl (m := k) (get_lt hnd)) (fun a F => ?_))
                refine l_do F rfl rfl (op_load _ _ A79 (k * 1) (.int .i64 nd) F rfl (by kernel_rfl) (by kernel_rfl) (cRec S 5 iC_len_i64 rfl 0 hnd rfl) (fun a F => ?_))
                refine l_pure 1 (fun L => (22, .int .i64 nd) :: L) F (by kernel_rfl) fun a F => ?_
                refine l_then ?_
                refine s_reg ?_
                refine l_pure 2 (fun L => (128, .bool sb) :: (127, .bool sb) :: L) F (by kernel_rfl) fun a F => ?_
                cases sb with
                | false =>
                  skip
                  refine l_pure 2 (fun L => (130, .int .i64 n) :: (129, .int .i64 nd) :: L) F (by kernel_rfl) fun a F => ?_
                  by_cases ht97 : (nd : Int) = (n : Int)
                  · skip
                    refine l_do F rfl rfl (op_pure F (v0 := .bool ((nd : Int) == (n : Int))) (v := .bool true) (by kernel_rfl) (eqlT ht97) fun a F => ?_)
                    refine l_pure 2 (fun L => (20, .bool true) :: (132, .bool true) :: L) F (by kernel_rfl) fun a F => ?_
                    refine l_then ?_
                    refine s_reg ?_
                    refine l_pure 3 (fun L => (135, .int .i64 ((reachP x n am).length : Nat)) :: (134, .slice A81 ((reachP x n am).length) c82) :: (133, .int .i64 (at_ : Nat)) :: L) F (by kernel_rfl) fun a F => ?_
                    by_cases ht98 : ((at_ : Nat) : Int) < (((reachP x n am).length : Nat) : Int)
                    · skip
                      obtain ⟨fw, hfw⟩ : ∃ fw, (reachP x n am)[at_]? = some fw := ⟨_, List.getElem?_eq_getElem (by omega)⟩
                      refine l_do F rfl rfl (op_pure F (v0 := .bool (decide (((at_ : Nat) : Int) < (((reachP x n am).length : Nat) : Int)))) (v := .bool true) (by kernel_rfl) (lssT ht98) fun a F => ?_)
                      refine l_pure 3 (fun L => (139, .int .i64 (at_ : Nat)) :: (138, .slice A81 ((reachP x n am).length) c82) :: (137, .bool true) :: L) F (by kernel_rfl) fun a F => ?_
                      refine l_do F rfl rfl (op_index _ 3 _ _ A81 ((reachP x n am).length) c82 at_ 1 .i64 F rfl (by kernel_rfl) (by kernel_rfl) (by kernel_rfl) (by kernel_rfl) (get_lt hfw) (row_some S 6 rfl (m := at_) (get_lt hfw)) (fun a F => ?_))
                      refine l_do F rfl rfl (op_load _ _ A81 (at_ * 1) (.int .i64 fw) F rfl (by kernel_rfl) (by kernel_rfl) (cRec S 6 iC_len_i64 rfl 0 hfw rfl) (fun a F => ?_))
                      refine l_pure 1 (fun L => (142, .int .i64 nd) :: L) F (by kernel_rfl) fun a F => ?_
                      by_cases ht99 : (fw : Int) = (nd : Int)
                      · skip
                        refine l_do F rfl rfl (op_pure F (v0 := .bool ((fw : Int) == (nd : Int))) (v := .bool true) (by kernel_rfl) (eqlT ht99) fun a F => ?_)
                        refine l_pure 1 (fun L => (144, .bool true) :: L) F (by kernel_rfl) fun a F => ?_
                        refine l_then ?_
                        refine c_t F rfl ?_
                        refine wp_region_list ?_
                        refine l_pure 1 (fun L => (145, .int .i64 (at_ : Nat)) :: L) F (by kernel_rfl) fun a F => ?_
                        refine l_do F rfl rfl (op_pure F (v0 := .int .i64 (IntKind.wrap .i64 ((at_ : Nat) + 1))) (v := .int .i64 (at_ + 1 : Nat)) (by kernel_rfl) (wrn_i64 (by omega) (by omega) (by omega)) fun a F => ?_)
                        refine l_pure 1 (fun L => (19, .int .i64 (at_ + 1 : Nat)) :: L) F (by kernel_rfl) fun a F => ?_
                        refine l_nil (inb_n ?_)
                        refine then_n ?_
                        refine wp_region_list ?_
                        refine l_do F rfl rfl (op_pure F (v0 := .int .i64 (IntKind.wrap .i64 ((k : Nat) + 1))) (v := .int .i64 (k + 1 : Nat)) (by kernel_rfl) (wrn_i64 (by omega) (by omega) (by omega)) fun a F => ?_)
                        refine l_pure 1 (fun L => (123, .int .i64 (k + 1 : Nat)) :: L) F (by kernel_rfl) fun a F => ?_
                        refine l_then ?_
                        exact ⟨_, (by omega), k + 1, at_ + 1, true, rfl, (by omega), (by omega), (greedy_yes (by rw [hfw, ht99]) hnd hg), (.inl rfl), F.sub ⟨by kernel_rfl, by kernel_rfl, by kernel_rfl, by kernel_rfl, by kernel_rfl, by kernel_rfl, by kernel_rfl, trivial⟩, S⟩
                      · skip
                        refine l_do F rfl rfl (op_pure F (v0 := .bool ((fw : Int) == (nd : Int))) (v := .bool false) (by kernel_rfl) (eqlF ht99) fun a F => ?_)
                        refine l_pure 1 (fun L => (144, .bool false) :: L) F (by kernel_rfl) fun a F => ?_
                        refine l_then ?_
                        refine c_f F rfl ?_
                        refine wp_skip ?_
                        refine inb_n ?_
                        refine then_n ?_
                        refine wp_region_list ?_
                        refine l_do F rfl rfl (op_pure F (v0 := .int .i64 (IntKind.wrap .i64 ((k : Nat) + 1))) (v := .int .i64 (k + 1 : Nat)) (by kernel_rfl) (wrn_i64 (by omega) (by omega) (by omega)) fun a F => ?_)
                        refine l_pure 1 (fun L => (123, .int .i64 (k + 1 : Nat)) :: L) F (by kernel_rfl) fun a F => ?_
                        refine l_then ?_
                        exact ⟨_, (by omega), k + 1, at_, true, rfl, (by omega), (by omega), (greedy_no hfw hnd ht99 hg), (.inl rfl), F.sub ⟨by kernel_rfl, by kernel_rfl, by kernel_rfl, by kernel_rfl, by kernel_rfl, by kernel_rfl, by kernel_rfl, trivial⟩, S⟩
                    · skip
                      refine l_do F rfl rfl (op_pure F (v0 := .bool (decide (((at_ : Nat) : Int) < (((reachP x n am).length : Nat) : Int)))) (v := .bool false) (by kernel_rfl) (lssF ht98) fun a F => ?_)
                      refine l_pure 8 (fun L => (144, .bool false) :: (143, undef) :: (142, undef) :: (141, undef) :: (140, undef) :: (139, undef) :: (138, undef) :: (137, .bool false) :: L) F (by kernel_rfl) fun a F => ?_
                      refine l_then ?_
                      refine c_f F rfl ?_
                      refine wp_skip ?_
                      refine inb_n ?_
                      refine then_n ?_
                      refine wp_region_list ?_
                      refine l_do F rfl rfl (op_pure F (v0 := .int .i64 (IntKind.wrap .i64 ((k : Nat) + 1))) (v := .int .i64 (k + 1 : Nat)) (by kernel_rfl) (wrn_i64 (by omega) (by omega) (by omega)) fun a F => ?_)
                      refine l_pure 1 (fun L => (123, .int .i64 (k + 1 : Nat)) :: L) F (by kernel_rfl) fun a F => ?_
                      refine l_then ?_
                      exact ⟨_, (by omega), k + 1, at_, true, rfl, (by omega), (by omega), (greedy_out (by omega)), (.inl rfl), F.sub ⟨by kernel_rfl, by kernel_rfl, by kernel_rfl, by kernel_rfl, by kernel_rfl, by kernel_rfl, by kernel_rfl, trivial⟩, S⟩
                  · skip
                    refine l_do F rfl rfl (op_pure F (v0 := .bool ((nd : Int) == (n : Int))) (v := .bool false) (by kernel_rfl) (eqlF ht97) fun a F => ?_)
                    refine l_pure 2 (fun L => (20, .bool false) :: (132, .bool false) :: L) F (by kernel_rfl) fun a F => ?_
                    refine l_then ?_
                    refine s_reg ?_
                    refine l_pure 3 (fun L => (135, .int .i64 ((reachP x n am).length : Nat)) :: (134, .slice A81 ((reachP x n am).length) c82) :: (133, .int .i64 (at_ : Nat)) :: L) F (by kernel_rfl) fun a F => ?_
                    by_cases ht100 : ((at_ : Nat) : Int) < (((reachP x n am).length : Nat) : Int)
                    · skip
                      obtain ⟨fw, hfw⟩ : ∃ fw, (reachP x n am)[at_]? = some fw := ⟨_, List.getElem?_eq_getElem (by omega)⟩
                      refine l_do F rfl rfl (op_pure F (v0 := .bool (decide (((at_ : Nat) : Int) < (((reachP x n am).length : Nat) : Int)))) (v := .bool true) (by kernel_rfl) (lssT ht100) fun a F => ?_)
                      refine l_pure 3 (fun L => (139, .int .i64 (at_ : Nat)) :: (138, .slice A81 ((reachP x n am).length) c82) :: (137, .bool true) :: L) F (by kernel_rfl) fun a F => ?_
                      refine l_do F rfl rfl (op_index _ 3 _ _ A81 ((reachP x n am).length) c82 at_ 1 .i64 F rfl (by kernel_rfl) (by kernel_rfl) (by kernel_rfl) (by kernel_rfl) (get_lt hfw) (row_some S 6 rfl (m := at_) (get_lt hfw)) (fun a F => ?_))
                      refine l_do F rfl rfl (op_load _ _ A81 (at_ * 1) (.int .i64 fw) F rfl (by kernel_rfl) (by kernel_rfl) (cRec S 6 iC_len_i64 rfl 0 hfw rfl) (fun a F => ?_))
                      refine l_pure 1 (fun L => (142, .int .i64 nd) :: L) F (by kernel_rfl) fun a F => ?_
                      by_cases ht101 : (fw : Int) = (nd : Int)
                      · skip
                        refine l_do F rfl rfl (op_pure F (v0 := .bool ((fw : Int) == (nd : Int))) (v := .bool true) (by kernel_rfl) (eqlT ht101) fun a F => ?_)
                        refine l_pure 1 (fun L => (144, .bool true) :: L) F (by kernel_rfl) fun a F => ?_
                        refine l_then ?_
                        refine c_t F rfl ?_
                        refine wp_region_list ?_
                        refine l_pure 1 (fun L => (145, .int .i64 (at_ : Nat)) :: L) F (by kernel_rfl) fun a F => ?_
                        refine l_do F rfl rfl (op_pure F (v0 := .int .i64 (IntKind.wrap .i64 ((at_ : Nat) + 1))) (v := .int .i64 (at_ + 1 : Nat)) (by kernel_rfl) (wrn_i64 (by omega) (by omega) (by omega)) fun a F => ?_)
                        refine l_pure 1 (fun L => (19, .int .i64 (at_ + 1 : Nat)) :: L) F (by kernel_rfl) fun a F => ?_
                        refine l_nil (inb_n ?_)
                        refine then_n ?_
                        refine wp_region_list ?_
                        refine l_do F rfl rfl (op_pure F (v0 := .int .i64 (IntKind.wrap .i64 ((k : Nat) + 1))) (v := .int .i64 (k + 1 : Nat)) (by kernel_rfl) (wrn_i64 (by omega) (by omega) (by omega)) fun a F => ?_)
                        refine l_pure 1 (fun L => (123, .int .i64 (k + 1 : Nat)) :: L) F (by kernel_rfl) fun a F => ?_
                        refine l_then ?_
                        exact ⟨_, (by omega), k + 1, at_ + 1, false, rfl, (by omega), (by omega), (greedy_yes (by rw [hfw, ht101]) hnd hg), (.inr (drop_mem hnd (hq.resolve_left (by simp)) ht97)), F.sub ⟨by kernel_rfl, by kernel_rfl, by kernel_rfl, by kernel_rfl, by kernel_rfl, by kernel_rfl, by kernel_rfl, trivial⟩, S⟩
                      · skip
                        refine l_do F rfl rfl (op_pure F (v0 := .bool ((fw : Int) == (nd : Int))) (v := .bool false) (by kernel_rfl) (eqlF ht101) fun a F => ?_)
                        refine l_pure 1 (fun L => (144, .bool false) :: L) F (by kernel_rfl) fun a F => ?_
                        refine l_then ?_
                        refine c_f F rfl ?_
                        refine wp_skip ?_
                        refine inb_n ?_
                        refine then_n ?_
                        refine wp_region_list ?_
                        refine l_do F rfl rfl (op_pure F (v0 := .int .i64 (IntKind.wrap .i64 ((k : Nat) + 1))) (v := .int .i64 (k + 1 : Nat)) (by kernel_rfl) (wrn_i64 (by omega) (by omega) (by omega)) fun a F => ?_)
                        refine l_pure 1 (fun L => (123, .int .i64 (k + 1 : Nat)) :: L) F (by kernel_rfl) fun a F => ?_
                        refine l_then ?_
                        exact ⟨_, (by omega), k + 1, at_, false, rfl, (by omega), (by omega), (greedy_no hfw hnd ht101 hg), (.inr (drop_mem hnd (hq.resolve_left (by simp)) ht97)), F.sub ⟨by kernel_rfl, by kernel_rfl, by kernel_rfl, by kernel_rfl, by kernel_rfl, by kernel_rfl, by kernel_rfl, trivial⟩, S⟩
                    · skip
                      refine l_do F rfl rfl (op_pure F (v0 := .bool (decide (((at_ : Nat) : Int) < (((reachP x n am).length : Nat) : Int)))) (v := .bool false) (by kernel_rfl) (lssF ht100) fun a F => ?_)
                      refine l_pure 8 (fun L => (144, .bool false) :: (143, undef) :: (142, undef) :: (141, undef) :: (140, undef) :: (139, undef) :: (138, undef) :: (137, .bool false) :: L) F (by kernel_rfl) fun a F => ?_
                      refine l_then ?_
                      refine c_f F rfl ?_
                      refine wp_skip ?_
                      refine inb_n ?_
                      refine then_n ?_
                      refine wp_region_list ?_
                      refine l_do F rfl rfl (op_pure F (v0 := .int .i64 (IntKind.wrap .i64 ((k : Nat) + 1))) (v := .int .i64 (k + 1 : Nat)) (by kernel_rfl) (wrn_i64 (by omega) (by omega) (by omega)) fun a F => ?_)
                      refine l_pure 1 (fun L => (123, .int .i64 (k + 1 : Nat)) :: L) F (by kernel_rfl) fun a F => ?_
                      refine l_then ?_
                      exact ⟨_, (by omega), k + 1, at_, false, rfl, (by omega), (by omega), (greedy_out (by omega)), (.inr (drop_mem hnd (hq.resolve_left (by simp)) ht97)), F.sub ⟨by kernel_rfl, by kernel_rfl, by kernel_rfl, by kernel_rfl, by kernel_rfl, by kernel_rfl, by kernel_rfl, trivial⟩, S⟩
                | true =>
                  skip
                  refine l_pure 5 (fun L => (20, .bool true) :: (132, .bool true) :: (131, undef) :: (130, undef) :: (129, undef) :: L) F (by kernel_rfl) fun a F => ?_
                  refine l_then ?_
                  refine s_reg ?_
                  refine l_pure 3 (fun L => (135, .int .i64 ((reachP x n am).length : Nat)) :: (134, .slice A81 ((reachP x n am).length) c82) :: (133, .int .i64 (at_ : Nat)) :: L) F (by kernel_rfl) fun a F => ?_
                  by_cases ht102 : ((at_ : Nat) : Int) < (((reachP x n am).length : Nat) : Int)
                  · skip
                    obtain ⟨fw, hfw⟩ : ∃ fw, (reachP x n am)[at_]? = some fw := ⟨_, List.getElem?_eq_getElem (by omega)⟩
                    refine l_do F rfl rfl (op_pure F (v0 := .bool (decide (((at_ : Nat) : Int) < (((reachP x n am).length : Nat) : Int)))) (v := .bool true) (by kernel_rfl) (lssT ht102) fun a F => ?_)
                    refine l_pure 3 (fun L => (139, .int .i64 (at_ : Nat)) :: (138, .slice A81 ((reachP x n am).length) c82) :: (137, .bool true) :: L) F (by kernel_rfl) fun a F => ?_
                    refine l_do F rfl rfl (op_index _ 3 _ _ A81 ((reachP x n am).length) c82 at_ 1 .i64 F rfl (by kernel_rfl) (by kernel_rfl) (by kernel_rfl) (by kernel_rfl) (get_lt hfw) (row_some S 6 rfl (m := at_) (get_lt hfw)) (fun a F => ?_))
                    refine l_do F rfl rfl (op_load _ _ A81 (at_ * 1) (.int .i64 fw) F rfl (by kernel_rfl) (by kernel_rfl) (cRec S 6 iC_len_i64 rfl 0 hfw rfl) (fun a F => ?_))
                    refine l_pure 1 (fun L => (142, .int .i64 nd) :: L) F (by kernel_rfl) fun a F => ?_
                    by_cases ht103 : (fw : Int) = (nd : Int)
                    · skip
                      refine l_do F rfl rfl (op_pure F (v0 := .bool ((fw : Int) == (nd : Int))) (v := .bool true) (by kernel_rfl) (eqlT ht103) fun a F => ?_)
                      refine l_pure 1 (fun L => (144, .bool true) :: L) F (by kernel_rfl) fun a F => ?_
                      refine l_then ?_
                      refine c_t F rfl ?_
                      refine wp_region_list ?_
                      refine l_pure 1 (fun L => (145, .int .i64 (at_ : Nat)) :: L) F (by kernel_rfl) fun a F => ?_
                      refine l_do F rfl rfl (op_pure F (v0 := .int .i64 (IntKind.wrap .i64 ((at_ : Nat) + 1))) (v := .int .i64 (at_ + 1 : Nat)) (by kernel_rfl) (wrn_i64 (by omega) (by omega) (by omega)) fun a F => ?_)
                      refine l_pure 1 (fun L => (19, .int .i64 (at_ + 1 : Nat)) :: L) F (by kernel_rfl) fun a F => ?_
                      refine l_nil (inb_n ?_)
                      refine then_n ?_
                      refine wp_region_list ?_
                      refine l_do F rfl rfl (op_pure F (v0 := .int .i64 (IntKind.wrap .i64 ((k : Nat) + 1))) (v := .int .i64 (k + 1 : Nat)) (by kernel_rfl) (wrn_i64 (by omega) (by omega) (by omega)) fun a F => ?_)
                      refine l_pure 1 (fun L => (123, .int .i64 (k + 1 : Nat)) :: L) F (by kernel_rfl) fun a F => ?_
                      refine l_then ?_
                      exact ⟨_, (by omega), k + 1, at_ + 1, true, rfl, (by omega), (by omega), (greedy_yes (by rw [hfw, ht103]) hnd hg), (.inl rfl), F.sub ⟨by kernel_rfl, by kernel_rfl, by kernel_rfl, by kernel_rfl, by kernel_rfl, by kernel_rfl, by kernel_rfl, trivial⟩, S⟩
                    · skip
                      refine l_do F rfl rfl (op_pure F (v0 := .bool ((fw : Int) == (nd : Int))) (v := .bool false) (by kernel_rfl) (eqlF ht103) fun a F => ?_)
                      refine l_pure 1 (fun L => (144, .bool false) :: L) F (by kernel_rfl) fun a F => ?_
                      refine l_then ?_
                      refine c_f F rfl ?_
                      refine wp_skip ?_
                      refine inb_n ?_
                      refine then_n ?_
                      refine wp_region_list ?_
                      refine l_do F rfl rfl (op_pure F (v0 := .int .i64 (IntKind.wrap .i64 ((k : Nat) + 1))) (v := .int .i64 (k + 1 : Nat)) (by kernel_rfl) (wrn_i64 (by omega) (by omega) (by omega)) fun a F => ?_)
                      refine l_pure 1 (fun L => (123, .int .i64 (k + 1 : Nat)) :: L) F (by kernel_rfl) fun a F => ?_
                      refine l_then ?_
                      exact ⟨_, (by omega), k + 1, at_, true, rfl, (by omega), (by omega), (greedy_no hfw hnd ht103 hg), (.inl rfl), F.sub ⟨by kernel_rfl, by kernel_rfl, by kernel_rfl, by kernel_rfl, by kernel_rfl, by kernel_rfl, by kernel_rfl, trivial⟩, S⟩
                  · skip
                    refine l_do F rfl rfl (op_pure F (v0 := .bool (decide (((at_ : Nat) : Int) < (((reachP x n am).length : Nat) : Int)))) (v := .bool false) (by kernel_rfl) (lssF ht102) fun a F => ?_)
                    refine l_pure 8 (fun L => (144, .bool false) :: (143, undef) :: (142, undef) :: (141, undef) :: (140, undef) :: (139, undef) :: (138, undef) :: (137, .bool false) :: L) F (by kernel_rfl) fun a F => ?_
                    refine l_then ?_
                    refine c_f F rfl ?_
                    refine wp_skip ?_
                    refine inb_n ?_
                    refine then_n ?_
                    refine wp_region_list ?_
                    refine l_do F rfl rfl (op_pure F (v0 := .int .i64 (IntKind.wrap .i64 ((k : Nat) + 1))) (v := .int .i64 (k + 1 : Nat)) (by kernel_rfl) (wrn_i64 (by omega) (by omega) (by omega)) fun a F => ?_)
                    refine l_pure 1 (fun L => (123, .int .i64 (k + 1 : Nat)) :: L) F (by kernel_rfl) fun a F => ?_
                    refine l_then ?_
                    exact ⟨_, (by omega), k + 1, at_, true, rfl, (by omega), (by omega), (greedy_out (by omega)), (.inl rfl), F.sub ⟨by kernel_rfl, by kernel_rfl, by kernel_rfl, by kernel_rfl, by kernel_rfl, by kernel_rfl, by kernel_rfl, trivial⟩, S⟩
              · skip
                have hsb : sb = true := by
                  rcases hq with h | h
                  · exact h
                  · rw [List.drop_of_length_le (by omega)] at h; cases h
                subst hsb
                refine l_do F rfl rfl (op_pure F (v0 := .bool (decide (((k : Nat) : Int) < (((reachP x n le).length : Nat) : Int)))) (v := .bool false) (by kernel_rfl) (lssF ht96) fun a F => ?_)
                refine l_then ?_
                refine wp_seq ?_
                refine c_f F rfl ?_
                refine wp_exit ?_
                refine then_x ?_
                refine then_x ?_
                refine inb_x ?_
                refine then_n ?_
                refine s_reg ?_
                refine l_do F rfl rfl (op_fn F (by kernel_rfl) (awake_any _) ?_)
                rintro e z ⟨rfl, hb⟩
                have S := S.grow hb
                refine ⟨_, rfl, ?_⟩
                intro a F
                refine l_pure 4 (fun L => (152, .int .i64 ((reachP x n am).length : Nat)) :: (151, .slice A81 ((reachP x n am).length) c82) :: (150, .int .i64 (at_ : Nat)) :: (149, .bool true) :: L) F (by kernel_rfl) fun a F => ?_
                refine l_do F rfl rfl (op_pure F (v0 := .bool (((at_ : Nat) : Int) == (((reachP x n am).length : Nat) : Int))) (v := .bool true) (by kernel_rfl) (eqlT (by have h9 := greedy_end (by omega) (by omega) hg; omega)) fun a F => ?_)
                refine l_pure 5 (fun L => (8, .bool true) :: (157, .bool true) :: (156, .bool true) :: (155, .bool true) :: (154, .bool true) :: L) F (by kernel_rfl) fun a F => ?_
                refine l_then ?_
                refine wp_ret ?_
                exact fin F [.tmp 8] [.bool true] rfl ⟨by kernel_rfl, trivial⟩ (.bool true) rfl ⟨rfl, S.below (i := 0) rfl⟩
            · skip
              refine l_do F rfl rfl (op_pure F (v0 := .bool (decide ((n : Int) < (0 : Int)))) (v := .bool false) (by kernel_rfl) (lssF ht91) fun a F => ?_)
              refine l_pure 3 (fun L => (116, .pointer (some ⟨b1, 0, none⟩)) :: (115, .int .i64 n) :: (114, .bool false) :: L) F (by kernel_rfl) fun a F => ?_
              refine l_do F rfl rfl (op_load _ _ (some ⟨b1, 0, none⟩) 0 (.slice As x.spots.length cs) F rfl (by kernel_rfl) (by kernel_rfl) (cBox S 1 rfl (j := 0) rfl) (fun a F => ?_))
              refine l_pure 1 (fun L => (118, .int .i64 (x.spots.length : Nat)) :: L) F (by kernel_rfl) fun a F => ?_
              by_cases ht104 : ((x.spots.length : Nat) : Int) ≤ (n : Int)
              · skip
                refine l_do F rfl rfl (op_pure F (v0 := .bool (decide ((n : Int) ≥ ((x.spots.length : Nat) : Int)))) (v := .bool true) (by kernel_rfl) (geqT ht104) fun a F => ?_)
                refine l_pure 2 (fun L => (20, .bool true) :: (120, .bool true) :: L) F (by kernel_rfl) fun a F => ?_
                refine l_then ?_
                refine wp_seq ?_
                refine s_reg ?_
                refine l_pure 3 (fun L => (123, .int .i64 0) :: (122, .int .i64 ((reachP x n le).length : Nat)) :: (121, .slice A79 ((reachP x n le).length) c80) :: L) F (by kernel_rfl) fun a F => ?_
                refine l_then ?_
                refine wp_block ?_
                have hl1 := reach_len x n am
                have hl2 := reach_len x n le
                refine wp_loop_m (fun m a z => ∃ (k : Nat) (at_ : Nat) (sb : Bool), m = (reachP x n le).length - k ∧ (k ≤ (reachP x n le).length) ∧ (at_ ≤ (reachP x n am).length) ∧ (((reachP x n am).drop at_).Sublist ((reachP x n le).drop k)) ∧ (sb = true ∨ n ∈ (reachP x n le).drop k) ∧ Fr a 158 [(1, .int .i64 n), (18, .slice A81 ((reachP x n am).length) c82), (19, .int .i64 (at_ : Nat)), (20, .bool sb), (121, .slice A79 ((reachP x n le).length) c80), (122, .int .i64 ((reachP x n le).length : Nat)), (123, .int .i64 (k : Nat))] ∧ Sat w z [rest w (· < w.heap.size), box b1 25 [.slice As x.spots.length cs, .slice Ae x.edges.length ce], row 74 2 (.slice A3 x.spots.length c4) x.spots.length (x.spots.flatMap spC), row 52 8 (.slice A5 x.edges.length c6) x.edges.length (x.edges.flatMap edC), box b7 31 [.slice A3 x.spots.length c4, .slice A5 x.edges.length c6], row 3 1 (.slice A79 ((reachP x n le).length) c80) ((reachP x n le).length) ((reachP x n le).flatMap iC_i64), row 3 1 (.slice A81 ((reachP x n am).length) c82) ((reachP x n am).length) ((reachP x n am).flatMap iC_i64)]) _ ⟨0, 0, true, rfl, Nat.zero_le _, Nat.zero_le _, (reach_sub (by omega)), (.inl rfl), F.sub ⟨by kernel_rfl, by kernel_rfl, by kernel_rfl, by kernel_rfl, by kernel_rfl, by kernel_rfl, by kernel_rfl, trivial⟩, S⟩ ?_
                rintro m a z ⟨k, at_, sb, hm, hf105, hf106, hf107, hf108, F, S⟩
                have hg := hf107
                have hq := hf108
                refine s_reg ?_
                by_cases ht109 : ((k : Nat) : Int) < (((reachP x n le).length : Nat) : Int)
                · skip
                  obtain ⟨nd, hnd⟩ : ∃ nd, (reachP x n le)[k]? = some nd := ⟨_, List.getElem?_eq_getElem (by omega)⟩
                  refine l_do F rfl rfl (op_pure F (v0 := .bool (decide (((k : Nat) : Int) < (((reachP x n le).length : Nat) : Int)))) (v := .bool true) (by kernel_rfl) (lssT ht109) fun a F => ?_)
                  refine l_then ?_
                  refine wp_seq ?_
                  refine c_t F rfl ?_
                  refine wp_skip ?_
                  refine then_n ?_
                  refine wp_seq ?_
                  refine wp_block ?_
                  refine s_reg ?_
                  refine l_do F rfl rfl (op_index _ 3 _ _ A79 ((reachP x n le).length) c80 k 1 .i64 F rfl (by kernel_rfl) (by kernel_rfl) (by kernel_rfl) (by kernel_rfl) (get_lt hnd) (row_some S 5 rfl (m := k) (get_lt hnd)) (fun a F => ?_))
                  refine l_do F rfl rfl (op_load _ _ A79 (k * 1) (.int .i64 nd) F rfl (by kernel_rfl) (by kernel_rfl) (cRec S 5 iC_len_i64 rfl 0 hnd rfl) (fun a F => ?_))
                  refine l_pure 1 (fun L => (22, .int .i64 nd) :: L) F (by kernel_rfl) fun a F => ?_
                  refine l_then ?_
                  refine s_reg ?_
                  refine l_pure 2 (fun L => (128, .bool sb) :: (127, .bool sb) :: L) F (by kernel_rfl) fun a F => ?_
                  cases sb with
                  | false =>
                    skip
                    refine l_pure 2 (fun L => (130, .int .i64 n) :: (129, .int .i64 nd) :: L) F (by kernel_rfl) fun a F => ?_
                    by_cases ht110 : (nd : Int) = (n : Int)
                    · skip
                      refine l_do F rfl rfl (op_pure F (v0 := .bool ((nd : Int) == (n : Int))) (v := .bool true) (by kernel_rfl) (eqlT ht110) fun a F => ?_)
                      refine l_pure 2 (fun L => (20, .bool true) :: (132, .bool true) :: L) F (by kernel_rfl) fun a F => ?_
                      refine l_then ?_
                      refine s_reg ?_
                      refine l_pure 3 (fun L => (135, .int .i64 ((reachP x n am).length : Nat)) :: (134, .slice A81 ((reachP x n am).length) c82) :: (133, .int .i64 (at_ : Nat)) :: L) F (by kernel_rfl) fun a F => ?_
                      by_cases ht111 : ((at_ : Nat) : Int) < (((reachP x n am).length : Nat) : Int)
                      · skip
                        obtain ⟨fw, hfw⟩ : ∃ fw, (reachP x n am)[at_]? = some fw := ⟨_, List.getElem?_eq_getElem (by omega)⟩
                        refine l_do F rfl rfl (op_pure F (v0 := .bool (decide (((at_ : Nat) : Int) < (((reachP x n am).length : Nat) : Int)))) (v := .bool true) (by kernel_rfl) (lssT ht111) fun a F => ?_)
                        refine l_pure 3 (fun L => (139, .int .i64 (at_ : Nat)) :: (138, .slice A81 ((reachP x n am).length) c82) :: (137, .bool true) :: L) F (by kernel_rfl) fun a F => ?_
                        refine l_do F rfl rfl (op_index _ 3 _ _ A81 ((reachP x n am).length) c82 at_ 1 .i64 F rfl (by kernel_rfl) (by kernel_rfl) (by kernel_rfl) (by kernel_rfl) (get_lt hfw) (row_some S 6 rfl (m := at_) (get_lt hfw)) (fun a F => ?_))
                        refine l_do F rfl rfl (op_load _ _ A81 (at_ * 1) (.int .i64 fw) F rfl (by kernel_rfl) (by kernel_rfl) (cRec S 6 iC_len_i64 rfl 0 hfw rfl) (fun a F => ?_))
                        refine l_pure 1 (fun L => (142, .int .i64 nd) :: L) F (by kernel_rfl) fun a F => ?_
                        by_cases ht112 : (fw : Int) = (nd : Int)
                        · skip
                          refine l_do F rfl rfl (op_pure F (v0 := .bool ((fw : Int) == (nd : Int))) (v := .bool true) (by kernel_rfl) (eqlT ht112) fun a F => ?_)
                          refine l_pure 1 (fun L => (144, .bool true) :: L) F (by kernel_rfl) fun a F => ?_
                          refine l_then ?_
                          refine c_t F rfl ?_
                          refine wp_region_list ?_
                          refine l_pure 1 (fun L => (145, .int .i64 (at_ : Nat)) :: L) F (by kernel_rfl) fun a F => ?_
                          refine l_do F rfl rfl (op_pure F (v0 := .int .i64 (IntKind.wrap .i64 ((at_ : Nat) + 1))) (v := .int .i64 (at_ + 1 : Nat)) (by kernel_rfl) (wrn_i64 (by omega) (by omega) (by omega)) fun a F => ?_)
                          refine l_pure 1 (fun L => (19, .int .i64 (at_ + 1 : Nat)) :: L) F (by kernel_rfl) fun a F => ?_
                          refine l_nil (inb_n ?_)
                          refine then_n ?_
                          refine wp_region_list ?_
                          refine l_do F rfl rfl (op_pure F (v0 := .int .i64 (IntKind.wrap .i64 ((k : Nat) + 1))) (v := .int .i64 (k + 1 : Nat)) (by kernel_rfl) (wrn_i64 (by omega) (by omega) (by omega)) fun a F => ?_)
                          refine l_pure 1 (fun L => (123, .int .i64 (k + 1 : Nat)) :: L) F (by kernel_rfl) fun a F => ?_
                          refine l_then ?_
                          exact ⟨_, (by omega), k + 1, at_ + 1, true, rfl, (by omega), (by omega), (greedy_yes (by rw [hfw, ht112]) hnd hg), (.inl rfl), F.sub ⟨by kernel_rfl, by kernel_rfl, by kernel_rfl, by kernel_rfl, by kernel_rfl, by kernel_rfl, by kernel_rfl, trivial⟩, S⟩
                        · skip
                          refine l_do F rfl rfl (op_pure F (v0 := .bool ((fw : Int) == (nd : Int))) (v := .bool false) (by kernel_rfl) (eqlF ht112) fun a F => ?_)
                          refine l_pure 1 (fun L => (144, .bool false) :: L) F (by kernel_rfl) fun a F => ?_
                          refine l_then ?_
                          refine c_f F rfl ?_
                          refine wp_skip ?_
                          refine inb_n ?_
                          refine then_n ?_
                          refine wp_region_list ?_
                          refine l_do F rfl rfl (op_pure F (v0 := .int .i64 (IntKind.wrap .i64 ((k : Nat) + 1))) (v := .int .i64 (k + 1 : Nat)) (by kernel_rfl) (wrn_i64 (by omega) (by omega) (by omega)) fun a F => ?_)
                          refine l_pure 1 (fun L => (123, .int .i64 (k + 1 : Nat)) :: L) F (by kernel_rfl) fun a F => ?_
                          refine l_then ?_
                          exact ⟨_, (by omega), k + 1, at_, true, rfl, (by omega), (by omega), (greedy_no hfw hnd ht112 hg), (.inl rfl), F.sub ⟨by kernel_rfl, by kernel_rfl, by kernel_rfl, by kernel_rfl, by kernel_rfl, by kernel_rfl, by kernel_rfl, trivial⟩, S⟩
                      · skip
                        refine l_do F rfl rfl (op_pure F (v0 := .bool (decide (((at_ : Nat) : Int) < (((reachP x n am).length : Nat) : Int)))) (v := .bool false) (by kernel_rfl) (lssF ht111) fun a F => ?_)
                        refine l_pure 8 (fun L => (144, .bool false) :: (143, undef) :: (142, undef) :: (141, undef) :: (140, undef) :: (139, undef) :: (138, undef) :: (137, .bool false) :: L) F (by kernel_rfl) fun a F => ?_
                        refine l_then ?_
                        refine c_f F rfl ?_
                        refine wp_skip ?_
                        refine inb_n ?_
                        refine then_n ?_
                        refine wp_region_list ?_
                        refine l_do F rfl rfl (op_pure F (v0 := .int .i64 (IntKind.wrap .i64 ((k : Nat) + 1))) (v := .int .i64 (k + 1 : Nat)) (by kernel_rfl) (wrn_i64 (by omega) (by omega) (by omega)) fun a F => ?_)
                        refine l_pure 1 (fun L => (123, .int .i64 (k + 1 : Nat)) :: L) F (by kernel_rfl) fun a F => ?_
                        refine l_then ?_
                        exact ⟨_, (by omega), k + 1, at_, true, rfl, (by omega), (by omega), (greedy_out (by omega)), (.inl rfl), F.sub ⟨by kernel_rfl, by kernel_rfl, by kernel_rfl, by kernel_rfl, by kernel_rfl, by kernel_rfl, by kernel_rfl, trivial⟩, S⟩
                    · skip
                      refine l_do F rfl rfl (op_pure F (v0 := .bool ((nd : Int) == (n : Int))) (v := .bool false) (by kernel_rfl) (eqlF ht110) fun a F => ?_)
                      refine l_pure 2 (fun L => (20, .bool false) :: (132, .bool false) :: L) F (by kernel_rfl) fun a F => ?_
                      refine l_then ?_
                      refine s_reg ?_
                      refine l_pure 3 (fun L => (135, .int .i64 ((reachP x n am).length : Nat)) :: (134, .slice A81 ((reachP x n am).length) c82) :: (133, .int .i64 (at_ : Nat)) :: L) F (by kernel_rfl) fun a F => ?_
                      by_cases ht113 : ((at_ : Nat) : Int) < (((reachP x n am).length : Nat) : Int)
                      · skip
                        obtain ⟨fw, hfw⟩ : ∃ fw, (reachP x n am)[at_]? = some fw := ⟨_, List.getElem?_eq_getElem (by omega)⟩
                        refine l_do F rfl rfl (op_pure F (v0 := .bool (decide (((at_ : Nat) : Int) < (((reachP x n am).length : Nat) : Int)))) (v := .bool true) (by kernel_rfl) (lssT ht113) fun a F => ?_)
                        refine l_pure 3 (fun L => (139, .int .i64 (at_ : Nat)) :: (138, .slice A81 ((reachP x n am).length) c82) :: (137, .bool true) :: L) F (by kernel_rfl) fun a F => ?_
                        refine l_do F rfl rfl (op_index _ 3 _ _ A81 ((reachP x n am).length) c82 at_ 1 .i64 F rfl (by kernel_rfl) (by kernel_rfl) (by kernel_rfl) (by kernel_rfl) (get_lt hfw) (row_some S 6 rfl (m := at_) (get_lt hfw)) (fun a F => ?_))
                        refine l_do F rfl rfl (op_load _ _ A81 (at_ * 1) (.int .i64 fw) F rfl (by kernel_rfl) (by kernel_rfl) (cRec S 6 iC_len_i64 rfl 0 hfw rfl) (fun a F => ?_))
                        refine l_pure 1 (fun L => (142, .int .i64 nd) :: L) F (by kernel_rfl) fun a F => ?_
                        by_cases ht114 : (fw : Int) = (nd : Int)
                        · skip
                          refine l_do F rfl rfl (op_pure F (v0 := .bool ((fw : Int) == (nd : Int))) (v := .bool true) (by kernel_rfl) (eqlT ht114) fun a F => ?_)
                          refine l_pure 1 (fun L => (144, .bool true) :: L) F (by kernel_rfl) fun a F => ?_
                          refine l_then ?_
                          refine c_t F rfl ?_
                          refine wp_region_list ?_
                          refine l_pure 1 (fun L => (145, .int .i64 (at_ : Nat)) :: L) F (by kernel_rfl) fun a F => ?_
                          refine l_do F rfl rfl (op_pure F (v0 := .int .i64 (IntKind.wrap .i64 ((at_ : Nat) + 1))) (v := .int .i64 (at_ + 1 : Nat)) (by kernel_rfl) (wrn_i64 (by omega) (by omega) (by omega)) fun a F => ?_)
                          refine l_pure 1 (fun L => (19, .int .i64 (at_ + 1 : Nat)) :: L) F (by kernel_rfl) fun a F => ?_
                          refine l_nil (inb_n ?_)
                          refine then_n ?_
                          refine wp_region_list ?_
                          refine l_do F rfl rfl (op_pure F (v0 := .int .i64 (IntKind.wrap .i64 ((k : Nat) + 1))) (v := .int .i64 (k + 1 : Nat)) (by kernel_rfl) (wrn_i64 (by omega) (by omega) (by omega)) fun a F => ?_)
                          refine l_pure 1 (fun L => (123, .int .i64 (k + 1 : Nat)) :: L) F (by kernel_rfl) fun a F => ?_
                          refine l_then ?_
                          exact ⟨_, (by omega), k + 1, at_ + 1, false, rfl, (by omega), (by omega), (greedy_yes (by rw [hfw, ht114]) hnd hg), (.inr (drop_mem hnd (hq.resolve_left (by simp)) ht110)), F.sub ⟨by kernel_rfl, by kernel_rfl, by kernel_rfl, by kernel_rfl, by kernel_rfl, by kernel_rfl, by kernel_rfl, trivial⟩, S⟩
                        · skip
                          refine l_do F rfl rfl (op_pure F (v0 := .bool ((fw : Int) == (nd : Int))) (v := .bool false) (by kernel_rfl) (eqlF ht114) fun a F => ?_)
                          refine l_pure 1 (fun L => (144, .bool false) :: L) F (by kernel_rfl) fun a F => ?_
                          refine l_then ?_
                          refine c_f F rfl ?_
                          refine wp_skip ?_
                          refine inb_n ?_
                          refine then_n ?_
                          refine wp_region_list ?_
                          refine l_do F rfl rfl (op_pure F (v0 := .int .i64 (IntKind.wrap .i64 ((k : Nat) + 1))) (v := .int .i64 (k + 1 : Nat)) (by kernel_rfl) (wrn_i64 (by omega) (by omega) (by omega)) fun a F => ?_)
                          refine l_pure 1 (fun L => (123, .int .i64 (k + 1 : Nat)) :: L) F (by kernel_rfl) fun a F => ?_
                          refine l_then ?_
                          exact ⟨_, (by omega), k + 1, at_, false, rfl, (by omega), (by omega), (greedy_no hfw hnd ht114 hg), (.inr (drop_mem hnd (hq.resolve_left (by simp)) ht110)), F.sub ⟨by kernel_rfl, by kernel_rfl, by kernel_rfl, by kernel_rfl, by kernel_rfl, by kernel_rfl, by kernel_rfl, trivial⟩, S⟩
                      · skip
                        refine l_do F rfl rfl (op_pure F (v0 := .bool (decide (((at_ : Nat) : Int) < (((reachP x n am).length : Nat) : Int)))) (v := .bool false) (by kernel_rfl) (lssF ht113) fun a F => ?_)
                        refine l_pure 8 (fun L => (144, .bool false) :: (143, undef) :: (142, undef) :: (141, undef) :: (140, undef) :: (139, undef) :: (138, undef) :: (137, .bool false) :: L) F (by kernel_rfl) fun a F => ?_
                        refine l_then ?_
                        refine c_f F rfl ?_
                        refine wp_skip ?_
                        refine inb_n ?_
                        refine then_n ?_
                        refine wp_region_list ?_
                        refine l_do F rfl rfl (op_pure F (v0 := .int .i64 (IntKind.wrap .i64 ((k : Nat) + 1))) (v := .int .i64 (k + 1 : Nat)) (by kernel_rfl) (wrn_i64 (by omega) (by omega) (by omega)) fun a F => ?_)
                        refine l_pure 1 (fun L => (123, .int .i64 (k + 1 : Nat)) :: L) F (by kernel_rfl) fun a F => ?_
                        refine l_then ?_
                        exact ⟨_, (by omega), k + 1, at_, false, rfl, (by omega), (by omega), (greedy_out (by omega)), (.inr (drop_mem hnd (hq.resolve_left (by simp)) ht110)), F.sub ⟨by kernel_rfl, by kernel_rfl, by kernel_rfl, by kernel_rfl, by kernel_rfl, by kernel_rfl, by kernel_rfl, trivial⟩, S⟩
                  | true =>
                    skip
                    refine l_pure 5 (fun L => (20, .bool true) :: (132, .bool true) :: (131, undef) :: (130, undef) :: (129, undef) :: L) F (by kernel_rfl) fun a F => ?_
                    refine l_then ?_
                    refine s_reg ?_
                    refine l_pure 3 (fun L => (135, .int .i64 ((reachP x n am).length : Nat)) :: (134, .slice A81 ((reachP x n am).length) c82) :: (133, .int .i64 (at_ : Nat)) :: L) F (by kernel_rfl) fun a F => ?_
                    by_cases ht115 : ((at_ : Nat) : Int) < (((reachP x n am).length : Nat) : Int)
                    · skip
                      obtain ⟨fw, hfw⟩ : ∃ fw, (reachP x n am)[at_]? = some fw := ⟨_, List.getElem?_eq_getElem (by omega)⟩
                      refine l_do F rfl rfl (op_pure F (v0 := .bool (decide (((at_ : Nat) : Int) < (((reachP x n am).length : Nat) : Int)))) (v := .bool true) (by kernel_rfl) (lssT ht115) fun a F => ?_)
                      refine l_pure 3 (fun L => (139, .int .i64 (at_ : Nat)) :: (138, .slice A81 ((reachP x n am).length) c82) :: (137, .bool true) :: L) F (by kernel_rfl) fun a F => ?_
                      refine l_do F rfl rfl (op_index _ 3 _ _ A81 ((reachP x n am).length) c82 at_ 1 .i64 F rfl (by kernel_rfl) (by kernel_rfl) (by kernel_rfl) (by kernel_rfl) (get_lt hfw) (row_some S 6 rfl (m := at_) (get_lt hfw)) (fun a F => ?_))
                      refine l_do F rfl rfl (op_load _ _ A81 (at_ * 1) (.int .i64 fw) F rfl (by kernel_rfl) (by kernel_rfl) (cRec S 6 iC_len_i64 rfl 0 hfw rfl) (fun a F => ?_))
                      refine l_pure 1 (fun L => (142, .int .i64 nd) :: L) F (by kernel_rfl) fun a F => ?_
                      by_cases ht116 : (fw : Int) = (nd : Int)
                      · skip
                        refine l_do F rfl rfl (op_pure F (v0 := .bool ((fw : Int) == (nd : Int))) (v := .bool true) (by kernel_rfl) (eqlT ht116) fun a F => ?_)
                        refine l_pure 1 (fun L => (144, .bool true) :: L) F (by kernel_rfl) fun a F => ?_
                        refine l_then ?_
                        refine c_t F rfl ?_
                        refine wp_region_list ?_
                        refine l_pure 1 (fun L => (145, .int .i64 (at_ : Nat)) :: L) F (by kernel_rfl) fun a F => ?_
                        refine l_do F rfl rfl (op_pure F (v0 := .int .i64 (IntKind.wrap .i64 ((at_ : Nat) + 1))) (v := .int .i64 (at_ + 1 : Nat)) (by kernel_rfl) (wrn_i64 (by omega) (by omega) (by omega)) fun a F => ?_)
                        refine l_pure 1 (fun L => (19, .int .i64 (at_ + 1 : Nat)) :: L) F (by kernel_rfl) fun a F => ?_
                        refine l_nil (inb_n ?_)
                        refine then_n ?_
                        refine wp_region_list ?_
                        refine l_do F rfl rfl (op_pure F (v0 := .int .i64 (IntKind.wrap .i64 ((k : Nat) + 1))) (v := .int .i64 (k + 1 : Nat)) (by kernel_rfl) (wrn_i64 (by omega) (by omega) (by omega)) fun a F => ?_)
                        refine l_pure 1 (fun L => (123, .int .i64 (k + 1 : Nat)) :: L) F (by kernel_rfl) fun a F => ?_
                        refine l_then ?_
                        exact ⟨_, (by omega), k + 1, at_ + 1, true, rfl, (by omega), (by omega), (greedy_yes (by rw [hfw, ht116]) hnd hg), (.inl rfl), F.sub ⟨by kernel_rfl, by kernel_rfl, by kernel_rfl, by kernel_rfl, by kernel_rfl, by kernel_rfl, by kernel_rfl, trivial⟩, S⟩
                      · skip
                        refine l_do F rfl rfl (op_pure F (v0 := .bool ((fw : Int) == (nd : Int))) (v := .bool false) (by kernel_rfl) (eqlF ht116) fun a F => ?_)
                        refine l_pure 1 (fun L => (144, .bool false) :: L) F (by kernel_rfl) fun a F => ?_
                        refine l_then ?_
                        refine c_f F rfl ?_
                        refine wp_skip ?_
                        refine inb_n ?_
                        refine then_n ?_
                        refine wp_region_list ?_
                        refine l_do F rfl rfl (op_pure F (v0 := .int .i64 (IntKind.wrap .i64 ((k : Nat) + 1))) (v := .int .i64 (k + 1 : Nat)) (by kernel_rfl) (wrn_i64 (by omega) (by omega) (by omega)) fun a F => ?_)
                        refine l_pure 1 (fun L => (123, .int .i64 (k + 1 : Nat)) :: L) F (by kernel_rfl) fun a F => ?_
                        refine l_then ?_
                        exact ⟨_, (by omega), k + 1, at_, true, rfl, (by omega), (by omega), (greedy_no hfw hnd ht116 hg), (.inl rfl), F.sub ⟨by kernel_rfl, by kernel_rfl, by kernel_rfl, by kernel_rfl, by kernel_rfl, by kernel_rfl, by kernel_rfl, trivial⟩, S⟩
                    · skip
                      refine l_do F rfl rfl (op_pure F (v0 := .bool (decide (((at_ : Nat) : Int) < (((reachP x n am).length : Nat) : Int)))) (v := .bool false) (by kernel_rfl) (lssF ht115) fun a F => ?_)
                      refine l_pure 8 (fun L => (144, .bool false) :: (143, undef) :: (142, undef) :: (141, undef) :: (140, undef) :: (139, undef) :: (138, undef) :: (137, .bool false) :: L) F (by kernel_rfl) fun a F => ?_
                      refine l_then ?_
                      refine c_f F rfl ?_
                      refine wp_skip ?_
                      refine inb_n ?_
                      refine then_n ?_
                      refine wp_region_list ?_
                      refine l_do F rfl rfl (op_pure F (v0 := .int .i64 (IntKind.wrap .i64 ((k : Nat) + 1))) (v := .int .i64 (k + 1 : Nat)) (by kernel_rfl) (wrn_i64 (by omega) (by omega) (by omega)) fun a F => ?_)
                      refine l_pure 1 (fun L => (123, .int .i64 (k + 1 : Nat)) :: L) F (by kernel_rfl) fun a F => ?_
                      refine l_then ?_
                      exact ⟨_, (by omega), k + 1, at_, true, rfl, (by omega), (by omega), (greedy_out (by omega)), (.inl rfl), F.sub ⟨by kernel_rfl, by kernel_rfl, by kernel_rfl, by kernel_rfl, by kernel_rfl, by kernel_rfl, by kernel_rfl, trivial⟩, S⟩
                · skip
                  have hsb : sb = true := by
                    rcases hq with h | h
                    · exact h
                    · rw [List.drop_of_length_le (by omega)] at h; cases h
                  subst hsb
                  refine l_do F rfl rfl (op_pure F (v0 := .bool (decide (((k : Nat) : Int) < (((reachP x n le).length : Nat) : Int)))) (v := .bool false) (by kernel_rfl) (lssF ht109) fun a F => ?_)
                  refine l_then ?_
                  refine wp_seq ?_
                  refine c_f F rfl ?_
                  refine wp_exit ?_
                  refine then_x ?_
                  refine then_x ?_
                  refine inb_x ?_
                  refine then_n ?_
                  refine s_reg ?_
                  refine l_do F rfl rfl (op_fn F (by kernel_rfl) (awake_any _) ?_)
                  rintro e z ⟨rfl, hb⟩
                  have S := S.grow hb
                  refine ⟨_, rfl, ?_⟩
                  intro a F
                  refine l_pure 4 (fun L => (152, .int .i64 ((reachP x n am).length : Nat)) :: (151, .slice A81 ((reachP x n am).length) c82) :: (150, .int .i64 (at_ : Nat)) :: (149, .bool true) :: L) F (by kernel_rfl) fun a F => ?_
                  refine l_do F rfl rfl (op_pure F (v0 := .bool (((at_ : Nat) : Int) == (((reachP x n am).length : Nat) : Int))) (v := .bool true) (by kernel_rfl) (eqlT (by have h9 := greedy_end (by omega) (by omega) hg; omega)) fun a F => ?_)
                  refine l_pure 5 (fun L => (8, .bool true) :: (157, .bool true) :: (156, .bool true) :: (155, .bool true) :: (154, .bool true) :: L) F (by kernel_rfl) fun a F => ?_
                  refine l_then ?_
                  refine wp_ret ?_
                  exact fin F [.tmp 8] [.bool true] rfl ⟨by kernel_rfl, trivial⟩ (.bool true) rfl ⟨rfl, S.below (i := 0) rfl⟩
              · skip
                refine l_do F rfl rfl (op_pure F (v0 := .bool (decide ((n : Int) ≥ ((x.spots.length : Nat) : Int)))) (v := .bool false) (by kernel_rfl) (geqF ht104) fun a F => ?_)
                refine l_pure 2 (fun L => (20, .bool false) :: (120, .bool false) :: L) F (by kernel_rfl) fun a F => ?_
                refine l_then ?_
                refine wp_seq ?_
                refine s_reg ?_
                refine l_pure 3 (fun L => (123, .int .i64 0) :: (122, .int .i64 ((reachP x n le).length : Nat)) :: (121, .slice A79 ((reachP x n le).length) c80) :: L) F (by kernel_rfl) fun a F => ?_
                refine l_then ?_
                refine wp_block ?_
                have hl1 := reach_len x n am
                have hl2 := reach_len x n le
                have hn : inWeb x n := ⟨hc0, by omega, by omega⟩
                refine wp_loop_m (fun m a z => ∃ (k : Nat) (at_ : Nat) (sb : Bool), m = (reachP x n le).length - k ∧ (k ≤ (reachP x n le).length) ∧ (at_ ≤ (reachP x n am).length) ∧ (((reachP x n am).drop at_).Sublist ((reachP x n le).drop k)) ∧ (sb = true ∨ n ∈ (reachP x n le).drop k) ∧ Fr a 158 [(1, .int .i64 n), (18, .slice A81 ((reachP x n am).length) c82), (19, .int .i64 (at_ : Nat)), (20, .bool sb), (121, .slice A79 ((reachP x n le).length) c80), (122, .int .i64 ((reachP x n le).length : Nat)), (123, .int .i64 (k : Nat))] ∧ Sat w z [rest w (· < w.heap.size), box b1 25 [.slice As x.spots.length cs, .slice Ae x.edges.length ce], row 74 2 (.slice A3 x.spots.length c4) x.spots.length (x.spots.flatMap spC), row 52 8 (.slice A5 x.edges.length c6) x.edges.length (x.edges.flatMap edC), box b7 31 [.slice A3 x.spots.length c4, .slice A5 x.edges.length c6], row 3 1 (.slice A79 ((reachP x n le).length) c80) ((reachP x n le).length) ((reachP x n le).flatMap iC_i64), row 3 1 (.slice A81 ((reachP x n am).length) c82) ((reachP x n am).length) ((reachP x n am).flatMap iC_i64)]) _ ⟨0, 0, false, rfl, Nat.zero_le _, Nat.zero_le _, (reach_sub (by omega)), (.inr (by rw [List.drop_zero]; exact reach_self hn)), F.sub ⟨by kernel_rfl, by kernel_rfl, by kernel_rfl, by kernel_rfl, by kernel_rfl, by kernel_rfl, by kernel_rfl, trivial⟩, S⟩ ?_
                rintro m a z ⟨k, at_, sb, hm, hf117, hf118, hf119, hf120, F, S⟩
                have hg := hf119
                have hq := hf120
                refine s_reg ?_
                by_cases ht121 : ((k : Nat) : Int) < (((reachP x n le).length : Nat) : Int)
                · skip
                  obtain ⟨nd, hnd⟩ : ∃ nd, (reachP x n le)[k]? = some nd := ⟨_, List.getElem?_eq_getElem (by omega)⟩
                  refine l_do F rfl rfl (op_pure F (v0 := .bool (decide (((k : Nat) : Int) < (((reachP x n le).length : Nat) : Int)))) (v := .bool true) (by kernel_rfl) (lssT ht121) fun a F => ?_)
                  refine l_then ?_
                  refine wp_seq ?_
                  refine c_t F rfl ?_
                  refine wp_skip ?_
                  refine then_n ?_
                  refine wp_seq ?_
                  refine wp_block ?_
                  refine s_reg ?_
                  refine l_do F rfl rfl (op_index _ 3 _ _ A79 ((reachP x n le).length) c80 k 1 .i64 F rfl (by kernel_rfl) (by kernel_rfl) (by kernel_rfl) (by kernel_rfl) (get_lt hnd) (row_some S 5 rfl (m := k) (get_lt hnd)) (fun a F => ?_))
                  refine l_do F rfl rfl (op_load _ _ A79 (k * 1) (.int .i64 nd) F rfl (by kernel_rfl) (by kernel_rfl) (cRec S 5 iC_len_i64 rfl 0 hnd rfl) (fun a F => ?_))
                  refine l_pure 1 (fun L => (22, .int .i64 nd) :: L) F (by kernel_rfl) fun a F => ?_
                  refine l_then ?_
                  refine s_reg ?_
                  refine l_pure 2 (fun L => (128, .bool sb) :: (127, .bool sb) :: L) F (by kernel_rfl) fun a F => ?_
                  cases sb with
                  | false =>
                    skip
                    refine l_pure 2 (fun L => (130, .int .i64 n) :: (129, .int .i64 nd) :: L) F (by kernel_rfl) fun a F => ?_
                    by_cases ht122 : (nd : Int) = (n : Int)
                    · skip
                      refine l_do F rfl rfl (op_pure F (v0 := .bool ((nd : Int) == (n : Int))) (v := .bool true) (by kernel_rfl) (eqlT ht122) fun a F => ?_)
                      refine l_pure 2 (fun L => (20, .bool true) :: (132, .bool true) :: L) F (by kernel_rfl) fun a F => ?_
                      refine l_then ?_
                      refine s_reg ?_
                      refine l_pure 3 (fun L => (135, .int .i64 ((reachP x n am).length : Nat)) :: (134, .slice A81 ((reachP x n am).length) c82) :: (133, .int .i64 (at_ : Nat)) :: L) F (by kernel_rfl) fun a F => ?_
                      by_cases ht123 : ((at_ : Nat) : Int) < (((reachP x n am).length : Nat) : Int)
                      · skip
                        obtain ⟨fw, hfw⟩ : ∃ fw, (reachP x n am)[at_]? = some fw := ⟨_, List.getElem?_eq_getElem (by omega)⟩
                        refine l_do F rfl rfl (op_pure F (v0 := .bool (decide (((at_ : Nat) : Int) < (((reachP x n am).length : Nat) : Int)))) (v := .bool true) (by kernel_rfl) (lssT ht123) fun a F => ?_)
                        refine l_pure 3 (fun L => (139, .int .i64 (at_ : Nat)) :: (138, .slice A81 ((reachP x n am).length) c82) :: (137, .bool true) :: L) F (by kernel_rfl) fun a F => ?_
                        refine l_do F rfl rfl (op_index _ 3 _ _ A81 ((reachP x n am).length) c82 at_ 1 .i64 F rfl (by kernel_rfl) (by kernel_rfl) (by kernel_rfl) (by kernel_rfl) (get_lt hfw) (row_some S 6 rfl (m := at_) (get_lt hfw)) (fun a F => ?_))
                        refine l_do F rfl rfl (op_load _ _ A81 (at_ * 1) (.int .i64 fw) F rfl (by kernel_rfl) (by kernel_rfl) (cRec S 6 iC_len_i64 rfl 0 hfw rfl) (fun a F => ?_))
                        refine l_pure 1 (fun L => (142, .int .i64 nd) :: L) F (by kernel_rfl) fun a F => ?_
                        by_cases ht124 : (fw : Int) = (nd : Int)
                        · skip
                          refine l_do F rfl rfl (op_pure F (v0 := .bool ((fw : Int) == (nd : Int))) (v := .bool true) (by kernel_rfl) (eqlT ht124) fun a F => ?_)
                          refine l_pure 1 (fun L => (144, .bool true) :: L) F (by kernel_rfl) fun a F => ?_
                          refine l_then ?_
                          refine c_t F rfl ?_
                          refine wp_region_list ?_
                          refine l_pure 1 (fun L => (145, .int .i64 (at_ : Nat)) :: L) F (by kernel_rfl) fun a F => ?_
                          refine l_do F rfl rfl (op_pure F (v0 := .int .i64 (IntKind.wrap .i64 ((at_ : Nat) + 1))) (v := .int .i64 (at_ + 1 : Nat)) (by kernel_rfl) (wrn_i64 (by omega) (by omega) (by omega)) fun a F => ?_)
                          refine l_pure 1 (fun L => (19, .int .i64 (at_ + 1 : Nat)) :: L) F (by kernel_rfl) fun a F => ?_
                          refine l_nil (inb_n ?_)
                          refine then_n ?_
                          refine wp_region_list ?_
                          refine l_do F rfl rfl (op_pure F (v0 := .int .i64 (IntKind.wrap .i64 ((k : Nat) + 1))) (v := .int .i64 (k + 1 : Nat)) (by kernel_rfl) (wrn_i64 (by omega) (by omega) (by omega)) fun a F => ?_)
                          refine l_pure 1 (fun L => (123, .int .i64 (k + 1 : Nat)) :: L) F (by kernel_rfl) fun a F => ?_
                          refine l_then ?_
                          exact ⟨_, (by omega), k + 1, at_ + 1, true, rfl, (by omega), (by omega), (greedy_yes (by rw [hfw, ht124]) hnd hg), (.inl rfl), F.sub ⟨by kernel_rfl, by kernel_rfl, by kernel_rfl, by kernel_rfl, by kernel_rfl, by kernel_rfl, by kernel_rfl, trivial⟩, S⟩
                        · skip
                          refine l_do F rfl rfl (op_pure F (v0 := .bool ((fw : Int) == (nd : Int))) (v := .bool false) (by kernel_rfl) (eqlF ht124) fun a F => ?_)
                          refine l_pure 1 (fun L => (144, .bool false) :: L) F (by kernel_rfl) fun a F => ?_
                          refine l_then ?_
                          refine c_f F rfl ?_
                          refine wp_skip ?_
                          refine inb_n ?_
                          refine then_n ?_
                          refine wp_region_list ?_
                          refine l_do F rfl rfl (op_pure F (v0 := .int .i64 (IntKind.wrap .i64 ((k : Nat) + 1))) (v := .int .i64 (k + 1 : Nat)) (by kernel_rfl) (wrn_i64 (by omega) (by omega) (by omega)) fun a F => ?_)
                          refine l_pure 1 (fun L => (123, .int .i64 (k + 1 : Nat)) :: L) F (by kernel_rfl) fun a F => ?_
                          refine l_then ?_
                          exact ⟨_, (by omega), k + 1, at_, true, rfl, (by omega), (by omega), (greedy_no hfw hnd ht124 hg), (.inl rfl), F.sub ⟨by kernel_rfl, by kernel_rfl, by kernel_rfl, by kernel_rfl, by kernel_rfl, by kernel_rfl, by kernel_rfl, trivial⟩, S⟩
                      · skip
                        refine l_do F rfl rfl (op_pure F (v0 := .bool (decide (((at_ : Nat) : Int) < (((reachP x n am).length : Nat) : Int)))) (v := .bool false) (by kernel_rfl) (lssF ht123) fun a F => ?_)
                        refine l_pure 8 (fun L => (144, .bool false) :: (143, undef) :: (142, undef) :: (141, undef) :: (140, undef) :: (139, undef) :: (138, undef) :: (137, .bool false) :: L) F (by kernel_rfl) fun a F => ?_
                        refine l_then ?_
                        refine c_f F rfl ?_
                        refine wp_skip ?_
                        refine inb_n ?_
                        refine then_n ?_
                        refine wp_region_list ?_
                        refine l_do F rfl rfl (op_pure F (v0 := .int .i64 (IntKind.wrap .i64 ((k : Nat) + 1))) (v := .int .i64 (k + 1 : Nat)) (by kernel_rfl) (wrn_i64 (by omega) (by omega) (by omega)) fun a F => ?_)
                        refine l_pure 1 (fun L => (123, .int .i64 (k + 1 : Nat)) :: L) F (by kernel_rfl) fun a F => ?_
                        refine l_then ?_
                        exact ⟨_, (by omega), k + 1, at_, true, rfl, (by omega), (by omega), (greedy_out (by omega)), (.inl rfl), F.sub ⟨by kernel_rfl, by kernel_rfl, by kernel_rfl, by kernel_rfl, by kernel_rfl, by kernel_rfl, by kernel_rfl, trivial⟩, S⟩
                    · skip
                      refine l_do F rfl rfl (op_pure F (v0 := .bool ((nd : Int) == (n : Int))) (v := .bool false) (by kernel_rfl) (eqlF ht122) fun a F => ?_)
                      refine l_pure 2 (fun L => (20, .bool false) :: (132, .bool false) :: L) F (by kernel_rfl) fun a F => ?_
                      refine l_then ?_
                      refine s_reg ?_
                      refine l_pure 3 (fun L => (135, .int .i64 ((reachP x n am).length : Nat)) :: (134, .slice A81 ((reachP x n am).length) c82) :: (133, .int .i64 (at_ : Nat)) :: L) F (by kernel_rfl) fun a F => ?_
                      by_cases ht125 : ((at_ : Nat) : Int) < (((reachP x n am).length : Nat) : Int)
                      · skip
                        obtain ⟨fw, hfw⟩ : ∃ fw, (reachP x n am)[at_]? = some fw := ⟨_, List.getElem?_eq_getElem (by omega)⟩
                        refine l_do F rfl rfl (op_pure F (v0 := .bool (decide (((at_ : Nat) : Int) < (((reachP x n am).length : Nat) : Int)))) (v := .bool true) (by kernel_rfl) (lssT ht125) fun a F => ?_)
                        refine l_pure 3 (fun L => (139, .int .i64 (at_ : Nat)) :: (138, .slice A81 ((reachP x n am).length) c82) :: (137, .bool true) :: L) F (by kernel_rfl) fun a F => ?_
                        refine l_do F rfl rfl (op_index _ 3 _ _ A81 ((reachP x n am).length) c82 at_ 1 .i64 F rfl (by kernel_rfl) (by kernel_rfl) (by kernel_rfl) (by kernel_rfl) (get_lt hfw) (row_some S 6 rfl (m := at_) (get_lt hfw)) (fun a F => ?_))
                        refine l_do F rfl rfl (op_load _ _ A81 (at_ * 1) (.int .i64 fw) F rfl (by kernel_rfl) (by kernel_rfl) (cRec S 6 iC_len_i64 rfl 0 hfw rfl) (fun a F => ?_))
                        refine l_pure 1 (fun L => (142, .int .i64 nd) :: L) F (by kernel_rfl) fun a F => ?_
                        by_cases ht126 : (fw : Int) = (nd : Int)
                        · skip
                          refine l_do F rfl rfl (op_pure F (v0 := .bool ((fw : Int) == (nd : Int))) (v := .bool true) (by kernel_rfl) (eqlT ht126) fun a F => ?_)
                          refine l_pure 1 (fun L => (144, .bool true) :: L) F (by kernel_rfl) fun a F => ?_
                          refine l_then ?_
                          refine c_t F rfl ?_
                          refine wp_region_list ?_
                          refine l_pure 1 (fun L => (145, .int .i64 (at_ : Nat)) :: L) F (by kernel_rfl) fun a F => ?_
                          refine l_do F rfl rfl (op_pure F (v0 := .int .i64 (IntKind.wrap .i64 ((at_ : Nat) + 1))) (v := .int .i64 (at_ + 1 : Nat)) (by kernel_rfl) (wrn_i64 (by omega) (by omega) (by omega)) fun a F => ?_)
                          refine l_pure 1 (fun L => (19, .int .i64 (at_ + 1 : Nat)) :: L) F (by kernel_rfl) fun a F => ?_
                          refine l_nil (inb_n ?_)
                          refine then_n ?_
                          refine wp_region_list ?_
                          refine l_do F rfl rfl (op_pure F (v0 := .int .i64 (IntKind.wrap .i64 ((k : Nat) + 1))) (v := .int .i64 (k + 1 : Nat)) (by kernel_rfl) (wrn_i64 (by omega) (by omega) (by omega)) fun a F => ?_)
                          refine l_pure 1 (fun L => (123, .int .i64 (k + 1 : Nat)) :: L) F (by kernel_rfl) fun a F => ?_
                          refine l_then ?_
                          exact ⟨_, (by omega), k + 1, at_ + 1, false, rfl, (by omega), (by omega), (greedy_yes (by rw [hfw, ht126]) hnd hg), (.inr (drop_mem hnd (hq.resolve_left (by simp)) ht122)), F.sub ⟨by kernel_rfl, by kernel_rfl, by kernel_rfl, by kernel_rfl, by kernel_rfl, by kernel_rfl, by kernel_rfl, trivial⟩, S⟩
                        · skip
                          refine l_do F rfl rfl (op_pure F (v0 := .bool ((fw : Int) == (nd : Int))) (v := .bool false) (by kernel_rfl) (eqlF ht126) fun a F => ?_)
                          refine l_pure 1 (fun L => (144, .bool false) :: L) F (by kernel_rfl) fun a F => ?_
                          refine l_then ?_
                          refine c_f F rfl ?_
                          refine wp_skip ?_
                          refine inb_n ?_
                          refine then_n ?_
                          refine wp_region_list ?_
                          refine l_do F rfl rfl (op_pure F (v0 := .int .i64 (IntKind.wrap .i64 ((k : Nat) + 1))) (v := .int .i64 (k + 1 : Nat)) (by kernel_rfl) (wrn_i64 (by omega) (by omega) (by omega)) fun a F => ?_)
                          refine l_pure 1 (fun L => (123, .int .i64 (k + 1 : Nat)) :: L) F (by kernel_rfl) fun a F => ?_
                          refine l_then ?_
                          exact ⟨_, (by omega), k + 1, at_, false, rfl, (by omega), (by omega), (greedy_no hfw hnd ht126 hg), (.inr (drop_mem hnd (hq.resolve_left (by simp)) ht122)), F.sub ⟨by kernel_rfl, by kernel_rfl, by kernel_rfl, by kernel_rfl, by kernel_rfl, by kernel_rfl, by kernel_rfl, trivial⟩, S⟩
                      · skip
                        refine l_do F rfl rfl (op_pure F (v0 := .bool (decide (((at_ : Nat) : Int) < (((reachP x n am).length : Nat) : Int)))) (v := .bool false) (by kernel_rfl) (lssF ht125) fun a F => ?_)
                        refine l_pure 8 (fun L => (144, .bool false) :: (143, undef) :: (142, undef) :: (141, undef) :: (140, undef) :: (139, undef) :: (138, undef) :: (137, .bool false) :: L) F (by kernel_rfl) fun a F => ?_
                        refine l_then ?_
                        refine c_f F rfl ?_
                        refine wp_skip ?_
                        refine inb_n ?_
                        refine then_n ?_
                        refine wp_region_list ?_
                        refine l_do F rfl rfl (op_pure F (v0 := .int .i64 (IntKind.wrap .i64 ((k : Nat) + 1))) (v := .int .i64 (k + 1 : Nat)) (by kernel_rfl) (wrn_i64 (by omega) (by omega) (by omega)) fun a F => ?_)
                        refine l_pure 1 (fun L => (123, .int .i64 (k + 1 : Nat)) :: L) F (by kernel_rfl) fun a F => ?_
                        refine l_then ?_
                        exact ⟨_, (by omega), k + 1, at_, false, rfl, (by omega), (by omega), (greedy_out (by omega)), (.inr (drop_mem hnd (hq.resolve_left (by simp)) ht122)), F.sub ⟨by kernel_rfl, by kernel_rfl, by kernel_rfl, by kernel_rfl, by kernel_rfl, by kernel_rfl, by kernel_rfl, trivial⟩, S⟩
                  | true =>
                    skip
                    refine l_pure 5 (fun L => (20, .bool true) :: (132, .bool true) :: (131, undef) :: (130, undef) :: (129, undef) :: L) F (by kernel_rfl) fun a F => ?_
                    refine l_then ?_
                    refine s_reg ?_
                    refine l_pure 3 (fun L => (135, .int .i64 ((reachP x n am).length : Nat)) :: (134, .slice A81 ((reachP x n am).length) c82) :: (133, .int .i64 (at_ : Nat)) :: L) F (by kernel_rfl) fun a F => ?_
                    by_cases ht127 : ((at_ : Nat) : Int) < (((reachP x n am).length : Nat) : Int)
                    · skip
                      obtain ⟨fw, hfw⟩ : ∃ fw, (reachP x n am)[at_]? = some fw := ⟨_, List.getElem?_eq_getElem (by omega)⟩
                      refine l_do F rfl rfl (op_pure F (v0 := .bool (decide (((at_ : Nat) : Int) < (((reachP x n am).length : Nat) : Int)))) (v := .bool true) (by kernel_rfl) (lssT ht127) fun a F => ?_)
                      refine l_pure 3 (fun L => (139, .int .i64 (at_ : Nat)) :: (138, .slice A81 ((reachP x n am).length) c82) :: (137, .bool true) :: L) F (by kernel_rfl) fun a F => ?_
                      refine l_do F rfl rfl (op_index _ 3 _ _ A81 ((reachP x n am).length) c82 at_ 1 .i64 F rfl (by kernel_rfl) (by kernel_rfl) (by kernel_rfl) (by kernel_rfl) (get_lt hfw) (row_some S 6 rfl (m := at_) (get_lt hfw)) (fun a F => ?_))
                      refine l_do F rfl rfl (op_load _ _ A81 (at_ * 1) (.int .i64 fw) F rfl (by kernel_rfl) (by kernel_rfl) (cRec S 6 iC_len_i64 rfl 0 hfw rfl) (fun a F => ?_))
                      refine l_pure 1 (fun L => (142, .int .i64 nd) :: L) F (by kernel_rfl) fun a F => ?_
                      by_cases ht128 : (fw : Int) = (nd : Int)
                      · skip
                        refine l_do F rfl rfl (op_pure F (v0 := .bool ((fw : Int) == (nd : Int))) (v := .bool true) (by kernel_rfl) (eqlT ht128) fun a F => ?_)
                        refine l_pure 1 (fun L => (144, .bool true) :: L) F (by kernel_rfl) fun a F => ?_
                        refine l_then ?_
                        refine c_t F rfl ?_
                        refine wp_region_list ?_
                        refine l_pure 1 (fun L => (145, .int .i64 (at_ : Nat)) :: L) F (by kernel_rfl) fun a F => ?_
                        refine l_do F rfl rfl (op_pure F (v0 := .int .i64 (IntKind.wrap .i64 ((at_ : Nat) + 1))) (v := .int .i64 (at_ + 1 : Nat)) (by kernel_rfl) (wrn_i64 (by omega) (by omega) (by omega)) fun a F => ?_)
                        refine l_pure 1 (fun L => (19, .int .i64 (at_ + 1 : Nat)) :: L) F (by kernel_rfl) fun a F => ?_
                        refine l_nil (inb_n ?_)
                        refine then_n ?_
                        refine wp_region_list ?_
                        refine l_do F rfl rfl (op_pure F (v0 := .int .i64 (IntKind.wrap .i64 ((k : Nat) + 1))) (v := .int .i64 (k + 1 : Nat)) (by kernel_rfl) (wrn_i64 (by omega) (by omega) (by omega)) fun a F => ?_)
                        refine l_pure 1 (fun L => (123, .int .i64 (k + 1 : Nat)) :: L) F (by kernel_rfl) fun a F => ?_
                        refine l_then ?_
                        exact ⟨_, (by omega), k + 1, at_ + 1, true, rfl, (by omega), (by omega), (greedy_yes (by rw [hfw, ht128]) hnd hg), (.inl rfl), F.sub ⟨by kernel_rfl, by kernel_rfl, by kernel_rfl, by kernel_rfl, by kernel_rfl, by kernel_rfl, by kernel_rfl, trivial⟩, S⟩
                      · skip
                        refine l_do F rfl rfl (op_pure F (v0 := .bool ((fw : Int) == (nd : Int))) (v := .bool false) (by kernel_rfl) (eqlF ht128) fun a F => ?_)
                        refine l_pure 1 (fun L => (144, .bool false) :: L) F (by kernel_rfl) fun a F => ?_
                        refine l_then ?_
                        refine c_f F rfl ?_
                        refine wp_skip ?_
                        refine inb_n ?_
                        refine then_n ?_
                        refine wp_region_list ?_
                        refine l_do F rfl rfl (op_pure F (v0 := .int .i64 (IntKind.wrap .i64 ((k : Nat) + 1))) (v := .int .i64 (k + 1 : Nat)) (by kernel_rfl) (wrn_i64 (by omega) (by omega) (by omega)) fun a F => ?_)
                        refine l_pure 1 (fun L => (123, .int .i64 (k + 1 : Nat)) :: L) F (by kernel_rfl) fun a F => ?_
                        refine l_then ?_
                        exact ⟨_, (by omega), k + 1, at_, true, rfl, (by omega), (by omega), (greedy_no hfw hnd ht128 hg), (.inl rfl), F.sub ⟨by kernel_rfl, by kernel_rfl, by kernel_rfl, by kernel_rfl, by kernel_rfl, by kernel_rfl, by kernel_rfl, trivial⟩, S⟩
                    · skip
                      refine l_do F rfl rfl (op_pure F (v0 := .bool (decide (((at_ : Nat) : Int) < (((reachP x n am).length : Nat) : Int)))) (v := .bool false) (by kernel_rfl) (lssF ht127) fun a F => ?_)
                      refine l_pure 8 (fun L => (144, .bool false) :: (143, undef) :: (142, undef) :: (141, undef) :: (140, undef) :: (139, undef) :: (138, undef) :: (137, .bool false) :: L) F (by kernel_rfl) fun a F => ?_
                      refine l_then ?_
                      refine c_f F rfl ?_
                      refine wp_skip ?_
                      refine inb_n ?_
                      refine then_n ?_
                      refine wp_region_list ?_
                      refine l_do F rfl rfl (op_pure F (v0 := .int .i64 (IntKind.wrap .i64 ((k : Nat) + 1))) (v := .int .i64 (k + 1 : Nat)) (by kernel_rfl) (wrn_i64 (by omega) (by omega) (by omega)) fun a F => ?_)
                      refine l_pure 1 (fun L => (123, .int .i64 (k + 1 : Nat)) :: L) F (by kernel_rfl) fun a F => ?_
                      refine l_then ?_
                      exact ⟨_, (by omega), k + 1, at_, true, rfl, (by omega), (by omega), (greedy_out (by omega)), (.inl rfl), F.sub ⟨by kernel_rfl, by kernel_rfl, by kernel_rfl, by kernel_rfl, by kernel_rfl, by kernel_rfl, by kernel_rfl, trivial⟩, S⟩
                · skip
                  have hsb : sb = true := by
                    rcases hq with h | h
                    · exact h
                    · rw [List.drop_of_length_le (by omega)] at h; cases h
                  subst hsb
                  refine l_do F rfl rfl (op_pure F (v0 := .bool (decide (((k : Nat) : Int) < (((reachP x n le).length : Nat) : Int)))) (v := .bool false) (by kernel_rfl) (lssF ht121) fun a F => ?_)
                  refine l_then ?_
                  refine wp_seq ?_
                  refine c_f F rfl ?_
                  refine wp_exit ?_
                  refine then_x ?_
                  refine then_x ?_
                  refine inb_x ?_
                  refine then_n ?_
                  refine s_reg ?_
                  refine l_do F rfl rfl (op_fn F (by kernel_rfl) (awake_any _) ?_)
                  rintro e z ⟨rfl, hb⟩
                  have S := S.grow hb
                  refine ⟨_, rfl, ?_⟩
                  intro a F
                  refine l_pure 4 (fun L => (152, .int .i64 ((reachP x n am).length : Nat)) :: (151, .slice A81 ((reachP x n am).length) c82) :: (150, .int .i64 (at_ : Nat)) :: (149, .bool true) :: L) F (by kernel_rfl) fun a F => ?_
                  refine l_do F rfl rfl (op_pure F (v0 := .bool (((at_ : Nat) : Int) == (((reachP x n am).length : Nat) : Int))) (v := .bool true) (by kernel_rfl) (eqlT (by have h9 := greedy_end (by omega) (by omega) hg; omega)) fun a F => ?_)
                  refine l_pure 5 (fun L => (8, .bool true) :: (157, .bool true) :: (156, .bool true) :: (155, .bool true) :: (154, .bool true) :: L) F (by kernel_rfl) fun a F => ?_
                  refine l_then ?_
                  refine wp_ret ?_
                  exact fin F [.tmp 8] [.bool true] rfl ⟨by kernel_rfl, trivial⟩ (.bool true) rfl ⟨rfl, S.below (i := 0) rfl⟩
    · skip
      have hc1 := ht8
      refine l_do F rfl rfl (op_pure F (v0 := .bool ((chkP x : Int) != (0 : Int))) (v := .bool true) (by kernel_rfl) (neqT ht8) fun a F => ?_)
      refine l_then ?_
      refine c_t F rfl ?_
      refine s_reg ?_
      refine l_do F rfl rfl (op_fn F (by kernel_rfl) (awake_any _) ?_)
      rintro e z ⟨rfl, hb⟩
      have S := S.grow hb
      refine ⟨_, rfl, ?_⟩
      intro a F
      refine l_pure 1 (fun L => (33, .bool true) :: L) F (by kernel_rfl) fun a F => ?_
      refine l_do F rfl rfl (op_loadK _ _ (some ⟨b7, 0, none⟩) 0 [.slice A3 x.spots.length c4, .slice A5 x.edges.length c6] F rfl (by kernel_rfl) (by kernel_rfl) (by kernel_rfl) (by simp) (cBoxK S 4 rfl 0 (by kernel_rfl)) (fun a F => ?_))
      refine l_pure 1 (fun L => (35, .int .i64 n) :: L) F (by kernel_rfl) fun a F => ?_
      refine l_do F rfl rfl (op_fn F (by kernel_rfl) (steps_any _ A3 c4 A5 c6 x (WebAt.ofNew (x := x) (w := w) S (i := 2) (j := 3) rfl rfl ⟨l1, l2⟩) ok n) ?_)
      rintro e z ⟨A129, c130, rfl, g⟩
      have S := S.pushThings g
      refine ⟨_, rfl, ?_⟩
      intro a F
      refine l_pure 1 (fun L => (37, .int .i64 ((stepsP x n).length : Nat)) :: L) F (by kernel_rfl) fun a F => ?_
      refine l_do F rfl rfl (op_pure F (v0 := .bool ((((stepsP x n).length : Nat) : Int) == (0 : Int))) (v := .bool true) (by kernel_rfl) (eqlT (by rw [steps_nil hc1]; rfl)) fun a F => ?_)
      refine l_pure 2 (fun L => (40, .bool true) :: (39, .bool true) :: L) F (by kernel_rfl) fun a F => ?_
      refine l_do F rfl rfl (op_loadK _ _ (some ⟨b7, 0, none⟩) 0 [.slice A3 x.spots.length c4, .slice A5 x.edges.length c6] F rfl (by kernel_rfl) (by kernel_rfl) (by kernel_rfl) (by simp) (cBoxK S 4 rfl 0 (by kernel_rfl)) (fun a F => ?_))
      refine l_pure 2 (fun L => (43, .int .u64 am) :: (42, .int .i64 n) :: L) F (by kernel_rfl) fun a F => ?_
      refine l_do F rfl rfl (op_fn F (by kernel_rfl) (reach_any _ A3 c4 A5 c6 x (WebAt.ofNew (x := x) (w := w) S (i := 2) (j := 3) rfl rfl ⟨l1, l2⟩) ok n am) ?_)
      rintro e z ⟨A131, c132, rfl, g⟩
      have S := S.pushThings g
      refine ⟨_, rfl, ?_⟩
      intro a F
      refine l_pure 1 (fun L => (45, .int .i64 ((reachP x n am).length : Nat)) :: L) F (by kernel_rfl) fun a F => ?_
      refine l_do F rfl rfl (op_pure F (v0 := .bool ((((reachP x n am).length : Nat) : Int) == (0 : Int))) (v := .bool true) (by kernel_rfl) (eqlT (by rw [reach_none (fun h => hc1 h.1)]; rfl)) fun a F => ?_)
      refine l_pure 2 (fun L => (8, .bool true) :: (47, .bool true) :: L) F (by kernel_rfl) fun a F => ?_
      refine l_then ?_
      refine wp_ret ?_
      refine then_r (?_)
      exact fin F [.tmp 8] [.bool true] rfl ⟨by kernel_rfl, trivial⟩ (.bool true) rfl ⟨rfl, S.below (i := 0) rfl⟩
end Go.Proofs.Ytjbblgefgjmdaaa
