/- Walk over the law WebSteps. -/
import Derived.Test.YtjbblgefgjmdaaaReadWeb
import Derived.Test.YtjbblgefgjmdaaaGo
namespace Go.Proofs.Ytjbblgefgjmdaaa
set_option linter.unusedVariables false
set_option linter.unusedSimpArgs false
set_option linter.unnecessarySimpa false
open Go.RowKit

/-- What a step of a web is. -/
theorem step_at {x : Wb} {n : Int} {i : Nat} (hi : i < (stepsP x n).length) : ∃ j : Nat, ∃ hj : j < x.edges.length, (stepsP x n)[i].edge = (j : Int) ∧ 0 ≤ sideP x.edges[j] n := by
  have hm : (stepsP x n)[i] ∈ stepsP x n := List.getElem_mem hi
  have hz : stepsP x n = stepsF n 0 x.edges := by
    unfold stepsP at hi ⊢
    split
    · rfl
    · rename_i h; rw [if_neg h] at hi; simp at hi
  have hm2 : (stepsP x n)[i] ∈ stepsF n 0 x.edges := by rw [← hz]; exact hm
  obtain ⟨k, hk, h1, h2⟩ := stepsF_mem hm2
  refine ⟨k, hk, by rw [h1]; congr 1; omega, ?_⟩
  have := (stpOf_side h2).1
  omega
theorem steps_few (x : Wb) (n : Int) : (stepsP x n).length ≤ 16 := by
  unfold stepsP
  split
  · rename_i h
    have := stepsF_len n x.edges 0
    have := (chk_zero h).2.1
    omega
  · simp
theorem side_at {e : Edg} {n v : Int} (hs : sideP e n = v) (w : World) : Calls Try.prog 14 #[.agg #[.int .i64 e.a, .int .i64 e.b, .int .u64 e.c0, .int .u64 e.c1, .int .u64 e.b0, .int .u64 e.r0, .int .u64 e.b1, .int .u64 e.r1], .int .i64 n] w fun e w' => e = .returned (.int .i64 v) ∧ Below w.heap.size w w' := hs ▸ side_any w e.a e.b e.c0 e.c1 e.b0 e.r0 e.b1 e.r1 n
set_option maxRecDepth 100000 in
set_option maxHeartbeats 4000000 in
theorem steps_law (w : World) (As : Option Addr) (cs : Nat) (Ae : Option Addr) (ce : Nat) (x : Wb) (h : WebAt w As cs Ae ce x) (ok : x.Ok) (n : Int) : Calls Try.prog 3 #[.agg #[.slice As x.spots.length cs, .slice Ae x.edges.length ce], .int .i64 n] w fun e w' => e = .returned (.bool true) ∧ Below w.heap.size w w' := by
  refine enter 106 Try.func3 rfl rfl rfl fun a F => ?_
  have S := Sat.pushRest w
  refine s_reg ?_
  refine l_do F rfl rfl (op_box S _ _ (.agg #[.slice As x.spots.length cs, .slice Ae x.edges.length ce]) F rfl (by kernel_rfl) fun b1 z S a F => ?_)
  refine l_pure 1 (fun L => (4, .bool false) :: L) F (by kernel_rfl) fun a F => ?_
  refine l_then ?_
  refine wp_seq ?_
  refine s_reg ?_
  refine l_do F rfl rfl (op_loadK _ _ (some ⟨b1, 0, none⟩) 0 [.slice As x.spots.length cs, .slice Ae x.edges.length ce] F rfl (by kernel_rfl) (by kernel_rfl) (by kernel_rfl) (by simp) (cBoxK S 1 rfl 0 (by kernel_rfl)) (fun a F => ?_))
  cases hb2 : (lightP x) with
  | false =>
    refine l_do F rfl rfl (op_fn F (by kernel_rfl) (light_any _ As cs Ae ce x) ?_)
    rintro e z ⟨rfl, hb⟩
    have S := S.grow hb
    refine ⟨_, rfl, ?_⟩
    rw [hb2]
    intro a F
    refine l_pure 1 (fun L => (12, .bool true) :: L) F (by kernel_rfl) fun a F => ?_
    refine l_then ?_
    refine c_t F rfl ?_
    refine s_reg ?_
    refine l_do F rfl rfl (op_fn F (by kernel_rfl) (awake_any _) ?_)
    rintro e z ⟨rfl, hb⟩
    have S := S.grow hb
    refine ⟨_, rfl, ?_⟩
    intro a F
    refine l_pure 1 (fun L => (4, .bool true) :: L) F (by kernel_rfl) fun a F => ?_
    refine l_then ?_
    refine wp_ret ?_
    refine then_r (?_)
    exact fin F [.tmp 4] [.bool true] rfl ⟨by kernel_rfl, trivial⟩ (.bool true) rfl ⟨rfl, S.below (i := 0) rfl⟩
  | true =>
    obtain ⟨l1, l2, l3, l4⟩ := light_small hb2
    refine l_do F rfl rfl (op_fn F (by kernel_rfl) (light_any _ As cs Ae ce x) ?_)
    rintro e z ⟨rfl, hb⟩
    have S := S.grow hb
    refine ⟨_, rfl, ?_⟩
    rw [hb2]
    intro a F
    refine l_pure 1 (fun L => (12, .bool false) :: L) F (by kernel_rfl) fun a F => ?_
    refine l_then ?_
    refine c_f F rfl ?_
    refine wp_skip ?_
    refine then_n ?_
    refine s_reg ?_
    refine l_do F rfl rfl (op_loadK _ _ (some ⟨b1, 0, none⟩) 0 [.slice As x.spots.length cs, .slice Ae x.edges.length ce] F rfl (by kernel_rfl) (by kernel_rfl) (by kernel_rfl) (by simp) (cBoxK S 1 rfl 0 (by kernel_rfl)) (fun a F => ?_))
    refine l_do F rfl rfl (op_fn F (by kernel_rfl) (to_any _ As cs Ae ce x (h.move S rfl) ok ⟨l1, l2⟩) ?_)
    rintro e z ⟨A3, c4, A5, c6, rfl, g⟩
    have S := S.pushThings g
    refine ⟨_, rfl, ?_⟩
    intro a F
    refine l_do F rfl rfl (op_alloc S _ (.agg #[.slice none 0 0, .slice none 0 0]) rfl (by kernel_rfl) fun b7 z S a F => ?_)
    refine l_do F rfl rfl (op_storeB S 4 _ _ _ b7 0 (.agg #[.slice A3 x.spots.length c4, .slice A5 x.edges.length c6]) F rfl rfl (by kernel_rfl) (by kernel_rfl) (by kernel_rfl) (by kernel_rfl) (by kernel_rfl) fun z S a F => ?_)
    refine l_then ?_
    refine wp_seq ?_
    have S := S.pushEmp.pushEmp
    refine region_gx (fun D => fun ((A8, c9, A10, c11) : Option Addr × Nat × Option Addr × Nat) => [rest w (· < w.heap.size), box b1 25 [.slice As x.spots.length cs, .slice Ae x.edges.length ce], row 74 2 (.slice A3 x.spots.length c4) x.spots.length (x.spots.flatMap spC), row 52 8 (.slice A5 x.edges.length c6) x.edges.length (x.edges.flatMap edC), box b7 31 [.slice A3 x.spots.length c4, .slice A5 x.edges.length c6], bif D 2 then row 44 5 (.slice A8 ((stepsP x n).length) c9) ((stepsP x n).length) ((stepsP x n).flatMap stC) else emp, bif D 5 then row 47 5 (.slice A10 ((stepsP x n).length) c11) ((stepsP x n).length) ((stepsP x n).flatMap stC) else emp]) (fun ((A8, c9, A10, c11) : Option Addr × Nat × Option Addr × Nat) => [.agg #[.slice A3 x.spots.length c4, .slice A5 x.edges.length c6], .int .i64 n, .slice A8 ((stepsP x n).length) c9, .agg #[.slice As x.spots.length cs, .slice Ae x.edges.length ce], .int .i64 n, .slice A10 ((stepsP x n).length) c11, .slice A8 ((stepsP x n).length) c9, .slice A10 ((stepsP x n).length) c11]) [(0, []), (2, [0]), (3, []), (5, [0, 2, 3])] (none, 0, none, 0) rfl (by kernel_rfl) (by kernel_rfl) F S.drew ?_ ?_ ?_ ?_ ?_
    · rintro ⟨A8, c9, A10, c11⟩; rfl
    · rintro ⟨A8, c9, A10, c11⟩; kernel_rfl
    · intro D D' x h
      obtain ⟨A8, c9, A10, c11⟩ := x
      simp only [h 2 (by decide), h 5 (by decide)]
    · refine ⟨?_, ?_⟩
      · refine ⟨_, rfl, rfl, by kernel_rfl, ?_⟩
        rintro D ⟨A8, c9, A10, c11⟩ a z S F
        refine ⟨by kernel_rfl, ?_⟩
        exact op_loadK _ _ (some ⟨b7, 0, none⟩) 0 [.slice A3 x.spots.length c4, .slice A5 x.edges.length c6] F rfl (by kernel_rfl) (by kernel_rfl) (by kernel_rfl) (by simp) (cBoxK S 4 rfl 0 (by kernel_rfl)) (⟨(A8, c9, A10, c11), rfl, (SameB.refl _ _ rfl), S⟩)
      refine ⟨?_, ?_⟩
      · refine ⟨_, rfl, rfl, by kernel_rfl, ?_⟩
        rintro D ⟨A8, c9, A10, c11⟩ a z S F
        refine ⟨by kernel_rfl, ?_⟩
        refine op_fn F (by kernel_rfl) (steps_any _ A3 c4 A5 c6 x (WebAt.ofNew (x := x) (w := w) S (i := 2) (j := 3) rfl rfl ⟨l1, l2⟩) ok n) ?_
        rintro e z ⟨y12, y13, rfl, g⟩
        have S := S.fillThing 5 rfl g
        exact ⟨_, rfl, (y12, y13, A10, c11), rfl, ⟨rfl, rfl, trivial, rfl, rfl, trivial, trivial, trivial, trivial⟩, S⟩
      refine ⟨?_, ?_⟩
      · refine ⟨_, rfl, rfl, by kernel_rfl, ?_⟩
        rintro D ⟨A8, c9, A10, c11⟩ a z S F
        refine ⟨by kernel_rfl, ?_⟩
        exact op_loadK _ _ (some ⟨b1, 0, none⟩) 0 [.slice As x.spots.length cs, .slice Ae x.edges.length ce] F rfl (by kernel_rfl) (by kernel_rfl) (by kernel_rfl) (by simp) (cBoxK S 1 rfl 0 (by kernel_rfl)) (⟨(A8, c9, A10, c11), rfl, (SameB.refl _ _ rfl), S⟩)
      refine ⟨?_, ?_⟩
      · refine ⟨_, rfl, rfl, by kernel_rfl, ?_⟩
        rintro D ⟨A8, c9, A10, c11⟩ a z S F
        refine ⟨by kernel_rfl, ?_⟩
        refine op_fn F (by kernel_rfl) (rsteps_any _ As cs Ae ce x (h.move S rfl) ok n) ?_
        rintro e z ⟨y16, y17, rfl, g⟩
        have S := S.fillThing 6 rfl g
        exact ⟨_, rfl, (A8, c9, y16, y17), rfl, ⟨rfl, rfl, rfl, rfl, rfl, trivial, trivial, trivial, trivial⟩, S⟩
      trivial
    · rintro ⟨A8, c9, A10, c11⟩ a z F S
      have F := F.sub (l := [(1, .int .i64 n), (2, .pointer (some ⟨b1, 0, none⟩)), (5, .pointer (some ⟨b7, 0, none⟩)), (6, .slice A8 ((stepsP x n).length) c9), (7, .slice A10 ((stepsP x n).length) c11)]) ⟨by kernel_rfl, by kernel_rfl, by kernel_rfl, by kernel_rfl, by kernel_rfl, trivial⟩
      have S : Sat w z [rest w (· < w.heap.size), box b1 25 [.slice As x.spots.length cs, .slice Ae x.edges.length ce], row 74 2 (.slice A3 x.spots.length c4) x.spots.length (x.spots.flatMap spC), row 52 8 (.slice A5 x.edges.length c6) x.edges.length (x.edges.flatMap edC), box b7 31 [.slice A3 x.spots.length c4, .slice A5 x.edges.length c6], row 44 5 (.slice A8 ((stepsP x n).length) c9) ((stepsP x n).length) ((stepsP x n).flatMap stC), row 47 5 (.slice A10 ((stepsP x n).length) c11) ((stepsP x n).length) ((stepsP x n).flatMap stC)] := S
      refine then_n ?_
      refine wp_seq ?_
      refine wp_seq ?_
      refine region_gx (fun D => fun (_ : Unit) => [rest w (· < w.heap.size), box b1 25 [.slice As x.spots.length cs, .slice Ae x.edges.length ce], row 74 2 (.slice A3 x.spots.length c4) x.spots.length (x.spots.flatMap spC), row 52 8 (.slice A5 x.edges.length c6) x.edges.length (x.edges.flatMap edC), box b7 31 [.slice A3 x.spots.length c4, .slice A5 x.edges.length c6], row 44 5 (.slice A8 ((stepsP x n).length) c9) ((stepsP x n).length) ((stepsP x n).flatMap stC), row 47 5 (.slice A10 ((stepsP x n).length) c11) ((stepsP x n).length) ((stepsP x n).flatMap stC)]) (fun (_ : Unit) => [.agg #[.slice A3 x.spots.length c4, .slice A5 x.edges.length c6], .int .i64 (chkP x), .agg #[.slice As x.spots.length cs, .slice Ae x.edges.length ce], .int .i64 (chkP x), .bool false, .bool false, .slice A8 ((stepsP x n).length) c9, .int .i64 ((stepsP x n).length : Nat), .slice A10 ((stepsP x n).length) c11, .int .i64 ((stepsP x n).length : Nat), .bool false, .bool false]) [(0, []), (1, [0]), (2, []), (3, [0, 1, 2]), (4, [0, 1, 2, 3]), (10, [0, 1, 2, 3, 4])] () rfl (by kernel_rfl) (by kernel_rfl) F S.drew ?_ ?_ ?_ ?_ ?_
      · rintro ⟨⟩; rfl
      · rintro ⟨⟩; kernel_rfl
      · intro D D' x h
        cases x
        rfl
      · refine ⟨?_, ?_⟩
        · refine ⟨_, rfl, rfl, by kernel_rfl, ?_⟩
          rintro D ⟨⟩ a z S F
          refine ⟨by kernel_rfl, ?_⟩
          exact op_loadK _ _ (some ⟨b7, 0, none⟩) 0 [.slice A3 x.spots.length c4, .slice A5 x.edges.length c6] F rfl (by kernel_rfl) (by kernel_rfl) (by kernel_rfl) (by simp) (cBoxK S 4 rfl 0 (by kernel_rfl)) (⟨(), rfl, (SameB.refl _ _ rfl), S⟩)
        refine ⟨?_, ?_⟩
        · refine ⟨_, rfl, rfl, by kernel_rfl, ?_⟩
          rintro D ⟨⟩ a z S F
          refine ⟨by kernel_rfl, ?_⟩
          refine op_fn F (by kernel_rfl) (check_any _ A3 c4 A5 c6 x (WebAt.ofNew (x := x) (w := w) S (i := 2) (j := 3) rfl rfl ⟨l1, l2⟩) ok) ?_
          rintro e z ⟨rfl, hb⟩
          have S := S.grow hb
          exact ⟨_, rfl, (), rfl, (SameB.refl _ _ rfl), S⟩
        refine ⟨?_, ?_⟩
        · refine ⟨_, rfl, rfl, by kernel_rfl, ?_⟩
          rintro D ⟨⟩ a z S F
          refine ⟨by kernel_rfl, ?_⟩
          exact op_loadK _ _ (some ⟨b1, 0, none⟩) 0 [.slice As x.spots.length cs, .slice Ae x.edges.length ce] F rfl (by kernel_rfl) (by kernel_rfl) (by kernel_rfl) (by simp) (cBoxK S 1 rfl 0 (by kernel_rfl)) (⟨(), rfl, (SameB.refl _ _ rfl), S⟩)
        refine ⟨?_, ?_⟩
        · refine ⟨_, rfl, rfl, by kernel_rfl, ?_⟩
          rintro D ⟨⟩ a z S F
          refine ⟨by kernel_rfl, ?_⟩
          refine op_fn F (by kernel_rfl) (rcheck_any _ As cs Ae ce x (h.move S rfl) ok) ?_
          rintro e z ⟨rfl, hb⟩
          have S := S.grow hb
          exact ⟨_, rfl, (), rfl, (SameB.refl _ _ rfl), S⟩
        refine ⟨?_, ?_⟩
        · refine ⟨_, rfl, rfl, by kernel_rfl, ?_⟩
          rintro D ⟨⟩ a z S F
          refine ⟨by kernel_rfl, ?_⟩
          exact op_pure F (v0 := .bool ((chkP x : Int) != (chkP x : Int))) (v := .bool false) (by kernel_rfl) (neqF rfl) ⟨(), rfl, (SameB.refl _ _ rfl), S⟩
        refine ⟨?_, ?_⟩
        · refine ⟨_, rfl, rfl, by kernel_rfl, ?_⟩
          rintro D ⟨⟩ a z S F
          refine ⟨by kernel_rfl, ?_⟩
          exact op_pure F (v0 := .bool ((((stepsP x n).length : Nat) : Int) != (((stepsP x n).length : Nat) : Int))) (v := .bool false) (by kernel_rfl) (neqF rfl) ⟨(), rfl, (SameB.refl _ _ rfl), S⟩
        trivial
      · rintro ⟨⟩ a z F S
        have F := F.sub (l := [(1, .int .i64 n), (5, .pointer (some ⟨b7, 0, none⟩)), (6, .slice A8 ((stepsP x n).length) c9), (7, .slice A10 ((stepsP x n).length) c11), (33, .bool false)]) ⟨by kernel_rfl, by kernel_rfl, by kernel_rfl, by kernel_rfl, by kernel_rfl, trivial⟩
        have S : Sat w z [rest w (· < w.heap.size), box b1 25 [.slice As x.spots.length cs, .slice Ae x.edges.length ce], row 74 2 (.slice A3 x.spots.length c4) x.spots.length (x.spots.flatMap spC), row 52 8 (.slice A5 x.edges.length c6) x.edges.length (x.edges.flatMap edC), box b7 31 [.slice A3 x.spots.length c4, .slice A5 x.edges.length c6], row 44 5 (.slice A8 ((stepsP x n).length) c9) ((stepsP x n).length) ((stepsP x n).flatMap stC), row 47 5 (.slice A10 ((stepsP x n).length) c11) ((stepsP x n).length) ((stepsP x n).flatMap stC)] := S
        refine then_n ?_
        refine c_f F rfl ?_
        refine wp_skip ?_
        refine then_n ?_
        refine wp_seq ?_
        refine s_reg ?_
        refine l_pure 3 (fun L => (36, .int .i64 0) :: (35, .int .i64 ((stepsP x n).length : Nat)) :: (34, .slice A8 ((stepsP x n).length) c9) :: L) F (by kernel_rfl) fun a F => ?_
        refine l_then ?_
        refine wp_block ?_
        have hfew := steps_few x n
        refine wp_loop_m (fun m a z => ∃ (k : Nat), m = (stepsP x n).length - k ∧ (k ≤ (stepsP x n).length) ∧ Fr a 106 [(1, .int .i64 n), (5, .pointer (some ⟨b7, 0, none⟩)), (7, .slice A10 ((stepsP x n).length) c11), (34, .slice A8 ((stepsP x n).length) c9), (35, .int .i64 ((stepsP x n).length : Nat)), (36, .int .i64 (k : Nat))] ∧ Sat w z [rest w (· < w.heap.size), box b1 25 [.slice As x.spots.length cs, .slice Ae x.edges.length ce], row 74 2 (.slice A3 x.spots.length c4) x.spots.length (x.spots.flatMap spC), row 52 8 (.slice A5 x.edges.length c6) x.edges.length (x.edges.flatMap edC), box b7 31 [.slice A3 x.spots.length c4, .slice A5 x.edges.length c6], row 44 5 (.slice A8 ((stepsP x n).length) c9) ((stepsP x n).length) ((stepsP x n).flatMap stC), row 47 5 (.slice A10 ((stepsP x n).length) c11) ((stepsP x n).length) ((stepsP x n).flatMap stC)]) _ ⟨0, rfl, Nat.zero_le _, F.sub ⟨by kernel_rfl, by kernel_rfl, by kernel_rfl, by kernel_rfl, by kernel_rfl, by kernel_rfl, trivial⟩, S⟩ ?_
        rintro m a z ⟨k, rfl, hf20, F, S⟩
        refine s_reg ?_
        by_cases h21 : ((k : Nat) : Int) < (((stepsP x n).length : Nat) : Int)
        · skip
          obtain ⟨j, hj, hje, hsd⟩ := step_at (x := x) (n := n) (i := k) (by omega)
          obtain ⟨s, hs⟩ : ∃ s, (stepsP x n)[k]? = some s := ⟨_, List.getElem?_eq_getElem (by omega)⟩
          rw [(get_some hs).2] at hje
          obtain ⟨ed, to, cn, ba, ra⟩ := s
          dsimp only at hje
          subst hje
          obtain ⟨e, he⟩ : ∃ e, x.edges[j]? = some e := ⟨_, List.getElem?_eq_getElem hj⟩
          rw [(get_some he).2] at hsd
          refine l_do F rfl rfl (op_pure F (v0 := .bool (decide (((k : Nat) : Int) < (((stepsP x n).length : Nat) : Int)))) (v := .bool true) (by kernel_rfl) (lssT h21) fun a F => ?_)
          refine l_then ?_
          refine wp_seq ?_
          refine c_t F rfl ?_
          refine wp_skip ?_
          refine then_n ?_
          refine wp_seq ?_
          refine wp_block ?_
          refine s_reg ?_
          refine l_pure 1 (fun L => (38, .int .i64 (k : Nat)) :: L) F (by kernel_rfl) fun a F => ?_
          refine l_do F rfl rfl (op_index _ 44 _ _ A8 ((stepsP x n).length) c9 k 5 .i64 F rfl (by kernel_rfl) (by kernel_rfl) (by kernel_rfl) (by kernel_rfl) (get_lt hs) (row_some S 5 rfl (m := k) (get_lt hs)) (fun a F => ?_))
          refine l_do F rfl rfl (op_loadK _ _ A8 (k * 5) [.int .i64 (j : Int), .int .i64 to, .int .u64 cn, .int .u64 ba, .int .u64 ra] F rfl (by kernel_rfl) (by kernel_rfl) (by kernel_rfl) (by simp) (cRecK0 S 5 stC_len rfl hs (by kernel_rfl)) (fun a F => ?_))
          refine l_do F rfl rfl (op_alloc S _ (.agg #[.int .i64 0, .int .i64 0, .int .u64 0, .int .u64 0, .int .u64 0]) rfl (by kernel_rfl) fun b22 z S a F => ?_)
          refine l_pure 1 (fun L => (8, .int .i64 (k : Nat)) :: L) F (by kernel_rfl) fun a F => ?_
          refine l_do F rfl rfl (op_storeB S 7 _ _ _ b22 0 (.agg #[.int .i64 (j : Int), .int .i64 to, .int .u64 cn, .int .u64 ba, .int .u64 ra]) F rfl rfl (by kernel_rfl) (by kernel_rfl) (by kernel_rfl) (by kernel_rfl) (by kernel_rfl) fun z S a F => ?_)
          refine l_then ?_
          refine wp_seq ?_
          refine region_gx (fun D => fun (_ : Unit) => [rest w (· < w.heap.size), box b1 25 [.slice As x.spots.length cs, .slice Ae x.edges.length ce], row 74 2 (.slice A3 x.spots.length c4) x.spots.length (x.spots.flatMap spC), row 52 8 (.slice A5 x.edges.length c6) x.edges.length (x.edges.flatMap edC), box b7 31 [.slice A3 x.spots.length c4, .slice A5 x.edges.length c6], row 44 5 (.slice A8 ((stepsP x n).length) c9) ((stepsP x n).length) ((stepsP x n).flatMap stC), row 47 5 (.slice A10 ((stepsP x n).length) c11) ((stepsP x n).length) ((stepsP x n).flatMap stC), box b22 44 [.int .i64 (j : Int), .int .i64 to, .int .u64 cn, .int .u64 ba, .int .u64 ra]]) (fun (_ : Unit) => [.pointer (some ⟨b22, 0, none⟩), .int .i64 (j : Int), .slice A10 ((stepsP x n).length) c11, .int .i64 (k : Nat), ptrA A10 (k * 5), ptrA A10 (k * 5), .int .i64 (j : Int), .bool false, .bool false, .pointer (some ⟨b22, 1, none⟩), .int .i64 to, .slice A10 ((stepsP x n).length) c11, .int .i64 (k : Nat), ptrA A10 (k * 5), ptrA A10 (k * 5 + 1), .int .i64 to, .bool false, .bool false, .bool false, .pointer (some ⟨b22, 2, none⟩), .int .u64 cn, .slice A10 ((stepsP x n).length) c11, .int .i64 (k : Nat), ptrA A10 (k * 5), ptrA A10 (k * 5 + 2), .int .u64 cn, .bool false, .bool false, .bool false, .pointer (some ⟨b22, 3, none⟩), .pointer (some ⟨b22, 3, none⟩), .int .u64 ba, .slice A10 ((stepsP x n).length) c11, .int .i64 (k : Nat), ptrA A10 (k * 5), ptrA A10 (k * 5 + 3), ptrA A10 (k * 5 + 3), .int .u64 ba, .bool false, .bool false, .bool false, .pointer (some ⟨b22, 3, none⟩), .pointer (some ⟨b22, 4, none⟩), .int .u64 ra, .slice A10 ((stepsP x n).length) c11, .int .i64 (k : Nat), ptrA A10 (k * 5), ptrA A10 (k * 5 + 3), ptrA A10 (k * 5 + 4), .int .u64 ra, .bool false, .bool false, .bool false, .pointer (some ⟨b7, 1, none⟩), .slice A5 x.edges.length c6, .pointer (some ⟨b22, 0, none⟩), .int .i64 (j : Int), ptrA A5 (j * 8), .agg #[.int .i64 e.a, .int .i64 e.b, .int .u64 e.c0, .int .u64 e.c1, .int .u64 e.b0, .int .u64 e.r0, .int .u64 e.b1, .int .u64 e.r1], .int .i64 n, .int .i64 (sideP ⟨e.a, e.b, e.c0, e.c1, e.b0, e.r0, e.b1, e.r1⟩ n), .bool false, .bool false]) [(1, []), (4, []), (5, [4]), (6, [4, 5]), (7, [1, 4, 5, 6]), (10, [1, 4, 5, 6, 7]), (13, [1, 4, 5, 6, 7]), (14, [1, 4, 5, 6, 7, 13]), (15, [1, 4, 5, 6, 7, 13, 14]), (16, [1, 4, 5, 6, 7, 10, 13, 14, 15]), (20, [1, 4, 5, 6, 7, 10, 13, 14, 15, 16]), (23, [1, 4, 5, 6, 7, 10, 13, 14, 15, 16]), (24, [1, 4, 5, 6, 7, 10, 13, 14, 15, 16, 23]), (25, [1, 4, 5, 6, 7, 10, 13, 14, 15, 16, 23, 24]), (26, [1, 4, 5, 6, 7, 10, 13, 14, 15, 16, 20, 23, 24, 25]), (31, [1, 4, 5, 6, 7, 10, 13, 14, 15, 16, 20, 23, 24, 25, 26]), (34, [1, 4, 5, 6, 7, 10, 13, 14, 15, 16, 20, 23, 24, 25, 26]), (35, [1, 4, 5, 6, 7, 10, 13, 14, 15, 16, 20, 23, 24, 25, 26, 34]), (36, [1, 4, 5, 6, 7, 10, 13, 14, 15, 16, 20, 23, 24, 25, 26, 34, 35]), (37, [1, 4, 5, 6, 7, 10, 13, 14, 15, 16, 20, 23, 24, 25, 26, 34, 35, 36]), (38, [1, 4, 5, 6, 7, 10, 13, 14, 15, 16, 20, 23, 24, 25, 26, 31, 34, 35, 36, 37]), (43, [1, 4, 5, 6, 7, 10, 13, 14, 15, 16, 20, 23, 24, 25, 26, 31, 34, 35, 36, 37, 38]), (46, [1, 4, 5, 6, 7, 10, 13, 14, 15, 16, 20, 23, 24, 25, 26, 31, 34, 35, 36, 37, 38]), (47, [1, 4, 5, 6, 7, 10, 13, 14, 15, 16, 20, 23, 24, 25, 26, 31, 34, 35, 36, 37, 38, 46]), (48, [1, 4, 5, 6, 7, 10, 13, 14, 15, 16, 20, 23, 24, 25, 26, 31, 34, 35, 36, 37, 38, 46, 47]), (49, [1, 4, 5, 6, 7, 10, 13, 14, 15, 16, 20, 23, 24, 25, 26, 31, 34, 35, 36, 37, 38, 46, 47, 48]), (50, [1, 4, 5, 6, 7, 10, 13, 14, 15, 16, 20, 23, 24, 25, 26, 31, 34, 35, 36, 37, 38, 43, 46, 47, 48, 49]), (54, [1, 4, 5, 6, 7, 10, 13, 14, 15, 16, 20, 23, 24, 25, 26, 31, 34, 35, 36, 37, 38, 43, 46, 47, 48, 49, 50]), (56, [1, 4, 5, 6, 7, 10, 13, 14, 15, 16, 20, 23, 24, 25, 26, 31, 34, 35, 36, 37, 38, 43, 46, 47, 48, 49, 50]), (57, [1, 4, 5, 6, 7, 10, 13, 14, 15, 16, 20, 23, 24, 25, 26, 31, 34, 35, 36, 37, 38, 43, 46, 47, 48, 49, 50, 54, 56]), (58, [1, 4, 5, 6, 7, 10, 13, 14, 15, 16, 20, 23, 24, 25, 26, 31, 34, 35, 36, 37, 38, 43, 46, 47, 48, 49, 50, 54, 56, 57]), (60, [1, 4, 5, 6, 7, 10, 13, 14, 15, 16, 20, 23, 24, 25, 26, 31, 34, 35, 36, 37, 38, 43, 46, 47, 48, 49, 50, 54, 56, 57, 58]), (61, [1, 4, 5, 6, 7, 10, 13, 14, 15, 16, 20, 23, 24, 25, 26, 31, 34, 35, 36, 37, 38, 43, 46, 47, 48, 49, 50, 54, 56, 57, 58, 60])] () rfl (by kernel_rfl) (by kernel_rfl) F S.drew ?_ ?_ ?_ ?_ ?_
          · rintro ⟨⟩; rfl
          · rintro ⟨⟩; kernel_rfl
          · intro D D' x h
            cases x
            rfl
          · refine ⟨?_, ?_⟩
            · refine ⟨_, rfl, rfl, by kernel_rfl, ?_⟩
              rintro D ⟨⟩ a z S F
              refine ⟨by kernel_rfl, ?_⟩
              exact op_load _ _ (some ⟨b22, 0, none⟩) 0 (.int .i64 (j : Int)) F rfl (by kernel_rfl) (by kernel_rfl) (cBox S 7 rfl (j := 0) rfl) (⟨(), rfl, (SameB.refl _ _ rfl), S⟩)
            refine ⟨?_, ?_⟩
            · refine ⟨_, rfl, rfl, by kernel_rfl, ?_⟩
              rintro D ⟨⟩ a z S F
              refine ⟨by kernel_rfl, ?_⟩
              exact op_index _ 47 _ _ A10 ((stepsP x n).length) c11 k 5 .i64 F rfl (by kernel_rfl) (by kernel_rfl) (by kernel_rfl) (by kernel_rfl) (get_lt hs) (row_some S 6 rfl (m := k) (get_lt hs)) (⟨(), rfl, (SameB.refl _ _ rfl), S⟩)
            refine ⟨?_, ?_⟩
            · refine ⟨_, rfl, rfl, by kernel_rfl, ?_⟩
              rintro D ⟨⟩ a z S F
              refine ⟨by kernel_rfl, ?_⟩
              exact op_field _ _ _ A10 (k * 5) 0 F rfl (by kernel_rfl) (by kernel_rfl) (row_some S 6 rfl (m := k) (get_lt hs)) (⟨(), rfl, (SameB.refl _ _ rfl), S⟩)
            refine ⟨?_, ?_⟩
            · refine ⟨_, rfl, rfl, by kernel_rfl, ?_⟩
              rintro D ⟨⟩ a z S F
              refine ⟨by kernel_rfl, ?_⟩
              exact op_load _ _ A10 (k * 5) (.int .i64 (j : Int)) F rfl (by kernel_rfl) (by kernel_rfl) (cRec S 6 stC_len rfl 0 hs rfl) (⟨(), rfl, (SameB.refl _ _ rfl), S⟩)
            refine ⟨?_, ?_⟩
            · refine ⟨_, rfl, rfl, by kernel_rfl, ?_⟩
              rintro D ⟨⟩ a z S F
              refine ⟨by kernel_rfl, ?_⟩
              exact op_pure F (v0 := .bool (((j : Int) : Int) != ((j : Int) : Int))) (v := .bool false) (by kernel_rfl) (neqF rfl) ⟨(), rfl, (SameB.refl _ _ rfl), S⟩
            refine ⟨?_, ?_⟩
            · refine ⟨_, rfl, rfl, by kernel_rfl, ?_⟩
              rintro D ⟨⟩ a z S F
              refine ⟨by kernel_rfl, ?_⟩
              exact op_load _ _ (some ⟨b22, 0, none⟩) 1 (.int .i64 to) F rfl (by kernel_rfl) (by kernel_rfl) (cBox S 7 rfl (j := 1) rfl) (⟨(), rfl, (SameB.refl _ _ rfl), S⟩)
            refine ⟨?_, ?_⟩
            · refine ⟨_, rfl, rfl, by kernel_rfl, ?_⟩
              rintro D ⟨⟩ a z S F
              refine ⟨by kernel_rfl, ?_⟩
              exact op_index _ 47 _ _ A10 ((stepsP x n).length) c11 k 5 .i64 F rfl (by kernel_rfl) (by kernel_rfl) (by kernel_rfl) (by kernel_rfl) (get_lt hs) (row_some S 6 rfl (m := k) (get_lt hs)) (⟨(), rfl, (SameB.refl _ _ rfl), S⟩)
            refine ⟨?_, ?_⟩
            · refine ⟨_, rfl, rfl, by kernel_rfl, ?_⟩
              rintro D ⟨⟩ a z S F
              refine ⟨by kernel_rfl, ?_⟩
              exact op_field _ _ _ A10 (k * 5) 1 F rfl (by kernel_rfl) (by kernel_rfl) (row_some S 6 rfl (m := k) (get_lt hs)) (⟨(), rfl, (SameB.refl _ _ rfl), S⟩)
            refine ⟨?_, ?_⟩
            · refine ⟨_, rfl, rfl, by kernel_rfl, ?_⟩
              rintro D ⟨⟩ a z S F
              refine ⟨by kernel_rfl, ?_⟩
              exact op_load _ _ A10 (k * 5 + 1) (.int .i64 to) F rfl (by kernel_rfl) (by kernel_rfl) (cRec S 6 stC_len rfl 1 hs rfl) (⟨(), rfl, (SameB.refl _ _ rfl), S⟩)
            refine ⟨?_, ?_⟩
            · refine ⟨_, rfl, rfl, by kernel_rfl, ?_⟩
              rintro D ⟨⟩ a z S F
              refine ⟨by kernel_rfl, ?_⟩
              exact op_pure F (v0 := .bool ((to : Int) != (to : Int))) (v := .bool false) (by kernel_rfl) (neqF rfl) ⟨(), rfl, (SameB.refl _ _ rfl), S⟩
            refine ⟨?_, ?_⟩
            · refine ⟨_, rfl, rfl, by kernel_rfl, ?_⟩
              rintro D ⟨⟩ a z S F
              refine ⟨by kernel_rfl, ?_⟩
              exact op_load _ _ (some ⟨b22, 0, none⟩) 2 (.int .u64 cn) F rfl (by kernel_rfl) (by kernel_rfl) (cBox S 7 rfl (j := 2) rfl) (⟨(), rfl, (SameB.refl _ _ rfl), S⟩)
            refine ⟨?_, ?_⟩
            · refine ⟨_, rfl, rfl, by kernel_rfl, ?_⟩
              rintro D ⟨⟩ a z S F
              refine ⟨by kernel_rfl, ?_⟩
              exact op_index _ 47 _ _ A10 ((stepsP x n).length) c11 k 5 .i64 F rfl (by kernel_rfl) (by kernel_rfl) (by kernel_rfl) (by kernel_rfl) (get_lt hs) (row_some S 6 rfl (m := k) (get_lt hs)) (⟨(), rfl, (SameB.refl _ _ rfl), S⟩)
            refine ⟨?_, ?_⟩
            · refine ⟨_, rfl, rfl, by kernel_rfl, ?_⟩
              rintro D ⟨⟩ a z S F
              refine ⟨by kernel_rfl, ?_⟩
              exact op_field _ _ _ A10 (k * 5) 2 F rfl (by kernel_rfl) (by kernel_rfl) (row_some S 6 rfl (m := k) (get_lt hs)) (⟨(), rfl, (SameB.refl _ _ rfl), S⟩)
            refine ⟨?_, ?_⟩
            · refine ⟨_, rfl, rfl, by kernel_rfl, ?_⟩
              rintro D ⟨⟩ a z S F
              refine ⟨by kernel_rfl, ?_⟩
              exact op_load _ _ A10 (k * 5 + 2) (.int .u64 cn) F rfl (by kernel_rfl) (by kernel_rfl) (cRec S 6 stC_len rfl 2 hs rfl) (⟨(), rfl, (SameB.refl _ _ rfl), S⟩)
            refine ⟨?_, ?_⟩
            · refine ⟨_, rfl, rfl, by kernel_rfl, ?_⟩
              rintro D ⟨⟩ a z S F
              refine ⟨by kernel_rfl, ?_⟩
              exact op_pure F (v0 := .bool ((cn : Int) != (cn : Int))) (v := .bool false) (by kernel_rfl) (neqF rfl) ⟨(), rfl, (SameB.refl _ _ rfl), S⟩
            refine ⟨?_, ?_⟩
            · refine ⟨_, rfl, rfl, by kernel_rfl, ?_⟩
              rintro D ⟨⟩ a z S F
              refine ⟨by kernel_rfl, ?_⟩
              exact op_load _ _ (some ⟨b22, 0, none⟩) 3 (.int .u64 ba) F rfl (by kernel_rfl) (by kernel_rfl) (cBox S 7 rfl (j := 3) rfl) (⟨(), rfl, (SameB.refl _ _ rfl), S⟩)
            refine ⟨?_, ?_⟩
            · refine ⟨_, rfl, rfl, by kernel_rfl, ?_⟩
              rintro D ⟨⟩ a z S F
              refine ⟨by kernel_rfl, ?_⟩
              exact op_index _ 47 _ _ A10 ((stepsP x n).length) c11 k 5 .i64 F rfl (by kernel_rfl) (by kernel_rfl) (by kernel_rfl) (by kernel_rfl) (get_lt hs) (row_some S 6 rfl (m := k) (get_lt hs)) (⟨(), rfl, (SameB.refl _ _ rfl), S⟩)
            refine ⟨?_, ?_⟩
            · refine ⟨_, rfl, rfl, by kernel_rfl, ?_⟩
              rintro D ⟨⟩ a z S F
              refine ⟨by kernel_rfl, ?_⟩
              exact op_field _ _ _ A10 (k * 5) 3 F rfl (by kernel_rfl) (by kernel_rfl) (row_some S 6 rfl (m := k) (get_lt hs)) (⟨(), rfl, (SameB.refl _ _ rfl), S⟩)
            refine ⟨?_, ?_⟩
            · refine ⟨_, rfl, rfl, by kernel_rfl, ?_⟩
              rintro D ⟨⟩ a z S F
              refine ⟨by kernel_rfl, ?_⟩
              exact op_field _ _ _ A10 (k * 5 + 3) 0 F rfl (by kernel_rfl) (by kernel_rfl) (row_some S 6 rfl (m := k) (get_lt hs)) (⟨(), rfl, (SameB.refl _ _ rfl), S⟩)
            refine ⟨?_, ?_⟩
            · refine ⟨_, rfl, rfl, by kernel_rfl, ?_⟩
              rintro D ⟨⟩ a z S F
              refine ⟨by kernel_rfl, ?_⟩
              exact op_load _ _ A10 (k * 5 + 3) (.int .u64 ba) F rfl (by kernel_rfl) (by kernel_rfl) (cRec S 6 stC_len rfl 3 hs rfl) (⟨(), rfl, (SameB.refl _ _ rfl), S⟩)
            refine ⟨?_, ?_⟩
            · refine ⟨_, rfl, rfl, by kernel_rfl, ?_⟩
              rintro D ⟨⟩ a z S F
              refine ⟨by kernel_rfl, ?_⟩
              exact op_pure F (v0 := .bool ((ba : Int) != (ba : Int))) (v := .bool false) (by kernel_rfl) (neqF rfl) ⟨(), rfl, (SameB.refl _ _ rfl), S⟩
            refine ⟨?_, ?_⟩
            · refine ⟨_, rfl, rfl, by kernel_rfl, ?_⟩
              rintro D ⟨⟩ a z S F
              refine ⟨by kernel_rfl, ?_⟩
              exact op_load _ _ (some ⟨b22, 0, none⟩) 4 (.int .u64 ra) F rfl (by kernel_rfl) (by kernel_rfl) (cBox S 7 rfl (j := 4) rfl) (⟨(), rfl, (SameB.refl _ _ rfl), S⟩)
            refine ⟨?_, ?_⟩
            · refine ⟨_, rfl, rfl, by kernel_rfl, ?_⟩
              rintro D ⟨⟩ a z S F
              refine ⟨by kernel_rfl, ?_⟩
              exact op_index _ 47 _ _ A10 ((stepsP x n).length) c11 k 5 .i64 F rfl (by kernel_rfl) (by kernel_rfl) (by kernel_rfl) (by kernel_rfl) (get_lt hs) (row_some S 6 rfl (m := k) (get_lt hs)) (⟨(), rfl, (SameB.refl _ _ rfl), S⟩)
            refine ⟨?_, ?_⟩
            · refine ⟨_, rfl, rfl, by kernel_rfl, ?_⟩
              rintro D ⟨⟩ a z S F
              refine ⟨by kernel_rfl, ?_⟩
              exact op_field _ _ _ A10 (k * 5) 3 F rfl (by kernel_rfl) (by kernel_rfl) (row_some S 6 rfl (m := k) (get_lt hs)) (⟨(), rfl, (SameB.refl _ _ rfl), S⟩)
            refine ⟨?_, ?_⟩
            · refine ⟨_, rfl, rfl, by kernel_rfl, ?_⟩
              rintro D ⟨⟩ a z S F
              refine ⟨by kernel_rfl, ?_⟩
              exact op_field _ _ _ A10 (k * 5 + 3) 1 F rfl (by kernel_rfl) (by kernel_rfl) (row_some S 6 rfl (m := k) (get_lt hs)) (⟨(), rfl, (SameB.refl _ _ rfl), S⟩)
            refine ⟨?_, ?_⟩
            · refine ⟨_, rfl, rfl, by kernel_rfl, ?_⟩
              rintro D ⟨⟩ a z S F
              refine ⟨by kernel_rfl, ?_⟩
              exact op_load _ _ A10 (k * 5 + 4) (.int .u64 ra) F rfl (by kernel_rfl) (by kernel_rfl) (cRec S 6 stC_len rfl 4 hs rfl) (⟨(), rfl, (SameB.refl _ _ rfl), S⟩)
            refine ⟨?_, ?_⟩
            · refine ⟨_, rfl, rfl, by kernel_rfl, ?_⟩
              rintro D ⟨⟩ a z S F
              refine ⟨by kernel_rfl, ?_⟩
              exact op_pure F (v0 := .bool ((ra : Int) != (ra : Int))) (v := .bool false) (by kernel_rfl) (neqF rfl) ⟨(), rfl, (SameB.refl _ _ rfl), S⟩
            refine ⟨?_, ?_⟩
            · refine ⟨_, rfl, rfl, by kernel_rfl, ?_⟩
              rintro D ⟨⟩ a z S F
              refine ⟨by kernel_rfl, ?_⟩
              exact op_load _ _ (some ⟨b7, 0, none⟩) 1 (.slice A5 x.edges.length c6) F rfl (by kernel_rfl) (by kernel_rfl) (cBox S 4 rfl (j := 1) rfl) (⟨(), rfl, (SameB.refl _ _ rfl), S⟩)
            refine ⟨?_, ?_⟩
            · refine ⟨_, rfl, rfl, by kernel_rfl, ?_⟩
              rintro D ⟨⟩ a z S F
              refine ⟨by kernel_rfl, ?_⟩
              exact op_load _ _ (some ⟨b22, 0, none⟩) 0 (.int .i64 (j : Int)) F rfl (by kernel_rfl) (by kernel_rfl) (cBox S 7 rfl (j := 0) rfl) (⟨(), rfl, (SameB.refl _ _ rfl), S⟩)
            refine ⟨?_, ?_⟩
            · refine ⟨_, rfl, rfl, by kernel_rfl, ?_⟩
              rintro D ⟨⟩ a z S F
              refine ⟨by kernel_rfl, ?_⟩
              exact op_index _ 52 _ _ A5 x.edges.length c6 j 8 .i64 F rfl (by kernel_rfl) (by kernel_rfl) (by kernel_rfl) (by kernel_rfl) (get_lt he) (row_some S 3 rfl (m := j) (get_lt he)) (⟨(), rfl, (SameB.refl _ _ rfl), S⟩)
            refine ⟨?_, ?_⟩
            · refine ⟨_, rfl, rfl, by kernel_rfl, ?_⟩
              rintro D ⟨⟩ a z S F
              refine ⟨by kernel_rfl, ?_⟩
              exact op_loadK _ _ A5 (j * 8) [.int .i64 e.a, .int .i64 e.b, .int .u64 e.c0, .int .u64 e.c1, .int .u64 e.b0, .int .u64 e.r0, .int .u64 e.b1, .int .u64 e.r1] F rfl (by kernel_rfl) (by kernel_rfl) (by kernel_rfl) (by simp) (cRecK0 S 3 edC_len rfl he (by kernel_rfl)) (⟨(), rfl, (SameB.refl _ _ rfl), S⟩)
            refine ⟨?_, ?_⟩
            · refine ⟨_, rfl, rfl, by kernel_rfl, ?_⟩
              rintro D ⟨⟩ a z S F
              refine ⟨by kernel_rfl, ?_⟩
              refine op_fn F (by kernel_rfl) (side_any _ e.a e.b e.c0 e.c1 e.b0 e.r0 e.b1 e.r1 n) ?_
              rintro e z ⟨rfl, hb⟩
              have S := S.grow hb
              exact ⟨_, rfl, (), rfl, (SameB.refl _ _ rfl), S⟩
            refine ⟨?_, ?_⟩
            · refine ⟨_, rfl, rfl, by kernel_rfl, ?_⟩
              rintro D ⟨⟩ a z S F
              refine ⟨by kernel_rfl, ?_⟩
              exact op_pure F (v0 := .bool (decide ((sideP ⟨e.a, e.b, e.c0, e.c1, e.b0, e.r0, e.b1, e.r1⟩ n : Int) < (0 : Int)))) (v := .bool false) (by kernel_rfl) (lssF (Int.not_lt.2 hsd)) ⟨(), rfl, (SameB.refl _ _ rfl), S⟩
            trivial
          · rintro ⟨⟩ a z F S
            have F := F.sub (l := [(1, .int .i64 n), (5, .pointer (some ⟨b7, 0, none⟩)), (7, .slice A10 ((stepsP x n).length) c11), (34, .slice A8 ((stepsP x n).length) c9), (35, .int .i64 ((stepsP x n).length : Nat)), (36, .int .i64 (k : Nat)), (103, .bool false)]) ⟨by kernel_rfl, by kernel_rfl, by kernel_rfl, by kernel_rfl, by kernel_rfl, by kernel_rfl, by kernel_rfl, trivial⟩
            have S : Sat w z [rest w (· < w.heap.size), box b1 25 [.slice As x.spots.length cs, .slice Ae x.edges.length ce], row 74 2 (.slice A3 x.spots.length c4) x.spots.length (x.spots.flatMap spC), row 52 8 (.slice A5 x.edges.length c6) x.edges.length (x.edges.flatMap edC), box b7 31 [.slice A3 x.spots.length c4, .slice A5 x.edges.length c6], row 44 5 (.slice A8 ((stepsP x n).length) c9) ((stepsP x n).length) ((stepsP x n).flatMap stC), row 47 5 (.slice A10 ((stepsP x n).length) c11) ((stepsP x n).length) ((stepsP x n).flatMap stC), box b22 44 [.int .i64 (j : Int), .int .i64 to, .int .u64 cn, .int .u64 ba, .int .u64 ra]] := S
            refine then_n ?_
            refine c_f F rfl ?_
            refine wp_skip ?_
            refine inb_n ?_
            refine then_n ?_
            refine wp_region_list ?_
            refine l_do F rfl rfl (op_pure F (v0 := .int .i64 (IntKind.wrap .i64 ((k : Nat) + 1))) (v := .int .i64 ((k : Nat) + 1)) (by kernel_rfl) (wr_i64 (by omega) (by omega)) fun a F => ?_)
            refine l_pure 1 (fun L => (36, .int .i64 ((k : Nat) + 1)) :: L) F (by kernel_rfl) fun a F => ?_
            refine l_then ?_
            exact ⟨_, by omega, k + 1, rfl, by omega, F.sub ⟨by kernel_rfl, by kernel_rfl, by kernel_rfl, by kernel_rfl, by kernel_rfl, by kernel_rfl, trivial⟩, (S.pick [0, 1, 2, 3, 4, 5, 6] (by decide))⟩
        · skip
          refine l_do F rfl rfl (op_pure F (v0 := .bool (decide (((k : Nat) : Int) < (((stepsP x n).length : Nat) : Int)))) (v := .bool false) (by kernel_rfl) (lssF h21) fun a F => ?_)
          refine l_then ?_
          refine wp_seq ?_
          refine c_f F rfl ?_
          refine wp_exit ?_
          refine then_x ?_
          refine then_x ?_
          refine inb_x ?_
          refine then_n ?_
          refine s_reg ?_
          refine l_do F rfl rfl (op_fn F (by kernel_rfl) (awake_any _) ?_)
          rintro e z ⟨rfl, hb⟩
          have S := S.grow hb
          refine ⟨_, rfl, ?_⟩
          intro a F
          refine l_pure 1 (fun L => (4, .bool true) :: L) F (by kernel_rfl) fun a F => ?_
          refine l_then ?_
          refine wp_ret ?_
          exact fin F [.tmp 4] [.bool true] rfl ⟨by kernel_rfl, trivial⟩ (.bool true) rfl ⟨rfl, S.below (i := 0) rfl⟩
end Go.Proofs.Ytjbblgefgjmdaaa
