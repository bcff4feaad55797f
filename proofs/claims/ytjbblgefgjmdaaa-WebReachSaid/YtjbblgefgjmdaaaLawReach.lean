/- Walk over the law WebReach. -/
import Derived.Test.YtjbblgefgjmdaaaReadWeb
import Derived.Test.YtjbblgefgjmdaaaNear07
namespace Go.Proofs.Ytjbblgefgjmdaaa
set_option linter.unusedVariables false
set_option linter.unusedSimpArgs false
set_option linter.unnecessarySimpa false
open Go Go.RowKit

set_option maxRecDepth 100000 in
set_option maxHeartbeats 4000000 in
theorem to6_any (w : World) (t : Int × Int) : Calls Try.prog 25 #[.agg #[.int .i64 t.1, .int .i64 t.2]] w fun e w' => e = .returned (.agg #[.int .i64 t.1, .int .i64 t.2]) ∧ Below w.heap.size w w' := by
  refine enter 8 Try.func25 rfl rfl rfl fun a F => ?_
  have S := Sat.pushRest w
  refine s_reg ?_
  refine l_do F rfl rfl (op_box S _ _ (.agg #[.int .i64 t.1, .int .i64 t.2]) F rfl (by kernel_rfl) fun b1 z S a F => ?_)
  refine l_do F rfl rfl (op_alloc S _ (.agg #[.int .i64 0, .int .i64 0]) rfl (by kernel_rfl) fun b2 z S a F => ?_)
  refine l_then ?_
  refine s_reg ?_
  refine l_pure 1 (fun L => (3, .pointer (some ⟨b1, 0, none⟩)) :: L) F (by kernel_rfl) fun a F => ?_
  refine l_do F rfl rfl (op_load _ _ (some ⟨b1, 0, none⟩) 0 (.int .i64 t.1) F rfl (by kernel_rfl) (by kernel_rfl) (cBox S 1 rfl (j := 0) rfl) (fun a F => ?_))
  refine l_pure 1 (fun L => (5, .pointer (some ⟨b1, 1, none⟩)) :: L) F (by kernel_rfl) fun a F => ?_
  refine l_do F rfl rfl (op_load _ _ (some ⟨b1, 0, none⟩) 1 (.int .i64 t.2) F rfl (by kernel_rfl) (by kernel_rfl) (cBox S 1 rfl (j := 1) rfl) (fun a F => ?_))
  refine l_pure 1 (fun L => (7, .agg #[.int .i64 t.1, .int .i64 t.2]) :: L) F (by kernel_rfl) fun a F => ?_
  refine l_do F rfl rfl (op_storeB S 2 _ _ _ b2 0 (.agg #[.int .i64 t.1, .int .i64 t.2]) F rfl rfl (by kernel_rfl) (by kernel_rfl) (by kernel_rfl) (by kernel_rfl) (by kernel_rfl) fun z S a F => ?_)
  refine l_then ?_
  refine wp_ret ?_
  exact fin F [.cell 2 74] [.agg #[.int .i64 t.1, .int .i64 t.2]] rfl ⟨⟨_, by kernel_rfl, resK S 2 (cs := [.int .i64 t.1, .int .i64 t.2]) rfl (by kernel_rfl) (by kernel_rfl) (by simp)⟩, trivial⟩ (.agg #[.int .i64 t.1, .int .i64 t.2]) rfl ⟨rfl, S.below (i := 0) rfl⟩
set_option maxRecDepth 100000 in
set_option maxHeartbeats 4000000 in
theorem reach_law (w : World) (As : Option Addr) (cs : Nat) (Ae : Option Addr) (ce : Nat) (x : Wb) (h : WebAt w As cs Ae ce x) (ok : x.Ok) (n am : Int) (t : Int × Int) : Calls Try.prog 6 #[.agg #[.slice As x.spots.length cs, .slice Ae x.edges.length ce], .int .i64 n, .int .u64 am, .agg #[.int .i64 t.1, .int .i64 t.2]] w fun e w' => e = .returned (.bool true) ∧ Below w.heap.size w w' := by
  refine enter 42 Try.func6 rfl rfl rfl fun a F => ?_
  have S := Sat.pushRest w
  refine s_reg ?_
  refine l_do F rfl rfl (op_box S _ _ (.agg #[.slice As x.spots.length cs, .slice Ae x.edges.length ce]) F rfl (by kernel_rfl) fun b1 z S a F => ?_)
  refine l_do F rfl rfl (op_box S _ _ (.agg #[.int .i64 t.1, .int .i64 t.2]) F rfl (by kernel_rfl) fun b2 z S a F => ?_)
  refine l_pure 1 (fun L => (8, .bool false) :: L) F (by kernel_rfl) fun a F => ?_
  refine l_then ?_
  refine wp_seq ?_
  refine s_reg ?_
  refine l_do F rfl rfl (op_loadK _ _ (some ⟨b1, 0, none⟩) 0 [.slice As x.spots.length cs, .slice Ae x.edges.length ce] F rfl (by kernel_rfl) (by kernel_rfl) (by kernel_rfl) (by simp) (cBoxK S 1 rfl 0 (by kernel_rfl)) (fun a F => ?_))
  cases hb3 : (lightP x) with
  | false =>
    refine l_do F rfl rfl (op_fn F (by kernel_rfl) (light_any _ As cs Ae ce x) ?_)
    rintro e z ⟨rfl, hb⟩
    have S := S.grow hb
    refine ⟨_, rfl, ?_⟩
    rw [hb3]
    intro a F
    refine l_pure 1 (fun L => (12, .bool true) :: L) F (by kernel_rfl) fun a F => ?_
    refine l_then ?_
    refine c_t F rfl ?_
    refine s_reg ?_
    refine l_do F rfl rfl (op_fn F (by kernel_rfl) (awake_any _) ?_)
    rintro e z ⟨rfl, hb⟩
    have S := S.grow hb
    refine ⟨_, rfl, ?_⟩
    intro a F
    refine l_pure 1 (fun L => (8, .bool true) :: L) F (by kernel_rfl) fun a F => ?_
    refine l_then ?_
    refine wp_ret ?_
    refine then_r (?_)
    exact fin F [.tmp 8] [.bool true] rfl ⟨by kernel_rfl, trivial⟩ (.bool true) rfl ⟨rfl, S.below (i := 0) rfl⟩
  | true =>
    obtain ⟨l1, l2, l3, l4⟩ := light_small hb3
    refine l_do F rfl rfl (op_fn F (by kernel_rfl) (light_any _ As cs Ae ce x) ?_)
    rintro e z ⟨rfl, hb⟩
    have S := S.grow hb
    refine ⟨_, rfl, ?_⟩
    rw [hb3]
    intro a F
    refine l_pure 1 (fun L => (12, .bool false) :: L) F (by kernel_rfl) fun a F => ?_
    refine l_then ?_
    refine c_f F rfl ?_
    refine wp_skip ?_
    refine then_n ?_
    refine s_reg ?_
    refine l_do F rfl rfl (op_loadK _ _ (some ⟨b1, 0, none⟩) 0 [.slice As x.spots.length cs, .slice Ae x.edges.length ce] F rfl (by kernel_rfl) (by kernel_rfl) (by kernel_rfl) (by simp) (cBoxK S 1 rfl 0 (by kernel_rfl)) (fun a F => ?_))
    refine l_do F rfl rfl (op_fn F (by kernel_rfl) (to_any _ As cs Ae ce x (h.move S rfl) ok ⟨l1, l2⟩) ?_)
    rintro e z ⟨A4, c5, A6, c7, rfl, g⟩
    have S := S.pushThings g
    refine ⟨_, rfl, ?_⟩
    intro a F
    refine l_do F rfl rfl (op_alloc S _ (.agg #[.slice none 0 0, .slice none 0 0]) rfl (by kernel_rfl) fun b8 z S a F => ?_)
    refine l_do F rfl rfl (op_storeB S 5 _ _ _ b8 0 (.agg #[.slice A4 x.spots.length c5, .slice A6 x.edges.length c7]) F rfl rfl (by kernel_rfl) (by kernel_rfl) (by kernel_rfl) (by kernel_rfl) (by kernel_rfl) fun z S a F => ?_)
    refine l_then ?_
    refine wp_seq ?_
    have S := S.pushEmp.pushEmp
    refine region_gx (fun D => fun ((A9, c10, A11, c12) : Option Addr × Nat × Option Addr × Nat) => [rest w (· < w.heap.size), box b1 25 [.slice As x.spots.length cs, .slice Ae x.edges.length ce], box b2 70 [.int .i64 t.1, .int .i64 t.2], row 74 2 (.slice A4 x.spots.length c5) x.spots.length (x.spots.flatMap spC), row 52 8 (.slice A6 x.edges.length c7) x.edges.length (x.edges.flatMap edC), box b8 31 [.slice A4 x.spots.length c5, .slice A6 x.edges.length c7], bif D 5 then row 3 1 (.slice A9 ((reachP x n am).length) c10) ((reachP x n am).length) ((reachP x n am).flatMap iC_i64) else emp, bif D 9 then row 3 1 (.slice A11 ((reachP x n am).length) c12) ((reachP x n am).length) ((reachP x n am).flatMap iC_i64) else emp]) (fun ((A9, c10, A11, c12) : Option Addr × Nat × Option Addr × Nat) => [.bool true, .bool true, .agg #[.slice A4 x.spots.length c5, .slice A6 x.edges.length c7], .int .i64 n, .int .u64 am, .slice A9 ((reachP x n am).length) c10, .agg #[.slice As x.spots.length cs, .slice Ae x.edges.length ce], .int .i64 n, .int .u64 am, .slice A11 ((reachP x n am).length) c12, .bool true, .bool true, .bool true, .agg #[.slice A4 x.spots.length c5, .slice A6 x.edges.length c7], .int .i64 n, .agg #[.int .i64 t.1, .int .i64 t.2], .agg #[.int .i64 t.1, .int .i64 t.2], .int .u64 am, .int .i64 (nearP x n t am), .agg #[.slice As x.spots.length cs, .slice Ae x.edges.length ce], .int .i64 n, .agg #[.int .i64 t.1, .int .i64 t.2], .int .u64 am, .int .i64 (nearP x n t am), .bool true, .bool true, .bool true]) [(0, [], [2, 5, 6, 9, 10, 13, 15, 16, 18, 19, 21, 23, 24]), (2, [0], [5, 9, 10, 13, 15, 16, 18, 19, 21, 23, 24]), (5, [0, 2], [9, 10, 13, 15, 16, 18, 19, 21, 23, 24]), (6, [0], [9, 10, 13, 15, 16, 18, 19, 21, 23, 24]), (9, [0, 2, 5, 6], [10, 13, 15, 16, 18, 19, 21, 23, 24]), (10, [0, 2, 5, 6, 9], [13, 15, 16, 18, 19, 21, 23, 24]), (13, [0, 2, 5, 6, 9, 10], [18, 23, 24]), (15, [0, 2, 5, 6, 9, 10], [16, 18, 23, 24]), (16, [0, 2, 5, 6, 9, 10, 15], [18, 23, 24]), (18, [0, 2, 5, 6, 9, 10, 13, 15, 16], [23, 24]), (19, [0, 2, 5, 6, 9, 10], [23, 24]), (21, [0, 2, 5, 6, 9, 10], [23, 24]), (23, [0, 2, 5, 6, 9, 10, 13, 15, 16, 18, 19, 21], [24]), (24, [0, 2, 5, 6, 9, 10, 13, 15, 16, 18, 19, 21, 23], [])] (none, 0, none, 0) rfl (by kernel_rfl) (by kernel_rfl) F S.drew ?_ ?_ ?_ ?_ ?_
    · rintro ⟨A9, c10, A11, c12⟩; rfl
    · rintro ⟨A9, c10, A11, c12⟩; kernel_rfl
    · intro D D' x h
      obtain ⟨A9, c10, A11, c12⟩ := x
      simp only [h 5 (by decide), h 9 (by decide)]
    · refine ⟨?_, ?_⟩
      · refine ⟨_, rfl, rfl, by kernel_rfl, ?_⟩
        rintro D ⟨A9, c10, A11, c12⟩ a z S F
        refine ⟨by kernel_rfl, ?_⟩
        refine op_fn F (by kernel_rfl) (awake_any _) ?_
        rintro e z ⟨rfl, hb⟩
        have S := S.grow hb
        exact ⟨_, rfl, (A9, c10, A11, c12), rfl, (SameB.refl _ _ rfl), S⟩
      refine ⟨?_, ?_⟩
      · refine ⟨_, rfl, rfl, by kernel_rfl, ?_⟩
        rintro D ⟨A9, c10, A11, c12⟩ a z S F
        refine ⟨by kernel_rfl, ?_⟩
        exact op_loadK _ _ (some ⟨b8, 0, none⟩) 0 [.slice A4 x.spots.length c5, .slice A6 x.edges.length c7] F rfl (by kernel_rfl) (by kernel_rfl) (by kernel_rfl) (by simp) (cBoxK S 5 rfl 0 (by kernel_rfl)) (⟨(A9, c10, A11, c12), rfl, (SameB.refl _ _ rfl), S⟩)
      refine ⟨?_, ?_⟩
      · refine ⟨_, rfl, rfl, by kernel_rfl, ?_⟩
        rintro D ⟨A9, c10, A11, c12⟩ a z S F
        refine ⟨by kernel_rfl, ?_⟩
        refine op_fn F (by kernel_rfl) (reach_any _ A4 c5 A6 c7 x (WebAt.ofNew (x := x) (w := w) S (i := 3) (j := 4) rfl rfl ⟨l1, l2⟩) ok n am) ?_
        rintro e z ⟨y13, y14, rfl, g⟩
        have S := S.fillThing 6 rfl g
        exact ⟨_, rfl, (y13, y14, A11, c12), rfl, ⟨rfl, rfl, rfl, rfl, rfl, trivial, rfl, rfl, rfl, trivial, trivial, trivial, trivial, trivial, trivial, trivial, trivial, trivial, trivial, trivial, trivial, trivial, trivial, trivial, trivial, trivial, trivial, trivial⟩, S⟩
      refine ⟨?_, ?_⟩
      · refine ⟨_, rfl, rfl, by kernel_rfl, ?_⟩
        rintro D ⟨A9, c10, A11, c12⟩ a z S F
        refine ⟨by kernel_rfl, ?_⟩
        exact op_loadK _ _ (some ⟨b1, 0, none⟩) 0 [.slice As x.spots.length cs, .slice Ae x.edges.length ce] F rfl (by kernel_rfl) (by kernel_rfl) (by kernel_rfl) (by simp) (cBoxK S 1 rfl 0 (by kernel_rfl)) (⟨(A9, c10, A11, c12), rfl, (SameB.refl _ _ rfl), S⟩)
      refine ⟨?_, ?_⟩
      · refine ⟨_, rfl, rfl, by kernel_rfl, ?_⟩
        rintro D ⟨A9, c10, A11, c12⟩ a z S F
        refine ⟨by kernel_rfl, ?_⟩
        refine op_fn F (by kernel_rfl) (rreach_any _ As cs Ae ce x (h.move S rfl) ok n am) ?_
        rintro e z ⟨y17, y18, rfl, g⟩
        have S := S.fillThing 7 rfl g
        exact ⟨_, rfl, (A9, c10, y17, y18), rfl, ⟨rfl, rfl, rfl, rfl, rfl, rfl, rfl, rfl, rfl, trivial, trivial, trivial, trivial, trivial, trivial, trivial, trivial, trivial, trivial, trivial, trivial, trivial, trivial, trivial, trivial, trivial, trivial, trivial⟩, S⟩
      refine ⟨?_, ?_⟩
      · refine ⟨_, rfl, rfl, by kernel_rfl, ?_⟩
        rintro D ⟨A9, c10, A11, c12⟩ a z S F
        refine ⟨by kernel_rfl, ?_⟩
        refine op_fn F (by kernel_rfl) (samel_any _ A9 c10 A11 c12 (reachP x n am) (Recs.ofRow (S.rowOf (i := 6) rfl) (by have := reach_len x n am; omega)) (Recs.ofRow (S.rowOf (i := 7) rfl) (by have := reach_len x n am; omega)) (by have := reach_len x n am; omega)) ?_
        rintro e z ⟨rfl, hb⟩
        have S := S.grow hb
        exact ⟨_, rfl, (A9, c10, A11, c12), rfl, (SameB.refl _ _ rfl), S⟩
      refine ⟨?_, ?_⟩
      · refine ⟨_, rfl, rfl, by kernel_rfl, ?_⟩
        rintro D ⟨A9, c10, A11, c12⟩ a z S F
        refine ⟨by kernel_rfl, ?_⟩
        exact op_loadK _ _ (some ⟨b8, 0, none⟩) 0 [.slice A4 x.spots.length c5, .slice A6 x.edges.length c7] F rfl (by kernel_rfl) (by kernel_rfl) (by kernel_rfl) (by simp) (cBoxK S 5 rfl 0 (by kernel_rfl)) (⟨(A9, c10, A11, c12), rfl, (SameB.refl _ _ rfl), S⟩)
      refine ⟨?_, ?_⟩
      · refine ⟨_, rfl, rfl, by kernel_rfl, ?_⟩
        rintro D ⟨A9, c10, A11, c12⟩ a z S F
        refine ⟨by kernel_rfl, ?_⟩
        exact op_loadK _ _ (some ⟨b2, 0, none⟩) 0 [.int .i64 t.1, .int .i64 t.2] F rfl (by kernel_rfl) (by kernel_rfl) (by kernel_rfl) (by simp) (cBoxK S 2 rfl 0 (by kernel_rfl)) (⟨(A9, c10, A11, c12), rfl, (SameB.refl _ _ rfl), S⟩)
      refine ⟨?_, ?_⟩
      · refine ⟨_, rfl, rfl, by kernel_rfl, ?_⟩
        rintro D ⟨A9, c10, A11, c12⟩ a z S F
        refine ⟨by kernel_rfl, ?_⟩
        refine op_fn F (by kernel_rfl) (to6_any _ t) ?_
        rintro e z ⟨rfl, hb⟩
        have S := S.grow hb
        exact ⟨_, rfl, (A9, c10, A11, c12), rfl, (SameB.refl _ _ rfl), S⟩
      refine ⟨?_, ?_⟩
      · refine ⟨_, rfl, rfl, by kernel_rfl, ?_⟩
        rintro D ⟨A9, c10, A11, c12⟩ a z S F
        refine ⟨by kernel_rfl, ?_⟩
        refine op_fn F (by kernel_rfl) (neighbour_any _ A4 c5 A6 c7 x (WebAt.ofNew (x := x) (w := w) S (i := 3) (j := 4) rfl rfl ⟨l1, l2⟩) ok n t am) ?_
        rintro e z ⟨rfl, hb⟩
        have S := S.grow hb
        exact ⟨_, rfl, (A9, c10, A11, c12), rfl, (SameB.refl _ _ rfl), S⟩
      refine ⟨?_, ?_⟩
      · refine ⟨_, rfl, rfl, by kernel_rfl, ?_⟩
        rintro D ⟨A9, c10, A11, c12⟩ a z S F
        refine ⟨by kernel_rfl, ?_⟩
        exact op_loadK _ _ (some ⟨b1, 0, none⟩) 0 [.slice As x.spots.length cs, .slice Ae x.edges.length ce] F rfl (by kernel_rfl) (by kernel_rfl) (by kernel_rfl) (by simp) (cBoxK S 1 rfl 0 (by kernel_rfl)) (⟨(A9, c10, A11, c12), rfl, (SameB.refl _ _ rfl), S⟩)
      refine ⟨?_, ?_⟩
      · refine ⟨_, rfl, rfl, by kernel_rfl, ?_⟩
        rintro D ⟨A9, c10, A11, c12⟩ a z S F
        refine ⟨by kernel_rfl, ?_⟩
        exact op_loadK _ _ (some ⟨b2, 0, none⟩) 0 [.int .i64 t.1, .int .i64 t.2] F rfl (by kernel_rfl) (by kernel_rfl) (by kernel_rfl) (by simp) (cBoxK S 2 rfl 0 (by kernel_rfl)) (⟨(A9, c10, A11, c12), rfl, (SameB.refl _ _ rfl), S⟩)
      refine ⟨?_, ?_⟩
      · refine ⟨_, rfl, rfl, by kernel_rfl, ?_⟩
        rintro D ⟨A9, c10, A11, c12⟩ a z S F
        refine ⟨by kernel_rfl, ?_⟩
        refine op_fn F (by kernel_rfl) (rneighbour_any _ As cs Ae ce x (h.move S rfl) ok n t am) ?_
        rintro e z ⟨rfl, hb⟩
        have S := S.grow hb
        exact ⟨_, rfl, (A9, c10, A11, c12), rfl, (SameB.refl _ _ rfl), S⟩
      refine ⟨?_, ?_⟩
      · refine ⟨_, rfl, rfl, by kernel_rfl, ?_⟩
        rintro D ⟨A9, c10, A11, c12⟩ a z S F
        refine ⟨by kernel_rfl, ?_⟩
        exact op_pure F (v0 := .bool ((nearP x n t am : Int) == (nearP x n t am : Int))) (v := .bool true) (by kernel_rfl) (eqlT rfl) ⟨(A9, c10, A11, c12), rfl, (SameB.refl _ _ rfl), S⟩
      trivial
    · rintro ⟨A9, c10, A11, c12⟩ a z F S
      have F := F.sub (l := [(8, .bool true)]) ⟨by kernel_rfl, trivial⟩
      have S : Sat w z [rest w (· < w.heap.size), box b1 25 [.slice As x.spots.length cs, .slice Ae x.edges.length ce], box b2 70 [.int .i64 t.1, .int .i64 t.2], row 74 2 (.slice A4 x.spots.length c5) x.spots.length (x.spots.flatMap spC), row 52 8 (.slice A6 x.edges.length c7) x.edges.length (x.edges.flatMap edC), box b8 31 [.slice A4 x.spots.length c5, .slice A6 x.edges.length c7], row 3 1 (.slice A9 ((reachP x n am).length) c10) ((reachP x n am).length) ((reachP x n am).flatMap iC_i64), row 3 1 (.slice A11 ((reachP x n am).length) c12) ((reachP x n am).length) ((reachP x n am).flatMap iC_i64)] := S
      refine then_n ?_
      refine wp_ret ?_
      exact fin F [.tmp 8] [.bool true] rfl ⟨by kernel_rfl, trivial⟩ (.bool true) rfl ⟨rfl, S.below (i := 0) rfl⟩
end Go.Proofs.Ytjbblgefgjmdaaa
