/- Sent, the program's and the document's: the new rows as things. -/
import Derived.Test.YtcfpbemoocegfaaClone8
namespace Go.Proofs.Ytcfpbemoocegfaa
set_option linter.unusedVariables false
set_option linter.unusedSimpArgs false
set_option linter.unnecessarySimpa false
open Go Go.RowKit

set_option maxRecDepth 100000 in
set_option maxHeartbeats 4000000 in
theorem psent_at (w : World) (As : Option Addr) (cs : Nat) (Ae : Option Addr) (ce : Nat) (x : Wb) (h : WebAt w As cs Ae ce x) (ok : x.Ok) (eg nd am : Int) (hua : U64 am) (hl1 : x.spots.length ≤ 1000) (hl2 : x.edges.length ≤ 1000) {y : Wb} {er : Int} (hs : sentP x eg nd am = (y, er)) : Calls Try.prog 63 #[.agg #[.slice As x.spots.length cs, .slice Ae x.edges.length ce], .int .i64 eg, .int .i64 nd, .int .u64 am] w fun e w' => ∃ A1 c1 A2 c2, e = .returned (.tuple #[.agg #[.slice A1 y.spots.length c1, .slice A2 y.edges.length c2], .int .i64 er]) ∧ Sat w w' [rest w (· < w.heap.size), row 107 2 (.slice A1 y.spots.length c1) y.spots.length (y.spots.flatMap spC), row 62 8 (.slice A2 y.edges.length c2) y.edges.length (y.edges.flatMap edC)] := by
  refine enter 99 Try.func63 rfl rfl rfl fun a F => ?_
  have S := Sat.pushRest w
  refine s_reg ?_
  refine l_do F rfl rfl (op_box S _ _ (.agg #[.slice As x.spots.length cs, .slice Ae x.edges.length ce]) F rfl (by kernel_rfl) fun b1 z S a F => ?_)
  refine l_do F rfl rfl (op_alloc S _ (.agg #[.slice none 0 0, .slice none 0 0]) rfl (by kernel_rfl) fun b2 z S a F => ?_)
  refine l_pure 1 (fun L => (9, .int .i64 0) :: L) F (by kernel_rfl) fun a F => ?_
  refine l_then ?_
  refine wp_seq ?_
  refine s_reg ?_
  refine l_do F rfl rfl (op_loadK _ _ (some ⟨b1, 0, none⟩) 0 [.slice As x.spots.length cs, .slice Ae x.edges.length ce] F rfl (by kernel_rfl) (by kernel_rfl) (by kernel_rfl) (by simp) (cBoxK S 1 rfl 0 (by kernel_rfl)) (fun a F => ?_))
  refine l_do F rfl rfl (op_fn F (by kernel_rfl) (check_any _ As cs Ae ce x (h.move S rfl) ok) ?_)
  rintro e z ⟨rfl, hb⟩
  have S := S.grow hb
  refine ⟨_, rfl, ?_⟩
  intro a F
  refine l_pure 1 (fun L => (10, .int .i64 (chkP x)) :: L) F (by kernel_rfl) fun a F => ?_
  refine l_then ?_
  refine s_reg ?_
  refine l_pure 1 (fun L => (18, .int .i64 (chkP x)) :: L) F (by kernel_rfl) fun a F => ?_
  by_cases ht3 : (chkP x : Int) = (0 : Int)
  · skip
    have hc := ht3
    refine l_do F rfl rfl (op_pure F (v0 := .bool ((chkP x : Int) != (0 : Int))) (v := .bool false) (by kernel_rfl) (neqF ht3) fun a F => ?_)
    refine l_then ?_
    refine c_f F rfl ?_
    refine wp_skip ?_
    refine then_n ?_
    refine wp_seq ?_
    refine s_reg ?_
    refine l_pure 1 (fun L => (22, .int .i64 eg) :: L) F (by kernel_rfl) fun a F => ?_
    by_cases ht4 : (eg : Int) < (0 : Int)
    · skip
      obtain ⟨rfl, rfl⟩ := Prod.mk.inj (hs.symm.trans (sentP_out hc (.inl ht4)))
      refine l_do F rfl rfl (op_pure F (v0 := .bool (decide ((eg : Int) < (0 : Int)))) (v := .bool true) (by kernel_rfl) (lssT ht4) fun a F => ?_)
      refine l_pure 7 (fun L => (30, .bool true) :: (29, undef) :: (28, undef) :: (27, undef) :: (26, undef) :: (25, undef) :: (24, .bool true) :: L) F (by kernel_rfl) fun a F => ?_
      refine l_then ?_
      refine c_t F rfl ?_
      refine s_reg ?_
      refine l_pure 1 (fun L => (31, .agg #[.slice none 0 0, .slice none 0 0]) :: L) F (by kernel_rfl) fun a F => ?_
      refine l_do F rfl rfl (op_storeB S 2 _ _ _ b2 0 (.agg #[.slice none 0 0, .slice none 0 0]) F rfl rfl (by kernel_rfl) (by kernel_rfl) (by kernel_rfl) (by kernel_rfl) (by kernel_rfl) fun z S a F => ?_)
      refine l_pure 1 (fun L => (9, .int .i64 1) :: L) F (by kernel_rfl) fun a F => ?_
      refine l_then ?_
      refine wp_ret ?_
      refine then_r (?_)
      exact fin F [.cell 8 32, .tmp 9] [.agg #[.slice none 0 0, .slice none 0 0], .int .i64 1] rfl ⟨⟨_, by kernel_rfl, resK S 2 (cs := [.slice none 0 0, .slice none 0 0]) rfl (by kernel_rfl) (by kernel_rfl) (by simp)⟩, by kernel_rfl, trivial⟩ (.tuple #[.agg #[.slice none 0 0, .slice none 0 0], .int .i64 1]) rfl ⟨none, 0, none, 0, rfl, ((S.nilRow 107 2).nilRow 62 8).pick [0, 3, 4] (by decide)⟩
    · skip
      refine l_do F rfl rfl (op_pure F (v0 := .bool (decide ((eg : Int) < (0 : Int)))) (v := .bool false) (by kernel_rfl) (lssF ht4) fun a F => ?_)
      refine l_pure 3 (fun L => (26, .pointer (some ⟨b1, 1, none⟩)) :: (25, .int .i64 eg) :: (24, .bool false) :: L) F (by kernel_rfl) fun a F => ?_
      refine l_do F rfl rfl (op_load _ _ (some ⟨b1, 0, none⟩) 1 (.slice Ae x.edges.length ce) F rfl (by kernel_rfl) (by kernel_rfl) (cBox S 1 rfl (j := 1) rfl) (fun a F => ?_))
      refine l_pure 1 (fun L => (28, .int .i64 (x.edges.length : Nat)) :: L) F (by kernel_rfl) fun a F => ?_
      by_cases ht5 : ((x.edges.length : Nat) : Int) ≤ (eg : Int)
      · skip
        obtain ⟨rfl, rfl⟩ := Prod.mk.inj (hs.symm.trans (sentP_out hc (.inr (by omega))))
        refine l_do F rfl rfl (op_pure F (v0 := .bool (decide ((eg : Int) ≥ ((x.edges.length : Nat) : Int)))) (v := .bool true) (by kernel_rfl) (geqT ht5) fun a F => ?_)
        refine l_pure 1 (fun L => (30, .bool true) :: L) F (by kernel_rfl) fun a F => ?_
        refine l_then ?_
        refine c_t F rfl ?_
        refine s_reg ?_
        refine l_pure 1 (fun L => (31, .agg #[.slice none 0 0, .slice none 0 0]) :: L) F (by kernel_rfl) fun a F => ?_
        refine l_do F rfl rfl (op_storeB S 2 _ _ _ b2 0 (.agg #[.slice none 0 0, .slice none 0 0]) F rfl rfl (by kernel_rfl) (by kernel_rfl) (by kernel_rfl) (by kernel_rfl) (by kernel_rfl) fun z S a F => ?_)
        refine l_pure 1 (fun L => (9, .int .i64 1) :: L) F (by kernel_rfl) fun a F => ?_
        refine l_then ?_
        refine wp_ret ?_
        refine then_r (?_)
        exact fin F [.cell 8 32, .tmp 9] [.agg #[.slice none 0 0, .slice none 0 0], .int .i64 1] rfl ⟨⟨_, by kernel_rfl, resK S 2 (cs := [.slice none 0 0, .slice none 0 0]) rfl (by kernel_rfl) (by kernel_rfl) (by simp)⟩, by kernel_rfl, trivial⟩ (.tuple #[.agg #[.slice none 0 0, .slice none 0 0], .int .i64 1]) rfl ⟨none, 0, none, 0, rfl, ((S.nilRow 107 2).nilRow 62 8).pick [0, 3, 4] (by decide)⟩
      · skip
        obtain ⟨k, rfl⟩ : ∃ k : Nat, eg = k := ⟨eg.toNat, by omega⟩
        obtain ⟨ed, hed⟩ : ∃ ed, x.edges[k]? = some ed := ⟨_, List.getElem?_eq_getElem (by omega)⟩
        have hok := ok.e ed (List.mem_of_getElem? hed)
        have hnb := (chk_zero hc).2.2 ed (List.mem_of_getElem? hed)
        unfold badE at hnb
        obtain ⟨hk01, hk02⟩ := hok.c0
        obtain ⟨hk11, hk12⟩ := hok.c1
        obtain ⟨hua1, hua2⟩ := hua
        refine l_do F rfl rfl (op_pure F (v0 := .bool (decide (((k : Nat) : Int) ≥ ((x.edges.length : Nat) : Int)))) (v := .bool false) (by kernel_rfl) (geqF ht5) fun a F => ?_)
        refine l_pure 1 (fun L => (30, .bool false) :: L) F (by kernel_rfl) fun a F => ?_
        refine l_then ?_
        refine c_f F rfl ?_
        refine wp_skip ?_
        refine then_n ?_
        refine s_reg ?_
        refine l_pure 1 (fun L => (32, .pointer (some ⟨b1, 1, none⟩)) :: L) F (by kernel_rfl) fun a F => ?_
        refine l_do F rfl rfl (op_load _ _ (some ⟨b1, 0, none⟩) 1 (.slice Ae x.edges.length ce) F rfl (by kernel_rfl) (by kernel_rfl) (cBox S 1 rfl (j := 1) rfl) (fun a F => ?_))
        refine l_pure 1 (fun L => (34, .int .i64 (k : Nat)) :: L) F (by kernel_rfl) fun a F => ?_
        refine l_do F rfl rfl (op_index _ 62 _ _ Ae x.edges.length ce k 8 .i64 F rfl (by kernel_rfl) (by kernel_rfl) (by kernel_rfl) (by kernel_rfl) (get_lt hed) (recs_some h.e (m := k) (get_lt hed)) (fun a F => ?_))
        refine l_do F rfl rfl (op_loadK _ _ Ae (k * 8) [.int .i64 ed.a, .int .i64 ed.b, .int .u64 ed.c0, .int .u64 ed.c1, .int .u64 ed.b0, .int .u64 ed.r0, .int .u64 ed.b1, .int .u64 ed.r1] F rfl (by kernel_rfl) (by kernel_rfl) (by kernel_rfl) (by simp) (cOldK0 S 0 edC_len h.e rfl hed (by kernel_rfl)) (fun a F => ?_))
        refine l_pure 1 (fun L => (37, .int .i64 nd) :: L) F (by kernel_rfl) fun a F => ?_
        rcases side_cases ed nd with ⟨hs0, hq0⟩ | ⟨hs0, hq0, hq1⟩ | ⟨hs0, hq0, hq1⟩
        · skip
          skip
          refine l_do F rfl rfl (op_fn F (by kernel_rfl) (side_at hs0 _) ?_)
          rintro e z ⟨rfl, hb⟩
          have S := S.grow hb
          refine ⟨_, rfl, ?_⟩
          intro a F
          refine l_pure 1 (fun L => (11, .int .i64 0) :: L) F (by kernel_rfl) fun a F => ?_
          refine l_then ?_
          refine wp_seq ?_
          refine s_reg ?_
          refine l_pure 2 (fun L => (40, .bool false) :: (39, .int .i64 0) :: L) F (by kernel_rfl) fun a F => ?_
          refine l_then ?_
          refine c_f F rfl ?_
          refine wp_skip ?_
          refine then_n ?_
          refine wp_seq ?_
          have S := S.pushEmp.pushEmp.pushEmp
          refine region_gx (fun D => fun ((A6, c7, A8, c9, b10) : Option Addr × Nat × Option Addr × Nat × Nat) => [rest w (· < w.heap.size), box b1 32 [.slice As x.spots.length cs, .slice Ae x.edges.length ce], box b2 32 [.slice none 0 0, .slice none 0 0], bif D 2 then row 107 2 (.slice A6 x.spots.length c7) x.spots.length (x.spots.flatMap spC) else emp, bif D 5 then row 62 8 (.slice A8 x.edges.length c9) x.edges.length (x.edges.flatMap edC) else emp, bif D 8 then box b10 32 [.slice A6 x.spots.length c7, .slice A8 x.edges.length c9] else (bif D 7 then box b10 32 [.slice none 0 0, .slice none 0 0] else emp)]) (fun ((A6, c7, A8, c9, b10) : Option Addr × Nat × Option Addr × Nat × Nat) => [.pointer (some ⟨b1, 0, none⟩), .slice As x.spots.length cs, .slice A6 x.spots.length c7, .pointer (some ⟨b1, 1, none⟩), .slice Ae x.edges.length ce, .slice A8 x.edges.length c9, .agg #[.slice A6 x.spots.length c7, .slice A8 x.edges.length c9], .pointer (some ⟨b10, 0, none⟩), undef]) [(1, [], [2, 5, 8]), (2, [1], [5, 8]), (4, [], [5, 8]), (5, [1, 2, 4], [8]), (7, [], [8]), (8, [1, 2, 4, 5, 7], [])] (none, 0, none, 0, 0) rfl (by kernel_rfl) (by kernel_rfl) F S.drew ?_ ?_ ?_ ?_ ?_
          · rintro ⟨A6, c7, A8, c9, b10⟩; rfl
          · rintro ⟨A6, c7, A8, c9, b10⟩; kernel_rfl
          · intro D D' x h
            obtain ⟨A6, c7, A8, c9, b10⟩ := x
            simp only [h 2 (by decide), h 5 (by decide), h 7 (by decide), h 8 (by decide)]
          · refine ⟨?_, ?_⟩
            · refine ⟨_, rfl, rfl, by kernel_rfl, ?_⟩
              rintro D ⟨A6, c7, A8, c9, b10⟩ a z S F
              refine ⟨by kernel_rfl, ?_⟩
              exact op_load _ _ (some ⟨b1, 0, none⟩) 0 (.slice As x.spots.length cs) F rfl (by kernel_rfl) (by kernel_rfl) (cBox S 1 rfl (j := 0) rfl) (⟨(A6, c7, A8, c9, b10), rfl, (SameB.refl _ _ rfl), S⟩)
            refine ⟨?_, ?_⟩
            · refine ⟨_, rfl, rfl, by kernel_rfl, ?_⟩
              rintro D ⟨A6, c7, A8, c9, b10⟩ a z S F
              refine ⟨by kernel_rfl, ?_⟩
              refine op_fn F (by kernel_rfl) (cloneS8_any _ As cs x.spots (h.move S rfl).s hl1) ?_
              rintro e z ⟨y11, y12, rfl, g⟩
              have S := S.fillThing 3 rfl g
              exact ⟨_, rfl, (y11, y12, A8, c9, b10), rfl, ⟨rfl, rfl, trivial, rfl, rfl, trivial, trivial, rfl, trivial, trivial⟩, S⟩
            refine ⟨?_, ?_⟩
            · refine ⟨_, rfl, rfl, by kernel_rfl, ?_⟩
              rintro D ⟨A6, c7, A8, c9, b10⟩ a z S F
              refine ⟨by kernel_rfl, ?_⟩
              exact op_load _ _ (some ⟨b1, 0, none⟩) 1 (.slice Ae x.edges.length ce) F rfl (by kernel_rfl) (by kernel_rfl) (cBox S 1 rfl (j := 1) rfl) (⟨(A6, c7, A8, c9, b10), rfl, (SameB.refl _ _ rfl), S⟩)
            refine ⟨?_, ?_⟩
            · refine ⟨_, rfl, rfl, by kernel_rfl, ?_⟩
              rintro D ⟨A6, c7, A8, c9, b10⟩ a z S F
              refine ⟨by kernel_rfl, ?_⟩
              refine op_fn F (by kernel_rfl) (cloneE8_any _ Ae ce x.edges (h.move S rfl).e hl2) ?_
              rintro e z ⟨y15, y16, rfl, g⟩
              have S := S.fillThing 4 rfl g
              exact ⟨_, rfl, (A6, c7, y15, y16, b10), rfl, ⟨rfl, rfl, rfl, rfl, rfl, trivial, trivial, rfl, trivial, trivial⟩, S⟩
            refine ⟨?_, ?_⟩
            · refine ⟨_, rfl, rfl, by kernel_rfl, ?_⟩
              rintro D ⟨A6, c7, A8, c9, b10⟩ a z S F
              refine ⟨by kernel_rfl, ?_⟩
              exact op_allocF S 5 rfl _ (.agg #[.slice none 0 0, .slice none 0 0]) rfl (by kernel_rfl) fun y19 z S => ⟨(A6, c7, A8, c9, y19), rfl, ⟨rfl, rfl, rfl, rfl, rfl, rfl, rfl, trivial, trivial, trivial⟩, S⟩
            refine ⟨?_, ?_⟩
            · refine ⟨_, rfl, rfl, by kernel_rfl, ?_⟩
              rintro D ⟨A6, c7, A8, c9, b10⟩ a z S F
              refine ⟨by kernel_rfl, ?_⟩
              exact op_storeB S 5 _ _ _ b10 0 (.agg #[.slice A6 x.spots.length c7, .slice A8 x.edges.length c9]) F rfl rfl (by kernel_rfl) (by kernel_rfl) (by kernel_rfl) (by kernel_rfl) (by kernel_rfl) fun z S => ⟨(A6, c7, A8, c9, b10), rfl, (SameB.refl _ _ rfl), S⟩
            trivial
          · rintro ⟨A6, c7, A8, c9, b10⟩ a z F S
            have F := F.sub (l := [(1, .int .i64 (k : Nat)), (3, .int .u64 am), (8, .pointer (some ⟨b2, 0, none⟩)), (11, .int .i64 0), (12, .pointer (some ⟨b10, 0, none⟩))]) ⟨by kernel_rfl, by kernel_rfl, by kernel_rfl, by kernel_rfl, by kernel_rfl, trivial⟩
            have S : Sat w z [rest w (· < w.heap.size), box b1 32 [.slice As x.spots.length cs, .slice Ae x.edges.length ce], box b2 32 [.slice none 0 0, .slice none 0 0], row 107 2 (.slice A6 x.spots.length c7) x.spots.length (x.spots.flatMap spC), row 62 8 (.slice A8 x.edges.length c9) x.edges.length (x.edges.flatMap edC), box b10 32 [.slice A6 x.spots.length c7, .slice A8 x.edges.length c9]] := S
            refine then_n ?_
            refine s_reg ?_
            refine l_pure 1 (fun L => (49, .pointer (some ⟨b10, 1, none⟩)) :: L) F (by kernel_rfl) fun a F => ?_
            refine l_do F rfl rfl (op_load _ _ (some ⟨b10, 0, none⟩) 1 (.slice A8 x.edges.length c9) F rfl (by kernel_rfl) (by kernel_rfl) (cBox S 5 rfl (j := 1) rfl) (fun a F => ?_))
            refine l_pure 1 (fun L => (51, .int .i64 (k : Nat)) :: L) F (by kernel_rfl) fun a F => ?_
            refine l_do F rfl rfl (op_index _ 62 _ _ A8 x.edges.length c9 k 8 .i64 F rfl (by kernel_rfl) (by kernel_rfl) (by kernel_rfl) (by kernel_rfl) (get_lt hed) (row_some S 4 rfl (m := k) (get_lt hed)) (fun a F => ?_))
            refine l_pure 1 (fun L => (13, ptrA A8 (k * 8)) :: L) F (by kernel_rfl) fun a F => ?_
            refine l_then ?_
            refine wp_seq ?_
            refine s_reg ?_
            refine l_pure 2 (fun L => (54, .int .i64 0) :: (53, ptrA A8 (k * 8)) :: L) F (by kernel_rfl) fun a F => ?_
            refine l_do F rfl rfl (op_nilA _ A8 (k * 8) F rfl (by kernel_rfl) (row_some S 4 rfl (m := k) (get_lt hed)) (fun a F => ?_))
            refine l_do F rfl rfl (op_field _ _ _ A8 (k * 8) 2 F rfl (by kernel_rfl) (by kernel_rfl) (row_some S 4 rfl (m := k) (get_lt hed)) (fun a F => ?_))
            refine l_do F rfl rfl (op_indexArr _ 26 _ _ A8 (k * 8 + 2) 2 0 1 .i64 F rfl (by kernel_rfl) (by kernel_rfl) (by kernel_rfl) (by kernel_rfl) (by decide) (row_some S 4 rfl (m := k) (get_lt hed)) (fun a F => ?_))
            refine l_do F rfl rfl (op_load _ _ A8 (k * 8 + 2) (.int .u64 ed.c0) F rfl (by kernel_rfl) (by kernel_rfl) (cRec S 4 edC_len rfl 2 hed rfl) (fun a F => ?_))
            refine l_pure 1 (fun L => (59, .int .u64 am) :: L) F (by kernel_rfl) fun a F => ?_
            by_cases ht20 : (ed.c0 : Int) < (am : Int)
            · skip
              obtain ⟨rfl, rfl⟩ := Prod.mk.inj (hs.symm.trans (sentP_room hc hed hs0 (by decide) ht20))
              refine l_do F rfl rfl (op_pure F (v0 := .bool (decide ((ed.c0 : Int) < (am : Int)))) (v := .bool true) (by kernel_rfl) (lssT ht20) fun a F => ?_)
              refine l_then ?_
              refine c_t F rfl ?_
              refine s_reg ?_
              refine l_pure 1 (fun L => (61, .agg #[.slice none 0 0, .slice none 0 0]) :: L) F (by kernel_rfl) fun a F => ?_
              refine l_do F rfl rfl (op_storeB S 2 _ _ _ b2 0 (.agg #[.slice none 0 0, .slice none 0 0]) F rfl rfl (by kernel_rfl) (by kernel_rfl) (by kernel_rfl) (by kernel_rfl) (by kernel_rfl) fun z S a F => ?_)
              refine l_pure 1 (fun L => (9, .int .i64 28) :: L) F (by kernel_rfl) fun a F => ?_
              refine l_then ?_
              refine wp_ret ?_
              refine then_r (?_)
              exact fin F [.cell 8 32, .tmp 9] [.agg #[.slice none 0 0, .slice none 0 0], .int .i64 28] rfl ⟨⟨_, by kernel_rfl, resK S 2 (cs := [.slice none 0 0, .slice none 0 0]) rfl (by kernel_rfl) (by kernel_rfl) (by simp)⟩, by kernel_rfl, trivial⟩ (.tuple #[.agg #[.slice none 0 0, .slice none 0 0], .int .i64 28]) rfl ⟨none, 0, none, 0, rfl, ((S.nilRow 107 2).nilRow 62 8).pick [0, 6, 7] (by decide)⟩
            · skip
              have hcan := ht20
              refine l_do F rfl rfl (op_pure F (v0 := .bool (decide ((ed.c0 : Int) < (am : Int)))) (v := .bool false) (by kernel_rfl) (lssF ht20) fun a F => ?_)
              refine l_then ?_
              refine c_f F rfl ?_
              refine wp_skip ?_
              refine then_n ?_
              refine s_reg ?_
              refine l_pure 3 (fun L => (65, .int .i64 1) :: (64, .int .i64 0) :: (63, ptrA A8 (k * 8)) :: L) F (by kernel_rfl) fun a F => ?_
              refine l_do F rfl rfl (op_nilA _ A8 (k * 8) F rfl (by kernel_rfl) (row_some S 4 rfl (m := k) (get_lt hed)) (fun a F => ?_))
              refine l_do F rfl rfl (op_field _ _ _ A8 (k * 8) 2 F rfl (by kernel_rfl) (by kernel_rfl) (row_some S 4 rfl (m := k) (get_lt hed)) (fun a F => ?_))
              refine l_do F rfl rfl (op_indexArr _ 26 _ _ A8 (k * 8 + 2) 2 1 1 .i64 F rfl (by kernel_rfl) (by kernel_rfl) (by kernel_rfl) (by kernel_rfl) (by decide) (row_some S 4 rfl (m := k) (get_lt hed)) (fun a F => ?_))
              refine l_do F rfl rfl (op_load _ _ A8 (k * 8 + 3) (.int .u64 ed.c1) F rfl (by kernel_rfl) (by kernel_rfl) (cRec S 4 edC_len rfl 3 hed rfl) (fun a F => ?_))
              refine l_pure 1 (fun L => (70, .int .u64 am) :: L) F (by kernel_rfl) fun a F => ?_
              refine l_do F rfl rfl (op_fn F (by kernel_rfl) (add_any ed.c1 am ⟨by omega, by omega⟩ ⟨by omega, by omega⟩ _) ?_)
              rintro e z ⟨rfl, hw⟩
              first | subst hw | (have hw := hw.symm; subst hw)
              refine ⟨_, rfl, ?_⟩
              intro a F
              refine l_pure 5 (fun L => (15, .int .i64 ((addP ed.c1 am).2)) :: (14, .int .u64 ((addP ed.c1 am).1)) :: (73, .int .i64 ((addP ed.c1 am).2)) :: (72, .int .u64 ((addP ed.c1 am).1)) :: (62, .tuple #[.int .u64 ((addP ed.c1 am).1), .int .i64 ((addP ed.c1 am).2)]) :: L) F (by kernel_rfl) fun a F => ?_
              refine l_then ?_
              refine wp_seq ?_
              refine s_reg ?_
              refine l_pure 1 (fun L => (74, .int .i64 ((addP ed.c1 am).2)) :: L) F (by kernel_rfl) fun a F => ?_
              by_cases ht21 : ((addP ed.c1 am).2 : Int) = (0 : Int)
              · skip
                have hov := ht21
                obtain ⟨rfl, rfl⟩ := Prod.mk.inj (hs.symm.trans (sentP_ok hc hed hs0 (by decide) hcan hov))
                refine l_do F rfl rfl (op_pure F (v0 := .bool (((addP ed.c1 am).2 : Int) != (0 : Int))) (v := .bool false) (by kernel_rfl) (neqF ht21) fun a F => ?_)
                refine l_then ?_
                refine c_f F rfl ?_
                refine wp_skip ?_
                refine then_n ?_
                refine wp_seq ?_
                have hn22 : Option.isSome A8 = true := (row_some S 4 rfl (m := k) (get_lt hed))
                refine region_gx (fun D => fun (_ : Unit) => [rest w (· < w.heap.size), box b1 32 [.slice As x.spots.length cs, .slice Ae x.edges.length ce], box b2 32 [.slice none 0 0, .slice none 0 0], row 107 2 (.slice A6 x.spots.length c7) x.spots.length (x.spots.flatMap spC), bif D 21 then row 62 8 (.slice A8 x.edges.length c9) x.edges.length (((x.edges.set k (⟨ed.a, ed.b, ed.c0 - am, ed.c1, ed.b0, ed.r0, ed.b1, ed.r1⟩ : Edg)).set k (⟨ed.a, ed.b, ed.c0 - am, (addP ed.c1 am).1, ed.b0, ed.r0, ed.b1, ed.r1⟩ : Edg)).flatMap edC) else (bif D 17 then row 62 8 (.slice A8 x.edges.length c9) x.edges.length ((x.edges.set k (⟨ed.a, ed.b, ed.c0 - am, ed.c1, ed.b0, ed.r0, ed.b1, ed.r1⟩ : Edg)).flatMap edC) else row 62 8 (.slice A8 x.edges.length c9) x.edges.length (x.edges.flatMap edC)), box b10 32 [.slice A6 x.spots.length c7, .slice A8 x.edges.length c9]]) (fun (_ : Unit) => [ptrA A8 (k * 8), .int .i64 0, ptrA A8 (k * 8), .int .i64 0, .int .i64 1, ptrA A8 (k * 8), .int .i64 0, ptrA A8 (k * 8), ptrA A8 (k * 8 + 2), ptrA A8 (k * 8 + 2), .int .u64 ed.c0, .int .u64 am, .int .u64 (ed.c0 - am), .int .u64 ((addP ed.c1 am).1), ptrA A8 (k * 8), ptrA A8 (k * 8 + 2), ptrA A8 (k * 8 + 2), undef, ptrA A8 (k * 8), ptrA A8 (k * 8 + 2), ptrA A8 (k * 8 + 3), undef]) [(7, [], [8, 9, 10, 12, 16, 17, 20, 21]), (8, [7], [9, 10, 12, 16, 17, 20, 21]), (9, [7, 8], [10, 12, 16, 17, 20, 21]), (10, [7, 8, 9], [12, 16, 17, 20, 21]), (12, [7, 8, 9, 10], [16, 17, 20, 21]), (14, [], [15, 16, 17, 20, 21]), (15, [14], [16, 17, 20, 21]), (16, [7, 8, 9, 10, 12, 14, 15], [17, 20, 21]), (17, [7, 8, 9, 10, 12, 14, 15, 16], [20, 21]), (18, [], [19, 20, 21]), (19, [18], [20, 21]), (20, [7, 8, 9, 10, 12, 14, 15, 16, 17, 18, 19], [21]), (21, [7, 8, 9, 10, 12, 14, 15, 16, 17, 18, 19, 20], [])] () rfl (by kernel_rfl) (by kernel_rfl) F S.drew ?_ ?_ ?_ ?_ ?_
                · rintro ⟨⟩; rfl
                · rintro ⟨⟩; kernel_rfl
                · intro D D' x h
                  cases x
                  simp only [h 17 (by decide), h 21 (by decide)]
                · refine ⟨?_, ?_⟩
                  · refine ⟨_, rfl, rfl, by kernel_rfl, ?_⟩
                    rintro D ⟨⟩ a z S F
                    refine ⟨by kernel_rfl, ?_⟩
                    exact op_nilA _ A8 (k * 8) F rfl (by kernel_rfl) hn22 (⟨(), rfl, (SameB.refl _ _ rfl), S⟩)
                  refine ⟨?_, ?_⟩
                  · refine ⟨_, rfl, rfl, by kernel_rfl, ?_⟩
                    rintro D ⟨⟩ a z S F
                    refine ⟨by kernel_rfl, ?_⟩
                    exact op_field _ _ _ A8 (k * 8) 2 F rfl (by kernel_rfl) (by kernel_rfl) hn22 (⟨(), rfl, (SameB.refl _ _ rfl), S⟩)
                  refine ⟨?_, ?_⟩
                  · refine ⟨_, rfl, rfl, by kernel_rfl, ?_⟩
                    rintro D ⟨⟩ a z S F
                    refine ⟨by kernel_rfl, ?_⟩
                    exact op_indexArr _ 26 _ _ A8 (k * 8 + 2) 2 0 1 .i64 F rfl (by kernel_rfl) (by kernel_rfl) (by kernel_rfl) (by kernel_rfl) (by decide) hn22 (⟨(), rfl, (SameB.refl _ _ rfl), S⟩)
                  refine ⟨?_, ?_⟩
                  · refine ⟨_, rfl, rfl, by kernel_rfl, ?_⟩
                    rintro D ⟨⟩ a z S F
                    refine ⟨by kernel_rfl, ?_⟩
                    exact op_load _ _ A8 (k * 8 + 2) (.int .u64 ed.c0) F rfl (by kernel_rfl) (by kernel_rfl) (cRec S 4 edC_len rfl 2 hed rfl) (⟨(), rfl, (SameB.refl _ _ rfl), S⟩)
                  refine ⟨?_, ?_⟩
                  · refine ⟨_, rfl, rfl, by kernel_rfl, ?_⟩
                    rintro D ⟨⟩ a z S F
                    refine ⟨by kernel_rfl, ?_⟩
                    exact op_pure F (v0 := .int .u64 (IntKind.wrap .u64 (ed.c0 - am))) (v := .int .u64 (ed.c0 - am)) (by kernel_rfl) (wr_u64 (by omega) (by omega)) ⟨(), rfl, (SameB.refl _ _ rfl), S⟩
                  refine ⟨?_, ?_⟩
                  · refine ⟨_, rfl, rfl, by kernel_rfl, ?_⟩
                    rintro D ⟨⟩ a z S F
                    refine ⟨by kernel_rfl, ?_⟩
                    exact op_nilA _ A8 (k * 8) F rfl (by kernel_rfl) hn22 (⟨(), rfl, (SameB.refl _ _ rfl), S⟩)
                  refine ⟨?_, ?_⟩
                  · refine ⟨_, rfl, rfl, by kernel_rfl, ?_⟩
                    rintro D ⟨⟩ a z S F
                    refine ⟨by kernel_rfl, ?_⟩
                    exact op_field _ _ _ A8 (k * 8) 2 F rfl (by kernel_rfl) (by kernel_rfl) hn22 (⟨(), rfl, (SameB.refl _ _ rfl), S⟩)
                  refine ⟨?_, ?_⟩
                  · refine ⟨_, rfl, rfl, by kernel_rfl, ?_⟩
                    rintro D ⟨⟩ a z S F
                    refine ⟨by kernel_rfl, ?_⟩
                    exact op_indexArr _ 26 _ _ A8 (k * 8 + 2) 2 0 1 .i64 F rfl (by kernel_rfl) (by kernel_rfl) (by kernel_rfl) (by kernel_rfl) (by decide) hn22 (⟨(), rfl, (SameB.refl _ _ rfl), S⟩)
                  refine ⟨?_, ?_⟩
                  · refine ⟨_, rfl, rfl, by kernel_rfl, ?_⟩
                    rintro D ⟨⟩ a z S F
                    refine ⟨by kernel_rfl, ?_⟩
                    exact op_storeRec S 4 _ _ _ A8 k 8 2 (.int .u64 (ed.c0 - am)) (⟨ed.a, ed.b, ed.c0 - am, ed.c1, ed.b0, ed.r0, ed.b1, ed.r1⟩ : Edg) F edC_len hed rfl rfl (by kernel_rfl) (by kernel_rfl) (by kernel_rfl) (by kernel_rfl) (by kernel_rfl) (by kernel_rfl) (by kernel_rfl) fun z S => ⟨(), rfl, (SameB.refl _ _ rfl), S⟩
                  refine ⟨?_, ?_⟩
                  · refine ⟨_, rfl, rfl, by kernel_rfl, ?_⟩
                    rintro D ⟨⟩ a z S F
                    refine ⟨by kernel_rfl, ?_⟩
                    exact op_nilA _ A8 (k * 8) F rfl (by kernel_rfl) hn22 (⟨(), rfl, (SameB.refl _ _ rfl), S⟩)
                  refine ⟨?_, ?_⟩
                  · refine ⟨_, rfl, rfl, by kernel_rfl, ?_⟩
                    rintro D ⟨⟩ a z S F
                    refine ⟨by kernel_rfl, ?_⟩
                    exact op_field _ _ _ A8 (k * 8) 2 F rfl (by kernel_rfl) (by kernel_rfl) hn22 (⟨(), rfl, (SameB.refl _ _ rfl), S⟩)
                  refine ⟨?_, ?_⟩
                  · refine ⟨_, rfl, rfl, by kernel_rfl, ?_⟩
                    rintro D ⟨⟩ a z S F
                    refine ⟨by kernel_rfl, ?_⟩
                    exact op_indexArr _ 26 _ _ A8 (k * 8 + 2) 2 1 1 .i64 F rfl (by kernel_rfl) (by kernel_rfl) (by kernel_rfl) (by kernel_rfl) (by decide) hn22 (⟨(), rfl, (SameB.refl _ _ rfl), S⟩)
                  refine ⟨?_, ?_⟩
                  · refine ⟨_, rfl, rfl, by kernel_rfl, ?_⟩
                    rintro D ⟨⟩ a z S F
                    refine ⟨by kernel_rfl, ?_⟩
                    exact op_storeRec S 4 _ _ _ A8 k 8 3 (.int .u64 ((addP ed.c1 am).1)) (⟨ed.a, ed.b, ed.c0 - am, (addP ed.c1 am).1, ed.b0, ed.r0, ed.b1, ed.r1⟩ : Edg) F edC_len (set_at hed) rfl rfl (by kernel_rfl) (by kernel_rfl) (by kernel_rfl) (by kernel_rfl) (by kernel_rfl) (by kernel_rfl) (by kernel_rfl) fun z S => ⟨(), rfl, (SameB.refl _ _ rfl), S⟩
                  trivial
                · rintro ⟨⟩ a z F S
                  have F := F.sub (l := [(8, .pointer (some ⟨b2, 0, none⟩)), (12, .pointer (some ⟨b10, 0, none⟩))]) ⟨by kernel_rfl, by kernel_rfl, trivial⟩
                  have S : Sat w z [rest w (· < w.heap.size), box b1 32 [.slice As x.spots.length cs, .slice Ae x.edges.length ce], box b2 32 [.slice none 0 0, .slice none 0 0], row 107 2 (.slice A6 x.spots.length c7) x.spots.length (x.spots.flatMap spC), row 62 8 (.slice A8 x.edges.length c9) x.edges.length (((x.edges.set k (⟨ed.a, ed.b, ed.c0 - am, ed.c1, ed.b0, ed.r0, ed.b1, ed.r1⟩ : Edg)).set k (⟨ed.a, ed.b, ed.c0 - am, (addP ed.c1 am).1, ed.b0, ed.r0, ed.b1, ed.r1⟩ : Edg)).flatMap edC), box b10 32 [.slice A6 x.spots.length c7, .slice A8 x.edges.length c9]] := S
                  refine then_n ?_
                  refine s_reg ?_
                  refine l_do F rfl rfl (op_loadK _ _ (some ⟨b10, 0, none⟩) 0 [.slice A6 x.spots.length c7, .slice A8 x.edges.length c9] F rfl (by kernel_rfl) (by kernel_rfl) (by kernel_rfl) (by simp) (cBoxK S 5 rfl 0 (by kernel_rfl)) (fun a F => ?_))
                  refine l_do F rfl rfl (op_storeB S 2 _ _ _ b2 0 (.agg #[.slice A6 x.spots.length c7, .slice A8 x.edges.length c9]) F rfl rfl (by kernel_rfl) (by kernel_rfl) (by kernel_rfl) (by kernel_rfl) (by kernel_rfl) fun z S a F => ?_)
                  refine l_pure 1 (fun L => (9, .int .i64 0) :: L) F (by kernel_rfl) fun a F => ?_
                  refine l_then ?_
                  refine wp_ret ?_
                  have hX : ((x.edges.set k (⟨ed.a, ed.b, ed.c0 - am, ed.c1, ed.b0, ed.r0, ed.b1, ed.r1⟩ : Edg)).set k (⟨ed.a, ed.b, ed.c0 - am, (addP ed.c1 am).1, ed.b0, ed.r0, ed.b1, ed.r1⟩ : Edg)) = x.edges.set k (ed.sent 0 am) := by rw [List.set_set, Edg.sent0 hov]
                  have hXl : x.edges.length = (x.edges.set k (ed.sent 0 am)).length := (List.length_set ..).symm
                  have S := S.rowEq 4 hX hXl rfl
                  exact fin F [.cell 8 32, .tmp 9] [.agg #[.slice A6 x.spots.length c7, .slice A8 x.edges.length c9], .int .i64 0] rfl ⟨⟨_, by kernel_rfl, resK S 2 (cs := [.slice A6 x.spots.length c7, .slice A8 x.edges.length c9]) rfl (by kernel_rfl) (by kernel_rfl) (by simp)⟩, by kernel_rfl, trivial⟩ (.tuple #[.agg #[.slice A6 x.spots.length c7, .slice A8 x.edges.length c9], .int .i64 0]) rfl ⟨A6, c7, A8, c9, by rw [hXl], S.pick [0, 3, 4] (by decide)⟩
              · skip
                obtain ⟨rfl, rfl⟩ := Prod.mk.inj (hs.symm.trans (sentP_over hc hed hs0 (by decide) hcan ht21))
                refine l_do F rfl rfl (op_pure F (v0 := .bool (((addP ed.c1 am).2 : Int) != (0 : Int))) (v := .bool true) (by kernel_rfl) (neqT ht21) fun a F => ?_)
                refine l_then ?_
                refine c_t F rfl ?_
                refine s_reg ?_
                refine l_pure 2 (fun L => (77, .int .i64 ((addP ed.c1 am).2)) :: (76, .agg #[.slice none 0 0, .slice none 0 0]) :: L) F (by kernel_rfl) fun a F => ?_
                refine l_do F rfl rfl (op_storeB S 2 _ _ _ b2 0 (.agg #[.slice none 0 0, .slice none 0 0]) F rfl rfl (by kernel_rfl) (by kernel_rfl) (by kernel_rfl) (by kernel_rfl) (by kernel_rfl) fun z S a F => ?_)
                refine l_pure 1 (fun L => (9, .int .i64 ((addP ed.c1 am).2)) :: L) F (by kernel_rfl) fun a F => ?_
                refine l_then ?_
                refine wp_ret ?_
                refine then_r (?_)
                exact fin F [.cell 8 32, .tmp 9] [.agg #[.slice none 0 0, .slice none 0 0], .int .i64 ((addP ed.c1 am).2)] rfl ⟨⟨_, by kernel_rfl, resK S 2 (cs := [.slice none 0 0, .slice none 0 0]) rfl (by kernel_rfl) (by kernel_rfl) (by simp)⟩, by kernel_rfl, trivial⟩ (.tuple #[.agg #[.slice none 0 0, .slice none 0 0], .int .i64 ((addP ed.c1 am).2)]) rfl ⟨none, 0, none, 0, rfl, ((S.nilRow 107 2).nilRow 62 8).pick [0, 6, 7] (by decide)⟩
        · skip
          skip
          refine l_do F rfl rfl (op_fn F (by kernel_rfl) (side_at hs0 _) ?_)
          rintro e z ⟨rfl, hb⟩
          have S := S.grow hb
          refine ⟨_, rfl, ?_⟩
          intro a F
          refine l_pure 1 (fun L => (11, .int .i64 1) :: L) F (by kernel_rfl) fun a F => ?_
          refine l_then ?_
          refine wp_seq ?_
          refine s_reg ?_
          refine l_pure 2 (fun L => (40, .bool false) :: (39, .int .i64 1) :: L) F (by kernel_rfl) fun a F => ?_
          refine l_then ?_
          refine c_f F rfl ?_
          refine wp_skip ?_
          refine then_n ?_
          refine wp_seq ?_
          have S := S.pushEmp.pushEmp.pushEmp
          refine region_gx (fun D => fun ((A23, c24, A25, c26, b27) : Option Addr × Nat × Option Addr × Nat × Nat) => [rest w (· < w.heap.size), box b1 32 [.slice As x.spots.length cs, .slice Ae x.edges.length ce], box b2 32 [.slice none 0 0, .slice none 0 0], bif D 2 then row 107 2 (.slice A23 x.spots.length c24) x.spots.length (x.spots.flatMap spC) else emp, bif D 5 then row 62 8 (.slice A25 x.edges.length c26) x.edges.length (x.edges.flatMap edC) else emp, bif D 8 then box b27 32 [.slice A23 x.spots.length c24, .slice A25 x.edges.length c26] else (bif D 7 then box b27 32 [.slice none 0 0, .slice none 0 0] else emp)]) (fun ((A23, c24, A25, c26, b27) : Option Addr × Nat × Option Addr × Nat × Nat) => [.pointer (some ⟨b1, 0, none⟩), .slice As x.spots.length cs, .slice A23 x.spots.length c24, .pointer (some ⟨b1, 1, none⟩), .slice Ae x.edges.length ce, .slice A25 x.edges.length c26, .agg #[.slice A23 x.spots.length c24, .slice A25 x.edges.length c26], .pointer (some ⟨b27, 0, none⟩), undef]) [(1, [], [2, 5, 8]), (2, [1], [5, 8]), (4, [], [5, 8]), (5, [1, 2, 4], [8]), (7, [], [8]), (8, [1, 2, 4, 5, 7], [])] (none, 0, none, 0, 0) rfl (by kernel_rfl) (by kernel_rfl) F S.drew ?_ ?_ ?_ ?_ ?_
          · rintro ⟨A23, c24, A25, c26, b27⟩; rfl
          · rintro ⟨A23, c24, A25, c26, b27⟩; kernel_rfl
          · intro D D' x h
            obtain ⟨A23, c24, A25, c26, b27⟩ := x
            simp only [h 2 (by decide), h 5 (by decide), h 7 (by decide), h 8 (by decide)]
          · refine ⟨?_, ?_⟩
            · refine ⟨_, rfl, rfl, by kernel_rfl, ?_⟩
              rintro D ⟨A23, c24, A25, c26, b27⟩ a z S F
              refine ⟨by kernel_rfl, ?_⟩
              exact op_load _ _ (some ⟨b1, 0, none⟩) 0 (.slice As x.spots.length cs) F rfl (by kernel_rfl) (by kernel_rfl) (cBox S 1 rfl (j := 0) rfl) (⟨(A23, c24, A25, c26, b27), rfl, (SameB.refl _ _ rfl), S⟩)
            refine ⟨?_, ?_⟩
            · refine ⟨_, rfl, rfl, by kernel_rfl, ?_⟩
              rintro D ⟨A23, c24, A25, c26, b27⟩ a z S F
              refine ⟨by kernel_rfl, ?_⟩
              refine op_fn F (by kernel_rfl) (cloneS8_any _ As cs x.spots (h.move S rfl).s hl1) ?_
              rintro e z ⟨y28, y29, rfl, g⟩
              have S := S.fillThing 3 rfl g
              exact ⟨_, rfl, (y28, y29, A25, c26, b27), rfl, ⟨rfl, rfl, trivial, rfl, rfl, trivial, trivial, rfl, trivial, trivial⟩, S⟩
            refine ⟨?_, ?_⟩
            · refine ⟨_, rfl, rfl, by kernel_rfl, ?_⟩
              rintro D ⟨A23, c24, A25, c26, b27⟩ a z S F
              refine ⟨by kernel_rfl, ?_⟩
              exact op_load _ _ (some ⟨b1, 0, none⟩) 1 (.slice Ae x.edges.length ce) F rfl (by kernel_rfl) (by kernel_rfl) (cBox S 1 rfl (j := 1) rfl) (⟨(A23, c24, A25, c26, b27), rfl, (SameB.refl _ _ rfl), S⟩)
            refine ⟨?_, ?_⟩
            · refine ⟨_, rfl, rfl, by kernel_rfl, ?_⟩
              rintro D ⟨A23, c24, A25, c26, b27⟩ a z S F
              refine ⟨by kernel_rfl, ?_⟩
              refine op_fn F (by kernel_rfl) (cloneE8_any _ Ae ce x.edges (h.move S rfl).e hl2) ?_
              rintro e z ⟨y32, y33, rfl, g⟩
              have S := S.fillThing 4 rfl g
              exact ⟨_, rfl, (A23, c24, y32, y33, b27), rfl, ⟨rfl, rfl, rfl, rfl, rfl, trivial, trivial, rfl, trivial, trivial⟩, S⟩
            refine ⟨?_, ?_⟩
            · refine ⟨_, rfl, rfl, by kernel_rfl, ?_⟩
              rintro D ⟨A23, c24, A25, c26, b27⟩ a z S F
              refine ⟨by kernel_rfl, ?_⟩
              exact op_allocF S 5 rfl _ (.agg #[.slice none 0 0, .slice none 0 0]) rfl (by kernel_rfl) fun y36 z S => ⟨(A23, c24, A25, c26, y36), rfl, ⟨rfl, rfl, rfl, rfl, rfl, rfl, rfl, trivial, trivial, trivial⟩, S⟩
            refine ⟨?_, ?_⟩
            · refine ⟨_, rfl, rfl, by kernel_rfl, ?_⟩
              rintro D ⟨A23, c24, A25, c26, b27⟩ a z S F
              refine ⟨by kernel_rfl, ?_⟩
              exact op_storeB S 5 _ _ _ b27 0 (.agg #[.slice A23 x.spots.length c24, .slice A25 x.edges.length c26]) F rfl rfl (by kernel_rfl) (by kernel_rfl) (by kernel_rfl) (by kernel_rfl) (by kernel_rfl) fun z S => ⟨(A23, c24, A25, c26, b27), rfl, (SameB.refl _ _ rfl), S⟩
            trivial
          · rintro ⟨A23, c24, A25, c26, b27⟩ a z F S
            have F := F.sub (l := [(1, .int .i64 (k : Nat)), (3, .int .u64 am), (8, .pointer (some ⟨b2, 0, none⟩)), (11, .int .i64 1), (12, .pointer (some ⟨b27, 0, none⟩))]) ⟨by kernel_rfl, by kernel_rfl, by kernel_rfl, by kernel_rfl, by kernel_rfl, trivial⟩
            have S : Sat w z [rest w (· < w.heap.size), box b1 32 [.slice As x.spots.length cs, .slice Ae x.edges.length ce], box b2 32 [.slice none 0 0, .slice none 0 0], row 107 2 (.slice A23 x.spots.length c24) x.spots.length (x.spots.flatMap spC), row 62 8 (.slice A25 x.edges.length c26) x.edges.length (x.edges.flatMap edC), box b27 32 [.slice A23 x.spots.length c24, .slice A25 x.edges.length c26]] := S
            refine then_n ?_
            refine s_reg ?_
            refine l_pure 1 (fun L => (49, .pointer (some ⟨b27, 1, none⟩)) :: L) F (by kernel_rfl) fun a F => ?_
            refine l_do F rfl rfl (op_load _ _ (some ⟨b27, 0, none⟩) 1 (.slice A25 x.edges.length c26) F rfl (by kernel_rfl) (by kernel_rfl) (cBox S 5 rfl (j := 1) rfl) (fun a F => ?_))
            refine l_pure 1 (fun L => (51, .int .i64 (k : Nat)) :: L) F (by kernel_rfl) fun a F => ?_
            refine l_do F rfl rfl (op_index _ 62 _ _ A25 x.edges.length c26 k 8 .i64 F rfl (by kernel_rfl) (by kernel_rfl) (by kernel_rfl) (by kernel_rfl) (get_lt hed) (row_some S 4 rfl (m := k) (get_lt hed)) (fun a F => ?_))
            refine l_pure 1 (fun L => (13, ptrA A25 (k * 8)) :: L) F (by kernel_rfl) fun a F => ?_
            refine l_then ?_
            refine wp_seq ?_
            refine s_reg ?_
            refine l_pure 2 (fun L => (54, .int .i64 1) :: (53, ptrA A25 (k * 8)) :: L) F (by kernel_rfl) fun a F => ?_
            refine l_do F rfl rfl (op_nilA _ A25 (k * 8) F rfl (by kernel_rfl) (row_some S 4 rfl (m := k) (get_lt hed)) (fun a F => ?_))
            refine l_do F rfl rfl (op_field _ _ _ A25 (k * 8) 2 F rfl (by kernel_rfl) (by kernel_rfl) (row_some S 4 rfl (m := k) (get_lt hed)) (fun a F => ?_))
            refine l_do F rfl rfl (op_indexArr _ 26 _ _ A25 (k * 8 + 2) 2 1 1 .i64 F rfl (by kernel_rfl) (by kernel_rfl) (by kernel_rfl) (by kernel_rfl) (by decide) (row_some S 4 rfl (m := k) (get_lt hed)) (fun a F => ?_))
            refine l_do F rfl rfl (op_load _ _ A25 (k * 8 + 3) (.int .u64 ed.c1) F rfl (by kernel_rfl) (by kernel_rfl) (cRec S 4 edC_len rfl 3 hed rfl) (fun a F => ?_))
            refine l_pure 1 (fun L => (59, .int .u64 am) :: L) F (by kernel_rfl) fun a F => ?_
            by_cases ht37 : (ed.c1 : Int) < (am : Int)
            · skip
              obtain ⟨rfl, rfl⟩ := Prod.mk.inj (hs.symm.trans (sentP_room hc hed hs0 (by decide) ht37))
              refine l_do F rfl rfl (op_pure F (v0 := .bool (decide ((ed.c1 : Int) < (am : Int)))) (v := .bool true) (by kernel_rfl) (lssT ht37) fun a F => ?_)
              refine l_then ?_
              refine c_t F rfl ?_
              refine s_reg ?_
              refine l_pure 1 (fun L => (61, .agg #[.slice none 0 0, .slice none 0 0]) :: L) F (by kernel_rfl) fun a F => ?_
              refine l_do F rfl rfl (op_storeB S 2 _ _ _ b2 0 (.agg #[.slice none 0 0, .slice none 0 0]) F rfl rfl (by kernel_rfl) (by kernel_rfl) (by kernel_rfl) (by kernel_rfl) (by kernel_rfl) fun z S a F => ?_)
              refine l_pure 1 (fun L => (9, .int .i64 28) :: L) F (by kernel_rfl) fun a F => ?_
              refine l_then ?_
              refine wp_ret ?_
              refine then_r (?_)
              exact fin F [.cell 8 32, .tmp 9] [.agg #[.slice none 0 0, .slice none 0 0], .int .i64 28] rfl ⟨⟨_, by kernel_rfl, resK S 2 (cs := [.slice none 0 0, .slice none 0 0]) rfl (by kernel_rfl) (by kernel_rfl) (by simp)⟩, by kernel_rfl, trivial⟩ (.tuple #[.agg #[.slice none 0 0, .slice none 0 0], .int .i64 28]) rfl ⟨none, 0, none, 0, rfl, ((S.nilRow 107 2).nilRow 62 8).pick [0, 6, 7] (by decide)⟩
            · skip
              have hcan := ht37
              refine l_do F rfl rfl (op_pure F (v0 := .bool (decide ((ed.c1 : Int) < (am : Int)))) (v := .bool false) (by kernel_rfl) (lssF ht37) fun a F => ?_)
              refine l_then ?_
              refine c_f F rfl ?_
              refine wp_skip ?_
              refine then_n ?_
              refine s_reg ?_
              refine l_pure 3 (fun L => (65, .int .i64 0) :: (64, .int .i64 1) :: (63, ptrA A25 (k * 8)) :: L) F (by kernel_rfl) fun a F => ?_
              refine l_do F rfl rfl (op_nilA _ A25 (k * 8) F rfl (by kernel_rfl) (row_some S 4 rfl (m := k) (get_lt hed)) (fun a F => ?_))
              refine l_do F rfl rfl (op_field _ _ _ A25 (k * 8) 2 F rfl (by kernel_rfl) (by kernel_rfl) (row_some S 4 rfl (m := k) (get_lt hed)) (fun a F => ?_))
              refine l_do F rfl rfl (op_indexArr _ 26 _ _ A25 (k * 8 + 2) 2 0 1 .i64 F rfl (by kernel_rfl) (by kernel_rfl) (by kernel_rfl) (by kernel_rfl) (by decide) (row_some S 4 rfl (m := k) (get_lt hed)) (fun a F => ?_))
              refine l_do F rfl rfl (op_load _ _ A25 (k * 8 + 2) (.int .u64 ed.c0) F rfl (by kernel_rfl) (by kernel_rfl) (cRec S 4 edC_len rfl 2 hed rfl) (fun a F => ?_))
              refine l_pure 1 (fun L => (70, .int .u64 am) :: L) F (by kernel_rfl) fun a F => ?_
              refine l_do F rfl rfl (op_fn F (by kernel_rfl) (add_any ed.c0 am ⟨by omega, by omega⟩ ⟨by omega, by omega⟩ _) ?_)
              rintro e z ⟨rfl, hw⟩
              first | subst hw | (have hw := hw.symm; subst hw)
              refine ⟨_, rfl, ?_⟩
              intro a F
              refine l_pure 5 (fun L => (15, .int .i64 ((addP ed.c0 am).2)) :: (14, .int .u64 ((addP ed.c0 am).1)) :: (73, .int .i64 ((addP ed.c0 am).2)) :: (72, .int .u64 ((addP ed.c0 am).1)) :: (62, .tuple #[.int .u64 ((addP ed.c0 am).1), .int .i64 ((addP ed.c0 am).2)]) :: L) F (by kernel_rfl) fun a F => ?_
              refine l_then ?_
              refine wp_seq ?_
              refine s_reg ?_
              refine l_pure 1 (fun L => (74, .int .i64 ((addP ed.c0 am).2)) :: L) F (by kernel_rfl) fun a F => ?_
              by_cases ht38 : ((addP ed.c0 am).2 : Int) = (0 : Int)
              · skip
                have hov := ht38
                obtain ⟨rfl, rfl⟩ := Prod.mk.inj (hs.symm.trans (sentP_ok hc hed hs0 (by decide) hcan hov))
                refine l_do F rfl rfl (op_pure F (v0 := .bool (((addP ed.c0 am).2 : Int) != (0 : Int))) (v := .bool false) (by kernel_rfl) (neqF ht38) fun a F => ?_)
                refine l_then ?_
                refine c_f F rfl ?_
                refine wp_skip ?_
                refine then_n ?_
                refine wp_seq ?_
                have hn39 : Option.isSome A25 = true := (row_some S 4 rfl (m := k) (get_lt hed))
                refine region_gx (fun D => fun (_ : Unit) => [rest w (· < w.heap.size), box b1 32 [.slice As x.spots.length cs, .slice Ae x.edges.length ce], box b2 32 [.slice none 0 0, .slice none 0 0], row 107 2 (.slice A23 x.spots.length c24) x.spots.length (x.spots.flatMap spC), bif D 21 then row 62 8 (.slice A25 x.edges.length c26) x.edges.length (((x.edges.set k (⟨ed.a, ed.b, ed.c0, ed.c1 - am, ed.b0, ed.r0, ed.b1, ed.r1⟩ : Edg)).set k (⟨ed.a, ed.b, (addP ed.c0 am).1, ed.c1 - am, ed.b0, ed.r0, ed.b1, ed.r1⟩ : Edg)).flatMap edC) else (bif D 17 then row 62 8 (.slice A25 x.edges.length c26) x.edges.length ((x.edges.set k (⟨ed.a, ed.b, ed.c0, ed.c1 - am, ed.b0, ed.r0, ed.b1, ed.r1⟩ : Edg)).flatMap edC) else row 62 8 (.slice A25 x.edges.length c26) x.edges.length (x.edges.flatMap edC)), box b27 32 [.slice A23 x.spots.length c24, .slice A25 x.edges.length c26]]) (fun (_ : Unit) => [ptrA A25 (k * 8), .int .i64 1, ptrA A25 (k * 8), .int .i64 1, .int .i64 0, ptrA A25 (k * 8), .int .i64 1, ptrA A25 (k * 8), ptrA A25 (k * 8 + 2), ptrA A25 (k * 8 + 3), .int .u64 ed.c1, .int .u64 am, .int .u64 (ed.c1 - am), .int .u64 ((addP ed.c0 am).1), ptrA A25 (k * 8), ptrA A25 (k * 8 + 2), ptrA A25 (k * 8 + 3), undef, ptrA A25 (k * 8), ptrA A25 (k * 8 + 2), ptrA A25 (k * 8 + 2), undef]) [(7, [], [8, 9, 10, 12, 16, 17, 20, 21]), (8, [7], [9, 10, 12, 16, 17, 20, 21]), (9, [7, 8], [10, 12, 16, 17, 20, 21]), (10, [7, 8, 9], [12, 16, 17, 20, 21]), (12, [7, 8, 9, 10], [16, 17, 20, 21]), (14, [], [15, 16, 17, 20, 21]), (15, [14], [16, 17, 20, 21]), (16, [7, 8, 9, 10, 12, 14, 15], [17, 20, 21]), (17, [7, 8, 9, 10, 12, 14, 15, 16], [20, 21]), (18, [], [19, 20, 21]), (19, [18], [20, 21]), (20, [7, 8, 9, 10, 12, 14, 15, 16, 17, 18, 19], [21]), (21, [7, 8, 9, 10, 12, 14, 15, 16, 17, 18, 19, 20], [])] () rfl (by kernel_rfl) (by kernel_rfl) F S.drew ?_ ?_ ?_ ?_ ?_
                · rintro ⟨⟩; rfl
                · rintro ⟨⟩; kernel_rfl
                · intro D D' x h
                  cases x
                  simp only [h 17 (by decide), h 21 (by decide)]
                · refine ⟨?_, ?_⟩
                  · refine ⟨_, rfl, rfl, by kernel_rfl, ?_⟩
                    rintro D ⟨⟩ a z S F
                    refine ⟨by kernel_rfl, ?_⟩
                    exact op_nilA _ A25 (k * 8) F rfl (by kernel_rfl) hn39 (⟨(), rfl, (SameB.refl _ _ rfl), S⟩)
                  refine ⟨?_, ?_⟩
                  · refine ⟨_, rfl, rfl, by kernel_rfl, ?_⟩
                    rintro D ⟨⟩ a z S F
                    refine ⟨by kernel_rfl, ?_⟩
                    exact op_field _ _ _ A25 (k * 8) 2 F rfl (by kernel_rfl) (by kernel_rfl) hn39 (⟨(), rfl, (SameB.refl _ _ rfl), S⟩)
                  refine ⟨?_, ?_⟩
                  · refine ⟨_, rfl, rfl, by kernel_rfl, ?_⟩
                    rintro D ⟨⟩ a z S F
                    refine ⟨by kernel_rfl, ?_⟩
                    exact op_indexArr _ 26 _ _ A25 (k * 8 + 2) 2 1 1 .i64 F rfl (by kernel_rfl) (by kernel_rfl) (by kernel_rfl) (by kernel_rfl) (by decide) hn39 (⟨(), rfl, (SameB.refl _ _ rfl), S⟩)
                  refine ⟨?_, ?_⟩
                  · refine ⟨_, rfl, rfl, by kernel_rfl, ?_⟩
                    rintro D ⟨⟩ a z S F
                    refine ⟨by kernel_rfl, ?_⟩
                    exact op_load _ _ A25 (k * 8 + 3) (.int .u64 ed.c1) F rfl (by kernel_rfl) (by kernel_rfl) (cRec S 4 edC_len rfl 3 hed rfl) (⟨(), rfl, (SameB.refl _ _ rfl), S⟩)
                  refine ⟨?_, ?_⟩
                  · refine ⟨_, rfl, rfl, by kernel_rfl, ?_⟩
                    rintro D ⟨⟩ a z S F
                    refine ⟨by kernel_rfl, ?_⟩
                    exact op_pure F (v0 := .int .u64 (IntKind.wrap .u64 (ed.c1 - am))) (v := .int .u64 (ed.c1 - am)) (by kernel_rfl) (wr_u64 (by omega) (by omega)) ⟨(), rfl, (SameB.refl _ _ rfl), S⟩
                  refine ⟨?_, ?_⟩
                  · refine ⟨_, rfl, rfl, by kernel_rfl, ?_⟩
                    rintro D ⟨⟩ a z S F
                    refine ⟨by kernel_rfl, ?_⟩
                    exact op_nilA _ A25 (k * 8) F rfl (by kernel_rfl) hn39 (⟨(), rfl, (SameB.refl _ _ rfl), S⟩)
                  refine ⟨?_, ?_⟩
                  · refine ⟨_, rfl, rfl, by kernel_rfl, ?_⟩
                    rintro D ⟨⟩ a z S F
                    refine ⟨by kernel_rfl, ?_⟩
                    exact op_field _ _ _ A25 (k * 8) 2 F rfl (by kernel_rfl) (by kernel_rfl) hn39 (⟨(), rfl, (SameB.refl _ _ rfl), S⟩)
                  refine ⟨?_, ?_⟩
                  · refine ⟨_, rfl, rfl, by kernel_rfl, ?_⟩
                    rintro D ⟨⟩ a z S F
                    refine ⟨by kernel_rfl, ?_⟩
                    exact op_indexArr _ 26 _ _ A25 (k * 8 + 2) 2 1 1 .i64 F rfl (by kernel_rfl) (by kernel_rfl) (by kernel_rfl) (by kernel_rfl) (by decide) hn39 (⟨(), rfl, (SameB.refl _ _ rfl), S⟩)
                  refine ⟨?_, ?_⟩
                  · refine ⟨_, rfl, rfl, by kernel_rfl, ?_⟩
                    rintro D ⟨⟩ a z S F
                    refine ⟨by kernel_rfl, ?_⟩
                    exact op_storeRec S 4 _ _ _ A25 k 8 3 (.int .u64 (ed.c1 - am)) (⟨ed.a, ed.b, ed.c0, ed.c1 - am, ed.b0, ed.r0, ed.b1, ed.r1⟩ : Edg) F edC_len hed rfl rfl (by kernel_rfl) (by kernel_rfl) (by kernel_rfl) (by kernel_rfl) (by kernel_rfl) (by kernel_rfl) (by kernel_rfl) fun z S => ⟨(), rfl, (SameB.refl _ _ rfl), S⟩
                  refine ⟨?_, ?_⟩
                  · refine ⟨_, rfl, rfl, by kernel_rfl, ?_⟩
                    rintro D ⟨⟩ a z S F
                    refine ⟨by kernel_rfl, ?_⟩
                    exact op_nilA _ A25 (k * 8) F rfl (by kernel_rfl) hn39 (⟨(), rfl, (SameB.refl _ _ rfl), S⟩)
                  refine ⟨?_, ?_⟩
                  · refine ⟨_, rfl, rfl, by kernel_rfl, ?_⟩
                    rintro D ⟨⟩ a z S F
                    refine ⟨by kernel_rfl, ?_⟩
                    exact op_field _ _ _ A25 (k * 8) 2 F rfl (by kernel_rfl) (by kernel_rfl) hn39 (⟨(), rfl, (SameB.refl _ _ rfl), S⟩)
                  refine ⟨?_, ?_⟩
                  · refine ⟨_, rfl, rfl, by kernel_rfl, ?_⟩
                    rintro D ⟨⟩ a z S F
                    refine ⟨by kernel_rfl, ?_⟩
                    exact op_indexArr _ 26 _ _ A25 (k * 8 + 2) 2 0 1 .i64 F rfl (by kernel_rfl) (by kernel_rfl) (by kernel_rfl) (by kernel_rfl) (by decide) hn39 (⟨(), rfl, (SameB.refl _ _ rfl), S⟩)
                  refine ⟨?_, ?_⟩
                  · refine ⟨_, rfl, rfl, by kernel_rfl, ?_⟩
                    rintro D ⟨⟩ a z S F
                    refine ⟨by kernel_rfl, ?_⟩
                    exact op_storeRec S 4 _ _ _ A25 k 8 2 (.int .u64 ((addP ed.c0 am).1)) (⟨ed.a, ed.b, (addP ed.c0 am).1, ed.c1 - am, ed.b0, ed.r0, ed.b1, ed.r1⟩ : Edg) F edC_len (set_at hed) rfl rfl (by kernel_rfl) (by kernel_rfl) (by kernel_rfl) (by kernel_rfl) (by kernel_rfl) (by kernel_rfl) (by kernel_rfl) fun z S => ⟨(), rfl, (SameB.refl _ _ rfl), S⟩
                  trivial
                · rintro ⟨⟩ a z F S
                  have F := F.sub (l := [(8, .pointer (some ⟨b2, 0, none⟩)), (12, .pointer (some ⟨b27, 0, none⟩))]) ⟨by kernel_rfl, by kernel_rfl, trivial⟩
                  have S : Sat w z [rest w (· < w.heap.size), box b1 32 [.slice As x.spots.length cs, .slice Ae x.edges.length ce], box b2 32 [.slice none 0 0, .slice none 0 0], row 107 2 (.slice A23 x.spots.length c24) x.spots.length (x.spots.flatMap spC), row 62 8 (.slice A25 x.edges.length c26) x.edges.length (((x.edges.set k (⟨ed.a, ed.b, ed.c0, ed.c1 - am, ed.b0, ed.r0, ed.b1, ed.r1⟩ : Edg)).set k (⟨ed.a, ed.b, (addP ed.c0 am).1, ed.c1 - am, ed.b0, ed.r0, ed.b1, ed.r1⟩ : Edg)).flatMap edC), box b27 32 [.slice A23 x.spots.length c24, .slice A25 x.edges.length c26]] := S
                  refine then_n ?_
                  refine s_reg ?_
                  refine l_do F rfl rfl (op_loadK _ _ (some ⟨b27, 0, none⟩) 0 [.slice A23 x.spots.length c24, .slice A25 x.edges.length c26] F rfl (by kernel_rfl) (by kernel_rfl) (by kernel_rfl) (by simp) (cBoxK S 5 rfl 0 (by kernel_rfl)) (fun a F => ?_))
                  refine l_do F rfl rfl (op_storeB S 2 _ _ _ b2 0 (.agg #[.slice A23 x.spots.length c24, .slice A25 x.edges.length c26]) F rfl rfl (by kernel_rfl) (by kernel_rfl) (by kernel_rfl) (by kernel_rfl) (by kernel_rfl) fun z S a F => ?_)
                  refine l_pure 1 (fun L => (9, .int .i64 0) :: L) F (by kernel_rfl) fun a F => ?_
                  refine l_then ?_
                  refine wp_ret ?_
                  have hX : ((x.edges.set k (⟨ed.a, ed.b, ed.c0, ed.c1 - am, ed.b0, ed.r0, ed.b1, ed.r1⟩ : Edg)).set k (⟨ed.a, ed.b, (addP ed.c0 am).1, ed.c1 - am, ed.b0, ed.r0, ed.b1, ed.r1⟩ : Edg)) = x.edges.set k (ed.sent 1 am) := by rw [List.set_set, Edg.sent1 hov]
                  have hXl : x.edges.length = (x.edges.set k (ed.sent 1 am)).length := (List.length_set ..).symm
                  have S := S.rowEq 4 hX hXl rfl
                  exact fin F [.cell 8 32, .tmp 9] [.agg #[.slice A23 x.spots.length c24, .slice A25 x.edges.length c26], .int .i64 0] rfl ⟨⟨_, by kernel_rfl, resK S 2 (cs := [.slice A23 x.spots.length c24, .slice A25 x.edges.length c26]) rfl (by kernel_rfl) (by kernel_rfl) (by simp)⟩, by kernel_rfl, trivial⟩ (.tuple #[.agg #[.slice A23 x.spots.length c24, .slice A25 x.edges.length c26], .int .i64 0]) rfl ⟨A23, c24, A25, c26, by rw [hXl], S.pick [0, 3, 4] (by decide)⟩
              · skip
                obtain ⟨rfl, rfl⟩ := Prod.mk.inj (hs.symm.trans (sentP_over hc hed hs0 (by decide) hcan ht38))
                refine l_do F rfl rfl (op_pure F (v0 := .bool (((addP ed.c0 am).2 : Int) != (0 : Int))) (v := .bool true) (by kernel_rfl) (neqT ht38) fun a F => ?_)
                refine l_then ?_
                refine c_t F rfl ?_
                refine s_reg ?_
                refine l_pure 2 (fun L => (77, .int .i64 ((addP ed.c0 am).2)) :: (76, .agg #[.slice none 0 0, .slice none 0 0]) :: L) F (by kernel_rfl) fun a F => ?_
                refine l_do F rfl rfl (op_storeB S 2 _ _ _ b2 0 (.agg #[.slice none 0 0, .slice none 0 0]) F rfl rfl (by kernel_rfl) (by kernel_rfl) (by kernel_rfl) (by kernel_rfl) (by kernel_rfl) fun z S a F => ?_)
                refine l_pure 1 (fun L => (9, .int .i64 ((addP ed.c0 am).2)) :: L) F (by kernel_rfl) fun a F => ?_
                refine l_then ?_
                refine wp_ret ?_
                refine then_r (?_)
                exact fin F [.cell 8 32, .tmp 9] [.agg #[.slice none 0 0, .slice none 0 0], .int .i64 ((addP ed.c0 am).2)] rfl ⟨⟨_, by kernel_rfl, resK S 2 (cs := [.slice none 0 0, .slice none 0 0]) rfl (by kernel_rfl) (by kernel_rfl) (by simp)⟩, by kernel_rfl, trivial⟩ (.tuple #[.agg #[.slice none 0 0, .slice none 0 0], .int .i64 ((addP ed.c0 am).2)]) rfl ⟨none, 0, none, 0, rfl, ((S.nilRow 107 2).nilRow 62 8).pick [0, 6, 7] (by decide)⟩
        · skip
          obtain ⟨rfl, rfl⟩ := Prod.mk.inj (hs.symm.trans (sentP_none hc hed am hs0))
          refine l_do F rfl rfl (op_fn F (by kernel_rfl) (side_at hs0 _) ?_)
          rintro e z ⟨rfl, hb⟩
          have S := S.grow hb
          refine ⟨_, rfl, ?_⟩
          intro a F
          refine l_pure 1 (fun L => (11, .int .i64 (-1)) :: L) F (by kernel_rfl) fun a F => ?_
          refine l_then ?_
          refine wp_seq ?_
          refine s_reg ?_
          refine l_pure 2 (fun L => (40, .bool true) :: (39, .int .i64 (-1)) :: L) F (by kernel_rfl) fun a F => ?_
          refine l_then ?_
          refine c_t F rfl ?_
          refine s_reg ?_
          refine l_pure 1 (fun L => (41, .agg #[.slice none 0 0, .slice none 0 0]) :: L) F (by kernel_rfl) fun a F => ?_
          refine l_do F rfl rfl (op_storeB S 2 _ _ _ b2 0 (.agg #[.slice none 0 0, .slice none 0 0]) F rfl rfl (by kernel_rfl) (by kernel_rfl) (by kernel_rfl) (by kernel_rfl) (by kernel_rfl) fun z S a F => ?_)
          refine l_pure 1 (fun L => (9, .int .i64 1) :: L) F (by kernel_rfl) fun a F => ?_
          refine l_then ?_
          refine wp_ret ?_
          refine then_r (?_)
          exact fin F [.cell 8 32, .tmp 9] [.agg #[.slice none 0 0, .slice none 0 0], .int .i64 1] rfl ⟨⟨_, by kernel_rfl, resK S 2 (cs := [.slice none 0 0, .slice none 0 0]) rfl (by kernel_rfl) (by kernel_rfl) (by simp)⟩, by kernel_rfl, trivial⟩ (.tuple #[.agg #[.slice none 0 0, .slice none 0 0], .int .i64 1]) rfl ⟨none, 0, none, 0, rfl, ((S.nilRow 107 2).nilRow 62 8).pick [0, 3, 4] (by decide)⟩
  · skip
    have hc := ht3
    obtain ⟨rfl, rfl⟩ := Prod.mk.inj (hs.symm.trans (sentP_bad hc))
    refine l_do F rfl rfl (op_pure F (v0 := .bool ((chkP x : Int) != (0 : Int))) (v := .bool true) (by kernel_rfl) (neqT ht3) fun a F => ?_)
    refine l_then ?_
    refine c_t F rfl ?_
    refine s_reg ?_
    refine l_pure 2 (fun L => (21, .int .i64 (chkP x)) :: (20, .agg #[.slice none 0 0, .slice none 0 0]) :: L) F (by kernel_rfl) fun a F => ?_
    refine l_do F rfl rfl (op_storeB S 2 _ _ _ b2 0 (.agg #[.slice none 0 0, .slice none 0 0]) F rfl rfl (by kernel_rfl) (by kernel_rfl) (by kernel_rfl) (by kernel_rfl) (by kernel_rfl) fun z S a F => ?_)
    refine l_pure 1 (fun L => (9, .int .i64 (chkP x)) :: L) F (by kernel_rfl) fun a F => ?_
    refine l_then ?_
    refine wp_ret ?_
    refine then_r (?_)
    exact fin F [.cell 8 32, .tmp 9] [.agg #[.slice none 0 0, .slice none 0 0], .int .i64 (chkP x)] rfl ⟨⟨_, by kernel_rfl, resK S 2 (cs := [.slice none 0 0, .slice none 0 0]) rfl (by kernel_rfl) (by kernel_rfl) (by simp)⟩, by kernel_rfl, trivial⟩ (.tuple #[.agg #[.slice none 0 0, .slice none 0 0], .int .i64 (chkP x)]) rfl ⟨none, 0, none, 0, rfl, ((S.nilRow 107 2).nilRow 62 8).pick [0, 3, 4] (by decide)⟩
set_option maxRecDepth 100000 in
set_option maxHeartbeats 4000000 in
theorem rsent_at (w : World) (As : Option Addr) (cs : Nat) (Ae : Option Addr) (ce : Nat) (x : Wb) (h : WebAt w As cs Ae ce x) (ok : x.Ok) (eg nd am : Int) (hua : U64 am) (hl1 : x.spots.length ≤ 1000) (hl2 : x.edges.length ≤ 1000) {y : Wb} {er : Int} (hs : sentP x eg nd am = (y, er)) : Calls Try.prog 28 #[.agg #[.slice As x.spots.length cs, .slice Ae x.edges.length ce], .int .i64 eg, .int .i64 nd, .int .u64 am] w fun e w' => ∃ A1 c1 A2 c2, e = .returned (.tuple #[.agg #[.slice A1 y.spots.length c1, .slice A2 y.edges.length c2], .int .i64 er]) ∧ ((er = 0 ∧ A1 = As ∧ c1 = cs) ∨ (er ≠ 0 ∧ A1 = none ∧ c1 = 0 ∧ A2 = none ∧ c2 = 0)) ∧ Sat w w' [rest w (· < w.heap.size), row 104 8 (.slice A2 y.edges.length c2) y.edges.length (y.edges.flatMap edC)] := by
  refine enter 104 Try.func28 rfl rfl rfl fun a F => ?_
  have S := Sat.pushRest w
  refine s_reg ?_
  refine l_do F rfl rfl (op_box S _ _ (.agg #[.slice As x.spots.length cs, .slice Ae x.edges.length ce]) F rfl (by kernel_rfl) fun b1 z S a F => ?_)
  refine l_do F rfl rfl (op_alloc S _ (.agg #[.slice none 0 0, .slice none 0 0]) rfl (by kernel_rfl) fun b2 z S a F => ?_)
  refine l_pure 1 (fun L => (9, .int .i64 0) :: L) F (by kernel_rfl) fun a F => ?_
  refine l_then ?_
  refine s_reg ?_
  refine l_do F rfl rfl (op_loadK _ _ (some ⟨b1, 0, none⟩) 0 [.slice As x.spots.length cs, .slice Ae x.edges.length ce] F rfl (by kernel_rfl) (by kernel_rfl) (by kernel_rfl) (by simp) (cBoxK S 1 rfl 0 (by kernel_rfl)) (fun a F => ?_))
  refine l_do F rfl rfl (op_fn F (by kernel_rfl) (rcheck_any _ As cs Ae ce x (h.move S rfl) ok) ?_)
  rintro e z ⟨rfl, hb⟩
  have S := S.grow hb
  refine ⟨_, rfl, ?_⟩
  intro a F
  refine l_pure 1 (fun L => (10, .int .i64 (chkP x)) :: L) F (by kernel_rfl) fun a F => ?_
  refine l_then ?_
  refine wp_seq ?_
  refine s_reg ?_
  refine l_pure 1 (fun L => (19, .int .i64 (chkP x)) :: L) F (by kernel_rfl) fun a F => ?_
  by_cases ht3 : (chkP x : Int) = (0 : Int)
  · skip
    have hc := ht3
    refine l_do F rfl rfl (op_pure F (v0 := .bool ((chkP x : Int) != (0 : Int))) (v := .bool false) (by kernel_rfl) (neqF ht3) fun a F => ?_)
    refine l_then ?_
    refine c_f F rfl ?_
    refine wp_skip ?_
    refine then_n ?_
    refine wp_seq ?_
    refine s_reg ?_
    refine l_pure 1 (fun L => (23, .int .i64 eg) :: L) F (by kernel_rfl) fun a F => ?_
    by_cases ht4 : (eg : Int) < (0 : Int)
    · skip
      obtain ⟨rfl, rfl⟩ := Prod.mk.inj (hs.symm.trans (sentP_out hc (.inl ht4)))
      refine l_do F rfl rfl (op_pure F (v0 := .bool (decide ((eg : Int) < (0 : Int)))) (v := .bool true) (by kernel_rfl) (lssT ht4) fun a F => ?_)
      refine l_pure 7 (fun L => (31, .bool true) :: (30, undef) :: (29, undef) :: (28, undef) :: (27, undef) :: (26, undef) :: (25, .bool true) :: L) F (by kernel_rfl) fun a F => ?_
      refine l_then ?_
      refine c_t F rfl ?_
      refine s_reg ?_
      refine l_pure 1 (fun L => (32, .agg #[.slice none 0 0, .slice none 0 0]) :: L) F (by kernel_rfl) fun a F => ?_
      refine l_do F rfl rfl (op_storeB S 2 _ _ _ b2 0 (.agg #[.slice none 0 0, .slice none 0 0]) F rfl rfl (by kernel_rfl) (by kernel_rfl) (by kernel_rfl) (by kernel_rfl) (by kernel_rfl) fun z S a F => ?_)
      refine l_pure 1 (fun L => (9, .int .i64 1) :: L) F (by kernel_rfl) fun a F => ?_
      refine l_then ?_
      refine wp_ret ?_
      refine then_r (?_)
      exact fin F [.cell 8 25, .tmp 9] [.agg #[.slice none 0 0, .slice none 0 0], .int .i64 1] rfl ⟨⟨_, by kernel_rfl, resK S 2 (cs := [.slice none 0 0, .slice none 0 0]) rfl (by kernel_rfl) (by kernel_rfl) (by simp)⟩, by kernel_rfl, trivial⟩ (.tuple #[.agg #[.slice none 0 0, .slice none 0 0], .int .i64 1]) rfl ⟨none, 0, none, 0, rfl, .inr ⟨by first | decide | assumption, rfl, rfl, rfl, rfl⟩, (S.nilRow 104 8).pick [0, 3] (by decide)⟩
    · skip
      refine l_do F rfl rfl (op_pure F (v0 := .bool (decide ((eg : Int) < (0 : Int)))) (v := .bool false) (by kernel_rfl) (lssF ht4) fun a F => ?_)
      refine l_pure 3 (fun L => (27, .pointer (some ⟨b1, 1, none⟩)) :: (26, .int .i64 eg) :: (25, .bool false) :: L) F (by kernel_rfl) fun a F => ?_
      refine l_do F rfl rfl (op_load _ _ (some ⟨b1, 0, none⟩) 1 (.slice Ae x.edges.length ce) F rfl (by kernel_rfl) (by kernel_rfl) (cBox S 1 rfl (j := 1) rfl) (fun a F => ?_))
      refine l_pure 1 (fun L => (29, .int .i64 (x.edges.length : Nat)) :: L) F (by kernel_rfl) fun a F => ?_
      by_cases ht5 : ((x.edges.length : Nat) : Int) ≤ (eg : Int)
      · skip
        obtain ⟨rfl, rfl⟩ := Prod.mk.inj (hs.symm.trans (sentP_out hc (.inr (by omega))))
        refine l_do F rfl rfl (op_pure F (v0 := .bool (decide ((eg : Int) ≥ ((x.edges.length : Nat) : Int)))) (v := .bool true) (by kernel_rfl) (geqT ht5) fun a F => ?_)
        refine l_pure 1 (fun L => (31, .bool true) :: L) F (by kernel_rfl) fun a F => ?_
        refine l_then ?_
        refine c_t F rfl ?_
        refine s_reg ?_
        refine l_pure 1 (fun L => (32, .agg #[.slice none 0 0, .slice none 0 0]) :: L) F (by kernel_rfl) fun a F => ?_
        refine l_do F rfl rfl (op_storeB S 2 _ _ _ b2 0 (.agg #[.slice none 0 0, .slice none 0 0]) F rfl rfl (by kernel_rfl) (by kernel_rfl) (by kernel_rfl) (by kernel_rfl) (by kernel_rfl) fun z S a F => ?_)
        refine l_pure 1 (fun L => (9, .int .i64 1) :: L) F (by kernel_rfl) fun a F => ?_
        refine l_then ?_
        refine wp_ret ?_
        refine then_r (?_)
        exact fin F [.cell 8 25, .tmp 9] [.agg #[.slice none 0 0, .slice none 0 0], .int .i64 1] rfl ⟨⟨_, by kernel_rfl, resK S 2 (cs := [.slice none 0 0, .slice none 0 0]) rfl (by kernel_rfl) (by kernel_rfl) (by simp)⟩, by kernel_rfl, trivial⟩ (.tuple #[.agg #[.slice none 0 0, .slice none 0 0], .int .i64 1]) rfl ⟨none, 0, none, 0, rfl, .inr ⟨by first | decide | assumption, rfl, rfl, rfl, rfl⟩, (S.nilRow 104 8).pick [0, 3] (by decide)⟩
      · skip
        obtain ⟨k, rfl⟩ : ∃ k : Nat, eg = k := ⟨eg.toNat, by omega⟩
        obtain ⟨ed, hed⟩ : ∃ ed, x.edges[k]? = some ed := ⟨_, List.getElem?_eq_getElem (by omega)⟩
        have hok := ok.e ed (List.mem_of_getElem? hed)
        have hnb := (chk_zero hc).2.2 ed (List.mem_of_getElem? hed)
        unfold badE at hnb
        obtain ⟨hk01, hk02⟩ := hok.c0
        obtain ⟨hk11, hk12⟩ := hok.c1
        obtain ⟨hua1, hua2⟩ := hua
        refine l_do F rfl rfl (op_pure F (v0 := .bool (decide (((k : Nat) : Int) ≥ ((x.edges.length : Nat) : Int)))) (v := .bool false) (by kernel_rfl) (geqF ht5) fun a F => ?_)
        refine l_pure 1 (fun L => (31, .bool false) :: L) F (by kernel_rfl) fun a F => ?_
        refine l_then ?_
        refine c_f F rfl ?_
        refine wp_skip ?_
        refine then_n ?_
        refine s_reg ?_
        refine l_pure 1 (fun L => (11, .int .i64 (-1)) :: L) F (by kernel_rfl) fun a F => ?_
        refine l_then ?_
        refine wp_seq ?_
        refine s_reg ?_
        refine l_pure 1 (fun L => (12, .int .i64 1) :: L) F (by kernel_rfl) fun a F => ?_
        refine l_then ?_
        refine wp_block ?_
        refine wp_loop_rounds 3 (rnd ?_)
        refine wp_seq ?_
        refine s_reg ?_
        refine l_pure 2 (fun L => (34, .bool true) :: (33, .int .i64 1) :: L) F (by kernel_rfl) fun a F => ?_
        refine l_then ?_
        refine c_t F rfl ?_
        refine wp_skip ?_
        refine then_n ?_
        refine wp_seq ?_
        refine wp_block ?_
        refine s_reg ?_
        refine l_pure 1 (fun L => (37, .pointer (some ⟨b1, 1, none⟩)) :: L) F (by kernel_rfl) fun a F => ?_
        refine l_do F rfl rfl (op_load _ _ (some ⟨b1, 0, none⟩) 1 (.slice Ae x.edges.length ce) F rfl (by kernel_rfl) (by kernel_rfl) (cBox S 1 rfl (j := 1) rfl) (fun a F => ?_))
        refine l_pure 2 (fun L => (40, .int .i64 1) :: (39, .int .i64 (k : Nat)) :: L) F (by kernel_rfl) fun a F => ?_
        refine l_do F rfl rfl (op_index _ 104 _ _ Ae x.edges.length ce k 8 .i64 F rfl (by kernel_rfl) (by kernel_rfl) (by kernel_rfl) (by kernel_rfl) (get_lt hed) (recs_some h.e (m := k) (get_lt hed)) (fun a F => ?_))
        refine l_do F rfl rfl (op_field _ _ _ Ae (k * 8) 0 F rfl (by kernel_rfl) (by kernel_rfl) (recs_some h.e (m := k) (get_lt hed)) (fun a F => ?_))
        refine l_do F rfl rfl (op_indexArr _ 3 _ _ Ae (k * 8) 2 1 1 .i64 F rfl (by kernel_rfl) (by kernel_rfl) (by kernel_rfl) (by kernel_rfl) (by decide) (recs_some h.e (m := k) (get_lt hed)) (fun a F => ?_))
        refine l_do F rfl rfl (op_load _ _ Ae (k * 8 + 1) (.int .i64 ed.b) F rfl (by kernel_rfl) (by kernel_rfl) (cOld S 0 edC_len h.e rfl 1 hed rfl) (fun a F => ?_))
        refine l_pure 1 (fun L => (45, .int .i64 nd) :: L) F (by kernel_rfl) fun a F => ?_
        rcases side_cases ed nd with ⟨hs0, hq0⟩ | ⟨hs0, hq0, hq1⟩ | ⟨hs0, hq0, hq1⟩
        · skip
          skip
          refine l_do F rfl rfl (op_pure F (v0 := .bool ((ed.b : Int) == (nd : Int))) (v := .bool false) (by kernel_rfl) (eqlF (by omega)) fun a F => ?_)
          refine l_then ?_
          refine c_f F rfl ?_
          refine wp_skip ?_
          refine inb_n ?_
          refine then_n ?_
          refine wp_region_list ?_
          refine l_pure 3 (fun L => (12, .int .i64 0) :: (36, .int .i64 0) :: (35, .int .i64 1) :: L) F (by kernel_rfl) fun a F => ?_
          refine l_then ?_
          refine rnd ?_
          refine wp_seq ?_
          refine s_reg ?_
          refine l_pure 2 (fun L => (34, .bool true) :: (33, .int .i64 0) :: L) F (by kernel_rfl) fun a F => ?_
          refine l_then ?_
          refine c_t F rfl ?_
          refine wp_skip ?_
          refine then_n ?_
          refine wp_seq ?_
          refine wp_block ?_
          refine s_reg ?_
          refine l_pure 1 (fun L => (37, .pointer (some ⟨b1, 1, none⟩)) :: L) F (by kernel_rfl) fun a F => ?_
          refine l_do F rfl rfl (op_load _ _ (some ⟨b1, 0, none⟩) 1 (.slice Ae x.edges.length ce) F rfl (by kernel_rfl) (by kernel_rfl) (cBox S 1 rfl (j := 1) rfl) (fun a F => ?_))
          refine l_pure 2 (fun L => (40, .int .i64 0) :: (39, .int .i64 (k : Nat)) :: L) F (by kernel_rfl) fun a F => ?_
          refine l_do F rfl rfl (op_index _ 104 _ _ Ae x.edges.length ce k 8 .i64 F rfl (by kernel_rfl) (by kernel_rfl) (by kernel_rfl) (by kernel_rfl) (get_lt hed) (recs_some h.e (m := k) (get_lt hed)) (fun a F => ?_))
          refine l_do F rfl rfl (op_field _ _ _ Ae (k * 8) 0 F rfl (by kernel_rfl) (by kernel_rfl) (recs_some h.e (m := k) (get_lt hed)) (fun a F => ?_))
          refine l_do F rfl rfl (op_indexArr _ 3 _ _ Ae (k * 8) 2 0 1 .i64 F rfl (by kernel_rfl) (by kernel_rfl) (by kernel_rfl) (by kernel_rfl) (by decide) (recs_some h.e (m := k) (get_lt hed)) (fun a F => ?_))
          refine l_do F rfl rfl (op_load _ _ Ae (k * 8) (.int .i64 ed.a) F rfl (by kernel_rfl) (by kernel_rfl) (cOld S 0 edC_len h.e rfl 0 hed rfl) (fun a F => ?_))
          refine l_pure 1 (fun L => (45, .int .i64 nd) :: L) F (by kernel_rfl) fun a F => ?_
          refine l_do F rfl rfl (op_pure F (v0 := .bool ((ed.a : Int) == (nd : Int))) (v := .bool true) (by kernel_rfl) (eqlT (by omega)) fun a F => ?_)
          refine l_then ?_
          refine c_t F rfl ?_
          refine wp_region_list ?_
          refine l_pure 2 (fun L => (11, .int .i64 0) :: (47, .int .i64 0) :: L) F (by kernel_rfl) fun a F => ?_
          refine l_nil (inb_n ?_)
          refine then_n ?_
          refine wp_region_list ?_
          refine l_pure 3 (fun L => (12, .int .i64 (-1)) :: (36, .int .i64 (-1)) :: (35, .int .i64 0) :: L) F (by kernel_rfl) fun a F => ?_
          refine l_then ?_
          refine rnd ?_
          refine wp_seq ?_
          refine s_reg ?_
          refine l_pure 2 (fun L => (34, .bool false) :: (33, .int .i64 (-1)) :: L) F (by kernel_rfl) fun a F => ?_
          refine l_then ?_
          refine c_f F rfl ?_
          refine wp_exit ?_
          refine then_x ?_
          refine then_x ?_
          refine inb_x ?_
          refine then_n ?_
          refine wp_seq ?_
          refine s_reg ?_
          refine l_pure 2 (fun L => (49, .bool false) :: (48, .int .i64 0) :: L) F (by kernel_rfl) fun a F => ?_
          refine l_then ?_
          refine c_f F rfl ?_
          refine wp_skip ?_
          refine then_n ?_
          refine s_reg ?_
          refine l_pure 1 (fun L => (51, .pointer (some ⟨b1, 1, none⟩)) :: L) F (by kernel_rfl) fun a F => ?_
          refine l_do F rfl rfl (op_load _ _ (some ⟨b1, 0, none⟩) 1 (.slice Ae x.edges.length ce) F rfl (by kernel_rfl) (by kernel_rfl) (cBox S 1 rfl (j := 1) rfl) (fun a F => ?_))
          refine l_pure 1 (fun L => (53, .int .i64 (k : Nat)) :: L) F (by kernel_rfl) fun a F => ?_
          refine l_do F rfl rfl (op_index _ 104 _ _ Ae x.edges.length ce k 8 .i64 F rfl (by kernel_rfl) (by kernel_rfl) (by kernel_rfl) (by kernel_rfl) (get_lt hed) (recs_some h.e (m := k) (get_lt hed)) (fun a F => ?_))
          refine l_do F rfl rfl (op_loadK _ _ Ae (k * 8) [.int .i64 ed.a, .int .i64 ed.b, .int .u64 ed.c0, .int .u64 ed.c1, .int .u64 ed.b0, .int .u64 ed.r0, .int .u64 ed.b1, .int .u64 ed.r1] F rfl (by kernel_rfl) (by kernel_rfl) (by kernel_rfl) (by simp) (cOldK0 S 0 edC_len h.e rfl hed (by kernel_rfl)) (fun a F => ?_))
          refine l_do F rfl rfl (op_alloc S _ (.agg #[.int .i64 0, .int .i64 0, .int .u64 0, .int .u64 0, .int .u64 0, .int .u64 0, .int .u64 0, .int .u64 0]) rfl (by kernel_rfl) fun b6 z S a F => ?_)
          refine l_do F rfl rfl (op_storeB S 3 _ _ _ b6 0 (.agg #[.int .i64 ed.a, .int .i64 ed.b, .int .u64 ed.c0, .int .u64 ed.c1, .int .u64 ed.b0, .int .u64 ed.r0, .int .u64 ed.b1, .int .u64 ed.r1]) F rfl rfl (by kernel_rfl) (by kernel_rfl) (by kernel_rfl) (by kernel_rfl) (by kernel_rfl) fun z S a F => ?_)
          refine l_then ?_
          refine wp_seq ?_
          refine s_reg ?_
          refine l_pure 3 (fun L => (58, .pointer (some ⟨b6, 2, none⟩)) :: (57, .pointer (some ⟨b6, 2, none⟩)) :: (56, .int .i64 0) :: L) F (by kernel_rfl) fun a F => ?_
          refine l_do F rfl rfl (op_load _ _ (some ⟨b6, 0, none⟩) 2 (.int .u64 ed.c0) F rfl (by kernel_rfl) (by kernel_rfl) (cBox S 3 rfl (j := 2) rfl) (fun a F => ?_))
          refine l_pure 1 (fun L => (60, .int .u64 am) :: L) F (by kernel_rfl) fun a F => ?_
          by_cases ht7 : (ed.c0 : Int) < (am : Int)
          · skip
            obtain ⟨rfl, rfl⟩ := Prod.mk.inj (hs.symm.trans (sentP_room hc hed hs0 (by decide) ht7))
            refine l_do F rfl rfl (op_pure F (v0 := .bool (decide ((ed.c0 : Int) < (am : Int)))) (v := .bool true) (by kernel_rfl) (lssT ht7) fun a F => ?_)
            refine l_then ?_
            refine c_t F rfl ?_
            refine s_reg ?_
            refine l_pure 1 (fun L => (62, .agg #[.slice none 0 0, .slice none 0 0]) :: L) F (by kernel_rfl) fun a F => ?_
            refine l_do F rfl rfl (op_storeB S 2 _ _ _ b2 0 (.agg #[.slice none 0 0, .slice none 0 0]) F rfl rfl (by kernel_rfl) (by kernel_rfl) (by kernel_rfl) (by kernel_rfl) (by kernel_rfl) fun z S a F => ?_)
            refine l_pure 1 (fun L => (9, .int .i64 28) :: L) F (by kernel_rfl) fun a F => ?_
            refine l_then ?_
            refine wp_ret ?_
            refine then_r (?_)
            exact fin F [.cell 8 25, .tmp 9] [.agg #[.slice none 0 0, .slice none 0 0], .int .i64 28] rfl ⟨⟨_, by kernel_rfl, resK S 2 (cs := [.slice none 0 0, .slice none 0 0]) rfl (by kernel_rfl) (by kernel_rfl) (by simp)⟩, by kernel_rfl, trivial⟩ (.tuple #[.agg #[.slice none 0 0, .slice none 0 0], .int .i64 28]) rfl ⟨none, 0, none, 0, rfl, .inr ⟨by first | decide | assumption, rfl, rfl, rfl, rfl⟩, (S.nilRow 104 8).pick [0, 4] (by decide)⟩
          · skip
            have hcan := ht7
            refine l_do F rfl rfl (op_pure F (v0 := .bool (decide ((ed.c0 : Int) < (am : Int)))) (v := .bool false) (by kernel_rfl) (lssF ht7) fun a F => ?_)
            refine l_then ?_
            refine c_f F rfl ?_
            refine wp_skip ?_
            refine then_n ?_
            refine s_reg ?_
            refine l_pure 4 (fun L => (67, .pointer (some ⟨b6, 3, none⟩)) :: (66, .pointer (some ⟨b6, 2, none⟩)) :: (65, .int .i64 1) :: (64, .int .i64 0) :: L) F (by kernel_rfl) fun a F => ?_
            refine l_do F rfl rfl (op_load _ _ (some ⟨b6, 0, none⟩) 3 (.int .u64 ed.c1) F rfl (by kernel_rfl) (by kernel_rfl) (cBox S 3 rfl (j := 3) rfl) (fun a F => ?_))
            refine l_pure 1 (fun L => (69, .int .u64 am) :: L) F (by kernel_rfl) fun a F => ?_
            refine l_do F rfl rfl (op_fn F (by kernel_rfl) (radd_any ed.c1 am ⟨by omega, by omega⟩ ⟨by omega, by omega⟩ _) ?_)
            rintro e z ⟨rfl, hw⟩
            first | subst hw | (have hw := hw.symm; subst hw)
            refine ⟨_, rfl, ?_⟩
            intro a F
            refine l_pure 5 (fun L => (15, .int .i64 ((addP ed.c1 am).2)) :: (14, .int .u64 ((addP ed.c1 am).1)) :: (72, .int .i64 ((addP ed.c1 am).2)) :: (71, .int .u64 ((addP ed.c1 am).1)) :: (63, .tuple #[.int .u64 ((addP ed.c1 am).1), .int .i64 ((addP ed.c1 am).2)]) :: L) F (by kernel_rfl) fun a F => ?_
            refine l_then ?_
            refine wp_seq ?_
            refine s_reg ?_
            refine l_pure 1 (fun L => (73, .int .i64 ((addP ed.c1 am).2)) :: L) F (by kernel_rfl) fun a F => ?_
            by_cases ht8 : ((addP ed.c1 am).2 : Int) = (0 : Int)
            · skip
              have hov := ht8
              obtain ⟨rfl, rfl⟩ := Prod.mk.inj (hs.symm.trans (sentP_ok hc hed hs0 (by decide) hcan hov))
              refine l_do F rfl rfl (op_pure F (v0 := .bool (((addP ed.c1 am).2 : Int) != (0 : Int))) (v := .bool false) (by kernel_rfl) (neqF ht8) fun a F => ?_)
              refine l_then ?_
              refine c_f F rfl ?_
              refine wp_skip ?_
              refine then_n ?_
              refine s_reg ?_
              refine l_pure 4 (fun L => (80, .pointer (some ⟨b6, 2, none⟩)) :: (79, .pointer (some ⟨b6, 2, none⟩)) :: (78, .int .i64 0) :: (77, .int .i64 0) :: L) F (by kernel_rfl) fun a F => ?_
              refine l_do F rfl rfl (op_load _ _ (some ⟨b6, 0, none⟩) 2 (.int .u64 ed.c0) F rfl (by kernel_rfl) (by kernel_rfl) (cBox S 3 rfl (j := 2) rfl) (fun a F => ?_))
              refine l_pure 1 (fun L => (82, .int .u64 am) :: L) F (by kernel_rfl) fun a F => ?_
              refine l_do F rfl rfl (op_pure F (v0 := .int .u64 (IntKind.wrap .u64 (ed.c0 - am))) (v := .int .u64 (ed.c0 - am)) (by kernel_rfl) (wr_u64 (by omega) (by omega)) fun a F => ?_)
              refine l_pure 2 (fun L => (85, .pointer (some ⟨b6, 2, none⟩)) :: (84, .pointer (some ⟨b6, 2, none⟩)) :: L) F (by kernel_rfl) fun a F => ?_
              refine l_do F rfl rfl (op_storeB S 3 _ _ _ b6 2 (.int .u64 (ed.c0 - am)) F rfl rfl (by kernel_rfl) (by kernel_rfl) (by kernel_rfl) (by kernel_rfl) (by kernel_rfl) fun z S a F => ?_)
              refine l_then ?_
              refine s_reg ?_
              refine l_pure 5 (fun L => (90, .pointer (some ⟨b6, 3, none⟩)) :: (89, .pointer (some ⟨b6, 2, none⟩)) :: (88, .int .u64 ((addP ed.c1 am).1)) :: (87, .int .i64 1) :: (86, .int .i64 0) :: L) F (by kernel_rfl) fun a F => ?_
              refine l_do F rfl rfl (op_storeB S 3 _ _ _ b6 3 (.int .u64 ((addP ed.c1 am).1)) F rfl rfl (by kernel_rfl) (by kernel_rfl) (by kernel_rfl) (by kernel_rfl) (by kernel_rfl) fun z S a F => ?_)
              refine l_then ?_
              refine wp_seq ?_
              have S := S.pushEmp.pushEmp
              refine region_gx (fun D => fun ((b9, A10, c11, b12) : Nat × Option Addr × Nat × Nat) => [rest w (· < w.heap.size), box b1 25 [.slice As x.spots.length cs, .slice Ae x.edges.length ce], box b2 25 [.slice none 0 0, .slice none 0 0], box b6 104 [.int .i64 ed.a, .int .i64 ed.b, .int .u64 (ed.c0 - am), .int .u64 ((addP ed.c1 am).1), .int .u64 ed.b0, .int .u64 ed.r0, .int .u64 ed.b1, .int .u64 ed.r1], bif D 5 then row 104 8 (.slice A10 ((([] : List Edg) ++ x.edges).length) c11) ((([] : List Edg) ++ x.edges).length) ((([] : List Edg) ++ x.edges).flatMap edC) else (bif D 2 then row 104 8 (.slice (some ⟨b9, 0, none⟩) 0 0) 0 (([] : List Edg).flatMap edC) else emp), bif D 8 then box b12 25 [.slice As x.spots.length cs, .slice A10 ((([] : List Edg) ++ x.edges).length) c11] else (bif D 7 then box b12 25 [.slice none 0 0, .slice none 0 0] else emp)]) (fun ((b9, A10, c11, b12) : Nat × Option Addr × Nat × Nat) => [.pointer (some ⟨b1, 0, none⟩), .slice As x.spots.length cs, .slice (some ⟨b9, 0, none⟩) 0 0, .pointer (some ⟨b1, 1, none⟩), .slice Ae x.edges.length ce, .slice A10 ((([] : List Edg) ++ x.edges).length) c11, .agg #[.slice As x.spots.length cs, .slice A10 ((([] : List Edg) ++ x.edges).length) c11], .pointer (some ⟨b12, 0, none⟩), undef]) [(1, [], [8]), (2, [], [5, 8]), (4, [], [5, 8]), (5, [2, 4], [8]), (7, [], [8]), (8, [1, 2, 4, 5, 7], [])] (0, none, 0, 0) rfl (by kernel_rfl) (by kernel_rfl) F S.drew ?_ ?_ ?_ ?_ ?_
              · rintro ⟨b9, A10, c11, b12⟩; rfl
              · rintro ⟨b9, A10, c11, b12⟩; kernel_rfl
              · intro D D' x h
                obtain ⟨b9, A10, c11, b12⟩ := x
                simp only [h 2 (by decide), h 5 (by decide), h 7 (by decide), h 8 (by decide)]
              · refine ⟨?_, ?_⟩
                · refine ⟨_, rfl, rfl, by kernel_rfl, ?_⟩
                  rintro D ⟨b9, A10, c11, b12⟩ a z S F
                  refine ⟨by kernel_rfl, ?_⟩
                  exact op_load _ _ (some ⟨b1, 0, none⟩) 0 (.slice As x.spots.length cs) F rfl (by kernel_rfl) (by kernel_rfl) (cBox S 1 rfl (j := 0) rfl) (⟨(b9, A10, c11, b12), rfl, (SameB.refl _ _ rfl), S⟩)
                refine ⟨?_, ?_⟩
                · refine ⟨_, rfl, rfl, by kernel_rfl, ?_⟩
                  rintro D ⟨b9, A10, c11, b12⟩ a z S F
                  refine ⟨by kernel_rfl, ?_⟩
                  exact op_buildSliceF S 4 rfl _ 0 _ 104 8 edC ([] : List Edg) F rfl (by kernel_rfl) (by kernel_rfl) (by kernel_rfl) (by unfold maxLen; omega) fun y13 z S => ⟨(y13, A10, c11, b12), rfl, ⟨rfl, rfl, trivial, rfl, rfl, trivial, trivial, rfl, trivial, trivial⟩, S⟩
                refine ⟨?_, ?_⟩
                · refine ⟨_, rfl, rfl, by kernel_rfl, ?_⟩
                  rintro D ⟨b9, A10, c11, b12⟩ a z S F
                  refine ⟨by kernel_rfl, ?_⟩
                  exact op_load _ _ (some ⟨b1, 0, none⟩) 1 (.slice Ae x.edges.length ce) F rfl (by kernel_rfl) (by kernel_rfl) (cBox S 1 rfl (j := 1) rfl) (⟨(b9, A10, c11, b12), rfl, (SameB.refl _ _ rfl), S⟩)
                refine ⟨?_, ?_⟩
                · refine ⟨_, rfl, rfl, by kernel_rfl, ?_⟩
                  rintro D ⟨b9, A10, c11, b12⟩ a z S F
                  refine ⟨by kernel_rfl, ?_⟩
                  exact op_append S 4 _ _ _ 104 (.agg #[.int .i64 0, .int .i64 0, .int .u64 0, .int .u64 0, .int .u64 0, .int .u64 0, .int .u64 0, .int .u64 0]) 8 64 ([] : List Edg) x.edges edC Ae ce F edC_len (fun _ => rfl) rfl rfl (by kernel_rfl) (by kernel_rfl) rfl rfl rfl (by kernel_rfl) (by kernel_rfl) h.e.none_ (src_rest S (i := 0) rfl h.e.src (src_lt h.e.src)) (by first | omega | (simp <;> omega)) fun y14 y15 z S => ⟨(b9, y14, y15, b12), rfl, ⟨rfl, rfl, rfl, rfl, rfl, trivial, trivial, rfl, trivial, trivial⟩, S⟩
                refine ⟨?_, ?_⟩
                · refine ⟨_, rfl, rfl, by kernel_rfl, ?_⟩
                  rintro D ⟨b9, A10, c11, b12⟩ a z S F
                  refine ⟨by kernel_rfl, ?_⟩
                  exact op_allocF S 5 rfl _ (.agg #[.slice none 0 0, .slice none 0 0]) rfl (by kernel_rfl) fun y16 z S => ⟨(b9, A10, c11, y16), rfl, ⟨rfl, rfl, rfl, rfl, rfl, rfl, rfl, trivial, trivial, trivial⟩, S⟩
                refine ⟨?_, ?_⟩
                · refine ⟨_, rfl, rfl, by kernel_rfl, ?_⟩
                  rintro D ⟨b9, A10, c11, b12⟩ a z S F
                  refine ⟨by kernel_rfl, ?_⟩
                  exact op_storeB S 5 _ _ _ b12 0 (.agg #[.slice As x.spots.length cs, .slice A10 ((([] : List Edg) ++ x.edges).length) c11]) F rfl rfl (by kernel_rfl) (by kernel_rfl) (by kernel_rfl) (by kernel_rfl) (by kernel_rfl) fun z S => ⟨(b9, A10, c11, b12), rfl, (SameB.refl _ _ rfl), S⟩
                trivial
              · rintro ⟨b9, A10, c11, b12⟩ a z F S
                have F := F.sub (l := [(1, .int .i64 (k : Nat)), (8, .pointer (some ⟨b2, 0, none⟩)), (13, .pointer (some ⟨b6, 0, none⟩)), (16, .pointer (some ⟨b12, 0, none⟩))]) ⟨by kernel_rfl, by kernel_rfl, by kernel_rfl, by kernel_rfl, trivial⟩
                have S : Sat w z [rest w (· < w.heap.size), box b1 25 [.slice As x.spots.length cs, .slice Ae x.edges.length ce], box b2 25 [.slice none 0 0, .slice none 0 0], box b6 104 [.int .i64 ed.a, .int .i64 ed.b, .int .u64 (ed.c0 - am), .int .u64 ((addP ed.c1 am).1), .int .u64 ed.b0, .int .u64 ed.r0, .int .u64 ed.b1, .int .u64 ed.r1], row 104 8 (.slice A10 ((([] : List Edg) ++ x.edges).length) c11) ((([] : List Edg) ++ x.edges).length) ((([] : List Edg) ++ x.edges).flatMap edC), box b12 25 [.slice As x.spots.length cs, .slice A10 ((([] : List Edg) ++ x.edges).length) c11]] := S
                refine then_n ?_
                refine s_reg ?_
                refine l_pure 1 (fun L => (98, .pointer (some ⟨b12, 1, none⟩)) :: L) F (by kernel_rfl) fun a F => ?_
                refine l_do F rfl rfl (op_load _ _ (some ⟨b12, 0, none⟩) 1 (.slice A10 ((([] : List Edg) ++ x.edges).length) c11) F rfl (by kernel_rfl) (by kernel_rfl) (cBox S 5 rfl (j := 1) rfl) (fun a F => ?_))
                refine l_pure 1 (fun L => (100, .int .i64 (k : Nat)) :: L) F (by kernel_rfl) fun a F => ?_
                refine l_do F rfl rfl (op_loadK _ _ (some ⟨b6, 0, none⟩) 0 [.int .i64 ed.a, .int .i64 ed.b, .int .u64 (ed.c0 - am), .int .u64 ((addP ed.c1 am).1), .int .u64 ed.b0, .int .u64 ed.r0, .int .u64 ed.b1, .int .u64 ed.r1] F rfl (by kernel_rfl) (by kernel_rfl) (by kernel_rfl) (by simp) (cBoxK S 3 rfl 0 (by kernel_rfl)) (fun a F => ?_))
                refine l_do F rfl rfl (op_index _ 104 _ _ A10 ((([] : List Edg) ++ x.edges).length) c11 k 8 .i64 F rfl (by kernel_rfl) (by kernel_rfl) (by kernel_rfl) (by kernel_rfl) (get_lt hed) (row_some S 4 rfl (m := k) (get_lt hed)) (fun a F => ?_))
                refine l_do F rfl rfl (op_storeRec S 4 _ _ _ A10 k 8 0 (.agg #[.int .i64 ed.a, .int .i64 ed.b, .int .u64 (ed.c0 - am), .int .u64 ((addP ed.c1 am).1), .int .u64 ed.b0, .int .u64 ed.r0, .int .u64 ed.b1, .int .u64 ed.r1]) (⟨ed.a, ed.b, ed.c0 - am, (addP ed.c1 am).1, ed.b0, ed.r0, ed.b1, ed.r1⟩ : Edg) F edC_len hed rfl rfl (by kernel_rfl) (by kernel_rfl) (by kernel_rfl) (by kernel_rfl) (by kernel_rfl) (by kernel_rfl) (by kernel_rfl) fun z S a F => ?_)
                refine l_then ?_
                refine s_reg ?_
                refine l_do F rfl rfl (op_loadK _ _ (some ⟨b12, 0, none⟩) 0 [.slice As x.spots.length cs, .slice A10 ((([] : List Edg) ++ x.edges).length) c11] F rfl (by kernel_rfl) (by kernel_rfl) (by kernel_rfl) (by simp) (cBoxK S 5 rfl 0 (by kernel_rfl)) (fun a F => ?_))
                refine l_do F rfl rfl (op_storeB S 2 _ _ _ b2 0 (.agg #[.slice As x.spots.length cs, .slice A10 ((([] : List Edg) ++ x.edges).length) c11]) F rfl rfl (by kernel_rfl) (by kernel_rfl) (by kernel_rfl) (by kernel_rfl) (by kernel_rfl) fun z S a F => ?_)
                refine l_pure 1 (fun L => (9, .int .i64 0) :: L) F (by kernel_rfl) fun a F => ?_
                refine l_then ?_
                refine wp_ret ?_
                have hX : ((([] : List Edg) ++ x.edges).set k (⟨ed.a, ed.b, ed.c0 - am, (addP ed.c1 am).1, ed.b0, ed.r0, ed.b1, ed.r1⟩ : Edg)) = x.edges.set k (ed.sent 0 am) := by rw [List.nil_append, Edg.sent0 hov]
                have hXl : (([] : List Edg) ++ x.edges).length = (x.edges.set k (ed.sent 0 am)).length := by rw [List.length_set]; rfl
                have S := S.rowEq 4 hX hXl rfl
                exact fin F [.cell 8 25, .tmp 9] [.agg #[.slice As x.spots.length cs, .slice A10 ((([] : List Edg) ++ x.edges).length) c11], .int .i64 0] rfl ⟨⟨_, by kernel_rfl, resK S 2 (cs := [.slice As x.spots.length cs, .slice A10 ((([] : List Edg) ++ x.edges).length) c11]) rfl (by kernel_rfl) (by kernel_rfl) (by simp)⟩, by kernel_rfl, trivial⟩ (.tuple #[.agg #[.slice As x.spots.length cs, .slice A10 ((([] : List Edg) ++ x.edges).length) c11], .int .i64 0]) rfl ⟨As, cs, A10, c11, by rw [hXl], .inl ⟨rfl, rfl, rfl⟩, S.pick [0, 4] (by decide)⟩
            · skip
              obtain ⟨rfl, rfl⟩ := Prod.mk.inj (hs.symm.trans (sentP_over hc hed hs0 (by decide) hcan ht8))
              refine l_do F rfl rfl (op_pure F (v0 := .bool (((addP ed.c1 am).2 : Int) != (0 : Int))) (v := .bool true) (by kernel_rfl) (neqT ht8) fun a F => ?_)
              refine l_then ?_
              refine c_t F rfl ?_
              refine s_reg ?_
              refine l_pure 2 (fun L => (76, .int .i64 ((addP ed.c1 am).2)) :: (75, .agg #[.slice none 0 0, .slice none 0 0]) :: L) F (by kernel_rfl) fun a F => ?_
              refine l_do F rfl rfl (op_storeB S 2 _ _ _ b2 0 (.agg #[.slice none 0 0, .slice none 0 0]) F rfl rfl (by kernel_rfl) (by kernel_rfl) (by kernel_rfl) (by kernel_rfl) (by kernel_rfl) fun z S a F => ?_)
              refine l_pure 1 (fun L => (9, .int .i64 ((addP ed.c1 am).2)) :: L) F (by kernel_rfl) fun a F => ?_
              refine l_then ?_
              refine wp_ret ?_
              refine then_r (?_)
              exact fin F [.cell 8 25, .tmp 9] [.agg #[.slice none 0 0, .slice none 0 0], .int .i64 ((addP ed.c1 am).2)] rfl ⟨⟨_, by kernel_rfl, resK S 2 (cs := [.slice none 0 0, .slice none 0 0]) rfl (by kernel_rfl) (by kernel_rfl) (by simp)⟩, by kernel_rfl, trivial⟩ (.tuple #[.agg #[.slice none 0 0, .slice none 0 0], .int .i64 ((addP ed.c1 am).2)]) rfl ⟨none, 0, none, 0, rfl, .inr ⟨by first | decide | assumption, rfl, rfl, rfl, rfl⟩, (S.nilRow 104 8).pick [0, 4] (by decide)⟩
        · skip
          skip
          refine l_do F rfl rfl (op_pure F (v0 := .bool ((ed.b : Int) == (nd : Int))) (v := .bool true) (by kernel_rfl) (eqlT (by omega)) fun a F => ?_)
          refine l_then ?_
          refine c_t F rfl ?_
          refine wp_region_list ?_
          refine l_pure 2 (fun L => (11, .int .i64 1) :: (47, .int .i64 1) :: L) F (by kernel_rfl) fun a F => ?_
          refine l_nil (inb_n ?_)
          refine then_n ?_
          refine wp_region_list ?_
          refine l_pure 3 (fun L => (12, .int .i64 0) :: (36, .int .i64 0) :: (35, .int .i64 1) :: L) F (by kernel_rfl) fun a F => ?_
          refine l_then ?_
          refine rnd ?_
          refine wp_seq ?_
          refine s_reg ?_
          refine l_pure 2 (fun L => (34, .bool true) :: (33, .int .i64 0) :: L) F (by kernel_rfl) fun a F => ?_
          refine l_then ?_
          refine c_t F rfl ?_
          refine wp_skip ?_
          refine then_n ?_
          refine wp_seq ?_
          refine wp_block ?_
          refine s_reg ?_
          refine l_pure 1 (fun L => (37, .pointer (some ⟨b1, 1, none⟩)) :: L) F (by kernel_rfl) fun a F => ?_
          refine l_do F rfl rfl (op_load _ _ (some ⟨b1, 0, none⟩) 1 (.slice Ae x.edges.length ce) F rfl (by kernel_rfl) (by kernel_rfl) (cBox S 1 rfl (j := 1) rfl) (fun a F => ?_))
          refine l_pure 2 (fun L => (40, .int .i64 0) :: (39, .int .i64 (k : Nat)) :: L) F (by kernel_rfl) fun a F => ?_
          refine l_do F rfl rfl (op_index _ 104 _ _ Ae x.edges.length ce k 8 .i64 F rfl (by kernel_rfl) (by kernel_rfl) (by kernel_rfl) (by kernel_rfl) (get_lt hed) (recs_some h.e (m := k) (get_lt hed)) (fun a F => ?_))
          refine l_do F rfl rfl (op_field _ _ _ Ae (k * 8) 0 F rfl (by kernel_rfl) (by kernel_rfl) (recs_some h.e (m := k) (get_lt hed)) (fun a F => ?_))
          refine l_do F rfl rfl (op_indexArr _ 3 _ _ Ae (k * 8) 2 0 1 .i64 F rfl (by kernel_rfl) (by kernel_rfl) (by kernel_rfl) (by kernel_rfl) (by decide) (recs_some h.e (m := k) (get_lt hed)) (fun a F => ?_))
          refine l_do F rfl rfl (op_load _ _ Ae (k * 8) (.int .i64 ed.a) F rfl (by kernel_rfl) (by kernel_rfl) (cOld S 0 edC_len h.e rfl 0 hed rfl) (fun a F => ?_))
          refine l_pure 1 (fun L => (45, .int .i64 nd) :: L) F (by kernel_rfl) fun a F => ?_
          refine l_do F rfl rfl (op_pure F (v0 := .bool ((ed.a : Int) == (nd : Int))) (v := .bool false) (by kernel_rfl) (eqlF (by omega)) fun a F => ?_)
          refine l_then ?_
          refine c_f F rfl ?_
          refine wp_skip ?_
          refine inb_n ?_
          refine then_n ?_
          refine wp_region_list ?_
          refine l_pure 3 (fun L => (12, .int .i64 (-1)) :: (36, .int .i64 (-1)) :: (35, .int .i64 0) :: L) F (by kernel_rfl) fun a F => ?_
          refine l_then ?_
          refine rnd ?_
          refine wp_seq ?_
          refine s_reg ?_
          refine l_pure 2 (fun L => (34, .bool false) :: (33, .int .i64 (-1)) :: L) F (by kernel_rfl) fun a F => ?_
          refine l_then ?_
          refine c_f F rfl ?_
          refine wp_exit ?_
          refine then_x ?_
          refine then_x ?_
          refine inb_x ?_
          refine then_n ?_
          refine wp_seq ?_
          refine s_reg ?_
          refine l_pure 2 (fun L => (49, .bool false) :: (48, .int .i64 1) :: L) F (by kernel_rfl) fun a F => ?_
          refine l_then ?_
          refine c_f F rfl ?_
          refine wp_skip ?_
          refine then_n ?_
          refine s_reg ?_
          refine l_pure 1 (fun L => (51, .pointer (some ⟨b1, 1, none⟩)) :: L) F (by kernel_rfl) fun a F => ?_
          refine l_do F rfl rfl (op_load _ _ (some ⟨b1, 0, none⟩) 1 (.slice Ae x.edges.length ce) F rfl (by kernel_rfl) (by kernel_rfl) (cBox S 1 rfl (j := 1) rfl) (fun a F => ?_))
          refine l_pure 1 (fun L => (53, .int .i64 (k : Nat)) :: L) F (by kernel_rfl) fun a F => ?_
          refine l_do F rfl rfl (op_index _ 104 _ _ Ae x.edges.length ce k 8 .i64 F rfl (by kernel_rfl) (by kernel_rfl) (by kernel_rfl) (by kernel_rfl) (get_lt hed) (recs_some h.e (m := k) (get_lt hed)) (fun a F => ?_))
          refine l_do F rfl rfl (op_loadK _ _ Ae (k * 8) [.int .i64 ed.a, .int .i64 ed.b, .int .u64 ed.c0, .int .u64 ed.c1, .int .u64 ed.b0, .int .u64 ed.r0, .int .u64 ed.b1, .int .u64 ed.r1] F rfl (by kernel_rfl) (by kernel_rfl) (by kernel_rfl) (by simp) (cOldK0 S 0 edC_len h.e rfl hed (by kernel_rfl)) (fun a F => ?_))
          refine l_do F rfl rfl (op_alloc S _ (.agg #[.int .i64 0, .int .i64 0, .int .u64 0, .int .u64 0, .int .u64 0, .int .u64 0, .int .u64 0, .int .u64 0]) rfl (by kernel_rfl) fun b17 z S a F => ?_)
          refine l_do F rfl rfl (op_storeB S 3 _ _ _ b17 0 (.agg #[.int .i64 ed.a, .int .i64 ed.b, .int .u64 ed.c0, .int .u64 ed.c1, .int .u64 ed.b0, .int .u64 ed.r0, .int .u64 ed.b1, .int .u64 ed.r1]) F rfl rfl (by kernel_rfl) (by kernel_rfl) (by kernel_rfl) (by kernel_rfl) (by kernel_rfl) fun z S a F => ?_)
          refine l_then ?_
          refine wp_seq ?_
          refine s_reg ?_
          refine l_pure 3 (fun L => (58, .pointer (some ⟨b17, 3, none⟩)) :: (57, .pointer (some ⟨b17, 2, none⟩)) :: (56, .int .i64 1) :: L) F (by kernel_rfl) fun a F => ?_
          refine l_do F rfl rfl (op_load _ _ (some ⟨b17, 0, none⟩) 3 (.int .u64 ed.c1) F rfl (by kernel_rfl) (by kernel_rfl) (cBox S 3 rfl (j := 3) rfl) (fun a F => ?_))
          refine l_pure 1 (fun L => (60, .int .u64 am) :: L) F (by kernel_rfl) fun a F => ?_
          by_cases ht18 : (ed.c1 : Int) < (am : Int)
          · skip
            obtain ⟨rfl, rfl⟩ := Prod.mk.inj (hs.symm.trans (sentP_room hc hed hs0 (by decide) ht18))
            refine l_do F rfl rfl (op_pure F (v0 := .bool (decide ((ed.c1 : Int) < (am : Int)))) (v := .bool true) (by kernel_rfl) (lssT ht18) fun a F => ?_)
            refine l_then ?_
            refine c_t F rfl ?_
            refine s_reg ?_
            refine l_pure 1 (fun L => (62, .agg #[.slice none 0 0, .slice none 0 0]) :: L) F (by kernel_rfl) fun a F => ?_
            refine l_do F rfl rfl (op_storeB S 2 _ _ _ b2 0 (.agg #[.slice none 0 0, .slice none 0 0]) F rfl rfl (by kernel_rfl) (by kernel_rfl) (by kernel_rfl) (by kernel_rfl) (by kernel_rfl) fun z S a F => ?_)
            refine l_pure 1 (fun L => (9, .int .i64 28) :: L) F (by kernel_rfl) fun a F => ?_
            refine l_then ?_
            refine wp_ret ?_
            refine then_r (?_)
            exact fin F [.cell 8 25, .tmp 9] [.agg #[.slice none 0 0, .slice none 0 0], .int .i64 28] rfl ⟨⟨_, by kernel_rfl, resK S 2 (cs := [.slice none 0 0, .slice none 0 0]) rfl (by kernel_rfl) (by kernel_rfl) (by simp)⟩, by kernel_rfl, trivial⟩ (.tuple #[.agg #[.slice none 0 0, .slice none 0 0], .int .i64 28]) rfl ⟨none, 0, none, 0, rfl, .inr ⟨by first | decide | assumption, rfl, rfl, rfl, rfl⟩, (S.nilRow 104 8).pick [0, 4] (by decide)⟩
          · skip
            have hcan := ht18
            refine l_do F rfl rfl (op_pure F (v0 := .bool (decide ((ed.c1 : Int) < (am : Int)))) (v := .bool false) (by kernel_rfl) (lssF ht18) fun a F => ?_)
            refine l_then ?_
            refine c_f F rfl ?_
            refine wp_skip ?_
            refine then_n ?_
            refine s_reg ?_
            refine l_pure 4 (fun L => (67, .pointer (some ⟨b17, 2, none⟩)) :: (66, .pointer (some ⟨b17, 2, none⟩)) :: (65, .int .i64 0) :: (64, .int .i64 1) :: L) F (by kernel_rfl) fun a F => ?_
            refine l_do F rfl rfl (op_load _ _ (some ⟨b17, 0, none⟩) 2 (.int .u64 ed.c0) F rfl (by kernel_rfl) (by kernel_rfl) (cBox S 3 rfl (j := 2) rfl) (fun a F => ?_))
            refine l_pure 1 (fun L => (69, .int .u64 am) :: L) F (by kernel_rfl) fun a F => ?_
            refine l_do F rfl rfl (op_fn F (by kernel_rfl) (radd_any ed.c0 am ⟨by omega, by omega⟩ ⟨by omega, by omega⟩ _) ?_)
            rintro e z ⟨rfl, hw⟩
            first | subst hw | (have hw := hw.symm; subst hw)
            refine ⟨_, rfl, ?_⟩
            intro a F
            refine l_pure 5 (fun L => (15, .int .i64 ((addP ed.c0 am).2)) :: (14, .int .u64 ((addP ed.c0 am).1)) :: (72, .int .i64 ((addP ed.c0 am).2)) :: (71, .int .u64 ((addP ed.c0 am).1)) :: (63, .tuple #[.int .u64 ((addP ed.c0 am).1), .int .i64 ((addP ed.c0 am).2)]) :: L) F (by kernel_rfl) fun a F => ?_
            refine l_then ?_
            refine wp_seq ?_
            refine s_reg ?_
            refine l_pure 1 (fun L => (73, .int .i64 ((addP ed.c0 am).2)) :: L) F (by kernel_rfl) fun a F => ?_
            by_cases ht19 : ((addP ed.c0 am).2 : Int) = (0 : Int)
            · skip
              have hov := ht19
              obtain ⟨rfl, rfl⟩ := Prod.mk.inj (hs.symm.trans (sentP_ok hc hed hs0 (by decide) hcan hov))
              refine l_do F rfl rfl (op_pure F (v0 := .bool (((addP ed.c0 am).2 : Int) != (0 : Int))) (v := .bool false) (by kernel_rfl) (neqF ht19) fun a F => ?_)
              refine l_then ?_
              refine c_f F rfl ?_
              refine wp_skip ?_
              refine then_n ?_
              refine s_reg ?_
              refine l_pure 4 (fun L => (80, .pointer (some ⟨b17, 3, none⟩)) :: (79, .pointer (some ⟨b17, 2, none⟩)) :: (78, .int .i64 1) :: (77, .int .i64 1) :: L) F (by kernel_rfl) fun a F => ?_
              refine l_do F rfl rfl (op_load _ _ (some ⟨b17, 0, none⟩) 3 (.int .u64 ed.c1) F rfl (by kernel_rfl) (by kernel_rfl) (cBox S 3 rfl (j := 3) rfl) (fun a F => ?_))
              refine l_pure 1 (fun L => (82, .int .u64 am) :: L) F (by kernel_rfl) fun a F => ?_
              refine l_do F rfl rfl (op_pure F (v0 := .int .u64 (IntKind.wrap .u64 (ed.c1 - am))) (v := .int .u64 (ed.c1 - am)) (by kernel_rfl) (wr_u64 (by omega) (by omega)) fun a F => ?_)
              refine l_pure 2 (fun L => (85, .pointer (some ⟨b17, 3, none⟩)) :: (84, .pointer (some ⟨b17, 2, none⟩)) :: L) F (by kernel_rfl) fun a F => ?_
              refine l_do F rfl rfl (op_storeB S 3 _ _ _ b17 3 (.int .u64 (ed.c1 - am)) F rfl rfl (by kernel_rfl) (by kernel_rfl) (by kernel_rfl) (by kernel_rfl) (by kernel_rfl) fun z S a F => ?_)
              refine l_then ?_
              refine s_reg ?_
              refine l_pure 5 (fun L => (90, .pointer (some ⟨b17, 2, none⟩)) :: (89, .pointer (some ⟨b17, 2, none⟩)) :: (88, .int .u64 ((addP ed.c0 am).1)) :: (87, .int .i64 0) :: (86, .int .i64 1) :: L) F (by kernel_rfl) fun a F => ?_
              refine l_do F rfl rfl (op_storeB S 3 _ _ _ b17 2 (.int .u64 ((addP ed.c0 am).1)) F rfl rfl (by kernel_rfl) (by kernel_rfl) (by kernel_rfl) (by kernel_rfl) (by kernel_rfl) fun z S a F => ?_)
              refine l_then ?_
              refine wp_seq ?_
              have S := S.pushEmp.pushEmp
              refine region_gx (fun D => fun ((b20, A21, c22, b23) : Nat × Option Addr × Nat × Nat) => [rest w (· < w.heap.size), box b1 25 [.slice As x.spots.length cs, .slice Ae x.edges.length ce], box b2 25 [.slice none 0 0, .slice none 0 0], box b17 104 [.int .i64 ed.a, .int .i64 ed.b, .int .u64 ((addP ed.c0 am).1), .int .u64 (ed.c1 - am), .int .u64 ed.b0, .int .u64 ed.r0, .int .u64 ed.b1, .int .u64 ed.r1], bif D 5 then row 104 8 (.slice A21 ((([] : List Edg) ++ x.edges).length) c22) ((([] : List Edg) ++ x.edges).length) ((([] : List Edg) ++ x.edges).flatMap edC) else (bif D 2 then row 104 8 (.slice (some ⟨b20, 0, none⟩) 0 0) 0 (([] : List Edg).flatMap edC) else emp), bif D 8 then box b23 25 [.slice As x.spots.length cs, .slice A21 ((([] : List Edg) ++ x.edges).length) c22] else (bif D 7 then box b23 25 [.slice none 0 0, .slice none 0 0] else emp)]) (fun ((b20, A21, c22, b23) : Nat × Option Addr × Nat × Nat) => [.pointer (some ⟨b1, 0, none⟩), .slice As x.spots.length cs, .slice (some ⟨b20, 0, none⟩) 0 0, .pointer (some ⟨b1, 1, none⟩), .slice Ae x.edges.length ce, .slice A21 ((([] : List Edg) ++ x.edges).length) c22, .agg #[.slice As x.spots.length cs, .slice A21 ((([] : List Edg) ++ x.edges).length) c22], .pointer (some ⟨b23, 0, none⟩), undef]) [(1, [], [8]), (2, [], [5, 8]), (4, [], [5, 8]), (5, [2, 4], [8]), (7, [], [8]), (8, [1, 2, 4, 5, 7], [])] (0, none, 0, 0) rfl (by kernel_rfl) (by kernel_rfl) F S.drew ?_ ?_ ?_ ?_ ?_
              · rintro ⟨b20, A21, c22, b23⟩; rfl
              · rintro ⟨b20, A21, c22, b23⟩; kernel_rfl
              · intro D D' x h
                obtain ⟨b20, A21, c22, b23⟩ := x
                simp only [h 2 (by decide), h 5 (by decide), h 7 (by decide), h 8 (by decide)]
              · refine ⟨?_, ?_⟩
                · refine ⟨_, rfl, rfl, by kernel_rfl, ?_⟩
                  rintro D ⟨b20, A21, c22, b23⟩ a z S F
                  refine ⟨by kernel_rfl, ?_⟩
                  exact op_load _ _ (some ⟨b1, 0, none⟩) 0 (.slice As x.spots.length cs) F rfl (by kernel_rfl) (by kernel_rfl) (cBox S 1 rfl (j := 0) rfl) (⟨(b20, A21, c22, b23), rfl, (SameB.refl _ _ rfl), S⟩)
                refine ⟨?_, ?_⟩
                · refine ⟨_, rfl, rfl, by kernel_rfl, ?_⟩
                  rintro D ⟨b20, A21, c22, b23⟩ a z S F
                  refine ⟨by kernel_rfl, ?_⟩
                  exact op_buildSliceF S 4 rfl _ 0 _ 104 8 edC ([] : List Edg) F rfl (by kernel_rfl) (by kernel_rfl) (by kernel_rfl) (by unfold maxLen; omega) fun y24 z S => ⟨(y24, A21, c22, b23), rfl, ⟨rfl, rfl, trivial, rfl, rfl, trivial, trivial, rfl, trivial, trivial⟩, S⟩
                refine ⟨?_, ?_⟩
                · refine ⟨_, rfl, rfl, by kernel_rfl, ?_⟩
                  rintro D ⟨b20, A21, c22, b23⟩ a z S F
                  refine ⟨by kernel_rfl, ?_⟩
                  exact op_load _ _ (some ⟨b1, 0, none⟩) 1 (.slice Ae x.edges.length ce) F rfl (by kernel_rfl) (by kernel_rfl) (cBox S 1 rfl (j := 1) rfl) (⟨(b20, A21, c22, b23), rfl, (SameB.refl _ _ rfl), S⟩)
                refine ⟨?_, ?_⟩
                · refine ⟨_, rfl, rfl, by kernel_rfl, ?_⟩
                  rintro D ⟨b20, A21, c22, b23⟩ a z S F
                  refine ⟨by kernel_rfl, ?_⟩
                  exact op_append S 4 _ _ _ 104 (.agg #[.int .i64 0, .int .i64 0, .int .u64 0, .int .u64 0, .int .u64 0, .int .u64 0, .int .u64 0, .int .u64 0]) 8 64 ([] : List Edg) x.edges edC Ae ce F edC_len (fun _ => rfl) rfl rfl (by kernel_rfl) (by kernel_rfl) rfl rfl rfl (by kernel_rfl) (by kernel_rfl) h.e.none_ (src_rest S (i := 0) rfl h.e.src (src_lt h.e.src)) (by first | omega | (simp <;> omega)) fun y25 y26 z S => ⟨(b20, y25, y26, b23), rfl, ⟨rfl, rfl, rfl, rfl, rfl, trivial, trivial, rfl, trivial, trivial⟩, S⟩
                refine ⟨?_, ?_⟩
                · refine ⟨_, rfl, rfl, by kernel_rfl, ?_⟩
                  rintro D ⟨b20, A21, c22, b23⟩ a z S F
                  refine ⟨by kernel_rfl, ?_⟩
                  exact op_allocF S 5 rfl _ (.agg #[.slice none 0 0, .slice none 0 0]) rfl (by kernel_rfl) fun y27 z S => ⟨(b20, A21, c22, y27), rfl, ⟨rfl, rfl, rfl, rfl, rfl, rfl, rfl, trivial, trivial, trivial⟩, S⟩
                refine ⟨?_, ?_⟩
                · refine ⟨_, rfl, rfl, by kernel_rfl, ?_⟩
                  rintro D ⟨b20, A21, c22, b23⟩ a z S F
                  refine ⟨by kernel_rfl, ?_⟩
                  exact op_storeB S 5 _ _ _ b23 0 (.agg #[.slice As x.spots.length cs, .slice A21 ((([] : List Edg) ++ x.edges).length) c22]) F rfl rfl (by kernel_rfl) (by kernel_rfl) (by kernel_rfl) (by kernel_rfl) (by kernel_rfl) fun z S => ⟨(b20, A21, c22, b23), rfl, (SameB.refl _ _ rfl), S⟩
                trivial
              · rintro ⟨b20, A21, c22, b23⟩ a z F S
                have F := F.sub (l := [(1, .int .i64 (k : Nat)), (8, .pointer (some ⟨b2, 0, none⟩)), (13, .pointer (some ⟨b17, 0, none⟩)), (16, .pointer (some ⟨b23, 0, none⟩))]) ⟨by kernel_rfl, by kernel_rfl, by kernel_rfl, by kernel_rfl, trivial⟩
                have S : Sat w z [rest w (· < w.heap.size), box b1 25 [.slice As x.spots.length cs, .slice Ae x.edges.length ce], box b2 25 [.slice none 0 0, .slice none 0 0], box b17 104 [.int .i64 ed.a, .int .i64 ed.b, .int .u64 ((addP ed.c0 am).1), .int .u64 (ed.c1 - am), .int .u64 ed.b0, .int .u64 ed.r0, .int .u64 ed.b1, .int .u64 ed.r1], row 104 8 (.slice A21 ((([] : List Edg) ++ x.edges).length) c22) ((([] : List Edg) ++ x.edges).length) ((([] : List Edg) ++ x.edges).flatMap edC), box b23 25 [.slice As x.spots.length cs, .slice A21 ((([] : List Edg) ++ x.edges).length) c22]] := S
                refine then_n ?_
                refine s_reg ?_
                refine l_pure 1 (fun L => (98, .pointer (some ⟨b23, 1, none⟩)) :: L) F (by kernel_rfl) fun a F => ?_
                refine l_do F rfl rfl (op_load _ _ (some ⟨b23, 0, none⟩) 1 (.slice A21 ((([] : List Edg) ++ x.edges).length) c22) F rfl (by kernel_rfl) (by kernel_rfl) (cBox S 5 rfl (j := 1) rfl) (fun a F => ?_))
                refine l_pure 1 (fun L => (100, .int .i64 (k : Nat)) :: L) F (by kernel_rfl) fun a F => ?_
                refine l_do F rfl rfl (op_loadK _ _ (some ⟨b17, 0, none⟩) 0 [.int .i64 ed.a, .int .i64 ed.b, .int .u64 ((addP ed.c0 am).1), .int .u64 (ed.c1 - am), .int .u64 ed.b0, .int .u64 ed.r0, .int .u64 ed.b1, .int .u64 ed.r1] F rfl (by kernel_rfl) (by kernel_rfl) (by kernel_rfl) (by simp) (cBoxK S 3 rfl 0 (by kernel_rfl)) (fun a F => ?_))
                refine l_do F rfl rfl (op_index _ 104 _ _ A21 ((([] : List Edg) ++ x.edges).length) c22 k 8 .i64 F rfl (by kernel_rfl) (by kernel_rfl) (by kernel_rfl) (by kernel_rfl) (get_lt hed) (row_some S 4 rfl (m := k) (get_lt hed)) (fun a F => ?_))
                refine l_do F rfl rfl (op_storeRec S 4 _ _ _ A21 k 8 0 (.agg #[.int .i64 ed.a, .int .i64 ed.b, .int .u64 ((addP ed.c0 am).1), .int .u64 (ed.c1 - am), .int .u64 ed.b0, .int .u64 ed.r0, .int .u64 ed.b1, .int .u64 ed.r1]) (⟨ed.a, ed.b, (addP ed.c0 am).1, ed.c1 - am, ed.b0, ed.r0, ed.b1, ed.r1⟩ : Edg) F edC_len hed rfl rfl (by kernel_rfl) (by kernel_rfl) (by kernel_rfl) (by kernel_rfl) (by kernel_rfl) (by kernel_rfl) (by kernel_rfl) fun z S a F => ?_)
                refine l_then ?_
                refine s_reg ?_
                refine l_do F rfl rfl (op_loadK _ _ (some ⟨b23, 0, none⟩) 0 [.slice As x.spots.length cs, .slice A21 ((([] : List Edg) ++ x.edges).length) c22] F rfl (by kernel_rfl) (by kernel_rfl) (by kernel_rfl) (by simp) (cBoxK S 5 rfl 0 (by kernel_rfl)) (fun a F => ?_))
                refine l_do F rfl rfl (op_storeB S 2 _ _ _ b2 0 (.agg #[.slice As x.spots.length cs, .slice A21 ((([] : List Edg) ++ x.edges).length) c22]) F rfl rfl (by kernel_rfl) (by kernel_rfl) (by kernel_rfl) (by kernel_rfl) (by kernel_rfl) fun z S a F => ?_)
                refine l_pure 1 (fun L => (9, .int .i64 0) :: L) F (by kernel_rfl) fun a F => ?_
                refine l_then ?_
                refine wp_ret ?_
                have hX : ((([] : List Edg) ++ x.edges).set k (⟨ed.a, ed.b, (addP ed.c0 am).1, ed.c1 - am, ed.b0, ed.r0, ed.b1, ed.r1⟩ : Edg)) = x.edges.set k (ed.sent 1 am) := by rw [List.nil_append, Edg.sent1 hov]
                have hXl : (([] : List Edg) ++ x.edges).length = (x.edges.set k (ed.sent 1 am)).length := by rw [List.length_set]; rfl
                have S := S.rowEq 4 hX hXl rfl
                exact fin F [.cell 8 25, .tmp 9] [.agg #[.slice As x.spots.length cs, .slice A21 ((([] : List Edg) ++ x.edges).length) c22], .int .i64 0] rfl ⟨⟨_, by kernel_rfl, resK S 2 (cs := [.slice As x.spots.length cs, .slice A21 ((([] : List Edg) ++ x.edges).length) c22]) rfl (by kernel_rfl) (by kernel_rfl) (by simp)⟩, by kernel_rfl, trivial⟩ (.tuple #[.agg #[.slice As x.spots.length cs, .slice A21 ((([] : List Edg) ++ x.edges).length) c22], .int .i64 0]) rfl ⟨As, cs, A21, c22, by rw [hXl], .inl ⟨rfl, rfl, rfl⟩, S.pick [0, 4] (by decide)⟩
            · skip
              obtain ⟨rfl, rfl⟩ := Prod.mk.inj (hs.symm.trans (sentP_over hc hed hs0 (by decide) hcan ht19))
              refine l_do F rfl rfl (op_pure F (v0 := .bool (((addP ed.c0 am).2 : Int) != (0 : Int))) (v := .bool true) (by kernel_rfl) (neqT ht19) fun a F => ?_)
              refine l_then ?_
              refine c_t F rfl ?_
              refine s_reg ?_
              refine l_pure 2 (fun L => (76, .int .i64 ((addP ed.c0 am).2)) :: (75, .agg #[.slice none 0 0, .slice none 0 0]) :: L) F (by kernel_rfl) fun a F => ?_
              refine l_do F rfl rfl (op_storeB S 2 _ _ _ b2 0 (.agg #[.slice none 0 0, .slice none 0 0]) F rfl rfl (by kernel_rfl) (by kernel_rfl) (by kernel_rfl) (by kernel_rfl) (by kernel_rfl) fun z S a F => ?_)
              refine l_pure 1 (fun L => (9, .int .i64 ((addP ed.c0 am).2)) :: L) F (by kernel_rfl) fun a F => ?_
              refine l_then ?_
              refine wp_ret ?_
              refine then_r (?_)
              exact fin F [.cell 8 25, .tmp 9] [.agg #[.slice none 0 0, .slice none 0 0], .int .i64 ((addP ed.c0 am).2)] rfl ⟨⟨_, by kernel_rfl, resK S 2 (cs := [.slice none 0 0, .slice none 0 0]) rfl (by kernel_rfl) (by kernel_rfl) (by simp)⟩, by kernel_rfl, trivial⟩ (.tuple #[.agg #[.slice none 0 0, .slice none 0 0], .int .i64 ((addP ed.c0 am).2)]) rfl ⟨none, 0, none, 0, rfl, .inr ⟨by first | decide | assumption, rfl, rfl, rfl, rfl⟩, (S.nilRow 104 8).pick [0, 4] (by decide)⟩
        · skip
          obtain ⟨rfl, rfl⟩ := Prod.mk.inj (hs.symm.trans (sentP_none hc hed am hs0))
          refine l_do F rfl rfl (op_pure F (v0 := .bool ((ed.b : Int) == (nd : Int))) (v := .bool false) (by kernel_rfl) (eqlF (by omega)) fun a F => ?_)
          refine l_then ?_
          refine c_f F rfl ?_
          refine wp_skip ?_
          refine inb_n ?_
          refine then_n ?_
          refine wp_region_list ?_
          refine l_pure 3 (fun L => (12, .int .i64 0) :: (36, .int .i64 0) :: (35, .int .i64 1) :: L) F (by kernel_rfl) fun a F => ?_
          refine l_then ?_
          refine rnd ?_
          refine wp_seq ?_
          refine s_reg ?_
          refine l_pure 2 (fun L => (34, .bool true) :: (33, .int .i64 0) :: L) F (by kernel_rfl) fun a F => ?_
          refine l_then ?_
          refine c_t F rfl ?_
          refine wp_skip ?_
          refine then_n ?_
          refine wp_seq ?_
          refine wp_block ?_
          refine s_reg ?_
          refine l_pure 1 (fun L => (37, .pointer (some ⟨b1, 1, none⟩)) :: L) F (by kernel_rfl) fun a F => ?_
          refine l_do F rfl rfl (op_load _ _ (some ⟨b1, 0, none⟩) 1 (.slice Ae x.edges.length ce) F rfl (by kernel_rfl) (by kernel_rfl) (cBox S 1 rfl (j := 1) rfl) (fun a F => ?_))
          refine l_pure 2 (fun L => (40, .int .i64 0) :: (39, .int .i64 (k : Nat)) :: L) F (by kernel_rfl) fun a F => ?_
          refine l_do F rfl rfl (op_index _ 104 _ _ Ae x.edges.length ce k 8 .i64 F rfl (by kernel_rfl) (by kernel_rfl) (by kernel_rfl) (by kernel_rfl) (get_lt hed) (recs_some h.e (m := k) (get_lt hed)) (fun a F => ?_))
          refine l_do F rfl rfl (op_field _ _ _ Ae (k * 8) 0 F rfl (by kernel_rfl) (by kernel_rfl) (recs_some h.e (m := k) (get_lt hed)) (fun a F => ?_))
          refine l_do F rfl rfl (op_indexArr _ 3 _ _ Ae (k * 8) 2 0 1 .i64 F rfl (by kernel_rfl) (by kernel_rfl) (by kernel_rfl) (by kernel_rfl) (by decide) (recs_some h.e (m := k) (get_lt hed)) (fun a F => ?_))
          refine l_do F rfl rfl (op_load _ _ Ae (k * 8) (.int .i64 ed.a) F rfl (by kernel_rfl) (by kernel_rfl) (cOld S 0 edC_len h.e rfl 0 hed rfl) (fun a F => ?_))
          refine l_pure 1 (fun L => (45, .int .i64 nd) :: L) F (by kernel_rfl) fun a F => ?_
          refine l_do F rfl rfl (op_pure F (v0 := .bool ((ed.a : Int) == (nd : Int))) (v := .bool false) (by kernel_rfl) (eqlF (by omega)) fun a F => ?_)
          refine l_then ?_
          refine c_f F rfl ?_
          refine wp_skip ?_
          refine inb_n ?_
          refine then_n ?_
          refine wp_region_list ?_
          refine l_pure 3 (fun L => (12, .int .i64 (-1)) :: (36, .int .i64 (-1)) :: (35, .int .i64 0) :: L) F (by kernel_rfl) fun a F => ?_
          refine l_then ?_
          refine rnd ?_
          refine wp_seq ?_
          refine s_reg ?_
          refine l_pure 2 (fun L => (34, .bool false) :: (33, .int .i64 (-1)) :: L) F (by kernel_rfl) fun a F => ?_
          refine l_then ?_
          refine c_f F rfl ?_
          refine wp_exit ?_
          refine then_x ?_
          refine then_x ?_
          refine inb_x ?_
          refine then_n ?_
          refine wp_seq ?_
          refine s_reg ?_
          refine l_pure 2 (fun L => (49, .bool true) :: (48, .int .i64 (-1)) :: L) F (by kernel_rfl) fun a F => ?_
          refine l_then ?_
          refine c_t F rfl ?_
          refine s_reg ?_
          refine l_pure 1 (fun L => (50, .agg #[.slice none 0 0, .slice none 0 0]) :: L) F (by kernel_rfl) fun a F => ?_
          refine l_do F rfl rfl (op_storeB S 2 _ _ _ b2 0 (.agg #[.slice none 0 0, .slice none 0 0]) F rfl rfl (by kernel_rfl) (by kernel_rfl) (by kernel_rfl) (by kernel_rfl) (by kernel_rfl) fun z S a F => ?_)
          refine l_pure 1 (fun L => (9, .int .i64 1) :: L) F (by kernel_rfl) fun a F => ?_
          refine l_then ?_
          refine wp_ret ?_
          refine then_r (?_)
          exact fin F [.cell 8 25, .tmp 9] [.agg #[.slice none 0 0, .slice none 0 0], .int .i64 1] rfl ⟨⟨_, by kernel_rfl, resK S 2 (cs := [.slice none 0 0, .slice none 0 0]) rfl (by kernel_rfl) (by kernel_rfl) (by simp)⟩, by kernel_rfl, trivial⟩ (.tuple #[.agg #[.slice none 0 0, .slice none 0 0], .int .i64 1]) rfl ⟨none, 0, none, 0, rfl, .inr ⟨by first | decide | assumption, rfl, rfl, rfl, rfl⟩, (S.nilRow 104 8).pick [0, 3] (by decide)⟩
  · skip
    have hc := ht3
    obtain ⟨rfl, rfl⟩ := Prod.mk.inj (hs.symm.trans (sentP_bad hc))
    refine l_do F rfl rfl (op_pure F (v0 := .bool ((chkP x : Int) != (0 : Int))) (v := .bool true) (by kernel_rfl) (neqT ht3) fun a F => ?_)
    refine l_then ?_
    refine c_t F rfl ?_
    refine s_reg ?_
    refine l_pure 2 (fun L => (22, .int .i64 (chkP x)) :: (21, .agg #[.slice none 0 0, .slice none 0 0]) :: L) F (by kernel_rfl) fun a F => ?_
    refine l_do F rfl rfl (op_storeB S 2 _ _ _ b2 0 (.agg #[.slice none 0 0, .slice none 0 0]) F rfl rfl (by kernel_rfl) (by kernel_rfl) (by kernel_rfl) (by kernel_rfl) (by kernel_rfl) fun z S a F => ?_)
    refine l_pure 1 (fun L => (9, .int .i64 (chkP x)) :: L) F (by kernel_rfl) fun a F => ?_
    refine l_then ?_
    refine wp_ret ?_
    refine then_r (?_)
    exact fin F [.cell 8 25, .tmp 9] [.agg #[.slice none 0 0, .slice none 0 0], .int .i64 (chkP x)] rfl ⟨⟨_, by kernel_rfl, resK S 2 (cs := [.slice none 0 0, .slice none 0 0]) rfl (by kernel_rfl) (by kernel_rfl) (by simp)⟩, by kernel_rfl, trivial⟩ (.tuple #[.agg #[.slice none 0 0, .slice none 0 0], .int .i64 (chkP x)]) rfl ⟨none, 0, none, 0, rfl, .inr ⟨by first | decide | assumption, rfl, rfl, rfl, rfl⟩, (S.nilRow 104 8).pick [0, 3] (by decide)⟩
end Go.Proofs.Ytcfpbemoocegfaa
