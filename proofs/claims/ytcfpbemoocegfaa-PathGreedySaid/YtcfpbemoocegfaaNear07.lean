/- Walks over webs: which neighbour lies nearest. -/
import Derived.Test.YtcfpbemoocegfaaNearP
import Derived.Test.YtcfpbemoocegfaaReach07
namespace Go.Proofs.Ytcfpbemoocegfaa
set_option linter.unusedVariables false
set_option linter.unusedSimpArgs false
set_option linter.unnecessarySimpa false
open Go Go.RowKit

set_option maxRecDepth 100000 in
set_option maxHeartbeats 4000000 in
theorem neighbour_any (w : World) (As : Option Addr) (cs : Nat) (Ae : Option Addr) (ce : Nat) (x : Wb) (h : WebAt w As cs Ae ce x) (ok : x.Ok) (n : Int) (t : Int × Int) (am : Int) : Calls Try.prog 67 #[.agg #[.slice As x.spots.length cs, .slice Ae x.edges.length ce], .int .i64 n, .agg #[.int .i64 t.1, .int .i64 t.2], .int .u64 am] w fun e w' => e = .returned (.int .i64 (nearP x n t am)) ∧ Below w.heap.size w w' := by
  refine enter 50 Try.func67 rfl rfl rfl fun a F => ?_
  have S := Sat.pushRest w
  refine s_reg ?_
  refine l_do F rfl rfl (op_box S _ _ (.agg #[.slice As x.spots.length cs, .slice Ae x.edges.length ce]) F rfl (by kernel_rfl) fun b1 z S a F => ?_)
  refine l_do F rfl rfl (op_box S _ _ (.agg #[.int .i64 t.1, .int .i64 t.2]) F rfl (by kernel_rfl) fun b2 z S a F => ?_)
  refine l_pure 1 (fun L => (8, .int .i64 0) :: L) F (by kernel_rfl) fun a F => ?_
  refine l_then ?_
  refine s_reg ?_
  refine l_pure 1 (fun L => (9, .slice none 0 0) :: L) F (by kernel_rfl) fun a F => ?_
  refine l_then ?_
  refine s_reg ?_
  refine l_pure 1 (fun L => (10, .slice none 0 0) :: L) F (by kernel_rfl) fun a F => ?_
  refine l_then ?_
  refine wp_seq ?_
  refine s_reg ?_
  refine l_do F rfl rfl (op_loadK _ _ (some ⟨b1, 0, none⟩) 0 [.slice As x.spots.length cs, .slice Ae x.edges.length ce] F rfl (by kernel_rfl) (by kernel_rfl) (by kernel_rfl) (by simp) (cBoxK S 1 rfl 0 (by kernel_rfl)) (fun a F => ?_))
  refine l_pure 1 (fun L => (15, .int .i64 n) :: L) F (by kernel_rfl) fun a F => ?_
  refine l_do F rfl rfl (op_fn F (by kernel_rfl) (steps_any _ As cs Ae ce x (h.move S rfl) ok n) ?_)
  rintro e z ⟨A3, c4, rfl, g⟩
  have S := S.pushThings g
  refine ⟨_, rfl, ?_⟩
  intro a F
  refine l_pure 2 (fun L => (18, .int .i64 0) :: (17, .int .i64 ((stepsP x n).length : Nat)) :: L) F (by kernel_rfl) fun a F => ?_
  refine l_then ?_
  refine wp_block ?_
  have hfew := steps_few x n
  refine wp_loop_m (fun m a z => ∃ (k : Nat) (A : Option Addr) (c : Nat) (A2 : Option Addr) (c2 : Nat), m = (stepsP x n).length - k ∧ (k ≤ (stepsP x n).length) ∧ Fr a 50 [(3, .int .u64 am), (4, .pointer (some ⟨b1, 0, none⟩)), (6, .pointer (some ⟨b2, 0, none⟩)), (9, .slice A (((fltP x n am k).map Stp.to).length) c), (10, .slice A2 ((spotsOf x (fltP x n am k)).length) c2), (16, .slice A3 ((stepsP x n).length) c4), (17, .int .i64 ((stepsP x n).length : Nat)), (18, .int .i64 (k : Nat))] ∧ Sat w z [rest w (· < w.heap.size), box b1 32 [.slice As x.spots.length cs, .slice Ae x.edges.length ce], box b2 107 [.int .i64 t.1, .int .i64 t.2], row 133 5 (.slice A3 ((stepsP x n).length) c4) ((stepsP x n).length) ((stepsP x n).flatMap stC), row 3 1 (.slice A (((fltP x n am k).map Stp.to).length) c) (((fltP x n am k).map Stp.to).length) (((fltP x n am k).map Stp.to).flatMap iC_i64), row 107 2 (.slice A2 ((spotsOf x (fltP x n am k)).length) c2) ((spotsOf x (fltP x n am k)).length) ((spotsOf x (fltP x n am k)).flatMap spC)]) _ ⟨0, none, 0, none, 0, rfl, Nat.zero_le _, F.sub ⟨by kernel_rfl, by kernel_rfl, by kernel_rfl, by kernel_rfl, by kernel_rfl, by kernel_rfl, by kernel_rfl, by kernel_rfl, trivial⟩, ((S.nilRow 3 1).nilRow 107 2)⟩ ?_
  rintro m a z ⟨k, A, c, A2, c2, hm, hf5, F, S⟩
  have hfl := fltP_len x n am k
  refine s_reg ?_
  by_cases ht6 : ((k : Nat) : Int) < (((stepsP x n).length : Nat) : Int)
  · skip
    obtain ⟨s, hs⟩ : ∃ s, (stepsP x n)[k]? = some s := ⟨_, List.getElem?_eq_getElem (by omega)⟩
    have hto := step_to (List.mem_of_getElem? hs)
    obtain ⟨se, sto, sc, sb, sr⟩ := s
    dsimp only at hto
    obtain ⟨q, rfl⟩ : ∃ q : Nat, sto = q := ⟨sto.toNat, by omega⟩
    obtain ⟨sp, hsp⟩ : ∃ sp, x.spots[q]? = some sp := ⟨_, List.getElem?_eq_getElem (by omega)⟩
    obtain ⟨sx, sy⟩ := sp
    have hspo := spot_at (s := ⟨se, (q : Int), sc, sb, sr⟩) rfl hsp
    have hfl := fltP_len x n am k
    refine l_do F rfl rfl (op_pure F (v0 := .bool (decide (((k : Nat) : Int) < (((stepsP x n).length : Nat) : Int)))) (v := .bool true) (by kernel_rfl) (lssT ht6) fun a F => ?_)
    refine l_then ?_
    refine wp_seq ?_
    refine c_t F rfl ?_
    refine wp_skip ?_
    refine then_n ?_
    refine wp_seq ?_
    refine wp_block ?_
    refine s_reg ?_
    refine l_do F rfl rfl (op_index _ 133 _ _ A3 ((stepsP x n).length) c4 k 5 .i64 F rfl (by kernel_rfl) (by kernel_rfl) (by kernel_rfl) (by kernel_rfl) (get_lt hs) (row_some S 3 rfl (m := k) (get_lt hs)) (fun a F => ?_))
    refine l_do F rfl rfl (op_loadK _ _ A3 (k * 5) [.int .i64 se, .int .i64 (q : Int), .int .u64 sc, .int .u64 sb, .int .u64 sr] F rfl (by kernel_rfl) (by kernel_rfl) (by kernel_rfl) (by simp) (cRecK0 S 3 stC_len rfl hs (by kernel_rfl)) (fun a F => ?_))
    refine l_do F rfl rfl (op_alloc S _ (.agg #[.int .i64 0, .int .i64 0, .int .u64 0, .int .u64 0, .int .u64 0]) rfl (by kernel_rfl) fun b7 z S a F => ?_)
    refine l_do F rfl rfl (op_storeB S 6 _ _ _ b7 0 (.agg #[.int .i64 se, .int .i64 (q : Int), .int .u64 sc, .int .u64 sb, .int .u64 sr]) F rfl rfl (by kernel_rfl) (by kernel_rfl) (by kernel_rfl) (by kernel_rfl) (by kernel_rfl) fun z S a F => ?_)
    refine l_then ?_
    refine s_reg ?_
    refine l_pure 1 (fun L => (22, .pointer (some ⟨b7, 2, none⟩)) :: L) F (by kernel_rfl) fun a F => ?_
    refine l_do F rfl rfl (op_load _ _ (some ⟨b7, 0, none⟩) 2 (.int .u64 sc) F rfl (by kernel_rfl) (by kernel_rfl) (cBox S 6 rfl (j := 2) rfl) (fun a F => ?_))
    refine l_pure 1 (fun L => (24, .int .u64 am) :: L) F (by kernel_rfl) fun a F => ?_
    by_cases ht8 : (am : Int) ≤ (sc : Int)
    · skip
      refine l_do F rfl rfl (op_pure F (v0 := .bool (decide ((sc : Int) ≥ (am : Int)))) (v := .bool true) (by kernel_rfl) (geqT ht8) fun a F => ?_)
      refine l_then ?_
      refine c_t F rfl ?_
      have S := S.pushEmp.pushEmp
      refine region_gx (fun D => fun ((b9, A10, c11, b12, A13, c14) : Nat × Option Addr × Nat × Nat × Option Addr × Nat) => [rest w (· < w.heap.size), box b1 32 [.slice As x.spots.length cs, .slice Ae x.edges.length ce], box b2 107 [.int .i64 t.1, .int .i64 t.2], row 133 5 (.slice A3 ((stepsP x n).length) c4) ((stepsP x n).length) ((stepsP x n).flatMap stC), bif D 4 then row 3 1 (.slice A10 ((((fltP x n am k).map Stp.to) ++ ([(q : Int)] : List Int)).length) c11) ((((fltP x n am k).map Stp.to) ++ ([(q : Int)] : List Int)).length) ((((fltP x n am k).map Stp.to) ++ ([(q : Int)] : List Int)).flatMap iC_i64) else row 3 1 (.slice A (((fltP x n am k).map Stp.to).length) c) (((fltP x n am k).map Stp.to).length) (((fltP x n am k).map Stp.to).flatMap iC_i64), bif D 13 then row 107 2 (.slice A13 (((spotsOf x (fltP x n am k)) ++ ([((sx, sy) : Int × Int)] : List (Int × Int))).length) c14) (((spotsOf x (fltP x n am k)) ++ ([((sx, sy) : Int × Int)] : List (Int × Int))).length) (((spotsOf x (fltP x n am k)) ++ ([((sx, sy) : Int × Int)] : List (Int × Int))).flatMap spC) else row 107 2 (.slice A2 ((spotsOf x (fltP x n am k)).length) c2) ((spotsOf x (fltP x n am k)).length) ((spotsOf x (fltP x n am k)).flatMap spC), box b7 133 [.int .i64 se, .int .i64 (q : Int), .int .u64 sc, .int .u64 sb, .int .u64 sr], bif D 3 then row 3 1 (.slice (some ⟨b9, 0, none⟩) 1 1) 1 (([(q : Int)] : List Int).flatMap iC_i64) else emp, bif D 12 then row 107 2 (.slice (some ⟨b12, 0, none⟩) 1 1) 1 (([((sx, sy) : Int × Int)] : List (Int × Int)).flatMap spC) else emp]) (fun ((b9, A10, c11, b12, A13, c14) : Nat × Option Addr × Nat × Nat × Option Addr × Nat) => [.slice A (((fltP x n am k).map Stp.to).length) c, .pointer (some ⟨b7, 1, none⟩), .int .i64 (q : Int), .slice (some ⟨b9, 0, none⟩) 1 1, .slice A10 ((((fltP x n am k).map Stp.to) ++ ([(q : Int)] : List Int)).length) c11, .slice A2 ((spotsOf x (fltP x n am k)).length) c2, .pointer (some ⟨b1, 0, none⟩), .slice As x.spots.length cs, .pointer (some ⟨b7, 1, none⟩), .int .i64 (q : Int), ptrA As (q * 2), .agg #[.int .i64 sx, .int .i64 sy], .slice (some ⟨b12, 0, none⟩) 1 1, .slice A13 (((spotsOf x (fltP x n am k)) ++ ([((sx, sy) : Int × Int)] : List (Int × Int))).length) c14, .slice A10 ((((fltP x n am k).map Stp.to) ++ ([(q : Int)] : List Int)).length) c11, .slice A13 (((spotsOf x (fltP x n am k)) ++ ([((sx, sy) : Int × Int)] : List (Int × Int))).length) c14]) [(2, [], [3, 4, 13]), (3, [2], [4, 13]), (4, [2, 3], [13]), (7, [], [10, 11, 12, 13]), (9, [], [10, 11, 12, 13]), (10, [7, 9], [11, 12, 13]), (11, [7, 9, 10], [12, 13]), (12, [7, 9, 10, 11], [13]), (13, [2, 3, 4, 7, 9, 10, 11, 12], [])] (0, none, 0, 0, none, 0) rfl (by kernel_rfl) (by kernel_rfl) F S.drew ?_ ?_ ?_ ?_ ?_
      · rintro ⟨b9, A10, c11, b12, A13, c14⟩; rfl
      · rintro ⟨b9, A10, c11, b12, A13, c14⟩; kernel_rfl
      · intro D D' x h
        obtain ⟨b9, A10, c11, b12, A13, c14⟩ := x
        simp only [h 3 (by decide), h 4 (by decide), h 12 (by decide), h 13 (by decide)]
      · refine ⟨?_, ?_⟩
        · refine ⟨_, rfl, rfl, by kernel_rfl, ?_⟩
          rintro D ⟨b9, A10, c11, b12, A13, c14⟩ a z S F
          refine ⟨by kernel_rfl, ?_⟩
          exact op_load _ _ (some ⟨b7, 0, none⟩) 1 (.int .i64 (q : Int)) F rfl (by kernel_rfl) (by kernel_rfl) (cBox S 6 rfl (j := 1) rfl) (⟨(b9, A10, c11, b12, A13, c14), rfl, (SameB.refl _ _ rfl), S⟩)
        refine ⟨?_, ?_⟩
        · refine ⟨_, rfl, rfl, by kernel_rfl, ?_⟩
          rintro D ⟨b9, A10, c11, b12, A13, c14⟩ a z S F
          refine ⟨by kernel_rfl, ?_⟩
          exact op_buildSliceF S 7 rfl _ 1 _ 3 1 iC_i64 ([(q : Int)] : List Int) F rfl (by kernel_rfl) (by kernel_rfl) (by kernel_rfl) (by unfold maxLen; omega) fun y15 z S => ⟨(y15, A10, c11, b12, A13, c14), rfl, ⟨rfl, rfl, rfl, trivial, trivial, rfl, rfl, rfl, rfl, rfl, rfl, rfl, rfl, trivial, trivial, trivial, trivial⟩, S⟩
        refine ⟨?_, ?_⟩
        · refine ⟨_, rfl, rfl, by kernel_rfl, ?_⟩
          rintro D ⟨b9, A10, c11, b12, A13, c14⟩ a z S F
          refine ⟨by kernel_rfl, ?_⟩
          exact op_append S 4 _ _ _ 3 (.int .i64 0) 1 8 ((fltP x n am k).map Stp.to) ([(q : Int)] : List Int) iC_i64 (some ⟨b9, 0, none⟩) 1 F iC_len_i64 (fun _ => rfl) rfl rfl (by kernel_rfl) (by kernel_rfl) rfl rfl rfl (by kernel_rfl) (by kernel_rfl) (row_none (S.rowOf (i := 7) rfl)) (src_row (S.rowOf (i := 7) rfl)) (by first | omega | (simp [spotsOf_len]; omega)) fun y16 y17 z S => ⟨(b9, y16, y17, b12, A13, c14), rfl, ⟨rfl, rfl, rfl, rfl, trivial, rfl, rfl, rfl, rfl, rfl, rfl, rfl, rfl, trivial, trivial, trivial, trivial⟩, S⟩
        refine ⟨?_, ?_⟩
        · refine ⟨_, rfl, rfl, by kernel_rfl, ?_⟩
          rintro D ⟨b9, A10, c11, b12, A13, c14⟩ a z S F
          refine ⟨by kernel_rfl, ?_⟩
          exact op_load _ _ (some ⟨b1, 0, none⟩) 0 (.slice As x.spots.length cs) F rfl (by kernel_rfl) (by kernel_rfl) (cBox S 1 rfl (j := 0) rfl) (⟨(b9, A10, c11, b12, A13, c14), rfl, (SameB.refl _ _ rfl), S⟩)
        refine ⟨?_, ?_⟩
        · refine ⟨_, rfl, rfl, by kernel_rfl, ?_⟩
          rintro D ⟨b9, A10, c11, b12, A13, c14⟩ a z S F
          refine ⟨by kernel_rfl, ?_⟩
          exact op_load _ _ (some ⟨b7, 0, none⟩) 1 (.int .i64 (q : Int)) F rfl (by kernel_rfl) (by kernel_rfl) (cBox S 6 rfl (j := 1) rfl) (⟨(b9, A10, c11, b12, A13, c14), rfl, (SameB.refl _ _ rfl), S⟩)
        refine ⟨?_, ?_⟩
        · refine ⟨_, rfl, rfl, by kernel_rfl, ?_⟩
          rintro D ⟨b9, A10, c11, b12, A13, c14⟩ a z S F
          refine ⟨by kernel_rfl, ?_⟩
          exact op_index _ 107 _ _ As x.spots.length cs q 2 .i64 F rfl (by kernel_rfl) (by kernel_rfl) (by kernel_rfl) (by kernel_rfl) (get_lt hsp) (recs_some h.s (m := q) (get_lt hsp)) (⟨(b9, A10, c11, b12, A13, c14), rfl, (SameB.refl _ _ rfl), S⟩)
        refine ⟨?_, ?_⟩
        · refine ⟨_, rfl, rfl, by kernel_rfl, ?_⟩
          rintro D ⟨b9, A10, c11, b12, A13, c14⟩ a z S F
          refine ⟨by kernel_rfl, ?_⟩
          exact op_loadK _ _ As (q * 2) [.int .i64 sx, .int .i64 sy] F rfl (by kernel_rfl) (by kernel_rfl) (by kernel_rfl) (by simp) (cOldK0 S 0 spC_len h.s rfl hsp (by kernel_rfl)) (⟨(b9, A10, c11, b12, A13, c14), rfl, (SameB.refl _ _ rfl), S⟩)
        refine ⟨?_, ?_⟩
        · refine ⟨_, rfl, rfl, by kernel_rfl, ?_⟩
          rintro D ⟨b9, A10, c11, b12, A13, c14⟩ a z S F
          refine ⟨by kernel_rfl, ?_⟩
          exact op_buildSliceF S 8 rfl _ 1 _ 107 2 spC ([((sx, sy) : Int × Int)] : List (Int × Int)) F rfl (by kernel_rfl) (by kernel_rfl) (by kernel_rfl) (by unfold maxLen; omega) fun y18 z S => ⟨(b9, A10, c11, y18, A13, c14), rfl, ⟨rfl, rfl, rfl, rfl, rfl, rfl, rfl, rfl, rfl, rfl, rfl, rfl, trivial, trivial, trivial, trivial, trivial⟩, S⟩
        refine ⟨?_, ?_⟩
        · refine ⟨_, rfl, rfl, by kernel_rfl, ?_⟩
          rintro D ⟨b9, A10, c11, b12, A13, c14⟩ a z S F
          refine ⟨by kernel_rfl, ?_⟩
          exact op_append S 5 _ _ _ 107 (.agg #[.int .i64 0, .int .i64 0]) 2 16 (spotsOf x (fltP x n am k)) ([((sx, sy) : Int × Int)] : List (Int × Int)) spC (some ⟨b12, 0, none⟩) 1 F spC_len (fun _ => rfl) rfl rfl (by kernel_rfl) (by kernel_rfl) rfl rfl rfl (by kernel_rfl) (by kernel_rfl) (row_none (S.rowOf (i := 8) rfl)) (src_row (S.rowOf (i := 8) rfl)) (by first | omega | (simp [spotsOf_len]; omega)) fun y19 y20 z S => ⟨(b9, A10, c11, b12, y19, y20), rfl, ⟨rfl, rfl, rfl, rfl, rfl, rfl, rfl, rfl, rfl, rfl, rfl, rfl, rfl, trivial, trivial, trivial, trivial⟩, S⟩
        trivial
      · rintro ⟨b9, A10, c11, b12, A13, c14⟩ a z F S
        have F := F.sub (l := [(3, .int .u64 am), (4, .pointer (some ⟨b1, 0, none⟩)), (6, .pointer (some ⟨b2, 0, none⟩)), (9, .slice A10 ((((fltP x n am k).map Stp.to) ++ ([(q : Int)] : List Int)).length) c11), (10, .slice A13 (((spotsOf x (fltP x n am k)) ++ ([((sx, sy) : Int × Int)] : List (Int × Int))).length) c14), (16, .slice A3 ((stepsP x n).length) c4), (17, .int .i64 ((stepsP x n).length : Nat)), (18, .int .i64 (k : Nat))]) ⟨by kernel_rfl, by kernel_rfl, by kernel_rfl, by kernel_rfl, by kernel_rfl, by kernel_rfl, by kernel_rfl, by kernel_rfl, trivial⟩
        have S : Sat w z [rest w (· < w.heap.size), box b1 32 [.slice As x.spots.length cs, .slice Ae x.edges.length ce], box b2 107 [.int .i64 t.1, .int .i64 t.2], row 133 5 (.slice A3 ((stepsP x n).length) c4) ((stepsP x n).length) ((stepsP x n).flatMap stC), row 3 1 (.slice A10 ((((fltP x n am k).map Stp.to) ++ ([(q : Int)] : List Int)).length) c11) ((((fltP x n am k).map Stp.to) ++ ([(q : Int)] : List Int)).length) ((((fltP x n am k).map Stp.to) ++ ([(q : Int)] : List Int)).flatMap iC_i64), row 107 2 (.slice A13 (((spotsOf x (fltP x n am k)) ++ ([((sx, sy) : Int × Int)] : List (Int × Int))).length) c14) (((spotsOf x (fltP x n am k)) ++ ([((sx, sy) : Int × Int)] : List (Int × Int))).length) (((spotsOf x (fltP x n am k)) ++ ([((sx, sy) : Int × Int)] : List (Int × Int))).flatMap spC), box b7 133 [.int .i64 se, .int .i64 (q : Int), .int .u64 sc, .int .u64 sb, .int .u64 sr], row 3 1 (.slice (some ⟨b9, 0, none⟩) 1 1) 1 (([(q : Int)] : List Int).flatMap iC_i64), row 107 2 (.slice (some ⟨b12, 0, none⟩) 1 1) 1 (([((sx, sy) : Int × Int)] : List (Int × Int)).flatMap spC)] := S
        refine inb_n ?_
        refine then_n ?_
        refine wp_region_list ?_
        refine l_do F rfl rfl (op_pure F (v0 := .int .i64 (IntKind.wrap .i64 ((k : Nat) + 1))) (v := .int .i64 (k + 1 : Nat)) (by kernel_rfl) (wrn_i64 (by omega) (by omega) (by omega)) fun a F => ?_)
        refine l_pure 1 (fun L => (18, .int .i64 (k + 1 : Nat)) :: L) F (by kernel_rfl) fun a F => ?_
        refine l_then ?_
        have e0 := fltP_yes hs ht8
        have e1 : (((fltP x n am k).map Stp.to) ++ ([(q : Int)] : List Int)) = ((fltP x n am (k + 1)).map Stp.to) := by rw [e0, List.map_append]; rfl
        have e2 : ((spotsOf x (fltP x n am k)) ++ ([((sx, sy) : Int × Int)] : List (Int × Int))) = (spotsOf x (fltP x n am (k + 1))) := by rw [e0]; simp [spotsOf, hspo]
        rw [e1, e2] at F S
        exact ⟨_, (by omega), k + 1, A10, c11, A13, c14, rfl, (by omega), F.sub ⟨by kernel_rfl, by kernel_rfl, by kernel_rfl, by kernel_rfl, by kernel_rfl, by kernel_rfl, by kernel_rfl, by kernel_rfl, trivial⟩, (S.pick [0, 1, 2, 3, 4, 5] (by decide))⟩
    · skip
      refine l_do F rfl rfl (op_pure F (v0 := .bool (decide ((sc : Int) ≥ (am : Int)))) (v := .bool false) (by kernel_rfl) (geqF ht8) fun a F => ?_)
      refine l_then ?_
      refine c_f F rfl ?_
      refine wp_skip ?_
      refine inb_n ?_
      refine then_n ?_
      refine wp_region_list ?_
      refine l_do F rfl rfl (op_pure F (v0 := .int .i64 (IntKind.wrap .i64 ((k : Nat) + 1))) (v := .int .i64 (k + 1 : Nat)) (by kernel_rfl) (wrn_i64 (by omega) (by omega) (by omega)) fun a F => ?_)
      refine l_pure 1 (fun L => (18, .int .i64 (k + 1 : Nat)) :: L) F (by kernel_rfl) fun a F => ?_
      refine l_then ?_
      have e0 := fltP_no hs ht8
      rw [← e0] at F S
      exact ⟨_, (by omega), k + 1, A, c, A2, c2, rfl, (by omega), F.sub ⟨by kernel_rfl, by kernel_rfl, by kernel_rfl, by kernel_rfl, by kernel_rfl, by kernel_rfl, by kernel_rfl, by kernel_rfl, trivial⟩, (S.pick [0, 1, 2, 3, 4, 5] (by decide))⟩
  · skip
    refine l_do F rfl rfl (op_pure F (v0 := .bool (decide (((k : Nat) : Int) < (((stepsP x n).length : Nat) : Int)))) (v := .bool false) (by kernel_rfl) (lssF ht6) fun a F => ?_)
    refine l_then ?_
    refine wp_seq ?_
    refine c_f F rfl ?_
    refine wp_exit ?_
    refine then_x ?_
    refine then_x ?_
    refine inb_x ?_
    refine then_n ?_
    refine wp_seq ?_
    refine s_reg ?_
    refine l_do F rfl rfl (op_loadK _ _ (some ⟨b2, 0, none⟩) 0 [.int .i64 t.1, .int .i64 t.2] F rfl (by kernel_rfl) (by kernel_rfl) (by kernel_rfl) (by simp) (cBoxK S 2 rfl 0 (by kernel_rfl)) (fun a F => ?_))
    refine l_pure 1 (fun L => (42, .slice A2 ((spotsOf x (fltP x n am k)).length) c2) :: L) F (by kernel_rfl) fun a F => ?_
    refine l_do F rfl rfl (op_fn F (by kernel_rfl) (near_any t (spotsOf x (fltP x n am k)) A2 c2 _ (rowOf_recs (Recs.ofRow (S.rowOf (i := 5) rfl) (by rw [spotsOf_len]; omega))) (by rw [spotsOf_len]; omega)) ?_)
    rintro e z ⟨rfl, hb⟩
    have S := S.grow hb
    generalize hix : nb t (spotsOf x (fltP x n am k)) (spotsOf x (fltP x n am k)).length = ix
    refine ⟨_, rfl, ?_⟩
    intro a F
    refine l_pure 1 (fun L => (13, .int .i64 ix) :: L) F (by kernel_rfl) fun a F => ?_
    refine l_then ?_
    refine s_reg ?_
    refine l_pure 1 (fun L => (44, .int .i64 ix) :: L) F (by kernel_rfl) fun a F => ?_
    by_cases ht21 : (0 : Int) ≤ (ix : Int)
    · skip
      obtain ⟨m, rfl⟩ : ∃ m : Nat, ix = m := ⟨ix.toNat, by omega⟩
      have hbd := nb_bd t (spotsOf x (fltP x n am k)) (spotsOf x (fltP x n am k)).length
      rw [hix] at hbd
      obtain ⟨nd, hnd⟩ : ∃ nd, ((fltP x n am k).map Stp.to)[m]? = some nd := ⟨_, List.getElem?_eq_getElem (by rw [spotsOf_len] at hbd; simp; omega)⟩
      refine l_do F rfl rfl (op_pure F (v0 := .bool (decide (((m : Nat) : Int) ≥ (0 : Int)))) (v := .bool true) (by kernel_rfl) (geqT (by omega)) fun a F => ?_)
      refine l_then ?_
      refine c_t F rfl ?_
      refine s_reg ?_
      refine l_pure 2 (fun L => (47, .int .i64 (m : Nat)) :: (46, .slice A (((fltP x n am k).map Stp.to).length) c) :: L) F (by kernel_rfl) fun a F => ?_
      refine l_do F rfl rfl (op_index _ 3 _ _ A (((fltP x n am k).map Stp.to).length) c m 1 .i64 F rfl (by kernel_rfl) (by kernel_rfl) (by kernel_rfl) (by kernel_rfl) (get_lt hnd) (row_some S 4 rfl (m := m) (get_lt hnd)) (fun a F => ?_))
      refine l_do F rfl rfl (op_load _ _ A (m * 1) (.int .i64 nd) F rfl (by kernel_rfl) (by kernel_rfl) (cRec S 4 iC_len_i64 rfl 0 hnd rfl) (fun a F => ?_))
      refine l_pure 1 (fun L => (8, .int .i64 nd) :: L) F (by kernel_rfl) fun a F => ?_
      refine l_then ?_
      refine wp_ret ?_
      refine then_r (?_)
      exact fin F [.tmp 8] [.int .i64 nd] rfl ⟨by kernel_rfl, trivial⟩ (.int .i64 nd) rfl ⟨by rw [show nearP x n t am = nd from by unfold nearP; rw [← (show k = (stepsP x n).length from by omega)]; exact best_at hix hnd], S.below (i := 0) rfl⟩
    · skip
      refine l_do F rfl rfl (op_pure F (v0 := .bool (decide ((ix : Int) ≥ (0 : Int)))) (v := .bool false) (by kernel_rfl) (geqF ht21) fun a F => ?_)
      refine l_then ?_
      refine c_f F rfl ?_
      refine wp_skip ?_
      refine then_n ?_
      refine s_reg ?_
      refine l_pure 1 (fun L => (8, .int .i64 (-1)) :: L) F (by kernel_rfl) fun a F => ?_
      refine l_then ?_
      refine wp_ret ?_
      exact fin F [.tmp 8] [.int .i64 (-1)] rfl ⟨by kernel_rfl, trivial⟩ (.int .i64 (-1)) rfl ⟨by rw [show nearP x n t am = -1 from by unfold nearP; rw [← (show k = (stepsP x n).length from by omega)]; exact nbest_none (by rw [hix]; omega)], S.below (i := 0) rfl⟩
set_option maxRecDepth 100000 in
set_option maxHeartbeats 4000000 in
theorem rneighbour_any (w : World) (As : Option Addr) (cs : Nat) (Ae : Option Addr) (ce : Nat) (x : Wb) (h : WebAt w As cs Ae ce x) (ok : x.Ok) (n : Int) (t : Int × Int) (am : Int) : Calls Try.prog 72 #[.agg #[.slice As x.spots.length cs, .slice Ae x.edges.length ce], .int .i64 n, .agg #[.int .i64 t.1, .int .i64 t.2], .int .u64 am] w fun e w' => e = .returned (.int .i64 (nearP x n t am)) ∧ Below w.heap.size w w' := by
  refine enter 61 Try.func72 rfl rfl rfl fun a F => ?_
  have S := Sat.pushRest w
  refine s_reg ?_
  refine l_do F rfl rfl (op_box S _ _ (.agg #[.slice As x.spots.length cs, .slice Ae x.edges.length ce]) F rfl (by kernel_rfl) fun b1 z S a F => ?_)
  refine l_do F rfl rfl (op_box S _ _ (.agg #[.int .i64 t.1, .int .i64 t.2]) F rfl (by kernel_rfl) fun b2 z S a F => ?_)
  refine l_pure 1 (fun L => (8, .int .i64 0) :: L) F (by kernel_rfl) fun a F => ?_
  refine l_then ?_
  refine s_reg ?_
  refine l_do F rfl rfl (op_loadK _ _ (some ⟨b1, 0, none⟩) 0 [.slice As x.spots.length cs, .slice Ae x.edges.length ce] F rfl (by kernel_rfl) (by kernel_rfl) (by kernel_rfl) (by simp) (cBoxK S 1 rfl 0 (by kernel_rfl)) (fun a F => ?_))
  refine l_pure 1 (fun L => (15, .int .i64 n) :: L) F (by kernel_rfl) fun a F => ?_
  refine l_do F rfl rfl (op_fn F (by kernel_rfl) (rsteps_any _ As cs Ae ce x (h.move S rfl) ok n) ?_)
  rintro e z ⟨A3, c4, rfl, g⟩
  have S := S.pushThings g
  refine ⟨_, rfl, ?_⟩
  intro a F
  refine l_pure 1 (fun L => (9, .slice A3 ((stepsP x n).length) c4) :: L) F (by kernel_rfl) fun a F => ?_
  refine l_then ?_
  refine s_reg ?_
  refine l_pure 2 (fun L => (11, .int .i64 0) :: (10, .int .i64 (-1)) :: L) F (by kernel_rfl) fun a F => ?_
  refine l_then ?_
  refine wp_seq ?_
  refine s_reg ?_
  refine l_pure 1 (fun L => (12, .int .i64 0) :: L) F (by kernel_rfl) fun a F => ?_
  refine l_then ?_
  refine wp_block ?_
  have hfew := steps_few x n
  refine wp_loop_m (fun m a z => ∃ (k : Nat), m = (stepsP x n).length - k ∧ (k ≤ (stepsP x n).length) ∧ Fr a 61 [(3, .int .u64 am), (4, .pointer (some ⟨b1, 0, none⟩)), (6, .pointer (some ⟨b2, 0, none⟩)), (9, .slice A3 ((stepsP x n).length) c4), (10, .int .i64 (bestP x t (fltP x n am k))), (11, .int .i64 (farP x t (fltP x n am k))), (12, .int .i64 (k : Nat))] ∧ Sat w z [rest w (· < w.heap.size), box b1 25 [.slice As x.spots.length cs, .slice Ae x.edges.length ce], box b2 106 [.int .i64 t.1, .int .i64 t.2], row 126 5 (.slice A3 ((stepsP x n).length) c4) ((stepsP x n).length) ((stepsP x n).flatMap stC)]) _ ⟨0, rfl, Nat.zero_le _, F.sub ⟨by kernel_rfl, by kernel_rfl, by kernel_rfl, by kernel_rfl, by kernel_rfl, by kernel_rfl, by kernel_rfl, trivial⟩, S⟩ ?_
  rintro m a z ⟨k, hm, hf5, F, S⟩
  refine wp_seq ?_
  refine s_reg ?_
  refine l_pure 3 (fun L => (19, .int .i64 ((stepsP x n).length : Nat)) :: (18, .slice A3 ((stepsP x n).length) c4) :: (17, .int .i64 (k : Nat)) :: L) F (by kernel_rfl) fun a F => ?_
  by_cases ht6 : ((k : Nat) : Int) < (((stepsP x n).length : Nat) : Int)
  · skip
    obtain ⟨s, hs⟩ : ∃ s, (stepsP x n)[k]? = some s := ⟨_, List.getElem?_eq_getElem (by omega)⟩
    have hto := step_to (List.mem_of_getElem? hs)
    obtain ⟨se, sto, sc, sb, sr⟩ := s
    dsimp only at hto
    obtain ⟨q, rfl⟩ : ∃ q : Nat, sto = q := ⟨sto.toNat, by omega⟩
    obtain ⟨sp, hsp⟩ : ∃ sp, x.spots[q]? = some sp := ⟨_, List.getElem?_eq_getElem (by omega)⟩
    obtain ⟨sx, sy⟩ := sp
    have hspo := spot_at (s := ⟨se, (q : Int), sc, sb, sr⟩) rfl hsp
    have hfl := fltP_len x n am k
    refine l_do F rfl rfl (op_pure F (v0 := .bool (decide (((k : Nat) : Int) < (((stepsP x n).length : Nat) : Int)))) (v := .bool true) (by kernel_rfl) (lssT ht6) fun a F => ?_)
    refine l_then ?_
    refine c_t F rfl ?_
    refine wp_skip ?_
    refine then_n ?_
    refine wp_seq ?_
    refine wp_block ?_
    refine wp_seq ?_
    refine region_gx (fun D => fun (_ : Unit) => [rest w (· < w.heap.size), box b1 25 [.slice As x.spots.length cs, .slice Ae x.edges.length ce], box b2 106 [.int .i64 t.1, .int .i64 t.2], row 126 5 (.slice A3 ((stepsP x n).length) c4) ((stepsP x n).length) ((stepsP x n).flatMap stC)]) (fun (_ : Unit) => [.agg #[.int .i64 t.1, .int .i64 t.2], .pointer (some ⟨b1, 0, none⟩), .slice As x.spots.length cs, .slice A3 ((stepsP x n).length) c4, .int .i64 (k : Nat), ptrA A3 (k * 5), ptrA A3 (k * 5 + 1), .int .i64 (q : Int), ptrA As (q * 2), .agg #[.int .i64 sx, .int .i64 sy], .int .i64 (farI t.1 t.2 sx sy), .int .i64 (farI t.1 t.2 sx sy)]) [(0, [], [10]), (2, [], [8, 9, 10]), (5, [], [6, 7, 8, 9, 10]), (6, [5], [7, 8, 9, 10]), (7, [5, 6], [8, 9, 10]), (8, [2, 5, 6, 7], [9, 10]), (9, [2, 5, 6, 7, 8], [10]), (10, [0, 2, 5, 6, 7, 8, 9], [])] () rfl (by kernel_rfl) (by kernel_rfl) F S.drew ?_ ?_ ?_ ?_ ?_
    · rintro ⟨⟩; rfl
    · rintro ⟨⟩; kernel_rfl
    · intro D D' x h
      cases x
      rfl
    · refine ⟨?_, ?_⟩
      · refine ⟨_, rfl, rfl, by kernel_rfl, ?_⟩
        rintro D ⟨⟩ a z S F
        refine ⟨by kernel_rfl, ?_⟩
        exact op_loadK _ _ (some ⟨b2, 0, none⟩) 0 [.int .i64 t.1, .int .i64 t.2] F rfl (by kernel_rfl) (by kernel_rfl) (by kernel_rfl) (by simp) (cBoxK S 2 rfl 0 (by kernel_rfl)) (⟨(), rfl, (SameB.refl _ _ rfl), S⟩)
      refine ⟨?_, ?_⟩
      · refine ⟨_, rfl, rfl, by kernel_rfl, ?_⟩
        rintro D ⟨⟩ a z S F
        refine ⟨by kernel_rfl, ?_⟩
        exact op_load _ _ (some ⟨b1, 0, none⟩) 0 (.slice As x.spots.length cs) F rfl (by kernel_rfl) (by kernel_rfl) (cBox S 1 rfl (j := 0) rfl) (⟨(), rfl, (SameB.refl _ _ rfl), S⟩)
      refine ⟨?_, ?_⟩
      · refine ⟨_, rfl, rfl, by kernel_rfl, ?_⟩
        rintro D ⟨⟩ a z S F
        refine ⟨by kernel_rfl, ?_⟩
        exact op_index _ 126 _ _ A3 ((stepsP x n).length) c4 k 5 .i64 F rfl (by kernel_rfl) (by kernel_rfl) (by kernel_rfl) (by kernel_rfl) (get_lt hs) (row_some S 3 rfl (m := k) (get_lt hs)) (⟨(), rfl, (SameB.refl _ _ rfl), S⟩)
      refine ⟨?_, ?_⟩
      · refine ⟨_, rfl, rfl, by kernel_rfl, ?_⟩
        rintro D ⟨⟩ a z S F
        refine ⟨by kernel_rfl, ?_⟩
        exact op_field _ _ _ A3 (k * 5) 1 F rfl (by kernel_rfl) (by kernel_rfl) (row_some S 3 rfl (m := k) (get_lt hs)) (⟨(), rfl, (SameB.refl _ _ rfl), S⟩)
      refine ⟨?_, ?_⟩
      · refine ⟨_, rfl, rfl, by kernel_rfl, ?_⟩
        rintro D ⟨⟩ a z S F
        refine ⟨by kernel_rfl, ?_⟩
        exact op_load _ _ A3 (k * 5 + 1) (.int .i64 (q : Int)) F rfl (by kernel_rfl) (by kernel_rfl) (cRec S 3 stC_len rfl 1 hs rfl) (⟨(), rfl, (SameB.refl _ _ rfl), S⟩)
      refine ⟨?_, ?_⟩
      · refine ⟨_, rfl, rfl, by kernel_rfl, ?_⟩
        rintro D ⟨⟩ a z S F
        refine ⟨by kernel_rfl, ?_⟩
        exact op_index _ 106 _ _ As x.spots.length cs q 2 .i64 F rfl (by kernel_rfl) (by kernel_rfl) (by kernel_rfl) (by kernel_rfl) (get_lt hsp) (recs_some h.s (m := q) (get_lt hsp)) (⟨(), rfl, (SameB.refl _ _ rfl), S⟩)
      refine ⟨?_, ?_⟩
      · refine ⟨_, rfl, rfl, by kernel_rfl, ?_⟩
        rintro D ⟨⟩ a z S F
        refine ⟨by kernel_rfl, ?_⟩
        exact op_loadK _ _ As (q * 2) [.int .i64 sx, .int .i64 sy] F rfl (by kernel_rfl) (by kernel_rfl) (by kernel_rfl) (by simp) (cOldK0 S 0 spC_len h.s rfl hsp (by kernel_rfl)) (⟨(), rfl, (SameB.refl _ _ rfl), S⟩)
      refine ⟨?_, ?_⟩
      · refine ⟨_, rfl, rfl, by kernel_rfl, ?_⟩
        rintro D ⟨⟩ a z S F
        refine ⟨by kernel_rfl, ?_⟩
        refine op_fn F (by kernel_rfl) (rfar_any t.1 t.2 sx sy _) ?_
        rintro e z ⟨rfl, hb⟩
        have S := S.grow hb
        exact ⟨_, rfl, (), rfl, (SameB.refl _ _ rfl), S⟩
      trivial
    · rintro ⟨⟩ a z F S
      have F := F.sub (l := [(3, .int .u64 am), (4, .pointer (some ⟨b1, 0, none⟩)), (6, .pointer (some ⟨b2, 0, none⟩)), (9, .slice A3 ((stepsP x n).length) c4), (10, .int .i64 (bestP x t (fltP x n am k))), (11, .int .i64 (farP x t (fltP x n am k))), (12, .int .i64 (k : Nat)), (13, .int .i64 (farI t.1 t.2 sx sy))]) ⟨by kernel_rfl, by kernel_rfl, by kernel_rfl, by kernel_rfl, by kernel_rfl, by kernel_rfl, by kernel_rfl, by kernel_rfl, trivial⟩
      have S : Sat w z [rest w (· < w.heap.size), box b1 25 [.slice As x.spots.length cs, .slice Ae x.edges.length ce], box b2 106 [.int .i64 t.1, .int .i64 t.2], row 126 5 (.slice A3 ((stepsP x n).length) c4) ((stepsP x n).length) ((stepsP x n).flatMap stC)] := S
      refine then_n ?_
      refine s_reg ?_
      refine l_pure 2 (fun L => (35, .int .i64 (k : Nat)) :: (34, .slice A3 ((stepsP x n).length) c4) :: L) F (by kernel_rfl) fun a F => ?_
      refine l_do F rfl rfl (op_index _ 126 _ _ A3 ((stepsP x n).length) c4 k 5 .i64 F rfl (by kernel_rfl) (by kernel_rfl) (by kernel_rfl) (by kernel_rfl) (get_lt hs) (row_some S 3 rfl (m := k) (get_lt hs)) (fun a F => ?_))
      refine l_do F rfl rfl (op_field _ _ _ A3 (k * 5) 2 F rfl (by kernel_rfl) (by kernel_rfl) (row_some S 3 rfl (m := k) (get_lt hs)) (fun a F => ?_))
      refine l_do F rfl rfl (op_load _ _ A3 (k * 5 + 2) (.int .u64 sc) F rfl (by kernel_rfl) (by kernel_rfl) (cRec S 3 stC_len rfl 2 hs rfl) (fun a F => ?_))
      refine l_pure 1 (fun L => (39, .int .u64 am) :: L) F (by kernel_rfl) fun a F => ?_
      by_cases ht7 : (am : Int) ≤ (sc : Int)
      · skip
        refine l_do F rfl rfl (op_pure F (v0 := .bool (decide ((sc : Int) ≥ (am : Int)))) (v := .bool true) (by kernel_rfl) (geqT ht7) fun a F => ?_)
        refine l_pure 2 (fun L => (42, .int .i64 (farI t.1 t.2 sx sy)) :: (41, .bool true) :: L) F (by kernel_rfl) fun a F => ?_
        by_cases ht8 : (0 : Int) ≤ (farI t.1 t.2 sx sy : Int)
        · skip
          refine l_do F rfl rfl (op_pure F (v0 := .bool (decide ((farI t.1 t.2 sx sy : Int) ≥ (0 : Int)))) (v := .bool true) (by kernel_rfl) (geqT ht8) fun a F => ?_)
          refine l_pure 3 (fun L => (46, .int .i64 (bestP x t (fltP x n am k))) :: (45, .bool true) :: (44, .bool true) :: L) F (by kernel_rfl) fun a F => ?_
          by_cases ht9 : (bestP x t (fltP x n am k) : Int) < (0 : Int)
          · skip
            refine l_do F rfl rfl (op_pure F (v0 := .bool (decide ((bestP x t (fltP x n am k) : Int) < (0 : Int)))) (v := .bool true) (by kernel_rfl) (lssT ht9) fun a F => ?_)
            refine l_pure 6 (fun L => (53, .bool true) :: (52, .bool true) :: (51, undef) :: (50, undef) :: (49, undef) :: (48, .bool true) :: L) F (by kernel_rfl) fun a F => ?_
            refine l_then ?_
            refine c_t F rfl ?_
            refine s_reg ?_
            refine l_pure 2 (fun L => (55, .int .i64 (k : Nat)) :: (54, .slice A3 ((stepsP x n).length) c4) :: L) F (by kernel_rfl) fun a F => ?_
            refine l_do F rfl rfl (op_index _ 126 _ _ A3 ((stepsP x n).length) c4 k 5 .i64 F rfl (by kernel_rfl) (by kernel_rfl) (by kernel_rfl) (by kernel_rfl) (get_lt hs) (row_some S 3 rfl (m := k) (get_lt hs)) (fun a F => ?_))
            refine l_do F rfl rfl (op_field _ _ _ A3 (k * 5) 1 F rfl (by kernel_rfl) (by kernel_rfl) (row_some S 3 rfl (m := k) (get_lt hs)) (fun a F => ?_))
            refine l_do F rfl rfl (op_load _ _ A3 (k * 5 + 1) (.int .i64 (q : Int)) F rfl (by kernel_rfl) (by kernel_rfl) (cRec S 3 stC_len rfl 1 hs rfl) (fun a F => ?_))
            refine l_pure 1 (fun L => (10, .int .i64 (q : Int)) :: L) F (by kernel_rfl) fun a F => ?_
            refine l_then ?_
            refine wp_region_list ?_
            refine l_pure 2 (fun L => (11, .int .i64 (farI t.1 t.2 sx sy)) :: (59, .int .i64 (farI t.1 t.2 sx sy)) :: L) F (by kernel_rfl) fun a F => ?_
            refine l_nil (inb_n ?_)
            refine then_n ?_
            refine wp_region_list ?_
            refine l_pure 1 (fun L => (21, .int .i64 (k : Nat)) :: L) F (by kernel_rfl) fun a F => ?_
            refine l_do F rfl rfl (op_pure F (v0 := .int .i64 (IntKind.wrap .i64 ((k : Nat) + 1))) (v := .int .i64 (k + 1 : Nat)) (by kernel_rfl) (wrn_i64 (by omega) (by omega) (by omega)) fun a F => ?_)
            refine l_pure 1 (fun L => (12, .int .i64 (k + 1 : Nat)) :: L) F (by kernel_rfl) fun a F => ?_
            refine l_then ?_
            have e0 := fltP_yes hs ht7
            have hpos : ∀ s ∈ fltP x n am k, 0 ≤ s.to := fun s hs => (step_to (fltP_mem hs)).1
            have e1 := best_yes (t := t) (s := ⟨se, (q : Int), sc, sb, sr⟩) hpos (by rw [hspo]; exact ht8) (.inl ht9)
            rw [hspo, ← e0] at e1
            exact ⟨_, (by omega), k + 1, rfl, (by omega), F.sub ⟨by kernel_rfl, by kernel_rfl, by kernel_rfl, by kernel_rfl, by rw [e1.1]; kernel_rfl, by rw [e1.2]; kernel_rfl, by kernel_rfl, trivial⟩, S⟩
          · skip
            refine l_do F rfl rfl (op_pure F (v0 := .bool (decide ((bestP x t (fltP x n am k) : Int) < (0 : Int)))) (v := .bool false) (by kernel_rfl) (lssF ht9) fun a F => ?_)
            refine l_pure 3 (fun L => (50, .int .i64 (farP x t (fltP x n am k))) :: (49, .int .i64 (farI t.1 t.2 sx sy)) :: (48, .bool false) :: L) F (by kernel_rfl) fun a F => ?_
            by_cases ht10 : (farI t.1 t.2 sx sy : Int) < (farP x t (fltP x n am k) : Int)
            · skip
              refine l_do F rfl rfl (op_pure F (v0 := .bool (decide ((farI t.1 t.2 sx sy : Int) < (farP x t (fltP x n am k) : Int)))) (v := .bool true) (by kernel_rfl) (lssT ht10) fun a F => ?_)
              refine l_pure 2 (fun L => (53, .bool true) :: (52, .bool true) :: L) F (by kernel_rfl) fun a F => ?_
              refine l_then ?_
              refine c_t F rfl ?_
              refine s_reg ?_
              refine l_pure 2 (fun L => (55, .int .i64 (k : Nat)) :: (54, .slice A3 ((stepsP x n).length) c4) :: L) F (by kernel_rfl) fun a F => ?_
              refine l_do F rfl rfl (op_index _ 126 _ _ A3 ((stepsP x n).length) c4 k 5 .i64 F rfl (by kernel_rfl) (by kernel_rfl) (by kernel_rfl) (by kernel_rfl) (get_lt hs) (row_some S 3 rfl (m := k) (get_lt hs)) (fun a F => ?_))
              refine l_do F rfl rfl (op_field _ _ _ A3 (k * 5) 1 F rfl (by kernel_rfl) (by kernel_rfl) (row_some S 3 rfl (m := k) (get_lt hs)) (fun a F => ?_))
              refine l_do F rfl rfl (op_load _ _ A3 (k * 5 + 1) (.int .i64 (q : Int)) F rfl (by kernel_rfl) (by kernel_rfl) (cRec S 3 stC_len rfl 1 hs rfl) (fun a F => ?_))
              refine l_pure 1 (fun L => (10, .int .i64 (q : Int)) :: L) F (by kernel_rfl) fun a F => ?_
              refine l_then ?_
              refine wp_region_list ?_
              refine l_pure 2 (fun L => (11, .int .i64 (farI t.1 t.2 sx sy)) :: (59, .int .i64 (farI t.1 t.2 sx sy)) :: L) F (by kernel_rfl) fun a F => ?_
              refine l_nil (inb_n ?_)
              refine then_n ?_
              refine wp_region_list ?_
              refine l_pure 1 (fun L => (21, .int .i64 (k : Nat)) :: L) F (by kernel_rfl) fun a F => ?_
              refine l_do F rfl rfl (op_pure F (v0 := .int .i64 (IntKind.wrap .i64 ((k : Nat) + 1))) (v := .int .i64 (k + 1 : Nat)) (by kernel_rfl) (wrn_i64 (by omega) (by omega) (by omega)) fun a F => ?_)
              refine l_pure 1 (fun L => (12, .int .i64 (k + 1 : Nat)) :: L) F (by kernel_rfl) fun a F => ?_
              refine l_then ?_
              have e0 := fltP_yes hs ht7
              have hpos : ∀ s ∈ fltP x n am k, 0 ≤ s.to := fun s hs => (step_to (fltP_mem hs)).1
              have e1 := best_yes (t := t) (s := ⟨se, (q : Int), sc, sb, sr⟩) hpos (by rw [hspo]; exact ht8) (.inr (by rw [hspo]; exact ht10))
              rw [hspo, ← e0] at e1
              exact ⟨_, (by omega), k + 1, rfl, (by omega), F.sub ⟨by kernel_rfl, by kernel_rfl, by kernel_rfl, by kernel_rfl, by rw [e1.1]; kernel_rfl, by rw [e1.2]; kernel_rfl, by kernel_rfl, trivial⟩, S⟩
            · skip
              refine l_do F rfl rfl (op_pure F (v0 := .bool (decide ((farI t.1 t.2 sx sy : Int) < (farP x t (fltP x n am k) : Int)))) (v := .bool false) (by kernel_rfl) (lssF ht10) fun a F => ?_)
              refine l_pure 2 (fun L => (53, .bool false) :: (52, .bool false) :: L) F (by kernel_rfl) fun a F => ?_
              refine l_then ?_
              refine c_f F rfl ?_
              refine wp_skip ?_
              refine inb_n ?_
              refine then_n ?_
              refine wp_region_list ?_
              refine l_pure 1 (fun L => (21, .int .i64 (k : Nat)) :: L) F (by kernel_rfl) fun a F => ?_
              refine l_do F rfl rfl (op_pure F (v0 := .int .i64 (IntKind.wrap .i64 ((k : Nat) + 1))) (v := .int .i64 (k + 1 : Nat)) (by kernel_rfl) (wrn_i64 (by omega) (by omega) (by omega)) fun a F => ?_)
              refine l_pure 1 (fun L => (12, .int .i64 (k + 1 : Nat)) :: L) F (by kernel_rfl) fun a F => ?_
              refine l_then ?_
              have e0 := fltP_yes hs ht7
              have hpos : ∀ s ∈ fltP x n am k, 0 ≤ s.to := fun s hs => (step_to (fltP_mem hs)).1
              have e1 := best_no (t := t) (s := ⟨se, (q : Int), sc, sb, sr⟩) hpos (.inr ⟨ht9, by rw [hspo]; exact ht10⟩)
              rw [← e0] at e1
              exact ⟨_, (by omega), k + 1, rfl, (by omega), F.sub ⟨by kernel_rfl, by kernel_rfl, by kernel_rfl, by kernel_rfl, by rw [e1.1]; kernel_rfl, by rw [e1.2]; kernel_rfl, by kernel_rfl, trivial⟩, S⟩
        · skip
          refine l_do F rfl rfl (op_pure F (v0 := .bool (decide ((farI t.1 t.2 sx sy : Int) ≥ (0 : Int)))) (v := .bool false) (by kernel_rfl) (geqF ht8) fun a F => ?_)
          refine l_pure 10 (fun L => (53, .bool false) :: (52, undef) :: (51, undef) :: (50, undef) :: (49, undef) :: (48, undef) :: (47, undef) :: (46, undef) :: (45, .bool false) :: (44, .bool false) :: L) F (by kernel_rfl) fun a F => ?_
          refine l_then ?_
          refine c_f F rfl ?_
          refine wp_skip ?_
          refine inb_n ?_
          refine then_n ?_
          refine wp_region_list ?_
          refine l_pure 1 (fun L => (21, .int .i64 (k : Nat)) :: L) F (by kernel_rfl) fun a F => ?_
          refine l_do F rfl rfl (op_pure F (v0 := .int .i64 (IntKind.wrap .i64 ((k : Nat) + 1))) (v := .int .i64 (k + 1 : Nat)) (by kernel_rfl) (wrn_i64 (by omega) (by omega) (by omega)) fun a F => ?_)
          refine l_pure 1 (fun L => (12, .int .i64 (k + 1 : Nat)) :: L) F (by kernel_rfl) fun a F => ?_
          refine l_then ?_
          have e0 := fltP_yes hs ht7
          have hpos : ∀ s ∈ fltP x n am k, 0 ≤ s.to := fun s hs => (step_to (fltP_mem hs)).1
          have e1 := best_no (t := t) (s := ⟨se, (q : Int), sc, sb, sr⟩) hpos (.inl (by rw [hspo]; exact Int.not_le.1 ht8))
          rw [← e0] at e1
          exact ⟨_, (by omega), k + 1, rfl, (by omega), F.sub ⟨by kernel_rfl, by kernel_rfl, by kernel_rfl, by kernel_rfl, by rw [e1.1]; kernel_rfl, by rw [e1.2]; kernel_rfl, by kernel_rfl, trivial⟩, S⟩
      · skip
        refine l_do F rfl rfl (op_pure F (v0 := .bool (decide ((sc : Int) ≥ (am : Int)))) (v := .bool false) (by kernel_rfl) (geqF ht7) fun a F => ?_)
        refine l_pure 13 (fun L => (53, .bool false) :: (52, undef) :: (51, undef) :: (50, undef) :: (49, undef) :: (48, undef) :: (47, undef) :: (46, undef) :: (45, .bool false) :: (44, .bool false) :: (43, undef) :: (42, undef) :: (41, .bool false) :: L) F (by kernel_rfl) fun a F => ?_
        refine l_then ?_
        refine c_f F rfl ?_
        refine wp_skip ?_
        refine inb_n ?_
        refine then_n ?_
        refine wp_region_list ?_
        refine l_pure 1 (fun L => (21, .int .i64 (k : Nat)) :: L) F (by kernel_rfl) fun a F => ?_
        refine l_do F rfl rfl (op_pure F (v0 := .int .i64 (IntKind.wrap .i64 ((k : Nat) + 1))) (v := .int .i64 (k + 1 : Nat)) (by kernel_rfl) (wrn_i64 (by omega) (by omega) (by omega)) fun a F => ?_)
        refine l_pure 1 (fun L => (12, .int .i64 (k + 1 : Nat)) :: L) F (by kernel_rfl) fun a F => ?_
        refine l_then ?_
        have e0 := fltP_no hs ht7
        rw [← e0] at F
        exact ⟨_, (by omega), k + 1, rfl, (by omega), F.sub ⟨by kernel_rfl, by kernel_rfl, by kernel_rfl, by kernel_rfl, by kernel_rfl, by kernel_rfl, by kernel_rfl, trivial⟩, S⟩
  · skip
    refine l_do F rfl rfl (op_pure F (v0 := .bool (decide (((k : Nat) : Int) < (((stepsP x n).length : Nat) : Int)))) (v := .bool false) (by kernel_rfl) (lssF ht6) fun a F => ?_)
    refine l_then ?_
    refine c_f F rfl ?_
    refine wp_exit ?_
    refine then_x ?_
    refine then_x ?_
    refine inb_x ?_
    refine then_n ?_
    refine s_reg ?_
    refine l_pure 2 (fun L => (8, .int .i64 (bestP x t (fltP x n am k))) :: (60, .int .i64 (bestP x t (fltP x n am k))) :: L) F (by kernel_rfl) fun a F => ?_
    refine l_then ?_
    refine wp_ret ?_
    exact fin F [.tmp 8] [.int .i64 (bestP x t (fltP x n am k))] rfl ⟨by kernel_rfl, trivial⟩ (.int .i64 (bestP x t (fltP x n am k))) rfl ⟨by unfold nearP; rw [← (show k = (stepsP x n).length from by omega)], S.below (i := 0) rfl⟩
end Go.Proofs.Ytcfpbemoocegfaa
