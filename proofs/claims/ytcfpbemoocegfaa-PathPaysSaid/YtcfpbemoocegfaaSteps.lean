/- Walks over webs: the ways out of a node. -/
import Derived.Test.YtcfpbemoocegfaaWebTo
import Derived.Test.YtcfpbemoocegfaaGf
namespace Go.Proofs.Ytcfpbemoocegfaa
set_option linter.unusedVariables false
set_option linter.unusedSimpArgs false
set_option linter.unnecessarySimpa false
open Go Go.RowKit

theorem restCell {w w' : World} {l : List Asn} (h : Sat w w' l) (hi : l[0]? = some (rest w (· < w.heap.size))) {g o : Nat} {v : Value} (hg : g < w.heap.size) (hc : w.cell? ⟨g, o, none⟩ = some v) : w'.cell? ⟨g, o, none⟩ = some v :=
  (World.cell?_of_block (a := ⟨g, o, none⟩) (h.fact hi g hg)).trans hc
theorem info_st : (Try.prog.info? 133).map (fun i => (i.zero, i.size, i.bytes)) = some (some (.agg #[.int .i64 0, .int .i64 0, .int .u64 0, .int .u64 0, .int .u64 0]), 5, 40) := by kernel_rfl
theorem info_rst : (Try.prog.info? 126).map (fun i => (i.zero, i.size, i.bytes)) = some (some (.agg #[.int .i64 0, .int .i64 0, .int .u64 0, .int .u64 0, .int .u64 0]), 5, 40) := by kernel_rfl
theorem ret_sl {A : Option Addr} {n m c d : Nat} (h1 : n = m) (h2 : c = d) : Ending.returned (.slice A n c) = .returned (.slice A m d) := by rw [h1, h2]
theorem st_snoc (l : List Stp) (e t c b r : Int) : l.flatMap stC ++ [.int .i64 e, .int .i64 t, .int .u64 c, .int .u64 b, .int .u64 r] = (l ++ [(⟨e, t, c, b, r⟩ : Stp)]).flatMap stC := by simp [stC]
theorem len_snoc (l : List Stp) (e t c b r : Int) : l.length + 1 = (l ++ [(⟨e, t, c, b, r⟩ : Stp)]).length := by simp
theorem side_at9 {e : Edg} {n v : Int} (hs : sideP e n = v) (w : World) : Calls Try.prog 25 #[.agg #[.int .i64 e.a, .int .i64 e.b, .int .u64 e.c0, .int .u64 e.c1, .int .u64 e.b0, .int .u64 e.r0, .int .u64 e.b1, .int .u64 e.r1], .int .i64 n] w fun e w' => e = .returned (.int .i64 v) ∧ Below w.heap.size w w' := hs ▸ side_any w e.a e.b e.c0 e.c1 e.b0 e.r0 e.b1 e.r1 n
set_option maxRecDepth 100000 in
set_option maxHeartbeats 4000000 in
theorem steps_any (w : World) (As : Option Addr) (cs : Nat) (Ae : Option Addr) (ce : Nat) (x : Wb) (h : WebAt w As cs Ae ce x) (ok : x.Ok) (n : Int) : Calls Try.prog 70 #[.agg #[.slice As x.spots.length cs, .slice Ae x.edges.length ce], .int .i64 n] w fun e w' => ∃ A' c', e = .returned (.slice A' (stepsP x n).length c') ∧ Sat w w' [rest w (· < w.heap.size), row 133 5 (.slice A' (stepsP x n).length c') (stepsP x n).length ((stepsP x n).flatMap stC)] := by
 refine enter 45 Try.func70 rfl rfl rfl fun a F => ?_
 have S := Sat.pushRest w
 refine s_reg ?_
 refine l_do F rfl rfl (op_box S _ _ (.agg #[.slice As x.spots.length cs, .slice Ae x.edges.length ce]) F rfl (by kernel_rfl) fun b1 z S a F => ?_)
 refine l_pure 1 (fun L => (4, .slice none 0 0) :: L) F (by kernel_rfl) fun a F => ?_
 refine l_then ?_
 refine wp_seq ?_
 refine s_reg ?_
 refine l_do F rfl rfl (op_loadK _ _ (some ⟨b1, 0, none⟩) 0 [.slice As x.spots.length cs, .slice Ae x.edges.length ce] F rfl (by kernel_rfl) (by kernel_rfl) (by kernel_rfl) (by simp) (cBoxK S 1 rfl 0 (by kernel_rfl)) (fun a F => ?_))
 refine l_do F rfl rfl (op_fn F (by kernel_rfl) (check_any _ As cs Ae ce x (h.move S rfl) ok) ?_)
 rintro e z ⟨rfl, hb⟩
 have S := S.grow hb
 refine ⟨_, rfl, ?_⟩
 intro a F
 by_cases ht2 : (chkP x : Int) = (0 : Int)
 ·
  skip
  obtain ⟨z1, z2, z3⟩ := chk_zero ht2
  refine l_do F rfl rfl (op_pure F (v0 := .bool ((chkP x : Int) != (0 : Int))) (v := .bool false) (by kernel_rfl) (neqF ht2) fun a F => ?_)
  refine l_then ?_
  refine c_f F rfl ?_
  refine wp_skip ?_
  refine then_n ?_
  refine s_reg ?_
  refine l_pure 1 (fun L => (5, .slice none 0 0) :: L) F (by kernel_rfl) fun a F => ?_
  refine l_then ?_
  refine wp_seq ?_
  refine s_reg ?_
  refine l_pure 1 (fun L => (12, .pointer (some ⟨b1, 1, none⟩)) :: L) F (by kernel_rfl) fun a F => ?_
  refine l_do F rfl rfl (op_load _ _ (some ⟨b1, 0, none⟩) 1 (.slice Ae x.edges.length ce) F rfl (by kernel_rfl) (by kernel_rfl) (cBox S 1 rfl (j := 1) rfl) (fun a F => ?_))
  refine l_pure 2 (fun L => (15, .int .i64 0) :: (14, .int .i64 (x.edges.length : Nat)) :: L) F (by kernel_rfl) fun a F => ?_
  refine l_then ?_
  refine wp_block ?_
  refine wp_loop_m (fun m a z => ∃ (k : Nat) (A' : Option Addr) (c' : Nat), m = x.edges.length - k ∧ (k ≤ x.edges.length) ∧ Fr a 45 [(1, .int .i64 n), (5, .slice A' ((stepsF n 0 (x.edges.take k)).length) c'), (13, .slice Ae x.edges.length ce), (14, .int .i64 (x.edges.length : Nat)), (15, .int .i64 (k : Nat))] ∧ Sat w z [rest w (· < w.heap.size), box b1 32 [.slice As x.spots.length cs, .slice Ae x.edges.length ce], row 133 5 (.slice A' ((stepsF n 0 (x.edges.take k)).length) c') ((stepsF n 0 (x.edges.take k)).length) ((stepsF n 0 (x.edges.take k)).flatMap stC)]) _ ⟨0, none, 0, rfl, Nat.zero_le _, F.sub ⟨by kernel_rfl, by kernel_rfl, by kernel_rfl, by kernel_rfl, by kernel_rfl, trivial⟩, (S.nilRow 133 5)⟩ ?_
  rintro m a z ⟨k, A', c', hm, hf3, F, S⟩
  refine s_reg ?_
  by_cases ht4 : ((k : Nat) : Int) < ((x.edges.length : Nat) : Int)
  ·
   skip
   obtain ⟨ed, hed⟩ : ∃ ed, x.edges[k]? = some ed := ⟨_, List.getElem?_eq_getElem (by omega)⟩
   have hml : (stepsF n 0 (x.edges.take k)).length ≤ 16 := by have := stepsF_len n (x.edges.take k) 0; simp at this; omega
   have hnb := z3 ed (List.mem_of_getElem? hed)
   unfold badE at hnb
   refine l_do F rfl rfl (op_pure F (v0 := .bool (decide (((k : Nat) : Int) < ((x.edges.length : Nat) : Int)))) (v := .bool true) (by kernel_rfl) (lssT ht4) fun a F => ?_)
   refine l_then ?_
   refine wp_seq ?_
   refine c_t F rfl ?_
   refine wp_skip ?_
   refine then_n ?_
   refine wp_seq ?_
   refine wp_block ?_
   refine s_reg ?_
   refine l_pure 1 (fun L => (17, .int .i64 (k : Nat)) :: L) F (by kernel_rfl) fun a F => ?_
   refine l_do F rfl rfl (op_index _ 62 _ _ Ae x.edges.length ce k 8 .i64 F rfl (by kernel_rfl) (by kernel_rfl) (by kernel_rfl) (by kernel_rfl) (get_lt hed) (recs_some h.e (m := k) (get_lt hed)) (fun a F => ?_))
   refine l_do F rfl rfl (op_loadK _ _ Ae (k * 8) [.int .i64 ed.a, .int .i64 ed.b, .int .u64 ed.c0, .int .u64 ed.c1, .int .u64 ed.b0, .int .u64 ed.r0, .int .u64 ed.b1, .int .u64 ed.r1] F rfl (by kernel_rfl) (by kernel_rfl) (by kernel_rfl) (by simp) (cOldK0 S 0 edC_len h.e rfl hed (by kernel_rfl)) (fun a F => ?_))
   refine l_do F rfl rfl (op_alloc S _ (.agg #[.int .i64 0, .int .i64 0, .int .u64 0, .int .u64 0, .int .u64 0, .int .u64 0, .int .u64 0, .int .u64 0]) rfl (by kernel_rfl) fun b5 z S a F => ?_)
   refine l_pure 1 (fun L => (6, .int .i64 (k : Nat)) :: L) F (by kernel_rfl) fun a F => ?_
   refine l_do F rfl rfl (op_storeB S 3 _ _ _ b5 0 (.agg #[.int .i64 ed.a, .int .i64 ed.b, .int .u64 ed.c0, .int .u64 ed.c1, .int .u64 ed.b0, .int .u64 ed.r0, .int .u64 ed.b1, .int .u64 ed.r1]) F rfl rfl (by kernel_rfl) (by kernel_rfl) (by kernel_rfl) (by kernel_rfl) (by kernel_rfl) fun z S a F => ?_)
   refine l_then ?_
   refine s_reg ?_
   refine l_do F rfl rfl (op_loadK _ _ (some ⟨b5, 0, none⟩) 0 [.int .i64 ed.a, .int .i64 ed.b, .int .u64 ed.c0, .int .u64 ed.c1, .int .u64 ed.b0, .int .u64 ed.r0, .int .u64 ed.b1, .int .u64 ed.r1] F rfl (by kernel_rfl) (by kernel_rfl) (by kernel_rfl) (by simp) (cBoxK S 3 rfl 0 (by kernel_rfl)) (fun a F => ?_))
   refine l_pure 1 (fun L => (21, .int .i64 n) :: L) F (by kernel_rfl) fun a F => ?_
   rcases side_cases ed n with ⟨hs, ha⟩ | ⟨hs, hb1, ha⟩ | ⟨hs, ha, hb1⟩
   ·
    skip
    refine l_do F rfl rfl (op_fn F (by kernel_rfl) (side_at9 hs _) ?_)
    rintro e z ⟨rfl, hb⟩
    have S := S.grow hb
    refine ⟨_, rfl, ?_⟩
    intro a F
    refine l_pure 1 (fun L => (8, .int .i64 0) :: L) F (by kernel_rfl) fun a F => ?_
    refine l_then ?_
    refine s_reg ?_
    refine l_pure 2 (fun L => (24, .bool true) :: (23, .int .i64 0) :: L) F (by kernel_rfl) fun a F => ?_
    refine l_then ?_
    refine c_t F rfl ?_
    have S := S.pushEmp
    refine region_gx (fun D => fun ((b6, A7, c8) : Nat × Option Addr × Nat) => [rest w (· < w.heap.size), box b1 32 [.slice As x.spots.length cs, .slice Ae x.edges.length ce], bif D 17 then row 133 5 (.slice A7 (((stepsF n 0 (x.edges.take k)) ++ ([(⟨(k : Nat), ed.b, ed.c0, ed.b0, ed.r0⟩ : Stp)] : List Stp)).length) c8) (((stepsF n 0 (x.edges.take k)) ++ ([(⟨(k : Nat), ed.b, ed.c0, ed.b0, ed.r0⟩ : Stp)] : List Stp)).length) (((stepsF n 0 (x.edges.take k)) ++ ([(⟨(k : Nat), ed.b, ed.c0, ed.b0, ed.r0⟩ : Stp)] : List Stp)).flatMap stC) else row 133 5 (.slice A' ((stepsF n 0 (x.edges.take k)).length) c') ((stepsF n 0 (x.edges.take k)).length) ((stepsF n 0 (x.edges.take k)).flatMap stC), box b5 62 [.int .i64 ed.a, .int .i64 ed.b, .int .u64 ed.c0, .int .u64 ed.c1, .int .u64 ed.b0, .int .u64 ed.r0, .int .u64 ed.b1, .int .u64 ed.r1], bif D 16 then row 133 5 (.slice (some ⟨b6, 0, none⟩) 1 1) 1 (([(⟨(k : Nat), ed.b, ed.c0, ed.b0, ed.r0⟩ : Stp)] : List Stp).flatMap stC) else emp]) (fun ((b6, A7, c8) : Nat × Option Addr × Nat) => [.slice A' ((stepsF n 0 (x.edges.take k)).length) c', .int .i64 (k : Nat), .int .i64 0, .int .i64 1, .pointer (some ⟨b5, 0, none⟩), .pointer (some ⟨b5, 1, none⟩), .int .i64 ed.b, .int .i64 0, .pointer (some ⟨b5, 2, none⟩), .pointer (some ⟨b5, 2, none⟩), .int .u64 ed.c0, .int .i64 0, .pointer (some ⟨b5, 4, none⟩), .pointer (some ⟨b5, 4, none⟩), .agg #[.int .u64 ed.b0, .int .u64 ed.r0], .agg #[.int .i64 (k : Nat), .int .i64 ed.b, .int .u64 ed.c0, .int .u64 ed.b0, .int .u64 ed.r0], .slice (some ⟨b6, 0, none⟩) 1 1, .slice A7 (((stepsF n 0 (x.edges.take k)) ++ ([(⟨(k : Nat), ed.b, ed.c0, ed.b0, ed.r0⟩ : Stp)] : List Stp)).length) c8, .slice A7 (((stepsF n 0 (x.edges.take k)) ++ ([(⟨(k : Nat), ed.b, ed.c0, ed.b0, ed.r0⟩ : Stp)] : List Stp)).length) c8]) [(6, [], [16, 17]), (10, [], [16, 17]), (14, [], [16, 17]), (16, [6, 10, 14], [17]), (17, [6, 10, 14, 16], [])] (0, none, 0) rfl (by kernel_rfl) (by kernel_rfl) F S.drew ?_ ?_ ?_ ?_ ?_
    · rintro ⟨b6, A7, c8⟩; rfl
    · rintro ⟨b6, A7, c8⟩; kernel_rfl
    ·
     intro D D' x h
     obtain ⟨b6, A7, c8⟩ := x
     simp only [h 16 (by decide), h 17 (by decide)]
    ·
     refine ⟨?_, ?_⟩
     ·
      refine ⟨_, rfl, rfl, by kernel_rfl, ?_⟩
      rintro D ⟨b6, A7, c8⟩ a z S F
      refine ⟨by kernel_rfl, ?_⟩
      exact op_load _ _ (some ⟨b5, 0, none⟩) 1 (.int .i64 ed.b) F rfl (by kernel_rfl) (by kernel_rfl) (cBox S 3 rfl (j := 1) rfl) (⟨(b6, A7, c8), rfl, (SameB.refl _ _ rfl), S⟩)
     refine ⟨?_, ?_⟩
     ·
      refine ⟨_, rfl, rfl, by kernel_rfl, ?_⟩
      rintro D ⟨b6, A7, c8⟩ a z S F
      refine ⟨by kernel_rfl, ?_⟩
      exact op_load _ _ (some ⟨b5, 0, none⟩) 2 (.int .u64 ed.c0) F rfl (by kernel_rfl) (by kernel_rfl) (cBox S 3 rfl (j := 2) rfl) (⟨(b6, A7, c8), rfl, (SameB.refl _ _ rfl), S⟩)
     refine ⟨?_, ?_⟩
     ·
      refine ⟨_, rfl, rfl, by kernel_rfl, ?_⟩
      rintro D ⟨b6, A7, c8⟩ a z S F
      refine ⟨by kernel_rfl, ?_⟩
      exact op_loadK _ _ (some ⟨b5, 0, none⟩) 4 [.int .u64 ed.b0, .int .u64 ed.r0] F rfl (by kernel_rfl) (by kernel_rfl) (by kernel_rfl) (by simp) (cBoxK S 3 rfl 4 (by kernel_rfl)) (⟨(b6, A7, c8), rfl, (SameB.refl _ _ rfl), S⟩)
     refine ⟨?_, ?_⟩
     ·
      refine ⟨_, rfl, rfl, by kernel_rfl, ?_⟩
      rintro D ⟨b6, A7, c8⟩ a z S F
      refine ⟨by kernel_rfl, ?_⟩
      exact op_buildSliceF S 4 rfl _ 1 _ 133 5 stC ([(⟨(k : Nat), ed.b, ed.c0, ed.b0, ed.r0⟩ : Stp)] : List Stp) F rfl (by kernel_rfl) (by kernel_rfl) (by kernel_rfl) (by unfold maxLen; omega) fun y9 z S => ⟨(y9, A7, c8), rfl, ⟨rfl, rfl, rfl, rfl, rfl, rfl, rfl, rfl, rfl, rfl, rfl, rfl, rfl, rfl, rfl, rfl, trivial, trivial, trivial, trivial⟩, S⟩
     refine ⟨?_, ?_⟩
     ·
      refine ⟨_, rfl, rfl, by kernel_rfl, ?_⟩
      rintro D ⟨b6, A7, c8⟩ a z S F
      refine ⟨by kernel_rfl, ?_⟩
      exact op_append S 2 _ _ _ 133 (.agg #[.int .i64 0, .int .i64 0, .int .u64 0, .int .u64 0, .int .u64 0]) 5 40 (stepsF n 0 (x.edges.take k)) ([(⟨(k : Nat), ed.b, ed.c0, ed.b0, ed.r0⟩ : Stp)] : List Stp) stC (some ⟨b6, 0, none⟩) 1 F stC_len (fun _ => rfl) rfl rfl (by kernel_rfl) (by kernel_rfl) rfl rfl rfl (by kernel_rfl) (by kernel_rfl) (row_none (S.rowOf (i := 4) rfl)) (src_row (S.rowOf (i := 4) rfl)) (by first | omega | (simp <;> omega)) fun y10 y11 z S => ⟨(b6, y10, y11), rfl, ⟨rfl, rfl, rfl, rfl, rfl, rfl, rfl, rfl, rfl, rfl, rfl, rfl, rfl, rfl, rfl, rfl, rfl, trivial, trivial, trivial⟩, S⟩
     trivial
    ·
     rintro ⟨b6, A7, c8⟩ a z F S
     have F := F.sub (l := [(1, .int .i64 n), (5, .slice A7 (((stepsF n 0 (x.edges.take k)) ++ ([(⟨(k : Nat), ed.b, ed.c0, ed.b0, ed.r0⟩ : Stp)] : List Stp)).length) c8), (13, .slice Ae x.edges.length ce), (14, .int .i64 (x.edges.length : Nat)), (15, .int .i64 (k : Nat))]) ⟨by kernel_rfl, by kernel_rfl, by kernel_rfl, by kernel_rfl, by kernel_rfl, trivial⟩
     have S : Sat w z [rest w (· < w.heap.size), box b1 32 [.slice As x.spots.length cs, .slice Ae x.edges.length ce], row 133 5 (.slice A7 (((stepsF n 0 (x.edges.take k)) ++ ([(⟨(k : Nat), ed.b, ed.c0, ed.b0, ed.r0⟩ : Stp)] : List Stp)).length) c8) (((stepsF n 0 (x.edges.take k)) ++ ([(⟨(k : Nat), ed.b, ed.c0, ed.b0, ed.r0⟩ : Stp)] : List Stp)).length) (((stepsF n 0 (x.edges.take k)) ++ ([(⟨(k : Nat), ed.b, ed.c0, ed.b0, ed.r0⟩ : Stp)] : List Stp)).flatMap stC), box b5 62 [.int .i64 ed.a, .int .i64 ed.b, .int .u64 ed.c0, .int .u64 ed.c1, .int .u64 ed.b0, .int .u64 ed.r0, .int .u64 ed.b1, .int .u64 ed.r1], row 133 5 (.slice (some ⟨b6, 0, none⟩) 1 1) 1 (([(⟨(k : Nat), ed.b, ed.c0, ed.b0, ed.r0⟩ : Stp)] : List Stp).flatMap stC)] := S
     refine inb_n ?_
     refine then_n ?_
     refine wp_region_list ?_
     refine l_do F rfl rfl (op_pure F (v0 := .int .i64 (IntKind.wrap .i64 ((k : Nat) + 1))) (v := .int .i64 (k + 1 : Nat)) (by kernel_rfl) (wrn_i64 (by omega) (by omega) (by omega)) fun a F => ?_)
     refine l_pure 1 (fun L => (15, .int .i64 (k + 1 : Nat)) :: L) F (by kernel_rfl) fun a F => ?_
     refine l_then ?_
     have hsn : ((stepsF n 0 (x.edges.take k)) ++ ([(⟨(k : Nat), ed.b, ed.c0, ed.b0, ed.r0⟩ : Stp)] : List Stp)) = stepsF n 0 (x.edges.take (k + 1)) := by
       have hsn := stepsF_snoc n (get_lt hed)
       rw [(get_some hed).2] at hsn
       rw [hsn]
       simp [stpOf, show ed.a = n from ha]
     rw [hsn] at F S
     exact ⟨_, (by omega), k + 1, A7, c8, rfl, (by omega), F.sub ⟨by kernel_rfl, by kernel_rfl, by kernel_rfl, by kernel_rfl, by kernel_rfl, trivial⟩, (S.pick [0, 1, 2] (by decide))⟩
   ·
    skip
    refine l_do F rfl rfl (op_fn F (by kernel_rfl) (side_at9 hs _) ?_)
    rintro e z ⟨rfl, hb⟩
    have S := S.grow hb
    refine ⟨_, rfl, ?_⟩
    intro a F
    refine l_pure 1 (fun L => (8, .int .i64 1) :: L) F (by kernel_rfl) fun a F => ?_
    refine l_then ?_
    refine s_reg ?_
    refine l_pure 2 (fun L => (24, .bool true) :: (23, .int .i64 1) :: L) F (by kernel_rfl) fun a F => ?_
    refine l_then ?_
    refine c_t F rfl ?_
    have S := S.pushEmp
    refine region_gx (fun D => fun ((b12, A13, c14) : Nat × Option Addr × Nat) => [rest w (· < w.heap.size), box b1 32 [.slice As x.spots.length cs, .slice Ae x.edges.length ce], bif D 17 then row 133 5 (.slice A13 (((stepsF n 0 (x.edges.take k)) ++ ([(⟨(k : Nat), ed.a, ed.c1, ed.b1, ed.r1⟩ : Stp)] : List Stp)).length) c14) (((stepsF n 0 (x.edges.take k)) ++ ([(⟨(k : Nat), ed.a, ed.c1, ed.b1, ed.r1⟩ : Stp)] : List Stp)).length) (((stepsF n 0 (x.edges.take k)) ++ ([(⟨(k : Nat), ed.a, ed.c1, ed.b1, ed.r1⟩ : Stp)] : List Stp)).flatMap stC) else row 133 5 (.slice A' ((stepsF n 0 (x.edges.take k)).length) c') ((stepsF n 0 (x.edges.take k)).length) ((stepsF n 0 (x.edges.take k)).flatMap stC), box b5 62 [.int .i64 ed.a, .int .i64 ed.b, .int .u64 ed.c0, .int .u64 ed.c1, .int .u64 ed.b0, .int .u64 ed.r0, .int .u64 ed.b1, .int .u64 ed.r1], bif D 16 then row 133 5 (.slice (some ⟨b12, 0, none⟩) 1 1) 1 (([(⟨(k : Nat), ed.a, ed.c1, ed.b1, ed.r1⟩ : Stp)] : List Stp).flatMap stC) else emp]) (fun ((b12, A13, c14) : Nat × Option Addr × Nat) => [.slice A' ((stepsF n 0 (x.edges.take k)).length) c', .int .i64 (k : Nat), .int .i64 1, .int .i64 0, .pointer (some ⟨b5, 0, none⟩), .pointer (some ⟨b5, 0, none⟩), .int .i64 ed.a, .int .i64 1, .pointer (some ⟨b5, 2, none⟩), .pointer (some ⟨b5, 3, none⟩), .int .u64 ed.c1, .int .i64 1, .pointer (some ⟨b5, 4, none⟩), .pointer (some ⟨b5, 6, none⟩), .agg #[.int .u64 ed.b1, .int .u64 ed.r1], .agg #[.int .i64 (k : Nat), .int .i64 ed.a, .int .u64 ed.c1, .int .u64 ed.b1, .int .u64 ed.r1], .slice (some ⟨b12, 0, none⟩) 1 1, .slice A13 (((stepsF n 0 (x.edges.take k)) ++ ([(⟨(k : Nat), ed.a, ed.c1, ed.b1, ed.r1⟩ : Stp)] : List Stp)).length) c14, .slice A13 (((stepsF n 0 (x.edges.take k)) ++ ([(⟨(k : Nat), ed.a, ed.c1, ed.b1, ed.r1⟩ : Stp)] : List Stp)).length) c14]) [(6, [], [16, 17]), (10, [], [16, 17]), (14, [], [16, 17]), (16, [6, 10, 14], [17]), (17, [6, 10, 14, 16], [])] (0, none, 0) rfl (by kernel_rfl) (by kernel_rfl) F S.drew ?_ ?_ ?_ ?_ ?_
    · rintro ⟨b12, A13, c14⟩; rfl
    · rintro ⟨b12, A13, c14⟩; kernel_rfl
    ·
     intro D D' x h
     obtain ⟨b12, A13, c14⟩ := x
     simp only [h 16 (by decide), h 17 (by decide)]
    ·
     refine ⟨?_, ?_⟩
     ·
      refine ⟨_, rfl, rfl, by kernel_rfl, ?_⟩
      rintro D ⟨b12, A13, c14⟩ a z S F
      refine ⟨by kernel_rfl, ?_⟩
      exact op_load _ _ (some ⟨b5, 0, none⟩) 0 (.int .i64 ed.a) F rfl (by kernel_rfl) (by kernel_rfl) (cBox S 3 rfl (j := 0) rfl) (⟨(b12, A13, c14), rfl, (SameB.refl _ _ rfl), S⟩)
     refine ⟨?_, ?_⟩
     ·
      refine ⟨_, rfl, rfl, by kernel_rfl, ?_⟩
      rintro D ⟨b12, A13, c14⟩ a z S F
      refine ⟨by kernel_rfl, ?_⟩
      exact op_load _ _ (some ⟨b5, 0, none⟩) 3 (.int .u64 ed.c1) F rfl (by kernel_rfl) (by kernel_rfl) (cBox S 3 rfl (j := 3) rfl) (⟨(b12, A13, c14), rfl, (SameB.refl _ _ rfl), S⟩)
     refine ⟨?_, ?_⟩
     ·
      refine ⟨_, rfl, rfl, by kernel_rfl, ?_⟩
      rintro D ⟨b12, A13, c14⟩ a z S F
      refine ⟨by kernel_rfl, ?_⟩
      exact op_loadK _ _ (some ⟨b5, 0, none⟩) 6 [.int .u64 ed.b1, .int .u64 ed.r1] F rfl (by kernel_rfl) (by kernel_rfl) (by kernel_rfl) (by simp) (cBoxK S 3 rfl 6 (by kernel_rfl)) (⟨(b12, A13, c14), rfl, (SameB.refl _ _ rfl), S⟩)
     refine ⟨?_, ?_⟩
     ·
      refine ⟨_, rfl, rfl, by kernel_rfl, ?_⟩
      rintro D ⟨b12, A13, c14⟩ a z S F
      refine ⟨by kernel_rfl, ?_⟩
      exact op_buildSliceF S 4 rfl _ 1 _ 133 5 stC ([(⟨(k : Nat), ed.a, ed.c1, ed.b1, ed.r1⟩ : Stp)] : List Stp) F rfl (by kernel_rfl) (by kernel_rfl) (by kernel_rfl) (by unfold maxLen; omega) fun y15 z S => ⟨(y15, A13, c14), rfl, ⟨rfl, rfl, rfl, rfl, rfl, rfl, rfl, rfl, rfl, rfl, rfl, rfl, rfl, rfl, rfl, rfl, trivial, trivial, trivial, trivial⟩, S⟩
     refine ⟨?_, ?_⟩
     ·
      refine ⟨_, rfl, rfl, by kernel_rfl, ?_⟩
      rintro D ⟨b12, A13, c14⟩ a z S F
      refine ⟨by kernel_rfl, ?_⟩
      exact op_append S 2 _ _ _ 133 (.agg #[.int .i64 0, .int .i64 0, .int .u64 0, .int .u64 0, .int .u64 0]) 5 40 (stepsF n 0 (x.edges.take k)) ([(⟨(k : Nat), ed.a, ed.c1, ed.b1, ed.r1⟩ : Stp)] : List Stp) stC (some ⟨b12, 0, none⟩) 1 F stC_len (fun _ => rfl) rfl rfl (by kernel_rfl) (by kernel_rfl) rfl rfl rfl (by kernel_rfl) (by kernel_rfl) (row_none (S.rowOf (i := 4) rfl)) (src_row (S.rowOf (i := 4) rfl)) (by first | omega | (simp <;> omega)) fun y16 y17 z S => ⟨(b12, y16, y17), rfl, ⟨rfl, rfl, rfl, rfl, rfl, rfl, rfl, rfl, rfl, rfl, rfl, rfl, rfl, rfl, rfl, rfl, rfl, trivial, trivial, trivial⟩, S⟩
     trivial
    ·
     rintro ⟨b12, A13, c14⟩ a z F S
     have F := F.sub (l := [(1, .int .i64 n), (5, .slice A13 (((stepsF n 0 (x.edges.take k)) ++ ([(⟨(k : Nat), ed.a, ed.c1, ed.b1, ed.r1⟩ : Stp)] : List Stp)).length) c14), (13, .slice Ae x.edges.length ce), (14, .int .i64 (x.edges.length : Nat)), (15, .int .i64 (k : Nat))]) ⟨by kernel_rfl, by kernel_rfl, by kernel_rfl, by kernel_rfl, by kernel_rfl, trivial⟩
     have S : Sat w z [rest w (· < w.heap.size), box b1 32 [.slice As x.spots.length cs, .slice Ae x.edges.length ce], row 133 5 (.slice A13 (((stepsF n 0 (x.edges.take k)) ++ ([(⟨(k : Nat), ed.a, ed.c1, ed.b1, ed.r1⟩ : Stp)] : List Stp)).length) c14) (((stepsF n 0 (x.edges.take k)) ++ ([(⟨(k : Nat), ed.a, ed.c1, ed.b1, ed.r1⟩ : Stp)] : List Stp)).length) (((stepsF n 0 (x.edges.take k)) ++ ([(⟨(k : Nat), ed.a, ed.c1, ed.b1, ed.r1⟩ : Stp)] : List Stp)).flatMap stC), box b5 62 [.int .i64 ed.a, .int .i64 ed.b, .int .u64 ed.c0, .int .u64 ed.c1, .int .u64 ed.b0, .int .u64 ed.r0, .int .u64 ed.b1, .int .u64 ed.r1], row 133 5 (.slice (some ⟨b12, 0, none⟩) 1 1) 1 (([(⟨(k : Nat), ed.a, ed.c1, ed.b1, ed.r1⟩ : Stp)] : List Stp).flatMap stC)] := S
     refine inb_n ?_
     refine then_n ?_
     refine wp_region_list ?_
     refine l_do F rfl rfl (op_pure F (v0 := .int .i64 (IntKind.wrap .i64 ((k : Nat) + 1))) (v := .int .i64 (k + 1 : Nat)) (by kernel_rfl) (wrn_i64 (by omega) (by omega) (by omega)) fun a F => ?_)
     refine l_pure 1 (fun L => (15, .int .i64 (k + 1 : Nat)) :: L) F (by kernel_rfl) fun a F => ?_
     refine l_then ?_
     have hsn : ((stepsF n 0 (x.edges.take k)) ++ ([(⟨(k : Nat), ed.a, ed.c1, ed.b1, ed.r1⟩ : Stp)] : List Stp)) = stepsF n 0 (x.edges.take (k + 1)) := by
       have hsn := stepsF_snoc n (get_lt hed)
       rw [(get_some hed).2] at hsn
       rw [hsn]
       simp [stpOf, show ed.a ≠ n from ha, show ed.b = n from hb1]
     rw [hsn] at F S
     exact ⟨_, (by omega), k + 1, A13, c14, rfl, (by omega), F.sub ⟨by kernel_rfl, by kernel_rfl, by kernel_rfl, by kernel_rfl, by kernel_rfl, trivial⟩, (S.pick [0, 1, 2] (by decide))⟩
   ·
    skip
    refine l_do F rfl rfl (op_fn F (by kernel_rfl) (side_at9 hs _) ?_)
    rintro e z ⟨rfl, hb⟩
    have S := S.grow hb
    refine ⟨_, rfl, ?_⟩
    intro a F
    refine l_pure 1 (fun L => (8, .int .i64 (-1)) :: L) F (by kernel_rfl) fun a F => ?_
    refine l_then ?_
    refine s_reg ?_
    refine l_pure 2 (fun L => (24, .bool false) :: (23, .int .i64 (-1)) :: L) F (by kernel_rfl) fun a F => ?_
    refine l_then ?_
    refine c_f F rfl ?_
    refine wp_skip ?_
    refine inb_n ?_
    refine then_n ?_
    refine wp_region_list ?_
    refine l_do F rfl rfl (op_pure F (v0 := .int .i64 (IntKind.wrap .i64 ((k : Nat) + 1))) (v := .int .i64 (k + 1 : Nat)) (by kernel_rfl) (wrn_i64 (by omega) (by omega) (by omega)) fun a F => ?_)
    refine l_pure 1 (fun L => (15, .int .i64 (k + 1 : Nat)) :: L) F (by kernel_rfl) fun a F => ?_
    refine l_then ?_
    have hsn : (stepsF n 0 (x.edges.take k)) = stepsF n 0 (x.edges.take (k + 1)) := by
      have hsn := stepsF_snoc n (get_lt hed)
      rw [(get_some hed).2] at hsn
      rw [hsn]
      simp [stpOf, show ed.a ≠ n from ha, show ed.b ≠ n from hb1]
    rw [hsn] at F S
    exact ⟨_, (by omega), k + 1, A', c', rfl, (by omega), F.sub ⟨by kernel_rfl, by kernel_rfl, by kernel_rfl, by kernel_rfl, by kernel_rfl, trivial⟩, (S.pick [0, 1, 2] (by decide))⟩
  ·
   skip
   refine l_do F rfl rfl (op_pure F (v0 := .bool (decide (((k : Nat) : Int) < ((x.edges.length : Nat) : Int)))) (v := .bool false) (by kernel_rfl) (lssF ht4) fun a F => ?_)
   refine l_then ?_
   refine wp_seq ?_
   refine c_f F rfl ?_
   refine wp_exit ?_
   refine then_x ?_
   refine then_x ?_
   refine inb_x ?_
   refine then_n ?_
   refine s_reg ?_
   refine l_pure 2 (fun L => (4, .slice A' ((stepsF n 0 (x.edges.take k)).length) c') :: (44, .slice A' ((stepsF n 0 (x.edges.take k)).length) c') :: L) F (by kernel_rfl) fun a F => ?_
   refine l_then ?_
   refine wp_ret ?_
   have hk : k = x.edges.length := by omega
   have HZ : stepsP x n = stepsF n 0 x.edges := if_pos ht2
   rw [hk, List.take_length, ← HZ] at F S
   exact fin F [.tmp 4] [.slice A' ((stepsP x n).length) c'] rfl ⟨by kernel_rfl, trivial⟩ (.slice A' ((stepsP x n).length) c') rfl ⟨A', c', rfl, S.pick [0, 2] (by decide)⟩
 ·
  skip
  refine l_do F rfl rfl (op_pure F (v0 := .bool ((chkP x : Int) != (0 : Int))) (v := .bool true) (by kernel_rfl) (neqT ht2) fun a F => ?_)
  refine l_then ?_
  refine c_t F rfl ?_
  refine s_reg ?_
  refine l_pure 1 (fun L => (4, .slice none 0 0) :: L) F (by kernel_rfl) fun a F => ?_
  refine l_then ?_
  refine wp_ret ?_
  refine then_r (?_)
  have S := S.nilRow 133 5
  have HZ : stepsP x n = [] := if_neg ht2
  exact fin F [.tmp 4] [.slice none 0 0] rfl ⟨by kernel_rfl, trivial⟩ (.slice none 0 0) rfl ⟨none, 0, ret_sl (by rw [HZ]; rfl) rfl, by rw [HZ]; exact S.pick [0, 2] (by decide)⟩
set_option maxRecDepth 100000 in
set_option maxHeartbeats 4000000 in
theorem rsteps_any (w : World) (As : Option Addr) (cs : Nat) (Ae : Option Addr) (ce : Nat) (x : Wb) (h : WebAt w As cs Ae ce x) (ok : x.Ok) (n : Int) : Calls Try.prog 65 #[.agg #[.slice As x.spots.length cs, .slice Ae x.edges.length ce], .int .i64 n] w fun e w' => ∃ A' c', e = .returned (.slice A' (stepsP x n).length c') ∧ Sat w w' [rest w (· < w.heap.size), row 126 5 (.slice A' (stepsP x n).length c') (stepsP x n).length ((stepsP x n).flatMap stC)] := by
 refine enter 64 Try.func65 rfl rfl rfl fun a F => ?_
 have S := Sat.pushRest w
 refine s_reg ?_
 refine l_do F rfl rfl (op_box S _ _ (.agg #[.slice As x.spots.length cs, .slice Ae x.edges.length ce]) F rfl (by kernel_rfl) fun b1 z S a F => ?_)
 refine l_pure 1 (fun L => (4, .slice none 0 0) :: L) F (by kernel_rfl) fun a F => ?_
 refine l_then ?_
 refine s_reg ?_
 refine l_pure 1 (fun L => (5, .slice none 0 0) :: L) F (by kernel_rfl) fun a F => ?_
 refine l_then ?_
 refine wp_seq ?_
 refine s_reg ?_
 refine l_do F rfl rfl (op_loadK _ _ (some ⟨b1, 0, none⟩) 0 [.slice As x.spots.length cs, .slice Ae x.edges.length ce] F rfl (by kernel_rfl) (by kernel_rfl) (by kernel_rfl) (by simp) (cBoxK S 1 rfl 0 (by kernel_rfl)) (fun a F => ?_))
 refine l_do F rfl rfl (op_fn F (by kernel_rfl) (rcheck_any _ As cs Ae ce x (h.move S rfl) ok) ?_)
 rintro e z ⟨rfl, hb⟩
 have S := S.grow hb
 refine ⟨_, rfl, ?_⟩
 intro a F
 by_cases ht2 : (chkP x : Int) = (0 : Int)
 ·
  skip
  obtain ⟨z1, z2, z3⟩ := chk_zero ht2
  refine l_do F rfl rfl (op_pure F (v0 := .bool ((chkP x : Int) != (0 : Int))) (v := .bool false) (by kernel_rfl) (neqF ht2) fun a F => ?_)
  refine l_then ?_
  refine c_f F rfl ?_
  refine wp_skip ?_
  refine then_n ?_
  refine wp_seq ?_
  refine s_reg ?_
  refine l_pure 1 (fun L => (6, .int .i64 0) :: L) F (by kernel_rfl) fun a F => ?_
  refine l_then ?_
  refine wp_block ?_
  refine wp_loop_m (fun m a z => ∃ (k : Nat) (A' : Option Addr) (c' : Nat), m = x.edges.length - k ∧ (k ≤ x.edges.length) ∧ Fr a 64 [(1, .int .i64 n), (2, .pointer (some ⟨b1, 0, none⟩)), (5, .slice A' ((stepsF n 0 (x.edges.take k)).length) c'), (6, .int .i64 (k : Nat))] ∧ Sat w z [rest w (· < w.heap.size), box b1 25 [.slice As x.spots.length cs, .slice Ae x.edges.length ce], row 126 5 (.slice A' ((stepsF n 0 (x.edges.take k)).length) c') ((stepsF n 0 (x.edges.take k)).length) ((stepsF n 0 (x.edges.take k)).flatMap stC)]) _ ⟨0, none, 0, rfl, Nat.zero_le _, F.sub ⟨by kernel_rfl, by kernel_rfl, by kernel_rfl, by kernel_rfl, trivial⟩, (S.nilRow 126 5)⟩ ?_
  rintro m a z ⟨k, A', c', hm, hf3, F, S⟩
  refine wp_seq ?_
  refine s_reg ?_
  refine l_pure 2 (fun L => (13, .pointer (some ⟨b1, 1, none⟩)) :: (12, .int .i64 (k : Nat)) :: L) F (by kernel_rfl) fun a F => ?_
  refine l_do F rfl rfl (op_load _ _ (some ⟨b1, 0, none⟩) 1 (.slice Ae x.edges.length ce) F rfl (by kernel_rfl) (by kernel_rfl) (cBox S 1 rfl (j := 1) rfl) (fun a F => ?_))
  refine l_pure 1 (fun L => (15, .int .i64 (x.edges.length : Nat)) :: L) F (by kernel_rfl) fun a F => ?_
  by_cases ht4 : ((k : Nat) : Int) < ((x.edges.length : Nat) : Int)
  ·
   skip
   obtain ⟨ed, hed⟩ : ∃ ed, x.edges[k]? = some ed := ⟨_, List.getElem?_eq_getElem (by omega)⟩
   have hml : (stepsF n 0 (x.edges.take k)).length ≤ 16 := by have := stepsF_len n (x.edges.take k) 0; simp at this; omega
   have hnb := z3 ed (List.mem_of_getElem? hed)
   unfold badE at hnb
   refine l_do F rfl rfl (op_pure F (v0 := .bool (decide (((k : Nat) : Int) < ((x.edges.length : Nat) : Int)))) (v := .bool true) (by kernel_rfl) (lssT ht4) fun a F => ?_)
   refine l_then ?_
   refine c_t F rfl ?_
   refine wp_skip ?_
   refine then_n ?_
   refine wp_seq ?_
   refine wp_block ?_
   refine s_reg ?_
   refine l_pure 1 (fun L => (7, .int .i64 0) :: L) F (by kernel_rfl) fun a F => ?_
   refine l_then ?_
   refine wp_block ?_
   refine wp_loop_rounds 3 (rnd ?_)
   refine wp_seq ?_
   refine s_reg ?_
   refine l_pure 2 (fun L => (20, .bool true) :: (19, .int .i64 0) :: L) F (by kernel_rfl) fun a F => ?_
   refine l_then ?_
   refine c_t F rfl ?_
   refine wp_skip ?_
   refine then_n ?_
   refine wp_seq ?_
   refine wp_block ?_
   refine s_reg ?_
   refine l_pure 1 (fun L => (23, .pointer (some ⟨b1, 1, none⟩)) :: L) F (by kernel_rfl) fun a F => ?_
   refine l_do F rfl rfl (op_load _ _ (some ⟨b1, 0, none⟩) 1 (.slice Ae x.edges.length ce) F rfl (by kernel_rfl) (by kernel_rfl) (cBox S 1 rfl (j := 1) rfl) (fun a F => ?_))
   refine l_pure 2 (fun L => (26, .int .i64 0) :: (25, .int .i64 (k : Nat)) :: L) F (by kernel_rfl) fun a F => ?_
   refine l_do F rfl rfl (op_index _ 104 _ _ Ae x.edges.length ce k 8 .i64 F rfl (by kernel_rfl) (by kernel_rfl) (by kernel_rfl) (by kernel_rfl) (get_lt hed) (recs_some h.e (m := k) (get_lt hed)) (fun a F => ?_))
   refine l_do F rfl rfl (op_field _ _ _ Ae (k * 8) 0 F rfl (by kernel_rfl) (by kernel_rfl) (recs_some h.e (m := k) (get_lt hed)) (fun a F => ?_))
   refine l_do F rfl rfl (op_indexArr _ 3 _ _ Ae (k * 8) 2 0 1 .i64 F rfl (by kernel_rfl) (by kernel_rfl) (by kernel_rfl) (by kernel_rfl) (by decide) (recs_some h.e (m := k) (get_lt hed)) (fun a F => ?_))
   refine l_do F rfl rfl (op_load _ _ Ae (k * 8) (.int .i64 ed.a) F rfl (by kernel_rfl) (by kernel_rfl) (cOld S 0 edC_len h.e rfl 0 hed rfl) (fun a F => ?_))
   refine l_pure 1 (fun L => (31, .int .i64 n) :: L) F (by kernel_rfl) fun a F => ?_
   rcases side_cases ed n with ⟨hs, ha⟩ | ⟨hs, hb1, ha⟩ | ⟨hs, ha, hb1⟩
   ·
    skip
    refine l_do F rfl rfl (op_pure F (v0 := .bool ((ed.a : Int) == (n : Int))) (v := .bool true) (by kernel_rfl) (eqlT (by omega)) fun a F => ?_)
    refine l_then ?_
    refine c_t F rfl ?_
    have S := S.pushEmp
    refine region_gx (fun D => fun ((b5, A6, c7) : Nat × Option Addr × Nat) => [rest w (· < w.heap.size), box b1 25 [.slice As x.spots.length cs, .slice Ae x.edges.length ce], bif D 29 then row 126 5 (.slice A6 (((stepsF n 0 (x.edges.take k)) ++ ([(⟨(k : Nat), ed.b, ed.c0, ed.b0, ed.r0⟩ : Stp)] : List Stp)).length) c7) (((stepsF n 0 (x.edges.take k)) ++ ([(⟨(k : Nat), ed.b, ed.c0, ed.b0, ed.r0⟩ : Stp)] : List Stp)).length) (((stepsF n 0 (x.edges.take k)) ++ ([(⟨(k : Nat), ed.b, ed.c0, ed.b0, ed.r0⟩ : Stp)] : List Stp)).flatMap stC) else row 126 5 (.slice A' ((stepsF n 0 (x.edges.take k)).length) c') ((stepsF n 0 (x.edges.take k)).length) ((stepsF n 0 (x.edges.take k)).flatMap stC), bif D 28 then row 126 5 (.slice (some ⟨b5, 0, none⟩) 1 1) 1 (([(⟨(k : Nat), ed.b, ed.c0, ed.b0, ed.r0⟩ : Stp)] : List Stp).flatMap stC) else emp]) (fun ((b5, A6, c7) : Nat × Option Addr × Nat) => [.slice A' ((stepsF n 0 (x.edges.take k)).length) c', .int .i64 (k : Nat), .pointer (some ⟨b1, 1, none⟩), .slice Ae x.edges.length ce, .int .i64 (k : Nat), .int .i64 0, .int .i64 1, ptrA Ae (k * 8), ptrA Ae (k * 8), ptrA Ae (k * 8 + 1), .int .i64 ed.b, .pointer (some ⟨b1, 1, none⟩), .slice Ae x.edges.length ce, .int .i64 (k : Nat), .int .i64 0, ptrA Ae (k * 8), ptrA Ae (k * 8 + 2), ptrA Ae (k * 8 + 2), .int .u64 ed.c0, .pointer (some ⟨b1, 1, none⟩), .slice Ae x.edges.length ce, .int .i64 (k : Nat), .int .i64 0, ptrA Ae (k * 8), ptrA Ae (k * 8 + 4), ptrA Ae (k * 8 + 4), .agg #[.int .u64 ed.b0, .int .u64 ed.r0], .agg #[.int .i64 (k : Nat), .int .i64 ed.b, .int .u64 ed.c0, .int .u64 ed.b0, .int .u64 ed.r0], .slice (some ⟨b5, 0, none⟩) 1 1, .slice A6 (((stepsF n 0 (x.edges.take k)) ++ ([(⟨(k : Nat), ed.b, ed.c0, ed.b0, ed.r0⟩ : Stp)] : List Stp)).length) c7, .slice A6 (((stepsF n 0 (x.edges.take k)) ++ ([(⟨(k : Nat), ed.b, ed.c0, ed.b0, ed.r0⟩ : Stp)] : List Stp)).length) c7]) [(3, [], [7, 8, 9, 10, 28, 29]), (7, [3], [8, 9, 10, 28, 29]), (8, [3, 7], [9, 10, 28, 29]), (9, [3, 7, 8], [10, 28, 29]), (10, [3, 7, 8, 9], [28, 29]), (12, [], [15, 16, 17, 18, 28, 29]), (15, [12], [16, 17, 18, 28, 29]), (16, [12, 15], [17, 18, 28, 29]), (17, [12, 15, 16], [18, 28, 29]), (18, [12, 15, 16, 17], [28, 29]), (20, [], [23, 24, 25, 26, 28, 29]), (23, [20], [24, 25, 26, 28, 29]), (24, [20, 23], [25, 26, 28, 29]), (25, [20, 23, 24], [26, 28, 29]), (26, [20, 23, 24, 25], [28, 29]), (28, [3, 7, 8, 9, 10, 12, 15, 16, 17, 18, 20, 23, 24, 25, 26], [29]), (29, [3, 7, 8, 9, 10, 12, 15, 16, 17, 18, 20, 23, 24, 25, 26, 28], [])] (0, none, 0) rfl (by kernel_rfl) (by kernel_rfl) F S.drew ?_ ?_ ?_ ?_ ?_
    · rintro ⟨b5, A6, c7⟩; rfl
    · rintro ⟨b5, A6, c7⟩; kernel_rfl
    ·
     intro D D' x h
     obtain ⟨b5, A6, c7⟩ := x
     simp only [h 28 (by decide), h 29 (by decide)]
    ·
     refine ⟨?_, ?_⟩
     ·
      refine ⟨_, rfl, rfl, by kernel_rfl, ?_⟩
      rintro D ⟨b5, A6, c7⟩ a z S F
      refine ⟨by kernel_rfl, ?_⟩
      exact op_load _ _ (some ⟨b1, 0, none⟩) 1 (.slice Ae x.edges.length ce) F rfl (by kernel_rfl) (by kernel_rfl) (cBox S 1 rfl (j := 1) rfl) (⟨(b5, A6, c7), rfl, (SameB.refl _ _ rfl), S⟩)
     refine ⟨?_, ?_⟩
     ·
      refine ⟨_, rfl, rfl, by kernel_rfl, ?_⟩
      rintro D ⟨b5, A6, c7⟩ a z S F
      refine ⟨by kernel_rfl, ?_⟩
      exact op_index _ 104 _ _ Ae x.edges.length ce k 8 .i64 F rfl (by kernel_rfl) (by kernel_rfl) (by kernel_rfl) (by kernel_rfl) (get_lt hed) (recs_some h.e (m := k) (get_lt hed)) (⟨(b5, A6, c7), rfl, (SameB.refl _ _ rfl), S⟩)
     refine ⟨?_, ?_⟩
     ·
      refine ⟨_, rfl, rfl, by kernel_rfl, ?_⟩
      rintro D ⟨b5, A6, c7⟩ a z S F
      refine ⟨by kernel_rfl, ?_⟩
      exact op_field _ _ _ Ae (k * 8) 0 F rfl (by kernel_rfl) (by kernel_rfl) (recs_some h.e (m := k) (get_lt hed)) (⟨(b5, A6, c7), rfl, (SameB.refl _ _ rfl), S⟩)
     refine ⟨?_, ?_⟩
     ·
      refine ⟨_, rfl, rfl, by kernel_rfl, ?_⟩
      rintro D ⟨b5, A6, c7⟩ a z S F
      refine ⟨by kernel_rfl, ?_⟩
      exact op_indexArr _ 3 _ _ Ae (k * 8) 2 1 1 .i64 F rfl (by kernel_rfl) (by kernel_rfl) (by kernel_rfl) (by kernel_rfl) (by decide) (recs_some h.e (m := k) (get_lt hed)) (⟨(b5, A6, c7), rfl, (SameB.refl _ _ rfl), S⟩)
     refine ⟨?_, ?_⟩
     ·
      refine ⟨_, rfl, rfl, by kernel_rfl, ?_⟩
      rintro D ⟨b5, A6, c7⟩ a z S F
      refine ⟨by kernel_rfl, ?_⟩
      exact op_load _ _ Ae (k * 8 + 1) (.int .i64 ed.b) F rfl (by kernel_rfl) (by kernel_rfl) (cOld S 0 edC_len h.e rfl 1 hed rfl) (⟨(b5, A6, c7), rfl, (SameB.refl _ _ rfl), S⟩)
     refine ⟨?_, ?_⟩
     ·
      refine ⟨_, rfl, rfl, by kernel_rfl, ?_⟩
      rintro D ⟨b5, A6, c7⟩ a z S F
      refine ⟨by kernel_rfl, ?_⟩
      exact op_load _ _ (some ⟨b1, 0, none⟩) 1 (.slice Ae x.edges.length ce) F rfl (by kernel_rfl) (by kernel_rfl) (cBox S 1 rfl (j := 1) rfl) (⟨(b5, A6, c7), rfl, (SameB.refl _ _ rfl), S⟩)
     refine ⟨?_, ?_⟩
     ·
      refine ⟨_, rfl, rfl, by kernel_rfl, ?_⟩
      rintro D ⟨b5, A6, c7⟩ a z S F
      refine ⟨by kernel_rfl, ?_⟩
      exact op_index _ 104 _ _ Ae x.edges.length ce k 8 .i64 F rfl (by kernel_rfl) (by kernel_rfl) (by kernel_rfl) (by kernel_rfl) (get_lt hed) (recs_some h.e (m := k) (get_lt hed)) (⟨(b5, A6, c7), rfl, (SameB.refl _ _ rfl), S⟩)
     refine ⟨?_, ?_⟩
     ·
      refine ⟨_, rfl, rfl, by kernel_rfl, ?_⟩
      rintro D ⟨b5, A6, c7⟩ a z S F
      refine ⟨by kernel_rfl, ?_⟩
      exact op_field _ _ _ Ae (k * 8) 2 F rfl (by kernel_rfl) (by kernel_rfl) (recs_some h.e (m := k) (get_lt hed)) (⟨(b5, A6, c7), rfl, (SameB.refl _ _ rfl), S⟩)
     refine ⟨?_, ?_⟩
     ·
      refine ⟨_, rfl, rfl, by kernel_rfl, ?_⟩
      rintro D ⟨b5, A6, c7⟩ a z S F
      refine ⟨by kernel_rfl, ?_⟩
      exact op_indexArr _ 26 _ _ Ae (k * 8 + 2) 2 0 1 .i64 F rfl (by kernel_rfl) (by kernel_rfl) (by kernel_rfl) (by kernel_rfl) (by decide) (recs_some h.e (m := k) (get_lt hed)) (⟨(b5, A6, c7), rfl, (SameB.refl _ _ rfl), S⟩)
     refine ⟨?_, ?_⟩
     ·
      refine ⟨_, rfl, rfl, by kernel_rfl, ?_⟩
      rintro D ⟨b5, A6, c7⟩ a z S F
      refine ⟨by kernel_rfl, ?_⟩
      exact op_load _ _ Ae (k * 8 + 2) (.int .u64 ed.c0) F rfl (by kernel_rfl) (by kernel_rfl) (cOld S 0 edC_len h.e rfl 2 hed rfl) (⟨(b5, A6, c7), rfl, (SameB.refl _ _ rfl), S⟩)
     refine ⟨?_, ?_⟩
     ·
      refine ⟨_, rfl, rfl, by kernel_rfl, ?_⟩
      rintro D ⟨b5, A6, c7⟩ a z S F
      refine ⟨by kernel_rfl, ?_⟩
      exact op_load _ _ (some ⟨b1, 0, none⟩) 1 (.slice Ae x.edges.length ce) F rfl (by kernel_rfl) (by kernel_rfl) (cBox S 1 rfl (j := 1) rfl) (⟨(b5, A6, c7), rfl, (SameB.refl _ _ rfl), S⟩)
     refine ⟨?_, ?_⟩
     ·
      refine ⟨_, rfl, rfl, by kernel_rfl, ?_⟩
      rintro D ⟨b5, A6, c7⟩ a z S F
      refine ⟨by kernel_rfl, ?_⟩
      exact op_index _ 104 _ _ Ae x.edges.length ce k 8 .i64 F rfl (by kernel_rfl) (by kernel_rfl) (by kernel_rfl) (by kernel_rfl) (get_lt hed) (recs_some h.e (m := k) (get_lt hed)) (⟨(b5, A6, c7), rfl, (SameB.refl _ _ rfl), S⟩)
     refine ⟨?_, ?_⟩
     ·
      refine ⟨_, rfl, rfl, by kernel_rfl, ?_⟩
      rintro D ⟨b5, A6, c7⟩ a z S F
      refine ⟨by kernel_rfl, ?_⟩
      exact op_field _ _ _ Ae (k * 8) 4 F rfl (by kernel_rfl) (by kernel_rfl) (recs_some h.e (m := k) (get_lt hed)) (⟨(b5, A6, c7), rfl, (SameB.refl _ _ rfl), S⟩)
     refine ⟨?_, ?_⟩
     ·
      refine ⟨_, rfl, rfl, by kernel_rfl, ?_⟩
      rintro D ⟨b5, A6, c7⟩ a z S F
      refine ⟨by kernel_rfl, ?_⟩
      exact op_indexArr _ 101 _ _ Ae (k * 8 + 4) 2 0 2 .i64 F rfl (by kernel_rfl) (by kernel_rfl) (by kernel_rfl) (by kernel_rfl) (by decide) (recs_some h.e (m := k) (get_lt hed)) (⟨(b5, A6, c7), rfl, (SameB.refl _ _ rfl), S⟩)
     refine ⟨?_, ?_⟩
     ·
      refine ⟨_, rfl, rfl, by kernel_rfl, ?_⟩
      rintro D ⟨b5, A6, c7⟩ a z S F
      refine ⟨by kernel_rfl, ?_⟩
      exact op_loadK _ _ Ae (k * 8 + 4) [.int .u64 ed.b0, .int .u64 ed.r0] F rfl (by kernel_rfl) (by kernel_rfl) (by kernel_rfl) (by simp) (cOldK S 0 edC_len h.e rfl 4 hed (by kernel_rfl)) (⟨(b5, A6, c7), rfl, (SameB.refl _ _ rfl), S⟩)
     refine ⟨?_, ?_⟩
     ·
      refine ⟨_, rfl, rfl, by kernel_rfl, ?_⟩
      rintro D ⟨b5, A6, c7⟩ a z S F
      refine ⟨by kernel_rfl, ?_⟩
      exact op_buildSliceF S 3 rfl _ 1 _ 126 5 stC ([(⟨(k : Nat), ed.b, ed.c0, ed.b0, ed.r0⟩ : Stp)] : List Stp) F rfl (by kernel_rfl) (by kernel_rfl) (by kernel_rfl) (by unfold maxLen; omega) fun y8 z S => ⟨(y8, A6, c7), rfl, ⟨rfl, rfl, rfl, rfl, rfl, rfl, rfl, rfl, rfl, rfl, rfl, rfl, rfl, rfl, rfl, rfl, rfl, rfl, rfl, rfl, rfl, rfl, rfl, rfl, rfl, rfl, rfl, rfl, trivial, trivial, trivial, trivial⟩, S⟩
     refine ⟨?_, ?_⟩
     ·
      refine ⟨_, rfl, rfl, by kernel_rfl, ?_⟩
      rintro D ⟨b5, A6, c7⟩ a z S F
      refine ⟨by kernel_rfl, ?_⟩
      exact op_append S 2 _ _ _ 126 (.agg #[.int .i64 0, .int .i64 0, .int .u64 0, .int .u64 0, .int .u64 0]) 5 40 (stepsF n 0 (x.edges.take k)) ([(⟨(k : Nat), ed.b, ed.c0, ed.b0, ed.r0⟩ : Stp)] : List Stp) stC (some ⟨b5, 0, none⟩) 1 F stC_len (fun _ => rfl) rfl rfl (by kernel_rfl) (by kernel_rfl) rfl rfl rfl (by kernel_rfl) (by kernel_rfl) (row_none (S.rowOf (i := 3) rfl)) (src_row (S.rowOf (i := 3) rfl)) (by first | omega | (simp <;> omega)) fun y9 y10 z S => ⟨(b5, y9, y10), rfl, ⟨rfl, rfl, rfl, rfl, rfl, rfl, rfl, rfl, rfl, rfl, rfl, rfl, rfl, rfl, rfl, rfl, rfl, rfl, rfl, rfl, rfl, rfl, rfl, rfl, rfl, rfl, rfl, rfl, rfl, trivial, trivial, trivial⟩, S⟩
     trivial
    ·
     rintro ⟨b5, A6, c7⟩ a z F S
     have F := F.sub (l := [(1, .int .i64 n), (2, .pointer (some ⟨b1, 0, none⟩)), (5, .slice A6 (((stepsF n 0 (x.edges.take k)) ++ ([(⟨(k : Nat), ed.b, ed.c0, ed.b0, ed.r0⟩ : Stp)] : List Stp)).length) c7), (6, .int .i64 (k : Nat)), (7, .int .i64 0)]) ⟨by kernel_rfl, by kernel_rfl, by kernel_rfl, by kernel_rfl, by kernel_rfl, trivial⟩
     have S : Sat w z [rest w (· < w.heap.size), box b1 25 [.slice As x.spots.length cs, .slice Ae x.edges.length ce], row 126 5 (.slice A6 (((stepsF n 0 (x.edges.take k)) ++ ([(⟨(k : Nat), ed.b, ed.c0, ed.b0, ed.r0⟩ : Stp)] : List Stp)).length) c7) (((stepsF n 0 (x.edges.take k)) ++ ([(⟨(k : Nat), ed.b, ed.c0, ed.b0, ed.r0⟩ : Stp)] : List Stp)).length) (((stepsF n 0 (x.edges.take k)) ++ ([(⟨(k : Nat), ed.b, ed.c0, ed.b0, ed.r0⟩ : Stp)] : List Stp)).flatMap stC), row 126 5 (.slice (some ⟨b5, 0, none⟩) 1 1) 1 (([(⟨(k : Nat), ed.b, ed.c0, ed.b0, ed.r0⟩ : Stp)] : List Stp).flatMap stC)] := S
     refine inb_n ?_
     refine then_n ?_
     refine wp_region_list ?_
     refine l_pure 3 (fun L => (7, .int .i64 1) :: (22, .int .i64 1) :: (21, .int .i64 0) :: L) F (by kernel_rfl) fun a F => ?_
     refine l_then ?_
     refine rnd ?_
     refine wp_seq ?_
     refine s_reg ?_
     refine l_pure 2 (fun L => (20, .bool true) :: (19, .int .i64 1) :: L) F (by kernel_rfl) fun a F => ?_
     refine l_then ?_
     refine c_t F rfl ?_
     refine wp_skip ?_
     refine then_n ?_
     refine wp_seq ?_
     refine wp_block ?_
     refine s_reg ?_
     refine l_pure 1 (fun L => (23, .pointer (some ⟨b1, 1, none⟩)) :: L) F (by kernel_rfl) fun a F => ?_
     refine l_do F rfl rfl (op_load _ _ (some ⟨b1, 0, none⟩) 1 (.slice Ae x.edges.length ce) F rfl (by kernel_rfl) (by kernel_rfl) (cBox S 1 rfl (j := 1) rfl) (fun a F => ?_))
     refine l_pure 2 (fun L => (26, .int .i64 1) :: (25, .int .i64 (k : Nat)) :: L) F (by kernel_rfl) fun a F => ?_
     refine l_do F rfl rfl (op_index _ 104 _ _ Ae x.edges.length ce k 8 .i64 F rfl (by kernel_rfl) (by kernel_rfl) (by kernel_rfl) (by kernel_rfl) (get_lt hed) (recs_some h.e (m := k) (get_lt hed)) (fun a F => ?_))
     refine l_do F rfl rfl (op_field _ _ _ Ae (k * 8) 0 F rfl (by kernel_rfl) (by kernel_rfl) (recs_some h.e (m := k) (get_lt hed)) (fun a F => ?_))
     refine l_do F rfl rfl (op_indexArr _ 3 _ _ Ae (k * 8) 2 1 1 .i64 F rfl (by kernel_rfl) (by kernel_rfl) (by kernel_rfl) (by kernel_rfl) (by decide) (recs_some h.e (m := k) (get_lt hed)) (fun a F => ?_))
     refine l_do F rfl rfl (op_load _ _ Ae (k * 8 + 1) (.int .i64 ed.b) F rfl (by kernel_rfl) (by kernel_rfl) (cOld S 0 edC_len h.e rfl 1 hed rfl) (fun a F => ?_))
     refine l_pure 1 (fun L => (31, .int .i64 n) :: L) F (by kernel_rfl) fun a F => ?_
     refine l_do F rfl rfl (op_pure F (v0 := .bool ((ed.b : Int) == (n : Int))) (v := .bool false) (by kernel_rfl) (eqlF (by omega)) fun a F => ?_)
     refine l_then ?_
     refine c_f F rfl ?_
     refine wp_skip ?_
     refine inb_n ?_
     refine then_n ?_
     refine wp_region_list ?_
     refine l_pure 3 (fun L => (7, .int .i64 2) :: (22, .int .i64 2) :: (21, .int .i64 1) :: L) F (by kernel_rfl) fun a F => ?_
     refine l_then ?_
     refine rnd ?_
     refine wp_seq ?_
     refine s_reg ?_
     refine l_pure 2 (fun L => (20, .bool false) :: (19, .int .i64 2) :: L) F (by kernel_rfl) fun a F => ?_
     refine l_then ?_
     refine c_f F rfl ?_
     refine wp_exit ?_
     refine then_x ?_
     refine then_x ?_
     refine inb_x ?_
     refine inb_n ?_
     refine then_n ?_
     refine wp_region_list ?_
     refine l_pure 1 (fun L => (17, .int .i64 (k : Nat)) :: L) F (by kernel_rfl) fun a F => ?_
     refine l_do F rfl rfl (op_pure F (v0 := .int .i64 (IntKind.wrap .i64 ((k : Nat) + 1))) (v := .int .i64 (k + 1 : Nat)) (by kernel_rfl) (wrn_i64 (by omega) (by omega) (by omega)) fun a F => ?_)
     refine l_pure 1 (fun L => (6, .int .i64 (k + 1 : Nat)) :: L) F (by kernel_rfl) fun a F => ?_
     refine l_then ?_
     have hsn : ((stepsF n 0 (x.edges.take k)) ++ ([(⟨(k : Nat), ed.b, ed.c0, ed.b0, ed.r0⟩ : Stp)] : List Stp)) = stepsF n 0 (x.edges.take (k + 1)) := by
       have hsn := stepsF_snoc n (get_lt hed)
       rw [(get_some hed).2] at hsn
       rw [hsn]
       simp [stpOf, show ed.a = n from ha]
     rw [hsn] at F S
     exact ⟨_, (by omega), k + 1, A6, c7, rfl, (by omega), F.sub ⟨by kernel_rfl, by kernel_rfl, by kernel_rfl, by kernel_rfl, trivial⟩, (S.pick [0, 1, 2] (by decide))⟩
   ·
    skip
    refine l_do F rfl rfl (op_pure F (v0 := .bool ((ed.a : Int) == (n : Int))) (v := .bool false) (by kernel_rfl) (eqlF (by omega)) fun a F => ?_)
    refine l_then ?_
    refine c_f F rfl ?_
    refine wp_skip ?_
    refine inb_n ?_
    refine then_n ?_
    refine wp_region_list ?_
    refine l_pure 3 (fun L => (7, .int .i64 1) :: (22, .int .i64 1) :: (21, .int .i64 0) :: L) F (by kernel_rfl) fun a F => ?_
    refine l_then ?_
    refine rnd ?_
    refine wp_seq ?_
    refine s_reg ?_
    refine l_pure 2 (fun L => (20, .bool true) :: (19, .int .i64 1) :: L) F (by kernel_rfl) fun a F => ?_
    refine l_then ?_
    refine c_t F rfl ?_
    refine wp_skip ?_
    refine then_n ?_
    refine wp_seq ?_
    refine wp_block ?_
    refine s_reg ?_
    refine l_pure 1 (fun L => (23, .pointer (some ⟨b1, 1, none⟩)) :: L) F (by kernel_rfl) fun a F => ?_
    refine l_do F rfl rfl (op_load _ _ (some ⟨b1, 0, none⟩) 1 (.slice Ae x.edges.length ce) F rfl (by kernel_rfl) (by kernel_rfl) (cBox S 1 rfl (j := 1) rfl) (fun a F => ?_))
    refine l_pure 2 (fun L => (26, .int .i64 1) :: (25, .int .i64 (k : Nat)) :: L) F (by kernel_rfl) fun a F => ?_
    refine l_do F rfl rfl (op_index _ 104 _ _ Ae x.edges.length ce k 8 .i64 F rfl (by kernel_rfl) (by kernel_rfl) (by kernel_rfl) (by kernel_rfl) (get_lt hed) (recs_some h.e (m := k) (get_lt hed)) (fun a F => ?_))
    refine l_do F rfl rfl (op_field _ _ _ Ae (k * 8) 0 F rfl (by kernel_rfl) (by kernel_rfl) (recs_some h.e (m := k) (get_lt hed)) (fun a F => ?_))
    refine l_do F rfl rfl (op_indexArr _ 3 _ _ Ae (k * 8) 2 1 1 .i64 F rfl (by kernel_rfl) (by kernel_rfl) (by kernel_rfl) (by kernel_rfl) (by decide) (recs_some h.e (m := k) (get_lt hed)) (fun a F => ?_))
    refine l_do F rfl rfl (op_load _ _ Ae (k * 8 + 1) (.int .i64 ed.b) F rfl (by kernel_rfl) (by kernel_rfl) (cOld S 0 edC_len h.e rfl 1 hed rfl) (fun a F => ?_))
    refine l_pure 1 (fun L => (31, .int .i64 n) :: L) F (by kernel_rfl) fun a F => ?_
    refine l_do F rfl rfl (op_pure F (v0 := .bool ((ed.b : Int) == (n : Int))) (v := .bool true) (by kernel_rfl) (eqlT (by omega)) fun a F => ?_)
    refine l_then ?_
    refine c_t F rfl ?_
    have S := S.pushEmp
    refine region_gx (fun D => fun ((b11, A12, c13) : Nat × Option Addr × Nat) => [rest w (· < w.heap.size), box b1 25 [.slice As x.spots.length cs, .slice Ae x.edges.length ce], bif D 29 then row 126 5 (.slice A12 (((stepsF n 0 (x.edges.take k)) ++ ([(⟨(k : Nat), ed.a, ed.c1, ed.b1, ed.r1⟩ : Stp)] : List Stp)).length) c13) (((stepsF n 0 (x.edges.take k)) ++ ([(⟨(k : Nat), ed.a, ed.c1, ed.b1, ed.r1⟩ : Stp)] : List Stp)).length) (((stepsF n 0 (x.edges.take k)) ++ ([(⟨(k : Nat), ed.a, ed.c1, ed.b1, ed.r1⟩ : Stp)] : List Stp)).flatMap stC) else row 126 5 (.slice A' ((stepsF n 0 (x.edges.take k)).length) c') ((stepsF n 0 (x.edges.take k)).length) ((stepsF n 0 (x.edges.take k)).flatMap stC), bif D 28 then row 126 5 (.slice (some ⟨b11, 0, none⟩) 1 1) 1 (([(⟨(k : Nat), ed.a, ed.c1, ed.b1, ed.r1⟩ : Stp)] : List Stp).flatMap stC) else emp]) (fun ((b11, A12, c13) : Nat × Option Addr × Nat) => [.slice A' ((stepsF n 0 (x.edges.take k)).length) c', .int .i64 (k : Nat), .pointer (some ⟨b1, 1, none⟩), .slice Ae x.edges.length ce, .int .i64 (k : Nat), .int .i64 1, .int .i64 0, ptrA Ae (k * 8), ptrA Ae (k * 8), ptrA Ae (k * 8), .int .i64 ed.a, .pointer (some ⟨b1, 1, none⟩), .slice Ae x.edges.length ce, .int .i64 (k : Nat), .int .i64 1, ptrA Ae (k * 8), ptrA Ae (k * 8 + 2), ptrA Ae (k * 8 + 3), .int .u64 ed.c1, .pointer (some ⟨b1, 1, none⟩), .slice Ae x.edges.length ce, .int .i64 (k : Nat), .int .i64 1, ptrA Ae (k * 8), ptrA Ae (k * 8 + 4), ptrA Ae (k * 8 + 6), .agg #[.int .u64 ed.b1, .int .u64 ed.r1], .agg #[.int .i64 (k : Nat), .int .i64 ed.a, .int .u64 ed.c1, .int .u64 ed.b1, .int .u64 ed.r1], .slice (some ⟨b11, 0, none⟩) 1 1, .slice A12 (((stepsF n 0 (x.edges.take k)) ++ ([(⟨(k : Nat), ed.a, ed.c1, ed.b1, ed.r1⟩ : Stp)] : List Stp)).length) c13, .slice A12 (((stepsF n 0 (x.edges.take k)) ++ ([(⟨(k : Nat), ed.a, ed.c1, ed.b1, ed.r1⟩ : Stp)] : List Stp)).length) c13]) [(3, [], [7, 8, 9, 10, 28, 29]), (7, [3], [8, 9, 10, 28, 29]), (8, [3, 7], [9, 10, 28, 29]), (9, [3, 7, 8], [10, 28, 29]), (10, [3, 7, 8, 9], [28, 29]), (12, [], [15, 16, 17, 18, 28, 29]), (15, [12], [16, 17, 18, 28, 29]), (16, [12, 15], [17, 18, 28, 29]), (17, [12, 15, 16], [18, 28, 29]), (18, [12, 15, 16, 17], [28, 29]), (20, [], [23, 24, 25, 26, 28, 29]), (23, [20], [24, 25, 26, 28, 29]), (24, [20, 23], [25, 26, 28, 29]), (25, [20, 23, 24], [26, 28, 29]), (26, [20, 23, 24, 25], [28, 29]), (28, [3, 7, 8, 9, 10, 12, 15, 16, 17, 18, 20, 23, 24, 25, 26], [29]), (29, [3, 7, 8, 9, 10, 12, 15, 16, 17, 18, 20, 23, 24, 25, 26, 28], [])] (0, none, 0) rfl (by kernel_rfl) (by kernel_rfl) F S.drew ?_ ?_ ?_ ?_ ?_
    · rintro ⟨b11, A12, c13⟩; rfl
    · rintro ⟨b11, A12, c13⟩; kernel_rfl
    ·
     intro D D' x h
     obtain ⟨b11, A12, c13⟩ := x
     simp only [h 28 (by decide), h 29 (by decide)]
    ·
     refine ⟨?_, ?_⟩
     ·
      refine ⟨_, rfl, rfl, by kernel_rfl, ?_⟩
      rintro D ⟨b11, A12, c13⟩ a z S F
      refine ⟨by kernel_rfl, ?_⟩
      exact op_load _ _ (some ⟨b1, 0, none⟩) 1 (.slice Ae x.edges.length ce) F rfl (by kernel_rfl) (by kernel_rfl) (cBox S 1 rfl (j := 1) rfl) (⟨(b11, A12, c13), rfl, (SameB.refl _ _ rfl), S⟩)
     refine ⟨?_, ?_⟩
     ·
      refine ⟨_, rfl, rfl, by kernel_rfl, ?_⟩
      rintro D ⟨b11, A12, c13⟩ a z S F
      refine ⟨by kernel_rfl, ?_⟩
      exact op_index _ 104 _ _ Ae x.edges.length ce k 8 .i64 F rfl (by kernel_rfl) (by kernel_rfl) (by kernel_rfl) (by kernel_rfl) (get_lt hed) (recs_some h.e (m := k) (get_lt hed)) (⟨(b11, A12, c13), rfl, (SameB.refl _ _ rfl), S⟩)
     refine ⟨?_, ?_⟩
     ·
      refine ⟨_, rfl, rfl, by kernel_rfl, ?_⟩
      rintro D ⟨b11, A12, c13⟩ a z S F
      refine ⟨by kernel_rfl, ?_⟩
      exact op_field _ _ _ Ae (k * 8) 0 F rfl (by kernel_rfl) (by kernel_rfl) (recs_some h.e (m := k) (get_lt hed)) (⟨(b11, A12, c13), rfl, (SameB.refl _ _ rfl), S⟩)
     refine ⟨?_, ?_⟩
     ·
      refine ⟨_, rfl, rfl, by kernel_rfl, ?_⟩
      rintro D ⟨b11, A12, c13⟩ a z S F
      refine ⟨by kernel_rfl, ?_⟩
      exact op_indexArr _ 3 _ _ Ae (k * 8) 2 0 1 .i64 F rfl (by kernel_rfl) (by kernel_rfl) (by kernel_rfl) (by kernel_rfl) (by decide) (recs_some h.e (m := k) (get_lt hed)) (⟨(b11, A12, c13), rfl, (SameB.refl _ _ rfl), S⟩)
     refine ⟨?_, ?_⟩
     ·
      refine ⟨_, rfl, rfl, by kernel_rfl, ?_⟩
      rintro D ⟨b11, A12, c13⟩ a z S F
      refine ⟨by kernel_rfl, ?_⟩
      exact op_load _ _ Ae (k * 8) (.int .i64 ed.a) F rfl (by kernel_rfl) (by kernel_rfl) (cOld S 0 edC_len h.e rfl 0 hed rfl) (⟨(b11, A12, c13), rfl, (SameB.refl _ _ rfl), S⟩)
     refine ⟨?_, ?_⟩
     ·
      refine ⟨_, rfl, rfl, by kernel_rfl, ?_⟩
      rintro D ⟨b11, A12, c13⟩ a z S F
      refine ⟨by kernel_rfl, ?_⟩
      exact op_load _ _ (some ⟨b1, 0, none⟩) 1 (.slice Ae x.edges.length ce) F rfl (by kernel_rfl) (by kernel_rfl) (cBox S 1 rfl (j := 1) rfl) (⟨(b11, A12, c13), rfl, (SameB.refl _ _ rfl), S⟩)
     refine ⟨?_, ?_⟩
     ·
      refine ⟨_, rfl, rfl, by kernel_rfl, ?_⟩
      rintro D ⟨b11, A12, c13⟩ a z S F
      refine ⟨by kernel_rfl, ?_⟩
      exact op_index _ 104 _ _ Ae x.edges.length ce k 8 .i64 F rfl (by kernel_rfl) (by kernel_rfl) (by kernel_rfl) (by kernel_rfl) (get_lt hed) (recs_some h.e (m := k) (get_lt hed)) (⟨(b11, A12, c13), rfl, (SameB.refl _ _ rfl), S⟩)
     refine ⟨?_, ?_⟩
     ·
      refine ⟨_, rfl, rfl, by kernel_rfl, ?_⟩
      rintro D ⟨b11, A12, c13⟩ a z S F
      refine ⟨by kernel_rfl, ?_⟩
      exact op_field _ _ _ Ae (k * 8) 2 F rfl (by kernel_rfl) (by kernel_rfl) (recs_some h.e (m := k) (get_lt hed)) (⟨(b11, A12, c13), rfl, (SameB.refl _ _ rfl), S⟩)
     refine ⟨?_, ?_⟩
     ·
      refine ⟨_, rfl, rfl, by kernel_rfl, ?_⟩
      rintro D ⟨b11, A12, c13⟩ a z S F
      refine ⟨by kernel_rfl, ?_⟩
      exact op_indexArr _ 26 _ _ Ae (k * 8 + 2) 2 1 1 .i64 F rfl (by kernel_rfl) (by kernel_rfl) (by kernel_rfl) (by kernel_rfl) (by decide) (recs_some h.e (m := k) (get_lt hed)) (⟨(b11, A12, c13), rfl, (SameB.refl _ _ rfl), S⟩)
     refine ⟨?_, ?_⟩
     ·
      refine ⟨_, rfl, rfl, by kernel_rfl, ?_⟩
      rintro D ⟨b11, A12, c13⟩ a z S F
      refine ⟨by kernel_rfl, ?_⟩
      exact op_load _ _ Ae (k * 8 + 3) (.int .u64 ed.c1) F rfl (by kernel_rfl) (by kernel_rfl) (cOld S 0 edC_len h.e rfl 3 hed rfl) (⟨(b11, A12, c13), rfl, (SameB.refl _ _ rfl), S⟩)
     refine ⟨?_, ?_⟩
     ·
      refine ⟨_, rfl, rfl, by kernel_rfl, ?_⟩
      rintro D ⟨b11, A12, c13⟩ a z S F
      refine ⟨by kernel_rfl, ?_⟩
      exact op_load _ _ (some ⟨b1, 0, none⟩) 1 (.slice Ae x.edges.length ce) F rfl (by kernel_rfl) (by kernel_rfl) (cBox S 1 rfl (j := 1) rfl) (⟨(b11, A12, c13), rfl, (SameB.refl _ _ rfl), S⟩)
     refine ⟨?_, ?_⟩
     ·
      refine ⟨_, rfl, rfl, by kernel_rfl, ?_⟩
      rintro D ⟨b11, A12, c13⟩ a z S F
      refine ⟨by kernel_rfl, ?_⟩
      exact op_index _ 104 _ _ Ae x.edges.length ce k 8 .i64 F rfl (by kernel_rfl) (by kernel_rfl) (by kernel_rfl) (by kernel_rfl) (get_lt hed) (recs_some h.e (m := k) (get_lt hed)) (⟨(b11, A12, c13), rfl, (SameB.refl _ _ rfl), S⟩)
     refine ⟨?_, ?_⟩
     ·
      refine ⟨_, rfl, rfl, by kernel_rfl, ?_⟩
      rintro D ⟨b11, A12, c13⟩ a z S F
      refine ⟨by kernel_rfl, ?_⟩
      exact op_field _ _ _ Ae (k * 8) 4 F rfl (by kernel_rfl) (by kernel_rfl) (recs_some h.e (m := k) (get_lt hed)) (⟨(b11, A12, c13), rfl, (SameB.refl _ _ rfl), S⟩)
     refine ⟨?_, ?_⟩
     ·
      refine ⟨_, rfl, rfl, by kernel_rfl, ?_⟩
      rintro D ⟨b11, A12, c13⟩ a z S F
      refine ⟨by kernel_rfl, ?_⟩
      exact op_indexArr _ 101 _ _ Ae (k * 8 + 4) 2 1 2 .i64 F rfl (by kernel_rfl) (by kernel_rfl) (by kernel_rfl) (by kernel_rfl) (by decide) (recs_some h.e (m := k) (get_lt hed)) (⟨(b11, A12, c13), rfl, (SameB.refl _ _ rfl), S⟩)
     refine ⟨?_, ?_⟩
     ·
      refine ⟨_, rfl, rfl, by kernel_rfl, ?_⟩
      rintro D ⟨b11, A12, c13⟩ a z S F
      refine ⟨by kernel_rfl, ?_⟩
      exact op_loadK _ _ Ae (k * 8 + 6) [.int .u64 ed.b1, .int .u64 ed.r1] F rfl (by kernel_rfl) (by kernel_rfl) (by kernel_rfl) (by simp) (cOldK S 0 edC_len h.e rfl 6 hed (by kernel_rfl)) (⟨(b11, A12, c13), rfl, (SameB.refl _ _ rfl), S⟩)
     refine ⟨?_, ?_⟩
     ·
      refine ⟨_, rfl, rfl, by kernel_rfl, ?_⟩
      rintro D ⟨b11, A12, c13⟩ a z S F
      refine ⟨by kernel_rfl, ?_⟩
      exact op_buildSliceF S 3 rfl _ 1 _ 126 5 stC ([(⟨(k : Nat), ed.a, ed.c1, ed.b1, ed.r1⟩ : Stp)] : List Stp) F rfl (by kernel_rfl) (by kernel_rfl) (by kernel_rfl) (by unfold maxLen; omega) fun y14 z S => ⟨(y14, A12, c13), rfl, ⟨rfl, rfl, rfl, rfl, rfl, rfl, rfl, rfl, rfl, rfl, rfl, rfl, rfl, rfl, rfl, rfl, rfl, rfl, rfl, rfl, rfl, rfl, rfl, rfl, rfl, rfl, rfl, rfl, trivial, trivial, trivial, trivial⟩, S⟩
     refine ⟨?_, ?_⟩
     ·
      refine ⟨_, rfl, rfl, by kernel_rfl, ?_⟩
      rintro D ⟨b11, A12, c13⟩ a z S F
      refine ⟨by kernel_rfl, ?_⟩
      exact op_append S 2 _ _ _ 126 (.agg #[.int .i64 0, .int .i64 0, .int .u64 0, .int .u64 0, .int .u64 0]) 5 40 (stepsF n 0 (x.edges.take k)) ([(⟨(k : Nat), ed.a, ed.c1, ed.b1, ed.r1⟩ : Stp)] : List Stp) stC (some ⟨b11, 0, none⟩) 1 F stC_len (fun _ => rfl) rfl rfl (by kernel_rfl) (by kernel_rfl) rfl rfl rfl (by kernel_rfl) (by kernel_rfl) (row_none (S.rowOf (i := 3) rfl)) (src_row (S.rowOf (i := 3) rfl)) (by first | omega | (simp <;> omega)) fun y15 y16 z S => ⟨(b11, y15, y16), rfl, ⟨rfl, rfl, rfl, rfl, rfl, rfl, rfl, rfl, rfl, rfl, rfl, rfl, rfl, rfl, rfl, rfl, rfl, rfl, rfl, rfl, rfl, rfl, rfl, rfl, rfl, rfl, rfl, rfl, rfl, trivial, trivial, trivial⟩, S⟩
     trivial
    ·
     rintro ⟨b11, A12, c13⟩ a z F S
     have F := F.sub (l := [(1, .int .i64 n), (2, .pointer (some ⟨b1, 0, none⟩)), (5, .slice A12 (((stepsF n 0 (x.edges.take k)) ++ ([(⟨(k : Nat), ed.a, ed.c1, ed.b1, ed.r1⟩ : Stp)] : List Stp)).length) c13), (6, .int .i64 (k : Nat)), (7, .int .i64 1)]) ⟨by kernel_rfl, by kernel_rfl, by kernel_rfl, by kernel_rfl, by kernel_rfl, trivial⟩
     have S : Sat w z [rest w (· < w.heap.size), box b1 25 [.slice As x.spots.length cs, .slice Ae x.edges.length ce], row 126 5 (.slice A12 (((stepsF n 0 (x.edges.take k)) ++ ([(⟨(k : Nat), ed.a, ed.c1, ed.b1, ed.r1⟩ : Stp)] : List Stp)).length) c13) (((stepsF n 0 (x.edges.take k)) ++ ([(⟨(k : Nat), ed.a, ed.c1, ed.b1, ed.r1⟩ : Stp)] : List Stp)).length) (((stepsF n 0 (x.edges.take k)) ++ ([(⟨(k : Nat), ed.a, ed.c1, ed.b1, ed.r1⟩ : Stp)] : List Stp)).flatMap stC), row 126 5 (.slice (some ⟨b11, 0, none⟩) 1 1) 1 (([(⟨(k : Nat), ed.a, ed.c1, ed.b1, ed.r1⟩ : Stp)] : List Stp).flatMap stC)] := S
     refine inb_n ?_
     refine then_n ?_
     refine wp_region_list ?_
     refine l_pure 3 (fun L => (7, .int .i64 2) :: (22, .int .i64 2) :: (21, .int .i64 1) :: L) F (by kernel_rfl) fun a F => ?_
     refine l_then ?_
     refine rnd ?_
     refine wp_seq ?_
     refine s_reg ?_
     refine l_pure 2 (fun L => (20, .bool false) :: (19, .int .i64 2) :: L) F (by kernel_rfl) fun a F => ?_
     refine l_then ?_
     refine c_f F rfl ?_
     refine wp_exit ?_
     refine then_x ?_
     refine then_x ?_
     refine inb_x ?_
     refine inb_n ?_
     refine then_n ?_
     refine wp_region_list ?_
     refine l_pure 1 (fun L => (17, .int .i64 (k : Nat)) :: L) F (by kernel_rfl) fun a F => ?_
     refine l_do F rfl rfl (op_pure F (v0 := .int .i64 (IntKind.wrap .i64 ((k : Nat) + 1))) (v := .int .i64 (k + 1 : Nat)) (by kernel_rfl) (wrn_i64 (by omega) (by omega) (by omega)) fun a F => ?_)
     refine l_pure 1 (fun L => (6, .int .i64 (k + 1 : Nat)) :: L) F (by kernel_rfl) fun a F => ?_
     refine l_then ?_
     have hsn : ((stepsF n 0 (x.edges.take k)) ++ ([(⟨(k : Nat), ed.a, ed.c1, ed.b1, ed.r1⟩ : Stp)] : List Stp)) = stepsF n 0 (x.edges.take (k + 1)) := by
       have hsn := stepsF_snoc n (get_lt hed)
       rw [(get_some hed).2] at hsn
       rw [hsn]
       simp [stpOf, show ed.a ≠ n from ha, show ed.b = n from hb1]
     rw [hsn] at F S
     exact ⟨_, (by omega), k + 1, A12, c13, rfl, (by omega), F.sub ⟨by kernel_rfl, by kernel_rfl, by kernel_rfl, by kernel_rfl, trivial⟩, (S.pick [0, 1, 2] (by decide))⟩
   ·
    skip
    refine l_do F rfl rfl (op_pure F (v0 := .bool ((ed.a : Int) == (n : Int))) (v := .bool false) (by kernel_rfl) (eqlF (by omega)) fun a F => ?_)
    refine l_then ?_
    refine c_f F rfl ?_
    refine wp_skip ?_
    refine inb_n ?_
    refine then_n ?_
    refine wp_region_list ?_
    refine l_pure 3 (fun L => (7, .int .i64 1) :: (22, .int .i64 1) :: (21, .int .i64 0) :: L) F (by kernel_rfl) fun a F => ?_
    refine l_then ?_
    refine rnd ?_
    refine wp_seq ?_
    refine s_reg ?_
    refine l_pure 2 (fun L => (20, .bool true) :: (19, .int .i64 1) :: L) F (by kernel_rfl) fun a F => ?_
    refine l_then ?_
    refine c_t F rfl ?_
    refine wp_skip ?_
    refine then_n ?_
    refine wp_seq ?_
    refine wp_block ?_
    refine s_reg ?_
    refine l_pure 1 (fun L => (23, .pointer (some ⟨b1, 1, none⟩)) :: L) F (by kernel_rfl) fun a F => ?_
    refine l_do F rfl rfl (op_load _ _ (some ⟨b1, 0, none⟩) 1 (.slice Ae x.edges.length ce) F rfl (by kernel_rfl) (by kernel_rfl) (cBox S 1 rfl (j := 1) rfl) (fun a F => ?_))
    refine l_pure 2 (fun L => (26, .int .i64 1) :: (25, .int .i64 (k : Nat)) :: L) F (by kernel_rfl) fun a F => ?_
    refine l_do F rfl rfl (op_index _ 104 _ _ Ae x.edges.length ce k 8 .i64 F rfl (by kernel_rfl) (by kernel_rfl) (by kernel_rfl) (by kernel_rfl) (get_lt hed) (recs_some h.e (m := k) (get_lt hed)) (fun a F => ?_))
    refine l_do F rfl rfl (op_field _ _ _ Ae (k * 8) 0 F rfl (by kernel_rfl) (by kernel_rfl) (recs_some h.e (m := k) (get_lt hed)) (fun a F => ?_))
    refine l_do F rfl rfl (op_indexArr _ 3 _ _ Ae (k * 8) 2 1 1 .i64 F rfl (by kernel_rfl) (by kernel_rfl) (by kernel_rfl) (by kernel_rfl) (by decide) (recs_some h.e (m := k) (get_lt hed)) (fun a F => ?_))
    refine l_do F rfl rfl (op_load _ _ Ae (k * 8 + 1) (.int .i64 ed.b) F rfl (by kernel_rfl) (by kernel_rfl) (cOld S 0 edC_len h.e rfl 1 hed rfl) (fun a F => ?_))
    refine l_pure 1 (fun L => (31, .int .i64 n) :: L) F (by kernel_rfl) fun a F => ?_
    refine l_do F rfl rfl (op_pure F (v0 := .bool ((ed.b : Int) == (n : Int))) (v := .bool false) (by kernel_rfl) (eqlF (by omega)) fun a F => ?_)
    refine l_then ?_
    refine c_f F rfl ?_
    refine wp_skip ?_
    refine inb_n ?_
    refine then_n ?_
    refine wp_region_list ?_
    refine l_pure 3 (fun L => (7, .int .i64 2) :: (22, .int .i64 2) :: (21, .int .i64 1) :: L) F (by kernel_rfl) fun a F => ?_
    refine l_then ?_
    refine rnd ?_
    refine wp_seq ?_
    refine s_reg ?_
    refine l_pure 2 (fun L => (20, .bool false) :: (19, .int .i64 2) :: L) F (by kernel_rfl) fun a F => ?_
    refine l_then ?_
    refine c_f F rfl ?_
    refine wp_exit ?_
    refine then_x ?_
    refine then_x ?_
    refine inb_x ?_
    refine inb_n ?_
    refine then_n ?_
    refine wp_region_list ?_
    refine l_pure 1 (fun L => (17, .int .i64 (k : Nat)) :: L) F (by kernel_rfl) fun a F => ?_
    refine l_do F rfl rfl (op_pure F (v0 := .int .i64 (IntKind.wrap .i64 ((k : Nat) + 1))) (v := .int .i64 (k + 1 : Nat)) (by kernel_rfl) (wrn_i64 (by omega) (by omega) (by omega)) fun a F => ?_)
    refine l_pure 1 (fun L => (6, .int .i64 (k + 1 : Nat)) :: L) F (by kernel_rfl) fun a F => ?_
    refine l_then ?_
    have hsn : (stepsF n 0 (x.edges.take k)) = stepsF n 0 (x.edges.take (k + 1)) := by
      have hsn := stepsF_snoc n (get_lt hed)
      rw [(get_some hed).2] at hsn
      rw [hsn]
      simp [stpOf, show ed.a ≠ n from ha, show ed.b ≠ n from hb1]
    rw [hsn] at F S
    exact ⟨_, (by omega), k + 1, A', c', rfl, (by omega), F.sub ⟨by kernel_rfl, by kernel_rfl, by kernel_rfl, by kernel_rfl, trivial⟩, S⟩
  ·
   skip
   refine l_do F rfl rfl (op_pure F (v0 := .bool (decide (((k : Nat) : Int) < ((x.edges.length : Nat) : Int)))) (v := .bool false) (by kernel_rfl) (lssF ht4) fun a F => ?_)
   refine l_then ?_
   refine c_f F rfl ?_
   refine wp_exit ?_
   refine then_x ?_
   refine then_x ?_
   refine inb_x ?_
   refine then_n ?_
   refine s_reg ?_
   refine l_pure 2 (fun L => (4, .slice A' ((stepsF n 0 (x.edges.take k)).length) c') :: (63, .slice A' ((stepsF n 0 (x.edges.take k)).length) c') :: L) F (by kernel_rfl) fun a F => ?_
   refine l_then ?_
   refine wp_ret ?_
   have hk : k = x.edges.length := by omega
   have HZ : stepsP x n = stepsF n 0 x.edges := if_pos ht2
   rw [hk, List.take_length, ← HZ] at F S
   exact fin F [.tmp 4] [.slice A' ((stepsP x n).length) c'] rfl ⟨by kernel_rfl, trivial⟩ (.slice A' ((stepsP x n).length) c') rfl ⟨A', c', rfl, S.pick [0, 2] (by decide)⟩
 ·
  skip
  refine l_do F rfl rfl (op_pure F (v0 := .bool ((chkP x : Int) != (0 : Int))) (v := .bool true) (by kernel_rfl) (neqT ht2) fun a F => ?_)
  refine l_then ?_
  refine c_t F rfl ?_
  refine s_reg ?_
  refine l_pure 2 (fun L => (4, .slice none 0 0) :: (11, .slice none 0 0) :: L) F (by kernel_rfl) fun a F => ?_
  refine l_then ?_
  refine wp_ret ?_
  refine then_r (?_)
  have S := S.nilRow 126 5
  have HZ : stepsP x n = [] := if_neg ht2
  exact fin F [.tmp 4] [.slice none 0 0] rfl ⟨by kernel_rfl, trivial⟩ (.slice none 0 0) rfl ⟨none, 0, ret_sl (by rw [HZ]; rfl) rfl, by rw [HZ]; exact S.pick [0, 2] (by decide)⟩
end Go.Proofs.Ytcfpbemoocegfaa
