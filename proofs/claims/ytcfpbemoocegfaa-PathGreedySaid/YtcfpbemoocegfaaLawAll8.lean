/- The law PathAll. -/
import Derived.Test.YtcfpbemoocegfaaRBest8
namespace Go.Proofs.Ytcfpbemoocegfaa
set_option linter.unusedVariables false
set_option linter.unusedSimpArgs false
set_option linter.unnecessarySimpa false
open Go Go.RowKit

set_option maxRecDepth 100000 in
set_option maxHeartbeats 4000000 in
theorem pathall_law (w : World) (As : Option Addr) (cs : Nat) (Ae : Option Addr) (ce : Nat) (x : Wb) (h : WebAt w As cs Ae ce x) (ok : x.Ok) (from_ to am : Int) (hua : U64 am) : Calls Try.prog 3 #[.agg #[.slice As x.spots.length cs, .slice Ae x.edges.length ce], .int .i64 from_, .int .i64 to, .int .u64 am] w fun e w' => e = .returned (.bool true) ∧ Below w.heap.size w w' := by
 refine enter 96 Try.func3 rfl rfl rfl fun a F => ?_
 have S := Sat.pushRest w
 refine s_reg ?_
 refine l_do F rfl rfl (op_box S _ _ (.agg #[.slice As x.spots.length cs, .slice Ae x.edges.length ce]) F rfl (by kernel_rfl) fun b1 z S a F => ?_)
 refine l_pure 1 (fun L => (8, .bool false) :: L) F (by kernel_rfl) fun a F => ?_
 refine l_then ?_
 refine wp_seq ?_
 refine s_reg ?_
 refine l_do F rfl rfl (op_loadK _ _ (some ⟨b1, 0, none⟩) 0 [.slice As x.spots.length cs, .slice Ae x.edges.length ce] F rfl (by kernel_rfl) (by kernel_rfl) (by kernel_rfl) (by simp) (cBoxK S 1 rfl 0 (by kernel_rfl)) (fun a F => ?_))
 cases hb2 : (lightP x) with
 | false =>
  refine l_do F rfl rfl (op_fn F (by kernel_rfl) (light_any _ As cs Ae ce x) ?_)
  rintro e z ⟨rfl, hb⟩
  have S := S.grow hb
  refine ⟨_, rfl, ?_⟩
  rw [hb2]
  intro a F
  refine l_pure 1 (fun L => (21, .bool true) :: L) F (by kernel_rfl) fun a F => ?_
  refine l_then ?_
  refine c_t F rfl ?_
  refine s_reg ?_
  refine l_do F rfl rfl (op_fn F (by kernel_rfl) (awake08_any _) ?_)
  rintro e z ⟨rfl, hb⟩
  have S := S.grow hb
  refine ⟨_, rfl, ?_⟩
  intro a F
  refine l_pure 1 (fun L => (8, .bool true) :: L) F (by kernel_rfl) fun a F => ?_
  refine l_then ?_
  refine wp_ret ?_
  refine then_r (?_)
  exact fin F [.tmp 8] [.bool true] rfl ⟨by kernel_rfl, trivial⟩ (.bool true) rfl ⟨rfl, S.below (i := 0) rfl⟩
 | true =>
  obtain ⟨l1, l2, l3, l4⟩ := light_small hb2
  refine l_do F rfl rfl (op_fn F (by kernel_rfl) (light_any _ As cs Ae ce x) ?_)
  rintro e z ⟨rfl, hb⟩
  have S := S.grow hb
  refine ⟨_, rfl, ?_⟩
  rw [hb2]
  intro a F
  refine l_pure 1 (fun L => (21, .bool false) :: L) F (by kernel_rfl) fun a F => ?_
  refine l_then ?_
  refine c_f F rfl ?_
  refine wp_skip ?_
  refine then_n ?_
  refine s_reg ?_
  refine l_do F rfl rfl (op_loadK _ _ (some ⟨b1, 0, none⟩) 0 [.slice As x.spots.length cs, .slice Ae x.edges.length ce] F rfl (by kernel_rfl) (by kernel_rfl) (by kernel_rfl) (by simp) (cBoxK S 1 rfl 0 (by kernel_rfl)) (fun a F => ?_))
  refine l_do F rfl rfl (op_fn F (by kernel_rfl) (to_any _ As cs Ae ce x (h.move S rfl) ok ⟨l1, l2⟩) ?_)
  rintro e z ⟨A3, c4, A5, c6, rfl, g⟩
  have S := S.pushThings g
  refine ⟨_, rfl, ?_⟩
  intro a F
  refine l_do F rfl rfl (op_alloc S _ (.agg #[.slice none 0 0, .slice none 0 0]) rfl (by kernel_rfl) fun b7 z S a F => ?_)
  refine l_do F rfl rfl (op_storeB S 4 _ _ _ b7 0 (.agg #[.slice A3 x.spots.length c4, .slice A5 x.edges.length c6]) F rfl rfl (by kernel_rfl) (by kernel_rfl) (by kernel_rfl) (by kernel_rfl) (by kernel_rfl) fun z S a F => ?_)
  refine l_then ?_
  refine s_reg ?_
  refine l_do F rfl rfl (op_loadK _ _ (some ⟨b7, 0, none⟩) 0 [.slice A3 x.spots.length c4, .slice A5 x.edges.length c6] F rfl (by kernel_rfl) (by kernel_rfl) (by kernel_rfl) (by simp) (cBoxK S 4 rfl 0 (by kernel_rfl)) (fun a F => ?_))
  refine l_pure 3 (fun L => (29, .int .u64 am) :: (28, .int .i64 to) :: (27, .int .i64 from_) :: L) F (by kernel_rfl) fun a F => ?_
  refine l_do F rfl rfl (op_fn F (by kernel_rfl) (pall_any _ A3 c4 A5 c6 x (WebAt.ofNew (x := x) (w := w) S (i := 2) (j := 3) rfl rfl ⟨l1, l2⟩) ok from_ to am hua (by omega)) ?_)
  rintro e z ⟨Al, cl, R2, rfl, hR2, g⟩
  have S := S.pushThings g
  have hlR2 : R2.length ≤ 32 := by have h9 := all_few x from_ to am; rw [← hR2, List.length_map] at h9; exact h9
  refine ⟨_, rfl, ?_⟩
  intro a F
  refine l_pure 5 (fun L => (11, .int .i64 (rightP x from_ to am)) :: (10, .slice Al R2.length cl) :: (32, .int .i64 (rightP x from_ to am)) :: (31, .slice Al R2.length cl) :: (25, .tuple #[.slice Al R2.length cl, .int .i64 (rightP x from_ to am)]) :: L) F (by kernel_rfl) fun a F => ?_
  refine l_then ?_
  refine s_reg ?_
  refine l_do F rfl rfl (op_loadK _ _ (some ⟨b1, 0, none⟩) 0 [.slice As x.spots.length cs, .slice Ae x.edges.length ce] F rfl (by kernel_rfl) (by kernel_rfl) (by kernel_rfl) (by simp) (cBoxK S 1 rfl 0 (by kernel_rfl)) (fun a F => ?_))
  refine l_pure 3 (fun L => (37, .int .u64 am) :: (36, .int .i64 to) :: (35, .int .i64 from_) :: L) F (by kernel_rfl) fun a F => ?_
  refine l_do F rfl rfl (op_fn F (by kernel_rfl) (rall8_any _ As cs Ae ce x (h.move S rfl) ok from_ to am hua (by omega)) ?_)
  rintro e z ⟨Am9, cm9, R3, rfl, hR3, g⟩
  have S := S.pushThings g
  have hlR3 : R3.length ≤ 32 := by have h9 := all_few x from_ to am; rw [← hR3, List.length_map] at h9; exact h9
  have hlen23 : R2.length = R3.length := by
    have h9 := congrArg List.length (hR2.trans hR3.symm)
    rw [List.length_map, List.length_map] at h9
    exact h9
  refine ⟨_, rfl, ?_⟩
  intro a F
  refine l_pure 5 (fun L => (13, .int .i64 (rightP x from_ to am)) :: (12, .slice Am9 R3.length cm9) :: (40, .int .i64 (rightP x from_ to am)) :: (39, .slice Am9 R3.length cm9) :: (33, .tuple #[.slice Am9 R3.length cm9, .int .i64 (rightP x from_ to am)]) :: L) F (by kernel_rfl) fun a F => ?_
  refine l_then ?_
  refine wp_seq ?_
  refine s_reg ?_
  refine l_pure 2 (fun L => (42, .int .i64 (rightP x from_ to am)) :: (41, .int .i64 (rightP x from_ to am)) :: L) F (by kernel_rfl) fun a F => ?_
  refine l_do F rfl rfl (op_pure F (v0 := .bool ((rightP x from_ to am : Int) != (rightP x from_ to am : Int))) (v := .bool false) (by kernel_rfl) (neqF rfl) fun a F => ?_)
  refine l_pure 5 (fun L => (48, .int .i64 (R3.length : Nat)) :: (47, .slice Am9 R3.length cm9) :: (46, .int .i64 (R2.length : Nat)) :: (45, .slice Al R2.length cl) :: (44, .bool false) :: L) F (by kernel_rfl) fun a F => ?_
  refine l_do F rfl rfl (op_pure F (v0 := .bool (((R2.length : Nat) : Int) != ((R3.length : Nat) : Int))) (v := .bool false) (by kernel_rfl) (neqF (by rw [hlen23])) fun a F => ?_)
  refine l_pure 1 (fun L => (50, .bool false) :: L) F (by kernel_rfl) fun a F => ?_
  refine l_then ?_
  refine c_f F rfl ?_
  refine wp_skip ?_
  refine then_n ?_
  refine wp_seq ?_
  refine s_reg ?_
  refine l_pure 3 (fun L => (53, .int .i64 0) :: (52, .int .i64 (R2.length : Nat)) :: (51, .slice Al R2.length cl) :: L) F (by kernel_rfl) fun a F => ?_
  refine l_then ?_
  refine wp_block ?_
  refine wp_loop_m (fun m a z => ∃ (i : Nat), m = R2.length - i ∧ (i ≤ R2.length) ∧ Fr a 96 [(1, .int .i64 from_), (2, .int .i64 to), (3, .int .u64 am), (4, .pointer (some ⟨b1, 0, none⟩)), (9, .pointer (some ⟨b7, 0, none⟩)), (10, .slice Al R2.length cl), (12, .slice Am9 R3.length cm9), (52, .int .i64 (R2.length : Nat)), (53, .int .i64 (i : Nat))] ∧ Sat w z [rest w (· < w.heap.size), box b1 25 [.slice As x.spots.length cs, .slice Ae x.edges.length ce], row 107 2 (.slice A3 x.spots.length c4) x.spots.length (x.spots.flatMap spC), row 62 8 (.slice A5 x.edges.length c6) x.edges.length (x.edges.flatMap edC), box b7 32 [.slice A3 x.spots.length c4, .slice A5 x.edges.length c6], row 47 3 (.slice Al R2.length cl) R2.length (R2.flatMap rtC), bag (R2.flatMap rtRows), row 45 3 (.slice Am9 R3.length cm9) R3.length (R3.flatMap rtC), bag (R3.flatMap rtRows)]) _ ⟨0, rfl, Nat.zero_le _, F.sub ⟨by kernel_rfl, by kernel_rfl, by kernel_rfl, by kernel_rfl, by kernel_rfl, by kernel_rfl, by kernel_rfl, by kernel_rfl, by kernel_rfl, trivial⟩, S⟩ ?_
  rintro m a z ⟨i, hm, hf8, F, S⟩
  refine s_reg ?_
  by_cases ht9 : ((i : Nat) : Int) < ((R2.length : Nat) : Int)
  ·
   skip
   obtain ⟨m1, he1⟩ : ∃ m1, R2[i]? = some m1 := ⟨_, List.getElem?_eq_getElem (by omega)⟩
   obtain ⟨m2, he2⟩ : ∃ m2, R3[i]? = some m2 := ⟨_, List.getElem?_eq_getElem (by omega)⟩
   have hgm1 := good_of hR2 he1
   have hgm2 := good_of hR3 he2
   obtain ⟨B1, d1, B2, d2, B3, d3, r9⟩ := m2
   have hrr : r9 = m1.r := by
     have h8 := map_at he1
     have h9 := map_at he2
     rw [hR2, ← hR3, h9] at h8
     exact Option.some.inj h8
   subst hrr
   refine l_do F rfl rfl (op_pure F (v0 := .bool (decide (((i : Nat) : Int) < ((R2.length : Nat) : Int)))) (v := .bool true) (by kernel_rfl) (lssT ht9) fun a F => ?_)
   refine l_then ?_
   refine wp_seq ?_
   refine c_t F rfl ?_
   refine wp_skip ?_
   refine then_n ?_
   refine wp_seq ?_
   refine wp_block ?_
   refine s_reg ?_
   refine l_pure 2 (fun L => (14, .int .i64 (i : Nat)) :: (55, .int .i64 (i : Nat)) :: L) F (by kernel_rfl) fun a F => ?_
   refine l_then ?_
   refine wp_seq ?_
   refine region_gx (fun D => fun (_ : Unit) => [rest w (· < w.heap.size), box b1 25 [.slice As x.spots.length cs, .slice Ae x.edges.length ce], row 107 2 (.slice A3 x.spots.length c4) x.spots.length (x.spots.flatMap spC), row 62 8 (.slice A5 x.edges.length c6) x.edges.length (x.edges.flatMap edC), box b7 32 [.slice A3 x.spots.length c4, .slice A5 x.edges.length c6], row 47 3 (.slice Al R2.length cl) R2.length (R2.flatMap rtC), bag (R2.flatMap rtRows), row 45 3 (.slice Am9 R3.length cm9) R3.length (R3.flatMap rtC), bag (R3.flatMap rtRows)]) (fun (_ : Unit) => [.slice Al R2.length cl, .int .i64 (i : Nat), ptrA Al (i * 3), .agg #[.slice m1.A1 m1.r.nodes.length m1.c1, .slice m1.A2 m1.r.edges.length m1.c2, .slice m1.A3 m1.r.amts.length m1.c3], .agg #[.slice m1.A1 m1.r.nodes.length m1.c1, .slice m1.A2 m1.r.edges.length m1.c2, .slice m1.A3 m1.r.amts.length m1.c3], .slice Am9 R3.length cm9, .int .i64 (i : Nat), ptrA Am9 (i * 3), .agg #[.slice B1 m1.r.nodes.length d1, .slice B2 m1.r.edges.length d2, .slice B3 m1.r.amts.length d3], .bool true, .bool false]) [(2, [], [3, 4, 9]), (3, [2], [4, 9]), (4, [2, 3], [9]), (7, [], [8, 9]), (8, [7], [9]), (9, [2, 3, 4, 7, 8], [])] () rfl (by kernel_rfl) (by kernel_rfl) F S.drew ?_ ?_ ?_ ?_ ?_
   · rintro ⟨⟩; rfl
   · rintro ⟨⟩; kernel_rfl
   ·
    intro D D' x h
    cases x
    rfl
   ·
    refine ⟨?_, ?_⟩
    ·
     refine ⟨_, rfl, rfl, by kernel_rfl, ?_⟩
     rintro D ⟨⟩ a z S F
     refine ⟨by kernel_rfl, ?_⟩
     exact op_index _ 47 _ _ Al R2.length cl i 3 .i64 F rfl (by kernel_rfl) (by kernel_rfl) (by kernel_rfl) (by kernel_rfl) (get_lt he1) (row_some S 5 rfl (m := i) (get_lt he1)) (⟨(), rfl, (SameB.refl _ _ rfl), S⟩)
    refine ⟨?_, ?_⟩
    ·
     refine ⟨_, rfl, rfl, by kernel_rfl, ?_⟩
     rintro D ⟨⟩ a z S F
     refine ⟨by kernel_rfl, ?_⟩
     exact op_loadK _ _ Al (i * 3) [.slice m1.A1 m1.r.nodes.length m1.c1, .slice m1.A2 m1.r.edges.length m1.c2, .slice m1.A3 m1.r.amts.length m1.c3] F rfl (by kernel_rfl) (by kernel_rfl) (by kernel_rfl) (by simp) (cRecK0 S 5 rtC_len rfl he1 (by kernel_rfl)) (⟨(), rfl, (SameB.refl _ _ rfl), S⟩)
    refine ⟨?_, ?_⟩
    ·
     refine ⟨_, rfl, rfl, by kernel_rfl, ?_⟩
     rintro D ⟨⟩ a z S F
     refine ⟨by kernel_rfl, ?_⟩
     refine op_fn F (by kernel_rfl) (from8_any _ m1.A1 m1.r.nodes.length m1.c1 m1.A2 m1.r.edges.length m1.c2 m1.A3 m1.r.amts.length m1.c3) ?_
     rintro e z ⟨rfl, hb⟩
     have S := S.grow hb
     exact ⟨_, rfl, (), rfl, (SameB.refl _ _ rfl), S⟩
    refine ⟨?_, ?_⟩
    ·
     refine ⟨_, rfl, rfl, by kernel_rfl, ?_⟩
     rintro D ⟨⟩ a z S F
     refine ⟨by kernel_rfl, ?_⟩
     exact op_index _ 45 _ _ Am9 R3.length cm9 i 3 .i64 F rfl (by kernel_rfl) (by kernel_rfl) (by kernel_rfl) (by kernel_rfl) (get_lt he2) (row_some S 7 rfl (m := i) (get_lt he2)) (⟨(), rfl, (SameB.refl _ _ rfl), S⟩)
    refine ⟨?_, ?_⟩
    ·
     refine ⟨_, rfl, rfl, by kernel_rfl, ?_⟩
     rintro D ⟨⟩ a z S F
     refine ⟨by kernel_rfl, ?_⟩
     exact op_loadK _ _ Am9 (i * 3) [.slice B1 m1.r.nodes.length d1, .slice B2 m1.r.edges.length d2, .slice B3 m1.r.amts.length d3] F rfl (by kernel_rfl) (by kernel_rfl) (by kernel_rfl) (by simp) (cRecK0 S 7 rtC_len rfl he2 (by kernel_rfl)) (⟨(), rfl, (SameB.refl _ _ rfl), S⟩)
    refine ⟨?_, ?_⟩
    ·
     refine ⟨_, rfl, rfl, by kernel_rfl, ?_⟩
     rintro D ⟨⟩ a z S F
     refine ⟨by kernel_rfl, ?_⟩
     refine op_fn F (by kernel_rfl) (same8_any _ m1.r m1.A1 m1.c1 m1.A2 m1.c2 m1.A3 m1.c3 B1 d1 B2 d2 B3 d3 (bag_nodes S 6 rfl (m := m1) hgm1.1 (by (try dsimp only); have := hgm1.2.2.1; have := hgm1.2.1.way.len; have := hgm1.2.1.few; omega)) (bag_edges S 6 rfl (m := m1) hgm1.1 (by (try dsimp only); have := hgm1.2.2.1; have := hgm1.2.1.way.len; have := hgm1.2.1.few; omega)) (bag_amts S 6 rfl (m := m1) hgm1.1 (by (try dsimp only); have := hgm1.2.2.1; have := hgm1.2.1.way.len; have := hgm1.2.1.few; omega)) (bag_nodes S 8 rfl (m := ⟨B1, d1, B2, d2, B3, d3, m1.r⟩) hgm2.1 (by (try dsimp only); have := hgm1.2.2.1; have := hgm1.2.1.way.len; have := hgm1.2.1.few; omega)) (bag_edges S 8 rfl (m := ⟨B1, d1, B2, d2, B3, d3, m1.r⟩) hgm2.1 (by (try dsimp only); have := hgm1.2.2.1; have := hgm1.2.1.way.len; have := hgm1.2.1.few; omega)) (bag_amts S 8 rfl (m := ⟨B1, d1, B2, d2, B3, d3, m1.r⟩) hgm2.1 (by (try dsimp only); have := hgm1.2.2.1; have := hgm1.2.1.way.len; have := hgm1.2.1.few; omega)) (by have := hgm1.2.1.way.len; have := hgm1.2.1.few; omega) (by exact hgm1.2.1.few) (by have := hgm1.2.1.amts.2.2; omega)) ?_
     rintro e z ⟨rfl, hb⟩
     have S := S.grow hb
     exact ⟨_, rfl, (), rfl, (SameB.refl _ _ rfl), S⟩
    trivial
   ·
    rintro ⟨⟩ a z F S
    have F := F.sub (l := [(1, .int .i64 from_), (2, .int .i64 to), (3, .int .u64 am), (4, .pointer (some ⟨b1, 0, none⟩)), (9, .pointer (some ⟨b7, 0, none⟩)), (10, .slice Al R2.length cl), (12, .slice Am9 R3.length cm9), (52, .int .i64 (R2.length : Nat)), (53, .int .i64 (i : Nat)), (66, .bool false)]) ⟨by kernel_rfl, by kernel_rfl, by kernel_rfl, by kernel_rfl, by kernel_rfl, by kernel_rfl, by kernel_rfl, by kernel_rfl, by kernel_rfl, by kernel_rfl, trivial⟩
    have S : Sat w z [rest w (· < w.heap.size), box b1 25 [.slice As x.spots.length cs, .slice Ae x.edges.length ce], row 107 2 (.slice A3 x.spots.length c4) x.spots.length (x.spots.flatMap spC), row 62 8 (.slice A5 x.edges.length c6) x.edges.length (x.edges.flatMap edC), box b7 32 [.slice A3 x.spots.length c4, .slice A5 x.edges.length c6], row 47 3 (.slice Al R2.length cl) R2.length (R2.flatMap rtC), bag (R2.flatMap rtRows), row 45 3 (.slice Am9 R3.length cm9) R3.length (R3.flatMap rtC), bag (R3.flatMap rtRows)] := S
    refine then_n ?_
    refine c_f F rfl ?_
    refine wp_skip ?_
    refine inb_n ?_
    refine then_n ?_
    refine wp_region_list ?_
    refine l_do F rfl rfl (op_pure F (v0 := .int .i64 (IntKind.wrap .i64 ((i : Nat) + 1))) (v := .int .i64 (i + 1 : Nat)) (by kernel_rfl) (wrn_i64 (by omega) (by omega) (by omega)) fun a F => ?_)
    refine l_pure 1 (fun L => (53, .int .i64 (i + 1 : Nat)) :: L) F (by kernel_rfl) fun a F => ?_
    refine l_then ?_
    exact ⟨_, (by omega), i + 1, rfl, (by omega), F.sub ⟨by kernel_rfl, by kernel_rfl, by kernel_rfl, by kernel_rfl, by kernel_rfl, by kernel_rfl, by kernel_rfl, by kernel_rfl, by kernel_rfl, trivial⟩, S⟩
  ·
   skip
   refine l_do F rfl rfl (op_pure F (v0 := .bool (decide (((i : Nat) : Int) < ((R2.length : Nat) : Int)))) (v := .bool false) (by kernel_rfl) (lssF ht9) fun a F => ?_)
   refine l_then ?_
   refine wp_seq ?_
   refine c_f F rfl ?_
   refine wp_exit ?_
   refine then_x ?_
   refine then_x ?_
   refine inb_x ?_
   refine then_n ?_
   refine s_reg ?_
   refine l_do F rfl rfl (op_loadK _ _ (some ⟨b7, 0, none⟩) 0 [.slice A3 x.spots.length c4, .slice A5 x.edges.length c6] F rfl (by kernel_rfl) (by kernel_rfl) (by kernel_rfl) (by simp) (cBoxK S 4 rfl 0 (by kernel_rfl)) (fun a F => ?_))
   refine l_pure 3 (fun L => (72, .int .u64 am) :: (71, .int .i64 to) :: (70, .int .i64 from_) :: L) F (by kernel_rfl) fun a F => ?_
   refine l_do F rfl rfl (op_fn F (by kernel_rfl) (pbest_any _ A3 c4 A5 c6 x (WebAt.ofNew (x := x) (w := w) S (i := 2) (j := 3) rfl rfl ⟨l1, l2⟩) ok from_ to am hua (by omega)) ?_)
   rintro e z ⟨mb, Rb, rfl, hmb1, hmbR, hmb3, hmb4, g⟩
   have S := S.pushThings g
   have hpmb := fun {w0 w : World} {l : List Asn} (S : Sat w0 w l) (i : Nat) (hi : l[i]? = some (bag (Rb.flatMap rtRows))) => best_recs S i hi hmbR hmb3 hmb4
   refine ⟨_, rfl, ?_⟩
   intro a F
   refine l_pure 3 (fun L => (75, .int .i64 ((bestRt x from_ to am).2)) :: (74, .agg #[.slice mb.A1 mb.r.nodes.length mb.c1, .slice mb.A2 mb.r.edges.length mb.c2, .slice mb.A3 mb.r.amts.length mb.c3]) :: (68, .tuple #[.agg #[.slice mb.A1 mb.r.nodes.length mb.c1, .slice mb.A2 mb.r.edges.length mb.c2, .slice mb.A3 mb.r.amts.length mb.c3], .int .i64 ((bestRt x from_ to am).2)]) :: L) F (by kernel_rfl) fun a F => ?_
   refine l_do F rfl rfl (op_alloc S _ (.agg #[.slice none 0 0, .slice none 0 0, .slice none 0 0]) rfl (by kernel_rfl) fun b10 z S a F => ?_)
   refine l_do F rfl rfl (op_storeB S 10 _ _ _ b10 0 (.agg #[.slice mb.A1 mb.r.nodes.length mb.c1, .slice mb.A2 mb.r.edges.length mb.c2, .slice mb.A3 mb.r.amts.length mb.c3]) F rfl rfl (by kernel_rfl) (by kernel_rfl) (by kernel_rfl) (by kernel_rfl) (by kernel_rfl) fun z S a F => ?_)
   refine l_pure 1 (fun L => (16, .int .i64 ((bestRt x from_ to am).2)) :: L) F (by kernel_rfl) fun a F => ?_
   refine l_then ?_
   refine s_reg ?_
   refine l_do F rfl rfl (op_loadK _ _ (some ⟨b1, 0, none⟩) 0 [.slice As x.spots.length cs, .slice Ae x.edges.length ce] F rfl (by kernel_rfl) (by kernel_rfl) (by kernel_rfl) (by simp) (cBoxK S 1 rfl 0 (by kernel_rfl)) (fun a F => ?_))
   refine l_pure 3 (fun L => (80, .int .u64 am) :: (79, .int .i64 to) :: (78, .int .i64 from_) :: L) F (by kernel_rfl) fun a F => ?_
   refine l_do F rfl rfl (op_fn F (by kernel_rfl) (rbest_any _ As cs Ae ce x (h.move S rfl) ok from_ to am hua (by omega)) ?_)
   rintro e z ⟨mc, Rc, rfl, hmc1, hmcR, hmc3, hmc4, g⟩
   have S := S.pushThings g
   obtain ⟨B1, d1, B2, d2, B3, d3, r9⟩ := mc
   have hrr : r9 = mb.r := hmc1.trans hmb1.symm
   subst hrr
   have hpmc := fun {w0 w : World} {l : List Asn} (S : Sat w0 w l) (i : Nat) (hi : l[i]? = some (bag (Rc.flatMap rtRows))) => best_recs S i hi hmcR hmc3 hmc4
   refine ⟨_, rfl, ?_⟩
   intro a F
   refine l_pure 3 (fun L => (83, .int .i64 ((bestRt x from_ to am).2)) :: (82, .agg #[.slice B1 mb.r.nodes.length d1, .slice B2 mb.r.edges.length d2, .slice B3 mb.r.amts.length d3]) :: (76, .tuple #[.agg #[.slice B1 mb.r.nodes.length d1, .slice B2 mb.r.edges.length d2, .slice B3 mb.r.amts.length d3], .int .i64 ((bestRt x from_ to am).2)]) :: L) F (by kernel_rfl) fun a F => ?_
   refine l_do F rfl rfl (op_alloc S _ (.agg #[.slice none 0 0, .slice none 0 0, .slice none 0 0]) rfl (by kernel_rfl) fun b11 z S a F => ?_)
   refine l_do F rfl rfl (op_storeB S 12 _ _ _ b11 0 (.agg #[.slice B1 mb.r.nodes.length d1, .slice B2 mb.r.edges.length d2, .slice B3 mb.r.amts.length d3]) F rfl rfl (by kernel_rfl) (by kernel_rfl) (by kernel_rfl) (by kernel_rfl) (by kernel_rfl) fun z S a F => ?_)
   refine l_pure 1 (fun L => (18, .int .i64 ((bestRt x from_ to am).2)) :: L) F (by kernel_rfl) fun a F => ?_
   refine l_then ?_
   refine wp_seq ?_
   refine region_gx (fun D => fun (_ : Unit) => [rest w (· < w.heap.size), box b1 25 [.slice As x.spots.length cs, .slice Ae x.edges.length ce], row 107 2 (.slice A3 x.spots.length c4) x.spots.length (x.spots.flatMap spC), row 62 8 (.slice A5 x.edges.length c6) x.edges.length (x.edges.flatMap edC), box b7 32 [.slice A3 x.spots.length c4, .slice A5 x.edges.length c6], row 47 3 (.slice Al R2.length cl) R2.length (R2.flatMap rtC), bag (R2.flatMap rtRows), row 45 3 (.slice Am9 R3.length cm9) R3.length (R3.flatMap rtC), bag (R3.flatMap rtRows), bag (Rb.flatMap rtRows), box b10 47 [.slice mb.A1 mb.r.nodes.length mb.c1, .slice mb.A2 mb.r.edges.length mb.c2, .slice mb.A3 mb.r.amts.length mb.c3], bag (Rc.flatMap rtRows), box b11 45 [.slice B1 mb.r.nodes.length d1, .slice B2 mb.r.edges.length d2, .slice B3 mb.r.amts.length d3]]) (fun (_ : Unit) => [.bool true, .bool true, .int .i64 ((bestRt x from_ to am).2), .int .i64 ((bestRt x from_ to am).2), .bool true, .bool true, .bool true, .agg #[.slice mb.A1 mb.r.nodes.length mb.c1, .slice mb.A2 mb.r.edges.length mb.c2, .slice mb.A3 mb.r.amts.length mb.c3], .agg #[.slice mb.A1 mb.r.nodes.length mb.c1, .slice mb.A2 mb.r.edges.length mb.c2, .slice mb.A3 mb.r.amts.length mb.c3], .agg #[.slice B1 mb.r.nodes.length d1, .slice B2 mb.r.edges.length d2, .slice B3 mb.r.amts.length d3], .bool true, .bool true, .bool true]) [(0, [], [4, 7, 8, 9, 10]), (4, [0], [7, 8, 9, 10]), (7, [0, 4], [8, 10]), (8, [0, 4, 7], [10]), (9, [0, 4], [10]), (10, [0, 4, 7, 8, 9], [])] () rfl (by kernel_rfl) (by kernel_rfl) F S.drew ?_ ?_ ?_ ?_ ?_
   · rintro ⟨⟩; rfl
   · rintro ⟨⟩; kernel_rfl
   ·
    intro D D' x h
    cases x
    rfl
   ·
    refine ⟨?_, ?_⟩
    ·
     refine ⟨_, rfl, rfl, by kernel_rfl, ?_⟩
     rintro D ⟨⟩ a z S F
     refine ⟨by kernel_rfl, ?_⟩
     refine op_fn F (by kernel_rfl) (awake08_any _) ?_
     rintro e z ⟨rfl, hb⟩
     have S := S.grow hb
     exact ⟨_, rfl, (), rfl, (SameB.refl _ _ rfl), S⟩
    refine ⟨?_, ?_⟩
    ·
     refine ⟨_, rfl, rfl, by kernel_rfl, ?_⟩
     rintro D ⟨⟩ a z S F
     refine ⟨by kernel_rfl, ?_⟩
     exact op_pure F (v0 := .bool (((bestRt x from_ to am).2 : Int) == ((bestRt x from_ to am).2 : Int))) (v := .bool true) (by kernel_rfl) (eqlT rfl) ⟨(), rfl, (SameB.refl _ _ rfl), S⟩
    refine ⟨?_, ?_⟩
    ·
     refine ⟨_, rfl, rfl, by kernel_rfl, ?_⟩
     rintro D ⟨⟩ a z S F
     refine ⟨by kernel_rfl, ?_⟩
     exact op_loadK _ _ (some ⟨b10, 0, none⟩) 0 [.slice mb.A1 mb.r.nodes.length mb.c1, .slice mb.A2 mb.r.edges.length mb.c2, .slice mb.A3 mb.r.amts.length mb.c3] F rfl (by kernel_rfl) (by kernel_rfl) (by kernel_rfl) (by simp) (cBoxK S 10 rfl 0 (by kernel_rfl)) (⟨(), rfl, (SameB.refl _ _ rfl), S⟩)
    refine ⟨?_, ?_⟩
    ·
     refine ⟨_, rfl, rfl, by kernel_rfl, ?_⟩
     rintro D ⟨⟩ a z S F
     refine ⟨by kernel_rfl, ?_⟩
     refine op_fn F (by kernel_rfl) (from8_any _ mb.A1 mb.r.nodes.length mb.c1 mb.A2 mb.r.edges.length mb.c2 mb.A3 mb.r.amts.length mb.c3) ?_
     rintro e z ⟨rfl, hb⟩
     have S := S.grow hb
     exact ⟨_, rfl, (), rfl, (SameB.refl _ _ rfl), S⟩
    refine ⟨?_, ?_⟩
    ·
     refine ⟨_, rfl, rfl, by kernel_rfl, ?_⟩
     rintro D ⟨⟩ a z S F
     refine ⟨by kernel_rfl, ?_⟩
     exact op_loadK _ _ (some ⟨b11, 0, none⟩) 0 [.slice B1 mb.r.nodes.length d1, .slice B2 mb.r.edges.length d2, .slice B3 mb.r.amts.length d3] F rfl (by kernel_rfl) (by kernel_rfl) (by kernel_rfl) (by simp) (cBoxK S 12 rfl 0 (by kernel_rfl)) (⟨(), rfl, (SameB.refl _ _ rfl), S⟩)
    refine ⟨?_, ?_⟩
    ·
     refine ⟨_, rfl, rfl, by kernel_rfl, ?_⟩
     rintro D ⟨⟩ a z S F
     refine ⟨by kernel_rfl, ?_⟩
     refine op_fn F (by kernel_rfl) (same8_any _ mb.r mb.A1 mb.c1 mb.A2 mb.c2 mb.A3 mb.c3 B1 d1 B2 d2 B3 d3 (hpmb S 9 rfl).1 (hpmb S 9 rfl).2.1 (hpmb S 9 rfl).2.2.1 (hpmc S 11 rfl).1 (hpmc S 11 rfl).2.1 (hpmc S 11 rfl).2.2.1 (hpmb S 9 rfl).2.2.2.1 (hpmb S 9 rfl).2.2.2.2.1 (hpmb S 9 rfl).2.2.2.2.2) ?_
     rintro e z ⟨rfl, hb⟩
     have S := S.grow hb
     exact ⟨_, rfl, (), rfl, (SameB.refl _ _ rfl), S⟩
    trivial
   ·
    rintro ⟨⟩ a z F S
    have F := F.sub (l := [(8, .bool true)]) ⟨by kernel_rfl, trivial⟩
    have S : Sat w z [rest w (· < w.heap.size), box b1 25 [.slice As x.spots.length cs, .slice Ae x.edges.length ce], row 107 2 (.slice A3 x.spots.length c4) x.spots.length (x.spots.flatMap spC), row 62 8 (.slice A5 x.edges.length c6) x.edges.length (x.edges.flatMap edC), box b7 32 [.slice A3 x.spots.length c4, .slice A5 x.edges.length c6], row 47 3 (.slice Al R2.length cl) R2.length (R2.flatMap rtC), bag (R2.flatMap rtRows), row 45 3 (.slice Am9 R3.length cm9) R3.length (R3.flatMap rtC), bag (R3.flatMap rtRows), bag (Rb.flatMap rtRows), box b10 47 [.slice mb.A1 mb.r.nodes.length mb.c1, .slice mb.A2 mb.r.edges.length mb.c2, .slice mb.A3 mb.r.amts.length mb.c3], bag (Rc.flatMap rtRows), box b11 45 [.slice B1 mb.r.nodes.length d1, .slice B2 mb.r.edges.length d2, .slice B3 mb.r.amts.length d3]] := S
    refine then_n ?_
    refine wp_ret ?_
    exact fin F [.tmp 8] [.bool true] rfl ⟨by kernel_rfl, trivial⟩ (.bool true) rfl ⟨rfl, S.below (i := 0) rfl⟩
end Go.Proofs.Ytcfpbemoocegfaa
