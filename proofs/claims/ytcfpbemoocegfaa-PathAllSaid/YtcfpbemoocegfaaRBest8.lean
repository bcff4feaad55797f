/- Walks over routes: the document's best one; the same routes? -/
import Derived.Test.YtcfpbemoocegfaaAwake08
import Derived.Test.YtcfpbemoocegfaaWays
import Derived.Test.YtcfpbemoocegfaaReadWeb
namespace Go.Proofs.Ytcfpbemoocegfaa
set_option linter.unusedVariables false
set_option linter.unusedSimpArgs false
set_option linter.unnecessarySimpa false
open Go Go.RowKit

theorem recs_nil8 {α : Type} {k : Nat} {f : α → List Value} (w : World) : Recs k f w none 0 ([] : List α) := ⟨fun _ => ⟨rfl, rfl⟩, srcNil _, by simp⟩
theorem best_recs {w0 w : World} {l : List Asn} (S : Sat w0 w l) (i : Nat) {R : List RtM} {m : RtM} {x : Wb} {from_ to am : Int} (hi : l[i]? = some (bag (R.flatMap rtRows))) (h2 : R.map RtM.r = allRt x from_ to am) (h3 : (bestRt x from_ to am).2 = 0 → m ∈ R) (h4 : (bestRt x from_ to am).2 ≠ 0 → m = noM) :
    Recs 1 iC_i64 w m.A1 m.c1 m.r.nodes ∧ Recs 1 iC_i64 w m.A2 m.c2 m.r.edges ∧ Recs 1 iC_u64 w m.A3 m.c3 m.r.amts ∧ m.r.nodes.length ≤ 8 ∧ m.r.edges.length ≤ 7 ∧ m.r.edges.length ≤ m.r.amts.length := by
  by_cases h0 : (bestRt x from_ to am).2 = 0
  · have hm := h3 h0
    obtain ⟨k, hk, he⟩ := List.getElem_of_mem hm
    obtain ⟨_, hg, hl, _⟩ := good_of h2 (i := k) (m := m) (by rw [List.getElem?_eq_getElem hk, he])
    have hw := hg.way.len
    have hf := hg.few
    obtain ⟨_, _, ha⟩ := hg.amts
    exact ⟨bag_nodes S i hi hm (by omega), bag_edges S i hi hm (by omega), bag_amts S i hi hm (by omega), by omega, hf, by omega⟩
  · rw [h4 h0]
    exact ⟨recs_nil8 _, recs_nil8 _, recs_nil8 _, by decide, by decide, by decide⟩
set_option maxRecDepth 100000 in
set_option maxHeartbeats 4000000 in
theorem rbest_any (w : World) (As : Option Addr) (cs : Nat) (Ae : Option Addr) (ce : Nat) (x : Wb) (h : WebAt w As cs Ae ce x) (ok : x.Ok) (from_ to am : Int) (hua : U64 am) (hs1 : x.spots.length ≤ 1000) : Calls Try.prog 22 #[.agg #[.slice As x.spots.length cs, .slice Ae x.edges.length ce], .int .i64 from_, .int .i64 to, .int .u64 am] w fun e w' => ∃ (m : RtM) (R' : List RtM), e = .returned (.tuple #[.agg #[.slice m.A1 m.r.nodes.length m.c1, .slice m.A2 m.r.edges.length m.c2, .slice m.A3 m.r.amts.length m.c3], .int .i64 (bestRt x from_ to am).2]) ∧ m.r = (bestRt x from_ to am).1 ∧ R'.map RtM.r = allRt x from_ to am ∧ ((bestRt x from_ to am).2 = 0 → m ∈ R') ∧ ((bestRt x from_ to am).2 ≠ 0 → m = noM) ∧ Sat w w' [rest w (· < w.heap.size), bag (R'.flatMap rtRows)] := by
 refine enter 80 Try.func22 rfl rfl rfl fun a F => ?_
 have S := Sat.pushRest w
 refine s_reg ?_
 refine l_do F rfl rfl (op_box S _ _ (.agg #[.slice As x.spots.length cs, .slice Ae x.edges.length ce]) F rfl (by kernel_rfl) fun b1 z S a F => ?_)
 refine l_do F rfl rfl (op_alloc S _ (.agg #[.slice none 0 0, .slice none 0 0, .slice none 0 0]) rfl (by kernel_rfl) fun b2 z S a F => ?_)
 refine l_pure 1 (fun L => (9, .int .i64 0) :: L) F (by kernel_rfl) fun a F => ?_
 refine l_then ?_
 refine s_reg ?_
 refine l_do F rfl rfl (op_loadK _ _ (some ⟨b1, 0, none⟩) 0 [.slice As x.spots.length cs, .slice Ae x.edges.length ce] F rfl (by kernel_rfl) (by kernel_rfl) (by kernel_rfl) (by simp) (cBoxK S 1 rfl 0 (by kernel_rfl)) (fun a F => ?_))
 refine l_pure 3 (fun L => (20, .int .u64 am) :: (19, .int .i64 to) :: (18, .int .i64 from_) :: L) F (by kernel_rfl) fun a F => ?_
 refine l_do F rfl rfl (op_fn F (by kernel_rfl) (rall8_any _ As cs Ae ce x (h.move S rfl) ok from_ to am hua hs1) ?_)
 rintro e z ⟨Al, cl, R2, rfl, hR2, g⟩
 have S := S.pushThings g
 have hlR2 : R2.length ≤ 32 := by have h9 := all_few x from_ to am; rw [← hR2, List.length_map] at h9; exact h9
 refine ⟨_, rfl, ?_⟩
 intro a F
 refine l_pure 5 (fun L => (11, .int .i64 (rightP x from_ to am)) :: (10, .slice Al R2.length cl) :: (23, .int .i64 (rightP x from_ to am)) :: (22, .slice Al R2.length cl) :: (16, .tuple #[.slice Al R2.length cl, .int .i64 (rightP x from_ to am)]) :: L) F (by kernel_rfl) fun a F => ?_
 refine l_then ?_
 refine wp_seq ?_
 refine s_reg ?_
 refine l_pure 1 (fun L => (24, .int .i64 (rightP x from_ to am)) :: L) F (by kernel_rfl) fun a F => ?_
 by_cases ht3 : (rightP x from_ to am : Int) = (0 : Int)
 ·
  skip
  have hr := ht3
  refine l_do F rfl rfl (op_pure F (v0 := .bool ((rightP x from_ to am : Int) != (0 : Int))) (v := .bool false) (by kernel_rfl) (neqF ht3) fun a F => ?_)
  refine l_then ?_
  refine c_f F rfl ?_
  refine wp_skip ?_
  refine then_n ?_
  refine wp_seq ?_
  refine s_reg ?_
  refine l_pure 2 (fun L => (29, .int .i64 (R2.length : Nat)) :: (28, .slice Al R2.length cl) :: L) F (by kernel_rfl) fun a F => ?_
  by_cases ht4 : ((R2.length : Nat) : Int) = (0 : Int)
  ·
   skip
   have hnil : R2 = [] := List.eq_nil_of_length_eq_zero (by omega)
   refine l_do F rfl rfl (op_pure F (v0 := .bool (((R2.length : Nat) : Int) == (0 : Int))) (v := .bool true) (by kernel_rfl) (eqlT ht4) fun a F => ?_)
   refine l_then ?_
   refine c_t F rfl ?_
   refine s_reg ?_
   refine l_pure 1 (fun L => (31, .agg #[.slice none 0 0, .slice none 0 0, .slice none 0 0]) :: L) F (by kernel_rfl) fun a F => ?_
   refine l_do F rfl rfl (op_storeB S 2 _ _ _ b2 0 (.agg #[.slice none 0 0, .slice none 0 0, .slice none 0 0]) F rfl rfl (by kernel_rfl) (by kernel_rfl) (by kernel_rfl) (by kernel_rfl) (by kernel_rfl) fun z S a F => ?_)
   refine l_pure 1 (fun L => (9, .int .i64 27) :: L) F (by kernel_rfl) fun a F => ?_
   refine l_then ?_
   refine wp_ret ?_
   refine then_r (?_)
   have hbest : bestRt x from_ to am = (noRt, 27) := best_none hr (by rw [← hR2, hnil]; rfl)
   exact fin F [.cell 8 45, .tmp 9] [.agg #[.slice none 0 0, .slice none 0 0, .slice none 0 0], .int .i64 27] rfl ⟨⟨_, by kernel_rfl, resK S 2 (cs := [.slice none 0 0, .slice none 0 0, .slice none 0 0]) rfl (by kernel_rfl) (by kernel_rfl) (by simp)⟩, by kernel_rfl, trivial⟩ (.tuple #[.agg #[.slice none 0 0, .slice none 0 0, .slice none 0 0], .int .i64 27]) rfl ⟨noM, R2, by rw [hbest]; rfl, by rw [hbest]; rfl, hR2, fun h9 => absurd h9 (by rw [hbest]; decide), fun _ => rfl, S.pick [0, 4] (by decide)⟩
  ·
   skip
   obtain ⟨m0, hm0⟩ : ∃ m0, R2[0]? = some m0 := ⟨_, List.getElem?_eq_getElem (by omega)⟩
   refine l_do F rfl rfl (op_pure F (v0 := .bool (((R2.length : Nat) : Int) == (0 : Int))) (v := .bool false) (by kernel_rfl) (eqlF ht4) fun a F => ?_)
   refine l_then ?_
   refine c_f F rfl ?_
   refine wp_skip ?_
   refine then_n ?_
   refine s_reg ?_
   refine l_pure 1 (fun L => (12, .int .i64 0) :: L) F (by kernel_rfl) fun a F => ?_
   refine l_then ?_
   refine wp_seq ?_
   refine s_reg ?_
   refine l_pure 1 (fun L => (13, .int .i64 1) :: L) F (by kernel_rfl) fun a F => ?_
   refine l_then ?_
   refine wp_block ?_
   refine wp_loop_m (fun m a z => ∃ (k : Nat) (bix : Nat) (mb : RtM), m = R2.length - k ∧ (k + 1 ≤ R2.length) ∧ (bix = bestIx (R2.map RtM.r) k) ∧ (R2[bix]? = some mb) ∧ Fr a 80 [(8, .pointer (some ⟨b2, 0, none⟩)), (10, .slice Al R2.length cl), (12, .int .i64 (bix : Nat)), (13, .int .i64 (k + 1 : Nat))] ∧ Sat w z [rest w (· < w.heap.size), box b1 25 [.slice As x.spots.length cs, .slice Ae x.edges.length ce], box b2 45 [.slice none 0 0, .slice none 0 0, .slice none 0 0], row 45 3 (.slice Al R2.length cl) R2.length (R2.flatMap rtC), bag (R2.flatMap rtRows)]) _ ⟨0, 0, m0, rfl, (by omega), rfl, hm0, F.sub ⟨by kernel_rfl, by kernel_rfl, by kernel_rfl, by kernel_rfl, trivial⟩, S⟩ ?_
   rintro m a z ⟨k, bix, mb, hm, hf5, hf6, hf7, F, S⟩
   have hb9 := hf6
   have hmb := hf7
   refine wp_seq ?_
   refine s_reg ?_
   refine l_pure 3 (fun L => (34, .int .i64 (R2.length : Nat)) :: (33, .slice Al R2.length cl) :: (32, .int .i64 (k + 1 : Nat)) :: L) F (by kernel_rfl) fun a F => ?_
   by_cases ht8 : ((k + 1 : Nat) : Int) < ((R2.length : Nat) : Int)
   ·
    skip
    obtain ⟨m1, he1⟩ : ∃ m1, R2[k + 1]? = some m1 := ⟨_, List.getElem?_eq_getElem (by omega)⟩
    have hgm1 := good_of hR2 he1
    obtain ⟨um1, hum1⟩ := hgm1.2.2.2
    have hgmb := good_of hR2 hmb
    obtain ⟨umb, humb⟩ := hgmb.2.2.2
    refine l_do F rfl rfl (op_pure F (v0 := .bool (decide (((k + 1 : Nat) : Int) < ((R2.length : Nat) : Int)))) (v := .bool true) (by kernel_rfl) (lssT ht8) fun a F => ?_)
    refine l_then ?_
    refine c_t F rfl ?_
    refine wp_skip ?_
    refine then_n ?_
    refine wp_seq ?_
    refine wp_block ?_
    refine wp_seq ?_
    have S := S.pushEmp.pushEmp
    refine region_gx (fun D => fun ((b9, b10) : Nat × Nat) => [rest w (· < w.heap.size), box b1 25 [.slice As x.spots.length cs, .slice Ae x.edges.length ce], box b2 45 [.slice none 0 0, .slice none 0 0, .slice none 0 0], row 45 3 (.slice Al R2.length cl) R2.length (R2.flatMap rtC), bag (R2.flatMap rtRows), bif D 10 then box b9 45 [.slice m1.A1 m1.r.nodes.length m1.c1, .slice m1.A2 m1.r.edges.length m1.c2, .slice m1.A3 m1.r.amts.length m1.c3] else (bif D 8 then box b9 45 [.slice none 0 0, .slice none 0 0, .slice none 0 0] else emp), bif D 11 then box b10 45 [.slice mb.A1 mb.r.nodes.length mb.c1, .slice mb.A2 mb.r.edges.length mb.c2, .slice mb.A3 mb.r.amts.length mb.c3] else (bif D 9 then box b10 45 [.slice none 0 0, .slice none 0 0, .slice none 0 0] else emp)]) (fun ((b9, b10) : Nat × Nat) => [.slice Al R2.length cl, .int .i64 (k + 1 : Nat), ptrA Al ((k + 1) * 3), .agg #[.slice m1.A1 m1.r.nodes.length m1.c1, .slice m1.A2 m1.r.edges.length m1.c2, .slice m1.A3 m1.r.amts.length m1.c3], .slice Al R2.length cl, .int .i64 (bix : Nat), ptrA Al (bix * 3), .agg #[.slice mb.A1 mb.r.nodes.length mb.c1, .slice mb.A2 mb.r.edges.length mb.c2, .slice mb.A3 mb.r.amts.length mb.c3], .pointer (some ⟨b9, 0, none⟩), .pointer (some ⟨b10, 0, none⟩), undef, undef]) [(2, [], [3, 10, 11]), (3, [2], [10, 11]), (6, [], [7, 11]), (7, [6], [11]), (8, [], [10, 11]), (9, [], [10, 11]), (10, [2, 3, 8, 9], [11]), (11, [2, 3, 6, 7, 8, 9, 10], [])] (0, 0) rfl (by kernel_rfl) (by kernel_rfl) F S.drew ?_ ?_ ?_ ?_ ?_
    · rintro ⟨b9, b10⟩; rfl
    · rintro ⟨b9, b10⟩; kernel_rfl
    ·
     intro D D' x h
     obtain ⟨b9, b10⟩ := x
     simp only [h 8 (by decide), h 9 (by decide), h 10 (by decide), h 11 (by decide)]
    ·
     refine ⟨?_, ?_⟩
     ·
      refine ⟨_, rfl, rfl, by kernel_rfl, ?_⟩
      rintro D ⟨b9, b10⟩ a z S F
      refine ⟨by kernel_rfl, ?_⟩
      exact op_index _ 45 _ _ Al R2.length cl (k + 1) 3 .i64 F rfl (by kernel_rfl) (by kernel_rfl) (by kernel_rfl) (by kernel_rfl) (get_lt he1) (row_some S 3 rfl (m := k + 1) (get_lt he1)) (⟨(b9, b10), rfl, (SameB.refl _ _ rfl), S⟩)
     refine ⟨?_, ?_⟩
     ·
      refine ⟨_, rfl, rfl, by kernel_rfl, ?_⟩
      rintro D ⟨b9, b10⟩ a z S F
      refine ⟨by kernel_rfl, ?_⟩
      exact op_loadK _ _ Al ((k + 1) * 3) [.slice m1.A1 m1.r.nodes.length m1.c1, .slice m1.A2 m1.r.edges.length m1.c2, .slice m1.A3 m1.r.amts.length m1.c3] F rfl (by kernel_rfl) (by kernel_rfl) (by kernel_rfl) (by simp) (cRecK0 S 3 rtC_len rfl he1 (by kernel_rfl)) (⟨(b9, b10), rfl, (SameB.refl _ _ rfl), S⟩)
     refine ⟨?_, ?_⟩
     ·
      refine ⟨_, rfl, rfl, by kernel_rfl, ?_⟩
      rintro D ⟨b9, b10⟩ a z S F
      refine ⟨by kernel_rfl, ?_⟩
      exact op_index _ 45 _ _ Al R2.length cl bix 3 .i64 F rfl (by kernel_rfl) (by kernel_rfl) (by kernel_rfl) (by kernel_rfl) (get_lt hmb) (row_some S 3 rfl (m := bix) (get_lt hmb)) (⟨(b9, b10), rfl, (SameB.refl _ _ rfl), S⟩)
     refine ⟨?_, ?_⟩
     ·
      refine ⟨_, rfl, rfl, by kernel_rfl, ?_⟩
      rintro D ⟨b9, b10⟩ a z S F
      refine ⟨by kernel_rfl, ?_⟩
      exact op_loadK _ _ Al (bix * 3) [.slice mb.A1 mb.r.nodes.length mb.c1, .slice mb.A2 mb.r.edges.length mb.c2, .slice mb.A3 mb.r.amts.length mb.c3] F rfl (by kernel_rfl) (by kernel_rfl) (by kernel_rfl) (by simp) (cRecK0 S 3 rtC_len rfl hmb (by kernel_rfl)) (⟨(b9, b10), rfl, (SameB.refl _ _ rfl), S⟩)
     refine ⟨?_, ?_⟩
     ·
      refine ⟨_, rfl, rfl, by kernel_rfl, ?_⟩
      rintro D ⟨b9, b10⟩ a z S F
      refine ⟨by kernel_rfl, ?_⟩
      exact op_allocF S 5 rfl _ (.agg #[.slice none 0 0, .slice none 0 0, .slice none 0 0]) rfl (by kernel_rfl) fun y11 z S => ⟨(y11, b10), rfl, ⟨rfl, rfl, rfl, rfl, rfl, rfl, rfl, rfl, trivial, rfl, trivial, trivial, trivial⟩, S⟩
     refine ⟨?_, ?_⟩
     ·
      refine ⟨_, rfl, rfl, by kernel_rfl, ?_⟩
      rintro D ⟨b9, b10⟩ a z S F
      refine ⟨by kernel_rfl, ?_⟩
      exact op_allocF S 6 rfl _ (.agg #[.slice none 0 0, .slice none 0 0, .slice none 0 0]) rfl (by kernel_rfl) fun y12 z S => ⟨(b9, y12), rfl, ⟨rfl, rfl, rfl, rfl, rfl, rfl, rfl, rfl, rfl, trivial, trivial, trivial, trivial⟩, S⟩
     refine ⟨?_, ?_⟩
     ·
      refine ⟨_, rfl, rfl, by kernel_rfl, ?_⟩
      rintro D ⟨b9, b10⟩ a z S F
      refine ⟨by kernel_rfl, ?_⟩
      exact op_storeB S 5 _ _ _ b9 0 (.agg #[.slice m1.A1 m1.r.nodes.length m1.c1, .slice m1.A2 m1.r.edges.length m1.c2, .slice m1.A3 m1.r.amts.length m1.c3]) F rfl rfl (by kernel_rfl) (by kernel_rfl) (by kernel_rfl) (by kernel_rfl) (by kernel_rfl) fun z S => ⟨(b9, b10), rfl, (SameB.refl _ _ rfl), S⟩
     refine ⟨?_, ?_⟩
     ·
      refine ⟨_, rfl, rfl, by kernel_rfl, ?_⟩
      rintro D ⟨b9, b10⟩ a z S F
      refine ⟨by kernel_rfl, ?_⟩
      exact op_storeB S 6 _ _ _ b10 0 (.agg #[.slice mb.A1 mb.r.nodes.length mb.c1, .slice mb.A2 mb.r.edges.length mb.c2, .slice mb.A3 mb.r.amts.length mb.c3]) F rfl rfl (by kernel_rfl) (by kernel_rfl) (by kernel_rfl) (by kernel_rfl) (by kernel_rfl) fun z S => ⟨(b9, b10), rfl, (SameB.refl _ _ rfl), S⟩
     trivial
    ·
     rintro ⟨b9, b10⟩ a z F S
     have F := F.sub (l := [(8, .pointer (some ⟨b2, 0, none⟩)), (10, .slice Al R2.length cl), (12, .int .i64 (bix : Nat)), (13, .int .i64 (k + 1 : Nat)), (14, .pointer (some ⟨b9, 0, none⟩)), (15, .pointer (some ⟨b10, 0, none⟩))]) ⟨by kernel_rfl, by kernel_rfl, by kernel_rfl, by kernel_rfl, by kernel_rfl, by kernel_rfl, trivial⟩
     have S : Sat w z [rest w (· < w.heap.size), box b1 25 [.slice As x.spots.length cs, .slice Ae x.edges.length ce], box b2 45 [.slice none 0 0, .slice none 0 0, .slice none 0 0], row 45 3 (.slice Al R2.length cl) R2.length (R2.flatMap rtC), bag (R2.flatMap rtRows), box b9 45 [.slice m1.A1 m1.r.nodes.length m1.c1, .slice m1.A2 m1.r.edges.length m1.c2, .slice m1.A3 m1.r.amts.length m1.c3], box b10 45 [.slice mb.A1 mb.r.nodes.length mb.c1, .slice mb.A2 mb.r.edges.length mb.c2, .slice mb.A3 mb.r.amts.length mb.c3]] := S
     refine then_n ?_
     refine wp_seq ?_
     by_cases ht13 : (um1 : Int) < (umb : Int)
     ·
      skip
      refine region_gx (fun D => fun (_ : Unit) => [rest w (· < w.heap.size), box b1 25 [.slice As x.spots.length cs, .slice Ae x.edges.length ce], box b2 45 [.slice none 0 0, .slice none 0 0, .slice none 0 0], row 45 3 (.slice Al R2.length cl) R2.length (R2.flatMap rtC), bag (R2.flatMap rtRows), box b9 45 [.slice m1.A1 m1.r.nodes.length m1.c1, .slice m1.A2 m1.r.edges.length m1.c2, .slice m1.A3 m1.r.amts.length m1.c3], box b10 45 [.slice mb.A1 mb.r.nodes.length mb.c1, .slice mb.A2 mb.r.edges.length mb.c2, .slice mb.A3 mb.r.amts.length mb.c3]]) (fun (_ : Unit) => [.pointer (some ⟨b9, 2, none⟩), .slice m1.A3 m1.r.amts.length m1.c3, ptrA m1.A3 (0 * 1), .int .u64 um1, .pointer (some ⟨b10, 2, none⟩), .slice mb.A3 mb.r.amts.length mb.c3, ptrA mb.A3 (0 * 1), .int .u64 umb, .bool true, .bool true, undef, undef, undef, undef, undef, undef, undef, undef, undef, undef, undef, undef, undef, undef, undef, undef, undef, undef, .bool true]) [(1, [], [2, 3, 8]), (2, [1], [3, 8]), (3, [1, 2], [8]), (5, [], [6, 7, 8]), (6, [5], [7, 8]), (7, [5, 6], [8]), (8, [1, 2, 3, 5, 6, 7], [])] () rfl (by kernel_rfl) (by kernel_rfl) F S.drew ?_ ?_ ?_ ?_ ?_
      · rintro ⟨⟩; rfl
      · rintro ⟨⟩; kernel_rfl
      ·
       intro D D' x h
       cases x
       rfl
      ·
       refine ⟨?_, ?_⟩
       ·
        refine ⟨_, rfl, rfl, by kernel_rfl, ?_⟩
        rintro D ⟨⟩ a z S F
        refine ⟨by kernel_rfl, ?_⟩
        exact op_load _ _ (some ⟨b9, 0, none⟩) 2 (.slice m1.A3 m1.r.amts.length m1.c3) F rfl (by kernel_rfl) (by kernel_rfl) (cBox S 5 rfl (j := 2) rfl) (⟨(), rfl, (SameB.refl _ _ rfl), S⟩)
       refine ⟨?_, ?_⟩
       ·
        refine ⟨_, rfl, rfl, by kernel_rfl, ?_⟩
        rintro D ⟨⟩ a z S F
        refine ⟨by kernel_rfl, ?_⟩
        exact op_index _ 26 _ _ m1.A3 m1.r.amts.length m1.c3 0 1 .i64 F rfl (by kernel_rfl) (by kernel_rfl) (by kernel_rfl) (by kernel_rfl) (get_lt hum1) (recs_some (bag_amts S 4 rfl hgm1.1 (by have := hgm1.2.2.1; omega)) (m := 0) (get_lt hum1)) (⟨(), rfl, (SameB.refl _ _ rfl), S⟩)
       refine ⟨?_, ?_⟩
       ·
        refine ⟨_, rfl, rfl, by kernel_rfl, ?_⟩
        rintro D ⟨⟩ a z S F
        refine ⟨by kernel_rfl, ?_⟩
        exact op_load _ _ m1.A3 (0 * 1) (.int .u64 um1) F rfl (by kernel_rfl) (by kernel_rfl) (recs_cell iC_len_u64 (bag_amts S 4 rfl hgm1.1 (by have := hgm1.2.2.1; omega)) 0 hum1 rfl) (⟨(), rfl, (SameB.refl _ _ rfl), S⟩)
       refine ⟨?_, ?_⟩
       ·
        refine ⟨_, rfl, rfl, by kernel_rfl, ?_⟩
        rintro D ⟨⟩ a z S F
        refine ⟨by kernel_rfl, ?_⟩
        exact op_load _ _ (some ⟨b10, 0, none⟩) 2 (.slice mb.A3 mb.r.amts.length mb.c3) F rfl (by kernel_rfl) (by kernel_rfl) (cBox S 6 rfl (j := 2) rfl) (⟨(), rfl, (SameB.refl _ _ rfl), S⟩)
       refine ⟨?_, ?_⟩
       ·
        refine ⟨_, rfl, rfl, by kernel_rfl, ?_⟩
        rintro D ⟨⟩ a z S F
        refine ⟨by kernel_rfl, ?_⟩
        exact op_index _ 26 _ _ mb.A3 mb.r.amts.length mb.c3 0 1 .i64 F rfl (by kernel_rfl) (by kernel_rfl) (by kernel_rfl) (by kernel_rfl) (get_lt humb) (recs_some (bag_amts S 4 rfl hgmb.1 (by have := hgmb.2.2.1; omega)) (m := 0) (get_lt humb)) (⟨(), rfl, (SameB.refl _ _ rfl), S⟩)
       refine ⟨?_, ?_⟩
       ·
        refine ⟨_, rfl, rfl, by kernel_rfl, ?_⟩
        rintro D ⟨⟩ a z S F
        refine ⟨by kernel_rfl, ?_⟩
        exact op_load _ _ mb.A3 (0 * 1) (.int .u64 umb) F rfl (by kernel_rfl) (by kernel_rfl) (recs_cell iC_len_u64 (bag_amts S 4 rfl hgmb.1 (by have := hgmb.2.2.1; omega)) 0 humb rfl) (⟨(), rfl, (SameB.refl _ _ rfl), S⟩)
       refine ⟨?_, ?_⟩
       ·
        refine ⟨_, rfl, rfl, by kernel_rfl, ?_⟩
        rintro D ⟨⟩ a z S F
        refine ⟨by kernel_rfl, ?_⟩
        exact op_pure F (v0 := .bool (decide ((um1 : Int) < (umb : Int)))) (v := .bool true) (by kernel_rfl) (lssT ht13) ⟨(), rfl, (SameB.refl _ _ rfl), S⟩
       trivial
      ·
       rintro ⟨⟩ a z F S
       have F := F.sub (l := [(8, .pointer (some ⟨b2, 0, none⟩)), (10, .slice Al R2.length cl), (12, .int .i64 (bix : Nat)), (13, .int .i64 (k + 1 : Nat)), (74, .bool true)]) ⟨by kernel_rfl, by kernel_rfl, by kernel_rfl, by kernel_rfl, by kernel_rfl, trivial⟩
       have S : Sat w z [rest w (· < w.heap.size), box b1 25 [.slice As x.spots.length cs, .slice Ae x.edges.length ce], box b2 45 [.slice none 0 0, .slice none 0 0, .slice none 0 0], row 45 3 (.slice Al R2.length cl) R2.length (R2.flatMap rtC), bag (R2.flatMap rtRows), box b9 45 [.slice m1.A1 m1.r.nodes.length m1.c1, .slice m1.A2 m1.r.edges.length m1.c2, .slice m1.A3 m1.r.amts.length m1.c3], box b10 45 [.slice mb.A1 mb.r.nodes.length mb.c1, .slice mb.A2 mb.r.edges.length mb.c2, .slice mb.A3 mb.r.amts.length mb.c3]] := S
       refine then_n ?_
       refine c_t F rfl ?_
       refine wp_region_list ?_
       refine l_pure 2 (fun L => (12, .int .i64 (k + 1 : Nat)) :: (75, .int .i64 (k + 1 : Nat)) :: L) F (by kernel_rfl) fun a F => ?_
       refine l_nil (inb_n ?_)
       refine then_n ?_
       refine wp_region_list ?_
       refine l_pure 1 (fun L => (36, .int .i64 (k + 1 : Nat)) :: L) F (by kernel_rfl) fun a F => ?_
       refine l_do F rfl rfl (op_pure F (v0 := .int .i64 (IntKind.wrap .i64 ((k + 1 : Nat) + 1))) (v := .int .i64 (k + 1 + 1 : Nat)) (by kernel_rfl) (wrn_i64 (by omega) (by omega) (by omega)) fun a F => ?_)
       refine l_pure 1 (fun L => (13, .int .i64 (k + 1 + 1 : Nat)) :: L) F (by kernel_rfl) fun a F => ?_
       refine l_then ?_
       exact ⟨_, (by omega), k + 1, k + 1, m1, rfl, (by omega), (bestIx_yes (map_at he1) (by rw [← hb9]; exact map_at hmb) (better_yes hum1 humb (by omega))).symm, he1, F.sub ⟨by kernel_rfl, by kernel_rfl, by kernel_rfl, by kernel_rfl, trivial⟩, (S.pick [0, 1, 2, 3, 4] (by decide))⟩
     ·
      skip
      by_cases ht14 : (um1 : Int) = (umb : Int)
      ·
       skip
       by_cases ht15 : ((m1.r.edges.length : Nat) : Int) < ((mb.r.edges.length : Nat) : Int)
       ·
        skip
        refine region_gx (fun D => fun (_ : Unit) => [rest w (· < w.heap.size), box b1 25 [.slice As x.spots.length cs, .slice Ae x.edges.length ce], box b2 45 [.slice none 0 0, .slice none 0 0, .slice none 0 0], row 45 3 (.slice Al R2.length cl) R2.length (R2.flatMap rtC), bag (R2.flatMap rtRows), box b9 45 [.slice m1.A1 m1.r.nodes.length m1.c1, .slice m1.A2 m1.r.edges.length m1.c2, .slice m1.A3 m1.r.amts.length m1.c3], box b10 45 [.slice mb.A1 mb.r.nodes.length mb.c1, .slice mb.A2 mb.r.edges.length mb.c2, .slice mb.A3 mb.r.amts.length mb.c3]]) (fun (_ : Unit) => [.pointer (some ⟨b9, 2, none⟩), .slice m1.A3 m1.r.amts.length m1.c3, ptrA m1.A3 (0 * 1), .int .u64 um1, .pointer (some ⟨b10, 2, none⟩), .slice mb.A3 mb.r.amts.length mb.c3, ptrA mb.A3 (0 * 1), .int .u64 umb, .bool false, .bool false, .pointer (some ⟨b9, 2, none⟩), .slice m1.A3 m1.r.amts.length m1.c3, ptrA m1.A3 (0 * 1), .int .u64 um1, .pointer (some ⟨b10, 2, none⟩), .slice mb.A3 mb.r.amts.length mb.c3, ptrA mb.A3 (0 * 1), .int .u64 umb, .bool true, .bool true, .pointer (some ⟨b9, 1, none⟩), .slice m1.A2 m1.r.edges.length m1.c2, .int .i64 (m1.r.edges.length : Nat), .pointer (some ⟨b10, 1, none⟩), .slice mb.A2 mb.r.edges.length mb.c2, .int .i64 (mb.r.edges.length : Nat), .bool true, .bool true, .bool true]) [(1, [], [2, 3, 8, 11, 12, 13, 15, 16, 17, 18, 21, 24, 26]), (2, [1], [3, 8, 11, 12, 13, 15, 16, 17, 18, 21, 24, 26]), (3, [1, 2], [8, 11, 12, 13, 15, 16, 17, 18, 21, 24, 26]), (5, [], [6, 7, 8, 11, 12, 13, 15, 16, 17, 18, 21, 24, 26]), (6, [5], [7, 8, 11, 12, 13, 15, 16, 17, 18, 21, 24, 26]), (7, [5, 6], [8, 11, 12, 13, 15, 16, 17, 18, 21, 24, 26]), (8, [1, 2, 3, 5, 6, 7], [11, 12, 13, 15, 16, 17, 18, 21, 24, 26]), (11, [1, 2, 3, 5, 6, 7, 8], [12, 13, 18, 21, 24, 26]), (12, [1, 2, 3, 5, 6, 7, 8, 11], [13, 18, 21, 24, 26]), (13, [1, 2, 3, 5, 6, 7, 8, 11, 12], [18, 21, 24, 26]), (15, [1, 2, 3, 5, 6, 7, 8], [16, 17, 18, 21, 24, 26]), (16, [1, 2, 3, 5, 6, 7, 8, 15], [17, 18, 21, 24, 26]), (17, [1, 2, 3, 5, 6, 7, 8, 15, 16], [18, 21, 24, 26]), (18, [1, 2, 3, 5, 6, 7, 8, 11, 12, 13, 15, 16, 17], [21, 24, 26]), (21, [1, 2, 3, 5, 6, 7, 8, 11, 12, 13, 15, 16, 17, 18], [26]), (24, [1, 2, 3, 5, 6, 7, 8, 11, 12, 13, 15, 16, 17, 18], [26]), (26, [1, 2, 3, 5, 6, 7, 8, 11, 12, 13, 15, 16, 17, 18, 21, 24], [])] () rfl (by kernel_rfl) (by kernel_rfl) F S.drew ?_ ?_ ?_ ?_ ?_
        · rintro ⟨⟩; rfl
        · rintro ⟨⟩; kernel_rfl
        ·
         intro D D' x h
         cases x
         rfl
        ·
         refine ⟨?_, ?_⟩
         ·
          refine ⟨_, rfl, rfl, by kernel_rfl, ?_⟩
          rintro D ⟨⟩ a z S F
          refine ⟨by kernel_rfl, ?_⟩
          exact op_load _ _ (some ⟨b9, 0, none⟩) 2 (.slice m1.A3 m1.r.amts.length m1.c3) F rfl (by kernel_rfl) (by kernel_rfl) (cBox S 5 rfl (j := 2) rfl) (⟨(), rfl, (SameB.refl _ _ rfl), S⟩)
         refine ⟨?_, ?_⟩
         ·
          refine ⟨_, rfl, rfl, by kernel_rfl, ?_⟩
          rintro D ⟨⟩ a z S F
          refine ⟨by kernel_rfl, ?_⟩
          exact op_index _ 26 _ _ m1.A3 m1.r.amts.length m1.c3 0 1 .i64 F rfl (by kernel_rfl) (by kernel_rfl) (by kernel_rfl) (by kernel_rfl) (get_lt hum1) (recs_some (bag_amts S 4 rfl hgm1.1 (by have := hgm1.2.2.1; omega)) (m := 0) (get_lt hum1)) (⟨(), rfl, (SameB.refl _ _ rfl), S⟩)
         refine ⟨?_, ?_⟩
         ·
          refine ⟨_, rfl, rfl, by kernel_rfl, ?_⟩
          rintro D ⟨⟩ a z S F
          refine ⟨by kernel_rfl, ?_⟩
          exact op_load _ _ m1.A3 (0 * 1) (.int .u64 um1) F rfl (by kernel_rfl) (by kernel_rfl) (recs_cell iC_len_u64 (bag_amts S 4 rfl hgm1.1 (by have := hgm1.2.2.1; omega)) 0 hum1 rfl) (⟨(), rfl, (SameB.refl _ _ rfl), S⟩)
         refine ⟨?_, ?_⟩
         ·
          refine ⟨_, rfl, rfl, by kernel_rfl, ?_⟩
          rintro D ⟨⟩ a z S F
          refine ⟨by kernel_rfl, ?_⟩
          exact op_load _ _ (some ⟨b10, 0, none⟩) 2 (.slice mb.A3 mb.r.amts.length mb.c3) F rfl (by kernel_rfl) (by kernel_rfl) (cBox S 6 rfl (j := 2) rfl) (⟨(), rfl, (SameB.refl _ _ rfl), S⟩)
         refine ⟨?_, ?_⟩
         ·
          refine ⟨_, rfl, rfl, by kernel_rfl, ?_⟩
          rintro D ⟨⟩ a z S F
          refine ⟨by kernel_rfl, ?_⟩
          exact op_index _ 26 _ _ mb.A3 mb.r.amts.length mb.c3 0 1 .i64 F rfl (by kernel_rfl) (by kernel_rfl) (by kernel_rfl) (by kernel_rfl) (get_lt humb) (recs_some (bag_amts S 4 rfl hgmb.1 (by have := hgmb.2.2.1; omega)) (m := 0) (get_lt humb)) (⟨(), rfl, (SameB.refl _ _ rfl), S⟩)
         refine ⟨?_, ?_⟩
         ·
          refine ⟨_, rfl, rfl, by kernel_rfl, ?_⟩
          rintro D ⟨⟩ a z S F
          refine ⟨by kernel_rfl, ?_⟩
          exact op_load _ _ mb.A3 (0 * 1) (.int .u64 umb) F rfl (by kernel_rfl) (by kernel_rfl) (recs_cell iC_len_u64 (bag_amts S 4 rfl hgmb.1 (by have := hgmb.2.2.1; omega)) 0 humb rfl) (⟨(), rfl, (SameB.refl _ _ rfl), S⟩)
         refine ⟨?_, ?_⟩
         ·
          refine ⟨_, rfl, rfl, by kernel_rfl, ?_⟩
          rintro D ⟨⟩ a z S F
          refine ⟨by kernel_rfl, ?_⟩
          exact op_pure F (v0 := .bool (decide ((um1 : Int) < (umb : Int)))) (v := .bool false) (by kernel_rfl) (lssF ht13) ⟨(), rfl, (SameB.refl _ _ rfl), S⟩
         refine ⟨?_, ?_⟩
         ·
          refine ⟨_, rfl, rfl, by kernel_rfl, ?_⟩
          rintro D ⟨⟩ a z S F
          refine ⟨by kernel_rfl, ?_⟩
          exact op_load _ _ (some ⟨b9, 0, none⟩) 2 (.slice m1.A3 m1.r.amts.length m1.c3) F rfl (by kernel_rfl) (by kernel_rfl) (cBox S 5 rfl (j := 2) rfl) (⟨(), rfl, (SameB.refl _ _ rfl), S⟩)
         refine ⟨?_, ?_⟩
         ·
          refine ⟨_, rfl, rfl, by kernel_rfl, ?_⟩
          rintro D ⟨⟩ a z S F
          refine ⟨by kernel_rfl, ?_⟩
          exact op_index _ 26 _ _ m1.A3 m1.r.amts.length m1.c3 0 1 .i64 F rfl (by kernel_rfl) (by kernel_rfl) (by kernel_rfl) (by kernel_rfl) (get_lt hum1) (recs_some (bag_amts S 4 rfl hgm1.1 (by have := hgm1.2.2.1; omega)) (m := 0) (get_lt hum1)) (⟨(), rfl, (SameB.refl _ _ rfl), S⟩)
         refine ⟨?_, ?_⟩
         ·
          refine ⟨_, rfl, rfl, by kernel_rfl, ?_⟩
          rintro D ⟨⟩ a z S F
          refine ⟨by kernel_rfl, ?_⟩
          exact op_load _ _ m1.A3 (0 * 1) (.int .u64 um1) F rfl (by kernel_rfl) (by kernel_rfl) (recs_cell iC_len_u64 (bag_amts S 4 rfl hgm1.1 (by have := hgm1.2.2.1; omega)) 0 hum1 rfl) (⟨(), rfl, (SameB.refl _ _ rfl), S⟩)
         refine ⟨?_, ?_⟩
         ·
          refine ⟨_, rfl, rfl, by kernel_rfl, ?_⟩
          rintro D ⟨⟩ a z S F
          refine ⟨by kernel_rfl, ?_⟩
          exact op_load _ _ (some ⟨b10, 0, none⟩) 2 (.slice mb.A3 mb.r.amts.length mb.c3) F rfl (by kernel_rfl) (by kernel_rfl) (cBox S 6 rfl (j := 2) rfl) (⟨(), rfl, (SameB.refl _ _ rfl), S⟩)
         refine ⟨?_, ?_⟩
         ·
          refine ⟨_, rfl, rfl, by kernel_rfl, ?_⟩
          rintro D ⟨⟩ a z S F
          refine ⟨by kernel_rfl, ?_⟩
          exact op_index _ 26 _ _ mb.A3 mb.r.amts.length mb.c3 0 1 .i64 F rfl (by kernel_rfl) (by kernel_rfl) (by kernel_rfl) (by kernel_rfl) (get_lt humb) (recs_some (bag_amts S 4 rfl hgmb.1 (by have := hgmb.2.2.1; omega)) (m := 0) (get_lt humb)) (⟨(), rfl, (SameB.refl _ _ rfl), S⟩)
         refine ⟨?_, ?_⟩
         ·
          refine ⟨_, rfl, rfl, by kernel_rfl, ?_⟩
          rintro D ⟨⟩ a z S F
          refine ⟨by kernel_rfl, ?_⟩
          exact op_load _ _ mb.A3 (0 * 1) (.int .u64 umb) F rfl (by kernel_rfl) (by kernel_rfl) (recs_cell iC_len_u64 (bag_amts S 4 rfl hgmb.1 (by have := hgmb.2.2.1; omega)) 0 humb rfl) (⟨(), rfl, (SameB.refl _ _ rfl), S⟩)
         refine ⟨?_, ?_⟩
         ·
          refine ⟨_, rfl, rfl, by kernel_rfl, ?_⟩
          rintro D ⟨⟩ a z S F
          refine ⟨by kernel_rfl, ?_⟩
          exact op_pure F (v0 := .bool ((um1 : Int) == (umb : Int))) (v := .bool true) (by kernel_rfl) (eqlT ht14) ⟨(), rfl, (SameB.refl _ _ rfl), S⟩
         refine ⟨?_, ?_⟩
         ·
          refine ⟨_, rfl, rfl, by kernel_rfl, ?_⟩
          rintro D ⟨⟩ a z S F
          refine ⟨by kernel_rfl, ?_⟩
          exact op_load _ _ (some ⟨b9, 0, none⟩) 1 (.slice m1.A2 m1.r.edges.length m1.c2) F rfl (by kernel_rfl) (by kernel_rfl) (cBox S 5 rfl (j := 1) rfl) (⟨(), rfl, (SameB.refl _ _ rfl), S⟩)
         refine ⟨?_, ?_⟩
         ·
          refine ⟨_, rfl, rfl, by kernel_rfl, ?_⟩
          rintro D ⟨⟩ a z S F
          refine ⟨by kernel_rfl, ?_⟩
          exact op_load _ _ (some ⟨b10, 0, none⟩) 1 (.slice mb.A2 mb.r.edges.length mb.c2) F rfl (by kernel_rfl) (by kernel_rfl) (cBox S 6 rfl (j := 1) rfl) (⟨(), rfl, (SameB.refl _ _ rfl), S⟩)
         refine ⟨?_, ?_⟩
         ·
          refine ⟨_, rfl, rfl, by kernel_rfl, ?_⟩
          rintro D ⟨⟩ a z S F
          refine ⟨by kernel_rfl, ?_⟩
          exact op_pure F (v0 := .bool (decide (((m1.r.edges.length : Nat) : Int) < ((mb.r.edges.length : Nat) : Int)))) (v := .bool true) (by kernel_rfl) (lssT ht15) ⟨(), rfl, (SameB.refl _ _ rfl), S⟩
         trivial
        ·
         rintro ⟨⟩ a z F S
         have F := F.sub (l := [(8, .pointer (some ⟨b2, 0, none⟩)), (10, .slice Al R2.length cl), (12, .int .i64 (bix : Nat)), (13, .int .i64 (k + 1 : Nat)), (74, .bool true)]) ⟨by kernel_rfl, by kernel_rfl, by kernel_rfl, by kernel_rfl, by kernel_rfl, trivial⟩
         have S : Sat w z [rest w (· < w.heap.size), box b1 25 [.slice As x.spots.length cs, .slice Ae x.edges.length ce], box b2 45 [.slice none 0 0, .slice none 0 0, .slice none 0 0], row 45 3 (.slice Al R2.length cl) R2.length (R2.flatMap rtC), bag (R2.flatMap rtRows), box b9 45 [.slice m1.A1 m1.r.nodes.length m1.c1, .slice m1.A2 m1.r.edges.length m1.c2, .slice m1.A3 m1.r.amts.length m1.c3], box b10 45 [.slice mb.A1 mb.r.nodes.length mb.c1, .slice mb.A2 mb.r.edges.length mb.c2, .slice mb.A3 mb.r.amts.length mb.c3]] := S
         refine then_n ?_
         refine c_t F rfl ?_
         refine wp_region_list ?_
         refine l_pure 2 (fun L => (12, .int .i64 (k + 1 : Nat)) :: (75, .int .i64 (k + 1 : Nat)) :: L) F (by kernel_rfl) fun a F => ?_
         refine l_nil (inb_n ?_)
         refine then_n ?_
         refine wp_region_list ?_
         refine l_pure 1 (fun L => (36, .int .i64 (k + 1 : Nat)) :: L) F (by kernel_rfl) fun a F => ?_
         refine l_do F rfl rfl (op_pure F (v0 := .int .i64 (IntKind.wrap .i64 ((k + 1 : Nat) + 1))) (v := .int .i64 (k + 1 + 1 : Nat)) (by kernel_rfl) (wrn_i64 (by omega) (by omega) (by omega)) fun a F => ?_)
         refine l_pure 1 (fun L => (13, .int .i64 (k + 1 + 1 : Nat)) :: L) F (by kernel_rfl) fun a F => ?_
         refine l_then ?_
         exact ⟨_, (by omega), k + 1, k + 1, m1, rfl, (by omega), (bestIx_yes (map_at he1) (by rw [← hb9]; exact map_at hmb) (better_yes hum1 humb (by omega))).symm, he1, F.sub ⟨by kernel_rfl, by kernel_rfl, by kernel_rfl, by kernel_rfl, trivial⟩, (S.pick [0, 1, 2, 3, 4] (by decide))⟩
       ·
        skip
        refine region_gx (fun D => fun (_ : Unit) => [rest w (· < w.heap.size), box b1 25 [.slice As x.spots.length cs, .slice Ae x.edges.length ce], box b2 45 [.slice none 0 0, .slice none 0 0, .slice none 0 0], row 45 3 (.slice Al R2.length cl) R2.length (R2.flatMap rtC), bag (R2.flatMap rtRows), box b9 45 [.slice m1.A1 m1.r.nodes.length m1.c1, .slice m1.A2 m1.r.edges.length m1.c2, .slice m1.A3 m1.r.amts.length m1.c3], box b10 45 [.slice mb.A1 mb.r.nodes.length mb.c1, .slice mb.A2 mb.r.edges.length mb.c2, .slice mb.A3 mb.r.amts.length mb.c3]]) (fun (_ : Unit) => [.pointer (some ⟨b9, 2, none⟩), .slice m1.A3 m1.r.amts.length m1.c3, ptrA m1.A3 (0 * 1), .int .u64 um1, .pointer (some ⟨b10, 2, none⟩), .slice mb.A3 mb.r.amts.length mb.c3, ptrA mb.A3 (0 * 1), .int .u64 umb, .bool false, .bool false, .pointer (some ⟨b9, 2, none⟩), .slice m1.A3 m1.r.amts.length m1.c3, ptrA m1.A3 (0 * 1), .int .u64 um1, .pointer (some ⟨b10, 2, none⟩), .slice mb.A3 mb.r.amts.length mb.c3, ptrA mb.A3 (0 * 1), .int .u64 umb, .bool true, .bool true, .pointer (some ⟨b9, 1, none⟩), .slice m1.A2 m1.r.edges.length m1.c2, .int .i64 (m1.r.edges.length : Nat), .pointer (some ⟨b10, 1, none⟩), .slice mb.A2 mb.r.edges.length mb.c2, .int .i64 (mb.r.edges.length : Nat), .bool false, .bool false, .bool false]) [(1, [], [2, 3, 8, 11, 12, 13, 15, 16, 17, 18, 21, 24, 26]), (2, [1], [3, 8, 11, 12, 13, 15, 16, 17, 18, 21, 24, 26]), (3, [1, 2], [8, 11, 12, 13, 15, 16, 17, 18, 21, 24, 26]), (5, [], [6, 7, 8, 11, 12, 13, 15, 16, 17, 18, 21, 24, 26]), (6, [5], [7, 8, 11, 12, 13, 15, 16, 17, 18, 21, 24, 26]), (7, [5, 6], [8, 11, 12, 13, 15, 16, 17, 18, 21, 24, 26]), (8, [1, 2, 3, 5, 6, 7], [11, 12, 13, 15, 16, 17, 18, 21, 24, 26]), (11, [1, 2, 3, 5, 6, 7, 8], [12, 13, 18, 21, 24, 26]), (12, [1, 2, 3, 5, 6, 7, 8, 11], [13, 18, 21, 24, 26]), (13, [1, 2, 3, 5, 6, 7, 8, 11, 12], [18, 21, 24, 26]), (15, [1, 2, 3, 5, 6, 7, 8], [16, 17, 18, 21, 24, 26]), (16, [1, 2, 3, 5, 6, 7, 8, 15], [17, 18, 21, 24, 26]), (17, [1, 2, 3, 5, 6, 7, 8, 15, 16], [18, 21, 24, 26]), (18, [1, 2, 3, 5, 6, 7, 8, 11, 12, 13, 15, 16, 17], [21, 24, 26]), (21, [1, 2, 3, 5, 6, 7, 8, 11, 12, 13, 15, 16, 17, 18], [26]), (24, [1, 2, 3, 5, 6, 7, 8, 11, 12, 13, 15, 16, 17, 18], [26]), (26, [1, 2, 3, 5, 6, 7, 8, 11, 12, 13, 15, 16, 17, 18, 21, 24], [])] () rfl (by kernel_rfl) (by kernel_rfl) F S.drew ?_ ?_ ?_ ?_ ?_
        · rintro ⟨⟩; rfl
        · rintro ⟨⟩; kernel_rfl
        ·
         intro D D' x h
         cases x
         rfl
        ·
         refine ⟨?_, ?_⟩
         ·
          refine ⟨_, rfl, rfl, by kernel_rfl, ?_⟩
          rintro D ⟨⟩ a z S F
          refine ⟨by kernel_rfl, ?_⟩
          exact op_load _ _ (some ⟨b9, 0, none⟩) 2 (.slice m1.A3 m1.r.amts.length m1.c3) F rfl (by kernel_rfl) (by kernel_rfl) (cBox S 5 rfl (j := 2) rfl) (⟨(), rfl, (SameB.refl _ _ rfl), S⟩)
         refine ⟨?_, ?_⟩
         ·
          refine ⟨_, rfl, rfl, by kernel_rfl, ?_⟩
          rintro D ⟨⟩ a z S F
          refine ⟨by kernel_rfl, ?_⟩
          exact op_index _ 26 _ _ m1.A3 m1.r.amts.length m1.c3 0 1 .i64 F rfl (by kernel_rfl) (by kernel_rfl) (by kernel_rfl) (by kernel_rfl) (get_lt hum1) (recs_some (bag_amts S 4 rfl hgm1.1 (by have := hgm1.2.2.1; omega)) (m := 0) (get_lt hum1)) (⟨(), rfl, (SameB.refl _ _ rfl), S⟩)
         refine ⟨?_, ?_⟩
         ·
          refine ⟨_, rfl, rfl, by kernel_rfl, ?_⟩
          rintro D ⟨⟩ a z S F
          refine ⟨by kernel_rfl, ?_⟩
          exact op_load _ _ m1.A3 (0 * 1) (.int .u64 um1) F rfl (by kernel_rfl) (by kernel_rfl) (recs_cell iC_len_u64 (bag_amts S 4 rfl hgm1.1 (by have := hgm1.2.2.1; omega)) 0 hum1 rfl) (⟨(), rfl, (SameB.refl _ _ rfl), S⟩)
         refine ⟨?_, ?_⟩
         ·
          refine ⟨_, rfl, rfl, by kernel_rfl, ?_⟩
          rintro D ⟨⟩ a z S F
          refine ⟨by kernel_rfl, ?_⟩
          exact op_load _ _ (some ⟨b10, 0, none⟩) 2 (.slice mb.A3 mb.r.amts.length mb.c3) F rfl (by kernel_rfl) (by kernel_rfl) (cBox S 6 rfl (j := 2) rfl) (⟨(), rfl, (SameB.refl _ _ rfl), S⟩)
         refine ⟨?_, ?_⟩
         ·
          refine ⟨_, rfl, rfl, by kernel_rfl, ?_⟩
          rintro D ⟨⟩ a z S F
          refine ⟨by kernel_rfl, ?_⟩
          exact op_index _ 26 _ _ mb.A3 mb.r.amts.length mb.c3 0 1 .i64 F rfl (by kernel_rfl) (by kernel_rfl) (by kernel_rfl) (by kernel_rfl) (get_lt humb) (recs_some (bag_amts S 4 rfl hgmb.1 (by have := hgmb.2.2.1; omega)) (m := 0) (get_lt humb)) (⟨(), rfl, (SameB.refl _ _ rfl), S⟩)
         refine ⟨?_, ?_⟩
         ·
          refine ⟨_, rfl, rfl, by kernel_rfl, ?_⟩
          rintro D ⟨⟩ a z S F
          refine ⟨by kernel_rfl, ?_⟩
          exact op_load _ _ mb.A3 (0 * 1) (.int .u64 umb) F rfl (by kernel_rfl) (by kernel_rfl) (recs_cell iC_len_u64 (bag_amts S 4 rfl hgmb.1 (by have := hgmb.2.2.1; omega)) 0 humb rfl) (⟨(), rfl, (SameB.refl _ _ rfl), S⟩)
         refine ⟨?_, ?_⟩
         ·
          refine ⟨_, rfl, rfl, by kernel_rfl, ?_⟩
          rintro D ⟨⟩ a z S F
          refine ⟨by kernel_rfl, ?_⟩
          exact op_pure F (v0 := .bool (decide ((um1 : Int) < (umb : Int)))) (v := .bool false) (by kernel_rfl) (lssF ht13) ⟨(), rfl, (SameB.refl _ _ rfl), S⟩
         refine ⟨?_, ?_⟩
         ·
          refine ⟨_, rfl, rfl, by kernel_rfl, ?_⟩
          rintro D ⟨⟩ a z S F
          refine ⟨by kernel_rfl, ?_⟩
          exact op_load _ _ (some ⟨b9, 0, none⟩) 2 (.slice m1.A3 m1.r.amts.length m1.c3) F rfl (by kernel_rfl) (by kernel_rfl) (cBox S 5 rfl (j := 2) rfl) (⟨(), rfl, (SameB.refl _ _ rfl), S⟩)
         refine ⟨?_, ?_⟩
         ·
          refine ⟨_, rfl, rfl, by kernel_rfl, ?_⟩
          rintro D ⟨⟩ a z S F
          refine ⟨by kernel_rfl, ?_⟩
          exact op_index _ 26 _ _ m1.A3 m1.r.amts.length m1.c3 0 1 .i64 F rfl (by kernel_rfl) (by kernel_rfl) (by kernel_rfl) (by kernel_rfl) (get_lt hum1) (recs_some (bag_amts S 4 rfl hgm1.1 (by have := hgm1.2.2.1; omega)) (m := 0) (get_lt hum1)) (⟨(), rfl, (SameB.refl _ _ rfl), S⟩)
         refine ⟨?_, ?_⟩
         ·
          refine ⟨_, rfl, rfl, by kernel_rfl, ?_⟩
          rintro D ⟨⟩ a z S F
          refine ⟨by kernel_rfl, ?_⟩
          exact op_load _ _ m1.A3 (0 * 1) (.int .u64 um1) F rfl (by kernel_rfl) (by kernel_rfl) (recs_cell iC_len_u64 (bag_amts S 4 rfl hgm1.1 (by have := hgm1.2.2.1; omega)) 0 hum1 rfl) (⟨(), rfl, (SameB.refl _ _ rfl), S⟩)
         refine ⟨?_, ?_⟩
         ·
          refine ⟨_, rfl, rfl, by kernel_rfl, ?_⟩
          rintro D ⟨⟩ a z S F
          refine ⟨by kernel_rfl, ?_⟩
          exact op_load _ _ (some ⟨b10, 0, none⟩) 2 (.slice mb.A3 mb.r.amts.length mb.c3) F rfl (by kernel_rfl) (by kernel_rfl) (cBox S 6 rfl (j := 2) rfl) (⟨(), rfl, (SameB.refl _ _ rfl), S⟩)
         refine ⟨?_, ?_⟩
         ·
          refine ⟨_, rfl, rfl, by kernel_rfl, ?_⟩
          rintro D ⟨⟩ a z S F
          refine ⟨by kernel_rfl, ?_⟩
          exact op_index _ 26 _ _ mb.A3 mb.r.amts.length mb.c3 0 1 .i64 F rfl (by kernel_rfl) (by kernel_rfl) (by kernel_rfl) (by kernel_rfl) (get_lt humb) (recs_some (bag_amts S 4 rfl hgmb.1 (by have := hgmb.2.2.1; omega)) (m := 0) (get_lt humb)) (⟨(), rfl, (SameB.refl _ _ rfl), S⟩)
         refine ⟨?_, ?_⟩
         ·
          refine ⟨_, rfl, rfl, by kernel_rfl, ?_⟩
          rintro D ⟨⟩ a z S F
          refine ⟨by kernel_rfl, ?_⟩
          exact op_load _ _ mb.A3 (0 * 1) (.int .u64 umb) F rfl (by kernel_rfl) (by kernel_rfl) (recs_cell iC_len_u64 (bag_amts S 4 rfl hgmb.1 (by have := hgmb.2.2.1; omega)) 0 humb rfl) (⟨(), rfl, (SameB.refl _ _ rfl), S⟩)
         refine ⟨?_, ?_⟩
         ·
          refine ⟨_, rfl, rfl, by kernel_rfl, ?_⟩
          rintro D ⟨⟩ a z S F
          refine ⟨by kernel_rfl, ?_⟩
          exact op_pure F (v0 := .bool ((um1 : Int) == (umb : Int))) (v := .bool true) (by kernel_rfl) (eqlT ht14) ⟨(), rfl, (SameB.refl _ _ rfl), S⟩
         refine ⟨?_, ?_⟩
         ·
          refine ⟨_, rfl, rfl, by kernel_rfl, ?_⟩
          rintro D ⟨⟩ a z S F
          refine ⟨by kernel_rfl, ?_⟩
          exact op_load _ _ (some ⟨b9, 0, none⟩) 1 (.slice m1.A2 m1.r.edges.length m1.c2) F rfl (by kernel_rfl) (by kernel_rfl) (cBox S 5 rfl (j := 1) rfl) (⟨(), rfl, (SameB.refl _ _ rfl), S⟩)
         refine ⟨?_, ?_⟩
         ·
          refine ⟨_, rfl, rfl, by kernel_rfl, ?_⟩
          rintro D ⟨⟩ a z S F
          refine ⟨by kernel_rfl, ?_⟩
          exact op_load _ _ (some ⟨b10, 0, none⟩) 1 (.slice mb.A2 mb.r.edges.length mb.c2) F rfl (by kernel_rfl) (by kernel_rfl) (cBox S 6 rfl (j := 1) rfl) (⟨(), rfl, (SameB.refl _ _ rfl), S⟩)
         refine ⟨?_, ?_⟩
         ·
          refine ⟨_, rfl, rfl, by kernel_rfl, ?_⟩
          rintro D ⟨⟩ a z S F
          refine ⟨by kernel_rfl, ?_⟩
          exact op_pure F (v0 := .bool (decide (((m1.r.edges.length : Nat) : Int) < ((mb.r.edges.length : Nat) : Int)))) (v := .bool false) (by kernel_rfl) (lssF ht15) ⟨(), rfl, (SameB.refl _ _ rfl), S⟩
         trivial
        ·
         rintro ⟨⟩ a z F S
         have F := F.sub (l := [(8, .pointer (some ⟨b2, 0, none⟩)), (10, .slice Al R2.length cl), (12, .int .i64 (bix : Nat)), (13, .int .i64 (k + 1 : Nat)), (74, .bool false)]) ⟨by kernel_rfl, by kernel_rfl, by kernel_rfl, by kernel_rfl, by kernel_rfl, trivial⟩
         have S : Sat w z [rest w (· < w.heap.size), box b1 25 [.slice As x.spots.length cs, .slice Ae x.edges.length ce], box b2 45 [.slice none 0 0, .slice none 0 0, .slice none 0 0], row 45 3 (.slice Al R2.length cl) R2.length (R2.flatMap rtC), bag (R2.flatMap rtRows), box b9 45 [.slice m1.A1 m1.r.nodes.length m1.c1, .slice m1.A2 m1.r.edges.length m1.c2, .slice m1.A3 m1.r.amts.length m1.c3], box b10 45 [.slice mb.A1 mb.r.nodes.length mb.c1, .slice mb.A2 mb.r.edges.length mb.c2, .slice mb.A3 mb.r.amts.length mb.c3]] := S
         refine then_n ?_
         refine c_f F rfl ?_
         refine wp_skip ?_
         refine inb_n ?_
         refine then_n ?_
         refine wp_region_list ?_
         refine l_pure 1 (fun L => (36, .int .i64 (k + 1 : Nat)) :: L) F (by kernel_rfl) fun a F => ?_
         refine l_do F rfl rfl (op_pure F (v0 := .int .i64 (IntKind.wrap .i64 ((k + 1 : Nat) + 1))) (v := .int .i64 (k + 1 + 1 : Nat)) (by kernel_rfl) (wrn_i64 (by omega) (by omega) (by omega)) fun a F => ?_)
         refine l_pure 1 (fun L => (13, .int .i64 (k + 1 + 1 : Nat)) :: L) F (by kernel_rfl) fun a F => ?_
         refine l_then ?_
         exact ⟨_, (by omega), k + 1, bix, mb, rfl, (by omega), (by rw [hb9]; exact (bestIx_no (map_at he1) (by rw [← hb9]; exact map_at hmb) (better_no hum1 humb (by omega))).symm), hmb, F.sub ⟨by kernel_rfl, by kernel_rfl, by kernel_rfl, by kernel_rfl, trivial⟩, (S.pick [0, 1, 2, 3, 4] (by decide))⟩
      ·
       skip
       refine region_gx (fun D => fun (_ : Unit) => [rest w (· < w.heap.size), box b1 25 [.slice As x.spots.length cs, .slice Ae x.edges.length ce], box b2 45 [.slice none 0 0, .slice none 0 0, .slice none 0 0], row 45 3 (.slice Al R2.length cl) R2.length (R2.flatMap rtC), bag (R2.flatMap rtRows), box b9 45 [.slice m1.A1 m1.r.nodes.length m1.c1, .slice m1.A2 m1.r.edges.length m1.c2, .slice m1.A3 m1.r.amts.length m1.c3], box b10 45 [.slice mb.A1 mb.r.nodes.length mb.c1, .slice mb.A2 mb.r.edges.length mb.c2, .slice mb.A3 mb.r.amts.length mb.c3]]) (fun (_ : Unit) => [.pointer (some ⟨b9, 2, none⟩), .slice m1.A3 m1.r.amts.length m1.c3, ptrA m1.A3 (0 * 1), .int .u64 um1, .pointer (some ⟨b10, 2, none⟩), .slice mb.A3 mb.r.amts.length mb.c3, ptrA mb.A3 (0 * 1), .int .u64 umb, .bool false, .bool false, .pointer (some ⟨b9, 2, none⟩), .slice m1.A3 m1.r.amts.length m1.c3, ptrA m1.A3 (0 * 1), .int .u64 um1, .pointer (some ⟨b10, 2, none⟩), .slice mb.A3 mb.r.amts.length mb.c3, ptrA mb.A3 (0 * 1), .int .u64 umb, .bool false, .bool false, undef, undef, undef, undef, undef, undef, undef, .bool false, .bool false]) [(1, [], [2, 3, 8, 11, 12, 13, 15, 16, 17, 18]), (2, [1], [3, 8, 11, 12, 13, 15, 16, 17, 18]), (3, [1, 2], [8, 11, 12, 13, 15, 16, 17, 18]), (5, [], [6, 7, 8, 11, 12, 13, 15, 16, 17, 18]), (6, [5], [7, 8, 11, 12, 13, 15, 16, 17, 18]), (7, [5, 6], [8, 11, 12, 13, 15, 16, 17, 18]), (8, [1, 2, 3, 5, 6, 7], [11, 12, 13, 15, 16, 17, 18]), (11, [1, 2, 3, 5, 6, 7, 8], [12, 13, 18]), (12, [1, 2, 3, 5, 6, 7, 8, 11], [13, 18]), (13, [1, 2, 3, 5, 6, 7, 8, 11, 12], [18]), (15, [1, 2, 3, 5, 6, 7, 8], [16, 17, 18]), (16, [1, 2, 3, 5, 6, 7, 8, 15], [17, 18]), (17, [1, 2, 3, 5, 6, 7, 8, 15, 16], [18]), (18, [1, 2, 3, 5, 6, 7, 8, 11, 12, 13, 15, 16, 17], [])] () rfl (by kernel_rfl) (by kernel_rfl) F S.drew ?_ ?_ ?_ ?_ ?_
       · rintro ⟨⟩; rfl
       · rintro ⟨⟩; kernel_rfl
       ·
        intro D D' x h
        cases x
        rfl
       ·
        refine ⟨?_, ?_⟩
        ·
         refine ⟨_, rfl, rfl, by kernel_rfl, ?_⟩
         rintro D ⟨⟩ a z S F
         refine ⟨by kernel_rfl, ?_⟩
         exact op_load _ _ (some ⟨b9, 0, none⟩) 2 (.slice m1.A3 m1.r.amts.length m1.c3) F rfl (by kernel_rfl) (by kernel_rfl) (cBox S 5 rfl (j := 2) rfl) (⟨(), rfl, (SameB.refl _ _ rfl), S⟩)
        refine ⟨?_, ?_⟩
        ·
         refine ⟨_, rfl, rfl, by kernel_rfl, ?_⟩
         rintro D ⟨⟩ a z S F
         refine ⟨by kernel_rfl, ?_⟩
         exact op_index _ 26 _ _ m1.A3 m1.r.amts.length m1.c3 0 1 .i64 F rfl (by kernel_rfl) (by kernel_rfl) (by kernel_rfl) (by kernel_rfl) (get_lt hum1) (recs_some (bag_amts S 4 rfl hgm1.1 (by have := hgm1.2.2.1; omega)) (m := 0) (get_lt hum1)) (⟨(), rfl, (SameB.refl _ _ rfl), S⟩)
        refine ⟨?_, ?_⟩
        ·
         refine ⟨_, rfl, rfl, by kernel_rfl, ?_⟩
         rintro D ⟨⟩ a z S F
         refine ⟨by kernel_rfl, ?_⟩
         exact op_load _ _ m1.A3 (0 * 1) (.int .u64 um1) F rfl (by kernel_rfl) (by kernel_rfl) (recs_cell iC_len_u64 (bag_amts S 4 rfl hgm1.1 (by have := hgm1.2.2.1; omega)) 0 hum1 rfl) (⟨(), rfl, (SameB.refl _ _ rfl), S⟩)
        refine ⟨?_, ?_⟩
        ·
         refine ⟨_, rfl, rfl, by kernel_rfl, ?_⟩
         rintro D ⟨⟩ a z S F
         refine ⟨by kernel_rfl, ?_⟩
         exact op_load _ _ (some ⟨b10, 0, none⟩) 2 (.slice mb.A3 mb.r.amts.length mb.c3) F rfl (by kernel_rfl) (by kernel_rfl) (cBox S 6 rfl (j := 2) rfl) (⟨(), rfl, (SameB.refl _ _ rfl), S⟩)
        refine ⟨?_, ?_⟩
        ·
         refine ⟨_, rfl, rfl, by kernel_rfl, ?_⟩
         rintro D ⟨⟩ a z S F
         refine ⟨by kernel_rfl, ?_⟩
         exact op_index _ 26 _ _ mb.A3 mb.r.amts.length mb.c3 0 1 .i64 F rfl (by kernel_rfl) (by kernel_rfl) (by kernel_rfl) (by kernel_rfl) (get_lt humb) (recs_some (bag_amts S 4 rfl hgmb.1 (by have := hgmb.2.2.1; omega)) (m := 0) (get_lt humb)) (⟨(), rfl, (SameB.refl _ _ rfl), S⟩)
        refine ⟨?_, ?_⟩
        ·
         refine ⟨_, rfl, rfl, by kernel_rfl, ?_⟩
         rintro D ⟨⟩ a z S F
         refine ⟨by kernel_rfl, ?_⟩
         exact op_load _ _ mb.A3 (0 * 1) (.int .u64 umb) F rfl (by kernel_rfl) (by kernel_rfl) (recs_cell iC_len_u64 (bag_amts S 4 rfl hgmb.1 (by have := hgmb.2.2.1; omega)) 0 humb rfl) (⟨(), rfl, (SameB.refl _ _ rfl), S⟩)
        refine ⟨?_, ?_⟩
        ·
         refine ⟨_, rfl, rfl, by kernel_rfl, ?_⟩
         rintro D ⟨⟩ a z S F
         refine ⟨by kernel_rfl, ?_⟩
         exact op_pure F (v0 := .bool (decide ((um1 : Int) < (umb : Int)))) (v := .bool false) (by kernel_rfl) (lssF ht13) ⟨(), rfl, (SameB.refl _ _ rfl), S⟩
        refine ⟨?_, ?_⟩
        ·
         refine ⟨_, rfl, rfl, by kernel_rfl, ?_⟩
         rintro D ⟨⟩ a z S F
         refine ⟨by kernel_rfl, ?_⟩
         exact op_load _ _ (some ⟨b9, 0, none⟩) 2 (.slice m1.A3 m1.r.amts.length m1.c3) F rfl (by kernel_rfl) (by kernel_rfl) (cBox S 5 rfl (j := 2) rfl) (⟨(), rfl, (SameB.refl _ _ rfl), S⟩)
        refine ⟨?_, ?_⟩
        ·
         refine ⟨_, rfl, rfl, by kernel_rfl, ?_⟩
         rintro D ⟨⟩ a z S F
         refine ⟨by kernel_rfl, ?_⟩
         exact op_index _ 26 _ _ m1.A3 m1.r.amts.length m1.c3 0 1 .i64 F rfl (by kernel_rfl) (by kernel_rfl) (by kernel_rfl) (by kernel_rfl) (get_lt hum1) (recs_some (bag_amts S 4 rfl hgm1.1 (by have := hgm1.2.2.1; omega)) (m := 0) (get_lt hum1)) (⟨(), rfl, (SameB.refl _ _ rfl), S⟩)
        refine ⟨?_, ?_⟩
        ·
         refine ⟨_, rfl, rfl, by kernel_rfl, ?_⟩
         rintro D ⟨⟩ a z S F
         refine ⟨by kernel_rfl, ?_⟩
         exact op_load _ _ m1.A3 (0 * 1) (.int .u64 um1) F rfl (by kernel_rfl) (by kernel_rfl) (recs_cell iC_len_u64 (bag_amts S 4 rfl hgm1.1 (by have := hgm1.2.2.1; omega)) 0 hum1 rfl) (⟨(), rfl, (SameB.refl _ _ rfl), S⟩)
        refine ⟨?_, ?_⟩
        ·
         refine ⟨_, rfl, rfl, by kernel_rfl, ?_⟩
         rintro D ⟨⟩ a z S F
         refine ⟨by kernel_rfl, ?_⟩
         exact op_load _ _ (some ⟨b10, 0, none⟩) 2 (.slice mb.A3 mb.r.amts.length mb.c3) F rfl (by kernel_rfl) (by kernel_rfl) (cBox S 6 rfl (j := 2) rfl) (⟨(), rfl, (SameB.refl _ _ rfl), S⟩)
        refine ⟨?_, ?_⟩
        ·
         refine ⟨_, rfl, rfl, by kernel_rfl, ?_⟩
         rintro D ⟨⟩ a z S F
         refine ⟨by kernel_rfl, ?_⟩
         exact op_index _ 26 _ _ mb.A3 mb.r.amts.length mb.c3 0 1 .i64 F rfl (by kernel_rfl) (by kernel_rfl) (by kernel_rfl) (by kernel_rfl) (get_lt humb) (recs_some (bag_amts S 4 rfl hgmb.1 (by have := hgmb.2.2.1; omega)) (m := 0) (get_lt humb)) (⟨(), rfl, (SameB.refl _ _ rfl), S⟩)
        refine ⟨?_, ?_⟩
        ·
         refine ⟨_, rfl, rfl, by kernel_rfl, ?_⟩
         rintro D ⟨⟩ a z S F
         refine ⟨by kernel_rfl, ?_⟩
         exact op_load _ _ mb.A3 (0 * 1) (.int .u64 umb) F rfl (by kernel_rfl) (by kernel_rfl) (recs_cell iC_len_u64 (bag_amts S 4 rfl hgmb.1 (by have := hgmb.2.2.1; omega)) 0 humb rfl) (⟨(), rfl, (SameB.refl _ _ rfl), S⟩)
        refine ⟨?_, ?_⟩
        ·
         refine ⟨_, rfl, rfl, by kernel_rfl, ?_⟩
         rintro D ⟨⟩ a z S F
         refine ⟨by kernel_rfl, ?_⟩
         exact op_pure F (v0 := .bool ((um1 : Int) == (umb : Int))) (v := .bool false) (by kernel_rfl) (eqlF ht14) ⟨(), rfl, (SameB.refl _ _ rfl), S⟩
        trivial
       ·
        rintro ⟨⟩ a z F S
        have F := F.sub (l := [(8, .pointer (some ⟨b2, 0, none⟩)), (10, .slice Al R2.length cl), (12, .int .i64 (bix : Nat)), (13, .int .i64 (k + 1 : Nat)), (74, .bool false)]) ⟨by kernel_rfl, by kernel_rfl, by kernel_rfl, by kernel_rfl, by kernel_rfl, trivial⟩
        have S : Sat w z [rest w (· < w.heap.size), box b1 25 [.slice As x.spots.length cs, .slice Ae x.edges.length ce], box b2 45 [.slice none 0 0, .slice none 0 0, .slice none 0 0], row 45 3 (.slice Al R2.length cl) R2.length (R2.flatMap rtC), bag (R2.flatMap rtRows), box b9 45 [.slice m1.A1 m1.r.nodes.length m1.c1, .slice m1.A2 m1.r.edges.length m1.c2, .slice m1.A3 m1.r.amts.length m1.c3], box b10 45 [.slice mb.A1 mb.r.nodes.length mb.c1, .slice mb.A2 mb.r.edges.length mb.c2, .slice mb.A3 mb.r.amts.length mb.c3]] := S
        refine then_n ?_
        refine c_f F rfl ?_
        refine wp_skip ?_
        refine inb_n ?_
        refine then_n ?_
        refine wp_region_list ?_
        refine l_pure 1 (fun L => (36, .int .i64 (k + 1 : Nat)) :: L) F (by kernel_rfl) fun a F => ?_
        refine l_do F rfl rfl (op_pure F (v0 := .int .i64 (IntKind.wrap .i64 ((k + 1 : Nat) + 1))) (v := .int .i64 (k + 1 + 1 : Nat)) (by kernel_rfl) (wrn_i64 (by omega) (by omega) (by omega)) fun a F => ?_)
        refine l_pure 1 (fun L => (13, .int .i64 (k + 1 + 1 : Nat)) :: L) F (by kernel_rfl) fun a F => ?_
        refine l_then ?_
        exact ⟨_, (by omega), k + 1, bix, mb, rfl, (by omega), (by rw [hb9]; exact (bestIx_no (map_at he1) (by rw [← hb9]; exact map_at hmb) (better_no hum1 humb (by omega))).symm), hmb, F.sub ⟨by kernel_rfl, by kernel_rfl, by kernel_rfl, by kernel_rfl, trivial⟩, (S.pick [0, 1, 2, 3, 4] (by decide))⟩
   ·
    skip
    refine l_do F rfl rfl (op_pure F (v0 := .bool (decide (((k + 1 : Nat) : Int) < ((R2.length : Nat) : Int)))) (v := .bool false) (by kernel_rfl) (lssF ht8) fun a F => ?_)
    refine l_then ?_
    refine c_f F rfl ?_
    refine wp_exit ?_
    refine then_x ?_
    refine then_x ?_
    refine inb_x ?_
    refine then_n ?_
    refine s_reg ?_
    refine l_pure 2 (fun L => (77, .int .i64 (bix : Nat)) :: (76, .slice Al R2.length cl) :: L) F (by kernel_rfl) fun a F => ?_
    refine l_do F rfl rfl (op_index _ 45 _ _ Al R2.length cl bix 3 .i64 F rfl (by kernel_rfl) (by kernel_rfl) (by kernel_rfl) (by kernel_rfl) (get_lt hmb) (row_some S 3 rfl (m := bix) (get_lt hmb)) (fun a F => ?_))
    refine l_do F rfl rfl (op_loadK _ _ Al (bix * 3) [.slice mb.A1 mb.r.nodes.length mb.c1, .slice mb.A2 mb.r.edges.length mb.c2, .slice mb.A3 mb.r.amts.length mb.c3] F rfl (by kernel_rfl) (by kernel_rfl) (by kernel_rfl) (by simp) (cRecK0 S 3 rtC_len rfl hmb (by kernel_rfl)) (fun a F => ?_))
    refine l_do F rfl rfl (op_storeB S 2 _ _ _ b2 0 (.agg #[.slice mb.A1 mb.r.nodes.length mb.c1, .slice mb.A2 mb.r.edges.length mb.c2, .slice mb.A3 mb.r.amts.length mb.c3]) F rfl rfl (by kernel_rfl) (by kernel_rfl) (by kernel_rfl) (by kernel_rfl) (by kernel_rfl) fun z S a F => ?_)
    refine l_pure 1 (fun L => (9, .int .i64 0) :: L) F (by kernel_rfl) fun a F => ?_
    refine l_then ?_
    refine wp_ret ?_
    have hbest : bestRt x from_ to am = (mb.r, 0) := best_some hr (by
      rw [← hR2, List.length_map, show R2.length - 1 = k from by omega, ← hb9]
      exact map_at hmb)
    have hmbR := List.mem_of_getElem? hmb
    exact fin F [.cell 8 45, .tmp 9] [.agg #[.slice mb.A1 mb.r.nodes.length mb.c1, .slice mb.A2 mb.r.edges.length mb.c2, .slice mb.A3 mb.r.amts.length mb.c3], .int .i64 0] rfl ⟨⟨_, by kernel_rfl, resK S 2 (cs := [.slice mb.A1 mb.r.nodes.length mb.c1, .slice mb.A2 mb.r.edges.length mb.c2, .slice mb.A3 mb.r.amts.length mb.c3]) rfl (by kernel_rfl) (by kernel_rfl) (by simp)⟩, by kernel_rfl, trivial⟩ (.tuple #[.agg #[.slice mb.A1 mb.r.nodes.length mb.c1, .slice mb.A2 mb.r.edges.length mb.c2, .slice mb.A3 mb.r.amts.length mb.c3], .int .i64 0]) rfl ⟨mb, R2, by rw [hbest], by rw [hbest], hR2, fun _ => hmbR, fun h9 => absurd (by rw [hbest]) h9, S.pick [0, 4] (by decide)⟩
 ·
  skip
  have hr := ht3
  refine l_do F rfl rfl (op_pure F (v0 := .bool ((rightP x from_ to am : Int) != (0 : Int))) (v := .bool true) (by kernel_rfl) (neqT ht3) fun a F => ?_)
  refine l_then ?_
  refine c_t F rfl ?_
  refine s_reg ?_
  refine l_pure 2 (fun L => (27, .int .i64 (rightP x from_ to am)) :: (26, .agg #[.slice none 0 0, .slice none 0 0, .slice none 0 0]) :: L) F (by kernel_rfl) fun a F => ?_
  refine l_do F rfl rfl (op_storeB S 2 _ _ _ b2 0 (.agg #[.slice none 0 0, .slice none 0 0, .slice none 0 0]) F rfl rfl (by kernel_rfl) (by kernel_rfl) (by kernel_rfl) (by kernel_rfl) (by kernel_rfl) fun z S a F => ?_)
  refine l_pure 1 (fun L => (9, .int .i64 (rightP x from_ to am)) :: L) F (by kernel_rfl) fun a F => ?_
  refine l_then ?_
  refine wp_ret ?_
  refine then_r (?_)
  have hbest : bestRt x from_ to am = (noRt, rightP x from_ to am) := best_err hr
  exact fin F [.cell 8 45, .tmp 9] [.agg #[.slice none 0 0, .slice none 0 0, .slice none 0 0], .int .i64 (rightP x from_ to am)] rfl ⟨⟨_, by kernel_rfl, resK S 2 (cs := [.slice none 0 0, .slice none 0 0, .slice none 0 0]) rfl (by kernel_rfl) (by kernel_rfl) (by simp)⟩, by kernel_rfl, trivial⟩ (.tuple #[.agg #[.slice none 0 0, .slice none 0 0, .slice none 0 0], .int .i64 (rightP x from_ to am)]) rfl ⟨noM, R2, by rw [hbest]; rfl, by rw [hbest]; rfl, hR2, fun h9 => absurd h9 (by rw [hbest]; exact hr), fun _ => rfl, S.pick [0, 4] (by decide)⟩
set_option maxRecDepth 100000 in
set_option maxHeartbeats 4000000 in
theorem from8_any (w : World) (A1 : Option Addr) (n1 c1 : Nat) (A2 : Option Addr) (n2 c2 : Nat) (A3 : Option Addr) (n3 c3 : Nat) : Calls Try.prog 20 #[.agg #[.slice A1 n1 c1, .slice A2 n2 c2, .slice A3 n3 c3]] w fun e w' => e = .returned (.agg #[.slice A1 n1 c1, .slice A2 n2 c2, .slice A3 n3 c3]) ∧ Below w.heap.size w w' := by
 refine enter 10 Try.func20 rfl rfl rfl fun a F => ?_
 have S := Sat.pushRest w
 refine s_reg ?_
 refine l_do F rfl rfl (op_box S _ _ (.agg #[.slice A1 n1 c1, .slice A2 n2 c2, .slice A3 n3 c3]) F rfl (by kernel_rfl) fun b1 z S a F => ?_)
 refine l_do F rfl rfl (op_alloc S _ (.agg #[.slice none 0 0, .slice none 0 0, .slice none 0 0]) rfl (by kernel_rfl) fun b2 z S a F => ?_)
 refine l_then ?_
 refine s_reg ?_
 refine l_pure 1 (fun L => (3, .pointer (some ⟨b1, 0, none⟩)) :: L) F (by kernel_rfl) fun a F => ?_
 refine l_do F rfl rfl (op_load _ _ (some ⟨b1, 0, none⟩) 0 (.slice A1 n1 c1) F rfl (by kernel_rfl) (by kernel_rfl) (cBox S 1 rfl (j := 0) rfl) (fun a F => ?_))
 refine l_pure 1 (fun L => (5, .pointer (some ⟨b1, 1, none⟩)) :: L) F (by kernel_rfl) fun a F => ?_
 refine l_do F rfl rfl (op_load _ _ (some ⟨b1, 0, none⟩) 1 (.slice A2 n2 c2) F rfl (by kernel_rfl) (by kernel_rfl) (cBox S 1 rfl (j := 1) rfl) (fun a F => ?_))
 refine l_pure 1 (fun L => (7, .pointer (some ⟨b1, 2, none⟩)) :: L) F (by kernel_rfl) fun a F => ?_
 refine l_do F rfl rfl (op_load _ _ (some ⟨b1, 0, none⟩) 2 (.slice A3 n3 c3) F rfl (by kernel_rfl) (by kernel_rfl) (cBox S 1 rfl (j := 2) rfl) (fun a F => ?_))
 refine l_pure 1 (fun L => (9, .agg #[.slice A1 n1 c1, .slice A2 n2 c2, .slice A3 n3 c3]) :: L) F (by kernel_rfl) fun a F => ?_
 refine l_do F rfl rfl (op_storeB S 2 _ _ _ b2 0 (.agg #[.slice A1 n1 c1, .slice A2 n2 c2, .slice A3 n3 c3]) F rfl rfl (by kernel_rfl) (by kernel_rfl) (by kernel_rfl) (by kernel_rfl) (by kernel_rfl) fun z S a F => ?_)
 refine l_then ?_
 refine wp_ret ?_
 exact fin F [.cell 2 45] [.agg #[.slice A1 n1 c1, .slice A2 n2 c2, .slice A3 n3 c3]] rfl ⟨⟨_, by kernel_rfl, resK S 2 (cs := [.slice A1 n1 c1, .slice A2 n2 c2, .slice A3 n3 c3]) rfl (by kernel_rfl) (by kernel_rfl) (by simp)⟩, trivial⟩ (.agg #[.slice A1 n1 c1, .slice A2 n2 c2, .slice A3 n3 c3]) rfl ⟨rfl, S.below (i := 0) rfl⟩
set_option maxRecDepth 100000 in
set_option maxHeartbeats 4000000 in
theorem same8_any (w : World) (r : Rt) (A1 : Option Addr) (c1 : Nat) (A2 : Option Addr) (c2 : Nat) (A3 : Option Addr) (c3 : Nat) (B1 : Option Addr) (d1 : Nat) (B2 : Option Addr) (d2 : Nat) (B3 : Option Addr) (d3 : Nat) (h1 : Recs 1 iC_i64 w A1 c1 r.nodes) (h2 : Recs 1 iC_i64 w A2 c2 r.edges) (h3 : Recs 1 iC_u64 w A3 c3 r.amts) (k1 : Recs 1 iC_i64 w B1 d1 r.nodes) (k2 : Recs 1 iC_i64 w B2 d2 r.edges) (k3 : Recs 1 iC_u64 w B3 d3 r.amts) (hl1 : r.nodes.length ≤ 8) (hl2 : r.edges.length ≤ 7) (hl3 : r.edges.length ≤ r.amts.length) : Calls Try.prog 19 #[.agg #[.slice A1 r.nodes.length c1, .slice A2 r.edges.length c2, .slice A3 r.amts.length c3], .agg #[.slice B1 r.nodes.length d1, .slice B2 r.edges.length d2, .slice B3 r.amts.length d3]] w fun e w' => e = .returned (.bool true) ∧ Below w.heap.size w w' := by
 refine enter 81 Try.func19 rfl rfl rfl fun a F => ?_
 have S := Sat.pushRest w
 refine s_reg ?_
 refine l_do F rfl rfl (op_box S _ _ (.agg #[.slice A1 r.nodes.length c1, .slice A2 r.edges.length c2, .slice A3 r.amts.length c3]) F rfl (by kernel_rfl) fun b1 z S a F => ?_)
 refine l_do F rfl rfl (op_box S _ _ (.agg #[.slice B1 r.nodes.length d1, .slice B2 r.edges.length d2, .slice B3 r.amts.length d3]) F rfl (by kernel_rfl) fun b2 z S a F => ?_)
 refine l_pure 1 (fun L => (4, .bool false) :: L) F (by kernel_rfl) fun a F => ?_
 refine l_then ?_
 refine wp_seq ?_
 refine s_reg ?_
 refine l_pure 1 (fun L => (7, .pointer (some ⟨b1, 0, none⟩)) :: L) F (by kernel_rfl) fun a F => ?_
 refine l_do F rfl rfl (op_load _ _ (some ⟨b1, 0, none⟩) 0 (.slice A1 r.nodes.length c1) F rfl (by kernel_rfl) (by kernel_rfl) (cBox S 1 rfl (j := 0) rfl) (fun a F => ?_))
 refine l_pure 2 (fun L => (10, .pointer (some ⟨b2, 0, none⟩)) :: (9, .int .i64 (r.nodes.length : Nat)) :: L) F (by kernel_rfl) fun a F => ?_
 refine l_do F rfl rfl (op_load _ _ (some ⟨b2, 0, none⟩) 0 (.slice B1 r.nodes.length d1) F rfl (by kernel_rfl) (by kernel_rfl) (cBox S 2 rfl (j := 0) rfl) (fun a F => ?_))
 refine l_pure 1 (fun L => (12, .int .i64 (r.nodes.length : Nat)) :: L) F (by kernel_rfl) fun a F => ?_
 refine l_do F rfl rfl (op_pure F (v0 := .bool (((r.nodes.length : Nat) : Int) != ((r.nodes.length : Nat) : Int))) (v := .bool false) (by kernel_rfl) (neqF rfl) fun a F => ?_)
 refine l_pure 2 (fun L => (15, .pointer (some ⟨b1, 1, none⟩)) :: (14, .bool false) :: L) F (by kernel_rfl) fun a F => ?_
 refine l_do F rfl rfl (op_load _ _ (some ⟨b1, 0, none⟩) 1 (.slice A2 r.edges.length c2) F rfl (by kernel_rfl) (by kernel_rfl) (cBox S 1 rfl (j := 1) rfl) (fun a F => ?_))
 refine l_pure 2 (fun L => (18, .pointer (some ⟨b2, 1, none⟩)) :: (17, .int .i64 (r.edges.length : Nat)) :: L) F (by kernel_rfl) fun a F => ?_
 refine l_do F rfl rfl (op_load _ _ (some ⟨b2, 0, none⟩) 1 (.slice B2 r.edges.length d2) F rfl (by kernel_rfl) (by kernel_rfl) (cBox S 2 rfl (j := 1) rfl) (fun a F => ?_))
 refine l_pure 1 (fun L => (20, .int .i64 (r.edges.length : Nat)) :: L) F (by kernel_rfl) fun a F => ?_
 refine l_do F rfl rfl (op_pure F (v0 := .bool (((r.edges.length : Nat) : Int) != ((r.edges.length : Nat) : Int))) (v := .bool false) (by kernel_rfl) (neqF rfl) fun a F => ?_)
 refine l_pure 3 (fun L => (24, .pointer (some ⟨b1, 2, none⟩)) :: (23, .bool false) :: (22, .bool false) :: L) F (by kernel_rfl) fun a F => ?_
 refine l_do F rfl rfl (op_load _ _ (some ⟨b1, 0, none⟩) 2 (.slice A3 r.amts.length c3) F rfl (by kernel_rfl) (by kernel_rfl) (cBox S 1 rfl (j := 2) rfl) (fun a F => ?_))
 refine l_pure 2 (fun L => (27, .pointer (some ⟨b2, 2, none⟩)) :: (26, .int .i64 (r.amts.length : Nat)) :: L) F (by kernel_rfl) fun a F => ?_
 refine l_do F rfl rfl (op_load _ _ (some ⟨b2, 0, none⟩) 2 (.slice B3 r.amts.length d3) F rfl (by kernel_rfl) (by kernel_rfl) (cBox S 2 rfl (j := 2) rfl) (fun a F => ?_))
 refine l_pure 1 (fun L => (29, .int .i64 (r.amts.length : Nat)) :: L) F (by kernel_rfl) fun a F => ?_
 refine l_do F rfl rfl (op_pure F (v0 := .bool (((r.amts.length : Nat) : Int) != ((r.amts.length : Nat) : Int))) (v := .bool false) (by kernel_rfl) (neqF rfl) fun a F => ?_)
 refine l_pure 1 (fun L => (31, .bool false) :: L) F (by kernel_rfl) fun a F => ?_
 refine l_then ?_
 refine c_f F rfl ?_
 refine wp_skip ?_
 refine then_n ?_
 refine wp_seq ?_
 refine s_reg ?_
 refine l_pure 1 (fun L => (5, .int .i64 0) :: L) F (by kernel_rfl) fun a F => ?_
 refine l_then ?_
 refine wp_block ?_
 refine wp_loop_m (fun m a z => ∃ (i : Nat), m = r.nodes.length - i ∧ (i ≤ r.nodes.length) ∧ Fr a 81 [(2, .pointer (some ⟨b1, 0, none⟩)), (3, .pointer (some ⟨b2, 0, none⟩)), (5, .int .i64 (i : Nat))] ∧ Sat w z [rest w (· < w.heap.size), box b1 45 [.slice A1 r.nodes.length c1, .slice A2 r.edges.length c2, .slice A3 r.amts.length c3], box b2 45 [.slice B1 r.nodes.length d1, .slice B2 r.edges.length d2, .slice B3 r.amts.length d3]]) _ ⟨0, rfl, Nat.zero_le _, F.sub ⟨by kernel_rfl, by kernel_rfl, by kernel_rfl, trivial⟩, S⟩ ?_
 rintro m a z ⟨i, hm, hf3, F, S⟩
 refine wp_seq ?_
 refine s_reg ?_
 refine l_pure 2 (fun L => (33, .pointer (some ⟨b1, 0, none⟩)) :: (32, .int .i64 (i : Nat)) :: L) F (by kernel_rfl) fun a F => ?_
 refine l_do F rfl rfl (op_load _ _ (some ⟨b1, 0, none⟩) 0 (.slice A1 r.nodes.length c1) F rfl (by kernel_rfl) (by kernel_rfl) (cBox S 1 rfl (j := 0) rfl) (fun a F => ?_))
 refine l_pure 1 (fun L => (35, .int .i64 (r.nodes.length : Nat)) :: L) F (by kernel_rfl) fun a F => ?_
 by_cases ht4 : ((i : Nat) : Int) < ((r.nodes.length : Nat) : Int)
 ·
  skip
  obtain ⟨n, hn⟩ : ∃ n, r.nodes[i]? = some n := ⟨_, List.getElem?_eq_getElem (by omega)⟩
  refine l_do F rfl rfl (op_pure F (v0 := .bool (decide (((i : Nat) : Int) < ((r.nodes.length : Nat) : Int)))) (v := .bool true) (by kernel_rfl) (lssT ht4) fun a F => ?_)
  refine l_then ?_
  refine c_t F rfl ?_
  refine wp_skip ?_
  refine then_n ?_
  refine wp_seq ?_
  refine wp_block ?_
  refine wp_seq ?_
  refine region_gx (fun D => fun (_ : Unit) => [rest w (· < w.heap.size), box b1 45 [.slice A1 r.nodes.length c1, .slice A2 r.edges.length c2, .slice A3 r.amts.length c3], box b2 45 [.slice B1 r.nodes.length d1, .slice B2 r.edges.length d2, .slice B3 r.amts.length d3]]) (fun (_ : Unit) => [.pointer (some ⟨b1, 0, none⟩), .slice A1 r.nodes.length c1, .int .i64 (i : Nat), ptrA A1 (i * 1), .int .i64 n, .pointer (some ⟨b2, 0, none⟩), .slice B1 r.nodes.length d1, .int .i64 (i : Nat), ptrA B1 (i * 1), .int .i64 n, .bool false]) [(1, [], [3, 4, 10]), (3, [1], [4, 10]), (4, [1, 3], [10]), (6, [], [8, 9, 10]), (8, [6], [9, 10]), (9, [6, 8], [10]), (10, [1, 3, 4, 6, 8, 9], [])] () rfl (by kernel_rfl) (by kernel_rfl) F S.drew ?_ ?_ ?_ ?_ ?_
  · rintro ⟨⟩; rfl
  · rintro ⟨⟩; kernel_rfl
  ·
   intro D D' x h
   cases x
   rfl
  ·
   refine ⟨?_, ?_⟩
   ·
    refine ⟨_, rfl, rfl, by kernel_rfl, ?_⟩
    rintro D ⟨⟩ a z S F
    refine ⟨by kernel_rfl, ?_⟩
    exact op_load _ _ (some ⟨b1, 0, none⟩) 0 (.slice A1 r.nodes.length c1) F rfl (by kernel_rfl) (by kernel_rfl) (cBox S 1 rfl (j := 0) rfl) (⟨(), rfl, (SameB.refl _ _ rfl), S⟩)
   refine ⟨?_, ?_⟩
   ·
    refine ⟨_, rfl, rfl, by kernel_rfl, ?_⟩
    rintro D ⟨⟩ a z S F
    refine ⟨by kernel_rfl, ?_⟩
    exact op_index _ 3 _ _ A1 r.nodes.length c1 i 1 .i64 F rfl (by kernel_rfl) (by kernel_rfl) (by kernel_rfl) (by kernel_rfl) (get_lt hn) (recs_some h1 (m := i) (get_lt hn)) (⟨(), rfl, (SameB.refl _ _ rfl), S⟩)
   refine ⟨?_, ?_⟩
   ·
    refine ⟨_, rfl, rfl, by kernel_rfl, ?_⟩
    rintro D ⟨⟩ a z S F
    refine ⟨by kernel_rfl, ?_⟩
    exact op_load _ _ A1 (i * 1) (.int .i64 n) F rfl (by kernel_rfl) (by kernel_rfl) (cOld S 0 iC_len_i64 h1 rfl 0 hn rfl) (⟨(), rfl, (SameB.refl _ _ rfl), S⟩)
   refine ⟨?_, ?_⟩
   ·
    refine ⟨_, rfl, rfl, by kernel_rfl, ?_⟩
    rintro D ⟨⟩ a z S F
    refine ⟨by kernel_rfl, ?_⟩
    exact op_load _ _ (some ⟨b2, 0, none⟩) 0 (.slice B1 r.nodes.length d1) F rfl (by kernel_rfl) (by kernel_rfl) (cBox S 2 rfl (j := 0) rfl) (⟨(), rfl, (SameB.refl _ _ rfl), S⟩)
   refine ⟨?_, ?_⟩
   ·
    refine ⟨_, rfl, rfl, by kernel_rfl, ?_⟩
    rintro D ⟨⟩ a z S F
    refine ⟨by kernel_rfl, ?_⟩
    exact op_index _ 3 _ _ B1 r.nodes.length d1 i 1 .i64 F rfl (by kernel_rfl) (by kernel_rfl) (by kernel_rfl) (by kernel_rfl) (get_lt hn) (recs_some k1 (m := i) (get_lt hn)) (⟨(), rfl, (SameB.refl _ _ rfl), S⟩)
   refine ⟨?_, ?_⟩
   ·
    refine ⟨_, rfl, rfl, by kernel_rfl, ?_⟩
    rintro D ⟨⟩ a z S F
    refine ⟨by kernel_rfl, ?_⟩
    exact op_load _ _ B1 (i * 1) (.int .i64 n) F rfl (by kernel_rfl) (by kernel_rfl) (cOld S 0 iC_len_i64 k1 rfl 0 hn rfl) (⟨(), rfl, (SameB.refl _ _ rfl), S⟩)
   refine ⟨?_, ?_⟩
   ·
    refine ⟨_, rfl, rfl, by kernel_rfl, ?_⟩
    rintro D ⟨⟩ a z S F
    refine ⟨by kernel_rfl, ?_⟩
    exact op_pure F (v0 := .bool ((n : Int) != (n : Int))) (v := .bool false) (by kernel_rfl) (neqF rfl) ⟨(), rfl, (SameB.refl _ _ rfl), S⟩
   trivial
  ·
   rintro ⟨⟩ a z F S
   have F := F.sub (l := [(2, .pointer (some ⟨b1, 0, none⟩)), (3, .pointer (some ⟨b2, 0, none⟩)), (5, .int .i64 (i : Nat)), (49, .bool false)]) ⟨by kernel_rfl, by kernel_rfl, by kernel_rfl, by kernel_rfl, trivial⟩
   have S : Sat w z [rest w (· < w.heap.size), box b1 45 [.slice A1 r.nodes.length c1, .slice A2 r.edges.length c2, .slice A3 r.amts.length c3], box b2 45 [.slice B1 r.nodes.length d1, .slice B2 r.edges.length d2, .slice B3 r.amts.length d3]] := S
   refine then_n ?_
   refine c_f F rfl ?_
   refine wp_skip ?_
   refine inb_n ?_
   refine then_n ?_
   refine wp_region_list ?_
   refine l_pure 1 (fun L => (37, .int .i64 (i : Nat)) :: L) F (by kernel_rfl) fun a F => ?_
   refine l_do F rfl rfl (op_pure F (v0 := .int .i64 (IntKind.wrap .i64 ((i : Nat) + 1))) (v := .int .i64 (i + 1 : Nat)) (by kernel_rfl) (wrn_i64 (by omega) (by omega) (by omega)) fun a F => ?_)
   refine l_pure 1 (fun L => (5, .int .i64 (i + 1 : Nat)) :: L) F (by kernel_rfl) fun a F => ?_
   refine l_then ?_
   exact ⟨_, (by omega), i + 1, rfl, (by omega), F.sub ⟨by kernel_rfl, by kernel_rfl, by kernel_rfl, trivial⟩, S⟩
 ·
  skip
  refine l_do F rfl rfl (op_pure F (v0 := .bool (decide (((i : Nat) : Int) < ((r.nodes.length : Nat) : Int)))) (v := .bool false) (by kernel_rfl) (lssF ht4) fun a F => ?_)
  refine l_then ?_
  refine c_f F rfl ?_
  refine wp_exit ?_
  refine then_x ?_
  refine then_x ?_
  refine inb_x ?_
  refine then_n ?_
  refine wp_seq ?_
  refine s_reg ?_
  refine l_pure 1 (fun L => (6, .int .i64 0) :: L) F (by kernel_rfl) fun a F => ?_
  refine l_then ?_
  refine wp_block ?_
  refine wp_loop_m (fun m a z => ∃ (i : Nat), m = r.edges.length - i ∧ (i ≤ r.edges.length) ∧ Fr a 81 [(2, .pointer (some ⟨b1, 0, none⟩)), (3, .pointer (some ⟨b2, 0, none⟩)), (6, .int .i64 (i : Nat))] ∧ Sat w z [rest w (· < w.heap.size), box b1 45 [.slice A1 r.nodes.length c1, .slice A2 r.edges.length c2, .slice A3 r.amts.length c3], box b2 45 [.slice B1 r.nodes.length d1, .slice B2 r.edges.length d2, .slice B3 r.amts.length d3]]) _ ⟨0, rfl, Nat.zero_le _, F.sub ⟨by kernel_rfl, by kernel_rfl, by kernel_rfl, trivial⟩, S⟩ ?_
  rintro m a z ⟨i, hm, hf5, F, S⟩
  refine wp_seq ?_
  refine s_reg ?_
  refine l_pure 2 (fun L => (51, .pointer (some ⟨b1, 1, none⟩)) :: (50, .int .i64 (i : Nat)) :: L) F (by kernel_rfl) fun a F => ?_
  refine l_do F rfl rfl (op_load _ _ (some ⟨b1, 0, none⟩) 1 (.slice A2 r.edges.length c2) F rfl (by kernel_rfl) (by kernel_rfl) (cBox S 1 rfl (j := 1) rfl) (fun a F => ?_))
  refine l_pure 1 (fun L => (53, .int .i64 (r.edges.length : Nat)) :: L) F (by kernel_rfl) fun a F => ?_
  by_cases ht6 : ((i : Nat) : Int) < ((r.edges.length : Nat) : Int)
  ·
   skip
   obtain ⟨ei, hei⟩ : ∃ ei, r.edges[i]? = some ei := ⟨_, List.getElem?_eq_getElem (by omega)⟩
   obtain ⟨ai, hai⟩ : ∃ ai, r.amts[i]? = some ai := ⟨_, List.getElem?_eq_getElem (by omega)⟩
   refine l_do F rfl rfl (op_pure F (v0 := .bool (decide (((i : Nat) : Int) < ((r.edges.length : Nat) : Int)))) (v := .bool true) (by kernel_rfl) (lssT ht6) fun a F => ?_)
   refine l_then ?_
   refine c_t F rfl ?_
   refine wp_skip ?_
   refine then_n ?_
   refine wp_seq ?_
   refine wp_block ?_
   refine wp_seq ?_
   refine region_gx (fun D => fun (_ : Unit) => [rest w (· < w.heap.size), box b1 45 [.slice A1 r.nodes.length c1, .slice A2 r.edges.length c2, .slice A3 r.amts.length c3], box b2 45 [.slice B1 r.nodes.length d1, .slice B2 r.edges.length d2, .slice B3 r.amts.length d3]]) (fun (_ : Unit) => [.pointer (some ⟨b1, 1, none⟩), .slice A2 r.edges.length c2, .int .i64 (i : Nat), ptrA A2 (i * 1), .int .i64 ei, .pointer (some ⟨b2, 1, none⟩), .slice B2 r.edges.length d2, .int .i64 (i : Nat), ptrA B2 (i * 1), .int .i64 ei, .bool false, .bool false, .pointer (some ⟨b1, 2, none⟩), .slice A3 r.amts.length c3, .int .i64 (i : Nat), ptrA A3 (i * 1), .int .u64 ai, .pointer (some ⟨b2, 2, none⟩), .slice B3 r.amts.length d3, .int .i64 (i : Nat), ptrA B3 (i * 1), .int .u64 ai, .bool false, .bool false]) [(1, [], [3, 4, 10, 13, 15, 16, 18, 20, 21, 22]), (3, [1], [4, 10, 13, 15, 16, 18, 20, 21, 22]), (4, [1, 3], [10, 13, 15, 16, 18, 20, 21, 22]), (6, [], [8, 9, 10, 13, 15, 16, 18, 20, 21, 22]), (8, [6], [9, 10, 13, 15, 16, 18, 20, 21, 22]), (9, [6, 8], [10, 13, 15, 16, 18, 20, 21, 22]), (10, [1, 3, 4, 6, 8, 9], [13, 15, 16, 18, 20, 21, 22]), (13, [1, 3, 4, 6, 8, 9, 10], [15, 16, 22]), (15, [1, 3, 4, 6, 8, 9, 10, 13], [16, 22]), (16, [1, 3, 4, 6, 8, 9, 10, 13, 15], [22]), (18, [1, 3, 4, 6, 8, 9, 10], [20, 21, 22]), (20, [1, 3, 4, 6, 8, 9, 10, 18], [21, 22]), (21, [1, 3, 4, 6, 8, 9, 10, 18, 20], [22]), (22, [1, 3, 4, 6, 8, 9, 10, 13, 15, 16, 18, 20, 21], [])] () rfl (by kernel_rfl) (by kernel_rfl) F S.drew ?_ ?_ ?_ ?_ ?_
   · rintro ⟨⟩; rfl
   · rintro ⟨⟩; kernel_rfl
   ·
    intro D D' x h
    cases x
    rfl
   ·
    refine ⟨?_, ?_⟩
    ·
     refine ⟨_, rfl, rfl, by kernel_rfl, ?_⟩
     rintro D ⟨⟩ a z S F
     refine ⟨by kernel_rfl, ?_⟩
     exact op_load _ _ (some ⟨b1, 0, none⟩) 1 (.slice A2 r.edges.length c2) F rfl (by kernel_rfl) (by kernel_rfl) (cBox S 1 rfl (j := 1) rfl) (⟨(), rfl, (SameB.refl _ _ rfl), S⟩)
    refine ⟨?_, ?_⟩
    ·
     refine ⟨_, rfl, rfl, by kernel_rfl, ?_⟩
     rintro D ⟨⟩ a z S F
     refine ⟨by kernel_rfl, ?_⟩
     exact op_index _ 3 _ _ A2 r.edges.length c2 i 1 .i64 F rfl (by kernel_rfl) (by kernel_rfl) (by kernel_rfl) (by kernel_rfl) (get_lt hei) (recs_some h2 (m := i) (get_lt hei)) (⟨(), rfl, (SameB.refl _ _ rfl), S⟩)
    refine ⟨?_, ?_⟩
    ·
     refine ⟨_, rfl, rfl, by kernel_rfl, ?_⟩
     rintro D ⟨⟩ a z S F
     refine ⟨by kernel_rfl, ?_⟩
     exact op_load _ _ A2 (i * 1) (.int .i64 ei) F rfl (by kernel_rfl) (by kernel_rfl) (cOld S 0 iC_len_i64 h2 rfl 0 hei rfl) (⟨(), rfl, (SameB.refl _ _ rfl), S⟩)
    refine ⟨?_, ?_⟩
    ·
     refine ⟨_, rfl, rfl, by kernel_rfl, ?_⟩
     rintro D ⟨⟩ a z S F
     refine ⟨by kernel_rfl, ?_⟩
     exact op_load _ _ (some ⟨b2, 0, none⟩) 1 (.slice B2 r.edges.length d2) F rfl (by kernel_rfl) (by kernel_rfl) (cBox S 2 rfl (j := 1) rfl) (⟨(), rfl, (SameB.refl _ _ rfl), S⟩)
    refine ⟨?_, ?_⟩
    ·
     refine ⟨_, rfl, rfl, by kernel_rfl, ?_⟩
     rintro D ⟨⟩ a z S F
     refine ⟨by kernel_rfl, ?_⟩
     exact op_index _ 3 _ _ B2 r.edges.length d2 i 1 .i64 F rfl (by kernel_rfl) (by kernel_rfl) (by kernel_rfl) (by kernel_rfl) (get_lt hei) (recs_some k2 (m := i) (get_lt hei)) (⟨(), rfl, (SameB.refl _ _ rfl), S⟩)
    refine ⟨?_, ?_⟩
    ·
     refine ⟨_, rfl, rfl, by kernel_rfl, ?_⟩
     rintro D ⟨⟩ a z S F
     refine ⟨by kernel_rfl, ?_⟩
     exact op_load _ _ B2 (i * 1) (.int .i64 ei) F rfl (by kernel_rfl) (by kernel_rfl) (cOld S 0 iC_len_i64 k2 rfl 0 hei rfl) (⟨(), rfl, (SameB.refl _ _ rfl), S⟩)
    refine ⟨?_, ?_⟩
    ·
     refine ⟨_, rfl, rfl, by kernel_rfl, ?_⟩
     rintro D ⟨⟩ a z S F
     refine ⟨by kernel_rfl, ?_⟩
     exact op_pure F (v0 := .bool ((ei : Int) != (ei : Int))) (v := .bool false) (by kernel_rfl) (neqF rfl) ⟨(), rfl, (SameB.refl _ _ rfl), S⟩
    refine ⟨?_, ?_⟩
    ·
     refine ⟨_, rfl, rfl, by kernel_rfl, ?_⟩
     rintro D ⟨⟩ a z S F
     refine ⟨by kernel_rfl, ?_⟩
     exact op_load _ _ (some ⟨b1, 0, none⟩) 2 (.slice A3 r.amts.length c3) F rfl (by kernel_rfl) (by kernel_rfl) (cBox S 1 rfl (j := 2) rfl) (⟨(), rfl, (SameB.refl _ _ rfl), S⟩)
    refine ⟨?_, ?_⟩
    ·
     refine ⟨_, rfl, rfl, by kernel_rfl, ?_⟩
     rintro D ⟨⟩ a z S F
     refine ⟨by kernel_rfl, ?_⟩
     exact op_index _ 26 _ _ A3 r.amts.length c3 i 1 .i64 F rfl (by kernel_rfl) (by kernel_rfl) (by kernel_rfl) (by kernel_rfl) (get_lt hai) (recs_some h3 (m := i) (get_lt hai)) (⟨(), rfl, (SameB.refl _ _ rfl), S⟩)
    refine ⟨?_, ?_⟩
    ·
     refine ⟨_, rfl, rfl, by kernel_rfl, ?_⟩
     rintro D ⟨⟩ a z S F
     refine ⟨by kernel_rfl, ?_⟩
     exact op_load _ _ A3 (i * 1) (.int .u64 ai) F rfl (by kernel_rfl) (by kernel_rfl) (cOld S 0 iC_len_u64 h3 rfl 0 hai rfl) (⟨(), rfl, (SameB.refl _ _ rfl), S⟩)
    refine ⟨?_, ?_⟩
    ·
     refine ⟨_, rfl, rfl, by kernel_rfl, ?_⟩
     rintro D ⟨⟩ a z S F
     refine ⟨by kernel_rfl, ?_⟩
     exact op_load _ _ (some ⟨b2, 0, none⟩) 2 (.slice B3 r.amts.length d3) F rfl (by kernel_rfl) (by kernel_rfl) (cBox S 2 rfl (j := 2) rfl) (⟨(), rfl, (SameB.refl _ _ rfl), S⟩)
    refine ⟨?_, ?_⟩
    ·
     refine ⟨_, rfl, rfl, by kernel_rfl, ?_⟩
     rintro D ⟨⟩ a z S F
     refine ⟨by kernel_rfl, ?_⟩
     exact op_index _ 26 _ _ B3 r.amts.length d3 i 1 .i64 F rfl (by kernel_rfl) (by kernel_rfl) (by kernel_rfl) (by kernel_rfl) (get_lt hai) (recs_some k3 (m := i) (get_lt hai)) (⟨(), rfl, (SameB.refl _ _ rfl), S⟩)
    refine ⟨?_, ?_⟩
    ·
     refine ⟨_, rfl, rfl, by kernel_rfl, ?_⟩
     rintro D ⟨⟩ a z S F
     refine ⟨by kernel_rfl, ?_⟩
     exact op_load _ _ B3 (i * 1) (.int .u64 ai) F rfl (by kernel_rfl) (by kernel_rfl) (cOld S 0 iC_len_u64 k3 rfl 0 hai rfl) (⟨(), rfl, (SameB.refl _ _ rfl), S⟩)
    refine ⟨?_, ?_⟩
    ·
     refine ⟨_, rfl, rfl, by kernel_rfl, ?_⟩
     rintro D ⟨⟩ a z S F
     refine ⟨by kernel_rfl, ?_⟩
     exact op_pure F (v0 := .bool ((ai : Int) != (ai : Int))) (v := .bool false) (by kernel_rfl) (neqF rfl) ⟨(), rfl, (SameB.refl _ _ rfl), S⟩
    trivial
   ·
    rintro ⟨⟩ a z F S
    have F := F.sub (l := [(2, .pointer (some ⟨b1, 0, none⟩)), (3, .pointer (some ⟨b2, 0, none⟩)), (6, .int .i64 (i : Nat)), (80, .bool false)]) ⟨by kernel_rfl, by kernel_rfl, by kernel_rfl, by kernel_rfl, trivial⟩
    have S : Sat w z [rest w (· < w.heap.size), box b1 45 [.slice A1 r.nodes.length c1, .slice A2 r.edges.length c2, .slice A3 r.amts.length c3], box b2 45 [.slice B1 r.nodes.length d1, .slice B2 r.edges.length d2, .slice B3 r.amts.length d3]] := S
    refine then_n ?_
    refine c_f F rfl ?_
    refine wp_skip ?_
    refine inb_n ?_
    refine then_n ?_
    refine wp_region_list ?_
    refine l_pure 1 (fun L => (55, .int .i64 (i : Nat)) :: L) F (by kernel_rfl) fun a F => ?_
    refine l_do F rfl rfl (op_pure F (v0 := .int .i64 (IntKind.wrap .i64 ((i : Nat) + 1))) (v := .int .i64 (i + 1 : Nat)) (by kernel_rfl) (wrn_i64 (by omega) (by omega) (by omega)) fun a F => ?_)
    refine l_pure 1 (fun L => (6, .int .i64 (i + 1 : Nat)) :: L) F (by kernel_rfl) fun a F => ?_
    refine l_then ?_
    exact ⟨_, (by omega), i + 1, rfl, (by omega), F.sub ⟨by kernel_rfl, by kernel_rfl, by kernel_rfl, trivial⟩, S⟩
  ·
   skip
   refine l_do F rfl rfl (op_pure F (v0 := .bool (decide (((i : Nat) : Int) < ((r.edges.length : Nat) : Int)))) (v := .bool false) (by kernel_rfl) (lssF ht6) fun a F => ?_)
   refine l_then ?_
   refine c_f F rfl ?_
   refine wp_exit ?_
   refine then_x ?_
   refine then_x ?_
   refine inb_x ?_
   refine then_n ?_
   refine s_reg ?_
   refine l_pure 1 (fun L => (4, .bool true) :: L) F (by kernel_rfl) fun a F => ?_
   refine l_then ?_
   refine wp_ret ?_
   exact fin F [.tmp 4] [.bool true] rfl ⟨by kernel_rfl, trivial⟩ (.bool true) rfl ⟨rfl, S.below (i := 0) rfl⟩
end Go.Proofs.Ytcfpbemoocegfaa
