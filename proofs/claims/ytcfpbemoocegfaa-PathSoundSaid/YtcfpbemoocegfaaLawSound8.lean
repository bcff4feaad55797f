/- The law PathSound. -/
import Derived.Test.YtcfpbemoocegfaaSoundP
import Derived.Test.YtcfpbemoocegfaaAwake08
import Derived.Test.YtcfpbemoocegfaaReadWeb
namespace Go.Proofs.Ytcfpbemoocegfaa
set_option linter.unusedVariables false
set_option linter.unusedSimpArgs false
set_option linter.unnecessarySimpa false
open Go Go.RowKit

set_option maxRecDepth 100000 in
set_option maxHeartbeats 4000000 in
theorem sound_law (w : World) (As : Option Addr) (cs : Nat) (Ae : Option Addr) (ce : Nat) (x : Wb) (h : WebAt w As cs Ae ce x) (ok : x.Ok) (from_ to am : Int) (hua : U64 am) : Calls Try.prog 4 #[.agg #[.slice As x.spots.length cs, .slice Ae x.edges.length ce], .int .i64 from_, .int .i64 to, .int .u64 am] w fun e w' => e = .returned (.bool true) ∧ Below w.heap.size w w' := by
  refine enter 233 Try.func4 rfl rfl rfl fun a F => ?_
  have S := Sat.pushRest w
  refine s_reg ?_
  refine l_do F rfl rfl (op_box S _ _ (.agg #[.slice As x.spots.length cs, .slice Ae x.edges.length ce]) F rfl (by kernel_rfl) fun b1 z S a F => ?_)
  refine l_pure 1 (fun L => (8, .bool false) :: L) F (by kernel_rfl) fun a F => ?_
  refine l_then ?_
  refine wp_seq ?_
  refine s_reg ?_
  refine l_do F rfl rfl (op_loadK _ _ (some ⟨b1, 0, none⟩) 0 [.slice As x.spots.length cs, .slice Ae x.edges.length ce] F rfl (by kernel_rfl) (by kernel_rfl) (by kernel_rfl) (by simp) (cBoxK S 1 rfl 0 (by kernel_rfl)) (fun a F => ?_))
  cases hb2 : (lightP x) with
  | false =>
    refine l_do F rfl rfl (op_fn F (by kernel_rfl) (light_any _ As cs Ae ce x) ?_)
    rintro e z ⟨rfl, hb⟩
    have S := S.grow hb
    refine ⟨_, rfl, ?_⟩
    rw [hb2]
    intro a F
    refine l_pure 1 (fun L => (23, .bool true) :: L) F (by kernel_rfl) fun a F => ?_
    refine l_then ?_
    refine c_t F rfl ?_
    refine s_reg ?_
    refine l_do F rfl rfl (op_fn F (by kernel_rfl) (awake08_any _) ?_)
    rintro e z ⟨rfl, hb⟩
    have S := S.grow hb
    refine ⟨_, rfl, ?_⟩
    intro a F
    refine l_pure 1 (fun L => (8, .bool true) :: L) F (by kernel_rfl) fun a F => ?_
    refine l_then ?_
    refine wp_ret ?_
    refine then_r (?_)
    exact fin F [.tmp 8] [.bool true] rfl ⟨by kernel_rfl, trivial⟩ (.bool true) rfl ⟨rfl, S.below (i := 0) rfl⟩
  | true =>
    obtain ⟨l1, l2, l3, l4⟩ := light_small hb2
    refine l_do F rfl rfl (op_fn F (by kernel_rfl) (light_any _ As cs Ae ce x) ?_)
    rintro e z ⟨rfl, hb⟩
    have S := S.grow hb
    refine ⟨_, rfl, ?_⟩
    rw [hb2]
    intro a F
    refine l_pure 1 (fun L => (23, .bool false) :: L) F (by kernel_rfl) fun a F => ?_
    refine l_then ?_
    refine c_f F rfl ?_
    refine wp_skip ?_
    refine then_n ?_
    refine s_reg ?_
    refine l_do F rfl rfl (op_loadK _ _ (some ⟨b1, 0, none⟩) 0 [.slice As x.spots.length cs, .slice Ae x.edges.length ce] F rfl (by kernel_rfl) (by kernel_rfl) (by kernel_rfl) (by simp) (cBoxK S 1 rfl 0 (by kernel_rfl)) (fun a F => ?_))
    refine l_do F rfl rfl (op_fn F (by kernel_rfl) (to_any _ As cs Ae ce x (h.move S rfl) ok ⟨l1, l2⟩) ?_)
    rintro e z ⟨A3, c4, A5, c6, rfl, g⟩
    have S := S.pushThings g
    refine ⟨_, rfl, ?_⟩
    intro a F
    refine l_do F rfl rfl (op_alloc S _ (.agg #[.slice none 0 0, .slice none 0 0]) rfl (by kernel_rfl) fun b7 z S a F => ?_)
    refine l_do F rfl rfl (op_storeB S 4 _ _ _ b7 0 (.agg #[.slice A3 x.spots.length c4, .slice A5 x.edges.length c6]) F rfl rfl (by kernel_rfl) (by kernel_rfl) (by kernel_rfl) (by kernel_rfl) (by kernel_rfl) fun z S a F => ?_)
    refine l_then ?_
    refine s_reg ?_
    refine l_do F rfl rfl (op_loadK _ _ (some ⟨b7, 0, none⟩) 0 [.slice A3 x.spots.length c4, .slice A5 x.edges.length c6] F rfl (by kernel_rfl) (by kernel_rfl) (by kernel_rfl) (by simp) (cBoxK S 4 rfl 0 (by kernel_rfl)) (fun a F => ?_))
    refine l_pure 3 (fun L => (31, .int .u64 am) :: (30, .int .i64 to) :: (29, .int .i64 from_) :: L) F (by kernel_rfl) fun a F => ?_
    refine l_do F rfl rfl (op_fn F (by kernel_rfl) (pall_any _ A3 c4 A5 c6 x (WebAt.ofNew (x := x) (w := w) S (i := 2) (j := 3) rfl rfl ⟨l1, l2⟩) ok from_ to am hua (by omega)) ?_)
    rintro e z ⟨Al, cl, R2, rfl, hR2, g⟩
    have S := S.pushThings g
    have hlen : R2.length ≤ 32 := by have h9 := all_few x from_ to am; rw [← hR2, List.length_map] at h9; exact h9
    have hlen2 : R2.length = (allRt x from_ to am).length := by rw [← hR2, List.length_map]
    refine ⟨_, rfl, ?_⟩
    intro a F
    refine l_pure 5 (fun L => (11, .int .i64 (rightP x from_ to am)) :: (10, .slice Al R2.length cl) :: (34, .int .i64 (rightP x from_ to am)) :: (33, .slice Al R2.length cl) :: (27, .tuple #[.slice Al R2.length cl, .int .i64 (rightP x from_ to am)]) :: L) F (by kernel_rfl) fun a F => ?_
    refine l_then ?_
    refine wp_seq ?_
    refine s_reg ?_
    refine l_pure 1 (fun L => (35, .int .i64 (rightP x from_ to am)) :: L) F (by kernel_rfl) fun a F => ?_
    by_cases ht8 : (rightP x from_ to am : Int) = (0 : Int)
    · skip
      have hr := ht8
      refine l_do F rfl rfl (op_pure F (v0 := .bool ((rightP x from_ to am : Int) != (0 : Int))) (v := .bool false) (by kernel_rfl) (neqF ht8) fun a F => ?_)
      refine l_then ?_
      refine c_f F rfl ?_
      refine wp_skip ?_
      refine then_n ?_
      refine s_reg ?_
      refine l_do F rfl rfl (op_loadK _ _ (some ⟨b7, 0, none⟩) 0 [.slice A3 x.spots.length c4, .slice A5 x.edges.length c6] F rfl (by kernel_rfl) (by kernel_rfl) (by kernel_rfl) (by simp) (cBoxK S 4 rfl 0 (by kernel_rfl)) (fun a F => ?_))
      refine l_pure 3 (fun L => (47, .int .u64 am) :: (46, .int .i64 to) :: (45, .int .i64 from_) :: L) F (by kernel_rfl) fun a F => ?_
      refine l_do F rfl rfl (op_fn F (by kernel_rfl) (pbest_any _ A3 c4 A5 c6 x (WebAt.ofNew (x := x) (w := w) S (i := 2) (j := 3) rfl rfl ⟨l1, l2⟩) ok from_ to am hua (by omega)) ?_)
      rintro e z ⟨mb, R3, rfl, hmb1, hmbR, hmb3, hmb4, g⟩
      have S := S.pushThings g
      refine ⟨_, rfl, ?_⟩
      intro a F
      refine l_pure 3 (fun L => (50, .int .i64 ((bestRt x from_ to am).2)) :: (49, .agg #[.slice mb.A1 mb.r.nodes.length mb.c1, .slice mb.A2 mb.r.edges.length mb.c2, .slice mb.A3 mb.r.amts.length mb.c3]) :: (43, .tuple #[.agg #[.slice mb.A1 mb.r.nodes.length mb.c1, .slice mb.A2 mb.r.edges.length mb.c2, .slice mb.A3 mb.r.amts.length mb.c3], .int .i64 ((bestRt x from_ to am).2)]) :: L) F (by kernel_rfl) fun a F => ?_
      refine l_do F rfl rfl (op_alloc S _ (.agg #[.slice none 0 0, .slice none 0 0, .slice none 0 0]) rfl (by kernel_rfl) fun b9 z S a F => ?_)
      refine l_do F rfl rfl (op_storeB S 8 _ _ _ b9 0 (.agg #[.slice mb.A1 mb.r.nodes.length mb.c1, .slice mb.A2 mb.r.edges.length mb.c2, .slice mb.A3 mb.r.amts.length mb.c3]) F rfl rfl (by kernel_rfl) (by kernel_rfl) (by kernel_rfl) (by kernel_rfl) (by kernel_rfl) fun z S a F => ?_)
      refine l_pure 1 (fun L => (13, .int .i64 ((bestRt x from_ to am).2)) :: L) F (by kernel_rfl) fun a F => ?_
      refine l_then ?_
      refine wp_seq ?_
      refine s_reg ?_
      refine l_pure 1 (fun L => (51, .int .i64 ((bestRt x from_ to am).2)) :: L) F (by kernel_rfl) fun a F => ?_
      by_cases ht10 : ((bestRt x from_ to am).2 : Int) = (0 : Int)
      · skip
        have hb0 := ht10
        have hpos : 0 < R2.length := by
          rw [hlen2]
          exact (best_iff hr).1 hb0
        have hmbm := hmb3 hb0
        obtain ⟨kb, hkb, hkb2⟩ := List.getElem_of_mem hmbm
        obtain ⟨_, _, hmbl, umb, humb⟩ := good_of hmbR (i := kb) (m := mb) (by rw [List.getElem?_eq_getElem hkb, hkb2])
        refine l_do F rfl rfl (op_pure F (v0 := .bool (((bestRt x from_ to am).2 : Int) == (0 : Int))) (v := .bool true) (by kernel_rfl) (eqlT ht10) fun a F => ?_)
        refine l_pure 2 (fun L => (54, .int .i64 (R2.length : Nat)) :: (53, .slice Al R2.length cl) :: L) F (by kernel_rfl) fun a F => ?_
        refine l_do F rfl rfl (op_pure F (v0 := .bool (decide (((R2.length : Nat) : Int) > (0 : Int)))) (v := .bool true) (by kernel_rfl) (gtrT (by omega)) fun a F => ?_)
        refine l_pure 4 (fun L => (59, .int .i64 (R2.length : Nat)) :: (58, .slice Al R2.length cl) :: (57, .bool false) :: (56, .bool false) :: L) F (by kernel_rfl) fun a F => ?_
        refine l_do F rfl rfl (op_pure F (v0 := .bool (decide (((R2.length : Nat) : Int) > (32 : Int)))) (v := .bool false) (by kernel_rfl) (gtrF (by omega)) fun a F => ?_)
        refine l_pure 1 (fun L => (61, .bool false) :: L) F (by kernel_rfl) fun a F => ?_
        refine l_then ?_
        refine c_f F rfl ?_
        refine wp_skip ?_
        refine then_n ?_
        refine wp_seq ?_
        refine s_reg ?_
        refine l_pure 3 (fun L => (64, .int .i64 0) :: (63, .int .i64 (R2.length : Nat)) :: (62, .slice Al R2.length cl) :: L) F (by kernel_rfl) fun a F => ?_
        refine l_then ?_
        refine wp_block ?_
        refine wp_loop_m (fun m a z => ∃ (i : Nat), m = R2.length - i ∧ (i ≤ R2.length) ∧ Fr a 233 [(1, .int .i64 from_), (2, .int .i64 to), (3, .int .u64 am), (9, .pointer (some ⟨b7, 0, none⟩)), (12, .pointer (some ⟨b9, 0, none⟩)), (62, .slice Al R2.length cl), (63, .int .i64 (R2.length : Nat)), (64, .int .i64 (i : Nat))] ∧ Sat w z [rest w (· < w.heap.size), box b1 25 [.slice As x.spots.length cs, .slice Ae x.edges.length ce], row 107 2 (.slice A3 x.spots.length c4) x.spots.length (x.spots.flatMap spC), row 62 8 (.slice A5 x.edges.length c6) x.edges.length (x.edges.flatMap edC), box b7 32 [.slice A3 x.spots.length c4, .slice A5 x.edges.length c6], row 47 3 (.slice Al R2.length cl) R2.length (R2.flatMap rtC), bag (R2.flatMap rtRows), bag (R3.flatMap rtRows), box b9 47 [.slice mb.A1 mb.r.nodes.length mb.c1, .slice mb.A2 mb.r.edges.length mb.c2, .slice mb.A3 mb.r.amts.length mb.c3]]) _ ⟨0, rfl, Nat.zero_le _, F.sub ⟨by kernel_rfl, by kernel_rfl, by kernel_rfl, by kernel_rfl, by kernel_rfl, by kernel_rfl, by kernel_rfl, by kernel_rfl, trivial⟩, S⟩ ?_
        rintro m a z ⟨i, hm, hf11, F, S⟩
        refine s_reg ?_
        by_cases ht12 : ((i : Nat) : Int) < ((R2.length : Nat) : Int)
        · skip
          obtain ⟨m1, he1⟩ : ∃ m1, R2[i]? = some m1 := ⟨_, List.getElem?_eq_getElem (by omega)⟩
          have hgm1 := good_of hR2 he1
          have hs := good_snd ok hua hgm1.2.1 hr
          obtain ⟨um1, hum1⟩ := hgm1.2.2.2
          have hn1 := hs.way.len
          have hn2 := hs.alen
          have hn3 := hs.few
          have hn4 := hs.one
          have hmin := best_min hb0 hmb1 (by rw [← hR2]; exact map_at he1) humb hum1
          have hu1 := hs.au um1 (List.mem_of_getElem? hum1)
          have hu2 := hua.1
          have hu3 := hu1.2
          have hge : am ≤ um1 := by
            by_cases h9 : m1.r.edges.length = 1
            · have h8 := hs.alast
              rw [h9, show 1 - 1 = 0 from rfl, hum1] at h8
              injection h8 with h8
              omega
            · exact hs.fall 0 (m1.r.edges.length - 1) um1 am (by omega) hum1 hs.alast
          refine l_do F rfl rfl (op_pure F (v0 := .bool (decide (((i : Nat) : Int) < ((R2.length : Nat) : Int)))) (v := .bool true) (by kernel_rfl) (lssT ht12) fun a F => ?_)
          refine l_then ?_
          refine wp_seq ?_
          refine c_t F rfl ?_
          refine wp_skip ?_
          refine then_n ?_
          refine wp_seq ?_
          refine wp_block ?_
          refine s_reg ?_
          refine l_do F rfl rfl (op_index _ 47 _ _ Al R2.length cl i 3 .i64 F rfl (by kernel_rfl) (by kernel_rfl) (by kernel_rfl) (by kernel_rfl) (get_lt he1) (row_some S 5 rfl (m := i) (get_lt he1)) (fun a F => ?_))
          refine l_do F rfl rfl (op_loadK _ _ Al (i * 3) [.slice m1.A1 m1.r.nodes.length m1.c1, .slice m1.A2 m1.r.edges.length m1.c2, .slice m1.A3 m1.r.amts.length m1.c3] F rfl (by kernel_rfl) (by kernel_rfl) (by kernel_rfl) (by simp) (cRecK0 S 5 rtC_len rfl he1 (by kernel_rfl)) (fun a F => ?_))
          refine l_do F rfl rfl (op_alloc S _ (.agg #[.slice none 0 0, .slice none 0 0, .slice none 0 0]) rfl (by kernel_rfl) fun b13 z S a F => ?_)
          refine l_do F rfl rfl (op_storeB S 9 _ _ _ b13 0 (.agg #[.slice m1.A1 m1.r.nodes.length m1.c1, .slice m1.A2 m1.r.edges.length m1.c2, .slice m1.A3 m1.r.amts.length m1.c3]) F rfl rfl (by kernel_rfl) (by kernel_rfl) (by kernel_rfl) (by kernel_rfl) (by kernel_rfl) fun z S a F => ?_)
          refine l_then ?_
          refine s_reg ?_
          refine l_do F rfl rfl (op_loadK _ _ (some ⟨b13, 0, none⟩) 0 [.slice m1.A1 m1.r.nodes.length m1.c1, .slice m1.A2 m1.r.edges.length m1.c2, .slice m1.A3 m1.r.amts.length m1.c3] F rfl (by kernel_rfl) (by kernel_rfl) (by kernel_rfl) (by simp) (cBoxK S 9 rfl 0 (by kernel_rfl)) (fun a F => ?_))
          refine l_do F rfl rfl (op_fn F (by kernel_rfl) (long_any _ (.slice m1.A1 m1.r.nodes.length m1.c1) m1.A2 m1.r.edges.length m1.c2 (.slice m1.A3 m1.r.amts.length m1.c3)) ?_)
          rintro e z ⟨rfl, hb⟩
          have S := S.grow hb
          refine ⟨_, rfl, ?_⟩
          intro a F
          refine l_pure 1 (fun L => (16, .int .i64 (m1.r.edges.length : Nat)) :: L) F (by kernel_rfl) fun a F => ?_
          refine l_then ?_
          refine wp_seq ?_
          refine wp_seq ?_
          refine region_gx (fun D => fun (_ : Unit) => [rest w (· < w.heap.size), box b1 25 [.slice As x.spots.length cs, .slice Ae x.edges.length ce], row 107 2 (.slice A3 x.spots.length c4) x.spots.length (x.spots.flatMap spC), row 62 8 (.slice A5 x.edges.length c6) x.edges.length (x.edges.flatMap edC), box b7 32 [.slice A3 x.spots.length c4, .slice A5 x.edges.length c6], row 47 3 (.slice Al R2.length cl) R2.length (R2.flatMap rtC), bag (R2.flatMap rtRows), bag (R3.flatMap rtRows), box b9 47 [.slice mb.A1 mb.r.nodes.length mb.c1, .slice mb.A2 mb.r.edges.length mb.c2, .slice mb.A3 mb.r.amts.length mb.c3], box b13 47 [.slice m1.A1 m1.r.nodes.length m1.c1, .slice m1.A2 m1.r.edges.length m1.c2, .slice m1.A3 m1.r.amts.length m1.c3]]) (fun (_ : Unit) => [.int .i64 (m1.r.edges.length : Nat), .bool false, .bool false, .int .i64 (m1.r.edges.length : Nat), .bool false, .bool false, .bool false, .pointer (some ⟨b13, 0, none⟩), .slice m1.A1 m1.r.nodes.length m1.c1, .int .i64 (m1.r.nodes.length : Nat), .int .i64 (m1.r.edges.length : Nat), .int .i64 (m1.r.edges.length + 1 : Nat), .bool false, .bool false, .bool false, .pointer (some ⟨b13, 2, none⟩), .slice m1.A3 m1.r.amts.length m1.c3, .int .i64 (m1.r.amts.length : Nat), .int .i64 (m1.r.edges.length : Nat), .bool false, .bool false, .bool false, .pointer (some ⟨b13, 0, none⟩), .slice m1.A1 m1.r.nodes.length m1.c1, ptrA m1.A1 (0 * 1), .int .i64 from_, .int .i64 from_, .bool false, .bool false, .bool false, .pointer (some ⟨b13, 0, none⟩), .slice m1.A1 m1.r.nodes.length m1.c1, .int .i64 (m1.r.edges.length : Nat), ptrA m1.A1 (m1.r.edges.length * 1), .int .i64 to, .int .i64 to, .bool false, .bool false, .bool false, .pointer (some ⟨b13, 2, none⟩), .slice m1.A3 m1.r.amts.length m1.c3, .int .i64 (m1.r.edges.length : Nat), .int .i64 (m1.r.edges.length - 1 : Nat), ptrA m1.A3 ((m1.r.edges.length - 1) * 1), .int .u64 am, .int .u64 am, .bool false, .bool false, .bool false, .agg #[.slice m1.A1 m1.r.nodes.length m1.c1, .slice m1.A2 m1.r.edges.length m1.c2, .slice m1.A3 m1.r.amts.length m1.c3], .int .u64 (um1 - am), .pointer (some ⟨b13, 2, none⟩), .slice m1.A3 m1.r.amts.length m1.c3, ptrA m1.A3 (0 * 1), .int .u64 um1, .int .u64 am, .int .u64 (um1 - am), .bool false, .bool false, .bool false, .pointer (some ⟨b13, 2, none⟩), .slice m1.A3 m1.r.amts.length m1.c3, ptrA m1.A3 (0 * 1), .int .u64 um1, .pointer (some ⟨b9, 2, none⟩), .slice mb.A3 mb.r.amts.length mb.c3, ptrA mb.A3 (0 * 1), .int .u64 umb, .bool false, .bool false]) [(1, [], [4, 8, 11, 12, 16, 19, 23, 24, 25, 27, 31, 33, 34, 36, 40, 42, 43, 44, 46, 49, 50, 52, 53, 54, 56, 57, 61, 62, 63, 65, 66, 67, 68]), (4, [1], [8, 11, 12, 16, 19, 23, 24, 25, 27, 31, 33, 34, 36, 40, 42, 43, 44, 46, 49, 50, 52, 53, 54, 56, 57, 61, 62, 63, 65, 66, 67, 68]), (8, [1, 4], [12, 16, 19, 23, 24, 25, 27, 31, 33, 34, 36, 40, 42, 43, 44, 46, 49, 50, 52, 53, 54, 56, 57, 61, 62, 63, 65, 66, 67, 68]), (11, [1, 4], [12, 16, 19, 23, 24, 25, 27, 31, 33, 34, 36, 40, 42, 43, 44, 46, 49, 50, 52, 53, 54, 56, 57, 61, 62, 63, 65, 66, 67, 68]), (12, [1, 4, 8, 11], [16, 19, 23, 24, 25, 27, 31, 33, 34, 36, 40, 42, 43, 44, 46, 49, 50, 52, 53, 54, 56, 57, 61, 62, 63, 65, 66, 67, 68]), (16, [1, 4, 8, 11, 12], [19, 23, 24, 25, 27, 31, 33, 34, 36, 40, 42, 43, 44, 46, 49, 50, 52, 53, 54, 56, 57, 61, 62, 63, 65, 66, 67, 68]), (19, [1, 4, 8, 11, 12, 16], [23, 24, 25, 27, 31, 33, 34, 36, 40, 42, 43, 44, 46, 49, 50, 52, 53, 54, 56, 57, 61, 62, 63, 65, 66, 67, 68]), (23, [1, 4, 8, 11, 12, 16, 19], [24, 25, 27, 31, 33, 34, 36, 40, 42, 43, 44, 46, 49, 50, 52, 53, 54, 56, 57, 61, 62, 63, 65, 66, 67, 68]), (24, [1, 4, 8, 11, 12, 16, 19, 23], [25, 27, 31, 33, 34, 36, 40, 42, 43, 44, 46, 49, 50, 52, 53, 54, 56, 57, 61, 62, 63, 65, 66, 67, 68]), (25, [1, 4, 8, 11, 12, 16, 19, 23, 24], [27, 31, 33, 34, 36, 40, 42, 43, 44, 46, 49, 50, 52, 53, 54, 56, 57, 61, 62, 63, 65, 66, 67, 68]), (27, [1, 4, 8, 11, 12, 16, 19, 23, 24, 25], [31, 33, 34, 36, 40, 42, 43, 44, 46, 49, 50, 52, 53, 54, 56, 57, 61, 62, 63, 65, 66, 67, 68]), (31, [1, 4, 8, 11, 12, 16, 19, 23, 24, 25, 27], [33, 34, 36, 40, 42, 43, 44, 46, 49, 50, 52, 53, 54, 56, 57, 61, 62, 63, 65, 66, 67, 68]), (33, [1, 4, 8, 11, 12, 16, 19, 23, 24, 25, 27, 31], [34, 36, 40, 42, 43, 44, 46, 49, 50, 52, 53, 54, 56, 57, 61, 62, 63, 65, 66, 67, 68]), (34, [1, 4, 8, 11, 12, 16, 19, 23, 24, 25, 27, 31, 33], [36, 40, 42, 43, 44, 46, 49, 50, 52, 53, 54, 56, 57, 61, 62, 63, 65, 66, 67, 68]), (36, [1, 4, 8, 11, 12, 16, 19, 23, 24, 25, 27, 31, 33, 34], [40, 42, 43, 44, 46, 49, 50, 52, 53, 54, 56, 57, 61, 62, 63, 65, 66, 67, 68]), (40, [1, 4, 8, 11, 12, 16, 19, 23, 24, 25, 27, 31, 33, 34, 36], [43, 44, 46, 49, 50, 52, 53, 54, 56, 57, 61, 62, 63, 65, 66, 67, 68]), (42, [1, 4, 8, 11, 12, 16, 19, 23, 24, 25, 27, 31, 33, 34, 36], [43, 44, 46, 49, 50, 52, 53, 54, 56, 57, 61, 62, 63, 65, 66, 67, 68]), (43, [1, 4, 8, 11, 12, 16, 19, 23, 24, 25, 27, 31, 33, 34, 36, 40, 42], [44, 46, 49, 50, 52, 53, 54, 56, 57, 61, 62, 63, 65, 66, 67, 68]), (44, [1, 4, 8, 11, 12, 16, 19, 23, 24, 25, 27, 31, 33, 34, 36, 40, 42, 43], [46, 49, 50, 52, 53, 54, 56, 57, 61, 62, 63, 65, 66, 67, 68]), (46, [1, 4, 8, 11, 12, 16, 19, 23, 24, 25, 27, 31, 33, 34, 36, 40, 42, 43, 44], [49, 50, 52, 53, 54, 56, 57, 61, 62, 63, 65, 66, 67, 68]), (49, [1, 4, 8, 11, 12, 16, 19, 23, 24, 25, 27, 31, 33, 34, 36, 40, 42, 43, 44, 46], [50, 57, 61, 62, 63, 65, 66, 67, 68]), (50, [1, 4, 8, 11, 12, 16, 19, 23, 24, 25, 27, 31, 33, 34, 36, 40, 42, 43, 44, 46, 49], [57, 61, 62, 63, 65, 66, 67, 68]), (52, [1, 4, 8, 11, 12, 16, 19, 23, 24, 25, 27, 31, 33, 34, 36, 40, 42, 43, 44, 46], [53, 54, 56, 57, 61, 62, 63, 65, 66, 67, 68]), (53, [1, 4, 8, 11, 12, 16, 19, 23, 24, 25, 27, 31, 33, 34, 36, 40, 42, 43, 44, 46, 52], [54, 56, 57, 61, 62, 63, 65, 66, 67, 68]), (54, [1, 4, 8, 11, 12, 16, 19, 23, 24, 25, 27, 31, 33, 34, 36, 40, 42, 43, 44, 46, 52, 53], [56, 57, 61, 62, 63, 65, 66, 67, 68]), (56, [1, 4, 8, 11, 12, 16, 19, 23, 24, 25, 27, 31, 33, 34, 36, 40, 42, 43, 44, 46, 52, 53, 54], [57, 61, 62, 63, 65, 66, 67, 68]), (57, [1, 4, 8, 11, 12, 16, 19, 23, 24, 25, 27, 31, 33, 34, 36, 40, 42, 43, 44, 46, 49, 50, 52, 53, 54, 56], [61, 62, 63, 65, 66, 67, 68]), (61, [1, 4, 8, 11, 12, 16, 19, 23, 24, 25, 27, 31, 33, 34, 36, 40, 42, 43, 44, 46, 49, 50, 52, 53, 54, 56, 57], [62, 63, 68]), (62, [1, 4, 8, 11, 12, 16, 19, 23, 24, 25, 27, 31, 33, 34, 36, 40, 42, 43, 44, 46, 49, 50, 52, 53, 54, 56, 57, 61], [63, 68]), (63, [1, 4, 8, 11, 12, 16, 19, 23, 24, 25, 27, 31, 33, 34, 36, 40, 42, 43, 44, 46, 49, 50, 52, 53, 54, 56, 57, 61, 62], [68]), (65, [1, 4, 8, 11, 12, 16, 19, 23, 24, 25, 27, 31, 33, 34, 36, 40, 42, 43, 44, 46, 49, 50, 52, 53, 54, 56, 57], [66, 67, 68]), (66, [1, 4, 8, 11, 12, 16, 19, 23, 24, 25, 27, 31, 33, 34, 36, 40, 42, 43, 44, 46, 49, 50, 52, 53, 54, 56, 57, 65], [67, 68]), (67, [1, 4, 8, 11, 12, 16, 19, 23, 24, 25, 27, 31, 33, 34, 36, 40, 42, 43, 44, 46, 49, 50, 52, 53, 54, 56, 57, 65, 66], [68]), (68, [1, 4, 8, 11, 12, 16, 19, 23, 24, 25, 27, 31, 33, 34, 36, 40, 42, 43, 44, 46, 49, 50, 52, 53, 54, 56, 57, 61, 62, 63, 65, 66, 67], [])] () rfl (by kernel_rfl) (by kernel_rfl) F S.drew ?_ ?_ ?_ ?_ ?_
          · rintro ⟨⟩; rfl
          · rintro ⟨⟩; kernel_rfl
          · intro D D' x h
            cases x
            rfl
          · refine ⟨?_, ?_⟩
            · refine ⟨_, rfl, rfl, by kernel_rfl, ?_⟩
              rintro D ⟨⟩ a z S F
              refine ⟨by kernel_rfl, ?_⟩
              exact op_pure F (v0 := .bool (decide (((m1.r.edges.length : Nat) : Int) < (1 : Int)))) (v := .bool false) (by kernel_rfl) (lssF (by omega)) ⟨(), rfl, (SameB.refl _ _ rfl), S⟩
            refine ⟨?_, ?_⟩
            · refine ⟨_, rfl, rfl, by kernel_rfl, ?_⟩
              rintro D ⟨⟩ a z S F
              refine ⟨by kernel_rfl, ?_⟩
              exact op_pure F (v0 := .bool (decide (((m1.r.edges.length : Nat) : Int) > (7 : Int)))) (v := .bool false) (by kernel_rfl) (gtrF (by omega)) ⟨(), rfl, (SameB.refl _ _ rfl), S⟩
            refine ⟨?_, ?_⟩
            · refine ⟨_, rfl, rfl, by kernel_rfl, ?_⟩
              rintro D ⟨⟩ a z S F
              refine ⟨by kernel_rfl, ?_⟩
              exact op_load _ _ (some ⟨b13, 0, none⟩) 0 (.slice m1.A1 m1.r.nodes.length m1.c1) F rfl (by kernel_rfl) (by kernel_rfl) (cBox S 9 rfl (j := 0) rfl) (⟨(), rfl, (SameB.refl _ _ rfl), S⟩)
            refine ⟨?_, ?_⟩
            · refine ⟨_, rfl, rfl, by kernel_rfl, ?_⟩
              rintro D ⟨⟩ a z S F
              refine ⟨by kernel_rfl, ?_⟩
              exact op_pure F (v0 := .int .i64 (IntKind.wrap .i64 ((m1.r.edges.length : Nat) + 1))) (v := .int .i64 (m1.r.edges.length + 1 : Nat)) (by kernel_rfl) (wrn_i64 (by omega) (by omega) (by omega)) ⟨(), rfl, (SameB.refl _ _ rfl), S⟩
            refine ⟨?_, ?_⟩
            · refine ⟨_, rfl, rfl, by kernel_rfl, ?_⟩
              rintro D ⟨⟩ a z S F
              refine ⟨by kernel_rfl, ?_⟩
              exact op_pure F (v0 := .bool (((m1.r.nodes.length : Nat) : Int) != ((m1.r.edges.length + 1 : Nat) : Int))) (v := .bool false) (by kernel_rfl) (neqF (by omega)) ⟨(), rfl, (SameB.refl _ _ rfl), S⟩
            refine ⟨?_, ?_⟩
            · refine ⟨_, rfl, rfl, by kernel_rfl, ?_⟩
              rintro D ⟨⟩ a z S F
              refine ⟨by kernel_rfl, ?_⟩
              exact op_load _ _ (some ⟨b13, 0, none⟩) 2 (.slice m1.A3 m1.r.amts.length m1.c3) F rfl (by kernel_rfl) (by kernel_rfl) (cBox S 9 rfl (j := 2) rfl) (⟨(), rfl, (SameB.refl _ _ rfl), S⟩)
            refine ⟨?_, ?_⟩
            · refine ⟨_, rfl, rfl, by kernel_rfl, ?_⟩
              rintro D ⟨⟩ a z S F
              refine ⟨by kernel_rfl, ?_⟩
              exact op_pure F (v0 := .bool (((m1.r.amts.length : Nat) : Int) != ((m1.r.edges.length : Nat) : Int))) (v := .bool false) (by kernel_rfl) (neqF (by omega)) ⟨(), rfl, (SameB.refl _ _ rfl), S⟩
            refine ⟨?_, ?_⟩
            · refine ⟨_, rfl, rfl, by kernel_rfl, ?_⟩
              rintro D ⟨⟩ a z S F
              refine ⟨by kernel_rfl, ?_⟩
              exact op_load _ _ (some ⟨b13, 0, none⟩) 0 (.slice m1.A1 m1.r.nodes.length m1.c1) F rfl (by kernel_rfl) (by kernel_rfl) (cBox S 9 rfl (j := 0) rfl) (⟨(), rfl, (SameB.refl _ _ rfl), S⟩)
            refine ⟨?_, ?_⟩
            · refine ⟨_, rfl, rfl, by kernel_rfl, ?_⟩
              rintro D ⟨⟩ a z S F
              refine ⟨by kernel_rfl, ?_⟩
              exact op_index _ 3 _ _ m1.A1 m1.r.nodes.length m1.c1 0 1 .i64 F rfl (by kernel_rfl) (by kernel_rfl) (by kernel_rfl) (by kernel_rfl) (get_lt hs.hd) (recs_some (bag_nodes S 6 rfl hgm1.1 (by omega)) (m := 0) (get_lt hs.hd)) (⟨(), rfl, (SameB.refl _ _ rfl), S⟩)
            refine ⟨?_, ?_⟩
            · refine ⟨_, rfl, rfl, by kernel_rfl, ?_⟩
              rintro D ⟨⟩ a z S F
              refine ⟨by kernel_rfl, ?_⟩
              exact op_load _ _ m1.A1 (0 * 1) (.int .i64 from_) F rfl (by kernel_rfl) (by kernel_rfl) (recs_cell iC_len_i64 (bag_nodes S 6 rfl hgm1.1 (by omega)) 0 hs.hd rfl) (⟨(), rfl, (SameB.refl _ _ rfl), S⟩)
            refine ⟨?_, ?_⟩
            · refine ⟨_, rfl, rfl, by kernel_rfl, ?_⟩
              rintro D ⟨⟩ a z S F
              refine ⟨by kernel_rfl, ?_⟩
              exact op_pure F (v0 := .bool ((from_ : Int) != (from_ : Int))) (v := .bool false) (by kernel_rfl) (neqF rfl) ⟨(), rfl, (SameB.refl _ _ rfl), S⟩
            refine ⟨?_, ?_⟩
            · refine ⟨_, rfl, rfl, by kernel_rfl, ?_⟩
              rintro D ⟨⟩ a z S F
              refine ⟨by kernel_rfl, ?_⟩
              exact op_load _ _ (some ⟨b13, 0, none⟩) 0 (.slice m1.A1 m1.r.nodes.length m1.c1) F rfl (by kernel_rfl) (by kernel_rfl) (cBox S 9 rfl (j := 0) rfl) (⟨(), rfl, (SameB.refl _ _ rfl), S⟩)
            refine ⟨?_, ?_⟩
            · refine ⟨_, rfl, rfl, by kernel_rfl, ?_⟩
              rintro D ⟨⟩ a z S F
              refine ⟨by kernel_rfl, ?_⟩
              exact op_index _ 3 _ _ m1.A1 m1.r.nodes.length m1.c1 m1.r.edges.length 1 .i64 F rfl (by kernel_rfl) (by kernel_rfl) (by kernel_rfl) (by kernel_rfl) (get_lt hs.last) (recs_some (bag_nodes S 6 rfl hgm1.1 (by omega)) (m := m1.r.edges.length) (get_lt hs.last)) (⟨(), rfl, (SameB.refl _ _ rfl), S⟩)
            refine ⟨?_, ?_⟩
            · refine ⟨_, rfl, rfl, by kernel_rfl, ?_⟩
              rintro D ⟨⟩ a z S F
              refine ⟨by kernel_rfl, ?_⟩
              exact op_load _ _ m1.A1 (m1.r.edges.length * 1) (.int .i64 to) F rfl (by kernel_rfl) (by kernel_rfl) (recs_cell iC_len_i64 (bag_nodes S 6 rfl hgm1.1 (by omega)) 0 hs.last rfl) (⟨(), rfl, (SameB.refl _ _ rfl), S⟩)
            refine ⟨?_, ?_⟩
            · refine ⟨_, rfl, rfl, by kernel_rfl, ?_⟩
              rintro D ⟨⟩ a z S F
              refine ⟨by kernel_rfl, ?_⟩
              exact op_pure F (v0 := .bool ((to : Int) != (to : Int))) (v := .bool false) (by kernel_rfl) (neqF rfl) ⟨(), rfl, (SameB.refl _ _ rfl), S⟩
            refine ⟨?_, ?_⟩
            · refine ⟨_, rfl, rfl, by kernel_rfl, ?_⟩
              rintro D ⟨⟩ a z S F
              refine ⟨by kernel_rfl, ?_⟩
              exact op_load _ _ (some ⟨b13, 0, none⟩) 2 (.slice m1.A3 m1.r.amts.length m1.c3) F rfl (by kernel_rfl) (by kernel_rfl) (cBox S 9 rfl (j := 2) rfl) (⟨(), rfl, (SameB.refl _ _ rfl), S⟩)
            refine ⟨?_, ?_⟩
            · refine ⟨_, rfl, rfl, by kernel_rfl, ?_⟩
              rintro D ⟨⟩ a z S F
              refine ⟨by kernel_rfl, ?_⟩
              exact op_pure F (v0 := .int .i64 (IntKind.wrap .i64 ((m1.r.edges.length : Nat) - 1))) (v := .int .i64 (m1.r.edges.length - 1 : Nat)) (by kernel_rfl) (wrn_i64 (by omega) (by omega) (by omega)) ⟨(), rfl, (SameB.refl _ _ rfl), S⟩
            refine ⟨?_, ?_⟩
            · refine ⟨_, rfl, rfl, by kernel_rfl, ?_⟩
              rintro D ⟨⟩ a z S F
              refine ⟨by kernel_rfl, ?_⟩
              exact op_index _ 26 _ _ m1.A3 m1.r.amts.length m1.c3 (m1.r.edges.length - 1) 1 .i64 F rfl (by kernel_rfl) (by kernel_rfl) (by kernel_rfl) (by kernel_rfl) (get_lt hs.alast) (recs_some (bag_amts S 6 rfl hgm1.1 (by omega)) (m := m1.r.edges.length - 1) (get_lt hs.alast)) (⟨(), rfl, (SameB.refl _ _ rfl), S⟩)
            refine ⟨?_, ?_⟩
            · refine ⟨_, rfl, rfl, by kernel_rfl, ?_⟩
              rintro D ⟨⟩ a z S F
              refine ⟨by kernel_rfl, ?_⟩
              exact op_load _ _ m1.A3 ((m1.r.edges.length - 1) * 1) (.int .u64 am) F rfl (by kernel_rfl) (by kernel_rfl) (recs_cell iC_len_u64 (bag_amts S 6 rfl hgm1.1 (by omega)) 0 hs.alast rfl) (⟨(), rfl, (SameB.refl _ _ rfl), S⟩)
            refine ⟨?_, ?_⟩
            · refine ⟨_, rfl, rfl, by kernel_rfl, ?_⟩
              rintro D ⟨⟩ a z S F
              refine ⟨by kernel_rfl, ?_⟩
              exact op_pure F (v0 := .bool ((am : Int) != (am : Int))) (v := .bool false) (by kernel_rfl) (neqF rfl) ⟨(), rfl, (SameB.refl _ _ rfl), S⟩
            refine ⟨?_, ?_⟩
            · refine ⟨_, rfl, rfl, by kernel_rfl, ?_⟩
              rintro D ⟨⟩ a z S F
              refine ⟨by kernel_rfl, ?_⟩
              exact op_loadK _ _ (some ⟨b13, 0, none⟩) 0 [.slice m1.A1 m1.r.nodes.length m1.c1, .slice m1.A2 m1.r.edges.length m1.c2, .slice m1.A3 m1.r.amts.length m1.c3] F rfl (by kernel_rfl) (by kernel_rfl) (by kernel_rfl) (by simp) (cBoxK S 9 rfl 0 (by kernel_rfl)) (⟨(), rfl, (SameB.refl _ _ rfl), S⟩)
            refine ⟨?_, ?_⟩
            · refine ⟨_, rfl, rfl, by kernel_rfl, ?_⟩
              rintro D ⟨⟩ a z S F
              refine ⟨by kernel_rfl, ?_⟩
              refine op_fn F (by kernel_rfl) (fees_any8 _ m1 (bag_amts S 6 rfl hgm1.1 (by omega)) um1 am hum1 (by rw [hn2]; exact hs.alast) (by omega) hge hu1.2 hu2) ?_
              rintro e z ⟨rfl, hb⟩
              have S := S.grow hb
              exact ⟨_, rfl, (), rfl, (SameB.refl _ _ rfl), S⟩
            refine ⟨?_, ?_⟩
            · refine ⟨_, rfl, rfl, by kernel_rfl, ?_⟩
              rintro D ⟨⟩ a z S F
              refine ⟨by kernel_rfl, ?_⟩
              exact op_load _ _ (some ⟨b13, 0, none⟩) 2 (.slice m1.A3 m1.r.amts.length m1.c3) F rfl (by kernel_rfl) (by kernel_rfl) (cBox S 9 rfl (j := 2) rfl) (⟨(), rfl, (SameB.refl _ _ rfl), S⟩)
            refine ⟨?_, ?_⟩
            · refine ⟨_, rfl, rfl, by kernel_rfl, ?_⟩
              rintro D ⟨⟩ a z S F
              refine ⟨by kernel_rfl, ?_⟩
              exact op_index _ 26 _ _ m1.A3 m1.r.amts.length m1.c3 0 1 .i64 F rfl (by kernel_rfl) (by kernel_rfl) (by kernel_rfl) (by kernel_rfl) (get_lt hum1) (recs_some (bag_amts S 6 rfl hgm1.1 (by omega)) (m := 0) (get_lt hum1)) (⟨(), rfl, (SameB.refl _ _ rfl), S⟩)
            refine ⟨?_, ?_⟩
            · refine ⟨_, rfl, rfl, by kernel_rfl, ?_⟩
              rintro D ⟨⟩ a z S F
              refine ⟨by kernel_rfl, ?_⟩
              exact op_load _ _ m1.A3 (0 * 1) (.int .u64 um1) F rfl (by kernel_rfl) (by kernel_rfl) (recs_cell iC_len_u64 (bag_amts S 6 rfl hgm1.1 (by omega)) 0 hum1 rfl) (⟨(), rfl, (SameB.refl _ _ rfl), S⟩)
            refine ⟨?_, ?_⟩
            · refine ⟨_, rfl, rfl, by kernel_rfl, ?_⟩
              rintro D ⟨⟩ a z S F
              refine ⟨by kernel_rfl, ?_⟩
              exact op_pure F (v0 := .int .u64 (IntKind.wrap .u64 (um1 - am))) (v := .int .u64 (um1 - am)) (by kernel_rfl) (wr_u64 (by omega) (by omega)) ⟨(), rfl, (SameB.refl _ _ rfl), S⟩
            refine ⟨?_, ?_⟩
            · refine ⟨_, rfl, rfl, by kernel_rfl, ?_⟩
              rintro D ⟨⟩ a z S F
              refine ⟨by kernel_rfl, ?_⟩
              exact op_pure F (v0 := .bool ((um1 - am : Int) != (um1 - am : Int))) (v := .bool false) (by kernel_rfl) (neqF rfl) ⟨(), rfl, (SameB.refl _ _ rfl), S⟩
            refine ⟨?_, ?_⟩
            · refine ⟨_, rfl, rfl, by kernel_rfl, ?_⟩
              rintro D ⟨⟩ a z S F
              refine ⟨by kernel_rfl, ?_⟩
              exact op_load _ _ (some ⟨b13, 0, none⟩) 2 (.slice m1.A3 m1.r.amts.length m1.c3) F rfl (by kernel_rfl) (by kernel_rfl) (cBox S 9 rfl (j := 2) rfl) (⟨(), rfl, (SameB.refl _ _ rfl), S⟩)
            refine ⟨?_, ?_⟩
            · refine ⟨_, rfl, rfl, by kernel_rfl, ?_⟩
              rintro D ⟨⟩ a z S F
              refine ⟨by kernel_rfl, ?_⟩
              exact op_index _ 26 _ _ m1.A3 m1.r.amts.length m1.c3 0 1 .i64 F rfl (by kernel_rfl) (by kernel_rfl) (by kernel_rfl) (by kernel_rfl) (get_lt hum1) (recs_some (bag_amts S 6 rfl hgm1.1 (by omega)) (m := 0) (get_lt hum1)) (⟨(), rfl, (SameB.refl _ _ rfl), S⟩)
            refine ⟨?_, ?_⟩
            · refine ⟨_, rfl, rfl, by kernel_rfl, ?_⟩
              rintro D ⟨⟩ a z S F
              refine ⟨by kernel_rfl, ?_⟩
              exact op_load _ _ m1.A3 (0 * 1) (.int .u64 um1) F rfl (by kernel_rfl) (by kernel_rfl) (recs_cell iC_len_u64 (bag_amts S 6 rfl hgm1.1 (by omega)) 0 hum1 rfl) (⟨(), rfl, (SameB.refl _ _ rfl), S⟩)
            refine ⟨?_, ?_⟩
            · refine ⟨_, rfl, rfl, by kernel_rfl, ?_⟩
              rintro D ⟨⟩ a z S F
              refine ⟨by kernel_rfl, ?_⟩
              exact op_load _ _ (some ⟨b9, 0, none⟩) 2 (.slice mb.A3 mb.r.amts.length mb.c3) F rfl (by kernel_rfl) (by kernel_rfl) (cBox S 8 rfl (j := 2) rfl) (⟨(), rfl, (SameB.refl _ _ rfl), S⟩)
            refine ⟨?_, ?_⟩
            · refine ⟨_, rfl, rfl, by kernel_rfl, ?_⟩
              rintro D ⟨⟩ a z S F
              refine ⟨by kernel_rfl, ?_⟩
              exact op_index _ 26 _ _ mb.A3 mb.r.amts.length mb.c3 0 1 .i64 F rfl (by kernel_rfl) (by kernel_rfl) (by kernel_rfl) (by kernel_rfl) (get_lt humb) (recs_some (bag_amts S 7 rfl hmbm (by omega)) (m := 0) (get_lt humb)) (⟨(), rfl, (SameB.refl _ _ rfl), S⟩)
            refine ⟨?_, ?_⟩
            · refine ⟨_, rfl, rfl, by kernel_rfl, ?_⟩
              rintro D ⟨⟩ a z S F
              refine ⟨by kernel_rfl, ?_⟩
              exact op_load _ _ mb.A3 (0 * 1) (.int .u64 umb) F rfl (by kernel_rfl) (by kernel_rfl) (recs_cell iC_len_u64 (bag_amts S 7 rfl hmbm (by omega)) 0 humb rfl) (⟨(), rfl, (SameB.refl _ _ rfl), S⟩)
            refine ⟨?_, ?_⟩
            · refine ⟨_, rfl, rfl, by kernel_rfl, ?_⟩
              rintro D ⟨⟩ a z S F
              refine ⟨by kernel_rfl, ?_⟩
              exact op_pure F (v0 := .bool (decide ((um1 : Int) < (umb : Int)))) (v := .bool false) (by kernel_rfl) (lssF (Int.not_lt.2 hmin)) ⟨(), rfl, (SameB.refl _ _ rfl), S⟩
            trivial
          · rintro ⟨⟩ a z F S
            have F := F.sub (l := [(1, .int .i64 from_), (2, .int .i64 to), (3, .int .u64 am), (9, .pointer (some ⟨b7, 0, none⟩)), (12, .pointer (some ⟨b9, 0, none⟩)), (15, .pointer (some ⟨b13, 0, none⟩)), (16, .int .i64 (m1.r.edges.length : Nat)), (62, .slice Al R2.length cl), (63, .int .i64 (R2.length : Nat)), (64, .int .i64 (i : Nat)), (139, .bool false)]) ⟨by kernel_rfl, by kernel_rfl, by kernel_rfl, by kernel_rfl, by kernel_rfl, by kernel_rfl, by kernel_rfl, by kernel_rfl, by kernel_rfl, by kernel_rfl, by kernel_rfl, trivial⟩
            have S : Sat w z [rest w (· < w.heap.size), box b1 25 [.slice As x.spots.length cs, .slice Ae x.edges.length ce], row 107 2 (.slice A3 x.spots.length c4) x.spots.length (x.spots.flatMap spC), row 62 8 (.slice A5 x.edges.length c6) x.edges.length (x.edges.flatMap edC), box b7 32 [.slice A3 x.spots.length c4, .slice A5 x.edges.length c6], row 47 3 (.slice Al R2.length cl) R2.length (R2.flatMap rtC), bag (R2.flatMap rtRows), bag (R3.flatMap rtRows), box b9 47 [.slice mb.A1 mb.r.nodes.length mb.c1, .slice mb.A2 mb.r.edges.length mb.c2, .slice mb.A3 mb.r.amts.length mb.c3], box b13 47 [.slice m1.A1 m1.r.nodes.length m1.c1, .slice m1.A2 m1.r.edges.length m1.c2, .slice m1.A3 m1.r.amts.length m1.c3]] := S
            refine then_n ?_
            refine c_f F rfl ?_
            refine wp_skip ?_
            refine then_n ?_
            refine s_reg ?_
            refine l_do F rfl rfl (op_makeMap S _ .i64 rfl fun r14 z S a F => ?_)
            refine l_pure 1 (fun L => (17, .map (some r14)) :: L) F (by kernel_rfl) fun a F => ?_
            refine l_then ?_
            refine s_reg ?_
            refine l_pure 1 (fun L => (141, .pointer (some ⟨b13, 0, none⟩)) :: L) F (by kernel_rfl) fun a F => ?_
            refine l_do F rfl rfl (op_load _ _ (some ⟨b13, 0, none⟩) 0 (.slice m1.A1 m1.r.nodes.length m1.c1) F rfl (by kernel_rfl) (by kernel_rfl) (cBox S 9 rfl (j := 0) rfl) (fun a F => ?_))
            refine l_pure 2 (fun L => (144, .int .i64 0) :: (143, .int .i64 (m1.r.nodes.length : Nat)) :: L) F (by kernel_rfl) fun a F => ?_
            refine l_then ?_
            refine wp_block ?_
            refine wp_loop_m (fun m a z => ∃ (k : Nat) (es : List Ent) (ck : Nat), m = m1.r.nodes.length - k ∧ (k ≤ m1.r.nodes.length) ∧ (∀ k' v, getM es k' = some v → k' ∈ m1.r.nodes.take k) ∧ Fr a 233 [(1, .int .i64 from_), (2, .int .i64 to), (3, .int .u64 am), (9, .pointer (some ⟨b7, 0, none⟩)), (12, .pointer (some ⟨b9, 0, none⟩)), (15, .pointer (some ⟨b13, 0, none⟩)), (16, .int .i64 (m1.r.edges.length : Nat)), (17, .map (some r14)), (62, .slice Al R2.length cl), (63, .int .i64 (R2.length : Nat)), (64, .int .i64 (i : Nat)), (142, .slice m1.A1 m1.r.nodes.length m1.c1), (143, .int .i64 (m1.r.nodes.length : Nat)), (144, .int .i64 (k : Nat))] ∧ Sat w z [rest w (· < w.heap.size), box b1 25 [.slice As x.spots.length cs, .slice Ae x.edges.length ce], row 107 2 (.slice A3 x.spots.length c4) x.spots.length (x.spots.flatMap spC), row 62 8 (.slice A5 x.edges.length c6) x.edges.length (x.edges.flatMap edC), box b7 32 [.slice A3 x.spots.length c4, .slice A5 x.edges.length c6], row 47 3 (.slice Al R2.length cl) R2.length (R2.flatMap rtC), bag (R2.flatMap rtRows), bag (R3.flatMap rtRows), box b9 47 [.slice mb.A1 mb.r.nodes.length mb.c1, .slice mb.A2 mb.r.edges.length mb.c2, .slice mb.A3 mb.r.amts.length mb.c3], box b13 47 [.slice m1.A1 m1.r.nodes.length m1.c1, .slice m1.A2 m1.r.edges.length m1.c2, .slice m1.A3 m1.r.amts.length m1.c3], mapA r14 .i64 es ck]) _ ⟨0, [], 0, rfl, Nat.zero_le _, (fun k' v h => by simp [getM] at h), F.sub ⟨by kernel_rfl, by kernel_rfl, by kernel_rfl, by kernel_rfl, by kernel_rfl, by kernel_rfl, by kernel_rfl, by kernel_rfl, by kernel_rfl, by kernel_rfl, by kernel_rfl, by kernel_rfl, by kernel_rfl, by kernel_rfl, trivial⟩, S⟩ ?_
            rintro m a z ⟨k, es, ck, hm, hf15, hf16, F, S⟩
            have hseen := hf16
            refine s_reg ?_
            by_cases ht17 : ((k : Nat) : Int) < ((m1.r.nodes.length : Nat) : Int)
            · skip
              obtain ⟨nk, hnk⟩ : ∃ nk, m1.r.nodes[k]? = some nk := ⟨_, List.getElem?_eq_getElem (by omega)⟩
              refine l_do F rfl rfl (op_pure F (v0 := .bool (decide (((k : Nat) : Int) < ((m1.r.nodes.length : Nat) : Int)))) (v := .bool true) (by kernel_rfl) (lssT ht17) fun a F => ?_)
              refine l_then ?_
              refine wp_seq ?_
              refine c_t F rfl ?_
              refine wp_skip ?_
              refine then_n ?_
              refine wp_seq ?_
              refine wp_block ?_
              refine s_reg ?_
              refine l_pure 1 (fun L => (146, .int .i64 (k : Nat)) :: L) F (by kernel_rfl) fun a F => ?_
              refine l_do F rfl rfl (op_index _ 3 _ _ m1.A1 m1.r.nodes.length m1.c1 k 1 .i64 F rfl (by kernel_rfl) (by kernel_rfl) (by kernel_rfl) (by kernel_rfl) (get_lt hnk) (recs_some (bag_nodes S 6 rfl hgm1.1 (by omega)) (m := k) (get_lt hnk)) (fun a F => ?_))
              refine l_do F rfl rfl (op_load _ _ m1.A1 (k * 1) (.int .i64 nk) F rfl (by kernel_rfl) (by kernel_rfl) (recs_cell iC_len_i64 (bag_nodes S 6 rfl hgm1.1 (by omega)) 0 hnk rfl) (fun a F => ?_))
              refine l_pure 2 (fun L => (19, .int .i64 nk) :: (18, .int .i64 (k : Nat)) :: L) F (by kernel_rfl) fun a F => ?_
              refine l_then ?_
              refine wp_seq ?_
              refine s_reg ?_
              refine l_pure 2 (fun L => (150, .int .i64 nk) :: (149, .map (some r14)) :: L) F (by kernel_rfl) fun a F => ?_
              refine l_do F rfl rfl (op_lookup S 10 _ 3 4 _ _ false (.bool false) .i64 .i64 nk (.bool false) F rfl rfl (by kernel_rfl) (by kernel_rfl) (by kernel_rfl) (by kernel_rfl) (by kernel_rfl) (by rw [seen_not hs.nodup hnk hseen]; rfl) (fun a F => ?_))
              refine l_then ?_
              refine c_f F rfl ?_
              refine wp_skip ?_
              refine then_n ?_
              refine s_reg ?_
              refine l_pure 2 (fun L => (153, .int .i64 nk) :: (152, .map (some r14)) :: L) F (by kernel_rfl) fun a F => ?_
              refine l_do F rfl rfl (op_mapUpdate S 10 _ 3 4 _ _ _ .i64 .i64 nk (.bool true) F rfl rfl (by kernel_rfl) (by kernel_rfl) (by kernel_rfl) (by kernel_rfl) (by kernel_rfl) fun z S a F => ?_)
              refine l_then ?_
              refine wp_seq ?_
              refine s_reg ?_
              refine l_pure 2 (fun L => (155, .int .i64 (m1.r.edges.length : Nat)) :: (154, .int .i64 (k : Nat)) :: L) F (by kernel_rfl) fun a F => ?_
              by_cases ht18 : ((k : Nat) : Int) = ((m1.r.edges.length : Nat) : Int)
              · skip
                refine l_do F rfl rfl (op_pure F (v0 := .bool (((k : Nat) : Int) == ((m1.r.edges.length : Nat) : Int))) (v := .bool true) (by kernel_rfl) (eqlT ht18) fun a F => ?_)
                refine l_then ?_
                refine c_t F rfl ?_
                refine wp_exit ?_
                refine then_x ?_
                refine inb_xo (by kernel_rfl) ?_
                refine then_x ?_
                refine then_x ?_
                refine inb_x ?_
                refine inb_n ?_
                refine then_n ?_
                refine wp_region_list ?_
                refine l_do F rfl rfl (op_pure F (v0 := .int .i64 (IntKind.wrap .i64 ((i : Nat) + 1))) (v := .int .i64 (i + 1 : Nat)) (by kernel_rfl) (wrn_i64 (by omega) (by omega) (by omega)) fun a F => ?_)
                refine l_pure 1 (fun L => (64, .int .i64 (i + 1 : Nat)) :: L) F (by kernel_rfl) fun a F => ?_
                refine l_then ?_
                exact ⟨_, (by omega), i + 1, rfl, (by omega), F.sub ⟨by kernel_rfl, by kernel_rfl, by kernel_rfl, by kernel_rfl, by kernel_rfl, by kernel_rfl, by kernel_rfl, by kernel_rfl, trivial⟩, (S.pick [0, 1, 2, 3, 4, 5, 6, 7, 8] (by decide))⟩
              · skip
                obtain ⟨nk1, hnk1⟩ : ∃ nk1, m1.r.nodes[k + 1]? = some nk1 := ⟨_, List.getElem?_eq_getElem (by omega)⟩
                obtain ⟨ak, hak⟩ : ∃ ak, m1.r.amts[k]? = some ak := ⟨_, List.getElem?_eq_getElem (by omega)⟩
                obtain ⟨ek, hek⟩ : ∃ ek, m1.r.edges[k]? = some ek := ⟨_, List.getElem?_eq_getElem (by omega)⟩
                obtain ⟨j, ed, rfl, hed, hsd⟩ := snd_step hs hnk hnk1 hek hak
                refine l_do F rfl rfl (op_pure F (v0 := .bool (((k : Nat) : Int) == ((m1.r.edges.length : Nat) : Int))) (v := .bool false) (by kernel_rfl) (eqlF ht18) fun a F => ?_)
                refine l_then ?_
                refine c_f F rfl ?_
                refine wp_skip ?_
                refine then_n ?_
                refine wp_seq ?_
                rcases hsd with ⟨hs1, hb0', hb1, hcan⟩ | ⟨hs1, hb0', hb0'', hb1, hcan⟩
                · skip
                  refine region_gx (fun D => fun (_ : Unit) => [rest w (· < w.heap.size), box b1 25 [.slice As x.spots.length cs, .slice Ae x.edges.length ce], row 107 2 (.slice A3 x.spots.length c4) x.spots.length (x.spots.flatMap spC), row 62 8 (.slice A5 x.edges.length c6) x.edges.length (x.edges.flatMap edC), box b7 32 [.slice A3 x.spots.length c4, .slice A5 x.edges.length c6], row 47 3 (.slice Al R2.length cl) R2.length (R2.flatMap rtC), bag (R2.flatMap rtRows), bag (R3.flatMap rtRows), box b9 47 [.slice mb.A1 mb.r.nodes.length mb.c1, .slice mb.A2 mb.r.edges.length mb.c2, .slice mb.A3 mb.r.amts.length mb.c3], box b13 47 [.slice m1.A1 m1.r.nodes.length m1.c1, .slice m1.A2 m1.r.edges.length m1.c2, .slice m1.A3 m1.r.amts.length m1.c3], mapA r14 .i64 (putM es nk (.bool true) ck) (putC es nk ck)]) (fun (_ : Unit) => [.pointer (some ⟨b7, 1, none⟩), .slice A5 x.edges.length c6, .pointer (some ⟨b13, 1, none⟩), .slice m1.A2 m1.r.edges.length m1.c2, .int .i64 (k : Nat), ptrA m1.A2 (k * 1), .int .i64 (j : Nat), ptrA A5 (j * 8), .agg #[.int .i64 ed.a, .int .i64 ed.b, .int .u64 ed.c0, .int .u64 ed.c1, .int .u64 ed.b0, .int .u64 ed.r0, .int .u64 ed.b1, .int .u64 ed.r1], .int .i64 nk, .int .i64 0, .int .i64 0]) [(1, [], [7, 8, 10]), (3, [], [5, 6, 7, 8, 10]), (5, [3], [6, 7, 8, 10]), (6, [3, 5], [7, 8, 10]), (7, [1, 3, 5, 6], [8, 10]), (8, [1, 3, 5, 6, 7], [10]), (10, [1, 3, 5, 6, 7, 8], [])] () rfl (by kernel_rfl) (by kernel_rfl) F S.drew ?_ ?_ ?_ ?_ ?_
                  · rintro ⟨⟩; rfl
                  · rintro ⟨⟩; kernel_rfl
                  · intro D D' x h
                    cases x
                    rfl
                  · refine ⟨?_, ?_⟩
                    · refine ⟨_, rfl, rfl, by kernel_rfl, ?_⟩
                      rintro D ⟨⟩ a z S F
                      refine ⟨by kernel_rfl, ?_⟩
                      exact op_load _ _ (some ⟨b7, 0, none⟩) 1 (.slice A5 x.edges.length c6) F rfl (by kernel_rfl) (by kernel_rfl) (cBox S 4 rfl (j := 1) rfl) (⟨(), rfl, (SameB.refl _ _ rfl), S⟩)
                    refine ⟨?_, ?_⟩
                    · refine ⟨_, rfl, rfl, by kernel_rfl, ?_⟩
                      rintro D ⟨⟩ a z S F
                      refine ⟨by kernel_rfl, ?_⟩
                      exact op_load _ _ (some ⟨b13, 0, none⟩) 1 (.slice m1.A2 m1.r.edges.length m1.c2) F rfl (by kernel_rfl) (by kernel_rfl) (cBox S 9 rfl (j := 1) rfl) (⟨(), rfl, (SameB.refl _ _ rfl), S⟩)
                    refine ⟨?_, ?_⟩
                    · refine ⟨_, rfl, rfl, by kernel_rfl, ?_⟩
                      rintro D ⟨⟩ a z S F
                      refine ⟨by kernel_rfl, ?_⟩
                      exact op_index _ 3 _ _ m1.A2 m1.r.edges.length m1.c2 k 1 .i64 F rfl (by kernel_rfl) (by kernel_rfl) (by kernel_rfl) (by kernel_rfl) (get_lt hek) (recs_some (bag_edges S 6 rfl hgm1.1 (by omega)) (m := k) (get_lt hek)) (⟨(), rfl, (SameB.refl _ _ rfl), S⟩)
                    refine ⟨?_, ?_⟩
                    · refine ⟨_, rfl, rfl, by kernel_rfl, ?_⟩
                      rintro D ⟨⟩ a z S F
                      refine ⟨by kernel_rfl, ?_⟩
                      exact op_load _ _ m1.A2 (k * 1) (.int .i64 (j : Nat)) F rfl (by kernel_rfl) (by kernel_rfl) (recs_cell iC_len_i64 (bag_edges S 6 rfl hgm1.1 (by omega)) 0 hek rfl) (⟨(), rfl, (SameB.refl _ _ rfl), S⟩)
                    refine ⟨?_, ?_⟩
                    · refine ⟨_, rfl, rfl, by kernel_rfl, ?_⟩
                      rintro D ⟨⟩ a z S F
                      refine ⟨by kernel_rfl, ?_⟩
                      exact op_index _ 62 _ _ A5 x.edges.length c6 j 8 .i64 F rfl (by kernel_rfl) (by kernel_rfl) (by kernel_rfl) (by kernel_rfl) (get_lt hed) (row_some S 3 rfl (m := j) (get_lt hed)) (⟨(), rfl, (SameB.refl _ _ rfl), S⟩)
                    refine ⟨?_, ?_⟩
                    · refine ⟨_, rfl, rfl, by kernel_rfl, ?_⟩
                      rintro D ⟨⟩ a z S F
                      refine ⟨by kernel_rfl, ?_⟩
                      exact op_loadK _ _ A5 (j * 8) [.int .i64 ed.a, .int .i64 ed.b, .int .u64 ed.c0, .int .u64 ed.c1, .int .u64 ed.b0, .int .u64 ed.r0, .int .u64 ed.b1, .int .u64 ed.r1] F rfl (by kernel_rfl) (by kernel_rfl) (by kernel_rfl) (by simp) (cRecK0 S 3 edC_len rfl hed (by kernel_rfl)) (⟨(), rfl, (SameB.refl _ _ rfl), S⟩)
                    refine ⟨?_, ?_⟩
                    · refine ⟨_, rfl, rfl, by kernel_rfl, ?_⟩
                      rintro D ⟨⟩ a z S F
                      refine ⟨by kernel_rfl, ?_⟩
                      refine op_fn F (by kernel_rfl) (side_at hs1 _) ?_
                      rintro e z ⟨rfl, hb⟩
                      have S := S.grow hb
                      exact ⟨_, rfl, (), rfl, (SameB.refl _ _ rfl), S⟩
                    trivial
                  · rintro ⟨⟩ a z F S
                    have F := F.sub (l := [(1, .int .i64 from_), (2, .int .i64 to), (3, .int .u64 am), (9, .pointer (some ⟨b7, 0, none⟩)), (12, .pointer (some ⟨b9, 0, none⟩)), (15, .pointer (some ⟨b13, 0, none⟩)), (16, .int .i64 (m1.r.edges.length : Nat)), (17, .map (some r14)), (18, .int .i64 (k : Nat)), (20, .int .i64 0), (62, .slice Al R2.length cl), (63, .int .i64 (R2.length : Nat)), (64, .int .i64 (i : Nat)), (142, .slice m1.A1 m1.r.nodes.length m1.c1), (143, .int .i64 (m1.r.nodes.length : Nat)), (144, .int .i64 (k : Nat))]) ⟨by kernel_rfl, by kernel_rfl, by kernel_rfl, by kernel_rfl, by kernel_rfl, by kernel_rfl, by kernel_rfl, by kernel_rfl, by kernel_rfl, by kernel_rfl, by kernel_rfl, by kernel_rfl, by kernel_rfl, by kernel_rfl, by kernel_rfl, by kernel_rfl, trivial⟩
                    have S : Sat w z [rest w (· < w.heap.size), box b1 25 [.slice As x.spots.length cs, .slice Ae x.edges.length ce], row 107 2 (.slice A3 x.spots.length c4) x.spots.length (x.spots.flatMap spC), row 62 8 (.slice A5 x.edges.length c6) x.edges.length (x.edges.flatMap edC), box b7 32 [.slice A3 x.spots.length c4, .slice A5 x.edges.length c6], row 47 3 (.slice Al R2.length cl) R2.length (R2.flatMap rtC), bag (R2.flatMap rtRows), bag (R3.flatMap rtRows), box b9 47 [.slice mb.A1 mb.r.nodes.length mb.c1, .slice mb.A2 mb.r.edges.length mb.c2, .slice mb.A3 mb.r.amts.length mb.c3], box b13 47 [.slice m1.A1 m1.r.nodes.length m1.c1, .slice m1.A2 m1.r.edges.length m1.c2, .slice m1.A3 m1.r.amts.length m1.c3], mapA r14 .i64 (putM es nk (.bool true) ck) (putC es nk ck)] := S
                    refine then_n ?_
                    refine wp_seq ?_
                    by_cases ht19 : (0 : Int) < ((k : Nat) : Int)
                    · skip
                      obtain ⟨ak0, hak0⟩ : ∃ ak0, m1.r.amts[k - 1]? = some ak0 := ⟨_, List.getElem?_eq_getElem (by omega)⟩
                      have hfall := hs.fall (k - 1) k ak0 ak (by omega) hak0 hak
                      refine region_gx (fun D => fun (_ : Unit) => [rest w (· < w.heap.size), box b1 25 [.slice As x.spots.length cs, .slice Ae x.edges.length ce], row 107 2 (.slice A3 x.spots.length c4) x.spots.length (x.spots.flatMap spC), row 62 8 (.slice A5 x.edges.length c6) x.edges.length (x.edges.flatMap edC), box b7 32 [.slice A3 x.spots.length c4, .slice A5 x.edges.length c6], row 47 3 (.slice Al R2.length cl) R2.length (R2.flatMap rtC), bag (R2.flatMap rtRows), bag (R3.flatMap rtRows), box b9 47 [.slice mb.A1 mb.r.nodes.length mb.c1, .slice mb.A2 mb.r.edges.length mb.c2, .slice mb.A3 mb.r.amts.length mb.c3], box b13 47 [.slice m1.A1 m1.r.nodes.length m1.c1, .slice m1.A2 m1.r.edges.length m1.c2, .slice m1.A3 m1.r.amts.length m1.c3], mapA r14 .i64 (putM es nk (.bool true) ck) (putC es nk ck)]) (fun (_ : Unit) => [.int .i64 0, .bool false, .bool false, .pointer (some ⟨b7, 1, none⟩), .slice A5 x.edges.length c6, .pointer (some ⟨b13, 1, none⟩), .slice m1.A2 m1.r.edges.length m1.c2, .int .i64 (k : Nat), ptrA m1.A2 (k * 1), .int .i64 (j : Nat), .int .i64 0, .int .i64 1, ptrA A5 (j * 8), ptrA A5 (j * 8), ptrA A5 (j * 8 + 1), .int .i64 ed.b, .pointer (some ⟨b13, 0, none⟩), .slice m1.A1 m1.r.nodes.length m1.c1, .int .i64 (k : Nat), .int .i64 (k + 1 : Nat), ptrA m1.A1 ((k + 1) * 1), .int .i64 nk1, .bool false, .bool false, .bool false, .pointer (some ⟨b7, 1, none⟩), .slice A5 x.edges.length c6, .pointer (some ⟨b13, 1, none⟩), .slice m1.A2 m1.r.edges.length m1.c2, .int .i64 (k : Nat), ptrA m1.A2 (k * 1), .int .i64 (j : Nat), .int .i64 0, ptrA A5 (j * 8), ptrA A5 (j * 8 + 2), ptrA A5 (j * 8 + 2), .int .u64 ed.c0, .pointer (some ⟨b13, 2, none⟩), .slice m1.A3 m1.r.amts.length m1.c3, .int .i64 (k : Nat), ptrA m1.A3 (k * 1), .int .u64 ak, .bool false, .bool false, .bool false, .int .i64 (k : Nat), .bool true, .bool true, .pointer (some ⟨b13, 2, none⟩), .slice m1.A3 m1.r.amts.length m1.c3, .int .i64 (k : Nat), ptrA m1.A3 (k * 1), .int .u64 ak, .pointer (some ⟨b13, 2, none⟩), .slice m1.A3 m1.r.amts.length m1.c3, .int .i64 (k : Nat), .int .i64 (k - 1 : Nat), ptrA m1.A3 ((k - 1) * 1), .int .u64 ak0, .bool false, .bool false, .bool false]) [(4, [], [12, 13, 14, 15, 22, 26, 28, 30, 31, 33, 34, 35, 36, 38, 40, 41, 42, 46, 49, 51, 52, 54, 56, 57, 58, 59]), (6, [], [8, 9, 12, 13, 14, 15, 22, 26, 28, 30, 31, 33, 34, 35, 36, 38, 40, 41, 42, 46, 49, 51, 52, 54, 56, 57, 58, 59]), (8, [6], [9, 12, 13, 14, 15, 22, 26, 28, 30, 31, 33, 34, 35, 36, 38, 40, 41, 42, 46, 49, 51, 52, 54, 56, 57, 58, 59]), (9, [6, 8], [12, 13, 14, 15, 22, 26, 28, 30, 31, 33, 34, 35, 36, 38, 40, 41, 42, 46, 49, 51, 52, 54, 56, 57, 58, 59]), (12, [4, 6, 8, 9], [13, 14, 15, 22, 26, 28, 30, 31, 33, 34, 35, 36, 38, 40, 41, 42, 46, 49, 51, 52, 54, 56, 57, 58, 59]), (13, [4, 6, 8, 9, 12], [14, 15, 22, 26, 28, 30, 31, 33, 34, 35, 36, 38, 40, 41, 42, 46, 49, 51, 52, 54, 56, 57, 58, 59]), (14, [4, 6, 8, 9, 12, 13], [15, 22, 26, 28, 30, 31, 33, 34, 35, 36, 38, 40, 41, 42, 46, 49, 51, 52, 54, 56, 57, 58, 59]), (15, [4, 6, 8, 9, 12, 13, 14], [22, 26, 28, 30, 31, 33, 34, 35, 36, 38, 40, 41, 42, 46, 49, 51, 52, 54, 56, 57, 58, 59]), (17, [], [20, 21, 22, 26, 28, 30, 31, 33, 34, 35, 36, 38, 40, 41, 42, 46, 49, 51, 52, 54, 56, 57, 58, 59]), (19, [], [20, 21, 22, 26, 28, 30, 31, 33, 34, 35, 36, 38, 40, 41, 42, 46, 49, 51, 52, 54, 56, 57, 58, 59]), (20, [17, 19], [21, 22, 26, 28, 30, 31, 33, 34, 35, 36, 38, 40, 41, 42, 46, 49, 51, 52, 54, 56, 57, 58, 59]), (21, [17, 19, 20], [22, 26, 28, 30, 31, 33, 34, 35, 36, 38, 40, 41, 42, 46, 49, 51, 52, 54, 56, 57, 58, 59]), (22, [4, 6, 8, 9, 12, 13, 14, 15, 17, 19, 20, 21], [26, 28, 30, 31, 33, 34, 35, 36, 38, 40, 41, 42, 46, 49, 51, 52, 54, 56, 57, 58, 59]), (26, [4, 6, 8, 9, 12, 13, 14, 15, 17, 19, 20, 21, 22], [33, 34, 35, 36, 42, 46, 49, 51, 52, 54, 56, 57, 58, 59]), (28, [4, 6, 8, 9, 12, 13, 14, 15, 17, 19, 20, 21, 22], [30, 31, 33, 34, 35, 36, 42, 46, 49, 51, 52, 54, 56, 57, 58, 59]), (30, [4, 6, 8, 9, 12, 13, 14, 15, 17, 19, 20, 21, 22, 28], [31, 33, 34, 35, 36, 42, 46, 49, 51, 52, 54, 56, 57, 58, 59]), (31, [4, 6, 8, 9, 12, 13, 14, 15, 17, 19, 20, 21, 22, 28, 30], [33, 34, 35, 36, 42, 46, 49, 51, 52, 54, 56, 57, 58, 59]), (33, [4, 6, 8, 9, 12, 13, 14, 15, 17, 19, 20, 21, 22, 26, 28, 30, 31], [34, 35, 36, 42, 46, 49, 51, 52, 54, 56, 57, 58, 59]), (34, [4, 6, 8, 9, 12, 13, 14, 15, 17, 19, 20, 21, 22, 26, 28, 30, 31, 33], [35, 36, 42, 46, 49, 51, 52, 54, 56, 57, 58, 59]), (35, [4, 6, 8, 9, 12, 13, 14, 15, 17, 19, 20, 21, 22, 26, 28, 30, 31, 33, 34], [36, 42, 46, 49, 51, 52, 54, 56, 57, 58, 59]), (36, [4, 6, 8, 9, 12, 13, 14, 15, 17, 19, 20, 21, 22, 26, 28, 30, 31, 33, 34, 35], [42, 46, 49, 51, 52, 54, 56, 57, 58, 59]), (38, [4, 6, 8, 9, 12, 13, 14, 15, 17, 19, 20, 21, 22], [40, 41, 42, 46, 49, 51, 52, 54, 56, 57, 58, 59]), (40, [4, 6, 8, 9, 12, 13, 14, 15, 17, 19, 20, 21, 22, 38], [41, 42, 46, 49, 51, 52, 54, 56, 57, 58, 59]), (41, [4, 6, 8, 9, 12, 13, 14, 15, 17, 19, 20, 21, 22, 38, 40], [42, 46, 49, 51, 52, 54, 56, 57, 58, 59]), (42, [4, 6, 8, 9, 12, 13, 14, 15, 17, 19, 20, 21, 22, 26, 28, 30, 31, 33, 34, 35, 36, 38, 40, 41], [46, 49, 51, 52, 54, 56, 57, 58, 59]), (46, [4, 6, 8, 9, 12, 13, 14, 15, 17, 19, 20, 21, 22, 26, 28, 30, 31, 33, 34, 35, 36, 38, 40, 41, 42], [49, 51, 52, 54, 56, 57, 58, 59]), (49, [4, 6, 8, 9, 12, 13, 14, 15, 17, 19, 20, 21, 22, 26, 28, 30, 31, 33, 34, 35, 36, 38, 40, 41, 42, 46], [51, 52, 59]), (51, [4, 6, 8, 9, 12, 13, 14, 15, 17, 19, 20, 21, 22, 26, 28, 30, 31, 33, 34, 35, 36, 38, 40, 41, 42, 46, 49], [52, 59]), (52, [4, 6, 8, 9, 12, 13, 14, 15, 17, 19, 20, 21, 22, 26, 28, 30, 31, 33, 34, 35, 36, 38, 40, 41, 42, 46, 49, 51], [59]), (54, [4, 6, 8, 9, 12, 13, 14, 15, 17, 19, 20, 21, 22, 26, 28, 30, 31, 33, 34, 35, 36, 38, 40, 41, 42, 46], [57, 58, 59]), (56, [4, 6, 8, 9, 12, 13, 14, 15, 17, 19, 20, 21, 22, 26, 28, 30, 31, 33, 34, 35, 36, 38, 40, 41, 42, 46], [57, 58, 59]), (57, [4, 6, 8, 9, 12, 13, 14, 15, 17, 19, 20, 21, 22, 26, 28, 30, 31, 33, 34, 35, 36, 38, 40, 41, 42, 46, 54, 56], [58, 59]), (58, [4, 6, 8, 9, 12, 13, 14, 15, 17, 19, 20, 21, 22, 26, 28, 30, 31, 33, 34, 35, 36, 38, 40, 41, 42, 46, 54, 56, 57], [59]), (59, [4, 6, 8, 9, 12, 13, 14, 15, 17, 19, 20, 21, 22, 26, 28, 30, 31, 33, 34, 35, 36, 38, 40, 41, 42, 46, 49, 51, 52, 54, 56, 57, 58], [])] () rfl (by kernel_rfl) (by kernel_rfl) F S.drew ?_ ?_ ?_ ?_ ?_
                      · rintro ⟨⟩; rfl
                      · rintro ⟨⟩; kernel_rfl
                      · intro D D' x h
                        cases x
                        rfl
                      · refine ⟨?_, ?_⟩
                        · refine ⟨_, rfl, rfl, by kernel_rfl, ?_⟩
                          rintro D ⟨⟩ a z S F
                          refine ⟨by kernel_rfl, ?_⟩
                          exact op_load _ _ (some ⟨b7, 0, none⟩) 1 (.slice A5 x.edges.length c6) F rfl (by kernel_rfl) (by kernel_rfl) (cBox S 4 rfl (j := 1) rfl) (⟨(), rfl, (SameB.refl _ _ rfl), S⟩)
                        refine ⟨?_, ?_⟩
                        · refine ⟨_, rfl, rfl, by kernel_rfl, ?_⟩
                          rintro D ⟨⟩ a z S F
                          refine ⟨by kernel_rfl, ?_⟩
                          exact op_load _ _ (some ⟨b13, 0, none⟩) 1 (.slice m1.A2 m1.r.edges.length m1.c2) F rfl (by kernel_rfl) (by kernel_rfl) (cBox S 9 rfl (j := 1) rfl) (⟨(), rfl, (SameB.refl _ _ rfl), S⟩)
                        refine ⟨?_, ?_⟩
                        · refine ⟨_, rfl, rfl, by kernel_rfl, ?_⟩
                          rintro D ⟨⟩ a z S F
                          refine ⟨by kernel_rfl, ?_⟩
                          exact op_index _ 3 _ _ m1.A2 m1.r.edges.length m1.c2 k 1 .i64 F rfl (by kernel_rfl) (by kernel_rfl) (by kernel_rfl) (by kernel_rfl) (get_lt hek) (recs_some (bag_edges S 6 rfl hgm1.1 (by omega)) (m := k) (get_lt hek)) (⟨(), rfl, (SameB.refl _ _ rfl), S⟩)
                        refine ⟨?_, ?_⟩
                        · refine ⟨_, rfl, rfl, by kernel_rfl, ?_⟩
                          rintro D ⟨⟩ a z S F
                          refine ⟨by kernel_rfl, ?_⟩
                          exact op_load _ _ m1.A2 (k * 1) (.int .i64 (j : Nat)) F rfl (by kernel_rfl) (by kernel_rfl) (recs_cell iC_len_i64 (bag_edges S 6 rfl hgm1.1 (by omega)) 0 hek rfl) (⟨(), rfl, (SameB.refl _ _ rfl), S⟩)
                        refine ⟨?_, ?_⟩
                        · refine ⟨_, rfl, rfl, by kernel_rfl, ?_⟩
                          rintro D ⟨⟩ a z S F
                          refine ⟨by kernel_rfl, ?_⟩
                          exact op_index _ 62 _ _ A5 x.edges.length c6 j 8 .i64 F rfl (by kernel_rfl) (by kernel_rfl) (by kernel_rfl) (by kernel_rfl) (get_lt hed) (row_some S 3 rfl (m := j) (get_lt hed)) (⟨(), rfl, (SameB.refl _ _ rfl), S⟩)
                        refine ⟨?_, ?_⟩
                        · refine ⟨_, rfl, rfl, by kernel_rfl, ?_⟩
                          rintro D ⟨⟩ a z S F
                          refine ⟨by kernel_rfl, ?_⟩
                          exact op_field _ _ _ A5 (j * 8) 0 F rfl (by kernel_rfl) (by kernel_rfl) (row_some S 3 rfl (m := j) (get_lt hed)) (⟨(), rfl, (SameB.refl _ _ rfl), S⟩)
                        refine ⟨?_, ?_⟩
                        · refine ⟨_, rfl, rfl, by kernel_rfl, ?_⟩
                          rintro D ⟨⟩ a z S F
                          refine ⟨by kernel_rfl, ?_⟩
                          exact op_indexArr _ 3 _ _ A5 (j * 8) 2 1 1 .i64 F rfl (by kernel_rfl) (by kernel_rfl) (by kernel_rfl) (by kernel_rfl) (by decide) (row_some S 3 rfl (m := j) (get_lt hed)) (⟨(), rfl, (SameB.refl _ _ rfl), S⟩)
                        refine ⟨?_, ?_⟩
                        · refine ⟨_, rfl, rfl, by kernel_rfl, ?_⟩
                          rintro D ⟨⟩ a z S F
                          refine ⟨by kernel_rfl, ?_⟩
                          exact op_load _ _ A5 (j * 8 + 1) (.int .i64 ed.b) F rfl (by kernel_rfl) (by kernel_rfl) (cRec S 3 edC_len rfl 1 hed rfl) (⟨(), rfl, (SameB.refl _ _ rfl), S⟩)
                        refine ⟨?_, ?_⟩
                        · refine ⟨_, rfl, rfl, by kernel_rfl, ?_⟩
                          rintro D ⟨⟩ a z S F
                          refine ⟨by kernel_rfl, ?_⟩
                          exact op_load _ _ (some ⟨b13, 0, none⟩) 0 (.slice m1.A1 m1.r.nodes.length m1.c1) F rfl (by kernel_rfl) (by kernel_rfl) (cBox S 9 rfl (j := 0) rfl) (⟨(), rfl, (SameB.refl _ _ rfl), S⟩)
                        refine ⟨?_, ?_⟩
                        · refine ⟨_, rfl, rfl, by kernel_rfl, ?_⟩
                          rintro D ⟨⟩ a z S F
                          refine ⟨by kernel_rfl, ?_⟩
                          exact op_pure F (v0 := .int .i64 (IntKind.wrap .i64 ((k : Nat) + 1))) (v := .int .i64 (k + 1 : Nat)) (by kernel_rfl) (wrn_i64 (by omega) (by omega) (by omega)) ⟨(), rfl, (SameB.refl _ _ rfl), S⟩
                        refine ⟨?_, ?_⟩
                        · refine ⟨_, rfl, rfl, by kernel_rfl, ?_⟩
                          rintro D ⟨⟩ a z S F
                          refine ⟨by kernel_rfl, ?_⟩
                          exact op_index _ 3 _ _ m1.A1 m1.r.nodes.length m1.c1 (k + 1) 1 .i64 F rfl (by kernel_rfl) (by kernel_rfl) (by kernel_rfl) (by kernel_rfl) (get_lt hnk1) (recs_some (bag_nodes S 6 rfl hgm1.1 (by omega)) (m := k + 1) (get_lt hnk1)) (⟨(), rfl, (SameB.refl _ _ rfl), S⟩)
                        refine ⟨?_, ?_⟩
                        · refine ⟨_, rfl, rfl, by kernel_rfl, ?_⟩
                          rintro D ⟨⟩ a z S F
                          refine ⟨by kernel_rfl, ?_⟩
                          exact op_load _ _ m1.A1 ((k + 1) * 1) (.int .i64 nk1) F rfl (by kernel_rfl) (by kernel_rfl) (recs_cell iC_len_i64 (bag_nodes S 6 rfl hgm1.1 (by omega)) 0 hnk1 rfl) (⟨(), rfl, (SameB.refl _ _ rfl), S⟩)
                        refine ⟨?_, ?_⟩
                        · refine ⟨_, rfl, rfl, by kernel_rfl, ?_⟩
                          rintro D ⟨⟩ a z S F
                          refine ⟨by kernel_rfl, ?_⟩
                          exact op_pure F (v0 := .bool ((ed.b : Int) != (nk1 : Int))) (v := .bool false) (by kernel_rfl) (neqF hb1) ⟨(), rfl, (SameB.refl _ _ rfl), S⟩
                        refine ⟨?_, ?_⟩
                        · refine ⟨_, rfl, rfl, by kernel_rfl, ?_⟩
                          rintro D ⟨⟩ a z S F
                          refine ⟨by kernel_rfl, ?_⟩
                          exact op_load _ _ (some ⟨b7, 0, none⟩) 1 (.slice A5 x.edges.length c6) F rfl (by kernel_rfl) (by kernel_rfl) (cBox S 4 rfl (j := 1) rfl) (⟨(), rfl, (SameB.refl _ _ rfl), S⟩)
                        refine ⟨?_, ?_⟩
                        · refine ⟨_, rfl, rfl, by kernel_rfl, ?_⟩
                          rintro D ⟨⟩ a z S F
                          refine ⟨by kernel_rfl, ?_⟩
                          exact op_load _ _ (some ⟨b13, 0, none⟩) 1 (.slice m1.A2 m1.r.edges.length m1.c2) F rfl (by kernel_rfl) (by kernel_rfl) (cBox S 9 rfl (j := 1) rfl) (⟨(), rfl, (SameB.refl _ _ rfl), S⟩)
                        refine ⟨?_, ?_⟩
                        · refine ⟨_, rfl, rfl, by kernel_rfl, ?_⟩
                          rintro D ⟨⟩ a z S F
                          refine ⟨by kernel_rfl, ?_⟩
                          exact op_index _ 3 _ _ m1.A2 m1.r.edges.length m1.c2 k 1 .i64 F rfl (by kernel_rfl) (by kernel_rfl) (by kernel_rfl) (by kernel_rfl) (get_lt hek) (recs_some (bag_edges S 6 rfl hgm1.1 (by omega)) (m := k) (get_lt hek)) (⟨(), rfl, (SameB.refl _ _ rfl), S⟩)
                        refine ⟨?_, ?_⟩
                        · refine ⟨_, rfl, rfl, by kernel_rfl, ?_⟩
                          rintro D ⟨⟩ a z S F
                          refine ⟨by kernel_rfl, ?_⟩
                          exact op_load _ _ m1.A2 (k * 1) (.int .i64 (j : Nat)) F rfl (by kernel_rfl) (by kernel_rfl) (recs_cell iC_len_i64 (bag_edges S 6 rfl hgm1.1 (by omega)) 0 hek rfl) (⟨(), rfl, (SameB.refl _ _ rfl), S⟩)
                        refine ⟨?_, ?_⟩
                        · refine ⟨_, rfl, rfl, by kernel_rfl, ?_⟩
                          rintro D ⟨⟩ a z S F
                          refine ⟨by kernel_rfl, ?_⟩
                          exact op_index _ 62 _ _ A5 x.edges.length c6 j 8 .i64 F rfl (by kernel_rfl) (by kernel_rfl) (by kernel_rfl) (by kernel_rfl) (get_lt hed) (row_some S 3 rfl (m := j) (get_lt hed)) (⟨(), rfl, (SameB.refl _ _ rfl), S⟩)
                        refine ⟨?_, ?_⟩
                        · refine ⟨_, rfl, rfl, by kernel_rfl, ?_⟩
                          rintro D ⟨⟩ a z S F
                          refine ⟨by kernel_rfl, ?_⟩
                          exact op_field _ _ _ A5 (j * 8) 2 F rfl (by kernel_rfl) (by kernel_rfl) (row_some S 3 rfl (m := j) (get_lt hed)) (⟨(), rfl, (SameB.refl _ _ rfl), S⟩)
                        refine ⟨?_, ?_⟩
                        · refine ⟨_, rfl, rfl, by kernel_rfl, ?_⟩
                          rintro D ⟨⟩ a z S F
                          refine ⟨by kernel_rfl, ?_⟩
                          exact op_indexArr _ 26 _ _ A5 (j * 8 + 2) 2 0 1 .i64 F rfl (by kernel_rfl) (by kernel_rfl) (by kernel_rfl) (by kernel_rfl) (by decide) (row_some S 3 rfl (m := j) (get_lt hed)) (⟨(), rfl, (SameB.refl _ _ rfl), S⟩)
                        refine ⟨?_, ?_⟩
                        · refine ⟨_, rfl, rfl, by kernel_rfl, ?_⟩
                          rintro D ⟨⟩ a z S F
                          refine ⟨by kernel_rfl, ?_⟩
                          exact op_load _ _ A5 (j * 8 + 2) (.int .u64 ed.c0) F rfl (by kernel_rfl) (by kernel_rfl) (cRec S 3 edC_len rfl 2 hed rfl) (⟨(), rfl, (SameB.refl _ _ rfl), S⟩)
                        refine ⟨?_, ?_⟩
                        · refine ⟨_, rfl, rfl, by kernel_rfl, ?_⟩
                          rintro D ⟨⟩ a z S F
                          refine ⟨by kernel_rfl, ?_⟩
                          exact op_load _ _ (some ⟨b13, 0, none⟩) 2 (.slice m1.A3 m1.r.amts.length m1.c3) F rfl (by kernel_rfl) (by kernel_rfl) (cBox S 9 rfl (j := 2) rfl) (⟨(), rfl, (SameB.refl _ _ rfl), S⟩)
                        refine ⟨?_, ?_⟩
                        · refine ⟨_, rfl, rfl, by kernel_rfl, ?_⟩
                          rintro D ⟨⟩ a z S F
                          refine ⟨by kernel_rfl, ?_⟩
                          exact op_index _ 26 _ _ m1.A3 m1.r.amts.length m1.c3 k 1 .i64 F rfl (by kernel_rfl) (by kernel_rfl) (by kernel_rfl) (by kernel_rfl) (get_lt hak) (recs_some (bag_amts S 6 rfl hgm1.1 (by omega)) (m := k) (get_lt hak)) (⟨(), rfl, (SameB.refl _ _ rfl), S⟩)
                        refine ⟨?_, ?_⟩
                        · refine ⟨_, rfl, rfl, by kernel_rfl, ?_⟩
                          rintro D ⟨⟩ a z S F
                          refine ⟨by kernel_rfl, ?_⟩
                          exact op_load _ _ m1.A3 (k * 1) (.int .u64 ak) F rfl (by kernel_rfl) (by kernel_rfl) (recs_cell iC_len_u64 (bag_amts S 6 rfl hgm1.1 (by omega)) 0 hak rfl) (⟨(), rfl, (SameB.refl _ _ rfl), S⟩)
                        refine ⟨?_, ?_⟩
                        · refine ⟨_, rfl, rfl, by kernel_rfl, ?_⟩
                          rintro D ⟨⟩ a z S F
                          refine ⟨by kernel_rfl, ?_⟩
                          exact op_pure F (v0 := .bool (decide ((ed.c0 : Int) < (ak : Int)))) (v := .bool false) (by kernel_rfl) (lssF (Int.not_lt.2 hcan)) ⟨(), rfl, (SameB.refl _ _ rfl), S⟩
                        refine ⟨?_, ?_⟩
                        · refine ⟨_, rfl, rfl, by kernel_rfl, ?_⟩
                          rintro D ⟨⟩ a z S F
                          refine ⟨by kernel_rfl, ?_⟩
                          exact op_pure F (v0 := .bool (decide (((k : Nat) : Int) > (0 : Int)))) (v := .bool true) (by kernel_rfl) (gtrT ht19) ⟨(), rfl, (SameB.refl _ _ rfl), S⟩
                        refine ⟨?_, ?_⟩
                        · refine ⟨_, rfl, rfl, by kernel_rfl, ?_⟩
                          rintro D ⟨⟩ a z S F
                          refine ⟨by kernel_rfl, ?_⟩
                          exact op_load _ _ (some ⟨b13, 0, none⟩) 2 (.slice m1.A3 m1.r.amts.length m1.c3) F rfl (by kernel_rfl) (by kernel_rfl) (cBox S 9 rfl (j := 2) rfl) (⟨(), rfl, (SameB.refl _ _ rfl), S⟩)
                        refine ⟨?_, ?_⟩
                        · refine ⟨_, rfl, rfl, by kernel_rfl, ?_⟩
                          rintro D ⟨⟩ a z S F
                          refine ⟨by kernel_rfl, ?_⟩
                          exact op_index _ 26 _ _ m1.A3 m1.r.amts.length m1.c3 k 1 .i64 F rfl (by kernel_rfl) (by kernel_rfl) (by kernel_rfl) (by kernel_rfl) (get_lt hak) (recs_some (bag_amts S 6 rfl hgm1.1 (by omega)) (m := k) (get_lt hak)) (⟨(), rfl, (SameB.refl _ _ rfl), S⟩)
                        refine ⟨?_, ?_⟩
                        · refine ⟨_, rfl, rfl, by kernel_rfl, ?_⟩
                          rintro D ⟨⟩ a z S F
                          refine ⟨by kernel_rfl, ?_⟩
                          exact op_load _ _ m1.A3 (k * 1) (.int .u64 ak) F rfl (by kernel_rfl) (by kernel_rfl) (recs_cell iC_len_u64 (bag_amts S 6 rfl hgm1.1 (by omega)) 0 hak rfl) (⟨(), rfl, (SameB.refl _ _ rfl), S⟩)
                        refine ⟨?_, ?_⟩
                        · refine ⟨_, rfl, rfl, by kernel_rfl, ?_⟩
                          rintro D ⟨⟩ a z S F
                          refine ⟨by kernel_rfl, ?_⟩
                          exact op_load _ _ (some ⟨b13, 0, none⟩) 2 (.slice m1.A3 m1.r.amts.length m1.c3) F rfl (by kernel_rfl) (by kernel_rfl) (cBox S 9 rfl (j := 2) rfl) (⟨(), rfl, (SameB.refl _ _ rfl), S⟩)
                        refine ⟨?_, ?_⟩
                        · refine ⟨_, rfl, rfl, by kernel_rfl, ?_⟩
                          rintro D ⟨⟩ a z S F
                          refine ⟨by kernel_rfl, ?_⟩
                          exact op_pure F (v0 := .int .i64 (IntKind.wrap .i64 ((k : Nat) - 1))) (v := .int .i64 (k - 1 : Nat)) (by kernel_rfl) (wrn_i64 (by omega) (by omega) (by omega)) ⟨(), rfl, (SameB.refl _ _ rfl), S⟩
                        refine ⟨?_, ?_⟩
                        · refine ⟨_, rfl, rfl, by kernel_rfl, ?_⟩
                          rintro D ⟨⟩ a z S F
                          refine ⟨by kernel_rfl, ?_⟩
                          exact op_index _ 26 _ _ m1.A3 m1.r.amts.length m1.c3 (k - 1) 1 .i64 F rfl (by kernel_rfl) (by kernel_rfl) (by kernel_rfl) (by kernel_rfl) (get_lt hak0) (recs_some (bag_amts S 6 rfl hgm1.1 (by omega)) (m := k - 1) (get_lt hak0)) (⟨(), rfl, (SameB.refl _ _ rfl), S⟩)
                        refine ⟨?_, ?_⟩
                        · refine ⟨_, rfl, rfl, by kernel_rfl, ?_⟩
                          rintro D ⟨⟩ a z S F
                          refine ⟨by kernel_rfl, ?_⟩
                          exact op_load _ _ m1.A3 ((k - 1) * 1) (.int .u64 ak0) F rfl (by kernel_rfl) (by kernel_rfl) (recs_cell iC_len_u64 (bag_amts S 6 rfl hgm1.1 (by omega)) 0 hak0 rfl) (⟨(), rfl, (SameB.refl _ _ rfl), S⟩)
                        refine ⟨?_, ?_⟩
                        · refine ⟨_, rfl, rfl, by kernel_rfl, ?_⟩
                          rintro D ⟨⟩ a z S F
                          refine ⟨by kernel_rfl, ?_⟩
                          exact op_pure F (v0 := .bool (decide ((ak : Int) > (ak0 : Int)))) (v := .bool false) (by kernel_rfl) (gtrF (Int.not_lt.2 hfall)) ⟨(), rfl, (SameB.refl _ _ rfl), S⟩
                        trivial
                      · rintro ⟨⟩ a z F S
                        have F := F.sub (l := [(1, .int .i64 from_), (2, .int .i64 to), (3, .int .u64 am), (9, .pointer (some ⟨b7, 0, none⟩)), (12, .pointer (some ⟨b9, 0, none⟩)), (15, .pointer (some ⟨b13, 0, none⟩)), (16, .int .i64 (m1.r.edges.length : Nat)), (17, .map (some r14)), (62, .slice Al R2.length cl), (63, .int .i64 (R2.length : Nat)), (64, .int .i64 (i : Nat)), (142, .slice m1.A1 m1.r.nodes.length m1.c1), (143, .int .i64 (m1.r.nodes.length : Nat)), (144, .int .i64 (k : Nat)), (229, .bool false)]) ⟨by kernel_rfl, by kernel_rfl, by kernel_rfl, by kernel_rfl, by kernel_rfl, by kernel_rfl, by kernel_rfl, by kernel_rfl, by kernel_rfl, by kernel_rfl, by kernel_rfl, by kernel_rfl, by kernel_rfl, by kernel_rfl, by kernel_rfl, trivial⟩
                        have S : Sat w z [rest w (· < w.heap.size), box b1 25 [.slice As x.spots.length cs, .slice Ae x.edges.length ce], row 107 2 (.slice A3 x.spots.length c4) x.spots.length (x.spots.flatMap spC), row 62 8 (.slice A5 x.edges.length c6) x.edges.length (x.edges.flatMap edC), box b7 32 [.slice A3 x.spots.length c4, .slice A5 x.edges.length c6], row 47 3 (.slice Al R2.length cl) R2.length (R2.flatMap rtC), bag (R2.flatMap rtRows), bag (R3.flatMap rtRows), box b9 47 [.slice mb.A1 mb.r.nodes.length mb.c1, .slice mb.A2 mb.r.edges.length mb.c2, .slice mb.A3 mb.r.amts.length mb.c3], box b13 47 [.slice m1.A1 m1.r.nodes.length m1.c1, .slice m1.A2 m1.r.edges.length m1.c2, .slice m1.A3 m1.r.amts.length m1.c3], mapA r14 .i64 (putM es nk (.bool true) ck) (putC es nk ck)] := S
                        refine then_n ?_
                        refine c_f F rfl ?_
                        refine wp_skip ?_
                        refine inb_n ?_
                        refine then_n ?_
                        refine wp_region_list ?_
                        refine l_do F rfl rfl (op_pure F (v0 := .int .i64 (IntKind.wrap .i64 ((k : Nat) + 1))) (v := .int .i64 (k + 1 : Nat)) (by kernel_rfl) (wrn_i64 (by omega) (by omega) (by omega)) fun a F => ?_)
                        refine l_pure 1 (fun L => (144, .int .i64 (k + 1 : Nat)) :: L) F (by kernel_rfl) fun a F => ?_
                        refine l_then ?_
                        exact ⟨_, (by omega), k + 1, putM es nk (.bool true) ck, putC es nk ck, rfl, (by omega), (seen_put hnk hseen), F.sub ⟨by kernel_rfl, by kernel_rfl, by kernel_rfl, by kernel_rfl, by kernel_rfl, by kernel_rfl, by kernel_rfl, by kernel_rfl, by kernel_rfl, by kernel_rfl, by kernel_rfl, by kernel_rfl, by kernel_rfl, by kernel_rfl, trivial⟩, S⟩
                    · skip
                      refine region_gx (fun D => fun (_ : Unit) => [rest w (· < w.heap.size), box b1 25 [.slice As x.spots.length cs, .slice Ae x.edges.length ce], row 107 2 (.slice A3 x.spots.length c4) x.spots.length (x.spots.flatMap spC), row 62 8 (.slice A5 x.edges.length c6) x.edges.length (x.edges.flatMap edC), box b7 32 [.slice A3 x.spots.length c4, .slice A5 x.edges.length c6], row 47 3 (.slice Al R2.length cl) R2.length (R2.flatMap rtC), bag (R2.flatMap rtRows), bag (R3.flatMap rtRows), box b9 47 [.slice mb.A1 mb.r.nodes.length mb.c1, .slice mb.A2 mb.r.edges.length mb.c2, .slice mb.A3 mb.r.amts.length mb.c3], box b13 47 [.slice m1.A1 m1.r.nodes.length m1.c1, .slice m1.A2 m1.r.edges.length m1.c2, .slice m1.A3 m1.r.amts.length m1.c3], mapA r14 .i64 (putM es nk (.bool true) ck) (putC es nk ck)]) (fun (_ : Unit) => [.int .i64 0, .bool false, .bool false, .pointer (some ⟨b7, 1, none⟩), .slice A5 x.edges.length c6, .pointer (some ⟨b13, 1, none⟩), .slice m1.A2 m1.r.edges.length m1.c2, .int .i64 (k : Nat), ptrA m1.A2 (k * 1), .int .i64 (j : Nat), .int .i64 0, .int .i64 1, ptrA A5 (j * 8), ptrA A5 (j * 8), ptrA A5 (j * 8 + 1), .int .i64 ed.b, .pointer (some ⟨b13, 0, none⟩), .slice m1.A1 m1.r.nodes.length m1.c1, .int .i64 (k : Nat), .int .i64 (k + 1 : Nat), ptrA m1.A1 ((k + 1) * 1), .int .i64 nk1, .bool false, .bool false, .bool false, .pointer (some ⟨b7, 1, none⟩), .slice A5 x.edges.length c6, .pointer (some ⟨b13, 1, none⟩), .slice m1.A2 m1.r.edges.length m1.c2, .int .i64 (k : Nat), ptrA m1.A2 (k * 1), .int .i64 (j : Nat), .int .i64 0, ptrA A5 (j * 8), ptrA A5 (j * 8 + 2), ptrA A5 (j * 8 + 2), .int .u64 ed.c0, .pointer (some ⟨b13, 2, none⟩), .slice m1.A3 m1.r.amts.length m1.c3, .int .i64 (k : Nat), ptrA m1.A3 (k * 1), .int .u64 ak, .bool false, .bool false, .bool false, .int .i64 (k : Nat), .bool false, .bool false, undef, undef, undef, undef, undef, undef, undef, undef, undef, undef, undef, undef, .bool false, .bool false]) [(4, [], [12, 13, 14, 15, 22, 26, 28, 30, 31, 33, 34, 35, 36, 38, 40, 41, 42, 46]), (6, [], [8, 9, 12, 13, 14, 15, 22, 26, 28, 30, 31, 33, 34, 35, 36, 38, 40, 41, 42, 46]), (8, [6], [9, 12, 13, 14, 15, 22, 26, 28, 30, 31, 33, 34, 35, 36, 38, 40, 41, 42, 46]), (9, [6, 8], [12, 13, 14, 15, 22, 26, 28, 30, 31, 33, 34, 35, 36, 38, 40, 41, 42, 46]), (12, [4, 6, 8, 9], [13, 14, 15, 22, 26, 28, 30, 31, 33, 34, 35, 36, 38, 40, 41, 42, 46]), (13, [4, 6, 8, 9, 12], [14, 15, 22, 26, 28, 30, 31, 33, 34, 35, 36, 38, 40, 41, 42, 46]), (14, [4, 6, 8, 9, 12, 13], [15, 22, 26, 28, 30, 31, 33, 34, 35, 36, 38, 40, 41, 42, 46]), (15, [4, 6, 8, 9, 12, 13, 14], [22, 26, 28, 30, 31, 33, 34, 35, 36, 38, 40, 41, 42, 46]), (17, [], [20, 21, 22, 26, 28, 30, 31, 33, 34, 35, 36, 38, 40, 41, 42, 46]), (19, [], [20, 21, 22, 26, 28, 30, 31, 33, 34, 35, 36, 38, 40, 41, 42, 46]), (20, [17, 19], [21, 22, 26, 28, 30, 31, 33, 34, 35, 36, 38, 40, 41, 42, 46]), (21, [17, 19, 20], [22, 26, 28, 30, 31, 33, 34, 35, 36, 38, 40, 41, 42, 46]), (22, [4, 6, 8, 9, 12, 13, 14, 15, 17, 19, 20, 21], [26, 28, 30, 31, 33, 34, 35, 36, 38, 40, 41, 42, 46]), (26, [4, 6, 8, 9, 12, 13, 14, 15, 17, 19, 20, 21, 22], [33, 34, 35, 36, 42, 46]), (28, [4, 6, 8, 9, 12, 13, 14, 15, 17, 19, 20, 21, 22], [30, 31, 33, 34, 35, 36, 42, 46]), (30, [4, 6, 8, 9, 12, 13, 14, 15, 17, 19, 20, 21, 22, 28], [31, 33, 34, 35, 36, 42, 46]), (31, [4, 6, 8, 9, 12, 13, 14, 15, 17, 19, 20, 21, 22, 28, 30], [33, 34, 35, 36, 42, 46]), (33, [4, 6, 8, 9, 12, 13, 14, 15, 17, 19, 20, 21, 22, 26, 28, 30, 31], [34, 35, 36, 42, 46]), (34, [4, 6, 8, 9, 12, 13, 14, 15, 17, 19, 20, 21, 22, 26, 28, 30, 31, 33], [35, 36, 42, 46]), (35, [4, 6, 8, 9, 12, 13, 14, 15, 17, 19, 20, 21, 22, 26, 28, 30, 31, 33, 34], [36, 42, 46]), (36, [4, 6, 8, 9, 12, 13, 14, 15, 17, 19, 20, 21, 22, 26, 28, 30, 31, 33, 34, 35], [42, 46]), (38, [4, 6, 8, 9, 12, 13, 14, 15, 17, 19, 20, 21, 22], [40, 41, 42, 46]), (40, [4, 6, 8, 9, 12, 13, 14, 15, 17, 19, 20, 21, 22, 38], [41, 42, 46]), (41, [4, 6, 8, 9, 12, 13, 14, 15, 17, 19, 20, 21, 22, 38, 40], [42, 46]), (42, [4, 6, 8, 9, 12, 13, 14, 15, 17, 19, 20, 21, 22, 26, 28, 30, 31, 33, 34, 35, 36, 38, 40, 41], [46]), (46, [4, 6, 8, 9, 12, 13, 14, 15, 17, 19, 20, 21, 22, 26, 28, 30, 31, 33, 34, 35, 36, 38, 40, 41, 42], [])] () rfl (by kernel_rfl) (by kernel_rfl) F S.drew ?_ ?_ ?_ ?_ ?_
                      · rintro ⟨⟩; rfl
                      · rintro ⟨⟩; kernel_rfl
                      · intro D D' x h
                        cases x
                        rfl
                      · refine ⟨?_, ?_⟩
                        · refine ⟨_, rfl, rfl, by kernel_rfl, ?_⟩
                          rintro D ⟨⟩ a z S F
                          refine ⟨by kernel_rfl, ?_⟩
                          exact op_load _ _ (some ⟨b7, 0, none⟩) 1 (.slice A5 x.edges.length c6) F rfl (by kernel_rfl) (by kernel_rfl) (cBox S 4 rfl (j := 1) rfl) (⟨(), rfl, (SameB.refl _ _ rfl), S⟩)
                        refine ⟨?_, ?_⟩
                        · refine ⟨_, rfl, rfl, by kernel_rfl, ?_⟩
                          rintro D ⟨⟩ a z S F
                          refine ⟨by kernel_rfl, ?_⟩
                          exact op_load _ _ (some ⟨b13, 0, none⟩) 1 (.slice m1.A2 m1.r.edges.length m1.c2) F rfl (by kernel_rfl) (by kernel_rfl) (cBox S 9 rfl (j := 1) rfl) (⟨(), rfl, (SameB.refl _ _ rfl), S⟩)
                        refine ⟨?_, ?_⟩
                        · refine ⟨_, rfl, rfl, by kernel_rfl, ?_⟩
                          rintro D ⟨⟩ a z S F
                          refine ⟨by kernel_rfl, ?_⟩
                          exact op_index _ 3 _ _ m1.A2 m1.r.edges.length m1.c2 k 1 .i64 F rfl (by kernel_rfl) (by kernel_rfl) (by kernel_rfl) (by kernel_rfl) (get_lt hek) (recs_some (bag_edges S 6 rfl hgm1.1 (by omega)) (m := k) (get_lt hek)) (⟨(), rfl, (SameB.refl _ _ rfl), S⟩)
                        refine ⟨?_, ?_⟩
                        · refine ⟨_, rfl, rfl, by kernel_rfl, ?_⟩
                          rintro D ⟨⟩ a z S F
                          refine ⟨by kernel_rfl, ?_⟩
                          exact op_load _ _ m1.A2 (k * 1) (.int .i64 (j : Nat)) F rfl (by kernel_rfl) (by kernel_rfl) (recs_cell iC_len_i64 (bag_edges S 6 rfl hgm1.1 (by omega)) 0 hek rfl) (⟨(), rfl, (SameB.refl _ _ rfl), S⟩)
                        refine ⟨?_, ?_⟩
                        · refine ⟨_, rfl, rfl, by kernel_rfl, ?_⟩
                          rintro D ⟨⟩ a z S F
                          refine ⟨by kernel_rfl, ?_⟩
                          exact op_index _ 62 _ _ A5 x.edges.length c6 j 8 .i64 F rfl (by kernel_rfl) (by kernel_rfl) (by kernel_rfl) (by kernel_rfl) (get_lt hed) (row_some S 3 rfl (m := j) (get_lt hed)) (⟨(), rfl, (SameB.refl _ _ rfl), S⟩)
                        refine ⟨?_, ?_⟩
                        · refine ⟨_, rfl, rfl, by kernel_rfl, ?_⟩
                          rintro D ⟨⟩ a z S F
                          refine ⟨by kernel_rfl, ?_⟩
                          exact op_field _ _ _ A5 (j * 8) 0 F rfl (by kernel_rfl) (by kernel_rfl) (row_some S 3 rfl (m := j) (get_lt hed)) (⟨(), rfl, (SameB.refl _ _ rfl), S⟩)
                        refine ⟨?_, ?_⟩
                        · refine ⟨_, rfl, rfl, by kernel_rfl, ?_⟩
                          rintro D ⟨⟩ a z S F
                          refine ⟨by kernel_rfl, ?_⟩
                          exact op_indexArr _ 3 _ _ A5 (j * 8) 2 1 1 .i64 F rfl (by kernel_rfl) (by kernel_rfl) (by kernel_rfl) (by kernel_rfl) (by decide) (row_some S 3 rfl (m := j) (get_lt hed)) (⟨(), rfl, (SameB.refl _ _ rfl), S⟩)
                        refine ⟨?_, ?_⟩
                        · refine ⟨_, rfl, rfl, by kernel_rfl, ?_⟩
                          rintro D ⟨⟩ a z S F
                          refine ⟨by kernel_rfl, ?_⟩
                          exact op_load _ _ A5 (j * 8 + 1) (.int .i64 ed.b) F rfl (by kernel_rfl) (by kernel_rfl) (cRec S 3 edC_len rfl 1 hed rfl) (⟨(), rfl, (SameB.refl _ _ rfl), S⟩)
                        refine ⟨?_, ?_⟩
                        · refine ⟨_, rfl, rfl, by kernel_rfl, ?_⟩
                          rintro D ⟨⟩ a z S F
                          refine ⟨by kernel_rfl, ?_⟩
                          exact op_load _ _ (some ⟨b13, 0, none⟩) 0 (.slice m1.A1 m1.r.nodes.length m1.c1) F rfl (by kernel_rfl) (by kernel_rfl) (cBox S 9 rfl (j := 0) rfl) (⟨(), rfl, (SameB.refl _ _ rfl), S⟩)
                        refine ⟨?_, ?_⟩
                        · refine ⟨_, rfl, rfl, by kernel_rfl, ?_⟩
                          rintro D ⟨⟩ a z S F
                          refine ⟨by kernel_rfl, ?_⟩
                          exact op_pure F (v0 := .int .i64 (IntKind.wrap .i64 ((k : Nat) + 1))) (v := .int .i64 (k + 1 : Nat)) (by kernel_rfl) (wrn_i64 (by omega) (by omega) (by omega)) ⟨(), rfl, (SameB.refl _ _ rfl), S⟩
                        refine ⟨?_, ?_⟩
                        · refine ⟨_, rfl, rfl, by kernel_rfl, ?_⟩
                          rintro D ⟨⟩ a z S F
                          refine ⟨by kernel_rfl, ?_⟩
                          exact op_index _ 3 _ _ m1.A1 m1.r.nodes.length m1.c1 (k + 1) 1 .i64 F rfl (by kernel_rfl) (by kernel_rfl) (by kernel_rfl) (by kernel_rfl) (get_lt hnk1) (recs_some (bag_nodes S 6 rfl hgm1.1 (by omega)) (m := k + 1) (get_lt hnk1)) (⟨(), rfl, (SameB.refl _ _ rfl), S⟩)
                        refine ⟨?_, ?_⟩
                        · refine ⟨_, rfl, rfl, by kernel_rfl, ?_⟩
                          rintro D ⟨⟩ a z S F
                          refine ⟨by kernel_rfl, ?_⟩
                          exact op_load _ _ m1.A1 ((k + 1) * 1) (.int .i64 nk1) F rfl (by kernel_rfl) (by kernel_rfl) (recs_cell iC_len_i64 (bag_nodes S 6 rfl hgm1.1 (by omega)) 0 hnk1 rfl) (⟨(), rfl, (SameB.refl _ _ rfl), S⟩)
                        refine ⟨?_, ?_⟩
                        · refine ⟨_, rfl, rfl, by kernel_rfl, ?_⟩
                          rintro D ⟨⟩ a z S F
                          refine ⟨by kernel_rfl, ?_⟩
                          exact op_pure F (v0 := .bool ((ed.b : Int) != (nk1 : Int))) (v := .bool false) (by kernel_rfl) (neqF hb1) ⟨(), rfl, (SameB.refl _ _ rfl), S⟩
                        refine ⟨?_, ?_⟩
                        · refine ⟨_, rfl, rfl, by kernel_rfl, ?_⟩
                          rintro D ⟨⟩ a z S F
                          refine ⟨by kernel_rfl, ?_⟩
                          exact op_load _ _ (some ⟨b7, 0, none⟩) 1 (.slice A5 x.edges.length c6) F rfl (by kernel_rfl) (by kernel_rfl) (cBox S 4 rfl (j := 1) rfl) (⟨(), rfl, (SameB.refl _ _ rfl), S⟩)
                        refine ⟨?_, ?_⟩
                        · refine ⟨_, rfl, rfl, by kernel_rfl, ?_⟩
                          rintro D ⟨⟩ a z S F
                          refine ⟨by kernel_rfl, ?_⟩
                          exact op_load _ _ (some ⟨b13, 0, none⟩) 1 (.slice m1.A2 m1.r.edges.length m1.c2) F rfl (by kernel_rfl) (by kernel_rfl) (cBox S 9 rfl (j := 1) rfl) (⟨(), rfl, (SameB.refl _ _ rfl), S⟩)
                        refine ⟨?_, ?_⟩
                        · refine ⟨_, rfl, rfl, by kernel_rfl, ?_⟩
                          rintro D ⟨⟩ a z S F
                          refine ⟨by kernel_rfl, ?_⟩
                          exact op_index _ 3 _ _ m1.A2 m1.r.edges.length m1.c2 k 1 .i64 F rfl (by kernel_rfl) (by kernel_rfl) (by kernel_rfl) (by kernel_rfl) (get_lt hek) (recs_some (bag_edges S 6 rfl hgm1.1 (by omega)) (m := k) (get_lt hek)) (⟨(), rfl, (SameB.refl _ _ rfl), S⟩)
                        refine ⟨?_, ?_⟩
                        · refine ⟨_, rfl, rfl, by kernel_rfl, ?_⟩
                          rintro D ⟨⟩ a z S F
                          refine ⟨by kernel_rfl, ?_⟩
                          exact op_load _ _ m1.A2 (k * 1) (.int .i64 (j : Nat)) F rfl (by kernel_rfl) (by kernel_rfl) (recs_cell iC_len_i64 (bag_edges S 6 rfl hgm1.1 (by omega)) 0 hek rfl) (⟨(), rfl, (SameB.refl _ _ rfl), S⟩)
                        refine ⟨?_, ?_⟩
                        · refine ⟨_, rfl, rfl, by kernel_rfl, ?_⟩
                          rintro D ⟨⟩ a z S F
                          refine ⟨by kernel_rfl, ?_⟩
                          exact op_index _ 62 _ _ A5 x.edges.length c6 j 8 .i64 F rfl (by kernel_rfl) (by kernel_rfl) (by kernel_rfl) (by kernel_rfl) (get_lt hed) (row_some S 3 rfl (m := j) (get_lt hed)) (⟨(), rfl, (SameB.refl _ _ rfl), S⟩)
                        refine ⟨?_, ?_⟩
                        · refine ⟨_, rfl, rfl, by kernel_rfl, ?_⟩
                          rintro D ⟨⟩ a z S F
                          refine ⟨by kernel_rfl, ?_⟩
                          exact op_field _ _ _ A5 (j * 8) 2 F rfl (by kernel_rfl) (by kernel_rfl) (row_some S 3 rfl (m := j) (get_lt hed)) (⟨(), rfl, (SameB.refl _ _ rfl), S⟩)
                        refine ⟨?_, ?_⟩
                        · refine ⟨_, rfl, rfl, by kernel_rfl, ?_⟩
                          rintro D ⟨⟩ a z S F
                          refine ⟨by kernel_rfl, ?_⟩
                          exact op_indexArr _ 26 _ _ A5 (j * 8 + 2) 2 0 1 .i64 F rfl (by kernel_rfl) (by kernel_rfl) (by kernel_rfl) (by kernel_rfl) (by decide) (row_some S 3 rfl (m := j) (get_lt hed)) (⟨(), rfl, (SameB.refl _ _ rfl), S⟩)
                        refine ⟨?_, ?_⟩
                        · refine ⟨_, rfl, rfl, by kernel_rfl, ?_⟩
                          rintro D ⟨⟩ a z S F
                          refine ⟨by kernel_rfl, ?_⟩
                          exact op_load _ _ A5 (j * 8 + 2) (.int .u64 ed.c0) F rfl (by kernel_rfl) (by kernel_rfl) (cRec S 3 edC_len rfl 2 hed rfl) (⟨(), rfl, (SameB.refl _ _ rfl), S⟩)
                        refine ⟨?_, ?_⟩
                        · refine ⟨_, rfl, rfl, by kernel_rfl, ?_⟩
                          rintro D ⟨⟩ a z S F
                          refine ⟨by kernel_rfl, ?_⟩
                          exact op_load _ _ (some ⟨b13, 0, none⟩) 2 (.slice m1.A3 m1.r.amts.length m1.c3) F rfl (by kernel_rfl) (by kernel_rfl) (cBox S 9 rfl (j := 2) rfl) (⟨(), rfl, (SameB.refl _ _ rfl), S⟩)
                        refine ⟨?_, ?_⟩
                        · refine ⟨_, rfl, rfl, by kernel_rfl, ?_⟩
                          rintro D ⟨⟩ a z S F
                          refine ⟨by kernel_rfl, ?_⟩
                          exact op_index _ 26 _ _ m1.A3 m1.r.amts.length m1.c3 k 1 .i64 F rfl (by kernel_rfl) (by kernel_rfl) (by kernel_rfl) (by kernel_rfl) (get_lt hak) (recs_some (bag_amts S 6 rfl hgm1.1 (by omega)) (m := k) (get_lt hak)) (⟨(), rfl, (SameB.refl _ _ rfl), S⟩)
                        refine ⟨?_, ?_⟩
                        · refine ⟨_, rfl, rfl, by kernel_rfl, ?_⟩
                          rintro D ⟨⟩ a z S F
                          refine ⟨by kernel_rfl, ?_⟩
                          exact op_load _ _ m1.A3 (k * 1) (.int .u64 ak) F rfl (by kernel_rfl) (by kernel_rfl) (recs_cell iC_len_u64 (bag_amts S 6 rfl hgm1.1 (by omega)) 0 hak rfl) (⟨(), rfl, (SameB.refl _ _ rfl), S⟩)
                        refine ⟨?_, ?_⟩
                        · refine ⟨_, rfl, rfl, by kernel_rfl, ?_⟩
                          rintro D ⟨⟩ a z S F
                          refine ⟨by kernel_rfl, ?_⟩
                          exact op_pure F (v0 := .bool (decide ((ed.c0 : Int) < (ak : Int)))) (v := .bool false) (by kernel_rfl) (lssF (Int.not_lt.2 hcan)) ⟨(), rfl, (SameB.refl _ _ rfl), S⟩
                        refine ⟨?_, ?_⟩
                        · refine ⟨_, rfl, rfl, by kernel_rfl, ?_⟩
                          rintro D ⟨⟩ a z S F
                          refine ⟨by kernel_rfl, ?_⟩
                          exact op_pure F (v0 := .bool (decide (((k : Nat) : Int) > (0 : Int)))) (v := .bool false) (by kernel_rfl) (gtrF ht19) ⟨(), rfl, (SameB.refl _ _ rfl), S⟩
                        trivial
                      · rintro ⟨⟩ a z F S
                        have F := F.sub (l := [(1, .int .i64 from_), (2, .int .i64 to), (3, .int .u64 am), (9, .pointer (some ⟨b7, 0, none⟩)), (12, .pointer (some ⟨b9, 0, none⟩)), (15, .pointer (some ⟨b13, 0, none⟩)), (16, .int .i64 (m1.r.edges.length : Nat)), (17, .map (some r14)), (62, .slice Al R2.length cl), (63, .int .i64 (R2.length : Nat)), (64, .int .i64 (i : Nat)), (142, .slice m1.A1 m1.r.nodes.length m1.c1), (143, .int .i64 (m1.r.nodes.length : Nat)), (144, .int .i64 (k : Nat)), (229, .bool false)]) ⟨by kernel_rfl, by kernel_rfl, by kernel_rfl, by kernel_rfl, by kernel_rfl, by kernel_rfl, by kernel_rfl, by kernel_rfl, by kernel_rfl, by kernel_rfl, by kernel_rfl, by kernel_rfl, by kernel_rfl, by kernel_rfl, by kernel_rfl, trivial⟩
                        have S : Sat w z [rest w (· < w.heap.size), box b1 25 [.slice As x.spots.length cs, .slice Ae x.edges.length ce], row 107 2 (.slice A3 x.spots.length c4) x.spots.length (x.spots.flatMap spC), row 62 8 (.slice A5 x.edges.length c6) x.edges.length (x.edges.flatMap edC), box b7 32 [.slice A3 x.spots.length c4, .slice A5 x.edges.length c6], row 47 3 (.slice Al R2.length cl) R2.length (R2.flatMap rtC), bag (R2.flatMap rtRows), bag (R3.flatMap rtRows), box b9 47 [.slice mb.A1 mb.r.nodes.length mb.c1, .slice mb.A2 mb.r.edges.length mb.c2, .slice mb.A3 mb.r.amts.length mb.c3], box b13 47 [.slice m1.A1 m1.r.nodes.length m1.c1, .slice m1.A2 m1.r.edges.length m1.c2, .slice m1.A3 m1.r.amts.length m1.c3], mapA r14 .i64 (putM es nk (.bool true) ck) (putC es nk ck)] := S
                        refine then_n ?_
                        refine c_f F rfl ?_
                        refine wp_skip ?_
                        refine inb_n ?_
                        refine then_n ?_
                        refine wp_region_list ?_
                        refine l_do F rfl rfl (op_pure F (v0 := .int .i64 (IntKind.wrap .i64 ((k : Nat) + 1))) (v := .int .i64 (k + 1 : Nat)) (by kernel_rfl) (wrn_i64 (by omega) (by omega) (by omega)) fun a F => ?_)
                        refine l_pure 1 (fun L => (144, .int .i64 (k + 1 : Nat)) :: L) F (by kernel_rfl) fun a F => ?_
                        refine l_then ?_
                        exact ⟨_, (by omega), k + 1, putM es nk (.bool true) ck, putC es nk ck, rfl, (by omega), (seen_put hnk hseen), F.sub ⟨by kernel_rfl, by kernel_rfl, by kernel_rfl, by kernel_rfl, by kernel_rfl, by kernel_rfl, by kernel_rfl, by kernel_rfl, by kernel_rfl, by kernel_rfl, by kernel_rfl, by kernel_rfl, by kernel_rfl, by kernel_rfl, trivial⟩, S⟩
                · skip
                  refine region_gx (fun D => fun (_ : Unit) => [rest w (· < w.heap.size), box b1 25 [.slice As x.spots.length cs, .slice Ae x.edges.length ce], row 107 2 (.slice A3 x.spots.length c4) x.spots.length (x.spots.flatMap spC), row 62 8 (.slice A5 x.edges.length c6) x.edges.length (x.edges.flatMap edC), box b7 32 [.slice A3 x.spots.length c4, .slice A5 x.edges.length c6], row 47 3 (.slice Al R2.length cl) R2.length (R2.flatMap rtC), bag (R2.flatMap rtRows), bag (R3.flatMap rtRows), box b9 47 [.slice mb.A1 mb.r.nodes.length mb.c1, .slice mb.A2 mb.r.edges.length mb.c2, .slice mb.A3 mb.r.amts.length mb.c3], box b13 47 [.slice m1.A1 m1.r.nodes.length m1.c1, .slice m1.A2 m1.r.edges.length m1.c2, .slice m1.A3 m1.r.amts.length m1.c3], mapA r14 .i64 (putM es nk (.bool true) ck) (putC es nk ck)]) (fun (_ : Unit) => [.pointer (some ⟨b7, 1, none⟩), .slice A5 x.edges.length c6, .pointer (some ⟨b13, 1, none⟩), .slice m1.A2 m1.r.edges.length m1.c2, .int .i64 (k : Nat), ptrA m1.A2 (k * 1), .int .i64 (j : Nat), ptrA A5 (j * 8), .agg #[.int .i64 ed.a, .int .i64 ed.b, .int .u64 ed.c0, .int .u64 ed.c1, .int .u64 ed.b0, .int .u64 ed.r0, .int .u64 ed.b1, .int .u64 ed.r1], .int .i64 nk, .int .i64 1, .int .i64 1]) [(1, [], [7, 8, 10]), (3, [], [5, 6, 7, 8, 10]), (5, [3], [6, 7, 8, 10]), (6, [3, 5], [7, 8, 10]), (7, [1, 3, 5, 6], [8, 10]), (8, [1, 3, 5, 6, 7], [10]), (10, [1, 3, 5, 6, 7, 8], [])] () rfl (by kernel_rfl) (by kernel_rfl) F S.drew ?_ ?_ ?_ ?_ ?_
                  · rintro ⟨⟩; rfl
                  · rintro ⟨⟩; kernel_rfl
                  · intro D D' x h
                    cases x
                    rfl
                  · refine ⟨?_, ?_⟩
                    · refine ⟨_, rfl, rfl, by kernel_rfl, ?_⟩
                      rintro D ⟨⟩ a z S F
                      refine ⟨by kernel_rfl, ?_⟩
                      exact op_load _ _ (some ⟨b7, 0, none⟩) 1 (.slice A5 x.edges.length c6) F rfl (by kernel_rfl) (by kernel_rfl) (cBox S 4 rfl (j := 1) rfl) (⟨(), rfl, (SameB.refl _ _ rfl), S⟩)
                    refine ⟨?_, ?_⟩
                    · refine ⟨_, rfl, rfl, by kernel_rfl, ?_⟩
                      rintro D ⟨⟩ a z S F
                      refine ⟨by kernel_rfl, ?_⟩
                      exact op_load _ _ (some ⟨b13, 0, none⟩) 1 (.slice m1.A2 m1.r.edges.length m1.c2) F rfl (by kernel_rfl) (by kernel_rfl) (cBox S 9 rfl (j := 1) rfl) (⟨(), rfl, (SameB.refl _ _ rfl), S⟩)
                    refine ⟨?_, ?_⟩
                    · refine ⟨_, rfl, rfl, by kernel_rfl, ?_⟩
                      rintro D ⟨⟩ a z S F
                      refine ⟨by kernel_rfl, ?_⟩
                      exact op_index _ 3 _ _ m1.A2 m1.r.edges.length m1.c2 k 1 .i64 F rfl (by kernel_rfl) (by kernel_rfl) (by kernel_rfl) (by kernel_rfl) (get_lt hek) (recs_some (bag_edges S 6 rfl hgm1.1 (by omega)) (m := k) (get_lt hek)) (⟨(), rfl, (SameB.refl _ _ rfl), S⟩)
                    refine ⟨?_, ?_⟩
                    · refine ⟨_, rfl, rfl, by kernel_rfl, ?_⟩
                      rintro D ⟨⟩ a z S F
                      refine ⟨by kernel_rfl, ?_⟩
                      exact op_load _ _ m1.A2 (k * 1) (.int .i64 (j : Nat)) F rfl (by kernel_rfl) (by kernel_rfl) (recs_cell iC_len_i64 (bag_edges S 6 rfl hgm1.1 (by omega)) 0 hek rfl) (⟨(), rfl, (SameB.refl _ _ rfl), S⟩)
                    refine ⟨?_, ?_⟩
                    · refine ⟨_, rfl, rfl, by kernel_rfl, ?_⟩
                      rintro D ⟨⟩ a z S F
                      refine ⟨by kernel_rfl, ?_⟩
                      exact op_index _ 62 _ _ A5 x.edges.length c6 j 8 .i64 F rfl (by kernel_rfl) (by kernel_rfl) (by kernel_rfl) (by kernel_rfl) (get_lt hed) (row_some S 3 rfl (m := j) (get_lt hed)) (⟨(), rfl, (SameB.refl _ _ rfl), S⟩)
                    refine ⟨?_, ?_⟩
                    · refine ⟨_, rfl, rfl, by kernel_rfl, ?_⟩
                      rintro D ⟨⟩ a z S F
                      refine ⟨by kernel_rfl, ?_⟩
                      exact op_loadK _ _ A5 (j * 8) [.int .i64 ed.a, .int .i64 ed.b, .int .u64 ed.c0, .int .u64 ed.c1, .int .u64 ed.b0, .int .u64 ed.r0, .int .u64 ed.b1, .int .u64 ed.r1] F rfl (by kernel_rfl) (by kernel_rfl) (by kernel_rfl) (by simp) (cRecK0 S 3 edC_len rfl hed (by kernel_rfl)) (⟨(), rfl, (SameB.refl _ _ rfl), S⟩)
                    refine ⟨?_, ?_⟩
                    · refine ⟨_, rfl, rfl, by kernel_rfl, ?_⟩
                      rintro D ⟨⟩ a z S F
                      refine ⟨by kernel_rfl, ?_⟩
                      refine op_fn F (by kernel_rfl) (side_at hs1 _) ?_
                      rintro e z ⟨rfl, hb⟩
                      have S := S.grow hb
                      exact ⟨_, rfl, (), rfl, (SameB.refl _ _ rfl), S⟩
                    trivial
                  · rintro ⟨⟩ a z F S
                    have F := F.sub (l := [(1, .int .i64 from_), (2, .int .i64 to), (3, .int .u64 am), (9, .pointer (some ⟨b7, 0, none⟩)), (12, .pointer (some ⟨b9, 0, none⟩)), (15, .pointer (some ⟨b13, 0, none⟩)), (16, .int .i64 (m1.r.edges.length : Nat)), (17, .map (some r14)), (18, .int .i64 (k : Nat)), (20, .int .i64 1), (62, .slice Al R2.length cl), (63, .int .i64 (R2.length : Nat)), (64, .int .i64 (i : Nat)), (142, .slice m1.A1 m1.r.nodes.length m1.c1), (143, .int .i64 (m1.r.nodes.length : Nat)), (144, .int .i64 (k : Nat))]) ⟨by kernel_rfl, by kernel_rfl, by kernel_rfl, by kernel_rfl, by kernel_rfl, by kernel_rfl, by kernel_rfl, by kernel_rfl, by kernel_rfl, by kernel_rfl, by kernel_rfl, by kernel_rfl, by kernel_rfl, by kernel_rfl, by kernel_rfl, by kernel_rfl, trivial⟩
                    have S : Sat w z [rest w (· < w.heap.size), box b1 25 [.slice As x.spots.length cs, .slice Ae x.edges.length ce], row 107 2 (.slice A3 x.spots.length c4) x.spots.length (x.spots.flatMap spC), row 62 8 (.slice A5 x.edges.length c6) x.edges.length (x.edges.flatMap edC), box b7 32 [.slice A3 x.spots.length c4, .slice A5 x.edges.length c6], row 47 3 (.slice Al R2.length cl) R2.length (R2.flatMap rtC), bag (R2.flatMap rtRows), bag (R3.flatMap rtRows), box b9 47 [.slice mb.A1 mb.r.nodes.length mb.c1, .slice mb.A2 mb.r.edges.length mb.c2, .slice mb.A3 mb.r.amts.length mb.c3], box b13 47 [.slice m1.A1 m1.r.nodes.length m1.c1, .slice m1.A2 m1.r.edges.length m1.c2, .slice m1.A3 m1.r.amts.length m1.c3], mapA r14 .i64 (putM es nk (.bool true) ck) (putC es nk ck)] := S
                    refine then_n ?_
                    refine wp_seq ?_
                    by_cases ht20 : (0 : Int) < ((k : Nat) : Int)
                    · skip
                      obtain ⟨ak0, hak0⟩ : ∃ ak0, m1.r.amts[k - 1]? = some ak0 := ⟨_, List.getElem?_eq_getElem (by omega)⟩
                      have hfall := hs.fall (k - 1) k ak0 ak (by omega) hak0 hak
                      refine region_gx (fun D => fun (_ : Unit) => [rest w (· < w.heap.size), box b1 25 [.slice As x.spots.length cs, .slice Ae x.edges.length ce], row 107 2 (.slice A3 x.spots.length c4) x.spots.length (x.spots.flatMap spC), row 62 8 (.slice A5 x.edges.length c6) x.edges.length (x.edges.flatMap edC), box b7 32 [.slice A3 x.spots.length c4, .slice A5 x.edges.length c6], row 47 3 (.slice Al R2.length cl) R2.length (R2.flatMap rtC), bag (R2.flatMap rtRows), bag (R3.flatMap rtRows), box b9 47 [.slice mb.A1 mb.r.nodes.length mb.c1, .slice mb.A2 mb.r.edges.length mb.c2, .slice mb.A3 mb.r.amts.length mb.c3], box b13 47 [.slice m1.A1 m1.r.nodes.length m1.c1, .slice m1.A2 m1.r.edges.length m1.c2, .slice m1.A3 m1.r.amts.length m1.c3], mapA r14 .i64 (putM es nk (.bool true) ck) (putC es nk ck)]) (fun (_ : Unit) => [.int .i64 1, .bool false, .bool false, .pointer (some ⟨b7, 1, none⟩), .slice A5 x.edges.length c6, .pointer (some ⟨b13, 1, none⟩), .slice m1.A2 m1.r.edges.length m1.c2, .int .i64 (k : Nat), ptrA m1.A2 (k * 1), .int .i64 (j : Nat), .int .i64 1, .int .i64 0, ptrA A5 (j * 8), ptrA A5 (j * 8), ptrA A5 (j * 8), .int .i64 ed.a, .pointer (some ⟨b13, 0, none⟩), .slice m1.A1 m1.r.nodes.length m1.c1, .int .i64 (k : Nat), .int .i64 (k + 1 : Nat), ptrA m1.A1 ((k + 1) * 1), .int .i64 nk1, .bool false, .bool false, .bool false, .pointer (some ⟨b7, 1, none⟩), .slice A5 x.edges.length c6, .pointer (some ⟨b13, 1, none⟩), .slice m1.A2 m1.r.edges.length m1.c2, .int .i64 (k : Nat), ptrA m1.A2 (k * 1), .int .i64 (j : Nat), .int .i64 1, ptrA A5 (j * 8), ptrA A5 (j * 8 + 2), ptrA A5 (j * 8 + 3), .int .u64 ed.c1, .pointer (some ⟨b13, 2, none⟩), .slice m1.A3 m1.r.amts.length m1.c3, .int .i64 (k : Nat), ptrA m1.A3 (k * 1), .int .u64 ak, .bool false, .bool false, .bool false, .int .i64 (k : Nat), .bool true, .bool true, .pointer (some ⟨b13, 2, none⟩), .slice m1.A3 m1.r.amts.length m1.c3, .int .i64 (k : Nat), ptrA m1.A3 (k * 1), .int .u64 ak, .pointer (some ⟨b13, 2, none⟩), .slice m1.A3 m1.r.amts.length m1.c3, .int .i64 (k : Nat), .int .i64 (k - 1 : Nat), ptrA m1.A3 ((k - 1) * 1), .int .u64 ak0, .bool false, .bool false, .bool false]) [(4, [], [12, 13, 14, 15, 22, 26, 28, 30, 31, 33, 34, 35, 36, 38, 40, 41, 42, 46, 49, 51, 52, 54, 56, 57, 58, 59]), (6, [], [8, 9, 12, 13, 14, 15, 22, 26, 28, 30, 31, 33, 34, 35, 36, 38, 40, 41, 42, 46, 49, 51, 52, 54, 56, 57, 58, 59]), (8, [6], [9, 12, 13, 14, 15, 22, 26, 28, 30, 31, 33, 34, 35, 36, 38, 40, 41, 42, 46, 49, 51, 52, 54, 56, 57, 58, 59]), (9, [6, 8], [12, 13, 14, 15, 22, 26, 28, 30, 31, 33, 34, 35, 36, 38, 40, 41, 42, 46, 49, 51, 52, 54, 56, 57, 58, 59]), (12, [4, 6, 8, 9], [13, 14, 15, 22, 26, 28, 30, 31, 33, 34, 35, 36, 38, 40, 41, 42, 46, 49, 51, 52, 54, 56, 57, 58, 59]), (13, [4, 6, 8, 9, 12], [14, 15, 22, 26, 28, 30, 31, 33, 34, 35, 36, 38, 40, 41, 42, 46, 49, 51, 52, 54, 56, 57, 58, 59]), (14, [4, 6, 8, 9, 12, 13], [15, 22, 26, 28, 30, 31, 33, 34, 35, 36, 38, 40, 41, 42, 46, 49, 51, 52, 54, 56, 57, 58, 59]), (15, [4, 6, 8, 9, 12, 13, 14], [22, 26, 28, 30, 31, 33, 34, 35, 36, 38, 40, 41, 42, 46, 49, 51, 52, 54, 56, 57, 58, 59]), (17, [], [20, 21, 22, 26, 28, 30, 31, 33, 34, 35, 36, 38, 40, 41, 42, 46, 49, 51, 52, 54, 56, 57, 58, 59]), (19, [], [20, 21, 22, 26, 28, 30, 31, 33, 34, 35, 36, 38, 40, 41, 42, 46, 49, 51, 52, 54, 56, 57, 58, 59]), (20, [17, 19], [21, 22, 26, 28, 30, 31, 33, 34, 35, 36, 38, 40, 41, 42, 46, 49, 51, 52, 54, 56, 57, 58, 59]), (21, [17, 19, 20], [22, 26, 28, 30, 31, 33, 34, 35, 36, 38, 40, 41, 42, 46, 49, 51, 52, 54, 56, 57, 58, 59]), (22, [4, 6, 8, 9, 12, 13, 14, 15, 17, 19, 20, 21], [26, 28, 30, 31, 33, 34, 35, 36, 38, 40, 41, 42, 46, 49, 51, 52, 54, 56, 57, 58, 59]), (26, [4, 6, 8, 9, 12, 13, 14, 15, 17, 19, 20, 21, 22], [33, 34, 35, 36, 42, 46, 49, 51, 52, 54, 56, 57, 58, 59]), (28, [4, 6, 8, 9, 12, 13, 14, 15, 17, 19, 20, 21, 22], [30, 31, 33, 34, 35, 36, 42, 46, 49, 51, 52, 54, 56, 57, 58, 59]), (30, [4, 6, 8, 9, 12, 13, 14, 15, 17, 19, 20, 21, 22, 28], [31, 33, 34, 35, 36, 42, 46, 49, 51, 52, 54, 56, 57, 58, 59]), (31, [4, 6, 8, 9, 12, 13, 14, 15, 17, 19, 20, 21, 22, 28, 30], [33, 34, 35, 36, 42, 46, 49, 51, 52, 54, 56, 57, 58, 59]), (33, [4, 6, 8, 9, 12, 13, 14, 15, 17, 19, 20, 21, 22, 26, 28, 30, 31], [34, 35, 36, 42, 46, 49, 51, 52, 54, 56, 57, 58, 59]), (34, [4, 6, 8, 9, 12, 13, 14, 15, 17, 19, 20, 21, 22, 26, 28, 30, 31, 33], [35, 36, 42, 46, 49, 51, 52, 54, 56, 57, 58, 59]), (35, [4, 6, 8, 9, 12, 13, 14, 15, 17, 19, 20, 21, 22, 26, 28, 30, 31, 33, 34], [36, 42, 46, 49, 51, 52, 54, 56, 57, 58, 59]), (36, [4, 6, 8, 9, 12, 13, 14, 15, 17, 19, 20, 21, 22, 26, 28, 30, 31, 33, 34, 35], [42, 46, 49, 51, 52, 54, 56, 57, 58, 59]), (38, [4, 6, 8, 9, 12, 13, 14, 15, 17, 19, 20, 21, 22], [40, 41, 42, 46, 49, 51, 52, 54, 56, 57, 58, 59]), (40, [4, 6, 8, 9, 12, 13, 14, 15, 17, 19, 20, 21, 22, 38], [41, 42, 46, 49, 51, 52, 54, 56, 57, 58, 59]), (41, [4, 6, 8, 9, 12, 13, 14, 15, 17, 19, 20, 21, 22, 38, 40], [42, 46, 49, 51, 52, 54, 56, 57, 58, 59]), (42, [4, 6, 8, 9, 12, 13, 14, 15, 17, 19, 20, 21, 22, 26, 28, 30, 31, 33, 34, 35, 36, 38, 40, 41], [46, 49, 51, 52, 54, 56, 57, 58, 59]), (46, [4, 6, 8, 9, 12, 13, 14, 15, 17, 19, 20, 21, 22, 26, 28, 30, 31, 33, 34, 35, 36, 38, 40, 41, 42], [49, 51, 52, 54, 56, 57, 58, 59]), (49, [4, 6, 8, 9, 12, 13, 14, 15, 17, 19, 20, 21, 22, 26, 28, 30, 31, 33, 34, 35, 36, 38, 40, 41, 42, 46], [51, 52, 59]), (51, [4, 6, 8, 9, 12, 13, 14, 15, 17, 19, 20, 21, 22, 26, 28, 30, 31, 33, 34, 35, 36, 38, 40, 41, 42, 46, 49], [52, 59]), (52, [4, 6, 8, 9, 12, 13, 14, 15, 17, 19, 20, 21, 22, 26, 28, 30, 31, 33, 34, 35, 36, 38, 40, 41, 42, 46, 49, 51], [59]), (54, [4, 6, 8, 9, 12, 13, 14, 15, 17, 19, 20, 21, 22, 26, 28, 30, 31, 33, 34, 35, 36, 38, 40, 41, 42, 46], [57, 58, 59]), (56, [4, 6, 8, 9, 12, 13, 14, 15, 17, 19, 20, 21, 22, 26, 28, 30, 31, 33, 34, 35, 36, 38, 40, 41, 42, 46], [57, 58, 59]), (57, [4, 6, 8, 9, 12, 13, 14, 15, 17, 19, 20, 21, 22, 26, 28, 30, 31, 33, 34, 35, 36, 38, 40, 41, 42, 46, 54, 56], [58, 59]), (58, [4, 6, 8, 9, 12, 13, 14, 15, 17, 19, 20, 21, 22, 26, 28, 30, 31, 33, 34, 35, 36, 38, 40, 41, 42, 46, 54, 56, 57], [59]), (59, [4, 6, 8, 9, 12, 13, 14, 15, 17, 19, 20, 21, 22, 26, 28, 30, 31, 33, 34, 35, 36, 38, 40, 41, 42, 46, 49, 51, 52, 54, 56, 57, 58], [])] () rfl (by kernel_rfl) (by kernel_rfl) F S.drew ?_ ?_ ?_ ?_ ?_
                      · rintro ⟨⟩; rfl
                      · rintro ⟨⟩; kernel_rfl
                      · intro D D' x h
                        cases x
                        rfl
                      · refine ⟨?_, ?_⟩
                        · refine ⟨_, rfl, rfl, by kernel_rfl, ?_⟩
                          rintro D ⟨⟩ a z S F
                          refine ⟨by kernel_rfl, ?_⟩
                          exact op_load _ _ (some ⟨b7, 0, none⟩) 1 (.slice A5 x.edges.length c6) F rfl (by kernel_rfl) (by kernel_rfl) (cBox S 4 rfl (j := 1) rfl) (⟨(), rfl, (SameB.refl _ _ rfl), S⟩)
                        refine ⟨?_, ?_⟩
                        · refine ⟨_, rfl, rfl, by kernel_rfl, ?_⟩
                          rintro D ⟨⟩ a z S F
                          refine ⟨by kernel_rfl, ?_⟩
                          exact op_load _ _ (some ⟨b13, 0, none⟩) 1 (.slice m1.A2 m1.r.edges.length m1.c2) F rfl (by kernel_rfl) (by kernel_rfl) (cBox S 9 rfl (j := 1) rfl) (⟨(), rfl, (SameB.refl _ _ rfl), S⟩)
                        refine ⟨?_, ?_⟩
                        · refine ⟨_, rfl, rfl, by kernel_rfl, ?_⟩
                          rintro D ⟨⟩ a z S F
                          refine ⟨by kernel_rfl, ?_⟩
                          exact op_index _ 3 _ _ m1.A2 m1.r.edges.length m1.c2 k 1 .i64 F rfl (by kernel_rfl) (by kernel_rfl) (by kernel_rfl) (by kernel_rfl) (get_lt hek) (recs_some (bag_edges S 6 rfl hgm1.1 (by omega)) (m := k) (get_lt hek)) (⟨(), rfl, (SameB.refl _ _ rfl), S⟩)
                        refine ⟨?_, ?_⟩
                        · refine ⟨_, rfl, rfl, by kernel_rfl, ?_⟩
                          rintro D ⟨⟩ a z S F
                          refine ⟨by kernel_rfl, ?_⟩
                          exact op_load _ _ m1.A2 (k * 1) (.int .i64 (j : Nat)) F rfl (by kernel_rfl) (by kernel_rfl) (recs_cell iC_len_i64 (bag_edges S 6 rfl hgm1.1 (by omega)) 0 hek rfl) (⟨(), rfl, (SameB.refl _ _ rfl), S⟩)
                        refine ⟨?_, ?_⟩
                        · refine ⟨_, rfl, rfl, by kernel_rfl, ?_⟩
                          rintro D ⟨⟩ a z S F
                          refine ⟨by kernel_rfl, ?_⟩
                          exact op_index _ 62 _ _ A5 x.edges.length c6 j 8 .i64 F rfl (by kernel_rfl) (by kernel_rfl) (by kernel_rfl) (by kernel_rfl) (get_lt hed) (row_some S 3 rfl (m := j) (get_lt hed)) (⟨(), rfl, (SameB.refl _ _ rfl), S⟩)
                        refine ⟨?_, ?_⟩
                        · refine ⟨_, rfl, rfl, by kernel_rfl, ?_⟩
                          rintro D ⟨⟩ a z S F
                          refine ⟨by kernel_rfl, ?_⟩
                          exact op_field _ _ _ A5 (j * 8) 0 F rfl (by kernel_rfl) (by kernel_rfl) (row_some S 3 rfl (m := j) (get_lt hed)) (⟨(), rfl, (SameB.refl _ _ rfl), S⟩)
                        refine ⟨?_, ?_⟩
                        · refine ⟨_, rfl, rfl, by kernel_rfl, ?_⟩
                          rintro D ⟨⟩ a z S F
                          refine ⟨by kernel_rfl, ?_⟩
                          exact op_indexArr _ 3 _ _ A5 (j * 8) 2 0 1 .i64 F rfl (by kernel_rfl) (by kernel_rfl) (by kernel_rfl) (by kernel_rfl) (by decide) (row_some S 3 rfl (m := j) (get_lt hed)) (⟨(), rfl, (SameB.refl _ _ rfl), S⟩)
                        refine ⟨?_, ?_⟩
                        · refine ⟨_, rfl, rfl, by kernel_rfl, ?_⟩
                          rintro D ⟨⟩ a z S F
                          refine ⟨by kernel_rfl, ?_⟩
                          exact op_load _ _ A5 (j * 8) (.int .i64 ed.a) F rfl (by kernel_rfl) (by kernel_rfl) (cRec S 3 edC_len rfl 0 hed rfl) (⟨(), rfl, (SameB.refl _ _ rfl), S⟩)
                        refine ⟨?_, ?_⟩
                        · refine ⟨_, rfl, rfl, by kernel_rfl, ?_⟩
                          rintro D ⟨⟩ a z S F
                          refine ⟨by kernel_rfl, ?_⟩
                          exact op_load _ _ (some ⟨b13, 0, none⟩) 0 (.slice m1.A1 m1.r.nodes.length m1.c1) F rfl (by kernel_rfl) (by kernel_rfl) (cBox S 9 rfl (j := 0) rfl) (⟨(), rfl, (SameB.refl _ _ rfl), S⟩)
                        refine ⟨?_, ?_⟩
                        · refine ⟨_, rfl, rfl, by kernel_rfl, ?_⟩
                          rintro D ⟨⟩ a z S F
                          refine ⟨by kernel_rfl, ?_⟩
                          exact op_pure F (v0 := .int .i64 (IntKind.wrap .i64 ((k : Nat) + 1))) (v := .int .i64 (k + 1 : Nat)) (by kernel_rfl) (wrn_i64 (by omega) (by omega) (by omega)) ⟨(), rfl, (SameB.refl _ _ rfl), S⟩
                        refine ⟨?_, ?_⟩
                        · refine ⟨_, rfl, rfl, by kernel_rfl, ?_⟩
                          rintro D ⟨⟩ a z S F
                          refine ⟨by kernel_rfl, ?_⟩
                          exact op_index _ 3 _ _ m1.A1 m1.r.nodes.length m1.c1 (k + 1) 1 .i64 F rfl (by kernel_rfl) (by kernel_rfl) (by kernel_rfl) (by kernel_rfl) (get_lt hnk1) (recs_some (bag_nodes S 6 rfl hgm1.1 (by omega)) (m := k + 1) (get_lt hnk1)) (⟨(), rfl, (SameB.refl _ _ rfl), S⟩)
                        refine ⟨?_, ?_⟩
                        · refine ⟨_, rfl, rfl, by kernel_rfl, ?_⟩
                          rintro D ⟨⟩ a z S F
                          refine ⟨by kernel_rfl, ?_⟩
                          exact op_load _ _ m1.A1 ((k + 1) * 1) (.int .i64 nk1) F rfl (by kernel_rfl) (by kernel_rfl) (recs_cell iC_len_i64 (bag_nodes S 6 rfl hgm1.1 (by omega)) 0 hnk1 rfl) (⟨(), rfl, (SameB.refl _ _ rfl), S⟩)
                        refine ⟨?_, ?_⟩
                        · refine ⟨_, rfl, rfl, by kernel_rfl, ?_⟩
                          rintro D ⟨⟩ a z S F
                          refine ⟨by kernel_rfl, ?_⟩
                          exact op_pure F (v0 := .bool ((ed.a : Int) != (nk1 : Int))) (v := .bool false) (by kernel_rfl) (neqF hb1) ⟨(), rfl, (SameB.refl _ _ rfl), S⟩
                        refine ⟨?_, ?_⟩
                        · refine ⟨_, rfl, rfl, by kernel_rfl, ?_⟩
                          rintro D ⟨⟩ a z S F
                          refine ⟨by kernel_rfl, ?_⟩
                          exact op_load _ _ (some ⟨b7, 0, none⟩) 1 (.slice A5 x.edges.length c6) F rfl (by kernel_rfl) (by kernel_rfl) (cBox S 4 rfl (j := 1) rfl) (⟨(), rfl, (SameB.refl _ _ rfl), S⟩)
                        refine ⟨?_, ?_⟩
                        · refine ⟨_, rfl, rfl, by kernel_rfl, ?_⟩
                          rintro D ⟨⟩ a z S F
                          refine ⟨by kernel_rfl, ?_⟩
                          exact op_load _ _ (some ⟨b13, 0, none⟩) 1 (.slice m1.A2 m1.r.edges.length m1.c2) F rfl (by kernel_rfl) (by kernel_rfl) (cBox S 9 rfl (j := 1) rfl) (⟨(), rfl, (SameB.refl _ _ rfl), S⟩)
                        refine ⟨?_, ?_⟩
                        · refine ⟨_, rfl, rfl, by kernel_rfl, ?_⟩
                          rintro D ⟨⟩ a z S F
                          refine ⟨by kernel_rfl, ?_⟩
                          exact op_index _ 3 _ _ m1.A2 m1.r.edges.length m1.c2 k 1 .i64 F rfl (by kernel_rfl) (by kernel_rfl) (by kernel_rfl) (by kernel_rfl) (get_lt hek) (recs_some (bag_edges S 6 rfl hgm1.1 (by omega)) (m := k) (get_lt hek)) (⟨(), rfl, (SameB.refl _ _ rfl), S⟩)
                        refine ⟨?_, ?_⟩
                        · refine ⟨_, rfl, rfl, by kernel_rfl, ?_⟩
                          rintro D ⟨⟩ a z S F
                          refine ⟨by kernel_rfl, ?_⟩
                          exact op_load _ _ m1.A2 (k * 1) (.int .i64 (j : Nat)) F rfl (by kernel_rfl) (by kernel_rfl) (recs_cell iC_len_i64 (bag_edges S 6 rfl hgm1.1 (by omega)) 0 hek rfl) (⟨(), rfl, (SameB.refl _ _ rfl), S⟩)
                        refine ⟨?_, ?_⟩
                        · refine ⟨_, rfl, rfl, by kernel_rfl, ?_⟩
                          rintro D ⟨⟩ a z S F
                          refine ⟨by kernel_rfl, ?_⟩
                          exact op_index _ 62 _ _ A5 x.edges.length c6 j 8 .i64 F rfl (by kernel_rfl) (by kernel_rfl) (by kernel_rfl) (by kernel_rfl) (get_lt hed) (row_some S 3 rfl (m := j) (get_lt hed)) (⟨(), rfl, (SameB.refl _ _ rfl), S⟩)
                        refine ⟨?_, ?_⟩
                        · refine ⟨_, rfl, rfl, by kernel_rfl, ?_⟩
                          rintro D ⟨⟩ a z S F
                          refine ⟨by kernel_rfl, ?_⟩
                          exact op_field _ _ _ A5 (j * 8) 2 F rfl (by kernel_rfl) (by kernel_rfl) (row_some S 3 rfl (m := j) (get_lt hed)) (⟨(), rfl, (SameB.refl _ _ rfl), S⟩)
                        refine ⟨?_, ?_⟩
                        · refine ⟨_, rfl, rfl, by kernel_rfl, ?_⟩
                          rintro D ⟨⟩ a z S F
                          refine ⟨by kernel_rfl, ?_⟩
                          exact op_indexArr _ 26 _ _ A5 (j * 8 + 2) 2 1 1 .i64 F rfl (by kernel_rfl) (by kernel_rfl) (by kernel_rfl) (by kernel_rfl) (by decide) (row_some S 3 rfl (m := j) (get_lt hed)) (⟨(), rfl, (SameB.refl _ _ rfl), S⟩)
                        refine ⟨?_, ?_⟩
                        · refine ⟨_, rfl, rfl, by kernel_rfl, ?_⟩
                          rintro D ⟨⟩ a z S F
                          refine ⟨by kernel_rfl, ?_⟩
                          exact op_load _ _ A5 (j * 8 + 3) (.int .u64 ed.c1) F rfl (by kernel_rfl) (by kernel_rfl) (cRec S 3 edC_len rfl 3 hed rfl) (⟨(), rfl, (SameB.refl _ _ rfl), S⟩)
                        refine ⟨?_, ?_⟩
                        · refine ⟨_, rfl, rfl, by kernel_rfl, ?_⟩
                          rintro D ⟨⟩ a z S F
                          refine ⟨by kernel_rfl, ?_⟩
                          exact op_load _ _ (some ⟨b13, 0, none⟩) 2 (.slice m1.A3 m1.r.amts.length m1.c3) F rfl (by kernel_rfl) (by kernel_rfl) (cBox S 9 rfl (j := 2) rfl) (⟨(), rfl, (SameB.refl _ _ rfl), S⟩)
                        refine ⟨?_, ?_⟩
                        · refine ⟨_, rfl, rfl, by kernel_rfl, ?_⟩
                          rintro D ⟨⟩ a z S F
                          refine ⟨by kernel_rfl, ?_⟩
                          exact op_index _ 26 _ _ m1.A3 m1.r.amts.length m1.c3 k 1 .i64 F rfl (by kernel_rfl) (by kernel_rfl) (by kernel_rfl) (by kernel_rfl) (get_lt hak) (recs_some (bag_amts S 6 rfl hgm1.1 (by omega)) (m := k) (get_lt hak)) (⟨(), rfl, (SameB.refl _ _ rfl), S⟩)
                        refine ⟨?_, ?_⟩
                        · refine ⟨_, rfl, rfl, by kernel_rfl, ?_⟩
                          rintro D ⟨⟩ a z S F
                          refine ⟨by kernel_rfl, ?_⟩
                          exact op_load _ _ m1.A3 (k * 1) (.int .u64 ak) F rfl (by kernel_rfl) (by kernel_rfl) (recs_cell iC_len_u64 (bag_amts S 6 rfl hgm1.1 (by omega)) 0 hak rfl) (⟨(), rfl, (SameB.refl _ _ rfl), S⟩)
                        refine ⟨?_, ?_⟩
                        · refine ⟨_, rfl, rfl, by kernel_rfl, ?_⟩
                          rintro D ⟨⟩ a z S F
                          refine ⟨by kernel_rfl, ?_⟩
                          exact op_pure F (v0 := .bool (decide ((ed.c1 : Int) < (ak : Int)))) (v := .bool false) (by kernel_rfl) (lssF (Int.not_lt.2 hcan)) ⟨(), rfl, (SameB.refl _ _ rfl), S⟩
                        refine ⟨?_, ?_⟩
                        · refine ⟨_, rfl, rfl, by kernel_rfl, ?_⟩
                          rintro D ⟨⟩ a z S F
                          refine ⟨by kernel_rfl, ?_⟩
                          exact op_pure F (v0 := .bool (decide (((k : Nat) : Int) > (0 : Int)))) (v := .bool true) (by kernel_rfl) (gtrT ht20) ⟨(), rfl, (SameB.refl _ _ rfl), S⟩
                        refine ⟨?_, ?_⟩
                        · refine ⟨_, rfl, rfl, by kernel_rfl, ?_⟩
                          rintro D ⟨⟩ a z S F
                          refine ⟨by kernel_rfl, ?_⟩
                          exact op_load _ _ (some ⟨b13, 0, none⟩) 2 (.slice m1.A3 m1.r.amts.length m1.c3) F rfl (by kernel_rfl) (by kernel_rfl) (cBox S 9 rfl (j := 2) rfl) (⟨(), rfl, (SameB.refl _ _ rfl), S⟩)
                        refine ⟨?_, ?_⟩
                        · refine ⟨_, rfl, rfl, by kernel_rfl, ?_⟩
                          rintro D ⟨⟩ a z S F
                          refine ⟨by kernel_rfl, ?_⟩
                          exact op_index _ 26 _ _ m1.A3 m1.r.amts.length m1.c3 k 1 .i64 F rfl (by kernel_rfl) (by kernel_rfl) (by kernel_rfl) (by kernel_rfl) (get_lt hak) (recs_some (bag_amts S 6 rfl hgm1.1 (by omega)) (m := k) (get_lt hak)) (⟨(), rfl, (SameB.refl _ _ rfl), S⟩)
                        refine ⟨?_, ?_⟩
                        · refine ⟨_, rfl, rfl, by kernel_rfl, ?_⟩
                          rintro D ⟨⟩ a z S F
                          refine ⟨by kernel_rfl, ?_⟩
                          exact op_load _ _ m1.A3 (k * 1) (.int .u64 ak) F rfl (by kernel_rfl) (by kernel_rfl) (recs_cell iC_len_u64 (bag_amts S 6 rfl hgm1.1 (by omega)) 0 hak rfl) (⟨(), rfl, (SameB.refl _ _ rfl), S⟩)
                        refine ⟨?_, ?_⟩
                        · refine ⟨_, rfl, rfl, by kernel_rfl, ?_⟩
                          rintro D ⟨⟩ a z S F
                          refine ⟨by kernel_rfl, ?_⟩
                          exact op_load _ _ (some ⟨b13, 0, none⟩) 2 (.slice m1.A3 m1.r.amts.length m1.c3) F rfl (by kernel_rfl) (by kernel_rfl) (cBox S 9 rfl (j := 2) rfl) (⟨(), rfl, (SameB.refl _ _ rfl), S⟩)
                        refine ⟨?_, ?_⟩
                        · refine ⟨_, rfl, rfl, by kernel_rfl, ?_⟩
                          rintro D ⟨⟩ a z S F
                          refine ⟨by kernel_rfl, ?_⟩
                          exact op_pure F (v0 := .int .i64 (IntKind.wrap .i64 ((k : Nat) - 1))) (v := .int .i64 (k - 1 : Nat)) (by kernel_rfl) (wrn_i64 (by omega) (by omega) (by omega)) ⟨(), rfl, (SameB.refl _ _ rfl), S⟩
                        refine ⟨?_, ?_⟩
                        · refine ⟨_, rfl, rfl, by kernel_rfl, ?_⟩
                          rintro D ⟨⟩ a z S F
                          refine ⟨by kernel_rfl, ?_⟩
                          exact op_index _ 26 _ _ m1.A3 m1.r.amts.length m1.c3 (k - 1) 1 .i64 F rfl (by kernel_rfl) (by kernel_rfl) (by kernel_rfl) (by kernel_rfl) (get_lt hak0) (recs_some (bag_amts S 6 rfl hgm1.1 (by omega)) (m := k - 1) (get_lt hak0)) (⟨(), rfl, (SameB.refl _ _ rfl), S⟩)
                        refine ⟨?_, ?_⟩
                        · refine ⟨_, rfl, rfl, by kernel_rfl, ?_⟩
                          rintro D ⟨⟩ a z S F
                          refine ⟨by kernel_rfl, ?_⟩
                          exact op_load _ _ m1.A3 ((k - 1) * 1) (.int .u64 ak0) F rfl (by kernel_rfl) (by kernel_rfl) (recs_cell iC_len_u64 (bag_amts S 6 rfl hgm1.1 (by omega)) 0 hak0 rfl) (⟨(), rfl, (SameB.refl _ _ rfl), S⟩)
                        refine ⟨?_, ?_⟩
                        · refine ⟨_, rfl, rfl, by kernel_rfl, ?_⟩
                          rintro D ⟨⟩ a z S F
                          refine ⟨by kernel_rfl, ?_⟩
                          exact op_pure F (v0 := .bool (decide ((ak : Int) > (ak0 : Int)))) (v := .bool false) (by kernel_rfl) (gtrF (Int.not_lt.2 hfall)) ⟨(), rfl, (SameB.refl _ _ rfl), S⟩
                        trivial
                      · rintro ⟨⟩ a z F S
                        have F := F.sub (l := [(1, .int .i64 from_), (2, .int .i64 to), (3, .int .u64 am), (9, .pointer (some ⟨b7, 0, none⟩)), (12, .pointer (some ⟨b9, 0, none⟩)), (15, .pointer (some ⟨b13, 0, none⟩)), (16, .int .i64 (m1.r.edges.length : Nat)), (17, .map (some r14)), (62, .slice Al R2.length cl), (63, .int .i64 (R2.length : Nat)), (64, .int .i64 (i : Nat)), (142, .slice m1.A1 m1.r.nodes.length m1.c1), (143, .int .i64 (m1.r.nodes.length : Nat)), (144, .int .i64 (k : Nat)), (229, .bool false)]) ⟨by kernel_rfl, by kernel_rfl, by kernel_rfl, by kernel_rfl, by kernel_rfl, by kernel_rfl, by kernel_rfl, by kernel_rfl, by kernel_rfl, by kernel_rfl, by kernel_rfl, by kernel_rfl, by kernel_rfl, by kernel_rfl, by kernel_rfl, trivial⟩
                        have S : Sat w z [rest w (· < w.heap.size), box b1 25 [.slice As x.spots.length cs, .slice Ae x.edges.length ce], row 107 2 (.slice A3 x.spots.length c4) x.spots.length (x.spots.flatMap spC), row 62 8 (.slice A5 x.edges.length c6) x.edges.length (x.edges.flatMap edC), box b7 32 [.slice A3 x.spots.length c4, .slice A5 x.edges.length c6], row 47 3 (.slice Al R2.length cl) R2.length (R2.flatMap rtC), bag (R2.flatMap rtRows), bag (R3.flatMap rtRows), box b9 47 [.slice mb.A1 mb.r.nodes.length mb.c1, .slice mb.A2 mb.r.edges.length mb.c2, .slice mb.A3 mb.r.amts.length mb.c3], box b13 47 [.slice m1.A1 m1.r.nodes.length m1.c1, .slice m1.A2 m1.r.edges.length m1.c2, .slice m1.A3 m1.r.amts.length m1.c3], mapA r14 .i64 (putM es nk (.bool true) ck) (putC es nk ck)] := S
                        refine then_n ?_
                        refine c_f F rfl ?_
                        refine wp_skip ?_
                        refine inb_n ?_
                        refine then_n ?_
                        refine wp_region_list ?_
                        refine l_do F rfl rfl (op_pure F (v0 := .int .i64 (IntKind.wrap .i64 ((k : Nat) + 1))) (v := .int .i64 (k + 1 : Nat)) (by kernel_rfl) (wrn_i64 (by omega) (by omega) (by omega)) fun a F => ?_)
                        refine l_pure 1 (fun L => (144, .int .i64 (k + 1 : Nat)) :: L) F (by kernel_rfl) fun a F => ?_
                        refine l_then ?_
                        exact ⟨_, (by omega), k + 1, putM es nk (.bool true) ck, putC es nk ck, rfl, (by omega), (seen_put hnk hseen), F.sub ⟨by kernel_rfl, by kernel_rfl, by kernel_rfl, by kernel_rfl, by kernel_rfl, by kernel_rfl, by kernel_rfl, by kernel_rfl, by kernel_rfl, by kernel_rfl, by kernel_rfl, by kernel_rfl, by kernel_rfl, by kernel_rfl, trivial⟩, S⟩
                    · skip
                      refine region_gx (fun D => fun (_ : Unit) => [rest w (· < w.heap.size), box b1 25 [.slice As x.spots.length cs, .slice Ae x.edges.length ce], row 107 2 (.slice A3 x.spots.length c4) x.spots.length (x.spots.flatMap spC), row 62 8 (.slice A5 x.edges.length c6) x.edges.length (x.edges.flatMap edC), box b7 32 [.slice A3 x.spots.length c4, .slice A5 x.edges.length c6], row 47 3 (.slice Al R2.length cl) R2.length (R2.flatMap rtC), bag (R2.flatMap rtRows), bag (R3.flatMap rtRows), box b9 47 [.slice mb.A1 mb.r.nodes.length mb.c1, .slice mb.A2 mb.r.edges.length mb.c2, .slice mb.A3 mb.r.amts.length mb.c3], box b13 47 [.slice m1.A1 m1.r.nodes.length m1.c1, .slice m1.A2 m1.r.edges.length m1.c2, .slice m1.A3 m1.r.amts.length m1.c3], mapA r14 .i64 (putM es nk (.bool true) ck) (putC es nk ck)]) (fun (_ : Unit) => [.int .i64 1, .bool false, .bool false, .pointer (some ⟨b7, 1, none⟩), .slice A5 x.edges.length c6, .pointer (some ⟨b13, 1, none⟩), .slice m1.A2 m1.r.edges.length m1.c2, .int .i64 (k : Nat), ptrA m1.A2 (k * 1), .int .i64 (j : Nat), .int .i64 1, .int .i64 0, ptrA A5 (j * 8), ptrA A5 (j * 8), ptrA A5 (j * 8), .int .i64 ed.a, .pointer (some ⟨b13, 0, none⟩), .slice m1.A1 m1.r.nodes.length m1.c1, .int .i64 (k : Nat), .int .i64 (k + 1 : Nat), ptrA m1.A1 ((k + 1) * 1), .int .i64 nk1, .bool false, .bool false, .bool false, .pointer (some ⟨b7, 1, none⟩), .slice A5 x.edges.length c6, .pointer (some ⟨b13, 1, none⟩), .slice m1.A2 m1.r.edges.length m1.c2, .int .i64 (k : Nat), ptrA m1.A2 (k * 1), .int .i64 (j : Nat), .int .i64 1, ptrA A5 (j * 8), ptrA A5 (j * 8 + 2), ptrA A5 (j * 8 + 3), .int .u64 ed.c1, .pointer (some ⟨b13, 2, none⟩), .slice m1.A3 m1.r.amts.length m1.c3, .int .i64 (k : Nat), ptrA m1.A3 (k * 1), .int .u64 ak, .bool false, .bool false, .bool false, .int .i64 (k : Nat), .bool false, .bool false, undef, undef, undef, undef, undef, undef, undef, undef, undef, undef, undef, undef, .bool false, .bool false]) [(4, [], [12, 13, 14, 15, 22, 26, 28, 30, 31, 33, 34, 35, 36, 38, 40, 41, 42, 46]), (6, [], [8, 9, 12, 13, 14, 15, 22, 26, 28, 30, 31, 33, 34, 35, 36, 38, 40, 41, 42, 46]), (8, [6], [9, 12, 13, 14, 15, 22, 26, 28, 30, 31, 33, 34, 35, 36, 38, 40, 41, 42, 46]), (9, [6, 8], [12, 13, 14, 15, 22, 26, 28, 30, 31, 33, 34, 35, 36, 38, 40, 41, 42, 46]), (12, [4, 6, 8, 9], [13, 14, 15, 22, 26, 28, 30, 31, 33, 34, 35, 36, 38, 40, 41, 42, 46]), (13, [4, 6, 8, 9, 12], [14, 15, 22, 26, 28, 30, 31, 33, 34, 35, 36, 38, 40, 41, 42, 46]), (14, [4, 6, 8, 9, 12, 13], [15, 22, 26, 28, 30, 31, 33, 34, 35, 36, 38, 40, 41, 42, 46]), (15, [4, 6, 8, 9, 12, 13, 14], [22, 26, 28, 30, 31, 33, 34, 35, 36, 38, 40, 41, 42, 46]), (17, [], [20, 21, 22, 26, 28, 30, 31, 33, 34, 35, 36, 38, 40, 41, 42, 46]), (19, [], [20, 21, 22, 26, 28, 30, 31, 33, 34, 35, 36, 38, 40, 41, 42, 46]), (20, [17, 19], [21, 22, 26, 28, 30, 31, 33, 34, 35, 36, 38, 40, 41, 42, 46]), (21, [17, 19, 20], [22, 26, 28, 30, 31, 33, 34, 35, 36, 38, 40, 41, 42, 46]), (22, [4, 6, 8, 9, 12, 13, 14, 15, 17, 19, 20, 21], [26, 28, 30, 31, 33, 34, 35, 36, 38, 40, 41, 42, 46]), (26, [4, 6, 8, 9, 12, 13, 14, 15, 17, 19, 20, 21, 22], [33, 34, 35, 36, 42, 46]), (28, [4, 6, 8, 9, 12, 13, 14, 15, 17, 19, 20, 21, 22], [30, 31, 33, 34, 35, 36, 42, 46]), (30, [4, 6, 8, 9, 12, 13, 14, 15, 17, 19, 20, 21, 22, 28], [31, 33, 34, 35, 36, 42, 46]), (31, [4, 6, 8, 9, 12, 13, 14, 15, 17, 19, 20, 21, 22, 28, 30], [33, 34, 35, 36, 42, 46]), (33, [4, 6, 8, 9, 12, 13, 14, 15, 17, 19, 20, 21, 22, 26, 28, 30, 31], [34, 35, 36, 42, 46]), (34, [4, 6, 8, 9, 12, 13, 14, 15, 17, 19, 20, 21, 22, 26, 28, 30, 31, 33], [35, 36, 42, 46]), (35, [4, 6, 8, 9, 12, 13, 14, 15, 17, 19, 20, 21, 22, 26, 28, 30, 31, 33, 34], [36, 42, 46]), (36, [4, 6, 8, 9, 12, 13, 14, 15, 17, 19, 20, 21, 22, 26, 28, 30, 31, 33, 34, 35], [42, 46]), (38, [4, 6, 8, 9, 12, 13, 14, 15, 17, 19, 20, 21, 22], [40, 41, 42, 46]), (40, [4, 6, 8, 9, 12, 13, 14, 15, 17, 19, 20, 21, 22, 38], [41, 42, 46]), (41, [4, 6, 8, 9, 12, 13, 14, 15, 17, 19, 20, 21, 22, 38, 40], [42, 46]), (42, [4, 6, 8, 9, 12, 13, 14, 15, 17, 19, 20, 21, 22, 26, 28, 30, 31, 33, 34, 35, 36, 38, 40, 41], [46]), (46, [4, 6, 8, 9, 12, 13, 14, 15, 17, 19, 20, 21, 22, 26, 28, 30, 31, 33, 34, 35, 36, 38, 40, 41, 42], [])] () rfl (by kernel_rfl) (by kernel_rfl) F S.drew ?_ ?_ ?_ ?_ ?_
                      · rintro ⟨⟩; rfl
                      · rintro ⟨⟩; kernel_rfl
                      · intro D D' x h
                        cases x
                        rfl
                      · refine ⟨?_, ?_⟩
                        · refine ⟨_, rfl, rfl, by kernel_rfl, ?_⟩
                          rintro D ⟨⟩ a z S F
                          refine ⟨by kernel_rfl, ?_⟩
                          exact op_load _ _ (some ⟨b7, 0, none⟩) 1 (.slice A5 x.edges.length c6) F rfl (by kernel_rfl) (by kernel_rfl) (cBox S 4 rfl (j := 1) rfl) (⟨(), rfl, (SameB.refl _ _ rfl), S⟩)
                        refine ⟨?_, ?_⟩
                        · refine ⟨_, rfl, rfl, by kernel_rfl, ?_⟩
                          rintro D ⟨⟩ a z S F
                          refine ⟨by kernel_rfl, ?_⟩
                          exact op_load _ _ (some ⟨b13, 0, none⟩) 1 (.slice m1.A2 m1.r.edges.length m1.c2) F rfl (by kernel_rfl) (by kernel_rfl) (cBox S 9 rfl (j := 1) rfl) (⟨(), rfl, (SameB.refl _ _ rfl), S⟩)
                        refine ⟨?_, ?_⟩
                        · refine ⟨_, rfl, rfl, by kernel_rfl, ?_⟩
                          rintro D ⟨⟩ a z S F
                          refine ⟨by kernel_rfl, ?_⟩
                          exact op_index _ 3 _ _ m1.A2 m1.r.edges.length m1.c2 k 1 .i64 F rfl (by kernel_rfl) (by kernel_rfl) (by kernel_rfl) (by kernel_rfl) (get_lt hek) (recs_some (bag_edges S 6 rfl hgm1.1 (by omega)) (m := k) (get_lt hek)) (⟨(), rfl, (SameB.refl _ _ rfl), S⟩)
                        refine ⟨?_, ?_⟩
                        · refine ⟨_, rfl, rfl, by kernel_rfl, ?_⟩
                          rintro D ⟨⟩ a z S F
                          refine ⟨by kernel_rfl, ?_⟩
                          exact op_load _ _ m1.A2 (k * 1) (.int .i64 (j : Nat)) F rfl (by kernel_rfl) (by kernel_rfl) (recs_cell iC_len_i64 (bag_edges S 6 rfl hgm1.1 (by omega)) 0 hek rfl) (⟨(), rfl, (SameB.refl _ _ rfl), S⟩)
                        refine ⟨?_, ?_⟩
                        · refine ⟨_, rfl, rfl, by kernel_rfl, ?_⟩
                          rintro D ⟨⟩ a z S F
                          refine ⟨by kernel_rfl, ?_⟩
                          exact op_index _ 62 _ _ A5 x.edges.length c6 j 8 .i64 F rfl (by kernel_rfl) (by kernel_rfl) (by kernel_rfl) (by kernel_rfl) (get_lt hed) (row_some S 3 rfl (m := j) (get_lt hed)) (⟨(), rfl, (SameB.refl _ _ rfl), S⟩)
                        refine ⟨?_, ?_⟩
                        · refine ⟨_, rfl, rfl, by kernel_rfl, ?_⟩
                          rintro D ⟨⟩ a z S F
                          refine ⟨by kernel_rfl, ?_⟩
                          exact op_field _ _ _ A5 (j * 8) 0 F rfl (by kernel_rfl) (by kernel_rfl) (row_some S 3 rfl (m := j) (get_lt hed)) (⟨(), rfl, (SameB.refl _ _ rfl), S⟩)
                        refine ⟨?_, ?_⟩
                        · refine ⟨_, rfl, rfl, by kernel_rfl, ?_⟩
                          rintro D ⟨⟩ a z S F
                          refine ⟨by kernel_rfl, ?_⟩
                          exact op_indexArr _ 3 _ _ A5 (j * 8) 2 0 1 .i64 F rfl (by kernel_rfl) (by kernel_rfl) (by kernel_rfl) (by kernel_rfl) (by decide) (row_some S 3 rfl (m := j) (get_lt hed)) (⟨(), rfl, (SameB.refl _ _ rfl), S⟩)
                        refine ⟨?_, ?_⟩
                        · refine ⟨_, rfl, rfl, by kernel_rfl, ?_⟩
                          rintro D ⟨⟩ a z S F
                          refine ⟨by kernel_rfl, ?_⟩
                          exact op_load _ _ A5 (j * 8) (.int .i64 ed.a) F rfl (by kernel_rfl) (by kernel_rfl) (cRec S 3 edC_len rfl 0 hed rfl) (⟨(), rfl, (SameB.refl _ _ rfl), S⟩)
                        refine ⟨?_, ?_⟩
                        · refine ⟨_, rfl, rfl, by kernel_rfl, ?_⟩
                          rintro D ⟨⟩ a z S F
                          refine ⟨by kernel_rfl, ?_⟩
                          exact op_load _ _ (some ⟨b13, 0, none⟩) 0 (.slice m1.A1 m1.r.nodes.length m1.c1) F rfl (by kernel_rfl) (by kernel_rfl) (cBox S 9 rfl (j := 0) rfl) (⟨(), rfl, (SameB.refl _ _ rfl), S⟩)
                        refine ⟨?_, ?_⟩
                        · refine ⟨_, rfl, rfl, by kernel_rfl, ?_⟩
                          rintro D ⟨⟩ a z S F
                          refine ⟨by kernel_rfl, ?_⟩
                          exact op_pure F (v0 := .int .i64 (IntKind.wrap .i64 ((k : Nat) + 1))) (v := .int .i64 (k + 1 : Nat)) (by kernel_rfl) (wrn_i64 (by omega) (by omega) (by omega)) ⟨(), rfl, (SameB.refl _ _ rfl), S⟩
                        refine ⟨?_, ?_⟩
                        · refine ⟨_, rfl, rfl, by kernel_rfl, ?_⟩
                          rintro D ⟨⟩ a z S F
                          refine ⟨by kernel_rfl, ?_⟩
                          exact op_index _ 3 _ _ m1.A1 m1.r.nodes.length m1.c1 (k + 1) 1 .i64 F rfl (by kernel_rfl) (by kernel_rfl) (by kernel_rfl) (by kernel_rfl) (get_lt hnk1) (recs_some (bag_nodes S 6 rfl hgm1.1 (by omega)) (m := k + 1) (get_lt hnk1)) (⟨(), rfl, (SameB.refl _ _ rfl), S⟩)
                        refine ⟨?_, ?_⟩
                        · refine ⟨_, rfl, rfl, by kernel_rfl, ?_⟩
                          rintro D ⟨⟩ a z S F
                          refine ⟨by kernel_rfl, ?_⟩
                          exact op_load _ _ m1.A1 ((k + 1) * 1) (.int .i64 nk1) F rfl (by kernel_rfl) (by kernel_rfl) (recs_cell iC_len_i64 (bag_nodes S 6 rfl hgm1.1 (by omega)) 0 hnk1 rfl) (⟨(), rfl, (SameB.refl _ _ rfl), S⟩)
                        refine ⟨?_, ?_⟩
                        · refine ⟨_, rfl, rfl, by kernel_rfl, ?_⟩
                          rintro D ⟨⟩ a z S F
                          refine ⟨by kernel_rfl, ?_⟩
                          exact op_pure F (v0 := .bool ((ed.a : Int) != (nk1 : Int))) (v := .bool false) (by kernel_rfl) (neqF hb1) ⟨(), rfl, (SameB.refl _ _ rfl), S⟩
                        refine ⟨?_, ?_⟩
                        · refine ⟨_, rfl, rfl, by kernel_rfl, ?_⟩
                          rintro D ⟨⟩ a z S F
                          refine ⟨by kernel_rfl, ?_⟩
                          exact op_load _ _ (some ⟨b7, 0, none⟩) 1 (.slice A5 x.edges.length c6) F rfl (by kernel_rfl) (by kernel_rfl) (cBox S 4 rfl (j := 1) rfl) (⟨(), rfl, (SameB.refl _ _ rfl), S⟩)
                        refine ⟨?_, ?_⟩
                        · refine ⟨_, rfl, rfl, by kernel_rfl, ?_⟩
                          rintro D ⟨⟩ a z S F
                          refine ⟨by kernel_rfl, ?_⟩
                          exact op_load _ _ (some ⟨b13, 0, none⟩) 1 (.slice m1.A2 m1.r.edges.length m1.c2) F rfl (by kernel_rfl) (by kernel_rfl) (cBox S 9 rfl (j := 1) rfl) (⟨(), rfl, (SameB.refl _ _ rfl), S⟩)
                        refine ⟨?_, ?_⟩
                        · refine ⟨_, rfl, rfl, by kernel_rfl, ?_⟩
                          rintro D ⟨⟩ a z S F
                          refine ⟨by kernel_rfl, ?_⟩
                          exact op_index _ 3 _ _ m1.A2 m1.r.edges.length m1.c2 k 1 .i64 F rfl (by kernel_rfl) (by kernel_rfl) (by kernel_rfl) (by kernel_rfl) (get_lt hek) (recs_some (bag_edges S 6 rfl hgm1.1 (by omega)) (m := k) (get_lt hek)) (⟨(), rfl, (SameB.refl _ _ rfl), S⟩)
                        refine ⟨?_, ?_⟩
                        · refine ⟨_, rfl, rfl, by kernel_rfl, ?_⟩
                          rintro D ⟨⟩ a z S F
                          refine ⟨by kernel_rfl, ?_⟩
                          exact op_load _ _ m1.A2 (k * 1) (.int .i64 (j : Nat)) F rfl (by kernel_rfl) (by kernel_rfl) (recs_cell iC_len_i64 (bag_edges S 6 rfl hgm1.1 (by omega)) 0 hek rfl) (⟨(), rfl, (SameB.refl _ _ rfl), S⟩)
                        refine ⟨?_, ?_⟩
                        · refine ⟨_, rfl, rfl, by kernel_rfl, ?_⟩
                          rintro D ⟨⟩ a z S F
                          refine ⟨by kernel_rfl, ?_⟩
                          exact op_index _ 62 _ _ A5 x.edges.length c6 j 8 .i64 F rfl (by kernel_rfl) (by kernel_rfl) (by kernel_rfl) (by kernel_rfl) (get_lt hed) (row_some S 3 rfl (m := j) (get_lt hed)) (⟨(), rfl, (SameB.refl _ _ rfl), S⟩)
                        refine ⟨?_, ?_⟩
                        · refine ⟨_, rfl, rfl, by kernel_rfl, ?_⟩
                          rintro D ⟨⟩ a z S F
                          refine ⟨by kernel_rfl, ?_⟩
                          exact op_field _ _ _ A5 (j * 8) 2 F rfl (by kernel_rfl) (by kernel_rfl) (row_some S 3 rfl (m := j) (get_lt hed)) (⟨(), rfl, (SameB.refl _ _ rfl), S⟩)
                        refine ⟨?_, ?_⟩
                        · refine ⟨_, rfl, rfl, by kernel_rfl, ?_⟩
                          rintro D ⟨⟩ a z S F
                          refine ⟨by kernel_rfl, ?_⟩
                          exact op_indexArr _ 26 _ _ A5 (j * 8 + 2) 2 1 1 .i64 F rfl (by kernel_rfl) (by kernel_rfl) (by kernel_rfl) (by kernel_rfl) (by decide) (row_some S 3 rfl (m := j) (get_lt hed)) (⟨(), rfl, (SameB.refl _ _ rfl), S⟩)
                        refine ⟨?_, ?_⟩
                        · refine ⟨_, rfl, rfl, by kernel_rfl, ?_⟩
                          rintro D ⟨⟩ a z S F
                          refine ⟨by kernel_rfl, ?_⟩
                          exact op_load _ _ A5 (j * 8 + 3) (.int .u64 ed.c1) F rfl (by kernel_rfl) (by kernel_rfl) (cRec S 3 edC_len rfl 3 hed rfl) (⟨(), rfl, (SameB.refl _ _ rfl), S⟩)
                        refine ⟨?_, ?_⟩
                        · refine ⟨_, rfl, rfl, by kernel_rfl, ?_⟩
                          rintro D ⟨⟩ a z S F
                          refine ⟨by kernel_rfl, ?_⟩
                          exact op_load _ _ (some ⟨b13, 0, none⟩) 2 (.slice m1.A3 m1.r.amts.length m1.c3) F rfl (by kernel_rfl) (by kernel_rfl) (cBox S 9 rfl (j := 2) rfl) (⟨(), rfl, (SameB.refl _ _ rfl), S⟩)
                        refine ⟨?_, ?_⟩
                        · refine ⟨_, rfl, rfl, by kernel_rfl, ?_⟩
                          rintro D ⟨⟩ a z S F
                          refine ⟨by kernel_rfl, ?_⟩
                          exact op_index _ 26 _ _ m1.A3 m1.r.amts.length m1.c3 k 1 .i64 F rfl (by kernel_rfl) (by kernel_rfl) (by kernel_rfl) (by kernel_rfl) (get_lt hak) (recs_some (bag_amts S 6 rfl hgm1.1 (by omega)) (m := k) (get_lt hak)) (⟨(), rfl, (SameB.refl _ _ rfl), S⟩)
                        refine ⟨?_, ?_⟩
                        · refine ⟨_, rfl, rfl, by kernel_rfl, ?_⟩
                          rintro D ⟨⟩ a z S F
                          refine ⟨by kernel_rfl, ?_⟩
                          exact op_load _ _ m1.A3 (k * 1) (.int .u64 ak) F rfl (by kernel_rfl) (by kernel_rfl) (recs_cell iC_len_u64 (bag_amts S 6 rfl hgm1.1 (by omega)) 0 hak rfl) (⟨(), rfl, (SameB.refl _ _ rfl), S⟩)
                        refine ⟨?_, ?_⟩
                        · refine ⟨_, rfl, rfl, by kernel_rfl, ?_⟩
                          rintro D ⟨⟩ a z S F
                          refine ⟨by kernel_rfl, ?_⟩
                          exact op_pure F (v0 := .bool (decide ((ed.c1 : Int) < (ak : Int)))) (v := .bool false) (by kernel_rfl) (lssF (Int.not_lt.2 hcan)) ⟨(), rfl, (SameB.refl _ _ rfl), S⟩
                        refine ⟨?_, ?_⟩
                        · refine ⟨_, rfl, rfl, by kernel_rfl, ?_⟩
                          rintro D ⟨⟩ a z S F
                          refine ⟨by kernel_rfl, ?_⟩
                          exact op_pure F (v0 := .bool (decide (((k : Nat) : Int) > (0 : Int)))) (v := .bool false) (by kernel_rfl) (gtrF ht20) ⟨(), rfl, (SameB.refl _ _ rfl), S⟩
                        trivial
                      · rintro ⟨⟩ a z F S
                        have F := F.sub (l := [(1, .int .i64 from_), (2, .int .i64 to), (3, .int .u64 am), (9, .pointer (some ⟨b7, 0, none⟩)), (12, .pointer (some ⟨b9, 0, none⟩)), (15, .pointer (some ⟨b13, 0, none⟩)), (16, .int .i64 (m1.r.edges.length : Nat)), (17, .map (some r14)), (62, .slice Al R2.length cl), (63, .int .i64 (R2.length : Nat)), (64, .int .i64 (i : Nat)), (142, .slice m1.A1 m1.r.nodes.length m1.c1), (143, .int .i64 (m1.r.nodes.length : Nat)), (144, .int .i64 (k : Nat)), (229, .bool false)]) ⟨by kernel_rfl, by kernel_rfl, by kernel_rfl, by kernel_rfl, by kernel_rfl, by kernel_rfl, by kernel_rfl, by kernel_rfl, by kernel_rfl, by kernel_rfl, by kernel_rfl, by kernel_rfl, by kernel_rfl, by kernel_rfl, by kernel_rfl, trivial⟩
                        have S : Sat w z [rest w (· < w.heap.size), box b1 25 [.slice As x.spots.length cs, .slice Ae x.edges.length ce], row 107 2 (.slice A3 x.spots.length c4) x.spots.length (x.spots.flatMap spC), row 62 8 (.slice A5 x.edges.length c6) x.edges.length (x.edges.flatMap edC), box b7 32 [.slice A3 x.spots.length c4, .slice A5 x.edges.length c6], row 47 3 (.slice Al R2.length cl) R2.length (R2.flatMap rtC), bag (R2.flatMap rtRows), bag (R3.flatMap rtRows), box b9 47 [.slice mb.A1 mb.r.nodes.length mb.c1, .slice mb.A2 mb.r.edges.length mb.c2, .slice mb.A3 mb.r.amts.length mb.c3], box b13 47 [.slice m1.A1 m1.r.nodes.length m1.c1, .slice m1.A2 m1.r.edges.length m1.c2, .slice m1.A3 m1.r.amts.length m1.c3], mapA r14 .i64 (putM es nk (.bool true) ck) (putC es nk ck)] := S
                        refine then_n ?_
                        refine c_f F rfl ?_
                        refine wp_skip ?_
                        refine inb_n ?_
                        refine then_n ?_
                        refine wp_region_list ?_
                        refine l_do F rfl rfl (op_pure F (v0 := .int .i64 (IntKind.wrap .i64 ((k : Nat) + 1))) (v := .int .i64 (k + 1 : Nat)) (by kernel_rfl) (wrn_i64 (by omega) (by omega) (by omega)) fun a F => ?_)
                        refine l_pure 1 (fun L => (144, .int .i64 (k + 1 : Nat)) :: L) F (by kernel_rfl) fun a F => ?_
                        refine l_then ?_
                        exact ⟨_, (by omega), k + 1, putM es nk (.bool true) ck, putC es nk ck, rfl, (by omega), (seen_put hnk hseen), F.sub ⟨by kernel_rfl, by kernel_rfl, by kernel_rfl, by kernel_rfl, by kernel_rfl, by kernel_rfl, by kernel_rfl, by kernel_rfl, by kernel_rfl, by kernel_rfl, by kernel_rfl, by kernel_rfl, by kernel_rfl, by kernel_rfl, trivial⟩, S⟩
            · skip
              refine l_do F rfl rfl (op_pure F (v0 := .bool (decide (((k : Nat) : Int) < ((m1.r.nodes.length : Nat) : Int)))) (v := .bool false) (by kernel_rfl) (lssF ht17) fun a F => ?_)
              refine l_then ?_
              refine wp_seq ?_
              refine c_f F rfl ?_
              refine wp_exit ?_
              refine then_x ?_
              refine then_x ?_
              refine inb_x ?_
              refine inb_n ?_
              refine then_n ?_
              refine wp_region_list ?_
              refine l_do F rfl rfl (op_pure F (v0 := .int .i64 (IntKind.wrap .i64 ((i : Nat) + 1))) (v := .int .i64 (i + 1 : Nat)) (by kernel_rfl) (wrn_i64 (by omega) (by omega) (by omega)) fun a F => ?_)
              refine l_pure 1 (fun L => (64, .int .i64 (i + 1 : Nat)) :: L) F (by kernel_rfl) fun a F => ?_
              refine l_then ?_
              exact ⟨_, (by omega), i + 1, rfl, (by omega), F.sub ⟨by kernel_rfl, by kernel_rfl, by kernel_rfl, by kernel_rfl, by kernel_rfl, by kernel_rfl, by kernel_rfl, by kernel_rfl, trivial⟩, (S.pick [0, 1, 2, 3, 4, 5, 6, 7, 8] (by decide))⟩
        · skip
          refine l_do F rfl rfl (op_pure F (v0 := .bool (decide (((i : Nat) : Int) < ((R2.length : Nat) : Int)))) (v := .bool false) (by kernel_rfl) (lssF ht12) fun a F => ?_)
          refine l_then ?_
          refine wp_seq ?_
          refine c_f F rfl ?_
          refine wp_exit ?_
          refine then_x ?_
          refine then_x ?_
          refine inb_x ?_
          refine then_n ?_
          refine s_reg ?_
          refine l_do F rfl rfl (op_fn F (by kernel_rfl) (awake08_any _) ?_)
          rintro e z ⟨rfl, hb⟩
          have S := S.grow hb
          refine ⟨_, rfl, ?_⟩
          intro a F
          refine l_pure 1 (fun L => (8, .bool true) :: L) F (by kernel_rfl) fun a F => ?_
          refine l_then ?_
          refine wp_ret ?_
          exact fin F [.tmp 8] [.bool true] rfl ⟨by kernel_rfl, trivial⟩ (.bool true) rfl ⟨rfl, S.below (i := 0) rfl⟩
      · skip
        have hz0 : R2.length = 0 := by
          have h9 := (best_iff (x := x) (from_ := from_) (to := to) (am := am) hr)
          rw [hlen2]
          omega
        refine l_do F rfl rfl (op_pure F (v0 := .bool (((bestRt x from_ to am).2 : Int) == (0 : Int))) (v := .bool false) (by kernel_rfl) (eqlF ht10) fun a F => ?_)
        refine l_pure 2 (fun L => (54, .int .i64 (R2.length : Nat)) :: (53, .slice Al R2.length cl) :: L) F (by kernel_rfl) fun a F => ?_
        refine l_do F rfl rfl (op_pure F (v0 := .bool (decide (((R2.length : Nat) : Int) > (0 : Int)))) (v := .bool false) (by kernel_rfl) (gtrF (by omega)) fun a F => ?_)
        refine l_pure 4 (fun L => (59, .int .i64 (R2.length : Nat)) :: (58, .slice Al R2.length cl) :: (57, .bool false) :: (56, .bool false) :: L) F (by kernel_rfl) fun a F => ?_
        refine l_do F rfl rfl (op_pure F (v0 := .bool (decide (((R2.length : Nat) : Int) > (32 : Int)))) (v := .bool false) (by kernel_rfl) (gtrF (by omega)) fun a F => ?_)
        refine l_pure 1 (fun L => (61, .bool false) :: L) F (by kernel_rfl) fun a F => ?_
        refine l_then ?_
        refine c_f F rfl ?_
        refine wp_skip ?_
        refine then_n ?_
        refine wp_seq ?_
        refine s_reg ?_
        refine l_pure 3 (fun L => (64, .int .i64 0) :: (63, .int .i64 (R2.length : Nat)) :: (62, .slice Al R2.length cl) :: L) F (by kernel_rfl) fun a F => ?_
        refine l_then ?_
        refine wp_block ?_
        refine wp_loop_m (fun m a z => ∃ (i : Nat), m = R2.length - i ∧ (i ≤ R2.length) ∧ Fr a 233 [(1, .int .i64 from_), (2, .int .i64 to), (3, .int .u64 am), (9, .pointer (some ⟨b7, 0, none⟩)), (12, .pointer (some ⟨b9, 0, none⟩)), (62, .slice Al R2.length cl), (63, .int .i64 (R2.length : Nat)), (64, .int .i64 (i : Nat))] ∧ Sat w z [rest w (· < w.heap.size), box b1 25 [.slice As x.spots.length cs, .slice Ae x.edges.length ce], row 107 2 (.slice A3 x.spots.length c4) x.spots.length (x.spots.flatMap spC), row 62 8 (.slice A5 x.edges.length c6) x.edges.length (x.edges.flatMap edC), box b7 32 [.slice A3 x.spots.length c4, .slice A5 x.edges.length c6], row 47 3 (.slice Al R2.length cl) R2.length (R2.flatMap rtC), bag (R2.flatMap rtRows), bag (R3.flatMap rtRows), box b9 47 [.slice mb.A1 mb.r.nodes.length mb.c1, .slice mb.A2 mb.r.edges.length mb.c2, .slice mb.A3 mb.r.amts.length mb.c3]]) _ ⟨0, rfl, Nat.zero_le _, F.sub ⟨by kernel_rfl, by kernel_rfl, by kernel_rfl, by kernel_rfl, by kernel_rfl, by kernel_rfl, by kernel_rfl, by kernel_rfl, trivial⟩, S⟩ ?_
        rintro m a z ⟨i, hm, hf21, F, S⟩
        refine s_reg ?_
        by_cases ht22 : ((i : Nat) : Int) < ((R2.length : Nat) : Int)
        · exact absurd ht22 (by omega)
        · skip
          refine l_do F rfl rfl (op_pure F (v0 := .bool (decide (((i : Nat) : Int) < ((R2.length : Nat) : Int)))) (v := .bool false) (by kernel_rfl) (lssF ht22) fun a F => ?_)
          refine l_then ?_
          refine wp_seq ?_
          refine c_f F rfl ?_
          refine wp_exit ?_
          refine then_x ?_
          refine then_x ?_
          refine inb_x ?_
          refine then_n ?_
          refine s_reg ?_
          refine l_do F rfl rfl (op_fn F (by kernel_rfl) (awake08_any _) ?_)
          rintro e z ⟨rfl, hb⟩
          have S := S.grow hb
          refine ⟨_, rfl, ?_⟩
          intro a F
          refine l_pure 1 (fun L => (8, .bool true) :: L) F (by kernel_rfl) fun a F => ?_
          refine l_then ?_
          refine wp_ret ?_
          exact fin F [.tmp 8] [.bool true] rfl ⟨by kernel_rfl, trivial⟩ (.bool true) rfl ⟨rfl, S.below (i := 0) rfl⟩
    · skip
      have hr := ht8
      refine l_do F rfl rfl (op_pure F (v0 := .bool ((rightP x from_ to am : Int) != (0 : Int))) (v := .bool true) (by kernel_rfl) (neqT ht8) fun a F => ?_)
      refine l_then ?_
      refine c_t F rfl ?_
      refine s_reg ?_
      refine l_do F rfl rfl (op_fn F (by kernel_rfl) (awake08_any _) ?_)
      rintro e z ⟨rfl, hb⟩
      have S := S.grow hb
      refine ⟨_, rfl, ?_⟩
      intro a F
      refine l_pure 3 (fun L => (40, .int .i64 (R2.length : Nat)) :: (39, .slice Al R2.length cl) :: (38, .bool true) :: L) F (by kernel_rfl) fun a F => ?_
      refine l_do F rfl rfl (op_pure F (v0 := .bool (((R2.length : Nat) : Int) == (0 : Int))) (v := .bool true) (by kernel_rfl) (eqlT (by rw [hlen2, all_none hr]; rfl)) fun a F => ?_)
      refine l_pure 2 (fun L => (8, .bool true) :: (42, .bool true) :: L) F (by kernel_rfl) fun a F => ?_
      refine l_then ?_
      refine wp_ret ?_
      refine then_r (?_)
      exact fin F [.tmp 8] [.bool true] rfl ⟨by kernel_rfl, trivial⟩ (.bool true) rfl ⟨rfl, S.below (i := 0) rfl⟩
end Go.Proofs.Ytcfpbemoocegfaa
