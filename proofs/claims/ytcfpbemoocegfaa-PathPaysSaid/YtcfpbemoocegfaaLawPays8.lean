/- The law PathPays. -/
import Derived.Test.YtcfpbemoocegfaaSends8
import Derived.Test.YtcfpbemoocegfaaAwake08
import Derived.Test.YtcfpbemoocegfaaReadWeb
import Derived.Test.YtcfpbemoocegfaaWebFrom
namespace Go.Proofs.Ytcfpbemoocegfaa
set_option linter.unusedVariables false
set_option linter.unusedSimpArgs false
set_option linter.unnecessarySimpa false
open Go Go.RowKit

theorem want_start {x : Wb} (ok : x.Ok) (N A : List Int) (n : Int) : (sendsP x n).1 = IntKind.wrap .u64 ((sendsP x n).1 + wantP N A n 0) := by
  have hu := sends_u ok n
  unfold U64 at hu
  rw [wantP, IntKind.wrap_u64]; omega
set_option maxRecDepth 100000 in
set_option maxHeartbeats 4000000 in
theorem pays_law (w : World) (As : Option Addr) (cs : Nat) (Ae : Option Addr) (ce : Nat) (x : Wb) (h : WebAt w As cs Ae ce x) (ok : x.Ok) (from_ to am : Int) (hua : U64 am) : Calls Try.prog 6 #[.agg #[.slice As x.spots.length cs, .slice Ae x.edges.length ce], .int .i64 from_, .int .i64 to, .int .u64 am] w fun e w' => e = .returned (.bool true) ∧ Below w.heap.size w w' := by
 refine enter 161 Try.func6 rfl rfl rfl fun a F => ?_
 have S := Sat.pushRest w
 refine s_reg ?_
 refine l_do F rfl rfl (op_box S _ _ (.agg #[.slice As x.spots.length cs, .slice Ae x.edges.length ce]) F rfl (by kernel_rfl) fun b1 z S a F => ?_)
 refine l_pure 1 (fun L => (8, .bool false) :: L) F (by kernel_rfl) fun a F => ?_
 refine l_then ?_
 refine wp_seq ?_
 refine s_reg ?_
 refine l_do F rfl rfl (op_loadK _ _ (some ⟨b1, 0, none⟩) 0 [.slice As x.spots.length cs, .slice Ae x.edges.length ce] F rfl (by kernel_rfl) (by kernel_rfl) (by kernel_rfl) (by simp) (cBoxK S 1 rfl 0 (by kernel_rfl)) (fun a F => ?_))
 cases hb2 : (lightP x) with
 | false =>
  refine l_do F rfl rfl (op_fn F (by kernel_rfl) (light_any _ As cs Ae ce x) ?_)
  rintro e z ⟨rfl, hb⟩
  have S := S.grow hb
  refine ⟨_, rfl, ?_⟩
  rw [hb2]
  intro a F
  refine l_pure 1 (fun L => (28, .bool true) :: L) F (by kernel_rfl) fun a F => ?_
  refine l_then ?_
  refine c_t F rfl ?_
  refine s_reg ?_
  refine l_do F rfl rfl (op_fn F (by kernel_rfl) (awake08_any _) ?_)
  rintro e z ⟨rfl, hb⟩
  have S := S.grow hb
  refine ⟨_, rfl, ?_⟩
  intro a F
  refine l_pure 1 (fun L => (8, .bool true) :: L) F (by kernel_rfl) fun a F => ?_
  refine l_then ?_
  refine wp_ret ?_
  refine then_r (?_)
  exact fin F [.tmp 8] [.bool true] rfl ⟨by kernel_rfl, trivial⟩ (.bool true) rfl ⟨rfl, S.below (i := 0) rfl⟩
 | true =>
  obtain ⟨l1, l2, l3, l4⟩ := light_small hb2
  refine l_do F rfl rfl (op_fn F (by kernel_rfl) (light_any _ As cs Ae ce x) ?_)
  rintro e z ⟨rfl, hb⟩
  have S := S.grow hb
  refine ⟨_, rfl, ?_⟩
  rw [hb2]
  intro a F
  refine l_pure 1 (fun L => (28, .bool false) :: L) F (by kernel_rfl) fun a F => ?_
  refine l_then ?_
  refine c_f F rfl ?_
  refine wp_skip ?_
  refine then_n ?_
  refine s_reg ?_
  refine l_do F rfl rfl (op_loadK _ _ (some ⟨b1, 0, none⟩) 0 [.slice As x.spots.length cs, .slice Ae x.edges.length ce] F rfl (by kernel_rfl) (by kernel_rfl) (by kernel_rfl) (by simp) (cBoxK S 1 rfl 0 (by kernel_rfl)) (fun a F => ?_))
  refine l_do F rfl rfl (op_fn F (by kernel_rfl) (to_any _ As cs Ae ce x (h.move S rfl) ok ⟨l1, l2⟩) ?_)
  rintro e z ⟨A3, c4, A5, c6, rfl, g⟩
  have S := S.pushThings g
  refine ⟨_, rfl, ?_⟩
  intro a F
  refine l_do F rfl rfl (op_alloc S _ (.agg #[.slice none 0 0, .slice none 0 0]) rfl (by kernel_rfl) fun b7 z S a F => ?_)
  refine l_do F rfl rfl (op_storeB S 4 _ _ _ b7 0 (.agg #[.slice A3 x.spots.length c4, .slice A5 x.edges.length c6]) F rfl rfl (by kernel_rfl) (by kernel_rfl) (by kernel_rfl) (by kernel_rfl) (by kernel_rfl) fun z S a F => ?_)
  refine l_then ?_
  refine s_reg ?_
  refine l_do F rfl rfl (op_loadK _ _ (some ⟨b7, 0, none⟩) 0 [.slice A3 x.spots.length c4, .slice A5 x.edges.length c6] F rfl (by kernel_rfl) (by kernel_rfl) (by kernel_rfl) (by simp) (cBoxK S 4 rfl 0 (by kernel_rfl)) (fun a F => ?_))
  refine l_pure 3 (fun L => (36, .int .u64 am) :: (35, .int .i64 to) :: (34, .int .i64 from_) :: L) F (by kernel_rfl) fun a F => ?_
  refine l_do F rfl rfl (op_fn F (by kernel_rfl) (pbest_any _ A3 c4 A5 c6 x (WebAt.ofNew (x := x) (w := w) S (i := 2) (j := 3) rfl rfl ⟨l1, l2⟩) ok from_ to am hua (by omega)) ?_)
  rintro e z ⟨mb, R3, rfl, hmb1, hmbR, hmb3, hmb4, g⟩
  have S := S.pushThings g
  refine ⟨_, rfl, ?_⟩
  intro a F
  refine l_pure 3 (fun L => (39, .int .i64 ((bestRt x from_ to am).2)) :: (38, .agg #[.slice mb.A1 mb.r.nodes.length mb.c1, .slice mb.A2 mb.r.edges.length mb.c2, .slice mb.A3 mb.r.amts.length mb.c3]) :: (32, .tuple #[.agg #[.slice mb.A1 mb.r.nodes.length mb.c1, .slice mb.A2 mb.r.edges.length mb.c2, .slice mb.A3 mb.r.amts.length mb.c3], .int .i64 ((bestRt x from_ to am).2)]) :: L) F (by kernel_rfl) fun a F => ?_
  refine l_do F rfl rfl (op_alloc S _ (.agg #[.slice none 0 0, .slice none 0 0, .slice none 0 0]) rfl (by kernel_rfl) fun b8 z S a F => ?_)
  refine l_do F rfl rfl (op_storeB S 6 _ _ _ b8 0 (.agg #[.slice mb.A1 mb.r.nodes.length mb.c1, .slice mb.A2 mb.r.edges.length mb.c2, .slice mb.A3 mb.r.amts.length mb.c3]) F rfl rfl (by kernel_rfl) (by kernel_rfl) (by kernel_rfl) (by kernel_rfl) (by kernel_rfl) fun z S a F => ?_)
  refine l_pure 1 (fun L => (11, .int .i64 ((bestRt x from_ to am).2)) :: L) F (by kernel_rfl) fun a F => ?_
  refine l_then ?_
  refine wp_seq ?_
  refine s_reg ?_
  refine l_pure 1 (fun L => (40, .int .i64 ((bestRt x from_ to am).2)) :: L) F (by kernel_rfl) fun a F => ?_
  by_cases ht9 : ((bestRt x from_ to am).2 : Int) = (0 : Int)
  ·
   skip
   have hb0 := ht9
   have hmbm := hmb3 hb0
   obtain ⟨kb, hkb, hkb2⟩ := List.getElem_of_mem hmbm
   have hgm := good_of hmbR (i := kb) (m := mb) (by rw [List.getElem?_eq_getElem hkb, hkb2])
   have hr := (best_of hb0 hmb1).1
   have hs := good_snd ok hua hgm.2.1 hr
   have hn1 := hs.way.len
   have hn2 := hs.alen
   have hn3 := hs.few
   have hn4 := hs.one
   have hc : chkP x = 0 := (right_zero hr).1
   obtain ⟨yr, er, hg⟩ : ∃ yr er, goX x mb.r.edges mb.r.nodes mb.r.amts = (yr, er) := ⟨_, _, rfl⟩
   obtain ⟨okr, hr3, hr4⟩ := goX_fit ok hs.au hg
   have hr1 : yr.spots.length ≤ 1000 := by omega
   have hr2 : yr.edges.length ≤ 1000 := by omega
   obtain ⟨hpay1, hpay2⟩ := pays_ok ok hc hs hg
   have hslast : mb.r.nodes[mb.r.nodes.length - 1]? = some to := by
     rw [show mb.r.nodes.length - 1 = mb.r.edges.length from by omega]
     exact hs.last
   refine l_do F rfl rfl (op_pure F (v0 := .bool (((bestRt x from_ to am).2 : Int) != (0 : Int))) (v := .bool false) (by kernel_rfl) (neqF ht9) fun a F => ?_)
   refine l_then ?_
   refine c_f F rfl ?_
   refine wp_skip ?_
   refine then_n ?_
   refine wp_seq ?_
   refine s_reg ?_
   refine l_pure 1 (fun L => (43, .pointer (some ⟨b1, 0, none⟩)) :: L) F (by kernel_rfl) fun a F => ?_
   refine l_do F rfl rfl (op_load _ _ (some ⟨b1, 0, none⟩) 0 (.slice As x.spots.length cs) F rfl (by kernel_rfl) (by kernel_rfl) (cBox S 1 rfl (j := 0) rfl) (fun a F => ?_))
   refine l_pure 2 (fun L => (46, .int .i64 0) :: (45, .int .i64 (x.spots.length : Nat)) :: L) F (by kernel_rfl) fun a F => ?_
   refine l_then ?_
   refine wp_block ?_
   refine wp_loop_m (fun m a z => ∃ (i : Nat), m = x.spots.length - i ∧ (i ≤ x.spots.length) ∧ (∀ m : Nat, m < i → (sendsP x (m : Nat)).2 = 0) ∧ Fr a 161 [(1, .int .i64 from_), (2, .int .i64 to), (4, .pointer (some ⟨b1, 0, none⟩)), (9, .pointer (some ⟨b7, 0, none⟩)), (10, .pointer (some ⟨b8, 0, none⟩)), (45, .int .i64 (x.spots.length : Nat)), (46, .int .i64 (i : Nat))] ∧ Sat w z [rest w (· < w.heap.size), box b1 25 [.slice As x.spots.length cs, .slice Ae x.edges.length ce], row 107 2 (.slice A3 x.spots.length c4) x.spots.length (x.spots.flatMap spC), row 62 8 (.slice A5 x.edges.length c6) x.edges.length (x.edges.flatMap edC), box b7 32 [.slice A3 x.spots.length c4, .slice A5 x.edges.length c6], bag (R3.flatMap rtRows), box b8 47 [.slice mb.A1 mb.r.nodes.length mb.c1, .slice mb.A2 mb.r.edges.length mb.c2, .slice mb.A3 mb.r.amts.length mb.c3]]) _ ⟨0, rfl, Nat.zero_le _, (fun m hm => absurd hm (Nat.not_lt_zero m)), F.sub ⟨by kernel_rfl, by kernel_rfl, by kernel_rfl, by kernel_rfl, by kernel_rfl, by kernel_rfl, by kernel_rfl, trivial⟩, S⟩ ?_
   rintro m a z ⟨i, hm, hf10, hf11, F, S⟩
   have hall := hf11
   refine s_reg ?_
   by_cases ht12 : ((i : Nat) : Int) < ((x.spots.length : Nat) : Int)
   ·
    skip
    refine l_do F rfl rfl (op_pure F (v0 := .bool (decide (((i : Nat) : Int) < ((x.spots.length : Nat) : Int)))) (v := .bool true) (by kernel_rfl) (lssT ht12) fun a F => ?_)
    refine l_then ?_
    refine wp_seq ?_
    refine c_t F rfl ?_
    refine wp_skip ?_
    refine then_n ?_
    refine wp_seq ?_
    refine wp_block ?_
    refine s_reg ?_
    refine l_pure 2 (fun L => (12, .int .i64 (i : Nat)) :: (48, .int .i64 (i : Nat)) :: L) F (by kernel_rfl) fun a F => ?_
    refine l_then ?_
    refine s_reg ?_
    refine l_do F rfl rfl (op_loadK _ _ (some ⟨b1, 0, none⟩) 0 [.slice As x.spots.length cs, .slice Ae x.edges.length ce] F rfl (by kernel_rfl) (by kernel_rfl) (by kernel_rfl) (by simp) (cBoxK S 1 rfl 0 (by kernel_rfl)) (fun a F => ?_))
    refine l_pure 1 (fun L => (51, .int .i64 (i : Nat)) :: L) F (by kernel_rfl) fun a F => ?_
    refine l_do F rfl rfl (op_fn F (by kernel_rfl) (sends8_any _ As cs Ae ce x (h.move S rfl) ok (i : Nat)) ?_)
    rintro e z ⟨rfl, hb⟩
    have S := S.grow hb
    refine ⟨_, rfl, ?_⟩
    intro a F
    refine l_pure 5 (fun L => (14, .int .i64 ((sendsP x (i : Nat)).2)) :: (13, .int .u64 ((sendsP x (i : Nat)).1)) :: (54, .int .i64 ((sendsP x (i : Nat)).2)) :: (53, .int .u64 ((sendsP x (i : Nat)).1)) :: (49, .tuple #[.int .u64 ((sendsP x (i : Nat)).1), .int .i64 ((sendsP x (i : Nat)).2)]) :: L) F (by kernel_rfl) fun a F => ?_
    refine l_then ?_
    refine s_reg ?_
    refine l_pure 1 (fun L => (55, .int .i64 ((sendsP x (i : Nat)).2)) :: L) F (by kernel_rfl) fun a F => ?_
    by_cases ht13 : ((sendsP x (i : Nat)).2 : Int) = (0 : Int)
    ·
     skip
     refine l_do F rfl rfl (op_pure F (v0 := .bool (((sendsP x (i : Nat)).2 : Int) != (0 : Int))) (v := .bool false) (by kernel_rfl) (neqF ht13) fun a F => ?_)
     refine l_then ?_
     refine c_f F rfl ?_
     refine wp_skip ?_
     refine inb_n ?_
     refine then_n ?_
     refine wp_region_list ?_
     refine l_do F rfl rfl (op_pure F (v0 := .int .i64 (IntKind.wrap .i64 ((i : Nat) + 1))) (v := .int .i64 (i + 1 : Nat)) (by kernel_rfl) (wrn_i64 (by omega) (by omega) (by omega)) fun a F => ?_)
     refine l_pure 1 (fun L => (46, .int .i64 (i + 1 : Nat)) :: L) F (by kernel_rfl) fun a F => ?_
     refine l_then ?_
     exact ⟨_, (by omega), i + 1, rfl, (by omega), (fun m hm => by
       by_cases hmi : m = i
       · subst hmi; exact ht13
       · exact hall m (by omega)), F.sub ⟨by kernel_rfl, by kernel_rfl, by kernel_rfl, by kernel_rfl, by kernel_rfl, by kernel_rfl, by kernel_rfl, trivial⟩, S⟩
    ·
     skip
     refine l_do F rfl rfl (op_pure F (v0 := .bool (((sendsP x (i : Nat)).2 : Int) != (0 : Int))) (v := .bool true) (by kernel_rfl) (neqT ht13) fun a F => ?_)
     refine l_then ?_
     refine c_t F rfl ?_
     refine s_reg ?_
     refine l_do F rfl rfl (op_fn F (by kernel_rfl) (awake08_any _) ?_)
     rintro e z ⟨rfl, hb⟩
     have S := S.grow hb
     refine ⟨_, rfl, ?_⟩
     intro a F
     refine l_pure 1 (fun L => (8, .bool true) :: L) F (by kernel_rfl) fun a F => ?_
     refine l_then ?_
     refine wp_ret ?_
     refine inb_r (then_r (then_r (inb_r (then_r (?_)))))
     exact fin F [.tmp 8] [.bool true] rfl ⟨by kernel_rfl, trivial⟩ (.bool true) rfl ⟨rfl, S.below (i := 0) rfl⟩
   ·
    skip
    refine l_do F rfl rfl (op_pure F (v0 := .bool (decide (((i : Nat) : Int) < ((x.spots.length : Nat) : Int)))) (v := .bool false) (by kernel_rfl) (lssF ht12) fun a F => ?_)
    refine l_then ?_
    refine wp_seq ?_
    refine c_f F rfl ?_
    refine wp_exit ?_
    refine then_x ?_
    refine then_x ?_
    refine inb_x ?_
    refine then_n ?_
    refine s_reg ?_
    refine l_do F rfl rfl (op_loadK _ _ (some ⟨b8, 0, none⟩) 0 [.slice mb.A1 mb.r.nodes.length mb.c1, .slice mb.A2 mb.r.edges.length mb.c2, .slice mb.A3 mb.r.amts.length mb.c3] F rfl (by kernel_rfl) (by kernel_rfl) (by kernel_rfl) (by simp) (cBoxK S 6 rfl 0 (by kernel_rfl)) (fun a F => ?_))
    refine l_do F rfl rfl (op_loadK _ _ (some ⟨b7, 0, none⟩) 0 [.slice A3 x.spots.length c4, .slice A5 x.edges.length c6] F rfl (by kernel_rfl) (by kernel_rfl) (by kernel_rfl) (by simp) (cBoxK S 4 rfl 0 (by kernel_rfl)) (fun a F => ?_))
    refine l_do F rfl rfl (op_fn F (by kernel_rfl) (goes_new _ A3 c4 A5 c6 x (WebAt.ofNew (x := x) (w := w) S (i := 2) (j := 3) rfl rfl ⟨l1, l2⟩) ok mb.A1 mb.c1 mb.r.nodes (bag_nodes S 5 rfl hmbm (by omega)) mb.A2 mb.c2 mb.r.edges (bag_edges S 5 rfl hmbm (by omega)) mb.A3 mb.c3 mb.r.amts (bag_amts S 5 rfl hmbm (by omega)) hs.au l1 l2 hg (fun h9 => absurd h9.2.1 (by omega))) ?_)
    rintro e z ⟨A14, c15, A16, c17, rfl, g⟩
    have S := S.pushThings g
    refine ⟨_, rfl, ?_⟩
    intro a F
    refine l_pure 3 (fun L => (64, .int .i64 er) :: (63, .agg #[.slice A14 yr.spots.length c15, .slice A16 yr.edges.length c17]) :: (59, .tuple #[.agg #[.slice A14 yr.spots.length c15, .slice A16 yr.edges.length c17], .int .i64 er]) :: L) F (by kernel_rfl) fun a F => ?_
    refine l_do F rfl rfl (op_alloc S _ (.agg #[.slice none 0 0, .slice none 0 0]) rfl (by kernel_rfl) fun b18 z S a F => ?_)
    refine l_do F rfl rfl (op_storeB S 9 _ _ _ b18 0 (.agg #[.slice A14 yr.spots.length c15, .slice A16 yr.edges.length c17]) F rfl rfl (by kernel_rfl) (by kernel_rfl) (by kernel_rfl) (by kernel_rfl) (by kernel_rfl) fun z S a F => ?_)
    refine l_pure 1 (fun L => (16, .int .i64 er) :: L) F (by kernel_rfl) fun a F => ?_
    refine l_then ?_
    refine wp_seq ?_
    refine s_reg ?_
    refine l_pure 1 (fun L => (65, .int .i64 er) :: L) F (by kernel_rfl) fun a F => ?_
    by_cases ht19 : (er : Int) = (11 : Int)
    ·
     skip
     refine l_do F rfl rfl (op_pure F (v0 := .bool ((er : Int) == (11 : Int))) (v := .bool true) (by kernel_rfl) (eqlT ht19) fun a F => ?_)
     refine l_then ?_
     refine c_t F rfl ?_
     refine s_reg ?_
     refine l_do F rfl rfl (op_fn F (by kernel_rfl) (awake08_any _) ?_)
     rintro e z ⟨rfl, hb⟩
     have S := S.grow hb
     refine ⟨_, rfl, ?_⟩
     intro a F
     refine l_pure 1 (fun L => (8, .bool true) :: L) F (by kernel_rfl) fun a F => ?_
     refine l_then ?_
     refine wp_ret ?_
     refine then_r (?_)
     exact fin F [.tmp 8] [.bool true] rfl ⟨by kernel_rfl, trivial⟩ (.bool true) rfl ⟨rfl, S.below (i := 0) rfl⟩
    ·
     skip
     have he0 : er = 0 := hpay1.resolve_right (fun h9 => ht19 h9.1)
     obtain ⟨hcy, hout, _, _, _⟩ := hpay2 he0
     refine l_do F rfl rfl (op_pure F (v0 := .bool ((er : Int) == (11 : Int))) (v := .bool false) (by kernel_rfl) (eqlF ht19) fun a F => ?_)
     refine l_then ?_
     refine c_f F rfl ?_
     refine wp_skip ?_
     refine then_n ?_
     refine wp_seq ?_
     refine s_reg ?_
     refine l_pure 1 (fun L => (68, .int .i64 er) :: L) F (by kernel_rfl) fun a F => ?_
     refine l_do F rfl rfl (op_pure F (v0 := .bool ((er : Int) != (0 : Int))) (v := .bool false) (by kernel_rfl) (neqF he0) fun a F => ?_)
     refine l_then ?_
     refine c_f F rfl ?_
     refine wp_skip ?_
     refine then_n ?_
     refine s_reg ?_
     refine l_do F rfl rfl (op_loadK _ _ (some ⟨b18, 0, none⟩) 0 [.slice A14 yr.spots.length c15, .slice A16 yr.edges.length c17] F rfl (by kernel_rfl) (by kernel_rfl) (by kernel_rfl) (by simp) (cBoxK S 9 rfl 0 (by kernel_rfl)) (fun a F => ?_))
     refine l_do F rfl rfl (op_fn F (by kernel_rfl) (from_any _ A14 c15 A16 c17 yr (WebAt.ofNew (x := yr) (w := w) S (i := 7) (j := 8) rfl rfl ⟨hr1, hr2⟩) okr ⟨hr1, hr2⟩) ?_)
     rintro e z ⟨A20, c21, A22, c23, rfl, g⟩
     have S := S.pushThings g
     refine ⟨_, rfl, ?_⟩
     intro a F
     refine l_do F rfl rfl (op_alloc S _ (.agg #[.slice none 0 0, .slice none 0 0]) rfl (by kernel_rfl) fun b24 z S a F => ?_)
     refine l_do F rfl rfl (op_storeB S 12 _ _ _ b24 0 (.agg #[.slice A20 yr.spots.length c21, .slice A22 yr.edges.length c23]) F rfl rfl (by kernel_rfl) (by kernel_rfl) (by kernel_rfl) (by kernel_rfl) (by kernel_rfl) fun z S a F => ?_)
     refine l_then ?_
     refine wp_seq ?_
     refine s_reg ?_
     refine l_pure 1 (fun L => (72, .pointer (some ⟨b1, 0, none⟩)) :: L) F (by kernel_rfl) fun a F => ?_
     refine l_do F rfl rfl (op_load _ _ (some ⟨b1, 0, none⟩) 0 (.slice As x.spots.length cs) F rfl (by kernel_rfl) (by kernel_rfl) (cBox S 1 rfl (j := 0) rfl) (fun a F => ?_))
     refine l_pure 2 (fun L => (75, .int .i64 0) :: (74, .int .i64 (x.spots.length : Nat)) :: L) F (by kernel_rfl) fun a F => ?_
     refine l_then ?_
     refine wp_block ?_
     refine wp_loop_m (fun m a z => ∃ (q : Nat), m = x.spots.length - q ∧ (q ≤ x.spots.length) ∧ Fr a 161 [(1, .int .i64 from_), (2, .int .i64 to), (4, .pointer (some ⟨b1, 0, none⟩)), (10, .pointer (some ⟨b8, 0, none⟩)), (17, .pointer (some ⟨b24, 0, none⟩)), (74, .int .i64 (x.spots.length : Nat)), (75, .int .i64 (q : Nat))] ∧ Sat w z [rest w (· < w.heap.size), box b1 25 [.slice As x.spots.length cs, .slice Ae x.edges.length ce], row 107 2 (.slice A3 x.spots.length c4) x.spots.length (x.spots.flatMap spC), row 62 8 (.slice A5 x.edges.length c6) x.edges.length (x.edges.flatMap edC), box b7 32 [.slice A3 x.spots.length c4, .slice A5 x.edges.length c6], bag (R3.flatMap rtRows), box b8 47 [.slice mb.A1 mb.r.nodes.length mb.c1, .slice mb.A2 mb.r.edges.length mb.c2, .slice mb.A3 mb.r.amts.length mb.c3], row 107 2 (.slice A14 yr.spots.length c15) yr.spots.length (yr.spots.flatMap spC), row 62 8 (.slice A16 yr.edges.length c17) yr.edges.length (yr.edges.flatMap edC), box b18 32 [.slice A14 yr.spots.length c15, .slice A16 yr.edges.length c17], row 106 2 (.slice A20 yr.spots.length c21) yr.spots.length (yr.spots.flatMap spC), row 104 8 (.slice A22 yr.edges.length c23) yr.edges.length (yr.edges.flatMap edC), box b24 25 [.slice A20 yr.spots.length c21, .slice A22 yr.edges.length c23]]) _ ⟨0, rfl, Nat.zero_le _, F.sub ⟨by kernel_rfl, by kernel_rfl, by kernel_rfl, by kernel_rfl, by kernel_rfl, by kernel_rfl, by kernel_rfl, trivial⟩, S⟩ ?_
     rintro m a z ⟨q, hm, hf25, F, S⟩
     refine s_reg ?_
     by_cases ht26 : ((q : Nat) : Int) < ((x.spots.length : Nat) : Int)
     ·
      skip
      refine l_do F rfl rfl (op_pure F (v0 := .bool (decide (((q : Nat) : Int) < ((x.spots.length : Nat) : Int)))) (v := .bool true) (by kernel_rfl) (lssT ht26) fun a F => ?_)
      refine l_then ?_
      refine wp_seq ?_
      refine c_t F rfl ?_
      refine wp_skip ?_
      refine then_n ?_
      refine wp_seq ?_
      refine wp_block ?_
      refine s_reg ?_
      refine l_pure 2 (fun L => (18, .int .i64 (q : Nat)) :: (77, .int .i64 (q : Nat)) :: L) F (by kernel_rfl) fun a F => ?_
      refine l_then ?_
      refine s_reg ?_
      refine l_do F rfl rfl (op_loadK _ _ (some ⟨b1, 0, none⟩) 0 [.slice As x.spots.length cs, .slice Ae x.edges.length ce] F rfl (by kernel_rfl) (by kernel_rfl) (by kernel_rfl) (by simp) (cBoxK S 1 rfl 0 (by kernel_rfl)) (fun a F => ?_))
      refine l_pure 1 (fun L => (80, .int .i64 (q : Nat)) :: L) F (by kernel_rfl) fun a F => ?_
      refine l_do F rfl rfl (op_fn F (by kernel_rfl) (sends8_any _ As cs Ae ce x (h.move S rfl) ok (q : Nat)) ?_)
      rintro e z ⟨rfl, hb⟩
      have S := S.grow hb
      refine ⟨_, rfl, ?_⟩
      intro a F
      refine l_pure 5 (fun L => (20, .int .i64 ((sendsP x (q : Nat)).2)) :: (19, .int .u64 ((sendsP x (q : Nat)).1)) :: (83, .int .i64 ((sendsP x (q : Nat)).2)) :: (82, .int .u64 ((sendsP x (q : Nat)).1)) :: (78, .tuple #[.int .u64 ((sendsP x (q : Nat)).1), .int .i64 ((sendsP x (q : Nat)).2)]) :: L) F (by kernel_rfl) fun a F => ?_
      refine l_then ?_
      refine s_reg ?_
      refine l_do F rfl rfl (op_loadK _ _ (some ⟨b24, 0, none⟩) 0 [.slice A20 yr.spots.length c21, .slice A22 yr.edges.length c23] F rfl (by kernel_rfl) (by kernel_rfl) (by kernel_rfl) (by simp) (cBoxK S 12 rfl 0 (by kernel_rfl)) (fun a F => ?_))
      refine l_pure 1 (fun L => (86, .int .i64 (q : Nat)) :: L) F (by kernel_rfl) fun a F => ?_
      refine l_do F rfl rfl (op_fn F (by kernel_rfl) (sends8_any _ A20 c21 A22 c23 yr (WebAt.ofNew (x := yr) (w := w) S (i := 10) (j := 11) rfl rfl ⟨hr1, hr2⟩) okr (q : Nat)) ?_)
      rintro e z ⟨rfl, hb⟩
      have S := S.grow hb
      refine ⟨_, rfl, ?_⟩
      intro a F
      refine l_pure 5 (fun L => (22, .int .i64 ((sendsP yr (q : Nat)).2)) :: (21, .int .u64 ((sendsP yr (q : Nat)).1)) :: (89, .int .i64 ((sendsP yr (q : Nat)).2)) :: (88, .int .u64 ((sendsP yr (q : Nat)).1)) :: (84, .tuple #[.int .u64 ((sendsP yr (q : Nat)).1), .int .i64 ((sendsP yr (q : Nat)).2)]) :: L) F (by kernel_rfl) fun a F => ?_
      refine l_then ?_
      refine s_reg ?_
      refine l_pure 2 (fun L => (23, .int .u64 ((sendsP x (q : Nat)).1)) :: (90, .int .u64 ((sendsP x (q : Nat)).1)) :: L) F (by kernel_rfl) fun a F => ?_
      refine l_then ?_
      refine wp_seq ?_
      refine s_reg ?_
      refine l_pure 1 (fun L => (91, .pointer (some ⟨b8, 0, none⟩)) :: L) F (by kernel_rfl) fun a F => ?_
      refine l_do F rfl rfl (op_load _ _ (some ⟨b8, 0, none⟩) 0 (.slice mb.A1 mb.r.nodes.length mb.c1) F rfl (by kernel_rfl) (by kernel_rfl) (cBox S 6 rfl (j := 0) rfl) (fun a F => ?_))
      refine l_pure 2 (fun L => (94, .int .i64 0) :: (93, .int .i64 (mb.r.nodes.length : Nat)) :: L) F (by kernel_rfl) fun a F => ?_
      refine l_then ?_
      refine wp_block ?_
      refine wp_loop_m (fun m a z => ∃ (k : Nat) (wv : Int), m = mb.r.nodes.length - k ∧ (k ≤ mb.r.nodes.length) ∧ (wv = IntKind.wrap .u64 ((sendsP x (q : Nat)).1 + wantP mb.r.nodes mb.r.amts (q : Nat) k)) ∧ Fr a 161 [(1, .int .i64 from_), (2, .int .i64 to), (4, .pointer (some ⟨b1, 0, none⟩)), (10, .pointer (some ⟨b8, 0, none⟩)), (17, .pointer (some ⟨b24, 0, none⟩)), (18, .int .i64 (q : Nat)), (21, .int .u64 ((sendsP yr (q : Nat)).1)), (22, .int .i64 ((sendsP yr (q : Nat)).2)), (23, .int .u64 wv), (74, .int .i64 (x.spots.length : Nat)), (75, .int .i64 (q : Nat)), (92, .slice mb.A1 mb.r.nodes.length mb.c1), (93, .int .i64 (mb.r.nodes.length : Nat)), (94, .int .i64 (k : Nat))] ∧ Sat w z [rest w (· < w.heap.size), box b1 25 [.slice As x.spots.length cs, .slice Ae x.edges.length ce], row 107 2 (.slice A3 x.spots.length c4) x.spots.length (x.spots.flatMap spC), row 62 8 (.slice A5 x.edges.length c6) x.edges.length (x.edges.flatMap edC), box b7 32 [.slice A3 x.spots.length c4, .slice A5 x.edges.length c6], bag (R3.flatMap rtRows), box b8 47 [.slice mb.A1 mb.r.nodes.length mb.c1, .slice mb.A2 mb.r.edges.length mb.c2, .slice mb.A3 mb.r.amts.length mb.c3], row 107 2 (.slice A14 yr.spots.length c15) yr.spots.length (yr.spots.flatMap spC), row 62 8 (.slice A16 yr.edges.length c17) yr.edges.length (yr.edges.flatMap edC), box b18 32 [.slice A14 yr.spots.length c15, .slice A16 yr.edges.length c17], row 106 2 (.slice A20 yr.spots.length c21) yr.spots.length (yr.spots.flatMap spC), row 104 8 (.slice A22 yr.edges.length c23) yr.edges.length (yr.edges.flatMap edC), box b24 25 [.slice A20 yr.spots.length c21, .slice A22 yr.edges.length c23]]) _ ⟨0, (sendsP x (q : Nat)).1, rfl, Nat.zero_le _, (want_start ok _ _ _), F.sub ⟨by kernel_rfl, by kernel_rfl, by kernel_rfl, by kernel_rfl, by kernel_rfl, by kernel_rfl, by kernel_rfl, by kernel_rfl, by kernel_rfl, by kernel_rfl, by kernel_rfl, by kernel_rfl, by kernel_rfl, by kernel_rfl, trivial⟩, S⟩ ?_
      rintro m a z ⟨k, wv, hm, hf27, hf28, F, S⟩
      have hwv := hf28
      refine s_reg ?_
      by_cases ht29 : ((k : Nat) : Int) < ((mb.r.nodes.length : Nat) : Int)
      ·
       skip
       obtain ⟨nk, hnk⟩ : ∃ nk, mb.r.nodes[k]? = some nk := ⟨_, List.getElem?_eq_getElem (by omega)⟩
       refine l_do F rfl rfl (op_pure F (v0 := .bool (decide (((k : Nat) : Int) < ((mb.r.nodes.length : Nat) : Int)))) (v := .bool true) (by kernel_rfl) (lssT ht29) fun a F => ?_)
       refine l_then ?_
       refine wp_seq ?_
       refine c_t F rfl ?_
       refine wp_skip ?_
       refine then_n ?_
       refine wp_seq ?_
       refine wp_block ?_
       refine s_reg ?_
       refine l_pure 1 (fun L => (96, .int .i64 (k : Nat)) :: L) F (by kernel_rfl) fun a F => ?_
       refine l_do F rfl rfl (op_index _ 3 _ _ mb.A1 mb.r.nodes.length mb.c1 k 1 .i64 F rfl (by kernel_rfl) (by kernel_rfl) (by kernel_rfl) (by kernel_rfl) (get_lt hnk) (recs_some (bag_nodes S 5 rfl hmbm (by omega)) (m := k) (get_lt hnk)) (fun a F => ?_))
       refine l_do F rfl rfl (op_load _ _ mb.A1 (k * 1) (.int .i64 nk) F rfl (by kernel_rfl) (by kernel_rfl) (recs_cell iC_len_i64 (bag_nodes S 5 rfl hmbm (by omega)) 0 hnk rfl) (fun a F => ?_))
       refine l_pure 2 (fun L => (25, .int .i64 nk) :: (24, .int .i64 (k : Nat)) :: L) F (by kernel_rfl) fun a F => ?_
       refine l_then ?_
       refine wp_seq ?_
       refine s_reg ?_
       refine l_pure 2 (fun L => (100, .int .i64 (q : Nat)) :: (99, .int .i64 nk) :: L) F (by kernel_rfl) fun a F => ?_
       by_cases ht30 : (nk : Int) = ((q : Nat) : Int)
       ·
        skip
        refine l_do F rfl rfl (op_pure F (v0 := .bool ((nk : Int) == ((q : Nat) : Int))) (v := .bool true) (by kernel_rfl) (eqlT ht30) fun a F => ?_)
        refine l_pure 2 (fun L => (103, .int .i64 (k : Nat)) :: (102, .bool true) :: L) F (by kernel_rfl) fun a F => ?_
        by_cases ht31 : (0 : Int) < ((k : Nat) : Int)
        ·
         skip
         obtain ⟨ak0, hak0⟩ : ∃ ak0, mb.r.amts[k - 1]? = some ak0 := ⟨_, List.getElem?_eq_getElem (by omega)⟩
         refine l_do F rfl rfl (op_pure F (v0 := .bool (decide (((k : Nat) : Int) > (0 : Int)))) (v := .bool true) (by kernel_rfl) (gtrT ht31) fun a F => ?_)
         refine l_pure 1 (fun L => (105, .bool true) :: L) F (by kernel_rfl) fun a F => ?_
         refine l_then ?_
         refine c_t F rfl ?_
         refine wp_region_list ?_
         refine l_pure 2 (fun L => (107, .pointer (some ⟨b8, 2, none⟩)) :: (106, .int .u64 wv) :: L) F (by kernel_rfl) fun a F => ?_
         refine l_do F rfl rfl (op_load _ _ (some ⟨b8, 0, none⟩) 2 (.slice mb.A3 mb.r.amts.length mb.c3) F rfl (by kernel_rfl) (by kernel_rfl) (cBox S 6 rfl (j := 2) rfl) (fun a F => ?_))
         refine l_pure 1 (fun L => (109, .int .i64 (k : Nat)) :: L) F (by kernel_rfl) fun a F => ?_
         refine l_do F rfl rfl (op_pure F (v0 := .int .i64 (IntKind.wrap .i64 ((k : Nat) - 1))) (v := .int .i64 (k - 1 : Nat)) (by kernel_rfl) (wrn_i64 (by omega) (by omega) (by omega)) fun a F => ?_)
         refine l_do F rfl rfl (op_index _ 26 _ _ mb.A3 mb.r.amts.length mb.c3 (k - 1) 1 .i64 F rfl (by kernel_rfl) (by kernel_rfl) (by kernel_rfl) (by kernel_rfl) (get_lt hak0) (recs_some (bag_amts S 5 rfl hmbm (by omega)) (m := k - 1) (get_lt hak0)) (fun a F => ?_))
         refine l_do F rfl rfl (op_load _ _ mb.A3 ((k - 1) * 1) (.int .u64 ak0) F rfl (by kernel_rfl) (by kernel_rfl) (recs_cell iC_len_u64 (bag_amts S 5 rfl hmbm (by omega)) 0 hak0 rfl) (fun a F => ?_))
         refine l_do F rfl rfl (op_pure F (v0 := .int .u64 (IntKind.wrap .u64 (wv + ak0))) (v := .int .u64 (IntKind.wrap .u64 (wv + ak0))) (by kernel_rfl) rfl fun a F => ?_)
         refine l_pure 1 (fun L => (23, .int .u64 (IntKind.wrap .u64 (wv + ak0))) :: L) F (by kernel_rfl) fun a F => ?_
         refine l_then ?_
         refine s_reg ?_
         refine l_pure 2 (fun L => (115, .int .i64 (q : Nat)) :: (114, .int .i64 nk) :: L) F (by kernel_rfl) fun a F => ?_
         refine l_do F rfl rfl (op_pure F (v0 := .bool ((nk : Int) == ((q : Nat) : Int))) (v := .bool true) (by kernel_rfl) (eqlT ht30) fun a F => ?_)
         refine l_pure 3 (fun L => (119, .pointer (some ⟨b8, 1, none⟩)) :: (118, .int .i64 (k : Nat)) :: (117, .bool true) :: L) F (by kernel_rfl) fun a F => ?_
         refine l_do F rfl rfl (op_load _ _ (some ⟨b8, 0, none⟩) 1 (.slice mb.A2 mb.r.edges.length mb.c2) F rfl (by kernel_rfl) (by kernel_rfl) (cBox S 6 rfl (j := 1) rfl) (fun a F => ?_))
         refine l_pure 1 (fun L => (121, .int .i64 (mb.r.edges.length : Nat)) :: L) F (by kernel_rfl) fun a F => ?_
         by_cases ht32 : ((k : Nat) : Int) < ((mb.r.edges.length : Nat) : Int)
         ·
          skip
          obtain ⟨ak, hak⟩ : ∃ ak, mb.r.amts[k]? = some ak := ⟨_, List.getElem?_eq_getElem (by omega)⟩
          refine l_do F rfl rfl (op_pure F (v0 := .bool (decide (((k : Nat) : Int) < ((mb.r.edges.length : Nat) : Int)))) (v := .bool true) (by kernel_rfl) (lssT ht32) fun a F => ?_)
          refine l_pure 1 (fun L => (123, .bool true) :: L) F (by kernel_rfl) fun a F => ?_
          refine l_then ?_
          refine c_t F rfl ?_
          refine wp_region_list ?_
          refine l_pure 2 (fun L => (125, .pointer (some ⟨b8, 2, none⟩)) :: (124, .int .u64 (IntKind.wrap .u64 (wv + ak0))) :: L) F (by kernel_rfl) fun a F => ?_
          refine l_do F rfl rfl (op_load _ _ (some ⟨b8, 0, none⟩) 2 (.slice mb.A3 mb.r.amts.length mb.c3) F rfl (by kernel_rfl) (by kernel_rfl) (cBox S 6 rfl (j := 2) rfl) (fun a F => ?_))
          refine l_pure 1 (fun L => (127, .int .i64 (k : Nat)) :: L) F (by kernel_rfl) fun a F => ?_
          refine l_do F rfl rfl (op_index _ 26 _ _ mb.A3 mb.r.amts.length mb.c3 k 1 .i64 F rfl (by kernel_rfl) (by kernel_rfl) (by kernel_rfl) (by kernel_rfl) (get_lt hak) (recs_some (bag_amts S 5 rfl hmbm (by omega)) (m := k) (get_lt hak)) (fun a F => ?_))
          refine l_do F rfl rfl (op_load _ _ mb.A3 (k * 1) (.int .u64 ak) F rfl (by kernel_rfl) (by kernel_rfl) (recs_cell iC_len_u64 (bag_amts S 5 rfl hmbm (by omega)) 0 hak rfl) (fun a F => ?_))
          refine l_do F rfl rfl (op_pure F (v0 := .int .u64 (IntKind.wrap .u64 ((IntKind.wrap .u64 (wv + ak0)) - ak))) (v := .int .u64 (IntKind.wrap .u64 ((IntKind.wrap .u64 (wv + ak0)) - ak))) (by kernel_rfl) rfl fun a F => ?_)
          refine l_pure 1 (fun L => (23, .int .u64 (IntKind.wrap .u64 ((IntKind.wrap .u64 (wv + ak0)) - ak))) :: L) F (by kernel_rfl) fun a F => ?_
          refine l_nil (inb_n ?_)
          refine then_n ?_
          refine wp_region_list ?_
          refine l_do F rfl rfl (op_pure F (v0 := .int .i64 (IntKind.wrap .i64 ((k : Nat) + 1))) (v := .int .i64 (k + 1 : Nat)) (by kernel_rfl) (wrn_i64 (by omega) (by omega) (by omega)) fun a F => ?_)
          refine l_pure 1 (fun L => (94, .int .i64 (k + 1 : Nat)) :: L) F (by kernel_rfl) fun a F => ?_
          refine l_then ?_
          exact ⟨_, (by omega), k + 1, IntKind.wrap .u64 (IntKind.wrap .u64 (wv + ak0) - ak), rfl, (by omega), (want_11 hnk hwv ht30 (by omega) hak0 hak), F.sub ⟨by kernel_rfl, by kernel_rfl, by kernel_rfl, by kernel_rfl, by kernel_rfl, by kernel_rfl, by kernel_rfl, by kernel_rfl, by kernel_rfl, by kernel_rfl, by kernel_rfl, by kernel_rfl, by kernel_rfl, by kernel_rfl, trivial⟩, S⟩
         ·
          skip
          refine l_do F rfl rfl (op_pure F (v0 := .bool (decide (((k : Nat) : Int) < ((mb.r.edges.length : Nat) : Int)))) (v := .bool false) (by kernel_rfl) (lssF ht32) fun a F => ?_)
          refine l_pure 1 (fun L => (123, .bool false) :: L) F (by kernel_rfl) fun a F => ?_
          refine l_then ?_
          refine c_f F rfl ?_
          refine wp_skip ?_
          refine inb_n ?_
          refine then_n ?_
          refine wp_region_list ?_
          refine l_do F rfl rfl (op_pure F (v0 := .int .i64 (IntKind.wrap .i64 ((k : Nat) + 1))) (v := .int .i64 (k + 1 : Nat)) (by kernel_rfl) (wrn_i64 (by omega) (by omega) (by omega)) fun a F => ?_)
          refine l_pure 1 (fun L => (94, .int .i64 (k + 1 : Nat)) :: L) F (by kernel_rfl) fun a F => ?_
          refine l_then ?_
          exact ⟨_, (by omega), k + 1, IntKind.wrap .u64 (wv + ak0), rfl, (by omega), (want_10 hnk hwv ht30 (by omega) hak0 (by omega)), F.sub ⟨by kernel_rfl, by kernel_rfl, by kernel_rfl, by kernel_rfl, by kernel_rfl, by kernel_rfl, by kernel_rfl, by kernel_rfl, by kernel_rfl, by kernel_rfl, by kernel_rfl, by kernel_rfl, by kernel_rfl, by kernel_rfl, trivial⟩, S⟩
        ·
         skip
         refine l_do F rfl rfl (op_pure F (v0 := .bool (decide (((k : Nat) : Int) > (0 : Int)))) (v := .bool false) (by kernel_rfl) (gtrF ht31) fun a F => ?_)
         refine l_pure 1 (fun L => (105, .bool false) :: L) F (by kernel_rfl) fun a F => ?_
         refine l_then ?_
         refine c_f F rfl ?_
         refine wp_skip ?_
         refine then_n ?_
         refine s_reg ?_
         refine l_pure 2 (fun L => (115, .int .i64 (q : Nat)) :: (114, .int .i64 nk) :: L) F (by kernel_rfl) fun a F => ?_
         refine l_do F rfl rfl (op_pure F (v0 := .bool ((nk : Int) == ((q : Nat) : Int))) (v := .bool true) (by kernel_rfl) (eqlT ht30) fun a F => ?_)
         refine l_pure 3 (fun L => (119, .pointer (some ⟨b8, 1, none⟩)) :: (118, .int .i64 (k : Nat)) :: (117, .bool true) :: L) F (by kernel_rfl) fun a F => ?_
         refine l_do F rfl rfl (op_load _ _ (some ⟨b8, 0, none⟩) 1 (.slice mb.A2 mb.r.edges.length mb.c2) F rfl (by kernel_rfl) (by kernel_rfl) (cBox S 6 rfl (j := 1) rfl) (fun a F => ?_))
         refine l_pure 1 (fun L => (121, .int .i64 (mb.r.edges.length : Nat)) :: L) F (by kernel_rfl) fun a F => ?_
         by_cases ht33 : ((k : Nat) : Int) < ((mb.r.edges.length : Nat) : Int)
         ·
          skip
          obtain ⟨ak, hak⟩ : ∃ ak, mb.r.amts[k]? = some ak := ⟨_, List.getElem?_eq_getElem (by omega)⟩
          refine l_do F rfl rfl (op_pure F (v0 := .bool (decide (((k : Nat) : Int) < ((mb.r.edges.length : Nat) : Int)))) (v := .bool true) (by kernel_rfl) (lssT ht33) fun a F => ?_)
          refine l_pure 1 (fun L => (123, .bool true) :: L) F (by kernel_rfl) fun a F => ?_
          refine l_then ?_
          refine c_t F rfl ?_
          refine wp_region_list ?_
          refine l_pure 2 (fun L => (125, .pointer (some ⟨b8, 2, none⟩)) :: (124, .int .u64 wv) :: L) F (by kernel_rfl) fun a F => ?_
          refine l_do F rfl rfl (op_load _ _ (some ⟨b8, 0, none⟩) 2 (.slice mb.A3 mb.r.amts.length mb.c3) F rfl (by kernel_rfl) (by kernel_rfl) (cBox S 6 rfl (j := 2) rfl) (fun a F => ?_))
          refine l_pure 1 (fun L => (127, .int .i64 (k : Nat)) :: L) F (by kernel_rfl) fun a F => ?_
          refine l_do F rfl rfl (op_index _ 26 _ _ mb.A3 mb.r.amts.length mb.c3 k 1 .i64 F rfl (by kernel_rfl) (by kernel_rfl) (by kernel_rfl) (by kernel_rfl) (get_lt hak) (recs_some (bag_amts S 5 rfl hmbm (by omega)) (m := k) (get_lt hak)) (fun a F => ?_))
          refine l_do F rfl rfl (op_load _ _ mb.A3 (k * 1) (.int .u64 ak) F rfl (by kernel_rfl) (by kernel_rfl) (recs_cell iC_len_u64 (bag_amts S 5 rfl hmbm (by omega)) 0 hak rfl) (fun a F => ?_))
          refine l_do F rfl rfl (op_pure F (v0 := .int .u64 (IntKind.wrap .u64 (wv - ak))) (v := .int .u64 (IntKind.wrap .u64 (wv - ak))) (by kernel_rfl) rfl fun a F => ?_)
          refine l_pure 1 (fun L => (23, .int .u64 (IntKind.wrap .u64 (wv - ak))) :: L) F (by kernel_rfl) fun a F => ?_
          refine l_nil (inb_n ?_)
          refine then_n ?_
          refine wp_region_list ?_
          refine l_do F rfl rfl (op_pure F (v0 := .int .i64 (IntKind.wrap .i64 ((k : Nat) + 1))) (v := .int .i64 (k + 1 : Nat)) (by kernel_rfl) (wrn_i64 (by omega) (by omega) (by omega)) fun a F => ?_)
          refine l_pure 1 (fun L => (94, .int .i64 (k + 1 : Nat)) :: L) F (by kernel_rfl) fun a F => ?_
          refine l_then ?_
          exact ⟨_, (by omega), k + 1, IntKind.wrap .u64 (wv - ak), rfl, (by omega), (want_01 hnk hwv ht30 (by omega) hak), F.sub ⟨by kernel_rfl, by kernel_rfl, by kernel_rfl, by kernel_rfl, by kernel_rfl, by kernel_rfl, by kernel_rfl, by kernel_rfl, by kernel_rfl, by kernel_rfl, by kernel_rfl, by kernel_rfl, by kernel_rfl, by kernel_rfl, trivial⟩, S⟩
         · exact absurd ht33 (by omega)
       ·
        skip
        refine l_do F rfl rfl (op_pure F (v0 := .bool ((nk : Int) == ((q : Nat) : Int))) (v := .bool false) (by kernel_rfl) (eqlF ht30) fun a F => ?_)
        refine l_pure 4 (fun L => (105, .bool false) :: (104, undef) :: (103, undef) :: (102, .bool false) :: L) F (by kernel_rfl) fun a F => ?_
        refine l_then ?_
        refine c_f F rfl ?_
        refine wp_skip ?_
        refine then_n ?_
        refine s_reg ?_
        refine l_pure 2 (fun L => (115, .int .i64 (q : Nat)) :: (114, .int .i64 nk) :: L) F (by kernel_rfl) fun a F => ?_
        refine l_do F rfl rfl (op_pure F (v0 := .bool ((nk : Int) == ((q : Nat) : Int))) (v := .bool false) (by kernel_rfl) (eqlF ht30) fun a F => ?_)
        refine l_pure 7 (fun L => (123, .bool false) :: (122, undef) :: (121, undef) :: (120, undef) :: (119, undef) :: (118, undef) :: (117, .bool false) :: L) F (by kernel_rfl) fun a F => ?_
        refine l_then ?_
        refine c_f F rfl ?_
        refine wp_skip ?_
        refine inb_n ?_
        refine then_n ?_
        refine wp_region_list ?_
        refine l_do F rfl rfl (op_pure F (v0 := .int .i64 (IntKind.wrap .i64 ((k : Nat) + 1))) (v := .int .i64 (k + 1 : Nat)) (by kernel_rfl) (wrn_i64 (by omega) (by omega) (by omega)) fun a F => ?_)
        refine l_pure 1 (fun L => (94, .int .i64 (k + 1 : Nat)) :: L) F (by kernel_rfl) fun a F => ?_
        refine l_then ?_
        exact ⟨_, (by omega), k + 1, wv, rfl, (by omega), (want_00 hnk hwv ht30), F.sub ⟨by kernel_rfl, by kernel_rfl, by kernel_rfl, by kernel_rfl, by kernel_rfl, by kernel_rfl, by kernel_rfl, by kernel_rfl, by kernel_rfl, by kernel_rfl, by kernel_rfl, by kernel_rfl, by kernel_rfl, by kernel_rfl, trivial⟩, S⟩
      ·
       skip
       refine l_do F rfl rfl (op_pure F (v0 := .bool (decide (((k : Nat) : Int) < ((mb.r.nodes.length : Nat) : Int)))) (v := .bool false) (by kernel_rfl) (lssF ht29) fun a F => ?_)
       refine l_then ?_
       refine wp_seq ?_
       refine c_f F rfl ?_
       refine wp_exit ?_
       refine then_x ?_
       refine then_x ?_
       refine inb_x ?_
       refine then_n ?_
       refine s_reg ?_
       refine l_pure 1 (fun L => (132, .int .i64 ((sendsP yr (q : Nat)).2)) :: L) F (by kernel_rfl) fun a F => ?_
       by_cases ht34 : ((sendsP yr (q : Nat)).2 : Int) = (0 : Int)
       ·
        skip
        refine l_do F rfl rfl (op_pure F (v0 := .bool (((sendsP yr (q : Nat)).2 : Int) == (0 : Int))) (v := .bool true) (by kernel_rfl) (eqlT ht34) fun a F => ?_)
        refine l_pure 3 (fun L => (136, .int .u64 wv) :: (135, .int .u64 ((sendsP yr (q : Nat)).1)) :: (134, .bool true) :: L) F (by kernel_rfl) fun a F => ?_
        refine l_do F rfl rfl (op_pure F (v0 := .bool (((sendsP yr (q : Nat)).1 : Int) != (wv : Int))) (v := .bool false) (by kernel_rfl) (neqF (pays_fin okr hc hcy (hall q (by omega)) ht34 (hout (q : Nat)) (by omega) (by omega) hwv)) fun a F => ?_)
        refine l_pure 1 (fun L => (138, .bool false) :: L) F (by kernel_rfl) fun a F => ?_
        refine l_then ?_
        refine c_f F rfl ?_
        refine wp_skip ?_
        refine inb_n ?_
        refine then_n ?_
        refine wp_region_list ?_
        refine l_do F rfl rfl (op_pure F (v0 := .int .i64 (IntKind.wrap .i64 ((q : Nat) + 1))) (v := .int .i64 (q + 1 : Nat)) (by kernel_rfl) (wrn_i64 (by omega) (by omega) (by omega)) fun a F => ?_)
        refine l_pure 1 (fun L => (75, .int .i64 (q + 1 : Nat)) :: L) F (by kernel_rfl) fun a F => ?_
        refine l_then ?_
        exact ⟨_, (by omega), q + 1, rfl, (by omega), F.sub ⟨by kernel_rfl, by kernel_rfl, by kernel_rfl, by kernel_rfl, by kernel_rfl, by kernel_rfl, by kernel_rfl, trivial⟩, S⟩
       ·
        skip
        refine l_do F rfl rfl (op_pure F (v0 := .bool (((sendsP yr (q : Nat)).2 : Int) == (0 : Int))) (v := .bool false) (by kernel_rfl) (eqlF ht34) fun a F => ?_)
        refine l_pure 5 (fun L => (138, .bool false) :: (137, undef) :: (136, undef) :: (135, undef) :: (134, .bool false) :: L) F (by kernel_rfl) fun a F => ?_
        refine l_then ?_
        refine c_f F rfl ?_
        refine wp_skip ?_
        refine inb_n ?_
        refine then_n ?_
        refine wp_region_list ?_
        refine l_do F rfl rfl (op_pure F (v0 := .int .i64 (IntKind.wrap .i64 ((q : Nat) + 1))) (v := .int .i64 (q + 1 : Nat)) (by kernel_rfl) (wrn_i64 (by omega) (by omega) (by omega)) fun a F => ?_)
        refine l_pure 1 (fun L => (75, .int .i64 (q + 1 : Nat)) :: L) F (by kernel_rfl) fun a F => ?_
        refine l_then ?_
        exact ⟨_, (by omega), q + 1, rfl, (by omega), F.sub ⟨by kernel_rfl, by kernel_rfl, by kernel_rfl, by kernel_rfl, by kernel_rfl, by kernel_rfl, by kernel_rfl, trivial⟩, S⟩
     ·
      skip
      refine l_do F rfl rfl (op_pure F (v0 := .bool (decide (((q : Nat) : Int) < ((x.spots.length : Nat) : Int)))) (v := .bool false) (by kernel_rfl) (lssF ht26) fun a F => ?_)
      refine l_then ?_
      refine wp_seq ?_
      refine c_f F rfl ?_
      refine wp_exit ?_
      refine then_x ?_
      refine then_x ?_
      refine inb_x ?_
      refine then_n ?_
      refine s_reg ?_
      refine l_do F rfl rfl (op_fn F (by kernel_rfl) (awake08_any _) ?_)
      rintro e z ⟨rfl, hb⟩
      have S := S.grow hb
      refine ⟨_, rfl, ?_⟩
      intro a F
      refine l_pure 2 (fun L => (142, .pointer (some ⟨b8, 0, none⟩)) :: (141, .bool true) :: L) F (by kernel_rfl) fun a F => ?_
      refine l_do F rfl rfl (op_load _ _ (some ⟨b8, 0, none⟩) 0 (.slice mb.A1 mb.r.nodes.length mb.c1) F rfl (by kernel_rfl) (by kernel_rfl) (cBox S 6 rfl (j := 0) rfl) (fun a F => ?_))
      refine l_do F rfl rfl (op_index _ 3 _ _ mb.A1 mb.r.nodes.length mb.c1 0 1 .i64 F rfl (by kernel_rfl) (by kernel_rfl) (by kernel_rfl) (by kernel_rfl) (get_lt hs.hd) (recs_some (bag_nodes S 5 rfl hmbm (by omega)) (m := 0) (get_lt hs.hd)) (fun a F => ?_))
      refine l_do F rfl rfl (op_load _ _ mb.A1 (0 * 1) (.int .i64 from_) F rfl (by kernel_rfl) (by kernel_rfl) (recs_cell iC_len_i64 (bag_nodes S 5 rfl hmbm (by omega)) 0 hs.hd rfl) (fun a F => ?_))
      refine l_pure 1 (fun L => (146, .int .i64 from_) :: L) F (by kernel_rfl) fun a F => ?_
      refine l_do F rfl rfl (op_pure F (v0 := .bool ((from_ : Int) == (from_ : Int))) (v := .bool true) (by kernel_rfl) (eqlT rfl) fun a F => ?_)
      refine l_pure 3 (fun L => (150, .pointer (some ⟨b8, 0, none⟩)) :: (149, .bool true) :: (148, .bool true) :: L) F (by kernel_rfl) fun a F => ?_
      refine l_do F rfl rfl (op_load _ _ (some ⟨b8, 0, none⟩) 0 (.slice mb.A1 mb.r.nodes.length mb.c1) F rfl (by kernel_rfl) (by kernel_rfl) (cBox S 6 rfl (j := 0) rfl) (fun a F => ?_))
      refine l_pure 1 (fun L => (152, .pointer (some ⟨b8, 0, none⟩)) :: L) F (by kernel_rfl) fun a F => ?_
      refine l_do F rfl rfl (op_load _ _ (some ⟨b8, 0, none⟩) 0 (.slice mb.A1 mb.r.nodes.length mb.c1) F rfl (by kernel_rfl) (by kernel_rfl) (cBox S 6 rfl (j := 0) rfl) (fun a F => ?_))
      refine l_pure 1 (fun L => (154, .int .i64 (mb.r.nodes.length : Nat)) :: L) F (by kernel_rfl) fun a F => ?_
      refine l_do F rfl rfl (op_pure F (v0 := .int .i64 (IntKind.wrap .i64 ((mb.r.nodes.length : Nat) - 1))) (v := .int .i64 (mb.r.nodes.length - 1 : Nat)) (by kernel_rfl) (wrn_i64 (by omega) (by omega) (by omega)) fun a F => ?_)
      refine l_do F rfl rfl (op_index _ 3 _ _ mb.A1 mb.r.nodes.length mb.c1 (mb.r.nodes.length - 1) 1 .i64 F rfl (by kernel_rfl) (by kernel_rfl) (by kernel_rfl) (by kernel_rfl) (get_lt hslast) (recs_some (bag_nodes S 5 rfl hmbm (by omega)) (m := mb.r.nodes.length - 1) (get_lt hslast)) (fun a F => ?_))
      refine l_do F rfl rfl (op_load _ _ mb.A1 ((mb.r.nodes.length - 1) * 1) (.int .i64 to) F rfl (by kernel_rfl) (by kernel_rfl) (recs_cell iC_len_i64 (bag_nodes S 5 rfl hmbm (by omega)) 0 hslast rfl) (fun a F => ?_))
      refine l_pure 1 (fun L => (158, .int .i64 to) :: L) F (by kernel_rfl) fun a F => ?_
      refine l_do F rfl rfl (op_pure F (v0 := .bool ((to : Int) == (to : Int))) (v := .bool true) (by kernel_rfl) (eqlT rfl) fun a F => ?_)
      refine l_pure 2 (fun L => (8, .bool true) :: (160, .bool true) :: L) F (by kernel_rfl) fun a F => ?_
      refine l_then ?_
      refine wp_ret ?_
      exact fin F [.tmp 8] [.bool true] rfl ⟨by kernel_rfl, trivial⟩ (.bool true) rfl ⟨rfl, S.below (i := 0) rfl⟩
  ·
   skip
   refine l_do F rfl rfl (op_pure F (v0 := .bool (((bestRt x from_ to am).2 : Int) != (0 : Int))) (v := .bool true) (by kernel_rfl) (neqT ht9) fun a F => ?_)
   refine l_then ?_
   refine c_t F rfl ?_
   refine s_reg ?_
   refine l_do F rfl rfl (op_fn F (by kernel_rfl) (awake08_any _) ?_)
   rintro e z ⟨rfl, hb⟩
   have S := S.grow hb
   refine ⟨_, rfl, ?_⟩
   intro a F
   refine l_pure 1 (fun L => (8, .bool true) :: L) F (by kernel_rfl) fun a F => ?_
   refine l_then ?_
   refine wp_ret ?_
   refine then_r (?_)
   exact fin F [.tmp 8] [.bool true] rfl ⟨by kernel_rfl, trivial⟩ (.bool true) rfl ⟨rfl, S.below (i := 0) rfl⟩
end Go.Proofs.Ytcfpbemoocegfaa
