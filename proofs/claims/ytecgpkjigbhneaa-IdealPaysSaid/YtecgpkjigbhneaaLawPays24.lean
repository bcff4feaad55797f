/- Walk over the law IdealPays. -/
import Derived.Test.YtecgpkjigbhneaaIdlZ
import Derived.Test.YtecgpkjigbhneaaIdlC
namespace Go.Proofs.Ytecgpkjigbhneaa
set_option linter.unusedVariables false
set_option linter.unusedSimpArgs false
set_option linter.unnecessarySimpa false
open Go Go.RowKit

set_option maxRecDepth 100000 in
set_option maxHeartbeats 4000000 in
theorem worth24_any (w : World) (G : Nat → Prop) (b1x b2x bx : Nat) (I : Idl) (ok : IOk I) (kk : Nat) (hkk : kk ≤ I.ends.length) (hk9 : kk ≤ 100) (Aq : Option Addr) (cq : Nat) (who : Int) (hS : Sat w w [box b1x 24 [.pointer (some ⟨bx, 0, none⟩)], box b2x 28 [.slice Aq ((edgesK kk).length) cq], rIl Aq cq (edgesK kk), idA bx I, rest w G]) : Calls Try.prog 9 #[.int .i64 who, .pointer (some ⟨b1x, 0, none⟩), .pointer (some ⟨b2x, 0, none⟩)] w fun e w' => e = .returned (.int .u64 (worthTo I who kk)) ∧ Sat w w' [box b1x 24 [.pointer (some ⟨bx, 0, none⟩)], box b2x 28 [.slice Aq ((edgesK kk).length) cq], rIl Aq cq (edgesK kk), idA bx I, rest w G] := by
 refine enter 25 Try.func9 rfl rfl rfl fun a F => ?_
 have S : Sat w w [rest w G, box b1x 24 [.pointer (some ⟨bx, 0, none⟩)], box b2x 28 [.slice Aq ((edgesK kk).length) cq], rIl Aq cq (edgesK kk), idA bx I] := hS.pick [4, 0, 1, 2, 3] (by decide)
 have hkl := edgesK_len kk
 refine s_reg ?_
 refine l_pure 1 (fun L => (4, .int .u64 0) :: L) F (by kernel_rfl) fun a F => ?_
 refine l_then ?_
 refine s_reg ?_
 refine l_do F rfl rfl (op_load _ _ (some ⟨b1x, 0, none⟩) 0 (.pointer (some ⟨bx, 0, none⟩)) F rfl (by kernel_rfl) (by kernel_rfl) (cBox S 1 rfl (j := 0) rfl) (fun a F => ?_))
 refine l_pure 1 (fun L => (9, .int .i64 who) :: L) F (by kernel_rfl) fun a F => ?_
 obtain ⟨G9, g9, hin9, hlt9, k9⟩ := S.frameB [4] (by decide) rfl
 refine l_do F rfl rfl (op_fn F (by kernel_rfl) (has24_any _ G9 bx I g9 who) ?_)
 rintro e z9 ⟨rfl, g⟩
 have S : Sat w z9 [rest w G, box b1x 24 [.pointer (some ⟨bx, 0, none⟩)], box b2x 28 [.slice Aq ((edgesK kk).length) cq], rIl Aq cq (edgesK kk), idA bx I] := k9 z9 [idA bx I] rfl g
 clear g g9 k9 hin9 hlt9
 refine ⟨_, rfl, ?_⟩
 intro a F
 refine l_pure 1 (fun L => (5, .int .u64 (hasP I who)) :: L) F (by kernel_rfl) fun a F => ?_
 refine l_then ?_
 refine wp_seq ?_
 refine s_reg ?_
 refine l_do F rfl rfl (op_load _ _ (some ⟨b2x, 0, none⟩) 0 (.slice Aq ((edgesK kk).length) cq) F rfl (by kernel_rfl) (by kernel_rfl) (cBox S 2 rfl (j := 0) rfl) (fun a F => ?_))
 refine l_pure 2 (fun L => (13, .int .i64 0) :: (12, .int .i64 ((edgesK kk).length : Nat)) :: L) F (by kernel_rfl) fun a F => ?_
 refine l_then ?_
 refine wp_block ?_
 refine wp_loop_m (fun m a z => ∃ (t : Nat), m = (edgesK kk).length - t ∧ (t ≤ (edgesK kk).length) ∧ Fr a 25 [(0, .int .i64 who), (1, .pointer (some ⟨b1x, 0, none⟩)), (5, .int .u64 (worthTo I who t)), (11, .slice Aq ((edgesK kk).length) cq), (12, .int .i64 ((edgesK kk).length : Nat)), (13, .int .i64 (t : Nat))] ∧ Sat w z [rest w G, box b1x 24 [.pointer (some ⟨bx, 0, none⟩)], box b2x 28 [.slice Aq ((edgesK kk).length) cq], rIl Aq cq (edgesK kk), idA bx I]) _ ⟨0, rfl, Nat.zero_le _, F.sub ⟨by kernel_rfl, by kernel_rfl, by kernel_rfl, by kernel_rfl, by kernel_rfl, by kernel_rfl, trivial⟩, S⟩ ?_
 rintro m a z ⟨t, hm, hf1, F, S⟩
 refine s_reg ?_
 by_cases ht2 : ((t : Nat) : Int) < (((edgesK kk).length : Nat) : Int)
 ·
  skip
  have hwf2 := worth_fit ok who (t + 1) (by omega)
  have hwn : worthTo I who (t + 1) = worthTo I who t + freeP I (t : Nat) who := rfl
  refine l_do F rfl rfl (op_pure F (v0 := .bool (decide (((t : Nat) : Int) < (((edgesK kk).length : Nat) : Int)))) (v := .bool true) (by kernel_rfl) (lssT ht2) fun a F => ?_)
  refine l_then ?_
  refine wp_seq ?_
  refine c_t F rfl ?_
  refine wp_skip ?_
  refine then_n ?_
  refine wp_seq ?_
  refine wp_block ?_
  refine s_reg ?_
  refine l_do F rfl rfl (op_index _ 3 _ _ Aq ((edgesK kk).length) cq t 1 .i64 F rfl (by kernel_rfl) (by kernel_rfl) (by kernel_rfl) (by kernel_rfl) (get_lt (edgesK_at (i := kk) (j := t) (by omega))) (row_some S 3 rfl (m := t) (get_lt (edgesK_at (i := kk) (j := t) (by omega)))) (fun a F => ?_))
  refine l_do F rfl rfl (op_load _ _ Aq (t * 1) (.int .i64 (t : Nat)) F rfl (by kernel_rfl) (by kernel_rfl) (cRec S 3 iC_len_i64 rfl 0 (edgesK_at (i := kk) (j := t) (by omega)) rfl) (fun a F => ?_))
  refine l_pure 1 (fun L => (7, .int .i64 (t : Nat)) :: L) F (by kernel_rfl) fun a F => ?_
  refine l_then ?_
  refine wp_region_list ?_
  refine l_pure 1 (fun L => (17, .int .u64 (worthTo I who t)) :: L) F (by kernel_rfl) fun a F => ?_
  refine l_do F rfl rfl (op_load _ _ (some ⟨b1x, 0, none⟩) 0 (.pointer (some ⟨bx, 0, none⟩)) F rfl (by kernel_rfl) (by kernel_rfl) (cBox S 1 rfl (j := 0) rfl) (fun a F => ?_))
  refine l_pure 2 (fun L => (20, .int .i64 who) :: (19, .int .i64 (t : Nat)) :: L) F (by kernel_rfl) fun a F => ?_
  obtain ⟨G9, g9, hin9, hlt9, k9⟩ := S.frameB [4] (by decide) rfl
  refine l_do F rfl rfl (op_fn F (by kernel_rfl) (free24_any _ G9 bx I ok g9 (t : Nat) who) ?_)
  rintro e z9 ⟨rfl, g⟩
  have S : Sat w z9 [rest w G, box b1x 24 [.pointer (some ⟨bx, 0, none⟩)], box b2x 28 [.slice Aq ((edgesK kk).length) cq], rIl Aq cq (edgesK kk), idA bx I] := k9 z9 [idA bx I] rfl g
  clear g g9 k9 hin9 hlt9
  refine ⟨_, rfl, ?_⟩
  intro a F
  refine l_do F rfl rfl (op_pure F (v0 := .int .u64 (IntKind.wrap .u64 ((worthTo I who t) + (freeP I (t : Nat) who)))) (v := .int .u64 ((worthTo I who t) + (freeP I (t : Nat) who))) (by kernel_rfl) (wr_u64 (by omega) (by omega)) fun a F => ?_)
  refine l_pure 1 (fun L => (5, .int .u64 ((worthTo I who t) + (freeP I (t : Nat) who))) :: L) F (by kernel_rfl) fun a F => ?_
  refine l_nil (inb_n ?_)
  refine then_n ?_
  refine wp_region_list ?_
  refine l_do F rfl rfl (op_pure F (v0 := .int .i64 (IntKind.wrap .i64 ((t : Nat) + 1))) (v := .int .i64 (t + 1 : Nat)) (by kernel_rfl) (wrn_i64 (by omega) (by omega) (by omega)) fun a F => ?_)
  refine l_pure 1 (fun L => (13, .int .i64 (t + 1 : Nat)) :: L) F (by kernel_rfl) fun a F => ?_
  refine l_then ?_
  rw [← hwn] at F
  exact ⟨_, (by omega), t + 1, rfl, (by omega), F.sub ⟨by kernel_rfl, by kernel_rfl, by kernel_rfl, by kernel_rfl, by kernel_rfl, by kernel_rfl, trivial⟩, S⟩
 ·
  skip
  have ht : t = kk := by omega
  refine l_do F rfl rfl (op_pure F (v0 := .bool (decide (((t : Nat) : Int) < (((edgesK kk).length : Nat) : Int)))) (v := .bool false) (by kernel_rfl) (lssF ht2) fun a F => ?_)
  refine l_then ?_
  refine wp_seq ?_
  refine c_f F rfl ?_
  refine wp_exit ?_
  refine then_x ?_
  refine then_x ?_
  refine inb_x ?_
  refine then_n ?_
  refine s_reg ?_
  refine l_pure 2 (fun L => (4, .int .u64 (worthTo I who t)) :: (24, .int .u64 (worthTo I who t)) :: L) F (by kernel_rfl) fun a F => ?_
  refine l_then ?_
  refine wp_ret ?_
  exact fin F [.tmp 4] [.int .u64 (worthTo I who t)] rfl ⟨by kernel_rfl, trivial⟩ (.int .u64 (worthTo I who t)) rfl ⟨by rw [ht], S.pick [1, 2, 3, 4, 0] (by decide)⟩
set_option maxRecDepth 100000 in
set_option maxHeartbeats 4000000 in
theorem pays24_false (w : World) (Ax : Option Addr) (cx : Nat) (X : List Int) (hX : Recs 1 iC_u64 w Ax cx X) (hXu : ∀ a ∈ X, U64 a) (nv : Int) (hn0 : 0 ≤ nv) (hn1 : nv ≤ 255) : Calls Try.prog 3 #[.int .u8 nv, .slice Ax X.length cx, .bool false] w fun e w' => e = .returned (.bool true) ∧ Below w.heap.size w w' := by
 refine enter 156 Try.func3 rfl rfl rfl fun a F => ?_
 obtain ⟨kq, hkq⟩ : ∃ q : Nat, nv % 6 = (q : Int) := ⟨(nv % 6).toNat, by omega⟩
 have hxl := hX.len
 have S := Sat.pushRest w
 refine s_reg ?_
 refine l_pure 1 (fun L => (6, .bool false) :: L) F (by kernel_rfl) fun a F => ?_
 refine l_then ?_
 refine s_reg ?_
 refine l_pure 1 (fun L => (23, .int .u8 nv) :: L) F (by kernel_rfl) fun a F => ?_
 refine l_do F rfl rfl (op_rem _ _ _ _ .u8 nv 6 F rfl (by kernel_rfl) (by kernel_rfl) (by omega) ((Int.tmod_eq_emod_of_nonneg (by omega)).trans hkq) (fun a F => ?_))
 refine l_do F rfl rfl (op_pure F (v0 := .int .i64 (IntKind.wrap .i64 (kq : Nat))) (v := .int .i64 (kq : Nat)) (by kernel_rfl) (wr_i64 (by omega) (by omega)) fun a F => ?_)
 refine l_do F rfl rfl (op_pure F (v0 := .int .i64 (IntKind.wrap .i64 (1 + (kq : Nat)))) (v := .int .i64 (1 + kq : Nat)) (by kernel_rfl) (wrn_i64 (by omega) (by omega) (by omega)) fun a F => ?_)
 refine l_pure 1 (fun L => (7, .int .i64 (1 + kq : Nat)) :: L) F (by kernel_rfl) fun a F => ?_
 refine l_then ?_
 refine s_reg ?_
 refine l_pure 1 (fun L => (27, .int .i64 (1 + kq : Nat)) :: L) F (by kernel_rfl) fun a F => ?_
 refine l_do F rfl rfl (op_pure F (v0 := .int .i64 (IntKind.wrap .i64 ((1 + kq : Nat) + 1))) (v := .int .i64 (1 + kq + 1 : Nat)) (by kernel_rfl) (wrn_i64 (by omega) (by omega) (by omega)) fun a F => ?_)
 refine l_do F rfl rfl (op_make S _ 23 _ _ .i64 .i64 (.int .u64 0) 1 8 (1 + kq + 1) 0 iC_u64 F iC_len_u64 rfl (by kernel_rfl) (by kernel_rfl) rfl (by kernel_rfl) (by kernel_rfl) (by kernel_rfl) (by omega) (by omega) fun b1 z S a F => ?_)
 refine l_pure 1 (fun L => (8, .slice (some ⟨b1, 0, none⟩) (1 + kq + 1) (1 + kq + 1)) :: L) F (by kernel_rfl) fun a F => ?_
 refine l_then ?_
 refine wp_seq ?_
 refine s_reg ?_
 refine l_pure 3 (fun L => (32, .int .i64 0) :: (31, .int .i64 (1 + kq + 1 : Nat)) :: (30, .slice (some ⟨b1, 0, none⟩) (1 + kq + 1) (1 + kq + 1)) :: L) F (by kernel_rfl) fun a F => ?_
 refine l_then ?_
 refine wp_block ?_
 have S : Sat w z [rest w (· < w.heap.size), rU (some ⟨b1, 0, none⟩) (1 + kq + 1) (1 + kq + 1) (fill24 (1 + kq + 1) 0)] := by rw [fill24_zero]; exact S
 refine wp_loop_m (fun m a z => ∃ (i : Nat), m = 1 + kq + 1 - i ∧ (i ≤ 1 + kq + 1) ∧ Fr a 156 [(1, .slice Ax X.length cx), (2, .bool false), (7, .int .i64 (1 + kq : Nat)), (8, .slice (some ⟨b1, 0, none⟩) (1 + kq + 1) (1 + kq + 1)), (31, .int .i64 (1 + kq + 1 : Nat)), (32, .int .i64 (i : Nat))] ∧ Sat w z [rest w (· < w.heap.size), rU (some ⟨b1, 0, none⟩) (1 + kq + 1) (1 + kq + 1) (fill24 (1 + kq + 1) i)]) _ ⟨0, rfl, Nat.zero_le _, F.sub ⟨by kernel_rfl, by kernel_rfl, by kernel_rfl, by kernel_rfl, by kernel_rfl, by kernel_rfl, trivial⟩, S⟩ ?_
 rintro m a z ⟨i, hm, hf2, F, S⟩
 refine s_reg ?_
 by_cases ht3 : ((i : Nat) : Int) < ((1 + kq + 1 : Nat) : Int)
 ·
  skip
  refine l_do F rfl rfl (op_pure F (v0 := .bool (decide (((i : Nat) : Int) < ((1 + kq + 1 : Nat) : Int)))) (v := .bool true) (by kernel_rfl) (lssT ht3) fun a F => ?_)
  refine l_then ?_
  refine wp_seq ?_
  refine c_t F rfl ?_
  refine wp_skip ?_
  refine then_n ?_
  refine wp_seq ?_
  refine wp_block ?_
  refine s_reg ?_
  refine l_pure 2 (fun L => (9, .int .i64 (i : Nat)) :: (34, .int .i64 (i : Nat)) :: L) F (by kernel_rfl) fun a F => ?_
  refine l_then ?_
  refine wp_region_list ?_
  refine l_pure 2 (fun L => (36, .int .i64 (i : Nat)) :: (35, .slice (some ⟨b1, 0, none⟩) (1 + kq + 1) (1 + kq + 1)) :: L) F (by kernel_rfl) fun a F => ?_
  refine l_do F rfl rfl (op_index _ 23 _ _ (some ⟨b1, 0, none⟩) (1 + kq + 1) (1 + kq + 1) i 1 .i64 F rfl (by kernel_rfl) (by kernel_rfl) (by kernel_rfl) (by kernel_rfl) (by omega) rfl (fun a F => ?_))
  refine l_do F rfl rfl (op_storeRec S 1 _ _ _ (some ⟨b1, 0, none⟩) i 1 0 (.int .u64 1000) 1000 F iC_len_u64 (fill24_get (by omega)) rfl rfl (by kernel_rfl) (by kernel_rfl) (by kernel_rfl) (by kernel_rfl) (by kernel_rfl) (by kernel_rfl) (by kernel_rfl) fun z S a F => ?_)
  refine l_nil (inb_n ?_)
  refine then_n ?_
  refine wp_region_list ?_
  refine l_do F rfl rfl (op_pure F (v0 := .int .i64 (IntKind.wrap .i64 ((i : Nat) + 1))) (v := .int .i64 (i + 1 : Nat)) (by kernel_rfl) (wrn_i64 (by omega) (by omega) (by omega)) fun a F => ?_)
  refine l_pure 1 (fun L => (32, .int .i64 (i + 1 : Nat)) :: L) F (by kernel_rfl) fun a F => ?_
  refine l_then ?_
  rw [fill24_set (by omega)] at S
  exact ⟨_, (by omega), i + 1, rfl, (by omega), F.sub ⟨by kernel_rfl, by kernel_rfl, by kernel_rfl, by kernel_rfl, by kernel_rfl, by kernel_rfl, trivial⟩, S⟩
 ·
  skip
  have hi : i = 1 + kq + 1 := by omega
  rw [hi, fill24_all] at S
  obtain ⟨XX, hXX⟩ : ∃ XX, XX = List.replicate (1 + kq + 1) (1000 : Int) := ⟨_, rfl⟩
  rw [← hXX] at S
  have hXl : XX.length = 1 + kq + 1 := by rw [hXX]; simp
  rw [← hXl] at F S
  refine l_do F rfl rfl (op_pure F (v0 := .bool (decide (((i : Nat) : Int) < ((XX.length : Nat) : Int)))) (v := .bool false) (by kernel_rfl) (lssF (by omega)) fun a F => ?_)
  refine l_then ?_
  refine wp_seq ?_
  refine c_f F rfl ?_
  refine wp_exit ?_
  refine then_x ?_
  refine then_x ?_
  refine inb_x ?_
  refine then_n ?_
  refine s_reg ?_
  refine l_pure 1 (fun L => (40, .slice (some ⟨b1, 0, none⟩) XX.length XX.length) :: L) F (by kernel_rfl) fun a F => ?_
  refine l_do F rfl rfl (op_fn F (by kernel_rfl) (new24_ok _ (some ⟨b1, 0, none⟩) XX.length XX (Recs.ofRow (S.rowOf (i := 1) rfl) (by omega)) (fun a9 ha9 => by rw [hXX, List.mem_replicate] at ha9; rw [ha9.2]; exact ⟨by decide, by decide⟩) (by rw [hXX]; exact ch_new (by omega) (by omega))) ?_)
  rintro e z ⟨bx, rfl, g⟩
  have S := S.pushThings g
  have hok0 : IOk (chI XX 0) := new_ok (fun a9 ha9 => by rw [hXX, List.mem_replicate] at ha9; rw [ha9.2]; exact ⟨by decide, by decide⟩) (by rw [hXX]; exact ch_new (by omega) (by omega))
  refine ⟨_, rfl, ?_⟩
  intro a F
  refine l_pure 3 (fun L => (43, .int .i64 0) :: (42, .pointer (some ⟨bx, 0, none⟩)) :: (39, .tuple #[.pointer (some ⟨bx, 0, none⟩), .int .i64 0]) :: L) F (by kernel_rfl) fun a F => ?_
  refine l_do F rfl rfl (op_alloc S _ (.pointer none) rfl (by kernel_rfl) fun b4 z S a F => ?_)
  refine l_do F rfl rfl (op_storeB S 3 _ _ _ b4 0 (.pointer (some ⟨bx, 0, none⟩)) F rfl rfl (by kernel_rfl) (by kernel_rfl) (by kernel_rfl) (by kernel_rfl) (by kernel_rfl) fun z S a F => ?_)
  refine l_pure 1 (fun L => (11, .int .i64 0) :: L) F (by kernel_rfl) fun a F => ?_
  refine l_then ?_
  refine wp_seq ?_
  refine s_reg ?_
  refine l_do F rfl rfl (op_load _ _ (some ⟨b4, 0, none⟩) 0 (.pointer (some ⟨bx, 0, none⟩)) F rfl (by kernel_rfl) (by kernel_rfl) (cBox S 3 rfl (j := 0) rfl) (fun a F => ?_))
  refine l_pure 5 (fun L => (49, .bool false) :: (48, .bool false) :: (47, .int .i64 0) :: (46, .bool false) :: (45, .bool false) :: L) F (by kernel_rfl) fun a F => ?_
  refine l_then ?_
  refine c_f F rfl ?_
  refine wp_skip ?_
  refine then_n ?_
  refine s_reg ?_
  refine l_do F rfl rfl (op_alloc S _ (.slice none 0 0) rfl (by kernel_rfl) fun b5 z S a F => ?_)
  refine l_then ?_
  refine s_reg ?_
  refine l_pure 1 (fun L => (13, .slice none 0 0) :: L) F (by kernel_rfl) fun a F => ?_
  refine l_then ?_
  refine s_reg ?_
  refine l_pure 1 (fun L => (14, .int .u64 100) :: L) F (by kernel_rfl) fun a F => ?_
  refine l_then ?_
  refine wp_seq ?_
  refine s_reg ?_
  refine l_pure 2 (fun L => (51, .int .i64 0) :: (50, .int .i64 (1 + kq : Nat)) :: L) F (by kernel_rfl) fun a F => ?_
  refine l_then ?_
  refine wp_block ?_
  refine wp_loop_m (fun m a z => ∃ (i : Nat) (H : List Int) (Lq : List Int) (lv : Int) (Aq : Option Addr) (cq : Nat) (Al : Option Addr) (cl : Nat), m = 1 + kq - i ∧ (i ≤ 1 + kq) ∧ (ChOk H (1 + kq) i) ∧ (AmOk Lq lv) ∧ (Lq.length = i) ∧ (IOk (chI H i)) ∧ Fr a 156 [(1, .slice Ax X.length cx), (2, .bool false), (7, .int .i64 (1 + kq : Nat)), (8, .slice (some ⟨b1, 0, none⟩) XX.length XX.length), (10, .pointer (some ⟨b4, 0, none⟩)), (12, .pointer (some ⟨b5, 0, none⟩)), (13, .slice Al Lq.length cl), (14, .int .u64 lv), (50, .int .i64 (1 + kq : Nat)), (51, .int .i64 (i : Nat))] ∧ Sat w z [rest w (· < w.heap.size), rUl (some ⟨b1, 0, none⟩) XX.length XX, idA bx (chI H i), box b4 24 [.pointer (some ⟨bx, 0, none⟩)], box b5 28 [.slice Aq ((edgesK i).length) cq], rIl Aq cq (edgesK i), rUl Al cl Lq]) _ ⟨0, XX, ([] : List Int), 100, none, 0, none, 0, rfl, Nat.zero_le _, (by rw [hXX]; exact ch_start _), am_start, rfl, hok0, F.sub ⟨by kernel_rfl, by kernel_rfl, by kernel_rfl, by kernel_rfl, by kernel_rfl, by kernel_rfl, by kernel_rfl, by kernel_rfl, by kernel_rfl, by kernel_rfl, trivial⟩, ((S.nilRow 3 1).nilRow 23 1)⟩ ?_
  rintro m a z ⟨i, H, Lq, lv, Aq, cq, Al, cl, hm, hf6, hf7, hf8, hf9, hf10, F, S⟩
  have hch := hf7
  have ham := hf8
  have hLl := hf9
  have hoki := hf10
  have hlvlo := ham.lo
  have hlvhi := ham.hi
  have hkl := edgesK_len i
  refine s_reg ?_
  by_cases ht11 : ((i : Nat) : Int) < ((1 + kq : Nat) : Int)
  ·
   skip
   refine l_do F rfl rfl (op_pure F (v0 := .bool (decide (((i : Nat) : Int) < ((1 + kq : Nat) : Int)))) (v := .bool true) (by kernel_rfl) (lssT ht11) fun a F => ?_)
   refine l_then ?_
   refine wp_seq ?_
   refine c_t F rfl ?_
   refine wp_skip ?_
   refine then_n ?_
   refine wp_seq ?_
   refine wp_block ?_
   refine s_reg ?_
   refine l_pure 2 (fun L => (15, .int .i64 (i : Nat)) :: (53, .int .i64 (i : Nat)) :: L) F (by kernel_rfl) fun a F => ?_
   refine l_then ?_
   refine s_reg ?_
   refine l_do F rfl rfl (op_load _ _ (some ⟨b4, 0, none⟩) 0 (.pointer (some ⟨bx, 0, none⟩)) F rfl (by kernel_rfl) (by kernel_rfl) (cBox S 3 rfl (j := 0) rfl) (fun a F => ?_))
   refine l_pure 2 (fun L => (57, .int .i64 (i : Nat)) :: (56, .int .i64 (i : Nat)) :: L) F (by kernel_rfl) fun a F => ?_
   refine l_do F rfl rfl (op_pure F (v0 := .int .i64 (IntKind.wrap .i64 ((i : Nat) + 1))) (v := .int .i64 (i + 1 : Nat)) (by kernel_rfl) (wrn_i64 (by omega) (by omega) (by omega)) fun a F => ?_)
   refine l_pure 1 (fun L => (59, .agg #[.int .u64 200, .int .u64 100]) :: L) F (by kernel_rfl) fun a F => ?_
   obtain ⟨H2, hop, hch2⟩ := ch_open hch (by omega) (by omega)
   obtain ⟨G9, g9, hin9, hlt9, k9⟩ := S.frameB [2] (by decide) rfl
   refine l_do F rfl rfl (op_fn F (by kernel_rfl) (open24_at hop _ G9 bx hoki g9 ⟨by decide, by decide⟩ ⟨by decide, by decide⟩) ?_)
   rintro e z9 ⟨rfl, g⟩
   have S : Sat w z9 [rest w (· < w.heap.size), rUl (some ⟨b1, 0, none⟩) XX.length XX, idA bx (chI H2 (i + 1)), box b4 24 [.pointer (some ⟨bx, 0, none⟩)], box b5 28 [.slice Aq ((edgesK i).length) cq], rIl Aq cq (edgesK i), rUl Al cl Lq] := k9 z9 [idA bx (chI H2 (i + 1))] rfl g
   clear g g9 k9 hin9 hlt9
   have hok2 := (open_keeps hoki (a := (i : Nat)) (b := ((i + 1 : Nat) : Int)) (p := 200) (q := 100) (by decide) (by decide)).1
   rw [hop] at hok2
   refine ⟨_, rfl, ?_⟩
   intro a F
   refine l_pure 5 (fun L => (17, .int .i64 0) :: (16, .int .i64 (i : Nat)) :: (62, .int .i64 0) :: (61, .int .i64 (i : Nat)) :: (54, .tuple #[.int .i64 (i : Nat), .int .i64 0]) :: L) F (by kernel_rfl) fun a F => ?_
   refine l_then ?_
   refine wp_seq ?_
   refine s_reg ?_
   refine l_pure 2 (fun L => (64, .bool false) :: (63, .int .i64 0) :: L) F (by kernel_rfl) fun a F => ?_
   refine l_then ?_
   refine c_f F rfl ?_
   refine wp_skip ?_
   refine then_n ?_
   refine s_reg ?_
   refine l_do F rfl rfl (op_load _ _ (some ⟨b5, 0, none⟩) 0 (.slice Aq ((edgesK i).length) cq) F rfl (by kernel_rfl) (by kernel_rfl) (cBox S 4 rfl (j := 0) rfl) (fun a F => ?_))
   refine l_pure 1 (fun L => (66, .int .i64 (i : Nat)) :: L) F (by kernel_rfl) fun a F => ?_
   refine l_do F rfl rfl (op_buildSlice S _ 1 _ 3 1 iC_i64 ([(i : Nat)] : List Int) F rfl (by kernel_rfl) (by kernel_rfl) (by kernel_rfl) (by unfold maxLen; omega) fun b12 z S a F => ?_)
   refine l_do F rfl rfl (op_append S 5 _ _ _ 3 (.int .i64 0) 1 8 (edgesK i) ([(i : Nat)] : List Int) iC_i64 (some ⟨b12, 0, none⟩) 1 F iC_len_i64 (fun _ => rfl) rfl rfl (by kernel_rfl) (by kernel_rfl) rfl rfl rfl (by kernel_rfl) (by kernel_rfl) (row_none (S.rowOf (i := 7) rfl)) (src_row (S.rowOf (i := 7) rfl)) (by first | omega | (simp <;> omega)) fun A13 c14 z S a F => ?_)
   refine l_do F rfl rfl (op_storeB S 4 _ _ _ b5 0 (.slice A13 (((edgesK i) ++ ([(i : Nat)] : List Int)).length) c14) F rfl rfl (by kernel_rfl) (by kernel_rfl) (by kernel_rfl) (by kernel_rfl) (by kernel_rfl) fun z S a F => ?_)
   refine l_then ?_
   refine wp_seq ?_
   refine s_reg ?_
   refine l_pure 3 (fun L => (71, .int .i64 (X.length : Nat)) :: (70, .slice Ax X.length cx) :: (69, .int .i64 (i : Nat)) :: L) F (by kernel_rfl) fun a F => ?_
   by_cases ht15 : ((i : Nat) : Int) < ((X.length : Nat) : Int)
   ·
    skip
    obtain ⟨xi, hxi⟩ : ∃ xi, X[i]? = some xi := ⟨_, List.getElem?_eq_getElem (by omega)⟩
    have hxu := hXu xi (List.mem_of_getElem? hxi)
    unfold U64 at hxu
    refine l_do F rfl rfl (op_pure F (v0 := .bool (decide (((i : Nat) : Int) < ((X.length : Nat) : Int)))) (v := .bool true) (by kernel_rfl) (lssT ht15) fun a F => ?_)
    refine l_then ?_
    refine c_t F rfl ?_
    refine wp_region_list ?_
    refine l_pure 2 (fun L => (74, .int .i64 (i : Nat)) :: (73, .slice Ax X.length cx) :: L) F (by kernel_rfl) fun a F => ?_
    refine l_do F rfl rfl (op_index _ 23 _ _ Ax X.length cx i 1 .i64 F rfl (by kernel_rfl) (by kernel_rfl) (by kernel_rfl) (by kernel_rfl) (get_lt hxi) (recs_some hX (m := i) (get_lt hxi)) (fun a F => ?_))
    refine l_do F rfl rfl (op_load _ _ Ax (i * 1) (.int .u64 xi) F rfl (by kernel_rfl) (by kernel_rfl) (cOld S 0 iC_len_u64 hX rfl 0 hxi rfl) (fun a F => ?_))
    refine l_pure 1 (fun L => (77, .int .u64 lv) :: L) F (by kernel_rfl) fun a F => ?_
    have hm1 := Int.emod_nonneg xi (show lv ≠ 0 from by omega)
    have hm2 := Int.emod_lt_of_pos xi (show 0 < lv from by omega)
    refine l_do F rfl rfl (op_rem _ _ _ _ .u64 xi lv F rfl (by kernel_rfl) (by kernel_rfl) (by omega) (Int.tmod_eq_emod_of_nonneg (by omega)) (fun a F => ?_))
    refine l_do F rfl rfl (op_pure F (v0 := .int .u64 (IntKind.wrap .u64 (1 + (xi % lv)))) (v := .int .u64 (1 + (xi % lv))) (by kernel_rfl) (wr_u64 (by omega) (by omega)) fun a F => ?_)
    refine l_pure 1 (fun L => (14, .int .u64 (1 + (xi % lv))) :: L) F (by kernel_rfl) fun a F => ?_
    refine l_then ?_
    refine wp_region_list ?_
    refine l_pure 2 (fun L => (81, .int .u64 (1 + (xi % lv))) :: (80, .slice Al Lq.length cl) :: L) F (by kernel_rfl) fun a F => ?_
    refine l_do F rfl rfl (op_buildSlice S _ 1 _ 23 1 iC_u64 ([1 + (xi % lv)] : List Int) F rfl (by kernel_rfl) (by kernel_rfl) (by kernel_rfl) (by unfold maxLen; omega) fun b16 z S a F => ?_)
    refine l_do F rfl rfl (op_append S 6 _ _ _ 23 (.int .u64 0) 1 8 Lq ([1 + (xi % lv)] : List Int) iC_u64 (some ⟨b16, 0, none⟩) 1 F iC_len_u64 (fun _ => rfl) rfl rfl (by kernel_rfl) (by kernel_rfl) rfl rfl rfl (by kernel_rfl) (by kernel_rfl) (row_none (S.rowOf (i := 8) rfl)) (src_row (S.rowOf (i := 8) rfl)) (by first | omega | (simp <;> omega)) fun A17 c18 z S a F => ?_)
    refine l_pure 1 (fun L => (13, .slice A17 ((Lq ++ ([1 + (xi % lv)] : List Int)).length) c18) :: L) F (by kernel_rfl) fun a F => ?_
    refine l_nil (inb_n ?_)
    refine then_n ?_
    refine wp_region_list ?_
    refine l_do F rfl rfl (op_pure F (v0 := .int .i64 (IntKind.wrap .i64 ((i : Nat) + 1))) (v := .int .i64 (i + 1 : Nat)) (by kernel_rfl) (wrn_i64 (by omega) (by omega) (by omega)) fun a F => ?_)
    refine l_pure 1 (fun L => (51, .int .i64 (i + 1 : Nat)) :: L) F (by kernel_rfl) fun a F => ?_
    refine l_then ?_
    have hsn : ((edgesK i) ++ ([(i : Nat)] : List Int)) = edgesK (i + 1) := (edgesK_snoc i).symm
    rw [hsn] at F S
    exact ⟨_, (by omega), i + 1, H2, (Lq ++ ([1 + (xi % lv)] : List Int)), 1 + (xi % lv), A13, c14, A17, c18, rfl, (by omega), hch2, (am_snoc ham (by omega) (by omega)), (by simp; omega), hok2, F.sub ⟨by kernel_rfl, by kernel_rfl, by kernel_rfl, by kernel_rfl, by kernel_rfl, by kernel_rfl, by kernel_rfl, by kernel_rfl, by kernel_rfl, by kernel_rfl, trivial⟩, (S.pick [0, 1, 2, 3, 4, 5, 6] (by decide))⟩
   ·
    skip
    refine l_do F rfl rfl (op_pure F (v0 := .bool (decide (((i : Nat) : Int) < ((X.length : Nat) : Int)))) (v := .bool false) (by kernel_rfl) (lssF ht15) fun a F => ?_)
    refine l_then ?_
    refine c_f F rfl ?_
    refine wp_skip ?_
    refine then_n ?_
    refine wp_region_list ?_
    refine l_pure 2 (fun L => (81, .int .u64 lv) :: (80, .slice Al Lq.length cl) :: L) F (by kernel_rfl) fun a F => ?_
    refine l_do F rfl rfl (op_buildSlice S _ 1 _ 23 1 iC_u64 ([lv] : List Int) F rfl (by kernel_rfl) (by kernel_rfl) (by kernel_rfl) (by unfold maxLen; omega) fun b19 z S a F => ?_)
    refine l_do F rfl rfl (op_append S 6 _ _ _ 23 (.int .u64 0) 1 8 Lq ([lv] : List Int) iC_u64 (some ⟨b19, 0, none⟩) 1 F iC_len_u64 (fun _ => rfl) rfl rfl (by kernel_rfl) (by kernel_rfl) rfl rfl rfl (by kernel_rfl) (by kernel_rfl) (row_none (S.rowOf (i := 8) rfl)) (src_row (S.rowOf (i := 8) rfl)) (by first | omega | (simp <;> omega)) fun A20 c21 z S a F => ?_)
    refine l_pure 1 (fun L => (13, .slice A20 ((Lq ++ ([lv] : List Int)).length) c21) :: L) F (by kernel_rfl) fun a F => ?_
    refine l_nil (inb_n ?_)
    refine then_n ?_
    refine wp_region_list ?_
    refine l_do F rfl rfl (op_pure F (v0 := .int .i64 (IntKind.wrap .i64 ((i : Nat) + 1))) (v := .int .i64 (i + 1 : Nat)) (by kernel_rfl) (wrn_i64 (by omega) (by omega) (by omega)) fun a F => ?_)
    refine l_pure 1 (fun L => (51, .int .i64 (i + 1 : Nat)) :: L) F (by kernel_rfl) fun a F => ?_
    refine l_then ?_
    have hsn : ((edgesK i) ++ ([(i : Nat)] : List Int)) = edgesK (i + 1) := (edgesK_snoc i).symm
    rw [hsn] at F S
    exact ⟨_, (by omega), i + 1, H2, (Lq ++ ([lv] : List Int)), lv, A13, c14, A20, c21, rfl, (by omega), hch2, (am_snoc ham (by omega) (by omega)), (by simp; omega), hok2, F.sub ⟨by kernel_rfl, by kernel_rfl, by kernel_rfl, by kernel_rfl, by kernel_rfl, by kernel_rfl, by kernel_rfl, by kernel_rfl, by kernel_rfl, by kernel_rfl, trivial⟩, (S.pick [0, 1, 2, 3, 4, 5, 6] (by decide))⟩
  ·
   skip
   have hi : i = 1 + kq := by omega
   subst hi
   have hokK := hoki
   have hkl := edgesK_len (1 + kq)
   refine l_do F rfl rfl (op_pure F (v0 := .bool (decide ((((1 + kq) : Nat) : Int) < ((1 + kq : Nat) : Int)))) (v := .bool false) (by kernel_rfl) (lssF ht11) fun a F => ?_)
   refine l_then ?_
   refine wp_seq ?_
   refine c_f F rfl ?_
   refine wp_exit ?_
   refine then_x ?_
   refine then_x ?_
   refine inb_x ?_
   refine then_n ?_
   refine s_reg ?_
   refine l_pure 2 (fun L => (18, .func (.func 9) #[] #[.pointer (some ⟨b4, 0, none⟩), .pointer (some ⟨b5, 0, none⟩)]) :: (85, .func (.func 9) #[] #[.pointer (some ⟨b4, 0, none⟩), .pointer (some ⟨b5, 0, none⟩)]) :: L) F (by kernel_rfl) fun a F => ?_
   refine l_then ?_
   refine s_reg ?_
   refine l_pure 1 (fun L => (19, .slice none 0 0) :: L) F (by kernel_rfl) fun a F => ?_
   refine l_then ?_
   refine wp_seq ?_
   refine s_reg ?_
   refine l_pure 3 (fun L => (88, .int .i64 0) :: (87, .int .i64 (XX.length : Nat)) :: (86, .slice (some ⟨b1, 0, none⟩) XX.length XX.length) :: L) F (by kernel_rfl) fun a F => ?_
   refine l_then ?_
   refine wp_block ?_
   refine wp_loop_m (fun m a z => ∃ (j : Nat) (Aw : Option Addr) (cw : Nat), m = XX.length - j ∧ (j ≤ XX.length) ∧ Fr a 156 [(2, .bool false), (7, .int .i64 (1 + kq : Nat)), (8, .slice (some ⟨b1, 0, none⟩) XX.length XX.length), (10, .pointer (some ⟨b4, 0, none⟩)), (12, .pointer (some ⟨b5, 0, none⟩)), (13, .slice Al Lq.length cl), (18, .func (.func 9) #[] #[.pointer (some ⟨b4, 0, none⟩), .pointer (some ⟨b5, 0, none⟩)]), (19, .slice Aw ((wasL H (1 + kq) j).length) cw), (87, .int .i64 (XX.length : Nat)), (88, .int .i64 (j : Nat))] ∧ Sat w z [rest w (· < w.heap.size), rUl (some ⟨b1, 0, none⟩) XX.length XX, idA bx (chI H (1 + kq)), box b4 24 [.pointer (some ⟨bx, 0, none⟩)], box b5 28 [.slice Aq ((edgesK (1 + kq)).length) cq], rIl Aq cq (edgesK (1 + kq)), rUl Al cl Lq, rUl Aw cw (wasL H (1 + kq) j)]) _ ⟨0, none, 0, rfl, Nat.zero_le _, F.sub ⟨by kernel_rfl, by kernel_rfl, by kernel_rfl, by kernel_rfl, by kernel_rfl, by kernel_rfl, by kernel_rfl, by kernel_rfl, by kernel_rfl, by kernel_rfl, trivial⟩, (S.nilRow 23 1)⟩ ?_
   rintro m a z ⟨j, Aw, cw, hm, hf22, F, S⟩
   have hwl := wasL_len H (1 + kq) j
   refine s_reg ?_
   by_cases ht23 : ((j : Nat) : Int) < ((XX.length : Nat) : Int)
   ·
    skip
    have hwf := worth_fit hokK (j : Nat) (1 + kq) (by show (1 + kq) ≤ (chainE (1 + kq)).length; rw [chainE_len]; omega)
    refine l_do F rfl rfl (op_pure F (v0 := .bool (decide (((j : Nat) : Int) < ((XX.length : Nat) : Int)))) (v := .bool true) (by kernel_rfl) (lssT ht23) fun a F => ?_)
    refine l_then ?_
    refine wp_seq ?_
    refine c_t F rfl ?_
    refine wp_skip ?_
    refine then_n ?_
    refine wp_seq ?_
    refine wp_block ?_
    refine s_reg ?_
    refine l_pure 2 (fun L => (20, .int .i64 (j : Nat)) :: (90, .int .i64 (j : Nat)) :: L) F (by kernel_rfl) fun a F => ?_
    refine l_then ?_
    refine wp_region_list ?_
    refine l_pure 3 (fun L => (93, .int .i64 (j : Nat)) :: (92, .func (.func 9) #[] #[.pointer (some ⟨b4, 0, none⟩), .pointer (some ⟨b5, 0, none⟩)]) :: (91, .slice Aw ((wasL H (1 + kq) j).length) cw) :: L) F (by kernel_rfl) fun a F => ?_
    obtain ⟨G9, g9, hin9, hlt9, k9⟩ := S.frameB [3, 4, 5, 2] (by decide) rfl
    refine l_do F rfl rfl (op_fn F (by kernel_rfl) (worth24_any _ G9 b4 b5 bx (chI H (1 + kq)) hokK (1 + kq) (by first | (show (1 + kq) ≤ (chainE (1 + kq)).length; rw [chainE_len]; omega) | omega) (by omega) Aq cq (j : Nat) g9) ?_)
    rintro e z9 ⟨rfl, g⟩
    have S : Sat w z9 [rest w (· < w.heap.size), rUl (some ⟨b1, 0, none⟩) XX.length XX, idA bx (chI H (1 + kq)), box b4 24 [.pointer (some ⟨bx, 0, none⟩)], box b5 28 [.slice Aq ((edgesK (1 + kq)).length) cq], rIl Aq cq (edgesK (1 + kq)), rUl Al cl Lq, rUl Aw cw (wasL H (1 + kq) j)] := k9 z9 [box b4 24 [.pointer (some ⟨bx, 0, none⟩)], box b5 28 [.slice Aq ((edgesK (1 + kq)).length) cq], rIl Aq cq (edgesK (1 + kq)), idA bx (chI H (1 + kq))] rfl g
    clear g g9 k9 hin9 hlt9
    refine ⟨_, rfl, ?_⟩
    intro a F
    refine l_do F rfl rfl (op_buildSlice S _ 1 _ 23 1 iC_u64 ([worthTo (chI H (1 + kq)) (j : Nat) (1 + kq)] : List Int) F rfl (by kernel_rfl) (by kernel_rfl) (by kernel_rfl) (by unfold maxLen; omega) fun b24 z S a F => ?_)
    refine l_do F rfl rfl (op_append S 7 _ _ _ 23 (.int .u64 0) 1 8 (wasL H (1 + kq) j) ([worthTo (chI H (1 + kq)) (j : Nat) (1 + kq)] : List Int) iC_u64 (some ⟨b24, 0, none⟩) 1 F iC_len_u64 (fun _ => rfl) rfl rfl (by kernel_rfl) (by kernel_rfl) rfl rfl rfl (by kernel_rfl) (by kernel_rfl) (row_none (S.rowOf (i := 8) rfl)) (src_row (S.rowOf (i := 8) rfl)) (by first | omega | (simp <;> omega)) fun A25 c26 z S a F => ?_)
    refine l_pure 1 (fun L => (19, .slice A25 (((wasL H (1 + kq) j) ++ ([worthTo (chI H (1 + kq)) (j : Nat) (1 + kq)] : List Int)).length) c26) :: L) F (by kernel_rfl) fun a F => ?_
    refine l_nil (inb_n ?_)
    refine then_n ?_
    refine wp_region_list ?_
    refine l_do F rfl rfl (op_pure F (v0 := .int .i64 (IntKind.wrap .i64 ((j : Nat) + 1))) (v := .int .i64 (j + 1 : Nat)) (by kernel_rfl) (wrn_i64 (by omega) (by omega) (by omega)) fun a F => ?_)
    refine l_pure 1 (fun L => (88, .int .i64 (j + 1 : Nat)) :: L) F (by kernel_rfl) fun a F => ?_
    refine l_then ?_
    have hsn : ((wasL H (1 + kq) j) ++ ([worthTo (chI H (1 + kq)) (j : Nat) (1 + kq)] : List Int)) = wasL H (1 + kq) (j + 1) := (wasL_snoc _ _ _).symm
    rw [hsn] at F S
    exact ⟨_, (by omega), j + 1, A25, c26, rfl, (by omega), F.sub ⟨by kernel_rfl, by kernel_rfl, by kernel_rfl, by kernel_rfl, by kernel_rfl, by kernel_rfl, by kernel_rfl, by kernel_rfl, by kernel_rfl, by kernel_rfl, trivial⟩, (S.pick [0, 1, 2, 3, 4, 5, 6, 7] (by decide))⟩
   ·
    skip
    have hj : j = 1 + kq + 1 := by omega
    subst hj
    refine l_do F rfl rfl (op_pure F (v0 := .bool (decide ((((1 + kq + 1) : Nat) : Int) < ((XX.length : Nat) : Int)))) (v := .bool false) (by kernel_rfl) (lssF (by omega)) fun a F => ?_)
    refine l_then ?_
    refine wp_seq ?_
    refine c_f F rfl ?_
    refine wp_exit ?_
    refine then_x ?_
    refine then_x ?_
    refine inb_x ?_
    refine then_n ?_
    refine wp_seq ?_
    refine s_reg ?_
    refine l_do F rfl rfl (op_load _ _ (some ⟨b4, 0, none⟩) 0 (.pointer (some ⟨bx, 0, none⟩)) F rfl (by kernel_rfl) (by kernel_rfl) (cBox S 3 rfl (j := 0) rfl) (fun a F => ?_))
    refine l_do F rfl rfl (op_load _ _ (some ⟨b5, 0, none⟩) 0 (.slice Aq ((edgesK (1 + kq)).length) cq) F rfl (by kernel_rfl) (by kernel_rfl) (cBox S 4 rfl (j := 0) rfl) (fun a F => ?_))
    refine l_pure 1 (fun L => (100, .slice Al Lq.length cl) :: L) F (by kernel_rfl) fun a F => ?_
    have hbg := ch_begin (H := H) (by omega) (by omega) hLl ham
    have hLu : ∀ a ∈ Lq, U64 a := fun a9 ha9 => by have h9 := ham.each a9 ha9; have h8 := ham.lo; exact ⟨by omega, by omega⟩
    obtain ⟨G9, g9, hin9, hlt9, k9⟩ := S.frameB [2] (by decide) rfl
    refine l_do F rfl rfl (op_fn F (by kernel_rfl) (begin24_at hbg _ G9 bx hokK g9 Aq cq (Recs.ofRow (S.rowOf (i := 5) rfl) (by omega)) (InG.row S hin9 5 (by decide) rfl) Al cl (Recs.ofRow (S.rowOf (i := 6) rfl) (by omega)) (InG.row S hin9 6 (by decide) rfl) hLu) ?_)
    rintro e z9 ⟨rfl, g⟩
    have S : Sat w z9 [rest w (· < w.heap.size), rUl (some ⟨b1, 0, none⟩) XX.length XX, idA bx (⟨H, chainE (1 + kq), freeK Lq (1 + kq) (1 + kq), [⟨5, 0, legsK Lq (1 + kq)⟩]⟩ : Idl), box b4 24 [.pointer (some ⟨bx, 0, none⟩)], box b5 28 [.slice Aq ((edgesK (1 + kq)).length) cq], rIl Aq cq (edgesK (1 + kq)), rUl Al cl Lq, rUl Aw cw (wasL H (1 + kq) (1 + kq + 1))] := k9 z9 [idA bx (⟨H, chainE (1 + kq), freeK Lq (1 + kq) (1 + kq), [⟨5, 0, legsK Lq (1 + kq)⟩]⟩ : Idl)] rfl g
    clear g g9 k9 hin9 hlt9
    have hok8 := (beg_keeps hokK (id := 5) (fr := 0) (E := edgesK (1 + kq)) (fun a9 ha9 => (hLu a9 ha9).1)).1
    rw [hbg] at hok8
    refine ⟨_, rfl, ?_⟩
    intro a F
    refine l_pure 2 (fun L => (103, .bool false) :: (102, .bool false) :: L) F (by kernel_rfl) fun a F => ?_
    refine l_do F rfl rfl (op_load _ _ (some ⟨b4, 0, none⟩) 0 (.pointer (some ⟨bx, 0, none⟩)) F rfl (by kernel_rfl) (by kernel_rfl) (cBox S 3 rfl (j := 0) rfl) (fun a F => ?_))
    refine l_pure 1 (fun L => (105, .bool false) :: L) F (by kernel_rfl) fun a F => ?_
    obtain ⟨G9, g9, hin9, hlt9, k9⟩ := S.frameB [2] (by decide) rfl
    refine l_do F rfl rfl (op_fn F (by kernel_rfl) (end24_at (ch_end false) _ G9 bx hok8 g9) ?_)
    rintro e z9 ⟨rfl, g⟩
    have S : Sat w z9 [rest w (· < w.heap.size), rUl (some ⟨b1, 0, none⟩) XX.length XX, idA bx (⟨H, chainE (1 + kq), paidK Lq (1 + kq) (1 + kq) false, [⟨5, if false = true then 1 else 2, legsK Lq (1 + kq)⟩]⟩ : Idl), box b4 24 [.pointer (some ⟨bx, 0, none⟩)], box b5 28 [.slice Aq ((edgesK (1 + kq)).length) cq], rIl Aq cq (edgesK (1 + kq)), rUl Al cl Lq, rUl Aw cw (wasL H (1 + kq) (1 + kq + 1))] := k9 z9 [idA bx (⟨H, chainE (1 + kq), paidK Lq (1 + kq) (1 + kq) false, [⟨5, if false = true then 1 else 2, legsK Lq (1 + kq)⟩]⟩ : Idl)] rfl g
    clear g g9 k9 hin9 hlt9
    have hok9 := (end_keeps hok8 (id := 5) (paid := false)).1
    rw [ch_end false] at hok9
    refine ⟨_, rfl, ?_⟩
    intro a F
    refine l_pure 3 (fun L => (109, .bool false) :: (108, .bool false) :: (107, .bool false) :: L) F (by kernel_rfl) fun a F => ?_
    refine l_do F rfl rfl (op_load _ _ (some ⟨b4, 0, none⟩) 0 (.pointer (some ⟨bx, 0, none⟩)) F rfl (by kernel_rfl) (by kernel_rfl) (cBox S 3 rfl (j := 0) rfl) (fun a F => ?_))
    refine l_pure 2 (fun L => (112, .bool true) :: (111, .bool false) :: L) F (by kernel_rfl) fun a F => ?_
    obtain ⟨G9, g9, hin9, hlt9, k9⟩ := S.frameB [2] (by decide) rfl
    refine l_do F rfl rfl (op_fn F (by kernel_rfl) (end24_at (ch_end2 false true) _ G9 bx hok9 g9) ?_)
    rintro e z9 ⟨rfl, g⟩
    have S : Sat w z9 [rest w (· < w.heap.size), rUl (some ⟨b1, 0, none⟩) XX.length XX, idA bx (⟨H, chainE (1 + kq), paidK Lq (1 + kq) (1 + kq) false, [⟨5, if false = true then 1 else 2, legsK Lq (1 + kq)⟩]⟩ : Idl), box b4 24 [.pointer (some ⟨bx, 0, none⟩)], box b5 28 [.slice Aq ((edgesK (1 + kq)).length) cq], rIl Aq cq (edgesK (1 + kq)), rUl Al cl Lq, rUl Aw cw (wasL H (1 + kq) (1 + kq + 1))] := k9 z9 [idA bx (⟨H, chainE (1 + kq), paidK Lq (1 + kq) (1 + kq) false, [⟨5, if false = true then 1 else 2, legsK Lq (1 + kq)⟩]⟩ : Idl)] rfl g
    clear g g9 k9 hin9 hlt9
    refine ⟨_, rfl, ?_⟩
    intro a F
    refine l_pure 2 (fun L => (115, .bool false) :: (114, .bool false) :: L) F (by kernel_rfl) fun a F => ?_
    refine l_then ?_
    refine c_f F rfl ?_
    refine wp_skip ?_
    refine then_n ?_
    refine wp_seq ?_
    refine s_reg ?_
    refine l_pure 3 (fun L => (118, .int .i64 0) :: (117, .int .i64 (XX.length : Nat)) :: (116, .slice (some ⟨b1, 0, none⟩) XX.length XX.length) :: L) F (by kernel_rfl) fun a F => ?_
    refine l_then ?_
    refine wp_block ?_
    refine wp_loop_m (fun m a z => ∃ (t : Nat), m = XX.length - t ∧ (t ≤ XX.length) ∧ Fr a 156 [(2, .bool false), (7, .int .i64 (1 + kq : Nat)), (13, .slice Al Lq.length cl), (18, .func (.func 9) #[] #[.pointer (some ⟨b4, 0, none⟩), .pointer (some ⟨b5, 0, none⟩)]), (19, .slice Aw ((wasL H (1 + kq) (1 + kq + 1)).length) cw), (117, .int .i64 (XX.length : Nat)), (118, .int .i64 (t : Nat))] ∧ Sat w z [rest w (· < w.heap.size), rUl (some ⟨b1, 0, none⟩) XX.length XX, idA bx (⟨H, chainE (1 + kq), paidK Lq (1 + kq) (1 + kq) false, [⟨5, if false = true then 1 else 2, legsK Lq (1 + kq)⟩]⟩ : Idl), box b4 24 [.pointer (some ⟨bx, 0, none⟩)], box b5 28 [.slice Aq ((edgesK (1 + kq)).length) cq], rIl Aq cq (edgesK (1 + kq)), rUl Al cl Lq, rUl Aw cw (wasL H (1 + kq) (1 + kq + 1))]) _ ⟨0, rfl, Nat.zero_le _, F.sub ⟨by kernel_rfl, by kernel_rfl, by kernel_rfl, by kernel_rfl, by kernel_rfl, by kernel_rfl, by kernel_rfl, trivial⟩, S⟩ ?_
    rintro m a z ⟨t, hm, hf27, F, S⟩
    refine s_reg ?_
    by_cases ht28 : ((t : Nat) : Int) < ((XX.length : Nat) : Int)
    ·
     skip
     have hwf := was_fit hch (show t ≤ (1 + kq) from by omega)
     have hwp := worth_back (L := Lq) (l := [⟨5, if false = true then 1 else 2, legsK Lq (1 + kq)⟩]) hch (show t ≤ (1 + kq) from by omega)
     refine l_do F rfl rfl (op_pure F (v0 := .bool (decide (((t : Nat) : Int) < ((XX.length : Nat) : Int)))) (v := .bool true) (by kernel_rfl) (lssT ht28) fun a F => ?_)
     refine l_then ?_
     refine wp_seq ?_
     refine c_t F rfl ?_
     refine wp_skip ?_
     refine then_n ?_
     refine wp_seq ?_
     refine wp_block ?_
     refine s_reg ?_
     refine l_pure 2 (fun L => (21, .int .i64 (t : Nat)) :: (120, .int .i64 (t : Nat)) :: L) F (by kernel_rfl) fun a F => ?_
     refine l_then ?_
     refine s_reg ?_
     refine l_pure 2 (fun L => (122, .int .i64 (t : Nat)) :: (121, .slice Aw ((wasL H (1 + kq) (1 + kq + 1)).length) cw) :: L) F (by kernel_rfl) fun a F => ?_
     refine l_do F rfl rfl (op_index _ 23 _ _ Aw ((wasL H (1 + kq) (1 + kq + 1)).length) cw t 1 .i64 F rfl (by kernel_rfl) (by kernel_rfl) (by kernel_rfl) (by kernel_rfl) (get_lt (wasL_at (by omega))) (row_some S 7 rfl (m := t) (get_lt (wasL_at (by omega)))) (fun a F => ?_))
     refine l_do F rfl rfl (op_load _ _ Aw (t * 1) (.int .u64 (worthTo (chI H (1 + kq)) (t : Nat) (1 + kq))) F rfl (by kernel_rfl) (by kernel_rfl) (cRec S 7 iC_len_u64 rfl 0 (wasL_at (by omega)) rfl) (fun a F => ?_))
     refine l_pure 1 (fun L => (22, .int .u64 (worthTo (chI H (1 + kq)) (t : Nat) (1 + kq))) :: L) F (by kernel_rfl) fun a F => ?_
     refine l_then ?_
     refine wp_seq ?_
     refine s_reg ?_
     refine l_pure 5 (fun L => (129, .bool false) :: (128, undef) :: (127, undef) :: (126, .bool false) :: (125, .bool false) :: L) F (by kernel_rfl) fun a F => ?_
     refine l_then ?_
     refine c_f F rfl ?_
     refine wp_skip ?_
     refine then_n ?_
     refine wp_seq ?_
     refine s_reg ?_
     refine l_pure 6 (fun L => (142, .bool false) :: (141, undef) :: (140, undef) :: (139, undef) :: (138, .bool false) :: (137, .bool false) :: L) F (by kernel_rfl) fun a F => ?_
     refine l_then ?_
     refine c_f F rfl ?_
     refine wp_skip ?_
     refine then_n ?_
     refine s_reg ?_
     refine l_pure 2 (fun L => (150, .int .i64 (t : Nat)) :: (149, .func (.func 9) #[] #[.pointer (some ⟨b4, 0, none⟩), .pointer (some ⟨b5, 0, none⟩)]) :: L) F (by kernel_rfl) fun a F => ?_
     obtain ⟨G9, g9, hin9, hlt9, k9⟩ := S.frameB [3, 4, 5, 2] (by decide) rfl
     refine l_do F rfl rfl (op_fn F (by kernel_rfl) (worth24_any _ G9 b4 b5 bx (⟨H, chainE (1 + kq), paidK Lq (1 + kq) (1 + kq) false, [⟨5, if false = true then 1 else 2, legsK Lq (1 + kq)⟩]⟩ : Idl) hok9 (1 + kq) (by first | (show (1 + kq) ≤ (chainE (1 + kq)).length; rw [chainE_len]; omega) | omega) (by omega) Aq cq (t : Nat) g9) ?_)
     rintro e z9 ⟨rfl, g⟩
     have S : Sat w z9 [rest w (· < w.heap.size), rUl (some ⟨b1, 0, none⟩) XX.length XX, idA bx (⟨H, chainE (1 + kq), paidK Lq (1 + kq) (1 + kq) false, [⟨5, if false = true then 1 else 2, legsK Lq (1 + kq)⟩]⟩ : Idl), box b4 24 [.pointer (some ⟨bx, 0, none⟩)], box b5 28 [.slice Aq ((edgesK (1 + kq)).length) cq], rIl Aq cq (edgesK (1 + kq)), rUl Al cl Lq, rUl Aw cw (wasL H (1 + kq) (1 + kq + 1))] := k9 z9 [box b4 24 [.pointer (some ⟨bx, 0, none⟩)], box b5 28 [.slice Aq ((edgesK (1 + kq)).length) cq], rIl Aq cq (edgesK (1 + kq)), idA bx (⟨H, chainE (1 + kq), paidK Lq (1 + kq) (1 + kq) false, [⟨5, if false = true then 1 else 2, legsK Lq (1 + kq)⟩]⟩ : Idl)] rfl g
     clear g g9 k9 hin9 hlt9
     refine ⟨_, rfl, ?_⟩
     intro a F
     refine l_pure 1 (fun L => (152, .int .u64 (worthTo (chI H (1 + kq)) (t : Nat) (1 + kq))) :: L) F (by kernel_rfl) fun a F => ?_
     refine l_do F rfl rfl (op_pure F (v0 := .bool ((worthTo (⟨H, chainE (1 + kq), paidK Lq (1 + kq) (1 + kq) false, [⟨5, if false = true then 1 else 2, legsK Lq (1 + kq)⟩]⟩ : Idl) (t : Nat) (1 + kq) : Int) != ((worthTo (chI H (1 + kq)) (t : Nat) (1 + kq)) : Int))) (v := .bool false) (by kernel_rfl) (neqF (by rw [hwp]; try omega)) fun a F => ?_)
     refine l_then ?_
     refine c_f F rfl ?_
     refine wp_skip ?_
     refine inb_n ?_
     refine then_n ?_
     refine wp_region_list ?_
     refine l_do F rfl rfl (op_pure F (v0 := .int .i64 (IntKind.wrap .i64 ((t : Nat) + 1))) (v := .int .i64 (t + 1 : Nat)) (by kernel_rfl) (wrn_i64 (by omega) (by omega) (by omega)) fun a F => ?_)
     refine l_pure 1 (fun L => (118, .int .i64 (t + 1 : Nat)) :: L) F (by kernel_rfl) fun a F => ?_
     refine l_then ?_
     exact ⟨_, (by omega), t + 1, rfl, (by omega), F.sub ⟨by kernel_rfl, by kernel_rfl, by kernel_rfl, by kernel_rfl, by kernel_rfl, by kernel_rfl, by kernel_rfl, trivial⟩, S⟩
    ·
     skip
     refine l_do F rfl rfl (op_pure F (v0 := .bool (decide (((t : Nat) : Int) < ((XX.length : Nat) : Int)))) (v := .bool false) (by kernel_rfl) (lssF ht28) fun a F => ?_)
     refine l_then ?_
     refine wp_seq ?_
     refine c_f F rfl ?_
     refine wp_exit ?_
     refine then_x ?_
     refine then_x ?_
     refine inb_x ?_
     refine then_n ?_
     refine s_reg ?_
     refine l_do F rfl rfl (op_fn F (by kernel_rfl) (awake24_any _) ?_)
     rintro e z ⟨rfl, hb⟩
     have S := S.grow hb
     refine ⟨_, rfl, ?_⟩
     intro a F
     refine l_pure 1 (fun L => (6, .bool true) :: L) F (by kernel_rfl) fun a F => ?_
     refine l_then ?_
     refine wp_ret ?_
     exact fin F [.tmp 6] [.bool true] rfl ⟨by kernel_rfl, trivial⟩ (.bool true) rfl ⟨rfl, S.below (i := 0) rfl⟩
set_option maxRecDepth 100000 in
set_option maxHeartbeats 4000000 in
theorem pays24_true (w : World) (Ax : Option Addr) (cx : Nat) (X : List Int) (hX : Recs 1 iC_u64 w Ax cx X) (hXu : ∀ a ∈ X, U64 a) (nv : Int) (hn0 : 0 ≤ nv) (hn1 : nv ≤ 255) : Calls Try.prog 3 #[.int .u8 nv, .slice Ax X.length cx, .bool true] w fun e w' => e = .returned (.bool true) ∧ Below w.heap.size w w' := by
 refine enter 156 Try.func3 rfl rfl rfl fun a F => ?_
 obtain ⟨kq, hkq⟩ : ∃ q : Nat, nv % 6 = (q : Int) := ⟨(nv % 6).toNat, by omega⟩
 have hxl := hX.len
 have S := Sat.pushRest w
 refine s_reg ?_
 refine l_pure 1 (fun L => (6, .bool false) :: L) F (by kernel_rfl) fun a F => ?_
 refine l_then ?_
 refine s_reg ?_
 refine l_pure 1 (fun L => (23, .int .u8 nv) :: L) F (by kernel_rfl) fun a F => ?_
 refine l_do F rfl rfl (op_rem _ _ _ _ .u8 nv 6 F rfl (by kernel_rfl) (by kernel_rfl) (by omega) ((Int.tmod_eq_emod_of_nonneg (by omega)).trans hkq) (fun a F => ?_))
 refine l_do F rfl rfl (op_pure F (v0 := .int .i64 (IntKind.wrap .i64 (kq : Nat))) (v := .int .i64 (kq : Nat)) (by kernel_rfl) (wr_i64 (by omega) (by omega)) fun a F => ?_)
 refine l_do F rfl rfl (op_pure F (v0 := .int .i64 (IntKind.wrap .i64 (1 + (kq : Nat)))) (v := .int .i64 (1 + kq : Nat)) (by kernel_rfl) (wrn_i64 (by omega) (by omega) (by omega)) fun a F => ?_)
 refine l_pure 1 (fun L => (7, .int .i64 (1 + kq : Nat)) :: L) F (by kernel_rfl) fun a F => ?_
 refine l_then ?_
 refine s_reg ?_
 refine l_pure 1 (fun L => (27, .int .i64 (1 + kq : Nat)) :: L) F (by kernel_rfl) fun a F => ?_
 refine l_do F rfl rfl (op_pure F (v0 := .int .i64 (IntKind.wrap .i64 ((1 + kq : Nat) + 1))) (v := .int .i64 (1 + kq + 1 : Nat)) (by kernel_rfl) (wrn_i64 (by omega) (by omega) (by omega)) fun a F => ?_)
 refine l_do F rfl rfl (op_make S _ 23 _ _ .i64 .i64 (.int .u64 0) 1 8 (1 + kq + 1) 0 iC_u64 F iC_len_u64 rfl (by kernel_rfl) (by kernel_rfl) rfl (by kernel_rfl) (by kernel_rfl) (by kernel_rfl) (by omega) (by omega) fun b1 z S a F => ?_)
 refine l_pure 1 (fun L => (8, .slice (some ⟨b1, 0, none⟩) (1 + kq + 1) (1 + kq + 1)) :: L) F (by kernel_rfl) fun a F => ?_
 refine l_then ?_
 refine wp_seq ?_
 refine s_reg ?_
 refine l_pure 3 (fun L => (32, .int .i64 0) :: (31, .int .i64 (1 + kq + 1 : Nat)) :: (30, .slice (some ⟨b1, 0, none⟩) (1 + kq + 1) (1 + kq + 1)) :: L) F (by kernel_rfl) fun a F => ?_
 refine l_then ?_
 refine wp_block ?_
 have S : Sat w z [rest w (· < w.heap.size), rU (some ⟨b1, 0, none⟩) (1 + kq + 1) (1 + kq + 1) (fill24 (1 + kq + 1) 0)] := by rw [fill24_zero]; exact S
 refine wp_loop_m (fun m a z => ∃ (i : Nat), m = 1 + kq + 1 - i ∧ (i ≤ 1 + kq + 1) ∧ Fr a 156 [(1, .slice Ax X.length cx), (2, .bool true), (7, .int .i64 (1 + kq : Nat)), (8, .slice (some ⟨b1, 0, none⟩) (1 + kq + 1) (1 + kq + 1)), (31, .int .i64 (1 + kq + 1 : Nat)), (32, .int .i64 (i : Nat))] ∧ Sat w z [rest w (· < w.heap.size), rU (some ⟨b1, 0, none⟩) (1 + kq + 1) (1 + kq + 1) (fill24 (1 + kq + 1) i)]) _ ⟨0, rfl, Nat.zero_le _, F.sub ⟨by kernel_rfl, by kernel_rfl, by kernel_rfl, by kernel_rfl, by kernel_rfl, by kernel_rfl, trivial⟩, S⟩ ?_
 rintro m a z ⟨i, hm, hf2, F, S⟩
 refine s_reg ?_
 by_cases ht3 : ((i : Nat) : Int) < ((1 + kq + 1 : Nat) : Int)
 ·
  skip
  refine l_do F rfl rfl (op_pure F (v0 := .bool (decide (((i : Nat) : Int) < ((1 + kq + 1 : Nat) : Int)))) (v := .bool true) (by kernel_rfl) (lssT ht3) fun a F => ?_)
  refine l_then ?_
  refine wp_seq ?_
  refine c_t F rfl ?_
  refine wp_skip ?_
  refine then_n ?_
  refine wp_seq ?_
  refine wp_block ?_
  refine s_reg ?_
  refine l_pure 2 (fun L => (9, .int .i64 (i : Nat)) :: (34, .int .i64 (i : Nat)) :: L) F (by kernel_rfl) fun a F => ?_
  refine l_then ?_
  refine wp_region_list ?_
  refine l_pure 2 (fun L => (36, .int .i64 (i : Nat)) :: (35, .slice (some ⟨b1, 0, none⟩) (1 + kq + 1) (1 + kq + 1)) :: L) F (by kernel_rfl) fun a F => ?_
  refine l_do F rfl rfl (op_index _ 23 _ _ (some ⟨b1, 0, none⟩) (1 + kq + 1) (1 + kq + 1) i 1 .i64 F rfl (by kernel_rfl) (by kernel_rfl) (by kernel_rfl) (by kernel_rfl) (by omega) rfl (fun a F => ?_))
  refine l_do F rfl rfl (op_storeRec S 1 _ _ _ (some ⟨b1, 0, none⟩) i 1 0 (.int .u64 1000) 1000 F iC_len_u64 (fill24_get (by omega)) rfl rfl (by kernel_rfl) (by kernel_rfl) (by kernel_rfl) (by kernel_rfl) (by kernel_rfl) (by kernel_rfl) (by kernel_rfl) fun z S a F => ?_)
  refine l_nil (inb_n ?_)
  refine then_n ?_
  refine wp_region_list ?_
  refine l_do F rfl rfl (op_pure F (v0 := .int .i64 (IntKind.wrap .i64 ((i : Nat) + 1))) (v := .int .i64 (i + 1 : Nat)) (by kernel_rfl) (wrn_i64 (by omega) (by omega) (by omega)) fun a F => ?_)
  refine l_pure 1 (fun L => (32, .int .i64 (i + 1 : Nat)) :: L) F (by kernel_rfl) fun a F => ?_
  refine l_then ?_
  rw [fill24_set (by omega)] at S
  exact ⟨_, (by omega), i + 1, rfl, (by omega), F.sub ⟨by kernel_rfl, by kernel_rfl, by kernel_rfl, by kernel_rfl, by kernel_rfl, by kernel_rfl, trivial⟩, S⟩
 ·
  skip
  have hi : i = 1 + kq + 1 := by omega
  rw [hi, fill24_all] at S
  obtain ⟨XX, hXX⟩ : ∃ XX, XX = List.replicate (1 + kq + 1) (1000 : Int) := ⟨_, rfl⟩
  rw [← hXX] at S
  have hXl : XX.length = 1 + kq + 1 := by rw [hXX]; simp
  rw [← hXl] at F S
  refine l_do F rfl rfl (op_pure F (v0 := .bool (decide (((i : Nat) : Int) < ((XX.length : Nat) : Int)))) (v := .bool false) (by kernel_rfl) (lssF (by omega)) fun a F => ?_)
  refine l_then ?_
  refine wp_seq ?_
  refine c_f F rfl ?_
  refine wp_exit ?_
  refine then_x ?_
  refine then_x ?_
  refine inb_x ?_
  refine then_n ?_
  refine s_reg ?_
  refine l_pure 1 (fun L => (40, .slice (some ⟨b1, 0, none⟩) XX.length XX.length) :: L) F (by kernel_rfl) fun a F => ?_
  refine l_do F rfl rfl (op_fn F (by kernel_rfl) (new24_ok _ (some ⟨b1, 0, none⟩) XX.length XX (Recs.ofRow (S.rowOf (i := 1) rfl) (by omega)) (fun a9 ha9 => by rw [hXX, List.mem_replicate] at ha9; rw [ha9.2]; exact ⟨by decide, by decide⟩) (by rw [hXX]; exact ch_new (by omega) (by omega))) ?_)
  rintro e z ⟨bx, rfl, g⟩
  have S := S.pushThings g
  have hok0 : IOk (chI XX 0) := new_ok (fun a9 ha9 => by rw [hXX, List.mem_replicate] at ha9; rw [ha9.2]; exact ⟨by decide, by decide⟩) (by rw [hXX]; exact ch_new (by omega) (by omega))
  refine ⟨_, rfl, ?_⟩
  intro a F
  refine l_pure 3 (fun L => (43, .int .i64 0) :: (42, .pointer (some ⟨bx, 0, none⟩)) :: (39, .tuple #[.pointer (some ⟨bx, 0, none⟩), .int .i64 0]) :: L) F (by kernel_rfl) fun a F => ?_
  refine l_do F rfl rfl (op_alloc S _ (.pointer none) rfl (by kernel_rfl) fun b4 z S a F => ?_)
  refine l_do F rfl rfl (op_storeB S 3 _ _ _ b4 0 (.pointer (some ⟨bx, 0, none⟩)) F rfl rfl (by kernel_rfl) (by kernel_rfl) (by kernel_rfl) (by kernel_rfl) (by kernel_rfl) fun z S a F => ?_)
  refine l_pure 1 (fun L => (11, .int .i64 0) :: L) F (by kernel_rfl) fun a F => ?_
  refine l_then ?_
  refine wp_seq ?_
  refine s_reg ?_
  refine l_do F rfl rfl (op_load _ _ (some ⟨b4, 0, none⟩) 0 (.pointer (some ⟨bx, 0, none⟩)) F rfl (by kernel_rfl) (by kernel_rfl) (cBox S 3 rfl (j := 0) rfl) (fun a F => ?_))
  refine l_pure 5 (fun L => (49, .bool false) :: (48, .bool false) :: (47, .int .i64 0) :: (46, .bool false) :: (45, .bool false) :: L) F (by kernel_rfl) fun a F => ?_
  refine l_then ?_
  refine c_f F rfl ?_
  refine wp_skip ?_
  refine then_n ?_
  refine s_reg ?_
  refine l_do F rfl rfl (op_alloc S _ (.slice none 0 0) rfl (by kernel_rfl) fun b5 z S a F => ?_)
  refine l_then ?_
  refine s_reg ?_
  refine l_pure 1 (fun L => (13, .slice none 0 0) :: L) F (by kernel_rfl) fun a F => ?_
  refine l_then ?_
  refine s_reg ?_
  refine l_pure 1 (fun L => (14, .int .u64 100) :: L) F (by kernel_rfl) fun a F => ?_
  refine l_then ?_
  refine wp_seq ?_
  refine s_reg ?_
  refine l_pure 2 (fun L => (51, .int .i64 0) :: (50, .int .i64 (1 + kq : Nat)) :: L) F (by kernel_rfl) fun a F => ?_
  refine l_then ?_
  refine wp_block ?_
  refine wp_loop_m (fun m a z => ∃ (i : Nat) (H : List Int) (Lq : List Int) (lv : Int) (Aq : Option Addr) (cq : Nat) (Al : Option Addr) (cl : Nat), m = 1 + kq - i ∧ (i ≤ 1 + kq) ∧ (ChOk H (1 + kq) i) ∧ (AmOk Lq lv) ∧ (Lq.length = i) ∧ (IOk (chI H i)) ∧ Fr a 156 [(1, .slice Ax X.length cx), (2, .bool true), (7, .int .i64 (1 + kq : Nat)), (8, .slice (some ⟨b1, 0, none⟩) XX.length XX.length), (10, .pointer (some ⟨b4, 0, none⟩)), (12, .pointer (some ⟨b5, 0, none⟩)), (13, .slice Al Lq.length cl), (14, .int .u64 lv), (50, .int .i64 (1 + kq : Nat)), (51, .int .i64 (i : Nat))] ∧ Sat w z [rest w (· < w.heap.size), rUl (some ⟨b1, 0, none⟩) XX.length XX, idA bx (chI H i), box b4 24 [.pointer (some ⟨bx, 0, none⟩)], box b5 28 [.slice Aq ((edgesK i).length) cq], rIl Aq cq (edgesK i), rUl Al cl Lq]) _ ⟨0, XX, ([] : List Int), 100, none, 0, none, 0, rfl, Nat.zero_le _, (by rw [hXX]; exact ch_start _), am_start, rfl, hok0, F.sub ⟨by kernel_rfl, by kernel_rfl, by kernel_rfl, by kernel_rfl, by kernel_rfl, by kernel_rfl, by kernel_rfl, by kernel_rfl, by kernel_rfl, by kernel_rfl, trivial⟩, ((S.nilRow 3 1).nilRow 23 1)⟩ ?_
  rintro m a z ⟨i, H, Lq, lv, Aq, cq, Al, cl, hm, hf6, hf7, hf8, hf9, hf10, F, S⟩
  have hch := hf7
  have ham := hf8
  have hLl := hf9
  have hoki := hf10
  have hlvlo := ham.lo
  have hlvhi := ham.hi
  have hkl := edgesK_len i
  refine s_reg ?_
  by_cases ht11 : ((i : Nat) : Int) < ((1 + kq : Nat) : Int)
  ·
   skip
   refine l_do F rfl rfl (op_pure F (v0 := .bool (decide (((i : Nat) : Int) < ((1 + kq : Nat) : Int)))) (v := .bool true) (by kernel_rfl) (lssT ht11) fun a F => ?_)
   refine l_then ?_
   refine wp_seq ?_
   refine c_t F rfl ?_
   refine wp_skip ?_
   refine then_n ?_
   refine wp_seq ?_
   refine wp_block ?_
   refine s_reg ?_
   refine l_pure 2 (fun L => (15, .int .i64 (i : Nat)) :: (53, .int .i64 (i : Nat)) :: L) F (by kernel_rfl) fun a F => ?_
   refine l_then ?_
   refine s_reg ?_
   refine l_do F rfl rfl (op_load _ _ (some ⟨b4, 0, none⟩) 0 (.pointer (some ⟨bx, 0, none⟩)) F rfl (by kernel_rfl) (by kernel_rfl) (cBox S 3 rfl (j := 0) rfl) (fun a F => ?_))
   refine l_pure 2 (fun L => (57, .int .i64 (i : Nat)) :: (56, .int .i64 (i : Nat)) :: L) F (by kernel_rfl) fun a F => ?_
   refine l_do F rfl rfl (op_pure F (v0 := .int .i64 (IntKind.wrap .i64 ((i : Nat) + 1))) (v := .int .i64 (i + 1 : Nat)) (by kernel_rfl) (wrn_i64 (by omega) (by omega) (by omega)) fun a F => ?_)
   refine l_pure 1 (fun L => (59, .agg #[.int .u64 200, .int .u64 100]) :: L) F (by kernel_rfl) fun a F => ?_
   obtain ⟨H2, hop, hch2⟩ := ch_open hch (by omega) (by omega)
   obtain ⟨G9, g9, hin9, hlt9, k9⟩ := S.frameB [2] (by decide) rfl
   refine l_do F rfl rfl (op_fn F (by kernel_rfl) (open24_at hop _ G9 bx hoki g9 ⟨by decide, by decide⟩ ⟨by decide, by decide⟩) ?_)
   rintro e z9 ⟨rfl, g⟩
   have S : Sat w z9 [rest w (· < w.heap.size), rUl (some ⟨b1, 0, none⟩) XX.length XX, idA bx (chI H2 (i + 1)), box b4 24 [.pointer (some ⟨bx, 0, none⟩)], box b5 28 [.slice Aq ((edgesK i).length) cq], rIl Aq cq (edgesK i), rUl Al cl Lq] := k9 z9 [idA bx (chI H2 (i + 1))] rfl g
   clear g g9 k9 hin9 hlt9
   have hok2 := (open_keeps hoki (a := (i : Nat)) (b := ((i + 1 : Nat) : Int)) (p := 200) (q := 100) (by decide) (by decide)).1
   rw [hop] at hok2
   refine ⟨_, rfl, ?_⟩
   intro a F
   refine l_pure 5 (fun L => (17, .int .i64 0) :: (16, .int .i64 (i : Nat)) :: (62, .int .i64 0) :: (61, .int .i64 (i : Nat)) :: (54, .tuple #[.int .i64 (i : Nat), .int .i64 0]) :: L) F (by kernel_rfl) fun a F => ?_
   refine l_then ?_
   refine wp_seq ?_
   refine s_reg ?_
   refine l_pure 2 (fun L => (64, .bool false) :: (63, .int .i64 0) :: L) F (by kernel_rfl) fun a F => ?_
   refine l_then ?_
   refine c_f F rfl ?_
   refine wp_skip ?_
   refine then_n ?_
   refine s_reg ?_
   refine l_do F rfl rfl (op_load _ _ (some ⟨b5, 0, none⟩) 0 (.slice Aq ((edgesK i).length) cq) F rfl (by kernel_rfl) (by kernel_rfl) (cBox S 4 rfl (j := 0) rfl) (fun a F => ?_))
   refine l_pure 1 (fun L => (66, .int .i64 (i : Nat)) :: L) F (by kernel_rfl) fun a F => ?_
   refine l_do F rfl rfl (op_buildSlice S _ 1 _ 3 1 iC_i64 ([(i : Nat)] : List Int) F rfl (by kernel_rfl) (by kernel_rfl) (by kernel_rfl) (by unfold maxLen; omega) fun b12 z S a F => ?_)
   refine l_do F rfl rfl (op_append S 5 _ _ _ 3 (.int .i64 0) 1 8 (edgesK i) ([(i : Nat)] : List Int) iC_i64 (some ⟨b12, 0, none⟩) 1 F iC_len_i64 (fun _ => rfl) rfl rfl (by kernel_rfl) (by kernel_rfl) rfl rfl rfl (by kernel_rfl) (by kernel_rfl) (row_none (S.rowOf (i := 7) rfl)) (src_row (S.rowOf (i := 7) rfl)) (by first | omega | (simp <;> omega)) fun A13 c14 z S a F => ?_)
   refine l_do F rfl rfl (op_storeB S 4 _ _ _ b5 0 (.slice A13 (((edgesK i) ++ ([(i : Nat)] : List Int)).length) c14) F rfl rfl (by kernel_rfl) (by kernel_rfl) (by kernel_rfl) (by kernel_rfl) (by kernel_rfl) fun z S a F => ?_)
   refine l_then ?_
   refine wp_seq ?_
   refine s_reg ?_
   refine l_pure 3 (fun L => (71, .int .i64 (X.length : Nat)) :: (70, .slice Ax X.length cx) :: (69, .int .i64 (i : Nat)) :: L) F (by kernel_rfl) fun a F => ?_
   by_cases ht15 : ((i : Nat) : Int) < ((X.length : Nat) : Int)
   ·
    skip
    obtain ⟨xi, hxi⟩ : ∃ xi, X[i]? = some xi := ⟨_, List.getElem?_eq_getElem (by omega)⟩
    have hxu := hXu xi (List.mem_of_getElem? hxi)
    unfold U64 at hxu
    refine l_do F rfl rfl (op_pure F (v0 := .bool (decide (((i : Nat) : Int) < ((X.length : Nat) : Int)))) (v := .bool true) (by kernel_rfl) (lssT ht15) fun a F => ?_)
    refine l_then ?_
    refine c_t F rfl ?_
    refine wp_region_list ?_
    refine l_pure 2 (fun L => (74, .int .i64 (i : Nat)) :: (73, .slice Ax X.length cx) :: L) F (by kernel_rfl) fun a F => ?_
    refine l_do F rfl rfl (op_index _ 23 _ _ Ax X.length cx i 1 .i64 F rfl (by kernel_rfl) (by kernel_rfl) (by kernel_rfl) (by kernel_rfl) (get_lt hxi) (recs_some hX (m := i) (get_lt hxi)) (fun a F => ?_))
    refine l_do F rfl rfl (op_load _ _ Ax (i * 1) (.int .u64 xi) F rfl (by kernel_rfl) (by kernel_rfl) (cOld S 0 iC_len_u64 hX rfl 0 hxi rfl) (fun a F => ?_))
    refine l_pure 1 (fun L => (77, .int .u64 lv) :: L) F (by kernel_rfl) fun a F => ?_
    have hm1 := Int.emod_nonneg xi (show lv ≠ 0 from by omega)
    have hm2 := Int.emod_lt_of_pos xi (show 0 < lv from by omega)
    refine l_do F rfl rfl (op_rem _ _ _ _ .u64 xi lv F rfl (by kernel_rfl) (by kernel_rfl) (by omega) (Int.tmod_eq_emod_of_nonneg (by omega)) (fun a F => ?_))
    refine l_do F rfl rfl (op_pure F (v0 := .int .u64 (IntKind.wrap .u64 (1 + (xi % lv)))) (v := .int .u64 (1 + (xi % lv))) (by kernel_rfl) (wr_u64 (by omega) (by omega)) fun a F => ?_)
    refine l_pure 1 (fun L => (14, .int .u64 (1 + (xi % lv))) :: L) F (by kernel_rfl) fun a F => ?_
    refine l_then ?_
    refine wp_region_list ?_
    refine l_pure 2 (fun L => (81, .int .u64 (1 + (xi % lv))) :: (80, .slice Al Lq.length cl) :: L) F (by kernel_rfl) fun a F => ?_
    refine l_do F rfl rfl (op_buildSlice S _ 1 _ 23 1 iC_u64 ([1 + (xi % lv)] : List Int) F rfl (by kernel_rfl) (by kernel_rfl) (by kernel_rfl) (by unfold maxLen; omega) fun b16 z S a F => ?_)
    refine l_do F rfl rfl (op_append S 6 _ _ _ 23 (.int .u64 0) 1 8 Lq ([1 + (xi % lv)] : List Int) iC_u64 (some ⟨b16, 0, none⟩) 1 F iC_len_u64 (fun _ => rfl) rfl rfl (by kernel_rfl) (by kernel_rfl) rfl rfl rfl (by kernel_rfl) (by kernel_rfl) (row_none (S.rowOf (i := 8) rfl)) (src_row (S.rowOf (i := 8) rfl)) (by first | omega | (simp <;> omega)) fun A17 c18 z S a F => ?_)
    refine l_pure 1 (fun L => (13, .slice A17 ((Lq ++ ([1 + (xi % lv)] : List Int)).length) c18) :: L) F (by kernel_rfl) fun a F => ?_
    refine l_nil (inb_n ?_)
    refine then_n ?_
    refine wp_region_list ?_
    refine l_do F rfl rfl (op_pure F (v0 := .int .i64 (IntKind.wrap .i64 ((i : Nat) + 1))) (v := .int .i64 (i + 1 : Nat)) (by kernel_rfl) (wrn_i64 (by omega) (by omega) (by omega)) fun a F => ?_)
    refine l_pure 1 (fun L => (51, .int .i64 (i + 1 : Nat)) :: L) F (by kernel_rfl) fun a F => ?_
    refine l_then ?_
    have hsn : ((edgesK i) ++ ([(i : Nat)] : List Int)) = edgesK (i + 1) := (edgesK_snoc i).symm
    rw [hsn] at F S
    exact ⟨_, (by omega), i + 1, H2, (Lq ++ ([1 + (xi % lv)] : List Int)), 1 + (xi % lv), A13, c14, A17, c18, rfl, (by omega), hch2, (am_snoc ham (by omega) (by omega)), (by simp; omega), hok2, F.sub ⟨by kernel_rfl, by kernel_rfl, by kernel_rfl, by kernel_rfl, by kernel_rfl, by kernel_rfl, by kernel_rfl, by kernel_rfl, by kernel_rfl, by kernel_rfl, trivial⟩, (S.pick [0, 1, 2, 3, 4, 5, 6] (by decide))⟩
   ·
    skip
    refine l_do F rfl rfl (op_pure F (v0 := .bool (decide (((i : Nat) : Int) < ((X.length : Nat) : Int)))) (v := .bool false) (by kernel_rfl) (lssF ht15) fun a F => ?_)
    refine l_then ?_
    refine c_f F rfl ?_
    refine wp_skip ?_
    refine then_n ?_
    refine wp_region_list ?_
    refine l_pure 2 (fun L => (81, .int .u64 lv) :: (80, .slice Al Lq.length cl) :: L) F (by kernel_rfl) fun a F => ?_
    refine l_do F rfl rfl (op_buildSlice S _ 1 _ 23 1 iC_u64 ([lv] : List Int) F rfl (by kernel_rfl) (by kernel_rfl) (by kernel_rfl) (by unfold maxLen; omega) fun b19 z S a F => ?_)
    refine l_do F rfl rfl (op_append S 6 _ _ _ 23 (.int .u64 0) 1 8 Lq ([lv] : List Int) iC_u64 (some ⟨b19, 0, none⟩) 1 F iC_len_u64 (fun _ => rfl) rfl rfl (by kernel_rfl) (by kernel_rfl) rfl rfl rfl (by kernel_rfl) (by kernel_rfl) (row_none (S.rowOf (i := 8) rfl)) (src_row (S.rowOf (i := 8) rfl)) (by first | omega | (simp <;> omega)) fun A20 c21 z S a F => ?_)
    refine l_pure 1 (fun L => (13, .slice A20 ((Lq ++ ([lv] : List Int)).length) c21) :: L) F (by kernel_rfl) fun a F => ?_
    refine l_nil (inb_n ?_)
    refine then_n ?_
    refine wp_region_list ?_
    refine l_do F rfl rfl (op_pure F (v0 := .int .i64 (IntKind.wrap .i64 ((i : Nat) + 1))) (v := .int .i64 (i + 1 : Nat)) (by kernel_rfl) (wrn_i64 (by omega) (by omega) (by omega)) fun a F => ?_)
    refine l_pure 1 (fun L => (51, .int .i64 (i + 1 : Nat)) :: L) F (by kernel_rfl) fun a F => ?_
    refine l_then ?_
    have hsn : ((edgesK i) ++ ([(i : Nat)] : List Int)) = edgesK (i + 1) := (edgesK_snoc i).symm
    rw [hsn] at F S
    exact ⟨_, (by omega), i + 1, H2, (Lq ++ ([lv] : List Int)), lv, A13, c14, A20, c21, rfl, (by omega), hch2, (am_snoc ham (by omega) (by omega)), (by simp; omega), hok2, F.sub ⟨by kernel_rfl, by kernel_rfl, by kernel_rfl, by kernel_rfl, by kernel_rfl, by kernel_rfl, by kernel_rfl, by kernel_rfl, by kernel_rfl, by kernel_rfl, trivial⟩, (S.pick [0, 1, 2, 3, 4, 5, 6] (by decide))⟩
  ·
   skip
   have hi : i = 1 + kq := by omega
   subst hi
   have hokK := hoki
   have hkl := edgesK_len (1 + kq)
   refine l_do F rfl rfl (op_pure F (v0 := .bool (decide ((((1 + kq) : Nat) : Int) < ((1 + kq : Nat) : Int)))) (v := .bool false) (by kernel_rfl) (lssF ht11) fun a F => ?_)
   refine l_then ?_
   refine wp_seq ?_
   refine c_f F rfl ?_
   refine wp_exit ?_
   refine then_x ?_
   refine then_x ?_
   refine inb_x ?_
   refine then_n ?_
   refine s_reg ?_
   refine l_pure 2 (fun L => (18, .func (.func 9) #[] #[.pointer (some ⟨b4, 0, none⟩), .pointer (some ⟨b5, 0, none⟩)]) :: (85, .func (.func 9) #[] #[.pointer (some ⟨b4, 0, none⟩), .pointer (some ⟨b5, 0, none⟩)]) :: L) F (by kernel_rfl) fun a F => ?_
   refine l_then ?_
   refine s_reg ?_
   refine l_pure 1 (fun L => (19, .slice none 0 0) :: L) F (by kernel_rfl) fun a F => ?_
   refine l_then ?_
   refine wp_seq ?_
   refine s_reg ?_
   refine l_pure 3 (fun L => (88, .int .i64 0) :: (87, .int .i64 (XX.length : Nat)) :: (86, .slice (some ⟨b1, 0, none⟩) XX.length XX.length) :: L) F (by kernel_rfl) fun a F => ?_
   refine l_then ?_
   refine wp_block ?_
   refine wp_loop_m (fun m a z => ∃ (j : Nat) (Aw : Option Addr) (cw : Nat), m = XX.length - j ∧ (j ≤ XX.length) ∧ Fr a 156 [(2, .bool true), (7, .int .i64 (1 + kq : Nat)), (8, .slice (some ⟨b1, 0, none⟩) XX.length XX.length), (10, .pointer (some ⟨b4, 0, none⟩)), (12, .pointer (some ⟨b5, 0, none⟩)), (13, .slice Al Lq.length cl), (18, .func (.func 9) #[] #[.pointer (some ⟨b4, 0, none⟩), .pointer (some ⟨b5, 0, none⟩)]), (19, .slice Aw ((wasL H (1 + kq) j).length) cw), (87, .int .i64 (XX.length : Nat)), (88, .int .i64 (j : Nat))] ∧ Sat w z [rest w (· < w.heap.size), rUl (some ⟨b1, 0, none⟩) XX.length XX, idA bx (chI H (1 + kq)), box b4 24 [.pointer (some ⟨bx, 0, none⟩)], box b5 28 [.slice Aq ((edgesK (1 + kq)).length) cq], rIl Aq cq (edgesK (1 + kq)), rUl Al cl Lq, rUl Aw cw (wasL H (1 + kq) j)]) _ ⟨0, none, 0, rfl, Nat.zero_le _, F.sub ⟨by kernel_rfl, by kernel_rfl, by kernel_rfl, by kernel_rfl, by kernel_rfl, by kernel_rfl, by kernel_rfl, by kernel_rfl, by kernel_rfl, by kernel_rfl, trivial⟩, (S.nilRow 23 1)⟩ ?_
   rintro m a z ⟨j, Aw, cw, hm, hf22, F, S⟩
   have hwl := wasL_len H (1 + kq) j
   refine s_reg ?_
   by_cases ht23 : ((j : Nat) : Int) < ((XX.length : Nat) : Int)
   ·
    skip
    have hwf := worth_fit hokK (j : Nat) (1 + kq) (by show (1 + kq) ≤ (chainE (1 + kq)).length; rw [chainE_len]; omega)
    refine l_do F rfl rfl (op_pure F (v0 := .bool (decide (((j : Nat) : Int) < ((XX.length : Nat) : Int)))) (v := .bool true) (by kernel_rfl) (lssT ht23) fun a F => ?_)
    refine l_then ?_
    refine wp_seq ?_
    refine c_t F rfl ?_
    refine wp_skip ?_
    refine then_n ?_
    refine wp_seq ?_
    refine wp_block ?_
    refine s_reg ?_
    refine l_pure 2 (fun L => (20, .int .i64 (j : Nat)) :: (90, .int .i64 (j : Nat)) :: L) F (by kernel_rfl) fun a F => ?_
    refine l_then ?_
    refine wp_region_list ?_
    refine l_pure 3 (fun L => (93, .int .i64 (j : Nat)) :: (92, .func (.func 9) #[] #[.pointer (some ⟨b4, 0, none⟩), .pointer (some ⟨b5, 0, none⟩)]) :: (91, .slice Aw ((wasL H (1 + kq) j).length) cw) :: L) F (by kernel_rfl) fun a F => ?_
    obtain ⟨G9, g9, hin9, hlt9, k9⟩ := S.frameB [3, 4, 5, 2] (by decide) rfl
    refine l_do F rfl rfl (op_fn F (by kernel_rfl) (worth24_any _ G9 b4 b5 bx (chI H (1 + kq)) hokK (1 + kq) (by first | (show (1 + kq) ≤ (chainE (1 + kq)).length; rw [chainE_len]; omega) | omega) (by omega) Aq cq (j : Nat) g9) ?_)
    rintro e z9 ⟨rfl, g⟩
    have S : Sat w z9 [rest w (· < w.heap.size), rUl (some ⟨b1, 0, none⟩) XX.length XX, idA bx (chI H (1 + kq)), box b4 24 [.pointer (some ⟨bx, 0, none⟩)], box b5 28 [.slice Aq ((edgesK (1 + kq)).length) cq], rIl Aq cq (edgesK (1 + kq)), rUl Al cl Lq, rUl Aw cw (wasL H (1 + kq) j)] := k9 z9 [box b4 24 [.pointer (some ⟨bx, 0, none⟩)], box b5 28 [.slice Aq ((edgesK (1 + kq)).length) cq], rIl Aq cq (edgesK (1 + kq)), idA bx (chI H (1 + kq))] rfl g
    clear g g9 k9 hin9 hlt9
    refine ⟨_, rfl, ?_⟩
    intro a F
    refine l_do F rfl rfl (op_buildSlice S _ 1 _ 23 1 iC_u64 ([worthTo (chI H (1 + kq)) (j : Nat) (1 + kq)] : List Int) F rfl (by kernel_rfl) (by kernel_rfl) (by kernel_rfl) (by unfold maxLen; omega) fun b24 z S a F => ?_)
    refine l_do F rfl rfl (op_append S 7 _ _ _ 23 (.int .u64 0) 1 8 (wasL H (1 + kq) j) ([worthTo (chI H (1 + kq)) (j : Nat) (1 + kq)] : List Int) iC_u64 (some ⟨b24, 0, none⟩) 1 F iC_len_u64 (fun _ => rfl) rfl rfl (by kernel_rfl) (by kernel_rfl) rfl rfl rfl (by kernel_rfl) (by kernel_rfl) (row_none (S.rowOf (i := 8) rfl)) (src_row (S.rowOf (i := 8) rfl)) (by first | omega | (simp <;> omega)) fun A25 c26 z S a F => ?_)
    refine l_pure 1 (fun L => (19, .slice A25 (((wasL H (1 + kq) j) ++ ([worthTo (chI H (1 + kq)) (j : Nat) (1 + kq)] : List Int)).length) c26) :: L) F (by kernel_rfl) fun a F => ?_
    refine l_nil (inb_n ?_)
    refine then_n ?_
    refine wp_region_list ?_
    refine l_do F rfl rfl (op_pure F (v0 := .int .i64 (IntKind.wrap .i64 ((j : Nat) + 1))) (v := .int .i64 (j + 1 : Nat)) (by kernel_rfl) (wrn_i64 (by omega) (by omega) (by omega)) fun a F => ?_)
    refine l_pure 1 (fun L => (88, .int .i64 (j + 1 : Nat)) :: L) F (by kernel_rfl) fun a F => ?_
    refine l_then ?_
    have hsn : ((wasL H (1 + kq) j) ++ ([worthTo (chI H (1 + kq)) (j : Nat) (1 + kq)] : List Int)) = wasL H (1 + kq) (j + 1) := (wasL_snoc _ _ _).symm
    rw [hsn] at F S
    exact ⟨_, (by omega), j + 1, A25, c26, rfl, (by omega), F.sub ⟨by kernel_rfl, by kernel_rfl, by kernel_rfl, by kernel_rfl, by kernel_rfl, by kernel_rfl, by kernel_rfl, by kernel_rfl, by kernel_rfl, by kernel_rfl, trivial⟩, (S.pick [0, 1, 2, 3, 4, 5, 6, 7] (by decide))⟩
   ·
    skip
    have hj : j = 1 + kq + 1 := by omega
    subst hj
    refine l_do F rfl rfl (op_pure F (v0 := .bool (decide ((((1 + kq + 1) : Nat) : Int) < ((XX.length : Nat) : Int)))) (v := .bool false) (by kernel_rfl) (lssF (by omega)) fun a F => ?_)
    refine l_then ?_
    refine wp_seq ?_
    refine c_f F rfl ?_
    refine wp_exit ?_
    refine then_x ?_
    refine then_x ?_
    refine inb_x ?_
    refine then_n ?_
    refine wp_seq ?_
    refine s_reg ?_
    refine l_do F rfl rfl (op_load _ _ (some ⟨b4, 0, none⟩) 0 (.pointer (some ⟨bx, 0, none⟩)) F rfl (by kernel_rfl) (by kernel_rfl) (cBox S 3 rfl (j := 0) rfl) (fun a F => ?_))
    refine l_do F rfl rfl (op_load _ _ (some ⟨b5, 0, none⟩) 0 (.slice Aq ((edgesK (1 + kq)).length) cq) F rfl (by kernel_rfl) (by kernel_rfl) (cBox S 4 rfl (j := 0) rfl) (fun a F => ?_))
    refine l_pure 1 (fun L => (100, .slice Al Lq.length cl) :: L) F (by kernel_rfl) fun a F => ?_
    have hbg := ch_begin (H := H) (by omega) (by omega) hLl ham
    have hLu : ∀ a ∈ Lq, U64 a := fun a9 ha9 => by have h9 := ham.each a9 ha9; have h8 := ham.lo; exact ⟨by omega, by omega⟩
    obtain ⟨G9, g9, hin9, hlt9, k9⟩ := S.frameB [2] (by decide) rfl
    refine l_do F rfl rfl (op_fn F (by kernel_rfl) (begin24_at hbg _ G9 bx hokK g9 Aq cq (Recs.ofRow (S.rowOf (i := 5) rfl) (by omega)) (InG.row S hin9 5 (by decide) rfl) Al cl (Recs.ofRow (S.rowOf (i := 6) rfl) (by omega)) (InG.row S hin9 6 (by decide) rfl) hLu) ?_)
    rintro e z9 ⟨rfl, g⟩
    have S : Sat w z9 [rest w (· < w.heap.size), rUl (some ⟨b1, 0, none⟩) XX.length XX, idA bx (⟨H, chainE (1 + kq), freeK Lq (1 + kq) (1 + kq), [⟨5, 0, legsK Lq (1 + kq)⟩]⟩ : Idl), box b4 24 [.pointer (some ⟨bx, 0, none⟩)], box b5 28 [.slice Aq ((edgesK (1 + kq)).length) cq], rIl Aq cq (edgesK (1 + kq)), rUl Al cl Lq, rUl Aw cw (wasL H (1 + kq) (1 + kq + 1))] := k9 z9 [idA bx (⟨H, chainE (1 + kq), freeK Lq (1 + kq) (1 + kq), [⟨5, 0, legsK Lq (1 + kq)⟩]⟩ : Idl)] rfl g
    clear g g9 k9 hin9 hlt9
    have hok8 := (beg_keeps hokK (id := 5) (fr := 0) (E := edgesK (1 + kq)) (fun a9 ha9 => (hLu a9 ha9).1)).1
    rw [hbg] at hok8
    refine ⟨_, rfl, ?_⟩
    intro a F
    refine l_pure 2 (fun L => (103, .bool false) :: (102, .bool false) :: L) F (by kernel_rfl) fun a F => ?_
    refine l_do F rfl rfl (op_load _ _ (some ⟨b4, 0, none⟩) 0 (.pointer (some ⟨bx, 0, none⟩)) F rfl (by kernel_rfl) (by kernel_rfl) (cBox S 3 rfl (j := 0) rfl) (fun a F => ?_))
    refine l_pure 1 (fun L => (105, .bool true) :: L) F (by kernel_rfl) fun a F => ?_
    obtain ⟨G9, g9, hin9, hlt9, k9⟩ := S.frameB [2] (by decide) rfl
    refine l_do F rfl rfl (op_fn F (by kernel_rfl) (end24_at (ch_end true) _ G9 bx hok8 g9) ?_)
    rintro e z9 ⟨rfl, g⟩
    have S : Sat w z9 [rest w (· < w.heap.size), rUl (some ⟨b1, 0, none⟩) XX.length XX, idA bx (⟨H, chainE (1 + kq), paidK Lq (1 + kq) (1 + kq) true, [⟨5, if true = true then 1 else 2, legsK Lq (1 + kq)⟩]⟩ : Idl), box b4 24 [.pointer (some ⟨bx, 0, none⟩)], box b5 28 [.slice Aq ((edgesK (1 + kq)).length) cq], rIl Aq cq (edgesK (1 + kq)), rUl Al cl Lq, rUl Aw cw (wasL H (1 + kq) (1 + kq + 1))] := k9 z9 [idA bx (⟨H, chainE (1 + kq), paidK Lq (1 + kq) (1 + kq) true, [⟨5, if true = true then 1 else 2, legsK Lq (1 + kq)⟩]⟩ : Idl)] rfl g
    clear g g9 k9 hin9 hlt9
    have hok9 := (end_keeps hok8 (id := 5) (paid := true)).1
    rw [ch_end true] at hok9
    refine ⟨_, rfl, ?_⟩
    intro a F
    refine l_pure 3 (fun L => (109, .bool false) :: (108, .bool false) :: (107, .bool false) :: L) F (by kernel_rfl) fun a F => ?_
    refine l_do F rfl rfl (op_load _ _ (some ⟨b4, 0, none⟩) 0 (.pointer (some ⟨bx, 0, none⟩)) F rfl (by kernel_rfl) (by kernel_rfl) (cBox S 3 rfl (j := 0) rfl) (fun a F => ?_))
    refine l_pure 2 (fun L => (112, .bool false) :: (111, .bool true) :: L) F (by kernel_rfl) fun a F => ?_
    obtain ⟨G9, g9, hin9, hlt9, k9⟩ := S.frameB [2] (by decide) rfl
    refine l_do F rfl rfl (op_fn F (by kernel_rfl) (end24_at (ch_end2 true false) _ G9 bx hok9 g9) ?_)
    rintro e z9 ⟨rfl, g⟩
    have S : Sat w z9 [rest w (· < w.heap.size), rUl (some ⟨b1, 0, none⟩) XX.length XX, idA bx (⟨H, chainE (1 + kq), paidK Lq (1 + kq) (1 + kq) true, [⟨5, if true = true then 1 else 2, legsK Lq (1 + kq)⟩]⟩ : Idl), box b4 24 [.pointer (some ⟨bx, 0, none⟩)], box b5 28 [.slice Aq ((edgesK (1 + kq)).length) cq], rIl Aq cq (edgesK (1 + kq)), rUl Al cl Lq, rUl Aw cw (wasL H (1 + kq) (1 + kq + 1))] := k9 z9 [idA bx (⟨H, chainE (1 + kq), paidK Lq (1 + kq) (1 + kq) true, [⟨5, if true = true then 1 else 2, legsK Lq (1 + kq)⟩]⟩ : Idl)] rfl g
    clear g g9 k9 hin9 hlt9
    refine ⟨_, rfl, ?_⟩
    intro a F
    refine l_pure 2 (fun L => (115, .bool false) :: (114, .bool false) :: L) F (by kernel_rfl) fun a F => ?_
    refine l_then ?_
    refine c_f F rfl ?_
    refine wp_skip ?_
    refine then_n ?_
    refine wp_seq ?_
    refine s_reg ?_
    refine l_pure 3 (fun L => (118, .int .i64 0) :: (117, .int .i64 (XX.length : Nat)) :: (116, .slice (some ⟨b1, 0, none⟩) XX.length XX.length) :: L) F (by kernel_rfl) fun a F => ?_
    refine l_then ?_
    refine wp_block ?_
    refine wp_loop_m (fun m a z => ∃ (t : Nat), m = XX.length - t ∧ (t ≤ XX.length) ∧ Fr a 156 [(2, .bool true), (7, .int .i64 (1 + kq : Nat)), (13, .slice Al Lq.length cl), (18, .func (.func 9) #[] #[.pointer (some ⟨b4, 0, none⟩), .pointer (some ⟨b5, 0, none⟩)]), (19, .slice Aw ((wasL H (1 + kq) (1 + kq + 1)).length) cw), (117, .int .i64 (XX.length : Nat)), (118, .int .i64 (t : Nat))] ∧ Sat w z [rest w (· < w.heap.size), rUl (some ⟨b1, 0, none⟩) XX.length XX, idA bx (⟨H, chainE (1 + kq), paidK Lq (1 + kq) (1 + kq) true, [⟨5, if true = true then 1 else 2, legsK Lq (1 + kq)⟩]⟩ : Idl), box b4 24 [.pointer (some ⟨bx, 0, none⟩)], box b5 28 [.slice Aq ((edgesK (1 + kq)).length) cq], rIl Aq cq (edgesK (1 + kq)), rUl Al cl Lq, rUl Aw cw (wasL H (1 + kq) (1 + kq + 1))]) _ ⟨0, rfl, Nat.zero_le _, F.sub ⟨by kernel_rfl, by kernel_rfl, by kernel_rfl, by kernel_rfl, by kernel_rfl, by kernel_rfl, by kernel_rfl, trivial⟩, S⟩ ?_
    rintro m a z ⟨t, hm, hf27, F, S⟩
    refine s_reg ?_
    by_cases ht28 : ((t : Nat) : Int) < ((XX.length : Nat) : Int)
    ·
     skip
     have hwf := was_fit hch (show t ≤ (1 + kq) from by omega)
     have hwp := worth_paid (L := Lq) (l := [⟨5, if true = true then 1 else 2, legsK Lq (1 + kq)⟩]) hch (show t ≤ (1 + kq) from by omega)
     refine l_do F rfl rfl (op_pure F (v0 := .bool (decide (((t : Nat) : Int) < ((XX.length : Nat) : Int)))) (v := .bool true) (by kernel_rfl) (lssT ht28) fun a F => ?_)
     refine l_then ?_
     refine wp_seq ?_
     refine c_t F rfl ?_
     refine wp_skip ?_
     refine then_n ?_
     refine wp_seq ?_
     refine wp_block ?_
     refine s_reg ?_
     refine l_pure 2 (fun L => (21, .int .i64 (t : Nat)) :: (120, .int .i64 (t : Nat)) :: L) F (by kernel_rfl) fun a F => ?_
     refine l_then ?_
     refine s_reg ?_
     refine l_pure 2 (fun L => (122, .int .i64 (t : Nat)) :: (121, .slice Aw ((wasL H (1 + kq) (1 + kq + 1)).length) cw) :: L) F (by kernel_rfl) fun a F => ?_
     refine l_do F rfl rfl (op_index _ 23 _ _ Aw ((wasL H (1 + kq) (1 + kq + 1)).length) cw t 1 .i64 F rfl (by kernel_rfl) (by kernel_rfl) (by kernel_rfl) (by kernel_rfl) (get_lt (wasL_at (by omega))) (row_some S 7 rfl (m := t) (get_lt (wasL_at (by omega)))) (fun a F => ?_))
     refine l_do F rfl rfl (op_load _ _ Aw (t * 1) (.int .u64 (worthTo (chI H (1 + kq)) (t : Nat) (1 + kq))) F rfl (by kernel_rfl) (by kernel_rfl) (cRec S 7 iC_len_u64 rfl 0 (wasL_at (by omega)) rfl) (fun a F => ?_))
     refine l_pure 1 (fun L => (22, .int .u64 (worthTo (chI H (1 + kq)) (t : Nat) (1 + kq))) :: L) F (by kernel_rfl) fun a F => ?_
     refine l_then ?_
     refine wp_seq ?_
     refine s_reg ?_
     refine l_pure 3 (fun L => (127, .int .i64 (t : Nat)) :: (126, .bool true) :: (125, .bool true) :: L) F (by kernel_rfl) fun a F => ?_
     by_cases ht29 : (0 : Int) < ((t : Nat) : Int)
     ·
      skip
      obtain ⟨lp, hlp⟩ : ∃ lp, Lq[t - 1]? = some lp := ⟨_, List.getElem?_eq_getElem (by omega)⟩
      have hlpe := ham.each lp (List.mem_of_getElem? hlp)
      have hlo := ham.lo
      rw [if_pos (show 0 < t from by omega), getD_of hlp] at hwp
      refine l_do F rfl rfl (op_pure F (v0 := .bool (decide (((t : Nat) : Int) > (0 : Int)))) (v := .bool true) (by kernel_rfl) (gtrT ht29) fun a F => ?_)
      refine l_pure 1 (fun L => (129, .bool true) :: L) F (by kernel_rfl) fun a F => ?_
      refine l_then ?_
      refine c_t F rfl ?_
      refine wp_region_list ?_
      refine l_pure 3 (fun L => (132, .int .i64 (t : Nat)) :: (131, .slice Al Lq.length cl) :: (130, .int .u64 (worthTo (chI H (1 + kq)) (t : Nat) (1 + kq))) :: L) F (by kernel_rfl) fun a F => ?_
      refine l_do F rfl rfl (op_pure F (v0 := .int .i64 (IntKind.wrap .i64 ((t : Nat) - 1))) (v := .int .i64 (t - 1 : Nat)) (by kernel_rfl) (wrn_i64 (by omega) (by omega) (by omega)) fun a F => ?_)
      refine l_do F rfl rfl (op_index _ 23 _ _ Al Lq.length cl (t - 1) 1 .i64 F rfl (by kernel_rfl) (by kernel_rfl) (by kernel_rfl) (by kernel_rfl) (get_lt hlp) (row_some S 6 rfl (m := t - 1) (get_lt hlp)) (fun a F => ?_))
      refine l_do F rfl rfl (op_load _ _ Al ((t - 1) * 1) (.int .u64 lp) F rfl (by kernel_rfl) (by kernel_rfl) (cRec S 6 iC_len_u64 rfl 0 hlp rfl) (fun a F => ?_))
      refine l_do F rfl rfl (op_pure F (v0 := .int .u64 (IntKind.wrap .u64 ((worthTo (chI H (1 + kq)) (t : Nat) (1 + kq)) + lp))) (v := .int .u64 ((worthTo (chI H (1 + kq)) (t : Nat) (1 + kq)) + lp)) (by kernel_rfl) (wr_u64 (by omega) (by omega)) fun a F => ?_)
      refine l_pure 1 (fun L => (22, .int .u64 ((worthTo (chI H (1 + kq)) (t : Nat) (1 + kq)) + lp)) :: L) F (by kernel_rfl) fun a F => ?_
      refine l_then ?_
      refine wp_seq ?_
      refine s_reg ?_
      refine l_pure 4 (fun L => (140, .int .i64 (1 + kq : Nat)) :: (139, .int .i64 (t : Nat)) :: (138, .bool true) :: (137, .bool true) :: L) F (by kernel_rfl) fun a F => ?_
      by_cases ht30 : ((t : Nat) : Int) < ((1 + kq : Nat) : Int)
      ·
       skip
       obtain ⟨li, hli⟩ : ∃ li, Lq[t]? = some li := ⟨_, List.getElem?_eq_getElem (by omega)⟩
       have hlie := ham.each li (List.mem_of_getElem? hli)
       have hlo2 := ham.lo
       rw [if_pos (show t < (1 + kq) from by omega), getD_of hli] at hwp
       refine l_do F rfl rfl (op_pure F (v0 := .bool (decide (((t : Nat) : Int) < ((1 + kq : Nat) : Int)))) (v := .bool true) (by kernel_rfl) (lssT ht30) fun a F => ?_)
       refine l_pure 1 (fun L => (142, .bool true) :: L) F (by kernel_rfl) fun a F => ?_
       refine l_then ?_
       refine c_t F rfl ?_
       refine wp_region_list ?_
       refine l_pure 3 (fun L => (145, .int .i64 (t : Nat)) :: (144, .slice Al Lq.length cl) :: (143, .int .u64 ((worthTo (chI H (1 + kq)) (t : Nat) (1 + kq)) + lp)) :: L) F (by kernel_rfl) fun a F => ?_
       refine l_do F rfl rfl (op_index _ 23 _ _ Al Lq.length cl t 1 .i64 F rfl (by kernel_rfl) (by kernel_rfl) (by kernel_rfl) (by kernel_rfl) (get_lt hli) (row_some S 6 rfl (m := t) (get_lt hli)) (fun a F => ?_))
       refine l_do F rfl rfl (op_load _ _ Al (t * 1) (.int .u64 li) F rfl (by kernel_rfl) (by kernel_rfl) (cRec S 6 iC_len_u64 rfl 0 hli rfl) (fun a F => ?_))
       refine l_do F rfl rfl (op_pure F (v0 := .int .u64 (IntKind.wrap .u64 (((worthTo (chI H (1 + kq)) (t : Nat) (1 + kq)) + lp) - li))) (v := .int .u64 (((worthTo (chI H (1 + kq)) (t : Nat) (1 + kq)) + lp) - li)) (by kernel_rfl) (wr_u64 (by omega) (by omega)) fun a F => ?_)
       refine l_pure 1 (fun L => (22, .int .u64 (((worthTo (chI H (1 + kq)) (t : Nat) (1 + kq)) + lp) - li)) :: L) F (by kernel_rfl) fun a F => ?_
       refine l_then ?_
       refine s_reg ?_
       refine l_pure 2 (fun L => (150, .int .i64 (t : Nat)) :: (149, .func (.func 9) #[] #[.pointer (some ⟨b4, 0, none⟩), .pointer (some ⟨b5, 0, none⟩)]) :: L) F (by kernel_rfl) fun a F => ?_
       obtain ⟨G9, g9, hin9, hlt9, k9⟩ := S.frameB [3, 4, 5, 2] (by decide) rfl
       refine l_do F rfl rfl (op_fn F (by kernel_rfl) (worth24_any _ G9 b4 b5 bx (⟨H, chainE (1 + kq), paidK Lq (1 + kq) (1 + kq) true, [⟨5, if true = true then 1 else 2, legsK Lq (1 + kq)⟩]⟩ : Idl) hok9 (1 + kq) (by first | (show (1 + kq) ≤ (chainE (1 + kq)).length; rw [chainE_len]; omega) | omega) (by omega) Aq cq (t : Nat) g9) ?_)
       rintro e z9 ⟨rfl, g⟩
       have S : Sat w z9 [rest w (· < w.heap.size), rUl (some ⟨b1, 0, none⟩) XX.length XX, idA bx (⟨H, chainE (1 + kq), paidK Lq (1 + kq) (1 + kq) true, [⟨5, if true = true then 1 else 2, legsK Lq (1 + kq)⟩]⟩ : Idl), box b4 24 [.pointer (some ⟨bx, 0, none⟩)], box b5 28 [.slice Aq ((edgesK (1 + kq)).length) cq], rIl Aq cq (edgesK (1 + kq)), rUl Al cl Lq, rUl Aw cw (wasL H (1 + kq) (1 + kq + 1))] := k9 z9 [box b4 24 [.pointer (some ⟨bx, 0, none⟩)], box b5 28 [.slice Aq ((edgesK (1 + kq)).length) cq], rIl Aq cq (edgesK (1 + kq)), idA bx (⟨H, chainE (1 + kq), paidK Lq (1 + kq) (1 + kq) true, [⟨5, if true = true then 1 else 2, legsK Lq (1 + kq)⟩]⟩ : Idl)] rfl g
       clear g g9 k9 hin9 hlt9
       refine ⟨_, rfl, ?_⟩
       intro a F
       refine l_pure 1 (fun L => (152, .int .u64 (((worthTo (chI H (1 + kq)) (t : Nat) (1 + kq)) + lp) - li)) :: L) F (by kernel_rfl) fun a F => ?_
       refine l_do F rfl rfl (op_pure F (v0 := .bool ((worthTo (⟨H, chainE (1 + kq), paidK Lq (1 + kq) (1 + kq) true, [⟨5, if true = true then 1 else 2, legsK Lq (1 + kq)⟩]⟩ : Idl) (t : Nat) (1 + kq) : Int) != (((worthTo (chI H (1 + kq)) (t : Nat) (1 + kq)) + lp) - li : Int))) (v := .bool false) (by kernel_rfl) (neqF (by rw [hwp]; try omega)) fun a F => ?_)
       refine l_then ?_
       refine c_f F rfl ?_
       refine wp_skip ?_
       refine inb_n ?_
       refine then_n ?_
       refine wp_region_list ?_
       refine l_do F rfl rfl (op_pure F (v0 := .int .i64 (IntKind.wrap .i64 ((t : Nat) + 1))) (v := .int .i64 (t + 1 : Nat)) (by kernel_rfl) (wrn_i64 (by omega) (by omega) (by omega)) fun a F => ?_)
       refine l_pure 1 (fun L => (118, .int .i64 (t + 1 : Nat)) :: L) F (by kernel_rfl) fun a F => ?_
       refine l_then ?_
       exact ⟨_, (by omega), t + 1, rfl, (by omega), F.sub ⟨by kernel_rfl, by kernel_rfl, by kernel_rfl, by kernel_rfl, by kernel_rfl, by kernel_rfl, by kernel_rfl, trivial⟩, S⟩
      ·
       skip
       rw [if_neg (show ¬ t < (1 + kq) from by omega)] at hwp
       refine l_do F rfl rfl (op_pure F (v0 := .bool (decide (((t : Nat) : Int) < ((1 + kq : Nat) : Int)))) (v := .bool false) (by kernel_rfl) (lssF ht30) fun a F => ?_)
       refine l_pure 1 (fun L => (142, .bool false) :: L) F (by kernel_rfl) fun a F => ?_
       refine l_then ?_
       refine c_f F rfl ?_
       refine wp_skip ?_
       refine then_n ?_
       refine s_reg ?_
       refine l_pure 2 (fun L => (150, .int .i64 (t : Nat)) :: (149, .func (.func 9) #[] #[.pointer (some ⟨b4, 0, none⟩), .pointer (some ⟨b5, 0, none⟩)]) :: L) F (by kernel_rfl) fun a F => ?_
       obtain ⟨G9, g9, hin9, hlt9, k9⟩ := S.frameB [3, 4, 5, 2] (by decide) rfl
       refine l_do F rfl rfl (op_fn F (by kernel_rfl) (worth24_any _ G9 b4 b5 bx (⟨H, chainE (1 + kq), paidK Lq (1 + kq) (1 + kq) true, [⟨5, if true = true then 1 else 2, legsK Lq (1 + kq)⟩]⟩ : Idl) hok9 (1 + kq) (by first | (show (1 + kq) ≤ (chainE (1 + kq)).length; rw [chainE_len]; omega) | omega) (by omega) Aq cq (t : Nat) g9) ?_)
       rintro e z9 ⟨rfl, g⟩
       have S : Sat w z9 [rest w (· < w.heap.size), rUl (some ⟨b1, 0, none⟩) XX.length XX, idA bx (⟨H, chainE (1 + kq), paidK Lq (1 + kq) (1 + kq) true, [⟨5, if true = true then 1 else 2, legsK Lq (1 + kq)⟩]⟩ : Idl), box b4 24 [.pointer (some ⟨bx, 0, none⟩)], box b5 28 [.slice Aq ((edgesK (1 + kq)).length) cq], rIl Aq cq (edgesK (1 + kq)), rUl Al cl Lq, rUl Aw cw (wasL H (1 + kq) (1 + kq + 1))] := k9 z9 [box b4 24 [.pointer (some ⟨bx, 0, none⟩)], box b5 28 [.slice Aq ((edgesK (1 + kq)).length) cq], rIl Aq cq (edgesK (1 + kq)), idA bx (⟨H, chainE (1 + kq), paidK Lq (1 + kq) (1 + kq) true, [⟨5, if true = true then 1 else 2, legsK Lq (1 + kq)⟩]⟩ : Idl)] rfl g
       clear g g9 k9 hin9 hlt9
       refine ⟨_, rfl, ?_⟩
       intro a F
       refine l_pure 1 (fun L => (152, .int .u64 ((worthTo (chI H (1 + kq)) (t : Nat) (1 + kq)) + lp)) :: L) F (by kernel_rfl) fun a F => ?_
       refine l_do F rfl rfl (op_pure F (v0 := .bool ((worthTo (⟨H, chainE (1 + kq), paidK Lq (1 + kq) (1 + kq) true, [⟨5, if true = true then 1 else 2, legsK Lq (1 + kq)⟩]⟩ : Idl) (t : Nat) (1 + kq) : Int) != ((worthTo (chI H (1 + kq)) (t : Nat) (1 + kq)) + lp : Int))) (v := .bool false) (by kernel_rfl) (neqF (by rw [hwp]; try omega)) fun a F => ?_)
       refine l_then ?_
       refine c_f F rfl ?_
       refine wp_skip ?_
       refine inb_n ?_
       refine then_n ?_
       refine wp_region_list ?_
       refine l_do F rfl rfl (op_pure F (v0 := .int .i64 (IntKind.wrap .i64 ((t : Nat) + 1))) (v := .int .i64 (t + 1 : Nat)) (by kernel_rfl) (wrn_i64 (by omega) (by omega) (by omega)) fun a F => ?_)
       refine l_pure 1 (fun L => (118, .int .i64 (t + 1 : Nat)) :: L) F (by kernel_rfl) fun a F => ?_
       refine l_then ?_
       exact ⟨_, (by omega), t + 1, rfl, (by omega), F.sub ⟨by kernel_rfl, by kernel_rfl, by kernel_rfl, by kernel_rfl, by kernel_rfl, by kernel_rfl, by kernel_rfl, trivial⟩, S⟩
     ·
      skip
      rw [if_neg (show ¬ 0 < t from by omega)] at hwp
      refine l_do F rfl rfl (op_pure F (v0 := .bool (decide (((t : Nat) : Int) > (0 : Int)))) (v := .bool false) (by kernel_rfl) (gtrF ht29) fun a F => ?_)
      refine l_pure 1 (fun L => (129, .bool false) :: L) F (by kernel_rfl) fun a F => ?_
      refine l_then ?_
      refine c_f F rfl ?_
      refine wp_skip ?_
      refine then_n ?_
      refine wp_seq ?_
      refine s_reg ?_
      refine l_pure 4 (fun L => (140, .int .i64 (1 + kq : Nat)) :: (139, .int .i64 (t : Nat)) :: (138, .bool true) :: (137, .bool true) :: L) F (by kernel_rfl) fun a F => ?_
      by_cases ht31 : ((t : Nat) : Int) < ((1 + kq : Nat) : Int)
      ·
       skip
       obtain ⟨li, hli⟩ : ∃ li, Lq[t]? = some li := ⟨_, List.getElem?_eq_getElem (by omega)⟩
       have hlie := ham.each li (List.mem_of_getElem? hli)
       have hlo2 := ham.lo
       rw [if_pos (show t < (1 + kq) from by omega), getD_of hli] at hwp
       refine l_do F rfl rfl (op_pure F (v0 := .bool (decide (((t : Nat) : Int) < ((1 + kq : Nat) : Int)))) (v := .bool true) (by kernel_rfl) (lssT ht31) fun a F => ?_)
       refine l_pure 1 (fun L => (142, .bool true) :: L) F (by kernel_rfl) fun a F => ?_
       refine l_then ?_
       refine c_t F rfl ?_
       refine wp_region_list ?_
       refine l_pure 3 (fun L => (145, .int .i64 (t : Nat)) :: (144, .slice Al Lq.length cl) :: (143, .int .u64 (worthTo (chI H (1 + kq)) (t : Nat) (1 + kq))) :: L) F (by kernel_rfl) fun a F => ?_
       refine l_do F rfl rfl (op_index _ 23 _ _ Al Lq.length cl t 1 .i64 F rfl (by kernel_rfl) (by kernel_rfl) (by kernel_rfl) (by kernel_rfl) (get_lt hli) (row_some S 6 rfl (m := t) (get_lt hli)) (fun a F => ?_))
       refine l_do F rfl rfl (op_load _ _ Al (t * 1) (.int .u64 li) F rfl (by kernel_rfl) (by kernel_rfl) (cRec S 6 iC_len_u64 rfl 0 hli rfl) (fun a F => ?_))
       refine l_do F rfl rfl (op_pure F (v0 := .int .u64 (IntKind.wrap .u64 ((worthTo (chI H (1 + kq)) (t : Nat) (1 + kq)) - li))) (v := .int .u64 ((worthTo (chI H (1 + kq)) (t : Nat) (1 + kq)) - li)) (by kernel_rfl) (wr_u64 (by omega) (by omega)) fun a F => ?_)
       refine l_pure 1 (fun L => (22, .int .u64 ((worthTo (chI H (1 + kq)) (t : Nat) (1 + kq)) - li)) :: L) F (by kernel_rfl) fun a F => ?_
       refine l_then ?_
       refine s_reg ?_
       refine l_pure 2 (fun L => (150, .int .i64 (t : Nat)) :: (149, .func (.func 9) #[] #[.pointer (some ⟨b4, 0, none⟩), .pointer (some ⟨b5, 0, none⟩)]) :: L) F (by kernel_rfl) fun a F => ?_
       obtain ⟨G9, g9, hin9, hlt9, k9⟩ := S.frameB [3, 4, 5, 2] (by decide) rfl
       refine l_do F rfl rfl (op_fn F (by kernel_rfl) (worth24_any _ G9 b4 b5 bx (⟨H, chainE (1 + kq), paidK Lq (1 + kq) (1 + kq) true, [⟨5, if true = true then 1 else 2, legsK Lq (1 + kq)⟩]⟩ : Idl) hok9 (1 + kq) (by first | (show (1 + kq) ≤ (chainE (1 + kq)).length; rw [chainE_len]; omega) | omega) (by omega) Aq cq (t : Nat) g9) ?_)
       rintro e z9 ⟨rfl, g⟩
       have S : Sat w z9 [rest w (· < w.heap.size), rUl (some ⟨b1, 0, none⟩) XX.length XX, idA bx (⟨H, chainE (1 + kq), paidK Lq (1 + kq) (1 + kq) true, [⟨5, if true = true then 1 else 2, legsK Lq (1 + kq)⟩]⟩ : Idl), box b4 24 [.pointer (some ⟨bx, 0, none⟩)], box b5 28 [.slice Aq ((edgesK (1 + kq)).length) cq], rIl Aq cq (edgesK (1 + kq)), rUl Al cl Lq, rUl Aw cw (wasL H (1 + kq) (1 + kq + 1))] := k9 z9 [box b4 24 [.pointer (some ⟨bx, 0, none⟩)], box b5 28 [.slice Aq ((edgesK (1 + kq)).length) cq], rIl Aq cq (edgesK (1 + kq)), idA bx (⟨H, chainE (1 + kq), paidK Lq (1 + kq) (1 + kq) true, [⟨5, if true = true then 1 else 2, legsK Lq (1 + kq)⟩]⟩ : Idl)] rfl g
       clear g g9 k9 hin9 hlt9
       refine ⟨_, rfl, ?_⟩
       intro a F
       refine l_pure 1 (fun L => (152, .int .u64 ((worthTo (chI H (1 + kq)) (t : Nat) (1 + kq)) - li)) :: L) F (by kernel_rfl) fun a F => ?_
       refine l_do F rfl rfl (op_pure F (v0 := .bool ((worthTo (⟨H, chainE (1 + kq), paidK Lq (1 + kq) (1 + kq) true, [⟨5, if true = true then 1 else 2, legsK Lq (1 + kq)⟩]⟩ : Idl) (t : Nat) (1 + kq) : Int) != ((worthTo (chI H (1 + kq)) (t : Nat) (1 + kq)) - li : Int))) (v := .bool false) (by kernel_rfl) (neqF (by rw [hwp]; try omega)) fun a F => ?_)
       refine l_then ?_
       refine c_f F rfl ?_
       refine wp_skip ?_
       refine inb_n ?_
       refine then_n ?_
       refine wp_region_list ?_
       refine l_do F rfl rfl (op_pure F (v0 := .int .i64 (IntKind.wrap .i64 ((t : Nat) + 1))) (v := .int .i64 (t + 1 : Nat)) (by kernel_rfl) (wrn_i64 (by omega) (by omega) (by omega)) fun a F => ?_)
       refine l_pure 1 (fun L => (118, .int .i64 (t + 1 : Nat)) :: L) F (by kernel_rfl) fun a F => ?_
       refine l_then ?_
       exact ⟨_, (by omega), t + 1, rfl, (by omega), F.sub ⟨by kernel_rfl, by kernel_rfl, by kernel_rfl, by kernel_rfl, by kernel_rfl, by kernel_rfl, by kernel_rfl, trivial⟩, S⟩
      ·
       skip
       rw [if_neg (show ¬ t < (1 + kq) from by omega)] at hwp
       refine l_do F rfl rfl (op_pure F (v0 := .bool (decide (((t : Nat) : Int) < ((1 + kq : Nat) : Int)))) (v := .bool false) (by kernel_rfl) (lssF ht31) fun a F => ?_)
       refine l_pure 1 (fun L => (142, .bool false) :: L) F (by kernel_rfl) fun a F => ?_
       refine l_then ?_
       refine c_f F rfl ?_
       refine wp_skip ?_
       refine then_n ?_
       refine s_reg ?_
       refine l_pure 2 (fun L => (150, .int .i64 (t : Nat)) :: (149, .func (.func 9) #[] #[.pointer (some ⟨b4, 0, none⟩), .pointer (some ⟨b5, 0, none⟩)]) :: L) F (by kernel_rfl) fun a F => ?_
       obtain ⟨G9, g9, hin9, hlt9, k9⟩ := S.frameB [3, 4, 5, 2] (by decide) rfl
       refine l_do F rfl rfl (op_fn F (by kernel_rfl) (worth24_any _ G9 b4 b5 bx (⟨H, chainE (1 + kq), paidK Lq (1 + kq) (1 + kq) true, [⟨5, if true = true then 1 else 2, legsK Lq (1 + kq)⟩]⟩ : Idl) hok9 (1 + kq) (by first | (show (1 + kq) ≤ (chainE (1 + kq)).length; rw [chainE_len]; omega) | omega) (by omega) Aq cq (t : Nat) g9) ?_)
       rintro e z9 ⟨rfl, g⟩
       have S : Sat w z9 [rest w (· < w.heap.size), rUl (some ⟨b1, 0, none⟩) XX.length XX, idA bx (⟨H, chainE (1 + kq), paidK Lq (1 + kq) (1 + kq) true, [⟨5, if true = true then 1 else 2, legsK Lq (1 + kq)⟩]⟩ : Idl), box b4 24 [.pointer (some ⟨bx, 0, none⟩)], box b5 28 [.slice Aq ((edgesK (1 + kq)).length) cq], rIl Aq cq (edgesK (1 + kq)), rUl Al cl Lq, rUl Aw cw (wasL H (1 + kq) (1 + kq + 1))] := k9 z9 [box b4 24 [.pointer (some ⟨bx, 0, none⟩)], box b5 28 [.slice Aq ((edgesK (1 + kq)).length) cq], rIl Aq cq (edgesK (1 + kq)), idA bx (⟨H, chainE (1 + kq), paidK Lq (1 + kq) (1 + kq) true, [⟨5, if true = true then 1 else 2, legsK Lq (1 + kq)⟩]⟩ : Idl)] rfl g
       clear g g9 k9 hin9 hlt9
       refine ⟨_, rfl, ?_⟩
       intro a F
       refine l_pure 1 (fun L => (152, .int .u64 (worthTo (chI H (1 + kq)) (t : Nat) (1 + kq))) :: L) F (by kernel_rfl) fun a F => ?_
       refine l_do F rfl rfl (op_pure F (v0 := .bool ((worthTo (⟨H, chainE (1 + kq), paidK Lq (1 + kq) (1 + kq) true, [⟨5, if true = true then 1 else 2, legsK Lq (1 + kq)⟩]⟩ : Idl) (t : Nat) (1 + kq) : Int) != ((worthTo (chI H (1 + kq)) (t : Nat) (1 + kq)) : Int))) (v := .bool false) (by kernel_rfl) (neqF (by rw [hwp]; try omega)) fun a F => ?_)
       refine l_then ?_
       refine c_f F rfl ?_
       refine wp_skip ?_
       refine inb_n ?_
       refine then_n ?_
       refine wp_region_list ?_
       refine l_do F rfl rfl (op_pure F (v0 := .int .i64 (IntKind.wrap .i64 ((t : Nat) + 1))) (v := .int .i64 (t + 1 : Nat)) (by kernel_rfl) (wrn_i64 (by omega) (by omega) (by omega)) fun a F => ?_)
       refine l_pure 1 (fun L => (118, .int .i64 (t + 1 : Nat)) :: L) F (by kernel_rfl) fun a F => ?_
       refine l_then ?_
       exact ⟨_, (by omega), t + 1, rfl, (by omega), F.sub ⟨by kernel_rfl, by kernel_rfl, by kernel_rfl, by kernel_rfl, by kernel_rfl, by kernel_rfl, by kernel_rfl, trivial⟩, S⟩
    ·
     skip
     refine l_do F rfl rfl (op_pure F (v0 := .bool (decide (((t : Nat) : Int) < ((XX.length : Nat) : Int)))) (v := .bool false) (by kernel_rfl) (lssF ht28) fun a F => ?_)
     refine l_then ?_
     refine wp_seq ?_
     refine c_f F rfl ?_
     refine wp_exit ?_
     refine then_x ?_
     refine then_x ?_
     refine inb_x ?_
     refine then_n ?_
     refine s_reg ?_
     refine l_do F rfl rfl (op_fn F (by kernel_rfl) (awake24_any _) ?_)
     rintro e z ⟨rfl, hb⟩
     have S := S.grow hb
     refine ⟨_, rfl, ?_⟩
     intro a F
     refine l_pure 1 (fun L => (6, .bool true) :: L) F (by kernel_rfl) fun a F => ?_
     refine l_then ?_
     refine wp_ret ?_
     exact fin F [.tmp 6] [.bool true] rfl ⟨by kernel_rfl, trivial⟩ (.bool true) rfl ⟨rfl, S.below (i := 0) rfl⟩
theorem pays24_law (w : World) (Ax : Option Addr) (cx : Nat) (X : List Int) (hX : Recs 1 iC_u64 w Ax cx X) (hXu : ∀ a ∈ X, U64 a) (nv : Int) (hn0 : 0 ≤ nv) (hn1 : nv ≤ 255) (pd : Bool) : Calls Try.prog 3 #[.int .u8 nv, .slice Ax X.length cx, .bool pd] w fun e w' => e = .returned (.bool true) ∧ Below w.heap.size w w' := by
  cases pd with
  | false => exact pays24_false w Ax cx X hX hXu nv hn0 hn1
  | true => exact pays24_true w Ax cx X hX hXu nv hn0 hn1
end Go.Proofs.Ytecgpkjigbhneaa
