/- Walks over the program's ideal: all; closing. -/
import Derived.Test.YtecgpkjigbhneaaIdl3
namespace Go.Proofs.Ytecgpkjigbhneaa
set_option linter.unusedVariables false
set_option linter.unusedSimpArgs false
set_option linter.unnecessarySimpa false
open Go Go.RowKit

theorem sumI_take {l : List Int} {k : Nat} {a : Int} (h : l[k]? = some a) : sumI (l.take (k + 1)) = sumI (l.take k) + a := by rw [List.take_add_one, h, sumI_app]; simp [sumI]
theorem sumI_part {l : List Int} (h : ∀ a ∈ l, 0 ≤ a) (k : Nat) : 0 ≤ sumI (l.take k) ∧ sumI (l.take k) ≤ sumI l := by
  have h1 : 0 ≤ sumI (l.take k) := sumI_nn _ fun a ha => h a (List.mem_of_mem_take ha)
  have h2 : 0 ≤ sumI (l.drop k) := sumI_nn _ fun a ha => h a (List.mem_of_mem_drop ha)
  have h3 : sumI l = sumI (l.take k) + sumI (l.drop k) := by rw [← sumI_app, List.take_append_drop]
  omega
def fsum (l : List (Int × Int)) : List Int := l.map fun f => f.1 + f.2
theorem fsum_at {l : List (Int × Int)} {k : Nat} {f : Int × Int} (h : l[k]? = some f) : (fsum l)[k]? = some (f.1 + f.2) := by unfold fsum; simp [h]
theorem fsum_nn {l : List (Int × Int)} (h : ∀ f ∈ l, 0 ≤ f.1 ∧ 0 ≤ f.2) : ∀ a ∈ fsum l, 0 ≤ a := fun a ha => by
  unfold fsum at ha
  rw [List.mem_map] at ha
  obtain ⟨f, hf, rfl⟩ := ha
  have := h f hf; omega
theorem fsum_all (l : List (Int × Int)) : sumI ((fsum l).take l.length) = sumF l := by
  have : l.length = (fsum l).length := by unfold fsum; simp
  rw [this, List.take_length]; rfl

set_option maxRecDepth 100000 in
set_option maxHeartbeats 4000000 in
theorem all24_any (w : World) (G : Nat → Prop) (b : Nat) (I : Idl) (ok : IOk I) (hS : Sat w w [idA b I, rest w G]) : Calls Try.prog 18 #[.pointer (some ⟨b, 0, none⟩)] w fun e w' => e = .returned (.int .u64 (totI I)) ∧ Sat w w' [idA b I, rest w G] := by
 refine enter 43 Try.func18 rfl rfl rfl fun a F => ?_
 have S : Sat w w [rest w G, idA b I] := hS.pick [1, 0] (by decide)
 have hsm := ok.sums
 have hhl := ok.hl
 have hel := ok.el
 have hfl := ok.fl
 refine s_reg ?_
 refine l_pure 1 (fun L => (2, .int .u64 0) :: L) F (by kernel_rfl) fun a F => ?_
 refine l_then ?_
 refine wp_seq ?_
 refine s_reg ?_
 refine l_pure 2 (fun L => (9, .bool false) :: (8, .pointer (some ⟨b, 0, none⟩)) :: L) F (by kernel_rfl) fun a F => ?_
 refine l_then ?_
 refine c_f F rfl ?_
 refine wp_skip ?_
 refine then_n ?_
 refine s_reg ?_
 refine l_pure 1 (fun L => (10, .pointer (some ⟨b, 0, none⟩)) :: L) F (by kernel_rfl) fun a F => ?_
 obtain ⟨G9, g9, hin9, hlt9, k9⟩ := S.frameB [1] (by decide) rfl
 refine l_do F rfl rfl (op_fn F (by kernel_rfl) (held24_any _ G9 b I ok g9) ?_)
 rintro e z9 ⟨rfl, g⟩
 have S : Sat w z9 [rest w G, idA b I] := k9 z9 [idA b I] rfl g
 clear g g9 k9 hin9 hlt9
 obtain ⟨Ae, ce, Af, cf, Ah, ch, r, ck, ps, hps, S⟩ := id_open (S.pick [1, 0] (by decide))
 refine ⟨_, rfl, ?_⟩
 intro a F
 refine l_pure 1 (fun L => (3, .int .u64 (heldP I.pays)) :: L) F (by kernel_rfl) fun a F => ?_
 refine l_then ?_
 refine wp_seq ?_
 refine s_reg ?_
 refine l_pure 3 (fun L => (14, .pointer (some ⟨b, 3, none⟩)) :: (13, .pointer (some ⟨b, 0, none⟩)) :: (12, .pointer (some ⟨b, 0, none⟩)) :: L) F (by kernel_rfl) fun a F => ?_
 refine l_do F rfl rfl (op_load _ _ (some ⟨b, 0, none⟩) 3 (.slice Ah I.has.length ch) F rfl (by kernel_rfl) (by kernel_rfl) (cBox S 1 rfl (j := 3) rfl) (fun a F => ?_))
 refine l_pure 2 (fun L => (17, .int .i64 0) :: (16, .int .i64 (I.has.length : Nat)) :: L) F (by kernel_rfl) fun a F => ?_
 refine l_then ?_
 refine wp_block ?_
 refine wp_loop_m (fun m a z => ∃ (k : Nat) (sa : Int), m = I.has.length - k ∧ (k ≤ I.has.length) ∧ (sa = heldP I.pays + sumI (I.has.take k)) ∧ Fr a 43 [(0, .pointer (some ⟨b, 0, none⟩)), (3, .int .u64 sa), (15, .slice Ah I.has.length ch), (16, .int .i64 (I.has.length : Nat)), (17, .int .i64 (k : Nat))] ∧ Sat w z [rest w G, box b 61 [.slice Ae I.ends.length ce, .slice Af I.free.length cf, .map (some r), .slice Ah I.has.length ch], rEl Ae ce I.ends, rFl Af cf I.free, rUl Ah ch I.has, mapA r .u64 (ps.map entM) ck, bag (ps.flatMap payRows)]) _ ⟨0, (heldP I.pays), rfl, Nat.zero_le _, (by rw [List.take_zero]; exact (Int.add_zero _).symm), F.sub ⟨by kernel_rfl, by kernel_rfl, by kernel_rfl, by kernel_rfl, by kernel_rfl, trivial⟩, S⟩ ?_
 rintro m a z ⟨k, sa, hm, hf1, hf2, F, S⟩
 have hv1 := hf2
 have hs3 := sumI_part ok.hu k
 refine s_reg ?_
 by_cases ht3 : ((k : Nat) : Int) < ((I.has.length : Nat) : Int)
 ·
  skip
  obtain ⟨xa, hxa⟩ : ∃ xa, I.has[k]? = some xa := ⟨_, List.getElem?_eq_getElem (by omega)⟩
  have hs1 := sumI_take hxa
  have hs2 := sumI_part ok.hu (k + 1)
  have hxn := sumI_one _ _ _ ok.hu hxa
  refine l_do F rfl rfl (op_pure F (v0 := .bool (decide (((k : Nat) : Int) < ((I.has.length : Nat) : Int)))) (v := .bool true) (by kernel_rfl) (lssT ht3) fun a F => ?_)
  refine l_then ?_
  refine wp_seq ?_
  refine c_t F rfl ?_
  refine wp_skip ?_
  refine then_n ?_
  refine wp_seq ?_
  refine wp_block ?_
  refine s_reg ?_
  refine l_do F rfl rfl (op_index _ 23 _ _ Ah I.has.length ch k 1 .i64 F rfl (by kernel_rfl) (by kernel_rfl) (by kernel_rfl) (by kernel_rfl) (get_lt hxa) (row_some S 4 rfl (m := k) (get_lt hxa)) (fun a F => ?_))
  refine l_do F rfl rfl (op_load _ _ Ah (k * 1) (.int .u64 xa) F rfl (by kernel_rfl) (by kernel_rfl) (cRec S 4 iC_len_u64 rfl 0 hxa rfl) (fun a F => ?_))
  refine l_pure 1 (fun L => (5, .int .u64 xa) :: L) F (by kernel_rfl) fun a F => ?_
  refine l_then ?_
  refine wp_region_list ?_
  refine l_pure 2 (fun L => (22, .int .u64 xa) :: (21, .int .u64 sa) :: L) F (by kernel_rfl) fun a F => ?_
  refine l_do F rfl rfl (op_pure F (v0 := .int .u64 (IntKind.wrap .u64 (sa + xa))) (v := .int .u64 (sa + xa)) (by kernel_rfl) (wr_u64 (by omega) (by omega)) fun a F => ?_)
  refine l_pure 1 (fun L => (3, .int .u64 (sa + xa)) :: L) F (by kernel_rfl) fun a F => ?_
  refine l_nil (inb_n ?_)
  refine then_n ?_
  refine wp_region_list ?_
  refine l_do F rfl rfl (op_pure F (v0 := .int .i64 (IntKind.wrap .i64 ((k : Nat) + 1))) (v := .int .i64 (k + 1 : Nat)) (by kernel_rfl) (wrn_i64 (by omega) (by omega) (by omega)) fun a F => ?_)
  refine l_pure 1 (fun L => (17, .int .i64 (k + 1 : Nat)) :: L) F (by kernel_rfl) fun a F => ?_
  refine l_then ?_
  exact ⟨_, (by omega), k + 1, (sa + xa), rfl, (by omega), (by omega), F.sub ⟨by kernel_rfl, by kernel_rfl, by kernel_rfl, by kernel_rfl, by kernel_rfl, trivial⟩, S⟩
 ·
  skip
  have hk : k = I.has.length := by omega
  rw [hk, List.take_length] at hv1
  refine l_do F rfl rfl (op_pure F (v0 := .bool (decide (((k : Nat) : Int) < ((I.has.length : Nat) : Int)))) (v := .bool false) (by kernel_rfl) (lssF ht3) fun a F => ?_)
  refine l_then ?_
  refine wp_seq ?_
  refine c_f F rfl ?_
  refine wp_exit ?_
  refine then_x ?_
  refine then_x ?_
  refine inb_x ?_
  refine then_n ?_
  refine wp_seq ?_
  refine s_reg ?_
  refine l_pure 3 (fun L => (27, .pointer (some ⟨b, 1, none⟩)) :: (26, .pointer (some ⟨b, 0, none⟩)) :: (25, .pointer (some ⟨b, 0, none⟩)) :: L) F (by kernel_rfl) fun a F => ?_
  refine l_do F rfl rfl (op_load _ _ (some ⟨b, 0, none⟩) 1 (.slice Af I.free.length cf) F rfl (by kernel_rfl) (by kernel_rfl) (cBox S 1 rfl (j := 1) rfl) (fun a F => ?_))
  refine l_pure 2 (fun L => (30, .int .i64 0) :: (29, .int .i64 (I.free.length : Nat)) :: L) F (by kernel_rfl) fun a F => ?_
  refine l_then ?_
  refine wp_block ?_
  refine wp_loop_m (fun m a z => ∃ (k2 : Nat) (sb : Int), m = I.free.length - k2 ∧ (k2 ≤ I.free.length) ∧ (sb = heldP I.pays + sumI I.has + sumI ((fsum I.free).take k2)) ∧ Fr a 43 [(3, .int .u64 sb), (28, .slice Af I.free.length cf), (29, .int .i64 (I.free.length : Nat)), (30, .int .i64 (k2 : Nat))] ∧ Sat w z [rest w G, box b 61 [.slice Ae I.ends.length ce, .slice Af I.free.length cf, .map (some r), .slice Ah I.has.length ch], rEl Ae ce I.ends, rFl Af cf I.free, rUl Ah ch I.has, mapA r .u64 (ps.map entM) ck, bag (ps.flatMap payRows)]) _ ⟨0, sa, rfl, Nat.zero_le _, (by rw [List.take_zero, hv1]; exact (Int.add_zero _).symm), F.sub ⟨by kernel_rfl, by kernel_rfl, by kernel_rfl, by kernel_rfl, trivial⟩, S⟩ ?_
  rintro m a z ⟨k2, sb, hm, hf4, hf5, F, S⟩
  have hv2 := hf5
  have hs3 := sumI_part (fsum_nn ok.fu) k2
  refine s_reg ?_
  by_cases ht6 : ((k2 : Nat) : Int) < ((I.free.length : Nat) : Int)
  ·
   skip
   obtain ⟨xf, hxf⟩ : ∃ xf, I.free[k2]? = some xf := ⟨_, List.getElem?_eq_getElem (by omega)⟩
   have hs1 := sumI_take (fsum_at hxf)
   have hs2 := sumI_part (fsum_nn ok.fu) (k2 + 1)
   have hxn := sumF_one ok.fu hxf
   have hfe : sumI (fsum I.free) = sumF I.free := rfl
   refine l_do F rfl rfl (op_pure F (v0 := .bool (decide (((k2 : Nat) : Int) < ((I.free.length : Nat) : Int)))) (v := .bool true) (by kernel_rfl) (lssT ht6) fun a F => ?_)
   refine l_then ?_
   refine wp_seq ?_
   refine c_t F rfl ?_
   refine wp_skip ?_
   refine then_n ?_
   refine wp_seq ?_
   refine wp_block ?_
   refine s_reg ?_
   refine l_do F rfl rfl (op_index _ 31 _ _ Af I.free.length cf k2 2 .i64 F rfl (by kernel_rfl) (by kernel_rfl) (by kernel_rfl) (by kernel_rfl) (get_lt hxf) (row_some S 3 rfl (m := k2) (get_lt hxf)) (fun a F => ?_))
   refine l_do F rfl rfl (op_loadK _ _ Af (k2 * 2) [.int .u64 xf.1, .int .u64 xf.2] F rfl (by kernel_rfl) (by kernel_rfl) (by kernel_rfl) (by simp) (cRecK0 S 3 frC_len rfl hxf (by kernel_rfl)) (fun a F => ?_))
   refine l_do F rfl rfl (op_alloc S _ (.agg #[.int .u64 0, .int .u64 0]) rfl (by kernel_rfl) fun b7 z S a F => ?_)
   refine l_do F rfl rfl (op_storeB S 7 _ _ _ b7 0 (.agg #[.int .u64 xf.1, .int .u64 xf.2]) F rfl rfl (by kernel_rfl) (by kernel_rfl) (by kernel_rfl) (by kernel_rfl) (by kernel_rfl) fun z S a F => ?_)
   refine l_then ?_
   refine wp_region_list ?_
   refine l_pure 2 (fun L => (35, .pointer (some ⟨b7, 0, none⟩)) :: (34, .int .u64 sb) :: L) F (by kernel_rfl) fun a F => ?_
   refine l_do F rfl rfl (op_load _ _ (some ⟨b7, 0, none⟩) 0 (.int .u64 xf.1) F rfl (by kernel_rfl) (by kernel_rfl) (cBox S 7 rfl (j := 0) rfl) (fun a F => ?_))
   refine l_pure 1 (fun L => (37, .pointer (some ⟨b7, 1, none⟩)) :: L) F (by kernel_rfl) fun a F => ?_
   refine l_do F rfl rfl (op_load _ _ (some ⟨b7, 0, none⟩) 1 (.int .u64 xf.2) F rfl (by kernel_rfl) (by kernel_rfl) (cBox S 7 rfl (j := 1) rfl) (fun a F => ?_))
   refine l_do F rfl rfl (op_pure F (v0 := .int .u64 (IntKind.wrap .u64 (xf.1 + xf.2))) (v := .int .u64 (xf.1 + xf.2)) (by kernel_rfl) (wr_u64 (by omega) (by omega)) fun a F => ?_)
   refine l_do F rfl rfl (op_pure F (v0 := .int .u64 (IntKind.wrap .u64 (sb + (xf.1 + xf.2)))) (v := .int .u64 (sb + (xf.1 + xf.2))) (by kernel_rfl) (wr_u64 (by omega) (by omega)) fun a F => ?_)
   refine l_pure 1 (fun L => (3, .int .u64 (sb + (xf.1 + xf.2))) :: L) F (by kernel_rfl) fun a F => ?_
   refine l_nil (inb_n ?_)
   refine then_n ?_
   refine wp_region_list ?_
   refine l_do F rfl rfl (op_pure F (v0 := .int .i64 (IntKind.wrap .i64 ((k2 : Nat) + 1))) (v := .int .i64 (k2 + 1 : Nat)) (by kernel_rfl) (wrn_i64 (by omega) (by omega) (by omega)) fun a F => ?_)
   refine l_pure 1 (fun L => (30, .int .i64 (k2 + 1 : Nat)) :: L) F (by kernel_rfl) fun a F => ?_
   refine l_then ?_
   exact ⟨_, (by omega), k2 + 1, (sb + (xf.1 + xf.2)), rfl, (by omega), (by omega), F.sub ⟨by kernel_rfl, by kernel_rfl, by kernel_rfl, by kernel_rfl, trivial⟩, (S.pick [0, 1, 2, 3, 4, 5, 6] (by decide))⟩
  ·
   skip
   have hk2 : k2 = I.free.length := by omega
   rw [hk2, fsum_all] at hv2
   refine l_do F rfl rfl (op_pure F (v0 := .bool (decide (((k2 : Nat) : Int) < ((I.free.length : Nat) : Int)))) (v := .bool false) (by kernel_rfl) (lssF ht6) fun a F => ?_)
   refine l_then ?_
   refine wp_seq ?_
   refine c_f F rfl ?_
   refine wp_exit ?_
   refine then_x ?_
   refine then_x ?_
   refine inb_x ?_
   refine then_n ?_
   refine s_reg ?_
   refine l_pure 2 (fun L => (2, .int .u64 sb) :: (42, .int .u64 sb) :: L) F (by kernel_rfl) fun a F => ?_
   refine l_then ?_
   refine wp_ret ?_
   exact fin F [.tmp 2] [.int .u64 sb] rfl ⟨by kernel_rfl, trivial⟩ (.int .u64 sb) rfl ⟨by rw [hv2]; rfl, (id_shut hps (by simp) (by simp) (by simp) (S.pick [0, 1, 2, 3, 4, 5, 6] (by decide)))⟩
set_option maxRecDepth 100000 in
set_option maxHeartbeats 4000000 in
theorem close24_any (w : World) (G : Nat → Prop) (b : Nat) (I : Idl) (ok : IOk I) (hS : Sat w w [idA b I, rest w G]) (cid : Int) : Calls Try.prog 24 #[.pointer (some ⟨b, 0, none⟩), .int .i64 cid] w fun e w' => e = .returned (.int .i64 (closeP I cid).2) ∧ Sat w w' [idA b (closeP I cid).1, rest w G] := by
 refine enter 80 Try.func24 rfl rfl rfl fun a F => ?_
 obtain ⟨Ae, ce, Af, cf, Ah, ch, r, ck, ps, hps, S⟩ := id_open hS
 refine s_reg ?_
 refine l_pure 1 (fun L => (4, .int .i64 0) :: L) F (by kernel_rfl) fun a F => ?_
 refine l_then ?_
 refine wp_seq ?_
 refine wp_block ?_
 refine s_reg ?_
 refine l_pure 3 (fun L => (9, .bool false) :: (11, .bool false) :: (10, .pointer (some ⟨b, 0, none⟩)) :: L) F (by kernel_rfl) fun a F => ?_
 refine l_then ?_
 refine c_f F rfl ?_
 refine s_reg ?_
 refine l_pure 1 (fun L => (13, .int .i64 cid) :: L) F (by kernel_rfl) fun a F => ?_
 by_cases ht1 : (cid : Int) < (0 : Int)
 ·
  skip
  refine l_do F rfl rfl (op_pure F (v0 := .bool (decide ((cid : Int) < (0 : Int)))) (v := .bool true) (by kernel_rfl) (lssT ht1) fun a F => ?_)
  refine l_pure 10 (fun L => (12, .bool true) :: (23, .bool true) :: (22, undef) :: (21, undef) :: (20, undef) :: (19, undef) :: (18, undef) :: (17, undef) :: (16, undef) :: (15, .bool true) :: L) F (by kernel_rfl) fun a F => ?_
  refine l_then ?_
  refine c_t F rfl ?_
  refine s_reg ?_
  refine l_pure 1 (fun L => (4, .int .i64 6) :: L) F (by kernel_rfl) fun a F => ?_
  refine l_then ?_
  refine wp_ret ?_
  refine inb_r (then_r (?_))
  exact fin F [.tmp 4] [.int .i64 6] rfl ⟨by kernel_rfl, trivial⟩ (.int .i64 6) rfl ⟨by rw [close_none (by omega)], by rw [close_none (by omega)]; exact (id_shut hps (by simp) (by simp) (by simp) (S.pick [0, 1, 2, 3, 4, 5, 6] (by decide)))⟩
 ·
  skip
  refine l_do F rfl rfl (op_pure F (v0 := .bool (decide ((cid : Int) < (0 : Int)))) (v := .bool false) (by kernel_rfl) (lssF ht1) fun a F => ?_)
  refine l_pure 5 (fun L => (19, .pointer (some ⟨b, 0, none⟩)) :: (18, .pointer (some ⟨b, 0, none⟩)) :: (17, .pointer (some ⟨b, 0, none⟩)) :: (16, .int .i64 cid) :: (15, .bool false) :: L) F (by kernel_rfl) fun a F => ?_
  refine l_do F rfl rfl (op_load _ _ (some ⟨b, 0, none⟩) 0 (.slice Ae I.ends.length ce) F rfl (by kernel_rfl) (by kernel_rfl) (cBox S 1 rfl (j := 0) rfl) (fun a F => ?_))
  refine l_pure 1 (fun L => (21, .int .i64 (I.ends.length : Nat)) :: L) F (by kernel_rfl) fun a F => ?_
  by_cases ht2 : ((I.ends.length : Nat) : Int) ≤ (cid : Int)
  ·
   skip
   refine l_do F rfl rfl (op_pure F (v0 := .bool (decide ((cid : Int) ≥ ((I.ends.length : Nat) : Int)))) (v := .bool true) (by kernel_rfl) (geqT ht2) fun a F => ?_)
   refine l_pure 2 (fun L => (12, .bool true) :: (23, .bool true) :: L) F (by kernel_rfl) fun a F => ?_
   refine l_then ?_
   refine c_t F rfl ?_
   refine s_reg ?_
   refine l_pure 1 (fun L => (4, .int .i64 6) :: L) F (by kernel_rfl) fun a F => ?_
   refine l_then ?_
   refine wp_ret ?_
   refine inb_r (then_r (?_))
   exact fin F [.tmp 4] [.int .i64 6] rfl ⟨by kernel_rfl, trivial⟩ (.int .i64 6) rfl ⟨by rw [close_none (by omega)], by rw [close_none (by omega)]; exact (id_shut hps (by simp) (by simp) (by simp) (S.pick [0, 1, 2, 3, 4, 5, 6] (by decide)))⟩
  ·
   skip
   obtain ⟨nn, rfl⟩ : ∃ n : Nat, cid = (n : Int) := ⟨cid.toNat, by omega⟩
   have hnn : nn < I.ends.length := by omega
   have hfl := ok.fl
   obtain ⟨pa, qa, he⟩ : ∃ pa qa, I.ends[nn]? = some (pa, qa) := ⟨_, _, List.getElem?_eq_getElem hnn⟩
   obtain ⟨hpl, hql, hpq⟩ := ok.en _ (List.mem_of_getElem? he)
   dsimp only at hpl hql hpq
   obtain ⟨xf, hxf⟩ : ∃ xf, I.free[nn]? = some xf := ⟨_, List.getElem?_eq_getElem (by omega)⟩
   obtain ⟨xp, hxp⟩ : ∃ xp, I.has[pa]? = some xp := ⟨_, List.getElem?_eq_getElem (by omega)⟩
   obtain ⟨xq, hxq⟩ : ∃ xq, I.has[qa]? = some xq := ⟨_, List.getElem?_eq_getElem (by omega)⟩
   have hsm := ok.sums
   have hx1 := sumI_one _ _ _ ok.hu hxp
   have hx2 := sumI_one _ _ _ ok.hu hxq
   have hx3 := sumF_one ok.fu hxf
   by_cases ht3 : ((I.ends.length : Nat) : Int) ≤ ((nn : Nat) : Int)
   ·
    skip
    refine l_do F rfl rfl (op_pure F (v0 := .bool (decide (((nn : Nat) : Int) ≥ ((I.ends.length : Nat) : Int)))) (v := .bool true) (by kernel_rfl) (geqT ht3) fun a F => ?_)
    refine l_pure 2 (fun L => (12, .bool true) :: (23, .bool true) :: L) F (by kernel_rfl) fun a F => ?_
    refine l_then ?_
    refine c_t F rfl ?_
    refine s_reg ?_
    refine l_pure 1 (fun L => (4, .int .i64 6) :: L) F (by kernel_rfl) fun a F => ?_
    refine l_then ?_
    refine wp_ret ?_
    refine inb_r (then_r (?_))
    exact fin F [.tmp 4] [.int .i64 6] rfl ⟨by kernel_rfl, trivial⟩ (.int .i64 6) rfl ⟨by rw [close_none (by omega)], by rw [close_none (by omega)]; exact (id_shut hps (by simp) (by simp) (by simp) (S.pick [0, 1, 2, 3, 4, 5, 6] (by decide)))⟩
   ·
    skip
    refine l_do F rfl rfl (op_pure F (v0 := .bool (decide (((nn : Nat) : Int) ≥ ((I.ends.length : Nat) : Int)))) (v := .bool false) (by kernel_rfl) (geqF ht3) fun a F => ?_)
    refine l_pure 2 (fun L => (12, .bool false) :: (23, .bool false) :: L) F (by kernel_rfl) fun a F => ?_
    refine l_then ?_
    refine c_f F rfl ?_
    refine wp_skip ?_
    refine inb_n ?_
    refine then_n ?_
    refine wp_seq ?_
    refine s_reg ?_
    refine l_pure 3 (fun L => (26, .pointer (some ⟨b, 2, none⟩)) :: (25, .pointer (some ⟨b, 0, none⟩)) :: (24, .pointer (some ⟨b, 0, none⟩)) :: L) F (by kernel_rfl) fun a F => ?_
    refine l_do F rfl rfl (op_load _ _ (some ⟨b, 0, none⟩) 2 (.map (some r)) F rfl (by kernel_rfl) (by kernel_rfl) (cBox S 1 rfl (j := 2) rfl) (fun a F => ?_))
    refine l_do F rfl rfl (op_range S 5 _ 23 66 _ F rfl rfl (by kernel_rfl) (by kernel_rfl) fun b4 z S a F => ?_)
    refine l_then ?_
    refine wp_block ?_
    refine wp_loop_m (fun m a z => ∃ (seen : List Nat), m = ps.length - seen.length ∧ (SeenOk ps seen) ∧ (NotOver ps seen nn) ∧ Fr a 80 [(0, .pointer (some ⟨b, 0, none⟩)), (1, .int .i64 (nn : Nat)), (28, .pointer (some ⟨b4, 0, none⟩))] ∧ Sat w z [rest w G, box b 61 [.slice Ae I.ends.length ce, .slice Af I.free.length cf, .map (some r), .slice Ah I.has.length ch], rEl Ae ce I.ends, rFl Af cf I.free, rUl Ah ch I.has, mapA r .u64 (ps.map entM) ck, bag (ps.flatMap payRows), iterA b4 r ck seen ck]) _ ⟨([] : List Nat), rfl, (seen_nil ps), (notOver_nil ps nn), F.sub ⟨by kernel_rfl, by kernel_rfl, by kernel_rfl, trivial⟩, S⟩ ?_
    rintro m a z ⟨seen, hm, hf5, hf6, F, S⟩
    have hse := hf5
    have hno := hf6
    refine s_reg ?_
    refine l_do F rfl rfl (op_next S 7 5 _ F rfl rfl rfl (by kernel_rfl) (ent_old hps) (Nat.le_refl _) ?_ ?_)
    ·
     intro hend a F
     refine l_pure 1 (fun L => (30, .bool false) :: L) F (by kernel_rfl) fun a F => ?_
     refine l_then ?_
     refine wp_seq ?_
     refine c_f F rfl ?_
     refine wp_exit ?_
     refine then_x ?_
     refine then_x ?_
     refine inb_x ?_
     refine then_n ?_
     refine wp_seq ?_
     refine s_reg ?_
     refine l_pure 3 (fun L => (44, .pointer (some ⟨b, 0, none⟩)) :: (43, .pointer (some ⟨b, 0, none⟩)) :: (42, .pointer (some ⟨b, 0, none⟩)) :: L) F (by kernel_rfl) fun a F => ?_
     refine l_do F rfl rfl (op_load _ _ (some ⟨b, 0, none⟩) 0 (.slice Ae I.ends.length ce) F rfl (by kernel_rfl) (by kernel_rfl) (cBox S 1 rfl (j := 0) rfl) (fun a F => ?_))
     refine l_pure 1 (fun L => (46, .int .i64 (nn : Nat)) :: L) F (by kernel_rfl) fun a F => ?_
     refine l_do F rfl rfl (op_index _ 63 _ _ Ae I.ends.length ce nn 2 .i64 F rfl (by kernel_rfl) (by kernel_rfl) (by kernel_rfl) (by kernel_rfl) (get_lt he) (row_some S 2 rfl (m := nn) (get_lt he)) (fun a F => ?_))
     refine l_do F rfl rfl (op_loadK _ _ Ae (nn * 2) [.int .i64 (pa : Nat), .int .i64 (qa : Nat)] F rfl (by kernel_rfl) (by kernel_rfl) (by kernel_rfl) (by simp) (cRecK0 S 2 enC_len rfl he (by kernel_rfl)) (fun a F => ?_))
     refine l_pure 1 (fun L => (49, .int .i64 0) :: L) F (by kernel_rfl) fun a F => ?_
     refine l_then ?_
     refine wp_block ?_
     refine wp_loop_rounds 3 (rnd ?_)
     refine s_reg ?_
     refine l_pure 1 (fun L => (50, .bool true) :: L) F (by kernel_rfl) fun a F => ?_
     refine l_then ?_
     refine wp_seq ?_
     refine c_t F rfl ?_
     refine wp_skip ?_
     refine then_n ?_
     refine wp_seq ?_
     refine wp_block ?_
     refine s_reg ?_
     refine l_pure 4 (fun L => (8, .int .i64 (pa : Nat)) :: (7, .int .i64 0) :: (52, .int .i64 (pa : Nat)) :: (51, .int .i64 0) :: L) F (by kernel_rfl) fun a F => ?_
     refine l_then ?_
     refine wp_seq ?_
     have hn7 : Option.isSome Ae = true := (row_some S 2 rfl (m := nn) (get_lt he))
     refine region_gx (fun D => fun (_ : Unit) => [rest w G, box b 61 [.slice Ae I.ends.length ce, .slice Af I.free.length cf, .map (some r), .slice Ah I.has.length ch], rEl Ae ce I.ends, rFl Af cf I.free, bif D 18 then rU Ah I.has.length ch (I.has.set pa (xp + xf.1)) else rUl Ah ch I.has, mapA r .u64 (ps.map entM) ck, bag (ps.flatMap payRows), iterA b4 r ck seen ck]) (fun (_ : Unit) => [.pointer (some ⟨b, 0, none⟩), .pointer (some ⟨b, 0, none⟩), .pointer (some ⟨b, 3, none⟩), .slice Ah I.has.length ch, .int .i64 (pa : Nat), ptrA Ah (pa * 1), .int .u64 xp, .pointer (some ⟨b, 0, none⟩), .pointer (some ⟨b, 0, none⟩), .pointer (some ⟨b, 1, none⟩), .slice Af I.free.length cf, .int .i64 (nn : Nat), .int .i64 0, ptrA Af (nn * 2), ptrA Af (nn * 2), .int .u64 xf.1, .int .u64 (xp + xf.1), ptrA Ah (pa * 1), undef]) [(3, [], [5, 6, 16, 17, 18]), (5, [3], [6, 16, 17, 18]), (6, [3, 5], [16, 17, 18]), (10, [], [13, 14, 15, 16, 17, 18]), (13, [10], [14, 15, 16, 17, 18]), (14, [10, 13], [15, 16, 17, 18]), (15, [10, 13, 14], [16, 17, 18]), (16, [3, 5, 6, 10, 13, 14, 15], [17, 18]), (17, [3, 5, 6, 10, 13, 14, 15, 16], [18]), (18, [3, 5, 6, 10, 13, 14, 15, 16, 17], [])] () rfl (by kernel_rfl) (by kernel_rfl) F S.drew ?_ ?_ ?_ ?_ ?_
     · rintro ⟨⟩; rfl
     · rintro ⟨⟩; kernel_rfl
     ·
      intro D D' x h
      cases x
      simp only [h 18 (by decide)]
     ·
      refine ⟨?_, ?_⟩
      ·
       refine ⟨_, rfl, rfl, by kernel_rfl, ?_⟩
       rintro D ⟨⟩ a z S F
       refine ⟨by kernel_rfl, ?_⟩
       exact op_load _ _ (some ⟨b, 0, none⟩) 3 (.slice Ah I.has.length ch) F rfl (by kernel_rfl) (by kernel_rfl) (cBox S 1 rfl (j := 3) rfl) (⟨(), rfl, (SameB.refl _ _ rfl), S⟩)
      refine ⟨?_, ?_⟩
      ·
       refine ⟨_, rfl, rfl, by kernel_rfl, ?_⟩
       rintro D ⟨⟩ a z S F
       refine ⟨by kernel_rfl, ?_⟩
       exact op_index _ 23 _ _ Ah I.has.length ch pa 1 .i64 F rfl (by kernel_rfl) (by kernel_rfl) (by kernel_rfl) (by kernel_rfl) (get_lt hxp) (row_some S 4 rfl (m := pa) (get_lt hxp)) (⟨(), rfl, (SameB.refl _ _ rfl), S⟩)
      refine ⟨?_, ?_⟩
      ·
       refine ⟨_, rfl, rfl, by kernel_rfl, ?_⟩
       rintro D ⟨⟩ a z S F
       refine ⟨by kernel_rfl, ?_⟩
       exact op_load _ _ Ah (pa * 1) (.int .u64 xp) F rfl (by kernel_rfl) (by kernel_rfl) (cRec S 4 iC_len_u64 rfl 0 hxp rfl) (⟨(), rfl, (SameB.refl _ _ rfl), S⟩)
      refine ⟨?_, ?_⟩
      ·
       refine ⟨_, rfl, rfl, by kernel_rfl, ?_⟩
       rintro D ⟨⟩ a z S F
       refine ⟨by kernel_rfl, ?_⟩
       exact op_load _ _ (some ⟨b, 0, none⟩) 1 (.slice Af I.free.length cf) F rfl (by kernel_rfl) (by kernel_rfl) (cBox S 1 rfl (j := 1) rfl) (⟨(), rfl, (SameB.refl _ _ rfl), S⟩)
      refine ⟨?_, ?_⟩
      ·
       refine ⟨_, rfl, rfl, by kernel_rfl, ?_⟩
       rintro D ⟨⟩ a z S F
       refine ⟨by kernel_rfl, ?_⟩
       exact op_index _ 31 _ _ Af I.free.length cf nn 2 .i64 F rfl (by kernel_rfl) (by kernel_rfl) (by kernel_rfl) (by kernel_rfl) (get_lt hxf) (row_some S 3 rfl (m := nn) (get_lt hxf)) (⟨(), rfl, (SameB.refl _ _ rfl), S⟩)
      refine ⟨?_, ?_⟩
      ·
       refine ⟨_, rfl, rfl, by kernel_rfl, ?_⟩
       rintro D ⟨⟩ a z S F
       refine ⟨by kernel_rfl, ?_⟩
       exact op_indexArr _ 23 _ _ Af (nn * 2) 2 0 1 .i64 F rfl (by kernel_rfl) (by kernel_rfl) (by kernel_rfl) (by kernel_rfl) (by decide) (row_some S 3 rfl (m := nn) (get_lt hxf)) (⟨(), rfl, (SameB.refl _ _ rfl), S⟩)
      refine ⟨?_, ?_⟩
      ·
       refine ⟨_, rfl, rfl, by kernel_rfl, ?_⟩
       rintro D ⟨⟩ a z S F
       refine ⟨by kernel_rfl, ?_⟩
       exact op_load _ _ Af (nn * 2) (.int .u64 xf.1) F rfl (by kernel_rfl) (by kernel_rfl) (cRec S 3 frC_len rfl 0 hxf rfl) (⟨(), rfl, (SameB.refl _ _ rfl), S⟩)
      refine ⟨?_, ?_⟩
      ·
       refine ⟨_, rfl, rfl, by kernel_rfl, ?_⟩
       rintro D ⟨⟩ a z S F
       refine ⟨by kernel_rfl, ?_⟩
       exact op_pure F (v0 := .int .u64 (IntKind.wrap .u64 (xp + xf.1))) (v := .int .u64 (xp + xf.1)) (by kernel_rfl) (wr_u64 (by omega) (by omega)) ⟨(), rfl, (SameB.refl _ _ rfl), S⟩
      refine ⟨?_, ?_⟩
      ·
       refine ⟨_, rfl, rfl, by kernel_rfl, ?_⟩
       rintro D ⟨⟩ a z S F
       refine ⟨by kernel_rfl, ?_⟩
       exact op_index _ 23 _ _ Ah I.has.length ch pa 1 .i64 F rfl (by kernel_rfl) (by kernel_rfl) (by kernel_rfl) (by kernel_rfl) (get_lt hxp) (row_some S 4 rfl (m := pa) (get_lt hxp)) (⟨(), rfl, (SameB.refl _ _ rfl), S⟩)
      refine ⟨?_, ?_⟩
      ·
       refine ⟨_, rfl, rfl, by kernel_rfl, ?_⟩
       rintro D ⟨⟩ a z S F
       refine ⟨by kernel_rfl, ?_⟩
       exact op_storeRec S 4 _ _ _ Ah pa 1 0 (.int .u64 (xp + xf.1)) (xp + xf.1) F iC_len_u64 hxp rfl rfl (by kernel_rfl) (by kernel_rfl) (by kernel_rfl) (by kernel_rfl) (by kernel_rfl) (by kernel_rfl) (by kernel_rfl) fun z S => ⟨(), rfl, (SameB.refl _ _ rfl), S⟩
      trivial
     ·
      rintro ⟨⟩ a z F S
      have F := F.sub (l := [(0, .pointer (some ⟨b, 0, none⟩)), (1, .int .i64 (nn : Nat)), (7, .int .i64 0), (48, .agg #[.int .i64 (pa : Nat), .int .i64 (qa : Nat)]), (49, .int .i64 0)]) ⟨by kernel_rfl, by kernel_rfl, by kernel_rfl, by kernel_rfl, by kernel_rfl, trivial⟩
      have S : Sat w z [rest w G, box b 61 [.slice Ae I.ends.length ce, .slice Af I.free.length cf, .map (some r), .slice Ah I.has.length ch], rEl Ae ce I.ends, rFl Af cf I.free, rU Ah I.has.length ch (I.has.set pa (xp + xf.1)), mapA r .u64 (ps.map entM) ck, bag (ps.flatMap payRows), iterA b4 r ck seen ck] := S
      refine then_n ?_
      refine wp_region_list ?_
      refine l_pure 3 (fun L => (73, .pointer (some ⟨b, 1, none⟩)) :: (72, .pointer (some ⟨b, 0, none⟩)) :: (71, .pointer (some ⟨b, 0, none⟩)) :: L) F (by kernel_rfl) fun a F => ?_
      refine l_do F rfl rfl (op_load _ _ (some ⟨b, 0, none⟩) 1 (.slice Af I.free.length cf) F rfl (by kernel_rfl) (by kernel_rfl) (cBox S 1 rfl (j := 1) rfl) (fun a F => ?_))
      refine l_pure 2 (fun L => (76, .int .i64 0) :: (75, .int .i64 (nn : Nat)) :: L) F (by kernel_rfl) fun a F => ?_
      refine l_do F rfl rfl (op_index _ 31 _ _ Af I.free.length cf nn 2 .i64 F rfl (by kernel_rfl) (by kernel_rfl) (by kernel_rfl) (by kernel_rfl) (get_lt hxf) (row_some S 3 rfl (m := nn) (get_lt hxf)) (fun a F => ?_))
      refine l_do F rfl rfl (op_indexArr _ 23 _ _ Af (nn * 2) 2 0 1 .i64 F rfl (by kernel_rfl) (by kernel_rfl) (by kernel_rfl) (by kernel_rfl) (by decide) (row_some S 3 rfl (m := nn) (get_lt hxf)) (fun a F => ?_))
      refine l_do F rfl rfl (op_storeRec S 3 _ _ _ Af nn 2 0 (.int .u64 0) ((0, xf.2) : Int × Int) F frC_len hxf rfl rfl (by kernel_rfl) (by kernel_rfl) (by kernel_rfl) (by kernel_rfl) (by kernel_rfl) (by kernel_rfl) (by kernel_rfl) fun z S a F => ?_)
      refine l_nil (inb_n ?_)
      refine then_n ?_
      refine wp_region_list ?_
      refine l_pure 2 (fun L => (49, .int .i64 1) :: (79, .int .i64 1) :: L) F (by kernel_rfl) fun a F => ?_
      refine l_then ?_
      refine rnd ?_
      refine s_reg ?_
      refine l_pure 1 (fun L => (50, .bool true) :: L) F (by kernel_rfl) fun a F => ?_
      refine l_then ?_
      refine wp_seq ?_
      refine c_t F rfl ?_
      refine wp_skip ?_
      refine then_n ?_
      refine wp_seq ?_
      refine wp_block ?_
      refine s_reg ?_
      refine l_pure 4 (fun L => (8, .int .i64 (qa : Nat)) :: (7, .int .i64 1) :: (52, .int .i64 (qa : Nat)) :: (51, .int .i64 1) :: L) F (by kernel_rfl) fun a F => ?_
      refine l_then ?_
      refine wp_seq ?_
      have hn8 : Option.isSome Af = true := (row_some S 3 rfl (m := nn) (by have h9 := get_lt (set_at (y := ((0, xf.2) : Int × Int)) hxf); (try simp only [List.length_set] at h9); omega))
      refine region_gx (fun D => fun (_ : Unit) => [rest w G, box b 61 [.slice Ae I.ends.length ce, .slice Af I.free.length cf, .map (some r), .slice Ah I.has.length ch], rEl Ae ce I.ends, rF Af I.free.length cf (I.free.set nn ((0, xf.2) : Int × Int)), bif D 18 then rU Ah I.has.length ch ((I.has.set pa (xp + xf.1)).set qa (xq + xf.2)) else rU Ah I.has.length ch (I.has.set pa (xp + xf.1)), mapA r .u64 (ps.map entM) ck, bag (ps.flatMap payRows), iterA b4 r ck seen ck]) (fun (_ : Unit) => [.pointer (some ⟨b, 0, none⟩), .pointer (some ⟨b, 0, none⟩), .pointer (some ⟨b, 3, none⟩), .slice Ah I.has.length ch, .int .i64 (qa : Nat), ptrA Ah (qa * 1), .int .u64 xq, .pointer (some ⟨b, 0, none⟩), .pointer (some ⟨b, 0, none⟩), .pointer (some ⟨b, 1, none⟩), .slice Af I.free.length cf, .int .i64 (nn : Nat), .int .i64 1, ptrA Af (nn * 2), ptrA Af (nn * 2 + 1), .int .u64 xf.2, .int .u64 (xq + xf.2), ptrA Ah (qa * 1), undef]) [(3, [], [5, 6, 16, 17, 18]), (5, [3], [6, 16, 17, 18]), (6, [3, 5], [16, 17, 18]), (10, [], [13, 14, 15, 16, 17, 18]), (13, [10], [14, 15, 16, 17, 18]), (14, [10, 13], [15, 16, 17, 18]), (15, [10, 13, 14], [16, 17, 18]), (16, [3, 5, 6, 10, 13, 14, 15], [17, 18]), (17, [3, 5, 6, 10, 13, 14, 15, 16], [18]), (18, [3, 5, 6, 10, 13, 14, 15, 16, 17], [])] () rfl (by kernel_rfl) (by kernel_rfl) F S.drew ?_ ?_ ?_ ?_ ?_
      · rintro ⟨⟩; rfl
      · rintro ⟨⟩; kernel_rfl
      ·
       intro D D' x h
       cases x
       simp only [h 18 (by decide)]
      ·
       refine ⟨?_, ?_⟩
       ·
        refine ⟨_, rfl, rfl, by kernel_rfl, ?_⟩
        rintro D ⟨⟩ a z S F
        refine ⟨by kernel_rfl, ?_⟩
        exact op_load _ _ (some ⟨b, 0, none⟩) 3 (.slice Ah I.has.length ch) F rfl (by kernel_rfl) (by kernel_rfl) (cBox S 1 rfl (j := 3) rfl) (⟨(), rfl, (SameB.refl _ _ rfl), S⟩)
       refine ⟨?_, ?_⟩
       ·
        refine ⟨_, rfl, rfl, by kernel_rfl, ?_⟩
        rintro D ⟨⟩ a z S F
        refine ⟨by kernel_rfl, ?_⟩
        exact op_index _ 23 _ _ Ah I.has.length ch qa 1 .i64 F rfl (by kernel_rfl) (by kernel_rfl) (by kernel_rfl) (by kernel_rfl) (by have h9 := get_lt (set_ne_at (m := pa) (y := (xp + xf.1)) hxq (by omega)); (try simp only [List.length_set] at h9); omega) (row_some S 4 rfl (m := qa) (by have h9 := get_lt (set_ne_at (m := pa) (y := (xp + xf.1)) hxq (by omega)); (try simp only [List.length_set] at h9); omega)) (⟨(), rfl, (SameB.refl _ _ rfl), S⟩)
       refine ⟨?_, ?_⟩
       ·
        refine ⟨_, rfl, rfl, by kernel_rfl, ?_⟩
        rintro D ⟨⟩ a z S F
        refine ⟨by kernel_rfl, ?_⟩
        exact op_load _ _ Ah (qa * 1) (.int .u64 xq) F rfl (by kernel_rfl) (by kernel_rfl) (cRec S 4 iC_len_u64 rfl 0 (set_ne_at (m := pa) (y := (xp + xf.1)) hxq (by omega)) rfl) (⟨(), rfl, (SameB.refl _ _ rfl), S⟩)
       refine ⟨?_, ?_⟩
       ·
        refine ⟨_, rfl, rfl, by kernel_rfl, ?_⟩
        rintro D ⟨⟩ a z S F
        refine ⟨by kernel_rfl, ?_⟩
        exact op_load _ _ (some ⟨b, 0, none⟩) 1 (.slice Af I.free.length cf) F rfl (by kernel_rfl) (by kernel_rfl) (cBox S 1 rfl (j := 1) rfl) (⟨(), rfl, (SameB.refl _ _ rfl), S⟩)
       refine ⟨?_, ?_⟩
       ·
        refine ⟨_, rfl, rfl, by kernel_rfl, ?_⟩
        rintro D ⟨⟩ a z S F
        refine ⟨by kernel_rfl, ?_⟩
        exact op_index _ 31 _ _ Af I.free.length cf nn 2 .i64 F rfl (by kernel_rfl) (by kernel_rfl) (by kernel_rfl) (by kernel_rfl) (by have h9 := get_lt (set_at (y := ((0, xf.2) : Int × Int)) hxf); (try simp only [List.length_set] at h9); omega) hn8 (⟨(), rfl, (SameB.refl _ _ rfl), S⟩)
       refine ⟨?_, ?_⟩
       ·
        refine ⟨_, rfl, rfl, by kernel_rfl, ?_⟩
        rintro D ⟨⟩ a z S F
        refine ⟨by kernel_rfl, ?_⟩
        exact op_indexArr _ 23 _ _ Af (nn * 2) 2 1 1 .i64 F rfl (by kernel_rfl) (by kernel_rfl) (by kernel_rfl) (by kernel_rfl) (by decide) hn8 (⟨(), rfl, (SameB.refl _ _ rfl), S⟩)
       refine ⟨?_, ?_⟩
       ·
        refine ⟨_, rfl, rfl, by kernel_rfl, ?_⟩
        rintro D ⟨⟩ a z S F
        refine ⟨by kernel_rfl, ?_⟩
        exact op_load _ _ Af (nn * 2 + 1) (.int .u64 xf.2) F rfl (by kernel_rfl) (by kernel_rfl) (cRec S 3 frC_len rfl 1 (set_at (y := ((0, xf.2) : Int × Int)) hxf) rfl) (⟨(), rfl, (SameB.refl _ _ rfl), S⟩)
       refine ⟨?_, ?_⟩
       ·
        refine ⟨_, rfl, rfl, by kernel_rfl, ?_⟩
        rintro D ⟨⟩ a z S F
        refine ⟨by kernel_rfl, ?_⟩
        exact op_pure F (v0 := .int .u64 (IntKind.wrap .u64 (xq + xf.2))) (v := .int .u64 (xq + xf.2)) (by kernel_rfl) (wr_u64 (by omega) (by omega)) ⟨(), rfl, (SameB.refl _ _ rfl), S⟩
       refine ⟨?_, ?_⟩
       ·
        refine ⟨_, rfl, rfl, by kernel_rfl, ?_⟩
        rintro D ⟨⟩ a z S F
        refine ⟨by kernel_rfl, ?_⟩
        exact op_index _ 23 _ _ Ah I.has.length ch qa 1 .i64 F rfl (by kernel_rfl) (by kernel_rfl) (by kernel_rfl) (by kernel_rfl) (by have h9 := get_lt (set_ne_at (m := pa) (y := (xp + xf.1)) hxq (by omega)); (try simp only [List.length_set] at h9); omega) (row_some S 4 rfl (m := qa) (by have h9 := get_lt (set_ne_at (m := pa) (y := (xp + xf.1)) hxq (by omega)); (try simp only [List.length_set] at h9); omega)) (⟨(), rfl, (SameB.refl _ _ rfl), S⟩)
       refine ⟨?_, ?_⟩
       ·
        refine ⟨_, rfl, rfl, by kernel_rfl, ?_⟩
        rintro D ⟨⟩ a z S F
        refine ⟨by kernel_rfl, ?_⟩
        exact op_storeRec S 4 _ _ _ Ah qa 1 0 (.int .u64 (xq + xf.2)) (xq + xf.2) F iC_len_u64 (set_ne_at (m := pa) (y := (xp + xf.1)) hxq (by omega)) rfl rfl (by kernel_rfl) (by kernel_rfl) (by kernel_rfl) (by kernel_rfl) (by kernel_rfl) (by kernel_rfl) (by kernel_rfl) fun z S => ⟨(), rfl, (SameB.refl _ _ rfl), S⟩
       trivial
      ·
       rintro ⟨⟩ a z F S
       have F := F.sub (l := [(0, .pointer (some ⟨b, 0, none⟩)), (1, .int .i64 (nn : Nat)), (7, .int .i64 1), (48, .agg #[.int .i64 (pa : Nat), .int .i64 (qa : Nat)]), (49, .int .i64 1)]) ⟨by kernel_rfl, by kernel_rfl, by kernel_rfl, by kernel_rfl, by kernel_rfl, trivial⟩
       have S : Sat w z [rest w G, box b 61 [.slice Ae I.ends.length ce, .slice Af I.free.length cf, .map (some r), .slice Ah I.has.length ch], rEl Ae ce I.ends, rF Af I.free.length cf (I.free.set nn ((0, xf.2) : Int × Int)), rU Ah I.has.length ch ((I.has.set pa (xp + xf.1)).set qa (xq + xf.2)), mapA r .u64 (ps.map entM) ck, bag (ps.flatMap payRows), iterA b4 r ck seen ck] := S
       refine then_n ?_
       refine wp_region_list ?_
       refine l_pure 3 (fun L => (73, .pointer (some ⟨b, 1, none⟩)) :: (72, .pointer (some ⟨b, 0, none⟩)) :: (71, .pointer (some ⟨b, 0, none⟩)) :: L) F (by kernel_rfl) fun a F => ?_
       refine l_do F rfl rfl (op_load _ _ (some ⟨b, 0, none⟩) 1 (.slice Af I.free.length cf) F rfl (by kernel_rfl) (by kernel_rfl) (cBox S 1 rfl (j := 1) rfl) (fun a F => ?_))
       refine l_pure 2 (fun L => (76, .int .i64 1) :: (75, .int .i64 (nn : Nat)) :: L) F (by kernel_rfl) fun a F => ?_
       refine l_do F rfl rfl (op_index _ 31 _ _ Af I.free.length cf nn 2 .i64 F rfl (by kernel_rfl) (by kernel_rfl) (by kernel_rfl) (by kernel_rfl) (by have h9 := get_lt (set_at (y := ((0, xf.2) : Int × Int)) hxf); (try simp only [List.length_set] at h9); omega) hn8 (fun a F => ?_))
       refine l_do F rfl rfl (op_indexArr _ 23 _ _ Af (nn * 2) 2 1 1 .i64 F rfl (by kernel_rfl) (by kernel_rfl) (by kernel_rfl) (by kernel_rfl) (by decide) hn8 (fun a F => ?_))
       refine l_do F rfl rfl (op_storeRec S 3 _ _ _ Af nn 2 1 (.int .u64 0) ((0, 0) : Int × Int) F frC_len (set_at (y := ((0, xf.2) : Int × Int)) hxf) rfl rfl (by kernel_rfl) (by kernel_rfl) (by kernel_rfl) (by kernel_rfl) (by kernel_rfl) (by kernel_rfl) (by kernel_rfl) fun z S a F => ?_)
       refine l_nil (inb_n ?_)
       refine then_n ?_
       refine wp_region_list ?_
       refine l_pure 2 (fun L => (49, .int .i64 2) :: (79, .int .i64 2) :: L) F (by kernel_rfl) fun a F => ?_
       refine l_then ?_
       refine rnd ?_
       refine s_reg ?_
       refine l_pure 1 (fun L => (50, .bool false) :: L) F (by kernel_rfl) fun a F => ?_
       refine l_then ?_
       refine wp_seq ?_
       refine c_f F rfl ?_
       refine wp_exit ?_
       refine then_x ?_
       refine then_x ?_
       refine inb_x ?_
       refine then_n ?_
       refine s_reg ?_
       refine l_pure 1 (fun L => (4, .int .i64 0) :: L) F (by kernel_rfl) fun a F => ?_
       refine l_then ?_
       refine wp_ret ?_
       rw [List.set_set] at S
       exact fin F [.tmp 4] [.int .i64 0] rfl ⟨by kernel_rfl, trivial⟩ (.int .i64 0) rfl ⟨by rw [close_ok he hxf hxp hxq (over_no hps hno hend)], by rw [close_ok he hxf hxp hxq (over_no hps hno hend)]; exact (id_shut hps (by simp) (by simp) (by simp) (S.pick [0, 1, 2, 3, 4, 5, 6] (by decide)))⟩
    ·
     rintro e9 he9 hq9 z S a F
     obtain ⟨mp, hmp, rfl⟩ := List.mem_map.1 he9
     have hq9 : mp.st ∉ seen := hq9
     obtain ⟨hst, hll, hlg⟩ := ok.lg mp.p (pay_in hps hmp)
     obtain ⟨hl1, hl2, hl3⟩ := legs_len mp.p.legs
     have S : Sat w z [rest w G, box b 61 [.slice Ae I.ends.length ce, .slice Af I.free.length cf, .map (some r), .slice Ah I.has.length ch], rEl Ae ce I.ends, rFl Af cf I.free, rUl Ah ch I.has, mapA r .u64 (ps.map entM) ck, bag (ps.flatMap payRows), iterA b4 r ck (seen ++ [(entM mp).2.2]) ck] := S
     refine l_pure 1 (fun L => (30, .bool true) :: L) F (by kernel_rfl) fun a F => ?_
     refine l_then ?_
     refine wp_seq ?_
     refine c_t F rfl ?_
     refine wp_skip ?_
     refine then_n ?_
     refine wp_block ?_
     refine s_reg ?_
     refine l_do F rfl rfl (op_entry (e := (entM mp)) S 7 5 _ F rfl rfl rfl (by kernel_rfl) (List.mem_map_of_mem hmp) (ent_nd hps) (fun a F => ?_))
     refine l_pure 1 (fun L => (32, .agg #[.int .i64 mp.p.state, .slice mp.A1 ((edgesL mp.p.legs).length) mp.c1, .slice mp.A2 ((sidesL mp.p.legs).length) mp.c2, .slice mp.A3 ((amsL mp.p.legs).length) mp.c3]) :: L) F (by kernel_rfl) fun a F => ?_
     refine l_do F rfl rfl (op_alloc S _ (.agg #[.int .i64 0, .slice none 0 0, .slice none 0 0, .slice none 0 0]) rfl (by kernel_rfl) fun b9 z S a F => ?_)
     refine l_do F rfl rfl (op_storeB S 8 _ _ _ b9 0 (.agg #[.int .i64 mp.p.state, .slice mp.A1 ((edgesL mp.p.legs).length) mp.c1, .slice mp.A2 ((sidesL mp.p.legs).length) mp.c2, .slice mp.A3 ((amsL mp.p.legs).length) mp.c3]) F rfl rfl (by kernel_rfl) (by kernel_rfl) (by kernel_rfl) (by kernel_rfl) (by kernel_rfl) fun z S a F => ?_)
     refine l_then ?_
     refine s_reg ?_
     refine l_pure 1 (fun L => (33, .pointer (some ⟨b9, 0, none⟩)) :: L) F (by kernel_rfl) fun a F => ?_
     refine l_do F rfl rfl (op_load _ _ (some ⟨b9, 0, none⟩) 0 (.int .i64 mp.p.state) F rfl (by kernel_rfl) (by kernel_rfl) (cBox S 8 rfl (j := 0) rfl) (fun a F => ?_))
     by_cases ht10 : (mp.p.state : Int) = (0 : Int)
     ·
      skip
      have hs0 := ht10
      refine l_do F rfl rfl (op_pure F (v0 := .bool ((mp.p.state : Int) == (0 : Int))) (v := .bool true) (by kernel_rfl) (eqlT ht10) fun a F => ?_)
      refine l_pure 2 (fun L => (37, .pointer (some ⟨b9, 1, none⟩)) :: (36, .bool true) :: L) F (by kernel_rfl) fun a F => ?_
      refine l_do F rfl rfl (op_load _ _ (some ⟨b9, 0, none⟩) 1 (.slice mp.A1 ((edgesL mp.p.legs).length) mp.c1) F rfl (by kernel_rfl) (by kernel_rfl) (cBox S 8 rfl (j := 1) rfl) (fun a F => ?_))
      refine l_pure 1 (fun L => (39, .int .i64 (nn : Nat)) :: L) F (by kernel_rfl) fun a F => ?_
      cases hb11 : (decide (((nn : Nat) : Int) ∈ edgesL mp.p.legs)) with
      | false =>
       refine l_do F rfl rfl (op_fn F (by kernel_rfl) (contains24_any _ mp.A1 mp.c1 _ (pay_edges S 6 rfl hmp (by omega)) (by omega) (nn : Nat)) ?_)
       rintro e z ⟨rfl, hb⟩
       have S := S.grow hb
       refine ⟨_, rfl, ?_⟩
       rw [hb11]
       intro a F
       refine l_pure 1 (fun L => (41, .bool false) :: L) F (by kernel_rfl) fun a F => ?_
       refine l_then ?_
       refine c_f F rfl ?_
       refine wp_skip ?_
       refine inb_n ?_
       refine then_n ?_
       have S : Sat w z [rest w G, box b 61 [.slice Ae I.ends.length ce, .slice Af I.free.length cf, .map (some r), .slice Ah I.has.length ch], rEl Ae ce I.ends, rFl Af cf I.free, rUl Ah ch I.has, mapA r .u64 (ps.map entM) ck, bag (ps.flatMap payRows), iterA b4 r ck (seen ++ [mp.st]) ck, box b9 66 [.int .i64 mp.p.state, .slice mp.A1 ((edgesL mp.p.legs).length) mp.c1, .slice mp.A2 ((sidesL mp.p.legs).length) mp.c2, .slice mp.A3 ((amsL mp.p.legs).length) mp.c3]] := S
       exact ⟨_, (by have h9 := seen_lt hse hmp hq9; omega), (seen ++ [mp.st]), rfl, (seen_more hse hmp hq9), (notOver_more hno hps.nd hmp (fun h9 => of_decide_eq_false hb11 h9.2)), F.sub ⟨by kernel_rfl, by kernel_rfl, by kernel_rfl, trivial⟩, (S.pick [0, 1, 2, 3, 4, 5, 6, 7] (by decide))⟩
      | true =>
       refine l_do F rfl rfl (op_fn F (by kernel_rfl) (contains24_any _ mp.A1 mp.c1 _ (pay_edges S 6 rfl hmp (by omega)) (by omega) (nn : Nat)) ?_)
       rintro e z ⟨rfl, hb⟩
       have S := S.grow hb
       refine ⟨_, rfl, ?_⟩
       rw [hb11]
       intro a F
       refine l_pure 1 (fun L => (41, .bool true) :: L) F (by kernel_rfl) fun a F => ?_
       refine l_then ?_
       refine c_t F rfl ?_
       refine s_reg ?_
       refine l_pure 1 (fun L => (4, .int .i64 3) :: L) F (by kernel_rfl) fun a F => ?_
       refine l_then ?_
       refine wp_ret ?_
       refine inb_r (then_r (inb_r (then_r (?_))))
       exact fin F [.tmp 4] [.int .i64 3] rfl ⟨by kernel_rfl, trivial⟩ (.int .i64 3) rfl ⟨by rw [close_state hnn (over_yes hps hmp hs0 (of_decide_eq_true hb11))], by rw [close_state hnn (over_yes hps hmp hs0 (of_decide_eq_true hb11))]; exact (id_shut hps (by simp) (by simp) (by simp) (S.pick [0, 1, 2, 3, 4, 5, 6] (by decide)))⟩
     ·
      skip
      have hs0 := ht10
      refine l_do F rfl rfl (op_pure F (v0 := .bool ((mp.p.state : Int) == (0 : Int))) (v := .bool false) (by kernel_rfl) (eqlF ht10) fun a F => ?_)
      refine l_pure 6 (fun L => (41, .bool false) :: (40, undef) :: (39, undef) :: (38, undef) :: (37, undef) :: (36, .bool false) :: L) F (by kernel_rfl) fun a F => ?_
      refine l_then ?_
      refine c_f F rfl ?_
      refine wp_skip ?_
      refine inb_n ?_
      refine then_n ?_
      have S : Sat w z [rest w G, box b 61 [.slice Ae I.ends.length ce, .slice Af I.free.length cf, .map (some r), .slice Ah I.has.length ch], rEl Ae ce I.ends, rFl Af cf I.free, rUl Ah ch I.has, mapA r .u64 (ps.map entM) ck, bag (ps.flatMap payRows), iterA b4 r ck (seen ++ [mp.st]) ck, box b9 66 [.int .i64 mp.p.state, .slice mp.A1 ((edgesL mp.p.legs).length) mp.c1, .slice mp.A2 ((sidesL mp.p.legs).length) mp.c2, .slice mp.A3 ((amsL mp.p.legs).length) mp.c3]] := S
      exact ⟨_, (by have h9 := seen_lt hse hmp hq9; omega), (seen ++ [mp.st]), rfl, (seen_more hse hmp hq9), (notOver_more hno hps.nd hmp (fun h9 => ht10 h9.1)), F.sub ⟨by kernel_rfl, by kernel_rfl, by kernel_rfl, trivial⟩, (S.pick [0, 1, 2, 3, 4, 5, 6, 7] (by decide))⟩
end Go.Proofs.Ytecgpkjigbhneaa
