/- Walks over the program's ideal: a payment ends; a new ideal. -/
import Derived.Test.YtecgpkjigbhneaaIdl3
namespace Go.Proofs.Ytecgpkjigbhneaa
set_option linter.unusedVariables false
set_option linter.unusedSimpArgs false
set_option linter.unnecessarySimpa false
open Go Go.RowKit

set_option maxRecDepth 100000 in
set_option maxHeartbeats 4000000 in
theorem end24_any (w : World) (G : Nat → Prop) (b : Nat) (I : Idl) (ok : IOk I) (hS : Sat w w [idA b I, rest w G]) (cid : Int) (paid : Bool) : Calls Try.prog 13 #[.pointer (some ⟨b, 0, none⟩), .int .u64 cid, .bool paid] w fun e w' => e = .returned (.int .i64 (endP I cid paid).2) ∧ Sat w w' [idA b (endP I cid paid).1, rest w G] := by
 refine enter 73 Try.func13 rfl rfl rfl fun a F => ?_
 obtain ⟨Ae, ce, Af, cf, Ah, ch, r, ck, ps, hps, S⟩ := id_open hS
 have hfl := ok.fl
 have hel := ok.el
 have hsm := ok.sums
 refine s_reg ?_
 refine l_pure 1 (fun L => (6, .int .i64 0) :: L) F (by kernel_rfl) fun a F => ?_
 refine l_then ?_
 refine wp_seq ?_
 refine s_reg ?_
 refine l_pure 2 (fun L => (13, .bool false) :: (12, .pointer (some ⟨b, 0, none⟩)) :: L) F (by kernel_rfl) fun a F => ?_
 refine l_then ?_
 refine c_f F rfl ?_
 refine wp_skip ?_
 refine then_n ?_
 refine s_reg ?_
 refine l_pure 3 (fun L => (17, .pointer (some ⟨b, 2, none⟩)) :: (16, .pointer (some ⟨b, 0, none⟩)) :: (15, .pointer (some ⟨b, 0, none⟩)) :: L) F (by kernel_rfl) fun a F => ?_
 refine l_do F rfl rfl (op_load _ _ (some ⟨b, 0, none⟩) 2 (.map (some r)) F rfl (by kernel_rfl) (by kernel_rfl) (cBox S 1 rfl (j := 2) rfl) (fun a F => ?_))
 refine l_pure 1 (fun L => (19, .int .u64 cid) :: L) F (by kernel_rfl) fun a F => ?_
 rcases look_cases hps cid with ⟨hf, hg⟩ | ⟨im, mp, hf, hmp, hlm, hid, hg⟩
 ·
  skip
  refine l_do F rfl rfl (op_lookup S 5 _ 23 66 _ _ true (.agg #[.int .i64 0, .slice none 0 0, .slice none 0 0, .slice none 0 0]) .u64 .u64 cid (.tuple #[.agg #[.int .i64 0, .slice none 0 0, .slice none 0 0, .slice none 0 0], .bool false]) F rfl rfl (by kernel_rfl) (by kernel_rfl) (by kernel_rfl) (by kernel_rfl) (by kernel_rfl) (by rw [hg]; rfl) (fun a F => ?_))
  refine l_pure 3 (fun L => (22, .bool false) :: (21, .agg #[.int .i64 0, .slice none 0 0, .slice none 0 0, .slice none 0 0]) :: (14, .tuple #[.agg #[.int .i64 0, .slice none 0 0, .slice none 0 0, .slice none 0 0], .bool false]) :: L) F (by kernel_rfl) fun a F => ?_
  refine l_do F rfl rfl (op_alloc S _ (.agg #[.int .i64 0, .slice none 0 0, .slice none 0 0, .slice none 0 0]) rfl (by kernel_rfl) fun b1 z S a F => ?_)
  refine l_do F rfl rfl (op_storeB S 7 _ _ _ b1 0 (.agg #[.int .i64 0, .slice none 0 0, .slice none 0 0, .slice none 0 0]) F rfl rfl (by kernel_rfl) (by kernel_rfl) (by kernel_rfl) (by kernel_rfl) (by kernel_rfl) fun z S a F => ?_)
  refine l_pure 1 (fun L => (8, .bool false) :: L) F (by kernel_rfl) fun a F => ?_
  refine l_then ?_
  refine wp_seq ?_
  refine wp_block ?_
  refine s_reg ?_
  refine l_pure 3 (fun L => (23, .bool true) :: (25, .bool true) :: (24, .bool false) :: L) F (by kernel_rfl) fun a F => ?_
  refine l_then ?_
  refine c_t F rfl ?_
  refine s_reg ?_
  refine l_pure 1 (fun L => (6, .int .i64 6) :: L) F (by kernel_rfl) fun a F => ?_
  refine l_then ?_
  refine wp_ret ?_
  refine inb_r (then_r (?_))
  exact fin F [.tmp 6] [.int .i64 6] rfl ⟨by kernel_rfl, trivial⟩ (.int .i64 6) rfl ⟨by rw [end_none hf], by rw [end_none hf]; exact (id_shut hps (by simp) (by simp) (by simp) (S.pick [0, 1, 2, 3, 4, 5, 6] (by decide)))⟩
 ·
  skip
  obtain ⟨hst, hll, hlg⟩ := ok.lg mp.p (List.mem_of_getElem? hlm)
  obtain ⟨hl1, hl2, hl3⟩ := legs_len mp.p.legs
  have hheld : heldOf mp.p ≤ heldP I.pays := (sumI_one _ im _ (fun a9 ha9 => by rw [List.mem_map] at ha9; obtain ⟨p9, hp9, rfl⟩ := ha9; exact heldOf_nn ok hp9) (by rw [List.getElem?_map, hlm]; rfl)).2
  refine l_do F rfl rfl (op_lookup S 5 _ 23 66 _ _ true (.agg #[.int .i64 0, .slice none 0 0, .slice none 0 0, .slice none 0 0]) .u64 .u64 cid (.tuple #[.agg #[.int .i64 mp.p.state, .slice mp.A1 ((edgesL mp.p.legs).length) mp.c1, .slice mp.A2 ((sidesL mp.p.legs).length) mp.c2, .slice mp.A3 ((amsL mp.p.legs).length) mp.c3], .bool true]) F rfl rfl (by kernel_rfl) (by kernel_rfl) (by kernel_rfl) (by kernel_rfl) (by kernel_rfl) (by rw [hg]; rfl) (fun a F => ?_))
  refine l_pure 3 (fun L => (22, .bool true) :: (21, .agg #[.int .i64 mp.p.state, .slice mp.A1 ((edgesL mp.p.legs).length) mp.c1, .slice mp.A2 ((sidesL mp.p.legs).length) mp.c2, .slice mp.A3 ((amsL mp.p.legs).length) mp.c3]) :: (14, .tuple #[.agg #[.int .i64 mp.p.state, .slice mp.A1 ((edgesL mp.p.legs).length) mp.c1, .slice mp.A2 ((sidesL mp.p.legs).length) mp.c2, .slice mp.A3 ((amsL mp.p.legs).length) mp.c3], .bool true]) :: L) F (by kernel_rfl) fun a F => ?_
  refine l_do F rfl rfl (op_alloc S _ (.agg #[.int .i64 0, .slice none 0 0, .slice none 0 0, .slice none 0 0]) rfl (by kernel_rfl) fun b2 z S a F => ?_)
  refine l_do F rfl rfl (op_storeB S 7 _ _ _ b2 0 (.agg #[.int .i64 mp.p.state, .slice mp.A1 ((edgesL mp.p.legs).length) mp.c1, .slice mp.A2 ((sidesL mp.p.legs).length) mp.c2, .slice mp.A3 ((amsL mp.p.legs).length) mp.c3]) F rfl rfl (by kernel_rfl) (by kernel_rfl) (by kernel_rfl) (by kernel_rfl) (by kernel_rfl) fun z S a F => ?_)
  refine l_pure 1 (fun L => (8, .bool true) :: L) F (by kernel_rfl) fun a F => ?_
  refine l_then ?_
  refine wp_seq ?_
  refine wp_block ?_
  refine s_reg ?_
  refine l_pure 3 (fun L => (23, .bool false) :: (25, .bool false) :: (24, .bool true) :: L) F (by kernel_rfl) fun a F => ?_
  refine l_then ?_
  refine c_f F rfl ?_
  refine s_reg ?_
  refine l_pure 1 (fun L => (27, .pointer (some ⟨b2, 0, none⟩)) :: L) F (by kernel_rfl) fun a F => ?_
  refine l_do F rfl rfl (op_load _ _ (some ⟨b2, 0, none⟩) 0 (.int .i64 mp.p.state) F rfl (by kernel_rfl) (by kernel_rfl) (cBox S 7 rfl (j := 0) rfl) (fun a F => ?_))
  by_cases ht3 : (mp.p.state : Int) = (0 : Int)
  ·
   skip
   have hs0 := ht3
   have hheq : heldOf mp.p = legSum mp.p.legs := if_pos hs0
   refine l_do F rfl rfl (op_pure F (v0 := .bool ((mp.p.state : Int) != (0 : Int))) (v := .bool false) (by kernel_rfl) (neqF ht3) fun a F => ?_)
   refine l_pure 1 (fun L => (26, .bool false) :: L) F (by kernel_rfl) fun a F => ?_
   refine l_then ?_
   refine c_f F rfl ?_
   refine wp_skip ?_
   refine inb_n ?_
   refine then_n ?_
   refine s_reg ?_
   refine l_pure 1 (fun L => (30, .pointer (some ⟨b2, 0, none⟩)) :: L) F (by kernel_rfl) fun a F => ?_
   refine l_do F rfl rfl (op_storeB S 7 _ _ _ b2 0 (.int .i64 2) F rfl rfl (by kernel_rfl) (by kernel_rfl) (by kernel_rfl) (by kernel_rfl) (by kernel_rfl) fun z S a F => ?_)
   refine l_then ?_
   refine wp_seq ?_
   refine s_reg ?_
   refine l_pure 1 (fun L => (31, .bool paid) :: L) F (by kernel_rfl) fun a F => ?_
   refine l_then ?_
   cases paid with
   | false =>
    skip
    refine c_f F rfl ?_
    refine wp_skip ?_
    refine then_n ?_
    refine wp_seq ?_
    refine s_reg ?_
    refine l_pure 1 (fun L => (33, .pointer (some ⟨b2, 1, none⟩)) :: L) F (by kernel_rfl) fun a F => ?_
    refine l_do F rfl rfl (op_load _ _ (some ⟨b2, 0, none⟩) 1 (.slice mp.A1 ((edgesL mp.p.legs).length) mp.c1) F rfl (by kernel_rfl) (by kernel_rfl) (cBox S 7 rfl (j := 1) rfl) (fun a F => ?_))
    refine l_pure 2 (fun L => (36, .int .i64 0) :: (35, .int .i64 ((edgesL mp.p.legs).length : Nat)) :: L) F (by kernel_rfl) fun a F => ?_
    refine l_then ?_
    refine wp_block ?_
    refine wp_loop_m (fun m a z => ∃ (k : Nat) (Fq : List (Int × Int)), m = (edgesL mp.p.legs).length - k ∧ (k ≤ (edgesL mp.p.legs).length) ∧ (Fq.length = I.ends.length) ∧ (∀ f ∈ Fq, 0 ≤ f.1 ∧ 0 ≤ f.2) ∧ (payL false Fq (mp.p.legs.drop k) = payL false I.free mp.p.legs) ∧ (sumF Fq + legSum (mp.p.legs.drop k) = sumF I.free + legSum mp.p.legs) ∧ Fr a 73 [(0, .pointer (some ⟨b, 0, none⟩)), (1, .int .u64 cid), (2, .bool false), (7, .pointer (some ⟨b2, 0, none⟩)), (34, .slice mp.A1 ((edgesL mp.p.legs).length) mp.c1), (35, .int .i64 ((edgesL mp.p.legs).length : Nat)), (36, .int .i64 (k : Nat))] ∧ Sat w z [rest w G, box b 61 [.slice Ae I.ends.length ce, .slice Af I.free.length cf, .map (some r), .slice Ah I.has.length ch], rEl Ae ce I.ends, rF Af I.free.length cf Fq, rUl Ah ch I.has, mapA r .u64 (ps.map entM) ck, bag (ps.flatMap payRows), box b2 66 [.int .i64 2, .slice mp.A1 ((edgesL mp.p.legs).length) mp.c1, .slice mp.A2 ((sidesL mp.p.legs).length) mp.c2, .slice mp.A3 ((amsL mp.p.legs).length) mp.c3]]) _ ⟨0, I.free, rfl, Nat.zero_le _, ok.fl, ok.fu, rfl, rfl, F.sub ⟨by kernel_rfl, by kernel_rfl, by kernel_rfl, by kernel_rfl, by kernel_rfl, by kernel_rfl, by kernel_rfl, trivial⟩, S⟩ ?_
    rintro m a z ⟨k, Fq, hm, hf4, hf5, hf6, hf7, hf8, F, S⟩
    have hFl := hf5
    have hFn := hf6
    have hpl := hf7
    have hSF := hf8
    have hfl9 := ok.fl
    refine s_reg ?_
    by_cases ht9 : ((k : Nat) : Int) < (((edgesL mp.p.legs).length : Nat) : Int)
    ·
     skip
     obtain ⟨⟨ge, gs, ga⟩, hgl⟩ : ∃ l, mp.p.legs[k]? = some l := ⟨_, List.getElem?_eq_getElem (by omega)⟩
     obtain ⟨hce, hcs, hca⟩ := leg_cols hgl
     obtain ⟨hge, hgs2, hga⟩ := hlg _ (List.mem_of_getElem? hgl)
     dsimp only at hge hgs2 hga
     obtain ⟨xg, hxg⟩ : ∃ xg, Fq[ge]? = some xg := ⟨_, List.getElem?_eq_getElem (by omega)⟩
     have hxn := hFn _ (List.mem_of_getElem? hxg)
     have hxs := sumF_one hFn hxg
     have hld := leg_drop hgl
     dsimp only at hld
     have hln := legSum_nn (l := mp.p.legs.drop (k + 1)) (fun x hx => (hlg x (List.mem_of_mem_drop hx)).2.2)
     have hgs : gs = 0 ∨ gs = 1 := by omega
     refine l_do F rfl rfl (op_pure F (v0 := .bool (decide (((k : Nat) : Int) < (((edgesL mp.p.legs).length : Nat) : Int)))) (v := .bool true) (by kernel_rfl) (lssT ht9) fun a F => ?_)
     refine l_then ?_
     refine wp_seq ?_
     refine c_t F rfl ?_
     refine wp_skip ?_
     refine then_n ?_
     refine wp_seq ?_
     refine wp_block ?_
     refine s_reg ?_
     refine l_pure 1 (fun L => (38, .int .i64 (k : Nat)) :: L) F (by kernel_rfl) fun a F => ?_
     refine l_do F rfl rfl (op_index _ 3 _ _ mp.A1 ((edgesL mp.p.legs).length) mp.c1 k 1 .i64 F rfl (by kernel_rfl) (by kernel_rfl) (by kernel_rfl) (by kernel_rfl) (get_lt hce) (recs_some (pay_edges S 6 rfl (List.mem_of_getElem? hmp) (by omega)) (m := k) (get_lt hce)) (fun a F => ?_))
     refine l_do F rfl rfl (op_load _ _ mp.A1 (k * 1) (.int .i64 (ge : Nat)) F rfl (by kernel_rfl) (by kernel_rfl) (recs_cell iC_len_i64 (pay_edges S 6 rfl (List.mem_of_getElem? hmp) (by omega)) 0 hce rfl) (fun a F => ?_))
     refine l_pure 2 (fun L => (10, .int .i64 (ge : Nat)) :: (9, .int .i64 (k : Nat)) :: L) F (by kernel_rfl) fun a F => ?_
     refine l_then ?_
     refine s_reg ?_
     refine l_pure 1 (fun L => (41, .pointer (some ⟨b2, 2, none⟩)) :: L) F (by kernel_rfl) fun a F => ?_
     refine l_do F rfl rfl (op_load _ _ (some ⟨b2, 0, none⟩) 2 (.slice mp.A2 ((sidesL mp.p.legs).length) mp.c2) F rfl (by kernel_rfl) (by kernel_rfl) (cBox S 7 rfl (j := 2) rfl) (fun a F => ?_))
     refine l_pure 1 (fun L => (43, .int .i64 (k : Nat)) :: L) F (by kernel_rfl) fun a F => ?_
     refine l_do F rfl rfl (op_index _ 3 _ _ mp.A2 ((sidesL mp.p.legs).length) mp.c2 k 1 .i64 F rfl (by kernel_rfl) (by kernel_rfl) (by kernel_rfl) (by kernel_rfl) (by omega) (recs_some (pay_sides S 6 rfl (List.mem_of_getElem? hmp) (by omega)) (m := k) (by omega)) (fun a F => ?_))
     rcases hgs with rfl | rfl
     ·
      skip
      refine l_do F rfl rfl (op_load _ _ mp.A2 (k * 1) (.int .i64 0) F rfl (by kernel_rfl) (by kernel_rfl) (recs_cell iC_len_i64 (pay_sides S 6 rfl (List.mem_of_getElem? hmp) (by omega)) 0 hcs rfl) (fun a F => ?_))
      refine l_pure 1 (fun L => (11, .int .i64 0) :: L) F (by kernel_rfl) fun a F => ?_
      refine l_then ?_
      refine wp_seq ?_
      refine s_reg ?_
      refine l_pure 1 (fun L => (46, .bool false) :: L) F (by kernel_rfl) fun a F => ?_
      refine l_then ?_
      refine c_f F rfl ?_
      refine wp_skip ?_
      refine then_n ?_
      refine region_gx (fun D => fun (_ : Unit) => [rest w G, box b 61 [.slice Ae I.ends.length ce, .slice Af I.free.length cf, .map (some r), .slice Ah I.has.length ch], rEl Ae ce I.ends, bif D 17 then rF Af I.free.length cf (Fq.set ge ((xg.1 + ga, xg.2) : Int × Int)) else rF Af I.free.length cf Fq, rUl Ah ch I.has, mapA r .u64 (ps.map entM) ck, bag (ps.flatMap payRows), box b2 66 [.int .i64 2, .slice mp.A1 ((edgesL mp.p.legs).length) mp.c1, .slice mp.A2 ((sidesL mp.p.legs).length) mp.c2, .slice mp.A3 ((amsL mp.p.legs).length) mp.c3]]) (fun (_ : Unit) => [.pointer (some ⟨b, 0, none⟩), .pointer (some ⟨b, 0, none⟩), .pointer (some ⟨b, 1, none⟩), .slice Af I.free.length cf, .int .i64 (ge : Nat), .int .i64 0, ptrA Af (ge * 2), ptrA Af (ge * 2), .int .u64 xg.1, .pointer (some ⟨b2, 3, none⟩), .slice mp.A3 ((amsL mp.p.legs).length) mp.c3, .int .i64 (k : Nat), ptrA mp.A3 (k * 1), .int .u64 ga, .int .u64 (xg.1 + ga), ptrA Af (ge * 2), ptrA Af (ge * 2), undef]) [(3, [], [6, 7, 8, 14, 15, 16, 17]), (6, [3], [7, 8, 14, 16, 17]), (7, [3, 6], [8, 14, 16, 17]), (8, [3, 6, 7], [14, 16, 17]), (10, [], [12, 13, 14, 16, 17]), (12, [10], [13, 14, 16, 17]), (13, [10, 12], [14, 16, 17]), (14, [3, 6, 7, 8, 10, 12, 13], [16, 17]), (15, [3], [16, 17]), (16, [3, 6, 7, 8, 10, 12, 13, 14, 15], [17]), (17, [3, 6, 7, 8, 10, 12, 13, 14, 15, 16], [])] () rfl (by kernel_rfl) (by kernel_rfl) F S.drew ?_ ?_ ?_ ?_ ?_
      · rintro ⟨⟩; rfl
      · rintro ⟨⟩; kernel_rfl
      ·
       intro D D' x h
       cases x
       simp only [h 17 (by decide)]
      ·
       refine ⟨?_, ?_⟩
       ·
        refine ⟨_, rfl, rfl, by kernel_rfl, ?_⟩
        rintro D ⟨⟩ a z S F
        refine ⟨by kernel_rfl, ?_⟩
        exact op_load _ _ (some ⟨b, 0, none⟩) 1 (.slice Af I.free.length cf) F rfl (by kernel_rfl) (by kernel_rfl) (cBox S 1 rfl (j := 1) rfl) (⟨(), rfl, (SameB.refl _ _ rfl), S⟩)
       refine ⟨?_, ?_⟩
       ·
        refine ⟨_, rfl, rfl, by kernel_rfl, ?_⟩
        rintro D ⟨⟩ a z S F
        refine ⟨by kernel_rfl, ?_⟩
        exact op_index _ 31 _ _ Af I.free.length cf ge 2 .i64 F rfl (by kernel_rfl) (by kernel_rfl) (by kernel_rfl) (by kernel_rfl) (by have h9 := get_lt hxg; (try simp only [List.length_set] at h9); omega) (row_some S 3 rfl (m := ge) (by have h9 := get_lt hxg; (try simp only [List.length_set] at h9); omega)) (⟨(), rfl, (SameB.refl _ _ rfl), S⟩)
       refine ⟨?_, ?_⟩
       ·
        refine ⟨_, rfl, rfl, by kernel_rfl, ?_⟩
        rintro D ⟨⟩ a z S F
        refine ⟨by kernel_rfl, ?_⟩
        exact op_indexArr _ 23 _ _ Af (ge * 2) 2 0 1 .i64 F rfl (by kernel_rfl) (by kernel_rfl) (by kernel_rfl) (by kernel_rfl) (by decide) (row_some S 3 rfl (m := ge) (by have h9 := get_lt hxg; (try simp only [List.length_set] at h9); omega)) (⟨(), rfl, (SameB.refl _ _ rfl), S⟩)
       refine ⟨?_, ?_⟩
       ·
        refine ⟨_, rfl, rfl, by kernel_rfl, ?_⟩
        rintro D ⟨⟩ a z S F
        refine ⟨by kernel_rfl, ?_⟩
        exact op_load _ _ Af (ge * 2) (.int .u64 xg.1) F rfl (by kernel_rfl) (by kernel_rfl) (cRec S 3 frC_len rfl 0 hxg rfl) (⟨(), rfl, (SameB.refl _ _ rfl), S⟩)
       refine ⟨?_, ?_⟩
       ·
        refine ⟨_, rfl, rfl, by kernel_rfl, ?_⟩
        rintro D ⟨⟩ a z S F
        refine ⟨by kernel_rfl, ?_⟩
        exact op_load _ _ (some ⟨b2, 0, none⟩) 3 (.slice mp.A3 ((amsL mp.p.legs).length) mp.c3) F rfl (by kernel_rfl) (by kernel_rfl) (cBox S 7 rfl (j := 3) rfl) (⟨(), rfl, (SameB.refl _ _ rfl), S⟩)
       refine ⟨?_, ?_⟩
       ·
        refine ⟨_, rfl, rfl, by kernel_rfl, ?_⟩
        rintro D ⟨⟩ a z S F
        refine ⟨by kernel_rfl, ?_⟩
        exact op_index _ 23 _ _ mp.A3 ((amsL mp.p.legs).length) mp.c3 k 1 .i64 F rfl (by kernel_rfl) (by kernel_rfl) (by kernel_rfl) (by kernel_rfl) (get_lt hca) (recs_some (pay_ams S 6 rfl (List.mem_of_getElem? hmp) (by omega)) (m := k) (get_lt hca)) (⟨(), rfl, (SameB.refl _ _ rfl), S⟩)
       refine ⟨?_, ?_⟩
       ·
        refine ⟨_, rfl, rfl, by kernel_rfl, ?_⟩
        rintro D ⟨⟩ a z S F
        refine ⟨by kernel_rfl, ?_⟩
        exact op_load _ _ mp.A3 (k * 1) (.int .u64 ga) F rfl (by kernel_rfl) (by kernel_rfl) (recs_cell iC_len_u64 (pay_ams S 6 rfl (List.mem_of_getElem? hmp) (by omega)) 0 hca rfl) (⟨(), rfl, (SameB.refl _ _ rfl), S⟩)
       refine ⟨?_, ?_⟩
       ·
        refine ⟨_, rfl, rfl, by kernel_rfl, ?_⟩
        rintro D ⟨⟩ a z S F
        refine ⟨by kernel_rfl, ?_⟩
        exact op_pure F (v0 := .int .u64 (IntKind.wrap .u64 (xg.1 + ga))) (v := .int .u64 (xg.1 + ga)) (by kernel_rfl) (wr_u64 (by omega) (by omega)) ⟨(), rfl, (SameB.refl _ _ rfl), S⟩
       refine ⟨?_, ?_⟩
       ·
        refine ⟨_, rfl, rfl, by kernel_rfl, ?_⟩
        rintro D ⟨⟩ a z S F
        refine ⟨by kernel_rfl, ?_⟩
        exact op_index _ 31 _ _ Af I.free.length cf ge 2 .i64 F rfl (by kernel_rfl) (by kernel_rfl) (by kernel_rfl) (by kernel_rfl) (by have h9 := get_lt hxg; (try simp only [List.length_set] at h9); omega) (row_some S 3 rfl (m := ge) (by have h9 := get_lt hxg; (try simp only [List.length_set] at h9); omega)) (⟨(), rfl, (SameB.refl _ _ rfl), S⟩)
       refine ⟨?_, ?_⟩
       ·
        refine ⟨_, rfl, rfl, by kernel_rfl, ?_⟩
        rintro D ⟨⟩ a z S F
        refine ⟨by kernel_rfl, ?_⟩
        exact op_indexArr _ 23 _ _ Af (ge * 2) 2 0 1 .i64 F rfl (by kernel_rfl) (by kernel_rfl) (by kernel_rfl) (by kernel_rfl) (by decide) (row_some S 3 rfl (m := ge) (by have h9 := get_lt hxg; (try simp only [List.length_set] at h9); omega)) (⟨(), rfl, (SameB.refl _ _ rfl), S⟩)
       refine ⟨?_, ?_⟩
       ·
        refine ⟨_, rfl, rfl, by kernel_rfl, ?_⟩
        rintro D ⟨⟩ a z S F
        refine ⟨by kernel_rfl, ?_⟩
        exact op_storeRec S 3 _ _ _ Af ge 2 0 (.int .u64 (xg.1 + ga)) ((xg.1 + ga, xg.2) : Int × Int) F frC_len hxg rfl rfl (by kernel_rfl) (by kernel_rfl) (by kernel_rfl) (by kernel_rfl) (by kernel_rfl) (by kernel_rfl) (by kernel_rfl) fun z S => ⟨(), rfl, (SameB.refl _ _ rfl), S⟩
       trivial
      ·
       rintro ⟨⟩ a z F S
       have F := F.sub (l := [(0, .pointer (some ⟨b, 0, none⟩)), (1, .int .u64 cid), (2, .bool false), (7, .pointer (some ⟨b2, 0, none⟩)), (34, .slice mp.A1 ((edgesL mp.p.legs).length) mp.c1), (35, .int .i64 ((edgesL mp.p.legs).length : Nat)), (36, .int .i64 (k : Nat))]) ⟨by kernel_rfl, by kernel_rfl, by kernel_rfl, by kernel_rfl, by kernel_rfl, by kernel_rfl, by kernel_rfl, trivial⟩
       have S : Sat w z [rest w G, box b 61 [.slice Ae I.ends.length ce, .slice Af I.free.length cf, .map (some r), .slice Ah I.has.length ch], rEl Ae ce I.ends, rF Af I.free.length cf (Fq.set ge ((xg.1 + ga, xg.2) : Int × Int)), rUl Ah ch I.has, mapA r .u64 (ps.map entM) ck, bag (ps.flatMap payRows), box b2 66 [.int .i64 2, .slice mp.A1 ((edgesL mp.p.legs).length) mp.c1, .slice mp.A2 ((sidesL mp.p.legs).length) mp.c2, .slice mp.A3 ((amsL mp.p.legs).length) mp.c3]] := S
       refine inb_n ?_
       refine then_n ?_
       refine wp_region_list ?_
       refine l_do F rfl rfl (op_pure F (v0 := .int .i64 (IntKind.wrap .i64 ((k : Nat) + 1))) (v := .int .i64 (k + 1 : Nat)) (by kernel_rfl) (wrn_i64 (by omega) (by omega) (by omega)) fun a F => ?_)
       refine l_pure 1 (fun L => (36, .int .i64 (k + 1 : Nat)) :: L) F (by kernel_rfl) fun a F => ?_
       refine l_then ?_
       exact ⟨_, (by omega), k + 1, (Fq.set ge ((xg.1 + ga, xg.2) : Int × Int)), rfl, (by omega), (by rw [List.length_set]; exact hFl), (set_free_nn hFn (by omega) (by omega)), (by rw [← hpl, payL_next hgl hxg]; rfl), (by rw [sumF_set hxg]; (try dsimp only); omega), F.sub ⟨by kernel_rfl, by kernel_rfl, by kernel_rfl, by kernel_rfl, by kernel_rfl, by kernel_rfl, by kernel_rfl, trivial⟩, S⟩
     ·
      skip
      refine l_do F rfl rfl (op_load _ _ mp.A2 (k * 1) (.int .i64 1) F rfl (by kernel_rfl) (by kernel_rfl) (recs_cell iC_len_i64 (pay_sides S 6 rfl (List.mem_of_getElem? hmp) (by omega)) 0 hcs rfl) (fun a F => ?_))
      refine l_pure 1 (fun L => (11, .int .i64 1) :: L) F (by kernel_rfl) fun a F => ?_
      refine l_then ?_
      refine wp_seq ?_
      refine s_reg ?_
      refine l_pure 1 (fun L => (46, .bool false) :: L) F (by kernel_rfl) fun a F => ?_
      refine l_then ?_
      refine c_f F rfl ?_
      refine wp_skip ?_
      refine then_n ?_
      refine region_gx (fun D => fun (_ : Unit) => [rest w G, box b 61 [.slice Ae I.ends.length ce, .slice Af I.free.length cf, .map (some r), .slice Ah I.has.length ch], rEl Ae ce I.ends, bif D 17 then rF Af I.free.length cf (Fq.set ge ((xg.1, xg.2 + ga) : Int × Int)) else rF Af I.free.length cf Fq, rUl Ah ch I.has, mapA r .u64 (ps.map entM) ck, bag (ps.flatMap payRows), box b2 66 [.int .i64 2, .slice mp.A1 ((edgesL mp.p.legs).length) mp.c1, .slice mp.A2 ((sidesL mp.p.legs).length) mp.c2, .slice mp.A3 ((amsL mp.p.legs).length) mp.c3]]) (fun (_ : Unit) => [.pointer (some ⟨b, 0, none⟩), .pointer (some ⟨b, 0, none⟩), .pointer (some ⟨b, 1, none⟩), .slice Af I.free.length cf, .int .i64 (ge : Nat), .int .i64 1, ptrA Af (ge * 2), ptrA Af (ge * 2 + 1), .int .u64 xg.2, .pointer (some ⟨b2, 3, none⟩), .slice mp.A3 ((amsL mp.p.legs).length) mp.c3, .int .i64 (k : Nat), ptrA mp.A3 (k * 1), .int .u64 ga, .int .u64 (xg.2 + ga), ptrA Af (ge * 2), ptrA Af (ge * 2 + 1), undef]) [(3, [], [6, 7, 8, 14, 15, 16, 17]), (6, [3], [7, 8, 14, 16, 17]), (7, [3, 6], [8, 14, 16, 17]), (8, [3, 6, 7], [14, 16, 17]), (10, [], [12, 13, 14, 16, 17]), (12, [10], [13, 14, 16, 17]), (13, [10, 12], [14, 16, 17]), (14, [3, 6, 7, 8, 10, 12, 13], [16, 17]), (15, [3], [16, 17]), (16, [3, 6, 7, 8, 10, 12, 13, 14, 15], [17]), (17, [3, 6, 7, 8, 10, 12, 13, 14, 15, 16], [])] () rfl (by kernel_rfl) (by kernel_rfl) F S.drew ?_ ?_ ?_ ?_ ?_
      · rintro ⟨⟩; rfl
      · rintro ⟨⟩; kernel_rfl
      ·
       intro D D' x h
       cases x
       simp only [h 17 (by decide)]
      ·
       refine ⟨?_, ?_⟩
       ·
        refine ⟨_, rfl, rfl, by kernel_rfl, ?_⟩
        rintro D ⟨⟩ a z S F
        refine ⟨by kernel_rfl, ?_⟩
        exact op_load _ _ (some ⟨b, 0, none⟩) 1 (.slice Af I.free.length cf) F rfl (by kernel_rfl) (by kernel_rfl) (cBox S 1 rfl (j := 1) rfl) (⟨(), rfl, (SameB.refl _ _ rfl), S⟩)
       refine ⟨?_, ?_⟩
       ·
        refine ⟨_, rfl, rfl, by kernel_rfl, ?_⟩
        rintro D ⟨⟩ a z S F
        refine ⟨by kernel_rfl, ?_⟩
        exact op_index _ 31 _ _ Af I.free.length cf ge 2 .i64 F rfl (by kernel_rfl) (by kernel_rfl) (by kernel_rfl) (by kernel_rfl) (by have h9 := get_lt hxg; (try simp only [List.length_set] at h9); omega) (row_some S 3 rfl (m := ge) (by have h9 := get_lt hxg; (try simp only [List.length_set] at h9); omega)) (⟨(), rfl, (SameB.refl _ _ rfl), S⟩)
       refine ⟨?_, ?_⟩
       ·
        refine ⟨_, rfl, rfl, by kernel_rfl, ?_⟩
        rintro D ⟨⟩ a z S F
        refine ⟨by kernel_rfl, ?_⟩
        exact op_indexArr _ 23 _ _ Af (ge * 2) 2 1 1 .i64 F rfl (by kernel_rfl) (by kernel_rfl) (by kernel_rfl) (by kernel_rfl) (by decide) (row_some S 3 rfl (m := ge) (by have h9 := get_lt hxg; (try simp only [List.length_set] at h9); omega)) (⟨(), rfl, (SameB.refl _ _ rfl), S⟩)
       refine ⟨?_, ?_⟩
       ·
        refine ⟨_, rfl, rfl, by kernel_rfl, ?_⟩
        rintro D ⟨⟩ a z S F
        refine ⟨by kernel_rfl, ?_⟩
        exact op_load _ _ Af (ge * 2 + 1) (.int .u64 xg.2) F rfl (by kernel_rfl) (by kernel_rfl) (cRec S 3 frC_len rfl 1 hxg rfl) (⟨(), rfl, (SameB.refl _ _ rfl), S⟩)
       refine ⟨?_, ?_⟩
       ·
        refine ⟨_, rfl, rfl, by kernel_rfl, ?_⟩
        rintro D ⟨⟩ a z S F
        refine ⟨by kernel_rfl, ?_⟩
        exact op_load _ _ (some ⟨b2, 0, none⟩) 3 (.slice mp.A3 ((amsL mp.p.legs).length) mp.c3) F rfl (by kernel_rfl) (by kernel_rfl) (cBox S 7 rfl (j := 3) rfl) (⟨(), rfl, (SameB.refl _ _ rfl), S⟩)
       refine ⟨?_, ?_⟩
       ·
        refine ⟨_, rfl, rfl, by kernel_rfl, ?_⟩
        rintro D ⟨⟩ a z S F
        refine ⟨by kernel_rfl, ?_⟩
        exact op_index _ 23 _ _ mp.A3 ((amsL mp.p.legs).length) mp.c3 k 1 .i64 F rfl (by kernel_rfl) (by kernel_rfl) (by kernel_rfl) (by kernel_rfl) (get_lt hca) (recs_some (pay_ams S 6 rfl (List.mem_of_getElem? hmp) (by omega)) (m := k) (get_lt hca)) (⟨(), rfl, (SameB.refl _ _ rfl), S⟩)
       refine ⟨?_, ?_⟩
       ·
        refine ⟨_, rfl, rfl, by kernel_rfl, ?_⟩
        rintro D ⟨⟩ a z S F
        refine ⟨by kernel_rfl, ?_⟩
        exact op_load _ _ mp.A3 (k * 1) (.int .u64 ga) F rfl (by kernel_rfl) (by kernel_rfl) (recs_cell iC_len_u64 (pay_ams S 6 rfl (List.mem_of_getElem? hmp) (by omega)) 0 hca rfl) (⟨(), rfl, (SameB.refl _ _ rfl), S⟩)
       refine ⟨?_, ?_⟩
       ·
        refine ⟨_, rfl, rfl, by kernel_rfl, ?_⟩
        rintro D ⟨⟩ a z S F
        refine ⟨by kernel_rfl, ?_⟩
        exact op_pure F (v0 := .int .u64 (IntKind.wrap .u64 (xg.2 + ga))) (v := .int .u64 (xg.2 + ga)) (by kernel_rfl) (wr_u64 (by omega) (by omega)) ⟨(), rfl, (SameB.refl _ _ rfl), S⟩
       refine ⟨?_, ?_⟩
       ·
        refine ⟨_, rfl, rfl, by kernel_rfl, ?_⟩
        rintro D ⟨⟩ a z S F
        refine ⟨by kernel_rfl, ?_⟩
        exact op_index _ 31 _ _ Af I.free.length cf ge 2 .i64 F rfl (by kernel_rfl) (by kernel_rfl) (by kernel_rfl) (by kernel_rfl) (by have h9 := get_lt hxg; (try simp only [List.length_set] at h9); omega) (row_some S 3 rfl (m := ge) (by have h9 := get_lt hxg; (try simp only [List.length_set] at h9); omega)) (⟨(), rfl, (SameB.refl _ _ rfl), S⟩)
       refine ⟨?_, ?_⟩
       ·
        refine ⟨_, rfl, rfl, by kernel_rfl, ?_⟩
        rintro D ⟨⟩ a z S F
        refine ⟨by kernel_rfl, ?_⟩
        exact op_indexArr _ 23 _ _ Af (ge * 2) 2 1 1 .i64 F rfl (by kernel_rfl) (by kernel_rfl) (by kernel_rfl) (by kernel_rfl) (by decide) (row_some S 3 rfl (m := ge) (by have h9 := get_lt hxg; (try simp only [List.length_set] at h9); omega)) (⟨(), rfl, (SameB.refl _ _ rfl), S⟩)
       refine ⟨?_, ?_⟩
       ·
        refine ⟨_, rfl, rfl, by kernel_rfl, ?_⟩
        rintro D ⟨⟩ a z S F
        refine ⟨by kernel_rfl, ?_⟩
        exact op_storeRec S 3 _ _ _ Af ge 2 1 (.int .u64 (xg.2 + ga)) ((xg.1, xg.2 + ga) : Int × Int) F frC_len hxg rfl rfl (by kernel_rfl) (by kernel_rfl) (by kernel_rfl) (by kernel_rfl) (by kernel_rfl) (by kernel_rfl) (by kernel_rfl) fun z S => ⟨(), rfl, (SameB.refl _ _ rfl), S⟩
       trivial
      ·
       rintro ⟨⟩ a z F S
       have F := F.sub (l := [(0, .pointer (some ⟨b, 0, none⟩)), (1, .int .u64 cid), (2, .bool false), (7, .pointer (some ⟨b2, 0, none⟩)), (34, .slice mp.A1 ((edgesL mp.p.legs).length) mp.c1), (35, .int .i64 ((edgesL mp.p.legs).length : Nat)), (36, .int .i64 (k : Nat))]) ⟨by kernel_rfl, by kernel_rfl, by kernel_rfl, by kernel_rfl, by kernel_rfl, by kernel_rfl, by kernel_rfl, trivial⟩
       have S : Sat w z [rest w G, box b 61 [.slice Ae I.ends.length ce, .slice Af I.free.length cf, .map (some r), .slice Ah I.has.length ch], rEl Ae ce I.ends, rF Af I.free.length cf (Fq.set ge ((xg.1, xg.2 + ga) : Int × Int)), rUl Ah ch I.has, mapA r .u64 (ps.map entM) ck, bag (ps.flatMap payRows), box b2 66 [.int .i64 2, .slice mp.A1 ((edgesL mp.p.legs).length) mp.c1, .slice mp.A2 ((sidesL mp.p.legs).length) mp.c2, .slice mp.A3 ((amsL mp.p.legs).length) mp.c3]] := S
       refine inb_n ?_
       refine then_n ?_
       refine wp_region_list ?_
       refine l_do F rfl rfl (op_pure F (v0 := .int .i64 (IntKind.wrap .i64 ((k : Nat) + 1))) (v := .int .i64 (k + 1 : Nat)) (by kernel_rfl) (wrn_i64 (by omega) (by omega) (by omega)) fun a F => ?_)
       refine l_pure 1 (fun L => (36, .int .i64 (k + 1 : Nat)) :: L) F (by kernel_rfl) fun a F => ?_
       refine l_then ?_
       exact ⟨_, (by omega), k + 1, (Fq.set ge ((xg.1, xg.2 + ga) : Int × Int)), rfl, (by omega), (by rw [List.length_set]; exact hFl), (set_free_nn hFn (by omega) (by omega)), (by rw [← hpl, payL_next hgl hxg]; rfl), (by rw [sumF_set hxg]; (try dsimp only); omega), F.sub ⟨by kernel_rfl, by kernel_rfl, by kernel_rfl, by kernel_rfl, by kernel_rfl, by kernel_rfl, by kernel_rfl, trivial⟩, S⟩
    ·
     skip
     have hk : k = mp.p.legs.length := by omega
     refine l_do F rfl rfl (op_pure F (v0 := .bool (decide (((k : Nat) : Int) < (((edgesL mp.p.legs).length : Nat) : Int)))) (v := .bool false) (by kernel_rfl) (lssF ht9) fun a F => ?_)
     refine l_then ?_
     refine wp_seq ?_
     refine c_f F rfl ?_
     refine wp_exit ?_
     refine then_x ?_
     refine then_x ?_
     refine inb_x ?_
     refine then_n ?_
     refine wp_seq ?_
     refine region_gx (fun D => fun (_ : Unit) => [rest w G, box b 61 [.slice Ae I.ends.length ce, .slice Af I.free.length cf, .map (some r), .slice Ah I.has.length ch], rEl Ae ce I.ends, rF Af I.free.length cf Fq, rUl Ah ch I.has, bif D 6 then mapA r .u64 (putM (ps.map entM) cid (.agg #[.int .i64 2, .slice mp.A1 ((edgesL mp.p.legs).length) mp.c1, .slice mp.A2 ((sidesL mp.p.legs).length) mp.c2, .slice mp.A3 ((amsL mp.p.legs).length) mp.c3]) ck) (putC (ps.map entM) cid ck) else mapA r .u64 (ps.map entM) ck, bag (ps.flatMap payRows), box b2 66 [.int .i64 2, .slice mp.A1 ((edgesL mp.p.legs).length) mp.c1, .slice mp.A2 ((sidesL mp.p.legs).length) mp.c2, .slice mp.A3 ((amsL mp.p.legs).length) mp.c3]]) (fun (_ : Unit) => [.pointer (some ⟨b, 0, none⟩), .pointer (some ⟨b, 0, none⟩), .pointer (some ⟨b, 2, none⟩), .map (some r), .int .u64 cid, .agg #[.int .i64 2, .slice mp.A1 ((edgesL mp.p.legs).length) mp.c1, .slice mp.A2 ((sidesL mp.p.legs).length) mp.c2, .slice mp.A3 ((amsL mp.p.legs).length) mp.c3], undef]) [(3, [], [6]), (5, [], [6]), (6, [3, 5], [])] () rfl (by kernel_rfl) (by kernel_rfl) F S.drew ?_ ?_ ?_ ?_ ?_
     · rintro ⟨⟩; rfl
     · rintro ⟨⟩; kernel_rfl
     ·
      intro D D' x h
      cases x
      simp only [h 6 (by decide)]
     ·
      refine ⟨?_, ?_⟩
      ·
       refine ⟨_, rfl, rfl, by kernel_rfl, ?_⟩
       rintro D ⟨⟩ a z S F
       refine ⟨by kernel_rfl, ?_⟩
       exact op_load _ _ (some ⟨b, 0, none⟩) 2 (.map (some r)) F rfl (by kernel_rfl) (by kernel_rfl) (cBox S 1 rfl (j := 2) rfl) (⟨(), rfl, (SameB.refl _ _ rfl), S⟩)
      refine ⟨?_, ?_⟩
      ·
       refine ⟨_, rfl, rfl, by kernel_rfl, ?_⟩
       rintro D ⟨⟩ a z S F
       refine ⟨by kernel_rfl, ?_⟩
       exact op_loadK _ _ (some ⟨b2, 0, none⟩) 0 [.int .i64 2, .slice mp.A1 ((edgesL mp.p.legs).length) mp.c1, .slice mp.A2 ((sidesL mp.p.legs).length) mp.c2, .slice mp.A3 ((amsL mp.p.legs).length) mp.c3] F rfl (by kernel_rfl) (by kernel_rfl) (by kernel_rfl) (by simp) (cBoxK S 7 rfl 0 (by kernel_rfl)) (⟨(), rfl, (SameB.refl _ _ rfl), S⟩)
      refine ⟨?_, ?_⟩
      ·
       refine ⟨_, rfl, rfl, by kernel_rfl, ?_⟩
       rintro D ⟨⟩ a z S F
       refine ⟨by kernel_rfl, ?_⟩
       exact op_mapUpdate S 5 _ 23 66 _ _ _ .u64 .u64 cid (.agg #[.int .i64 2, .slice mp.A1 ((edgesL mp.p.legs).length) mp.c1, .slice mp.A2 ((sidesL mp.p.legs).length) mp.c2, .slice mp.A3 ((amsL mp.p.legs).length) mp.c3]) F rfl rfl (by kernel_rfl) (by kernel_rfl) (by kernel_rfl) (by kernel_rfl) (by kernel_rfl) fun z S => ⟨(), rfl, (SameB.refl _ _ rfl), S⟩
      trivial
     ·
      rintro ⟨⟩ a z F S
      have F := F.sub (l := []) trivial
      have S : Sat w z [rest w G, box b 61 [.slice Ae I.ends.length ce, .slice Af I.free.length cf, .map (some r), .slice Ah I.has.length ch], rEl Ae ce I.ends, rF Af I.free.length cf Fq, rUl Ah ch I.has, mapA r .u64 (putM (ps.map entM) cid (.agg #[.int .i64 2, .slice mp.A1 ((edgesL mp.p.legs).length) mp.c1, .slice mp.A2 ((sidesL mp.p.legs).length) mp.c2, .slice mp.A3 ((amsL mp.p.legs).length) mp.c3]) ck) (putC (ps.map entM) cid ck), bag (ps.flatMap payRows), box b2 66 [.int .i64 2, .slice mp.A1 ((edgesL mp.p.legs).length) mp.c1, .slice mp.A2 ((sidesL mp.p.legs).length) mp.c2, .slice mp.A3 ((amsL mp.p.legs).length) mp.c3]] := S
      refine then_n ?_
      refine s_reg ?_
      refine l_pure 1 (fun L => (6, .int .i64 0) :: L) F (by kernel_rfl) fun a F => ?_
      refine l_then ?_
      refine wp_ret ?_
      obtain ⟨hm1, hm2⟩ := putM_pays (ck0 := ck) hps hf hmp (m' := ({ mp with p := ⟨mp.p.id, 2, mp.p.legs⟩ } : PayM)) rfl hid
      have S : Sat w z [rest w G, box b 61 [.slice Ae I.ends.length ce, .slice Af I.free.length cf, .map (some r), .slice Ah I.has.length ch], rEl Ae ce I.ends, rF Af I.free.length cf Fq, rUl Ah ch I.has, mapA r .u64 (putM (ps.map entM) cid (.agg #[.int .i64 2, .slice mp.A1 ((edgesL mp.p.legs).length) mp.c1, .slice mp.A2 ((sidesL mp.p.legs).length) mp.c2, .slice mp.A3 ((amsL mp.p.legs).length) mp.c3]) ck) (putC (ps.map entM) cid ck), bag (ps.flatMap payRows), box b2 66 [.int .i64 2, .slice mp.A1 ((edgesL mp.p.legs).length) mp.c1, .slice mp.A2 ((sidesL mp.p.legs).length) mp.c2, .slice mp.A3 ((amsL mp.p.legs).length) mp.c3]] := S
      rw [show putM (ps.map entM) cid (.agg #[.int .i64 2, .slice mp.A1 ((edgesL mp.p.legs).length) mp.c1, .slice mp.A2 ((sidesL mp.p.legs).length) mp.c2, .slice mp.A3 ((amsL mp.p.legs).length) mp.c3]) ck = (ps.set im ({ mp with p := ⟨mp.p.id, 2, mp.p.legs⟩ } : PayM)).map entM from hm1, show putC (ps.map entM) cid ck = ck from hm2] at S
      rw [hk, List.drop_length] at hpl
      rw [show ps.flatMap payRows = (ps.set im ({ mp with p := ⟨mp.p.id, 2, mp.p.legs⟩ } : PayM)).flatMap payRows from (rows_set (m' := ({ mp with p := ⟨mp.p.id, 2, mp.p.legs⟩ } : PayM)) hmp rfl).symm] at S
      have hpl : Fq = payL false I.free mp.p.legs := hpl
      subst hpl
      exact fin F [.tmp 6] [.int .i64 0] rfl ⟨by kernel_rfl, trivial⟩ (.int .i64 0) rfl ⟨by rw [end_ok (paid := false) hf hlm hs0], by rw [end_ok (paid := false) hf hlm hs0]; exact (id_shut (psok_set (m' := ({ mp with p := ⟨mp.p.id, 2, mp.p.legs⟩ } : PayM)) hps hmp rfl) (by first | rfl | (rw [payL_len]) | (simp; omega)) (by first | rfl | (rw [payL_len]) | (simp; omega)) (by first | rfl | (rw [payL_len]) | (simp; omega)) (S.pick [0, 1, 2, 3, 4, 5, 6] (by decide)))⟩
   | true =>
    skip
    refine c_t F rfl ?_
    refine wp_region_list ?_
    refine l_pure 1 (fun L => (32, .pointer (some ⟨b2, 0, none⟩)) :: L) F (by kernel_rfl) fun a F => ?_
    refine l_do F rfl rfl (op_storeB S 7 _ _ _ b2 0 (.int .i64 1) F rfl rfl (by kernel_rfl) (by kernel_rfl) (by kernel_rfl) (by kernel_rfl) (by kernel_rfl) fun z S a F => ?_)
    refine l_then ?_
    refine wp_seq ?_
    refine s_reg ?_
    refine l_pure 1 (fun L => (33, .pointer (some ⟨b2, 1, none⟩)) :: L) F (by kernel_rfl) fun a F => ?_
    refine l_do F rfl rfl (op_load _ _ (some ⟨b2, 0, none⟩) 1 (.slice mp.A1 ((edgesL mp.p.legs).length) mp.c1) F rfl (by kernel_rfl) (by kernel_rfl) (cBox S 7 rfl (j := 1) rfl) (fun a F => ?_))
    refine l_pure 2 (fun L => (36, .int .i64 0) :: (35, .int .i64 ((edgesL mp.p.legs).length : Nat)) :: L) F (by kernel_rfl) fun a F => ?_
    refine l_then ?_
    refine wp_block ?_
    refine wp_loop_m (fun m a z => ∃ (k : Nat) (Fq : List (Int × Int)), m = (edgesL mp.p.legs).length - k ∧ (k ≤ (edgesL mp.p.legs).length) ∧ (Fq.length = I.ends.length) ∧ (∀ f ∈ Fq, 0 ≤ f.1 ∧ 0 ≤ f.2) ∧ (payL true Fq (mp.p.legs.drop k) = payL true I.free mp.p.legs) ∧ (sumF Fq + legSum (mp.p.legs.drop k) = sumF I.free + legSum mp.p.legs) ∧ Fr a 73 [(0, .pointer (some ⟨b, 0, none⟩)), (1, .int .u64 cid), (2, .bool true), (7, .pointer (some ⟨b2, 0, none⟩)), (34, .slice mp.A1 ((edgesL mp.p.legs).length) mp.c1), (35, .int .i64 ((edgesL mp.p.legs).length : Nat)), (36, .int .i64 (k : Nat))] ∧ Sat w z [rest w G, box b 61 [.slice Ae I.ends.length ce, .slice Af I.free.length cf, .map (some r), .slice Ah I.has.length ch], rEl Ae ce I.ends, rF Af I.free.length cf Fq, rUl Ah ch I.has, mapA r .u64 (ps.map entM) ck, bag (ps.flatMap payRows), box b2 66 [.int .i64 1, .slice mp.A1 ((edgesL mp.p.legs).length) mp.c1, .slice mp.A2 ((sidesL mp.p.legs).length) mp.c2, .slice mp.A3 ((amsL mp.p.legs).length) mp.c3]]) _ ⟨0, I.free, rfl, Nat.zero_le _, ok.fl, ok.fu, rfl, rfl, F.sub ⟨by kernel_rfl, by kernel_rfl, by kernel_rfl, by kernel_rfl, by kernel_rfl, by kernel_rfl, by kernel_rfl, trivial⟩, S⟩ ?_
    rintro m a z ⟨k, Fq, hm, hf10, hf11, hf12, hf13, hf14, F, S⟩
    have hFl := hf11
    have hFn := hf12
    have hpl := hf13
    have hSF := hf14
    have hfl9 := ok.fl
    refine s_reg ?_
    by_cases ht15 : ((k : Nat) : Int) < (((edgesL mp.p.legs).length : Nat) : Int)
    ·
     skip
     obtain ⟨⟨ge, gs, ga⟩, hgl⟩ : ∃ l, mp.p.legs[k]? = some l := ⟨_, List.getElem?_eq_getElem (by omega)⟩
     obtain ⟨hce, hcs, hca⟩ := leg_cols hgl
     obtain ⟨hge, hgs2, hga⟩ := hlg _ (List.mem_of_getElem? hgl)
     dsimp only at hge hgs2 hga
     obtain ⟨xg, hxg⟩ : ∃ xg, Fq[ge]? = some xg := ⟨_, List.getElem?_eq_getElem (by omega)⟩
     have hxn := hFn _ (List.mem_of_getElem? hxg)
     have hxs := sumF_one hFn hxg
     have hld := leg_drop hgl
     dsimp only at hld
     have hln := legSum_nn (l := mp.p.legs.drop (k + 1)) (fun x hx => (hlg x (List.mem_of_mem_drop hx)).2.2)
     have hgs : gs = 0 ∨ gs = 1 := by omega
     refine l_do F rfl rfl (op_pure F (v0 := .bool (decide (((k : Nat) : Int) < (((edgesL mp.p.legs).length : Nat) : Int)))) (v := .bool true) (by kernel_rfl) (lssT ht15) fun a F => ?_)
     refine l_then ?_
     refine wp_seq ?_
     refine c_t F rfl ?_
     refine wp_skip ?_
     refine then_n ?_
     refine wp_seq ?_
     refine wp_block ?_
     refine s_reg ?_
     refine l_pure 1 (fun L => (38, .int .i64 (k : Nat)) :: L) F (by kernel_rfl) fun a F => ?_
     refine l_do F rfl rfl (op_index _ 3 _ _ mp.A1 ((edgesL mp.p.legs).length) mp.c1 k 1 .i64 F rfl (by kernel_rfl) (by kernel_rfl) (by kernel_rfl) (by kernel_rfl) (get_lt hce) (recs_some (pay_edges S 6 rfl (List.mem_of_getElem? hmp) (by omega)) (m := k) (get_lt hce)) (fun a F => ?_))
     refine l_do F rfl rfl (op_load _ _ mp.A1 (k * 1) (.int .i64 (ge : Nat)) F rfl (by kernel_rfl) (by kernel_rfl) (recs_cell iC_len_i64 (pay_edges S 6 rfl (List.mem_of_getElem? hmp) (by omega)) 0 hce rfl) (fun a F => ?_))
     refine l_pure 2 (fun L => (10, .int .i64 (ge : Nat)) :: (9, .int .i64 (k : Nat)) :: L) F (by kernel_rfl) fun a F => ?_
     refine l_then ?_
     refine s_reg ?_
     refine l_pure 1 (fun L => (41, .pointer (some ⟨b2, 2, none⟩)) :: L) F (by kernel_rfl) fun a F => ?_
     refine l_do F rfl rfl (op_load _ _ (some ⟨b2, 0, none⟩) 2 (.slice mp.A2 ((sidesL mp.p.legs).length) mp.c2) F rfl (by kernel_rfl) (by kernel_rfl) (cBox S 7 rfl (j := 2) rfl) (fun a F => ?_))
     refine l_pure 1 (fun L => (43, .int .i64 (k : Nat)) :: L) F (by kernel_rfl) fun a F => ?_
     refine l_do F rfl rfl (op_index _ 3 _ _ mp.A2 ((sidesL mp.p.legs).length) mp.c2 k 1 .i64 F rfl (by kernel_rfl) (by kernel_rfl) (by kernel_rfl) (by kernel_rfl) (by omega) (recs_some (pay_sides S 6 rfl (List.mem_of_getElem? hmp) (by omega)) (m := k) (by omega)) (fun a F => ?_))
     rcases hgs with rfl | rfl
     ·
      skip
      refine l_do F rfl rfl (op_load _ _ mp.A2 (k * 1) (.int .i64 0) F rfl (by kernel_rfl) (by kernel_rfl) (recs_cell iC_len_i64 (pay_sides S 6 rfl (List.mem_of_getElem? hmp) (by omega)) 0 hcs rfl) (fun a F => ?_))
      refine l_pure 1 (fun L => (11, .int .i64 0) :: L) F (by kernel_rfl) fun a F => ?_
      refine l_then ?_
      refine wp_seq ?_
      refine s_reg ?_
      refine l_pure 1 (fun L => (46, .bool true) :: L) F (by kernel_rfl) fun a F => ?_
      refine l_then ?_
      refine c_t F rfl ?_
      refine wp_region_list ?_
      refine l_pure 3 (fun L => (11, .int .i64 1) :: (48, .int .i64 1) :: (47, .int .i64 0) :: L) F (by kernel_rfl) fun a F => ?_
      refine l_then ?_
      refine region_gx (fun D => fun (_ : Unit) => [rest w G, box b 61 [.slice Ae I.ends.length ce, .slice Af I.free.length cf, .map (some r), .slice Ah I.has.length ch], rEl Ae ce I.ends, bif D 17 then rF Af I.free.length cf (Fq.set ge ((xg.1, xg.2 + ga) : Int × Int)) else rF Af I.free.length cf Fq, rUl Ah ch I.has, mapA r .u64 (ps.map entM) ck, bag (ps.flatMap payRows), box b2 66 [.int .i64 1, .slice mp.A1 ((edgesL mp.p.legs).length) mp.c1, .slice mp.A2 ((sidesL mp.p.legs).length) mp.c2, .slice mp.A3 ((amsL mp.p.legs).length) mp.c3]]) (fun (_ : Unit) => [.pointer (some ⟨b, 0, none⟩), .pointer (some ⟨b, 0, none⟩), .pointer (some ⟨b, 1, none⟩), .slice Af I.free.length cf, .int .i64 (ge : Nat), .int .i64 1, ptrA Af (ge * 2), ptrA Af (ge * 2 + 1), .int .u64 xg.2, .pointer (some ⟨b2, 3, none⟩), .slice mp.A3 ((amsL mp.p.legs).length) mp.c3, .int .i64 (k : Nat), ptrA mp.A3 (k * 1), .int .u64 ga, .int .u64 (xg.2 + ga), ptrA Af (ge * 2), ptrA Af (ge * 2 + 1), undef]) [(3, [], [6, 7, 8, 14, 15, 16, 17]), (6, [3], [7, 8, 14, 16, 17]), (7, [3, 6], [8, 14, 16, 17]), (8, [3, 6, 7], [14, 16, 17]), (10, [], [12, 13, 14, 16, 17]), (12, [10], [13, 14, 16, 17]), (13, [10, 12], [14, 16, 17]), (14, [3, 6, 7, 8, 10, 12, 13], [16, 17]), (15, [3], [16, 17]), (16, [3, 6, 7, 8, 10, 12, 13, 14, 15], [17]), (17, [3, 6, 7, 8, 10, 12, 13, 14, 15, 16], [])] () rfl (by kernel_rfl) (by kernel_rfl) F S.drew ?_ ?_ ?_ ?_ ?_
      · rintro ⟨⟩; rfl
      · rintro ⟨⟩; kernel_rfl
      ·
       intro D D' x h
       cases x
       simp only [h 17 (by decide)]
      ·
       refine ⟨?_, ?_⟩
       ·
        refine ⟨_, rfl, rfl, by kernel_rfl, ?_⟩
        rintro D ⟨⟩ a z S F
        refine ⟨by kernel_rfl, ?_⟩
        exact op_load _ _ (some ⟨b, 0, none⟩) 1 (.slice Af I.free.length cf) F rfl (by kernel_rfl) (by kernel_rfl) (cBox S 1 rfl (j := 1) rfl) (⟨(), rfl, (SameB.refl _ _ rfl), S⟩)
       refine ⟨?_, ?_⟩
       ·
        refine ⟨_, rfl, rfl, by kernel_rfl, ?_⟩
        rintro D ⟨⟩ a z S F
        refine ⟨by kernel_rfl, ?_⟩
        exact op_index _ 31 _ _ Af I.free.length cf ge 2 .i64 F rfl (by kernel_rfl) (by kernel_rfl) (by kernel_rfl) (by kernel_rfl) (by have h9 := get_lt hxg; (try simp only [List.length_set] at h9); omega) (row_some S 3 rfl (m := ge) (by have h9 := get_lt hxg; (try simp only [List.length_set] at h9); omega)) (⟨(), rfl, (SameB.refl _ _ rfl), S⟩)
       refine ⟨?_, ?_⟩
       ·
        refine ⟨_, rfl, rfl, by kernel_rfl, ?_⟩
        rintro D ⟨⟩ a z S F
        refine ⟨by kernel_rfl, ?_⟩
        exact op_indexArr _ 23 _ _ Af (ge * 2) 2 1 1 .i64 F rfl (by kernel_rfl) (by kernel_rfl) (by kernel_rfl) (by kernel_rfl) (by decide) (row_some S 3 rfl (m := ge) (by have h9 := get_lt hxg; (try simp only [List.length_set] at h9); omega)) (⟨(), rfl, (SameB.refl _ _ rfl), S⟩)
       refine ⟨?_, ?_⟩
       ·
        refine ⟨_, rfl, rfl, by kernel_rfl, ?_⟩
        rintro D ⟨⟩ a z S F
        refine ⟨by kernel_rfl, ?_⟩
        exact op_load _ _ Af (ge * 2 + 1) (.int .u64 xg.2) F rfl (by kernel_rfl) (by kernel_rfl) (cRec S 3 frC_len rfl 1 hxg rfl) (⟨(), rfl, (SameB.refl _ _ rfl), S⟩)
       refine ⟨?_, ?_⟩
       ·
        refine ⟨_, rfl, rfl, by kernel_rfl, ?_⟩
        rintro D ⟨⟩ a z S F
        refine ⟨by kernel_rfl, ?_⟩
        exact op_load _ _ (some ⟨b2, 0, none⟩) 3 (.slice mp.A3 ((amsL mp.p.legs).length) mp.c3) F rfl (by kernel_rfl) (by kernel_rfl) (cBox S 7 rfl (j := 3) rfl) (⟨(), rfl, (SameB.refl _ _ rfl), S⟩)
       refine ⟨?_, ?_⟩
       ·
        refine ⟨_, rfl, rfl, by kernel_rfl, ?_⟩
        rintro D ⟨⟩ a z S F
        refine ⟨by kernel_rfl, ?_⟩
        exact op_index _ 23 _ _ mp.A3 ((amsL mp.p.legs).length) mp.c3 k 1 .i64 F rfl (by kernel_rfl) (by kernel_rfl) (by kernel_rfl) (by kernel_rfl) (get_lt hca) (recs_some (pay_ams S 6 rfl (List.mem_of_getElem? hmp) (by omega)) (m := k) (get_lt hca)) (⟨(), rfl, (SameB.refl _ _ rfl), S⟩)
       refine ⟨?_, ?_⟩
       ·
        refine ⟨_, rfl, rfl, by kernel_rfl, ?_⟩
        rintro D ⟨⟩ a z S F
        refine ⟨by kernel_rfl, ?_⟩
        exact op_load _ _ mp.A3 (k * 1) (.int .u64 ga) F rfl (by kernel_rfl) (by kernel_rfl) (recs_cell iC_len_u64 (pay_ams S 6 rfl (List.mem_of_getElem? hmp) (by omega)) 0 hca rfl) (⟨(), rfl, (SameB.refl _ _ rfl), S⟩)
       refine ⟨?_, ?_⟩
       ·
        refine ⟨_, rfl, rfl, by kernel_rfl, ?_⟩
        rintro D ⟨⟩ a z S F
        refine ⟨by kernel_rfl, ?_⟩
        exact op_pure F (v0 := .int .u64 (IntKind.wrap .u64 (xg.2 + ga))) (v := .int .u64 (xg.2 + ga)) (by kernel_rfl) (wr_u64 (by omega) (by omega)) ⟨(), rfl, (SameB.refl _ _ rfl), S⟩
       refine ⟨?_, ?_⟩
       ·
        refine ⟨_, rfl, rfl, by kernel_rfl, ?_⟩
        rintro D ⟨⟩ a z S F
        refine ⟨by kernel_rfl, ?_⟩
        exact op_index _ 31 _ _ Af I.free.length cf ge 2 .i64 F rfl (by kernel_rfl) (by kernel_rfl) (by kernel_rfl) (by kernel_rfl) (by have h9 := get_lt hxg; (try simp only [List.length_set] at h9); omega) (row_some S 3 rfl (m := ge) (by have h9 := get_lt hxg; (try simp only [List.length_set] at h9); omega)) (⟨(), rfl, (SameB.refl _ _ rfl), S⟩)
       refine ⟨?_, ?_⟩
       ·
        refine ⟨_, rfl, rfl, by kernel_rfl, ?_⟩
        rintro D ⟨⟩ a z S F
        refine ⟨by kernel_rfl, ?_⟩
        exact op_indexArr _ 23 _ _ Af (ge * 2) 2 1 1 .i64 F rfl (by kernel_rfl) (by kernel_rfl) (by kernel_rfl) (by kernel_rfl) (by decide) (row_some S 3 rfl (m := ge) (by have h9 := get_lt hxg; (try simp only [List.length_set] at h9); omega)) (⟨(), rfl, (SameB.refl _ _ rfl), S⟩)
       refine ⟨?_, ?_⟩
       ·
        refine ⟨_, rfl, rfl, by kernel_rfl, ?_⟩
        rintro D ⟨⟩ a z S F
        refine ⟨by kernel_rfl, ?_⟩
        exact op_storeRec S 3 _ _ _ Af ge 2 1 (.int .u64 (xg.2 + ga)) ((xg.1, xg.2 + ga) : Int × Int) F frC_len hxg rfl rfl (by kernel_rfl) (by kernel_rfl) (by kernel_rfl) (by kernel_rfl) (by kernel_rfl) (by kernel_rfl) (by kernel_rfl) fun z S => ⟨(), rfl, (SameB.refl _ _ rfl), S⟩
       trivial
      ·
       rintro ⟨⟩ a z F S
       have F := F.sub (l := [(0, .pointer (some ⟨b, 0, none⟩)), (1, .int .u64 cid), (2, .bool true), (7, .pointer (some ⟨b2, 0, none⟩)), (34, .slice mp.A1 ((edgesL mp.p.legs).length) mp.c1), (35, .int .i64 ((edgesL mp.p.legs).length : Nat)), (36, .int .i64 (k : Nat))]) ⟨by kernel_rfl, by kernel_rfl, by kernel_rfl, by kernel_rfl, by kernel_rfl, by kernel_rfl, by kernel_rfl, trivial⟩
       have S : Sat w z [rest w G, box b 61 [.slice Ae I.ends.length ce, .slice Af I.free.length cf, .map (some r), .slice Ah I.has.length ch], rEl Ae ce I.ends, rF Af I.free.length cf (Fq.set ge ((xg.1, xg.2 + ga) : Int × Int)), rUl Ah ch I.has, mapA r .u64 (ps.map entM) ck, bag (ps.flatMap payRows), box b2 66 [.int .i64 1, .slice mp.A1 ((edgesL mp.p.legs).length) mp.c1, .slice mp.A2 ((sidesL mp.p.legs).length) mp.c2, .slice mp.A3 ((amsL mp.p.legs).length) mp.c3]] := S
       refine inb_n ?_
       refine then_n ?_
       refine wp_region_list ?_
       refine l_do F rfl rfl (op_pure F (v0 := .int .i64 (IntKind.wrap .i64 ((k : Nat) + 1))) (v := .int .i64 (k + 1 : Nat)) (by kernel_rfl) (wrn_i64 (by omega) (by omega) (by omega)) fun a F => ?_)
       refine l_pure 1 (fun L => (36, .int .i64 (k + 1 : Nat)) :: L) F (by kernel_rfl) fun a F => ?_
       refine l_then ?_
       exact ⟨_, (by omega), k + 1, (Fq.set ge ((xg.1, xg.2 + ga) : Int × Int)), rfl, (by omega), (by rw [List.length_set]; exact hFl), (set_free_nn hFn (by omega) (by omega)), (by rw [← hpl, payL_next hgl hxg]; rfl), (by rw [sumF_set hxg]; (try dsimp only); omega), F.sub ⟨by kernel_rfl, by kernel_rfl, by kernel_rfl, by kernel_rfl, by kernel_rfl, by kernel_rfl, by kernel_rfl, trivial⟩, S⟩
     ·
      skip
      refine l_do F rfl rfl (op_load _ _ mp.A2 (k * 1) (.int .i64 1) F rfl (by kernel_rfl) (by kernel_rfl) (recs_cell iC_len_i64 (pay_sides S 6 rfl (List.mem_of_getElem? hmp) (by omega)) 0 hcs rfl) (fun a F => ?_))
      refine l_pure 1 (fun L => (11, .int .i64 1) :: L) F (by kernel_rfl) fun a F => ?_
      refine l_then ?_
      refine wp_seq ?_
      refine s_reg ?_
      refine l_pure 1 (fun L => (46, .bool true) :: L) F (by kernel_rfl) fun a F => ?_
      refine l_then ?_
      refine c_t F rfl ?_
      refine wp_region_list ?_
      refine l_pure 3 (fun L => (11, .int .i64 0) :: (48, .int .i64 0) :: (47, .int .i64 1) :: L) F (by kernel_rfl) fun a F => ?_
      refine l_then ?_
      refine region_gx (fun D => fun (_ : Unit) => [rest w G, box b 61 [.slice Ae I.ends.length ce, .slice Af I.free.length cf, .map (some r), .slice Ah I.has.length ch], rEl Ae ce I.ends, bif D 17 then rF Af I.free.length cf (Fq.set ge ((xg.1 + ga, xg.2) : Int × Int)) else rF Af I.free.length cf Fq, rUl Ah ch I.has, mapA r .u64 (ps.map entM) ck, bag (ps.flatMap payRows), box b2 66 [.int .i64 1, .slice mp.A1 ((edgesL mp.p.legs).length) mp.c1, .slice mp.A2 ((sidesL mp.p.legs).length) mp.c2, .slice mp.A3 ((amsL mp.p.legs).length) mp.c3]]) (fun (_ : Unit) => [.pointer (some ⟨b, 0, none⟩), .pointer (some ⟨b, 0, none⟩), .pointer (some ⟨b, 1, none⟩), .slice Af I.free.length cf, .int .i64 (ge : Nat), .int .i64 0, ptrA Af (ge * 2), ptrA Af (ge * 2), .int .u64 xg.1, .pointer (some ⟨b2, 3, none⟩), .slice mp.A3 ((amsL mp.p.legs).length) mp.c3, .int .i64 (k : Nat), ptrA mp.A3 (k * 1), .int .u64 ga, .int .u64 (xg.1 + ga), ptrA Af (ge * 2), ptrA Af (ge * 2), undef]) [(3, [], [6, 7, 8, 14, 15, 16, 17]), (6, [3], [7, 8, 14, 16, 17]), (7, [3, 6], [8, 14, 16, 17]), (8, [3, 6, 7], [14, 16, 17]), (10, [], [12, 13, 14, 16, 17]), (12, [10], [13, 14, 16, 17]), (13, [10, 12], [14, 16, 17]), (14, [3, 6, 7, 8, 10, 12, 13], [16, 17]), (15, [3], [16, 17]), (16, [3, 6, 7, 8, 10, 12, 13, 14, 15], [17]), (17, [3, 6, 7, 8, 10, 12, 13, 14, 15, 16], [])] () rfl (by kernel_rfl) (by kernel_rfl) F S.drew ?_ ?_ ?_ ?_ ?_
      · rintro ⟨⟩; rfl
      · rintro ⟨⟩; kernel_rfl
      ·
       intro D D' x h
       cases x
       simp only [h 17 (by decide)]
      ·
       refine ⟨?_, ?_⟩
       ·
        refine ⟨_, rfl, rfl, by kernel_rfl, ?_⟩
        rintro D ⟨⟩ a z S F
        refine ⟨by kernel_rfl, ?_⟩
        exact op_load _ _ (some ⟨b, 0, none⟩) 1 (.slice Af I.free.length cf) F rfl (by kernel_rfl) (by kernel_rfl) (cBox S 1 rfl (j := 1) rfl) (⟨(), rfl, (SameB.refl _ _ rfl), S⟩)
       refine ⟨?_, ?_⟩
       ·
        refine ⟨_, rfl, rfl, by kernel_rfl, ?_⟩
        rintro D ⟨⟩ a z S F
        refine ⟨by kernel_rfl, ?_⟩
        exact op_index _ 31 _ _ Af I.free.length cf ge 2 .i64 F rfl (by kernel_rfl) (by kernel_rfl) (by kernel_rfl) (by kernel_rfl) (by have h9 := get_lt hxg; (try simp only [List.length_set] at h9); omega) (row_some S 3 rfl (m := ge) (by have h9 := get_lt hxg; (try simp only [List.length_set] at h9); omega)) (⟨(), rfl, (SameB.refl _ _ rfl), S⟩)
       refine ⟨?_, ?_⟩
       ·
        refine ⟨_, rfl, rfl, by kernel_rfl, ?_⟩
        rintro D ⟨⟩ a z S F
        refine ⟨by kernel_rfl, ?_⟩
        exact op_indexArr _ 23 _ _ Af (ge * 2) 2 0 1 .i64 F rfl (by kernel_rfl) (by kernel_rfl) (by kernel_rfl) (by kernel_rfl) (by decide) (row_some S 3 rfl (m := ge) (by have h9 := get_lt hxg; (try simp only [List.length_set] at h9); omega)) (⟨(), rfl, (SameB.refl _ _ rfl), S⟩)
       refine ⟨?_, ?_⟩
       ·
        refine ⟨_, rfl, rfl, by kernel_rfl, ?_⟩
        rintro D ⟨⟩ a z S F
        refine ⟨by kernel_rfl, ?_⟩
        exact op_load _ _ Af (ge * 2) (.int .u64 xg.1) F rfl (by kernel_rfl) (by kernel_rfl) (cRec S 3 frC_len rfl 0 hxg rfl) (⟨(), rfl, (SameB.refl _ _ rfl), S⟩)
       refine ⟨?_, ?_⟩
       ·
        refine ⟨_, rfl, rfl, by kernel_rfl, ?_⟩
        rintro D ⟨⟩ a z S F
        refine ⟨by kernel_rfl, ?_⟩
        exact op_load _ _ (some ⟨b2, 0, none⟩) 3 (.slice mp.A3 ((amsL mp.p.legs).length) mp.c3) F rfl (by kernel_rfl) (by kernel_rfl) (cBox S 7 rfl (j := 3) rfl) (⟨(), rfl, (SameB.refl _ _ rfl), S⟩)
       refine ⟨?_, ?_⟩
       ·
        refine ⟨_, rfl, rfl, by kernel_rfl, ?_⟩
        rintro D ⟨⟩ a z S F
        refine ⟨by kernel_rfl, ?_⟩
        exact op_index _ 23 _ _ mp.A3 ((amsL mp.p.legs).length) mp.c3 k 1 .i64 F rfl (by kernel_rfl) (by kernel_rfl) (by kernel_rfl) (by kernel_rfl) (get_lt hca) (recs_some (pay_ams S 6 rfl (List.mem_of_getElem? hmp) (by omega)) (m := k) (get_lt hca)) (⟨(), rfl, (SameB.refl _ _ rfl), S⟩)
       refine ⟨?_, ?_⟩
       ·
        refine ⟨_, rfl, rfl, by kernel_rfl, ?_⟩
        rintro D ⟨⟩ a z S F
        refine ⟨by kernel_rfl, ?_⟩
        exact op_load _ _ mp.A3 (k * 1) (.int .u64 ga) F rfl (by kernel_rfl) (by kernel_rfl) (recs_cell iC_len_u64 (pay_ams S 6 rfl (List.mem_of_getElem? hmp) (by omega)) 0 hca rfl) (⟨(), rfl, (SameB.refl _ _ rfl), S⟩)
       refine ⟨?_, ?_⟩
       ·
        refine ⟨_, rfl, rfl, by kernel_rfl, ?_⟩
        rintro D ⟨⟩ a z S F
        refine ⟨by kernel_rfl, ?_⟩
        exact op_pure F (v0 := .int .u64 (IntKind.wrap .u64 (xg.1 + ga))) (v := .int .u64 (xg.1 + ga)) (by kernel_rfl) (wr_u64 (by omega) (by omega)) ⟨(), rfl, (SameB.refl _ _ rfl), S⟩
       refine ⟨?_, ?_⟩
       ·
        refine ⟨_, rfl, rfl, by kernel_rfl, ?_⟩
        rintro D ⟨⟩ a z S F
        refine ⟨by kernel_rfl, ?_⟩
        exact op_index _ 31 _ _ Af I.free.length cf ge 2 .i64 F rfl (by kernel_rfl) (by kernel_rfl) (by kernel_rfl) (by kernel_rfl) (by have h9 := get_lt hxg; (try simp only [List.length_set] at h9); omega) (row_some S 3 rfl (m := ge) (by have h9 := get_lt hxg; (try simp only [List.length_set] at h9); omega)) (⟨(), rfl, (SameB.refl _ _ rfl), S⟩)
       refine ⟨?_, ?_⟩
       ·
        refine ⟨_, rfl, rfl, by kernel_rfl, ?_⟩
        rintro D ⟨⟩ a z S F
        refine ⟨by kernel_rfl, ?_⟩
        exact op_indexArr _ 23 _ _ Af (ge * 2) 2 0 1 .i64 F rfl (by kernel_rfl) (by kernel_rfl) (by kernel_rfl) (by kernel_rfl) (by decide) (row_some S 3 rfl (m := ge) (by have h9 := get_lt hxg; (try simp only [List.length_set] at h9); omega)) (⟨(), rfl, (SameB.refl _ _ rfl), S⟩)
       refine ⟨?_, ?_⟩
       ·
        refine ⟨_, rfl, rfl, by kernel_rfl, ?_⟩
        rintro D ⟨⟩ a z S F
        refine ⟨by kernel_rfl, ?_⟩
        exact op_storeRec S 3 _ _ _ Af ge 2 0 (.int .u64 (xg.1 + ga)) ((xg.1 + ga, xg.2) : Int × Int) F frC_len hxg rfl rfl (by kernel_rfl) (by kernel_rfl) (by kernel_rfl) (by kernel_rfl) (by kernel_rfl) (by kernel_rfl) (by kernel_rfl) fun z S => ⟨(), rfl, (SameB.refl _ _ rfl), S⟩
       trivial
      ·
       rintro ⟨⟩ a z F S
       have F := F.sub (l := [(0, .pointer (some ⟨b, 0, none⟩)), (1, .int .u64 cid), (2, .bool true), (7, .pointer (some ⟨b2, 0, none⟩)), (34, .slice mp.A1 ((edgesL mp.p.legs).length) mp.c1), (35, .int .i64 ((edgesL mp.p.legs).length : Nat)), (36, .int .i64 (k : Nat))]) ⟨by kernel_rfl, by kernel_rfl, by kernel_rfl, by kernel_rfl, by kernel_rfl, by kernel_rfl, by kernel_rfl, trivial⟩
       have S : Sat w z [rest w G, box b 61 [.slice Ae I.ends.length ce, .slice Af I.free.length cf, .map (some r), .slice Ah I.has.length ch], rEl Ae ce I.ends, rF Af I.free.length cf (Fq.set ge ((xg.1 + ga, xg.2) : Int × Int)), rUl Ah ch I.has, mapA r .u64 (ps.map entM) ck, bag (ps.flatMap payRows), box b2 66 [.int .i64 1, .slice mp.A1 ((edgesL mp.p.legs).length) mp.c1, .slice mp.A2 ((sidesL mp.p.legs).length) mp.c2, .slice mp.A3 ((amsL mp.p.legs).length) mp.c3]] := S
       refine inb_n ?_
       refine then_n ?_
       refine wp_region_list ?_
       refine l_do F rfl rfl (op_pure F (v0 := .int .i64 (IntKind.wrap .i64 ((k : Nat) + 1))) (v := .int .i64 (k + 1 : Nat)) (by kernel_rfl) (wrn_i64 (by omega) (by omega) (by omega)) fun a F => ?_)
       refine l_pure 1 (fun L => (36, .int .i64 (k + 1 : Nat)) :: L) F (by kernel_rfl) fun a F => ?_
       refine l_then ?_
       exact ⟨_, (by omega), k + 1, (Fq.set ge ((xg.1 + ga, xg.2) : Int × Int)), rfl, (by omega), (by rw [List.length_set]; exact hFl), (set_free_nn hFn (by omega) (by omega)), (by rw [← hpl, payL_next hgl hxg]; rfl), (by rw [sumF_set hxg]; (try dsimp only); omega), F.sub ⟨by kernel_rfl, by kernel_rfl, by kernel_rfl, by kernel_rfl, by kernel_rfl, by kernel_rfl, by kernel_rfl, trivial⟩, S⟩
    ·
     skip
     have hk : k = mp.p.legs.length := by omega
     refine l_do F rfl rfl (op_pure F (v0 := .bool (decide (((k : Nat) : Int) < (((edgesL mp.p.legs).length : Nat) : Int)))) (v := .bool false) (by kernel_rfl) (lssF ht15) fun a F => ?_)
     refine l_then ?_
     refine wp_seq ?_
     refine c_f F rfl ?_
     refine wp_exit ?_
     refine then_x ?_
     refine then_x ?_
     refine inb_x ?_
     refine then_n ?_
     refine wp_seq ?_
     refine region_gx (fun D => fun (_ : Unit) => [rest w G, box b 61 [.slice Ae I.ends.length ce, .slice Af I.free.length cf, .map (some r), .slice Ah I.has.length ch], rEl Ae ce I.ends, rF Af I.free.length cf Fq, rUl Ah ch I.has, bif D 6 then mapA r .u64 (putM (ps.map entM) cid (.agg #[.int .i64 1, .slice mp.A1 ((edgesL mp.p.legs).length) mp.c1, .slice mp.A2 ((sidesL mp.p.legs).length) mp.c2, .slice mp.A3 ((amsL mp.p.legs).length) mp.c3]) ck) (putC (ps.map entM) cid ck) else mapA r .u64 (ps.map entM) ck, bag (ps.flatMap payRows), box b2 66 [.int .i64 1, .slice mp.A1 ((edgesL mp.p.legs).length) mp.c1, .slice mp.A2 ((sidesL mp.p.legs).length) mp.c2, .slice mp.A3 ((amsL mp.p.legs).length) mp.c3]]) (fun (_ : Unit) => [.pointer (some ⟨b, 0, none⟩), .pointer (some ⟨b, 0, none⟩), .pointer (some ⟨b, 2, none⟩), .map (some r), .int .u64 cid, .agg #[.int .i64 1, .slice mp.A1 ((edgesL mp.p.legs).length) mp.c1, .slice mp.A2 ((sidesL mp.p.legs).length) mp.c2, .slice mp.A3 ((amsL mp.p.legs).length) mp.c3], undef]) [(3, [], [6]), (5, [], [6]), (6, [3, 5], [])] () rfl (by kernel_rfl) (by kernel_rfl) F S.drew ?_ ?_ ?_ ?_ ?_
     · rintro ⟨⟩; rfl
     · rintro ⟨⟩; kernel_rfl
     ·
      intro D D' x h
      cases x
      simp only [h 6 (by decide)]
     ·
      refine ⟨?_, ?_⟩
      ·
       refine ⟨_, rfl, rfl, by kernel_rfl, ?_⟩
       rintro D ⟨⟩ a z S F
       refine ⟨by kernel_rfl, ?_⟩
       exact op_load _ _ (some ⟨b, 0, none⟩) 2 (.map (some r)) F rfl (by kernel_rfl) (by kernel_rfl) (cBox S 1 rfl (j := 2) rfl) (⟨(), rfl, (SameB.refl _ _ rfl), S⟩)
      refine ⟨?_, ?_⟩
      ·
       refine ⟨_, rfl, rfl, by kernel_rfl, ?_⟩
       rintro D ⟨⟩ a z S F
       refine ⟨by kernel_rfl, ?_⟩
       exact op_loadK _ _ (some ⟨b2, 0, none⟩) 0 [.int .i64 1, .slice mp.A1 ((edgesL mp.p.legs).length) mp.c1, .slice mp.A2 ((sidesL mp.p.legs).length) mp.c2, .slice mp.A3 ((amsL mp.p.legs).length) mp.c3] F rfl (by kernel_rfl) (by kernel_rfl) (by kernel_rfl) (by simp) (cBoxK S 7 rfl 0 (by kernel_rfl)) (⟨(), rfl, (SameB.refl _ _ rfl), S⟩)
      refine ⟨?_, ?_⟩
      ·
       refine ⟨_, rfl, rfl, by kernel_rfl, ?_⟩
       rintro D ⟨⟩ a z S F
       refine ⟨by kernel_rfl, ?_⟩
       exact op_mapUpdate S 5 _ 23 66 _ _ _ .u64 .u64 cid (.agg #[.int .i64 1, .slice mp.A1 ((edgesL mp.p.legs).length) mp.c1, .slice mp.A2 ((sidesL mp.p.legs).length) mp.c2, .slice mp.A3 ((amsL mp.p.legs).length) mp.c3]) F rfl rfl (by kernel_rfl) (by kernel_rfl) (by kernel_rfl) (by kernel_rfl) (by kernel_rfl) fun z S => ⟨(), rfl, (SameB.refl _ _ rfl), S⟩
      trivial
     ·
      rintro ⟨⟩ a z F S
      have F := F.sub (l := []) trivial
      have S : Sat w z [rest w G, box b 61 [.slice Ae I.ends.length ce, .slice Af I.free.length cf, .map (some r), .slice Ah I.has.length ch], rEl Ae ce I.ends, rF Af I.free.length cf Fq, rUl Ah ch I.has, mapA r .u64 (putM (ps.map entM) cid (.agg #[.int .i64 1, .slice mp.A1 ((edgesL mp.p.legs).length) mp.c1, .slice mp.A2 ((sidesL mp.p.legs).length) mp.c2, .slice mp.A3 ((amsL mp.p.legs).length) mp.c3]) ck) (putC (ps.map entM) cid ck), bag (ps.flatMap payRows), box b2 66 [.int .i64 1, .slice mp.A1 ((edgesL mp.p.legs).length) mp.c1, .slice mp.A2 ((sidesL mp.p.legs).length) mp.c2, .slice mp.A3 ((amsL mp.p.legs).length) mp.c3]] := S
      refine then_n ?_
      refine s_reg ?_
      refine l_pure 1 (fun L => (6, .int .i64 0) :: L) F (by kernel_rfl) fun a F => ?_
      refine l_then ?_
      refine wp_ret ?_
      obtain ⟨hm1, hm2⟩ := putM_pays (ck0 := ck) hps hf hmp (m' := ({ mp with p := ⟨mp.p.id, 1, mp.p.legs⟩ } : PayM)) rfl hid
      have S : Sat w z [rest w G, box b 61 [.slice Ae I.ends.length ce, .slice Af I.free.length cf, .map (some r), .slice Ah I.has.length ch], rEl Ae ce I.ends, rF Af I.free.length cf Fq, rUl Ah ch I.has, mapA r .u64 (putM (ps.map entM) cid (.agg #[.int .i64 1, .slice mp.A1 ((edgesL mp.p.legs).length) mp.c1, .slice mp.A2 ((sidesL mp.p.legs).length) mp.c2, .slice mp.A3 ((amsL mp.p.legs).length) mp.c3]) ck) (putC (ps.map entM) cid ck), bag (ps.flatMap payRows), box b2 66 [.int .i64 1, .slice mp.A1 ((edgesL mp.p.legs).length) mp.c1, .slice mp.A2 ((sidesL mp.p.legs).length) mp.c2, .slice mp.A3 ((amsL mp.p.legs).length) mp.c3]] := S
      rw [show putM (ps.map entM) cid (.agg #[.int .i64 1, .slice mp.A1 ((edgesL mp.p.legs).length) mp.c1, .slice mp.A2 ((sidesL mp.p.legs).length) mp.c2, .slice mp.A3 ((amsL mp.p.legs).length) mp.c3]) ck = (ps.set im ({ mp with p := ⟨mp.p.id, 1, mp.p.legs⟩ } : PayM)).map entM from hm1, show putC (ps.map entM) cid ck = ck from hm2] at S
      rw [hk, List.drop_length] at hpl
      rw [show ps.flatMap payRows = (ps.set im ({ mp with p := ⟨mp.p.id, 1, mp.p.legs⟩ } : PayM)).flatMap payRows from (rows_set (m' := ({ mp with p := ⟨mp.p.id, 1, mp.p.legs⟩ } : PayM)) hmp rfl).symm] at S
      have hpl : Fq = payL true I.free mp.p.legs := hpl
      subst hpl
      exact fin F [.tmp 6] [.int .i64 0] rfl ⟨by kernel_rfl, trivial⟩ (.int .i64 0) rfl ⟨by rw [end_ok (paid := true) hf hlm hs0], by rw [end_ok (paid := true) hf hlm hs0]; exact (id_shut (psok_set (m' := ({ mp with p := ⟨mp.p.id, 1, mp.p.legs⟩ } : PayM)) hps hmp rfl) (by first | rfl | (rw [payL_len]) | (simp; omega)) (by first | rfl | (rw [payL_len]) | (simp; omega)) (by first | rfl | (rw [payL_len]) | (simp; omega)) (S.pick [0, 1, 2, 3, 4, 5, 6] (by decide)))⟩
  ·
   skip
   refine l_do F rfl rfl (op_pure F (v0 := .bool ((mp.p.state : Int) != (0 : Int))) (v := .bool true) (by kernel_rfl) (neqT ht3) fun a F => ?_)
   refine l_pure 1 (fun L => (26, .bool true) :: L) F (by kernel_rfl) fun a F => ?_
   refine l_then ?_
   refine c_t F rfl ?_
   refine s_reg ?_
   refine l_pure 1 (fun L => (6, .int .i64 3) :: L) F (by kernel_rfl) fun a F => ?_
   refine l_then ?_
   refine wp_ret ?_
   refine inb_r (then_r (?_))
   exact fin F [.tmp 6] [.int .i64 3] rfl ⟨by kernel_rfl, trivial⟩ (.int .i64 3) rfl ⟨by rw [end_state hf hlm ht3], by rw [end_state hf hlm ht3]; exact (id_shut hps (by simp) (by simp) (by simp) (S.pick [0, 1, 2, 3, 4, 5, 6] (by decide)))⟩
set_option maxRecDepth 100000 in
set_option maxHeartbeats 4000000 in
theorem new24_bad (w : World) (Ax : Option Addr) (cx : Nat) (X : List Int) (hX : Recs 1 iC_u64 w Ax cx X) (hXu : ∀ a ∈ X, U64 a) (hne : newE X ≠ 0) : Calls Try.prog 7 #[.slice Ax X.length cx] w fun e w' => e = .returned (.tuple #[.pointer none, .int .i64 (newE X)]) ∧ Below w.heap.size w w' := by
 refine enter 22 Try.func7 rfl rfl rfl fun a F => ?_
 have S := Sat.pushRest w
 refine s_reg ?_
 refine l_pure 2 (fun L => (3, .int .i64 0) :: (2, .pointer none) :: L) F (by kernel_rfl) fun a F => ?_
 refine l_then ?_
 refine wp_seq ?_
 refine s_reg ?_
 refine l_pure 2 (fun L => (7, .int .i64 (X.length : Nat)) :: (6, .slice Ax X.length cx) :: L) F (by kernel_rfl) fun a F => ?_
 by_cases ht1 : (8 : Int) < ((X.length : Nat) : Int)
 ·
  skip
  refine l_do F rfl rfl (op_pure F (v0 := .bool (decide (((X.length : Nat) : Int) > (8 : Int)))) (v := .bool true) (by kernel_rfl) (gtrT ht1) fun a F => ?_)
  refine l_then ?_
  refine c_t F rfl ?_
  refine s_reg ?_
  refine l_pure 2 (fun L => (3, .int .i64 8) :: (2, .pointer none) :: L) F (by kernel_rfl) fun a F => ?_
  refine l_then ?_
  refine wp_ret ?_
  refine then_r (?_)
  exact fin F [.tmp 2, .tmp 3] [.pointer none, .int .i64 8] rfl ⟨by kernel_rfl, by kernel_rfl, trivial⟩ (.tuple #[.pointer none, .int .i64 8]) rfl ⟨by rw [show newE X = 8 from if_pos (by omega)], S.below (i := 0) rfl⟩
 ·
  skip
  refine l_do F rfl rfl (op_pure F (v0 := .bool (decide (((X.length : Nat) : Int) > (8 : Int)))) (v := .bool false) (by kernel_rfl) (gtrF ht1) fun a F => ?_)
  refine l_then ?_
  refine c_f F rfl ?_
  refine wp_skip ?_
  refine then_n ?_
  refine wp_seq ?_
  refine s_reg ?_
  refine l_pure 1 (fun L => (10, .slice Ax X.length cx) :: L) F (by kernel_rfl) fun a F => ?_
  refine l_do F rfl rfl (op_fn F (by kernel_rfl) (sum_any _ Ax cx X (words_of_recs (hX.mono (src_rest S (i := 0) rfl hX.src (src_lt hX.src))) hXu (by omega))) ?_)
  rintro e z ⟨rfl, hw⟩
  first | subst hw | (have hw := hw.symm; subst hw)
  refine ⟨_, rfl, ?_⟩
  intro a F
  refine l_pure 5 (fun L => (5, .int .i64 ((sumP 0 X).2)) :: (4, .int .u64 ((sumP 0 X).1)) :: (13, .int .i64 ((sumP 0 X).2)) :: (12, .int .u64 ((sumP 0 X).1)) :: (9, .tuple #[.int .u64 ((sumP 0 X).1), .int .i64 ((sumP 0 X).2)]) :: L) F (by kernel_rfl) fun a F => ?_
  refine l_then ?_
  refine s_reg ?_
  refine l_pure 1 (fun L => (14, .int .i64 ((sumP 0 X).2)) :: L) F (by kernel_rfl) fun a F => ?_
  by_cases ht2 : ((sumP 0 X).2 : Int) = (0 : Int)
  · exact absurd ((if_neg (by omega) : newE X = (sumP 0 X).2).trans ht2) hne
  ·
   skip
   refine l_do F rfl rfl (op_pure F (v0 := .bool (((sumP 0 X).2 : Int) != (0 : Int))) (v := .bool true) (by kernel_rfl) (neqT ht2) fun a F => ?_)
   refine l_then ?_
   refine c_t F rfl ?_
   refine s_reg ?_
   refine l_pure 3 (fun L => (3, .int .i64 ((sumP 0 X).2)) :: (2, .pointer none) :: (16, .int .i64 ((sumP 0 X).2)) :: L) F (by kernel_rfl) fun a F => ?_
   refine l_then ?_
   refine wp_ret ?_
   refine then_r (?_)
   exact fin F [.tmp 2, .tmp 3] [.pointer none, .int .i64 ((sumP 0 X).2)] rfl ⟨by kernel_rfl, by kernel_rfl, trivial⟩ (.tuple #[.pointer none, .int .i64 ((sumP 0 X).2)]) rfl ⟨by rw [show newE X = (sumP 0 X).2 from if_neg (by omega)], S.below (i := 0) rfl⟩
set_option maxRecDepth 100000 in
set_option maxHeartbeats 4000000 in
theorem new24_ok (w : World) (Ax : Option Addr) (cx : Nat) (X : List Int) (hX : Recs 1 iC_u64 w Ax cx X) (hXu : ∀ a ∈ X, U64 a) (hz : newE X = 0) : Calls Try.prog 7 #[.slice Ax X.length cx] w fun e w' => ∃ b : Nat, e = .returned (.tuple #[.pointer (some ⟨b, 0, none⟩), .int .i64 0]) ∧ Sat w w' [rest w (· < w.heap.size), idA b ⟨X, [], [], []⟩] := by
 refine enter 22 Try.func7 rfl rfl rfl fun a F => ?_
 have S := Sat.pushRest w
 refine s_reg ?_
 refine l_pure 2 (fun L => (3, .int .i64 0) :: (2, .pointer none) :: L) F (by kernel_rfl) fun a F => ?_
 refine l_then ?_
 refine wp_seq ?_
 refine s_reg ?_
 refine l_pure 2 (fun L => (7, .int .i64 (X.length : Nat)) :: (6, .slice Ax X.length cx) :: L) F (by kernel_rfl) fun a F => ?_
 by_cases ht1 : (8 : Int) < ((X.length : Nat) : Int)
 · exact absurd ((if_pos (by omega) : newE X = 8).symm.trans hz) (by decide)
 ·
  skip
  refine l_do F rfl rfl (op_pure F (v0 := .bool (decide (((X.length : Nat) : Int) > (8 : Int)))) (v := .bool false) (by kernel_rfl) (gtrF ht1) fun a F => ?_)
  refine l_then ?_
  refine c_f F rfl ?_
  refine wp_skip ?_
  refine then_n ?_
  refine wp_seq ?_
  refine s_reg ?_
  refine l_pure 1 (fun L => (10, .slice Ax X.length cx) :: L) F (by kernel_rfl) fun a F => ?_
  refine l_do F rfl rfl (op_fn F (by kernel_rfl) (sum_any _ Ax cx X (words_of_recs (hX.mono (src_rest S (i := 0) rfl hX.src (src_lt hX.src))) hXu (by omega))) ?_)
  rintro e z ⟨rfl, hw⟩
  first | subst hw | (have hw := hw.symm; subst hw)
  refine ⟨_, rfl, ?_⟩
  intro a F
  refine l_pure 5 (fun L => (5, .int .i64 ((sumP 0 X).2)) :: (4, .int .u64 ((sumP 0 X).1)) :: (13, .int .i64 ((sumP 0 X).2)) :: (12, .int .u64 ((sumP 0 X).1)) :: (9, .tuple #[.int .u64 ((sumP 0 X).1), .int .i64 ((sumP 0 X).2)]) :: L) F (by kernel_rfl) fun a F => ?_
  refine l_then ?_
  refine s_reg ?_
  refine l_pure 1 (fun L => (14, .int .i64 ((sumP 0 X).2)) :: L) F (by kernel_rfl) fun a F => ?_
  by_cases ht2 : ((sumP 0 X).2 : Int) = (0 : Int)
  ·
   skip
   refine l_do F rfl rfl (op_pure F (v0 := .bool (((sumP 0 X).2 : Int) != (0 : Int))) (v := .bool false) (by kernel_rfl) (neqF ht2) fun a F => ?_)
   refine l_then ?_
   refine c_f F rfl ?_
   refine wp_skip ?_
   refine then_n ?_
   refine s_reg ?_
   refine l_pure 1 (fun L => (17, .slice Ax X.length cx) :: L) F (by kernel_rfl) fun a F => ?_
   refine l_do F rfl rfl (op_fn F (by kernel_rfl) (cloneu_any _ Ax cx X (hX.mono (src_rest S (i := 0) rfl hX.src (src_lt hX.src))) (by omega)) ?_)
   rintro e z ⟨Ah, ch, rfl, g⟩
   have S := S.pushThings g
   refine ⟨_, rfl, ?_⟩
   intro a F
   refine l_do F rfl rfl (op_makeMap S _ .u64 rfl fun r3 z S a F => ?_)
   refine l_pure 1 (fun L => (20, .agg #[.slice none 0 0, .slice none 0 0, .map (some r3), .slice Ah X.length ch]) :: L) F (by kernel_rfl) fun a F => ?_
   refine l_do F rfl rfl (op_box S _ _ (.agg #[.slice none 0 0, .slice none 0 0, .map (some r3), .slice Ah X.length ch]) F rfl (by kernel_rfl) fun b4 z S a F => ?_)
   refine l_pure 2 (fun L => (3, .int .i64 0) :: (2, .pointer (some ⟨b4, 0, none⟩)) :: L) F (by kernel_rfl) fun a F => ?_
   refine l_then ?_
   refine wp_ret ?_
   have S := ((S.nilRow 63 2).nilRow 31 2).pushBag
   exact fin F [.tmp 2, .tmp 3] [.pointer (some ⟨b4, 0, none⟩), .int .i64 0] rfl ⟨by kernel_rfl, by kernel_rfl, trivial⟩ (.tuple #[.pointer (some ⟨b4, 0, none⟩), .int .i64 0]) rfl ⟨b4, rfl, (id_shut (b := b4) (H := X) (E := []) (F := []) (l := []) (ps := []) ⟨rfl, (fun q9 h9 => absurd h9 List.not_mem_nil), List.nodup_nil⟩ rfl rfl rfl (S.pick [0, 3, 4, 5, 1, 2, 6] (by decide))).pick [1, 0] (by decide)⟩
  · exact absurd ((if_neg (by omega) : newE X = (sumP 0 X).2).symm.trans hz) ht2
end Go.Proofs.Ytecgpkjigbhneaa
