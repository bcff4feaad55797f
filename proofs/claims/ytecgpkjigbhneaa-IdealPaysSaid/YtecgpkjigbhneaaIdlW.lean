/- Walks over the document's ideal: payments end; closing; sums. -/
import Derived.Test.YtecgpkjigbhneaaIdlU
namespace Go.Proofs.Ytecgpkjigbhneaa
set_option linter.unusedVariables false
set_option linter.unusedSimpArgs false
set_option linter.unnecessarySimpa false
open Go Go.RowKit

set_option maxRecDepth 100000 in
set_option maxHeartbeats 4000000 in
theorem rend24_any (w : World) (G : Nat → Prop) (b : Nat) (I : Idl) (ok : IOk I) (hS : Sat w w [refA b I, rest w G]) (hpn : I.pays.length ≤ 900) (cid : Int) (paid : Bool) : Calls Try.prog 37 #[.pointer (some ⟨b, 0, none⟩), .int .u64 cid, .bool paid] w fun e w' => e = .returned (.int .i64 (endP I cid paid).2) ∧ Sat w w' [refA b (endP I cid paid).1, rest w G] := by
 refine enter 91 Try.func37 rfl rfl rfl fun a F => ?_
 obtain ⟨Ah, ch, Ae, ce, Af, cf, Al, cl, qs, hqs, S⟩ := ref_open hS
 have hfl := ok.fl
 have hel := ok.el
 have hsm := ok.sums
 have hql := qs_len hqs
 refine s_reg ?_
 refine l_pure 1 (fun L => (6, .int .i64 0) :: L) F (by kernel_rfl) fun a F => ?_
 refine l_then ?_
 refine s_reg ?_
 refine l_pure 2 (fun L => (12, .int .u64 cid) :: (11, .pointer (some ⟨b, 0, none⟩)) :: L) F (by kernel_rfl) fun a F => ?_
 rcases rlook_cases hqs cid with ⟨hf, hv⟩ | ⟨iq, q, hf, hq, hlq, hid, hv⟩
 ·
  skip
  obtain ⟨G9, g9, hin9, hlt9, k9⟩ := S.frameB [1, 5] (by decide) rfl
  refine l_do F rfl rfl (op_fn F (by kernel_rfl) (rfind24_at hqs hv _ G9 b Ah I.has.length ch Ae I.ends.length ce Af I.free.length cf Al cl (by omega) g9) ?_)
  rintro e z9 ⟨rfl, g⟩
  have S : Sat w z9 [rest w G, box b 74 [.slice Ah I.has.length ch, .slice Ae I.ends.length ce, .slice Af I.free.length cf, .slice Al qs.length cl], rUl Ah ch I.has, rEl Ae ce I.ends, rFl Af cf I.free, rPl Al cl qs, bag (qs.flatMap legRows)] := k9 z9 [box b 74 [.slice Ah I.has.length ch, .slice Ae I.ends.length ce, .slice Af I.free.length cf, .slice Al qs.length cl], rPl Al cl qs] rfl g
  clear g g9 k9 hin9 hlt9
  refine ⟨_, rfl, ?_⟩
  intro a F
  refine l_pure 1 (fun L => (7, .int .i64 (-1)) :: L) F (by kernel_rfl) fun a F => ?_
  refine l_then ?_
  refine wp_seq ?_
  refine s_reg ?_
  refine l_pure 2 (fun L => (15, .bool true) :: (14, .int .i64 (-1)) :: L) F (by kernel_rfl) fun a F => ?_
  refine l_then ?_
  refine c_t F rfl ?_
  refine s_reg ?_
  refine l_pure 1 (fun L => (6, .int .i64 6) :: L) F (by kernel_rfl) fun a F => ?_
  refine l_then ?_
  refine wp_ret ?_
  refine then_r (?_)
  exact fin F [.tmp 6] [.int .i64 6] rfl ⟨by kernel_rfl, trivial⟩ (.int .i64 6) rfl ⟨by rw [end_none hf], by rw [end_none hf]; exact (ref_shut hqs (by simp) (by simp) (by simp) (by simp) (S.pick [0, 1, 2, 3, 4, 5, 6] (by decide)))⟩
 ·
  skip
  obtain ⟨hst, hll, hlg⟩ := ok.lg q.p (List.mem_of_getElem? hlq)
  have hheld : heldOf q.p ≤ heldP I.pays := (sumI_one _ iq _ (fun a9 ha9 => by rw [List.mem_map] at ha9; obtain ⟨p9, hp9, rfl⟩ := ha9; exact heldOf_nn ok hp9) (by rw [List.getElem?_map, hlq]; rfl)).2
  have hiq := (List.getElem?_eq_some_iff.1 hq).1
  obtain ⟨G9, g9, hin9, hlt9, k9⟩ := S.frameB [1, 5] (by decide) rfl
  refine l_do F rfl rfl (op_fn F (by kernel_rfl) (rfind24_at hqs hv _ G9 b Ah I.has.length ch Ae I.ends.length ce Af I.free.length cf Al cl (by omega) g9) ?_)
  rintro e z9 ⟨rfl, g⟩
  have S : Sat w z9 [rest w G, box b 74 [.slice Ah I.has.length ch, .slice Ae I.ends.length ce, .slice Af I.free.length cf, .slice Al qs.length cl], rUl Ah ch I.has, rEl Ae ce I.ends, rFl Af cf I.free, rPl Al cl qs, bag (qs.flatMap legRows)] := k9 z9 [box b 74 [.slice Ah I.has.length ch, .slice Ae I.ends.length ce, .slice Af I.free.length cf, .slice Al qs.length cl], rPl Al cl qs] rfl g
  clear g g9 k9 hin9 hlt9
  refine ⟨_, rfl, ?_⟩
  intro a F
  refine l_pure 1 (fun L => (7, .int .i64 (iq : Nat)) :: L) F (by kernel_rfl) fun a F => ?_
  refine l_then ?_
  refine wp_seq ?_
  refine s_reg ?_
  refine l_pure 1 (fun L => (14, .int .i64 (iq : Nat)) :: L) F (by kernel_rfl) fun a F => ?_
  refine l_do F rfl rfl (op_pure F (v0 := .bool (decide (((iq : Nat) : Int) < (0 : Int)))) (v := .bool false) (by kernel_rfl) (lssF (by omega)) fun a F => ?_)
  refine l_then ?_
  refine c_f F rfl ?_
  refine wp_skip ?_
  refine then_n ?_
  refine wp_seq ?_
  refine s_reg ?_
  refine l_pure 3 (fun L => (18, .pointer (some ⟨b, 3, none⟩)) :: (17, .pointer (some ⟨b, 0, none⟩)) :: (16, .pointer (some ⟨b, 0, none⟩)) :: L) F (by kernel_rfl) fun a F => ?_
  refine l_do F rfl rfl (op_load _ _ (some ⟨b, 0, none⟩) 3 (.slice Al qs.length cl) F rfl (by kernel_rfl) (by kernel_rfl) (cBox S 1 rfl (j := 3) rfl) (fun a F => ?_))
  refine l_pure 1 (fun L => (20, .int .i64 (iq : Nat)) :: L) F (by kernel_rfl) fun a F => ?_
  refine l_do F rfl rfl (op_index _ 83 _ _ Al qs.length cl iq 3 .i64 F rfl (by kernel_rfl) (by kernel_rfl) (by kernel_rfl) (by kernel_rfl) (get_lt hq) (row_some S 5 rfl (m := iq) (get_lt hq)) (fun a F => ?_))
  refine l_do F rfl rfl (op_field _ _ _ Al (iq * 3) 1 F rfl (by kernel_rfl) (by kernel_rfl) (row_some S 5 rfl (m := iq) (get_lt hq)) (fun a F => ?_))
  refine l_do F rfl rfl (op_load _ _ Al (iq * 3 + 1) (.int .i64 q.p.state) F rfl (by kernel_rfl) (by kernel_rfl) (cRec S 5 payC_len rfl 1 hq rfl) (fun a F => ?_))
  by_cases ht1 : (q.p.state : Int) = (0 : Int)
  ·
   skip
   have hs0 := ht1
   have hheq : heldOf q.p = legSum q.p.legs := if_pos hs0
   refine l_do F rfl rfl (op_pure F (v0 := .bool ((q.p.state : Int) != (0 : Int))) (v := .bool false) (by kernel_rfl) (neqF ht1) fun a F => ?_)
   refine l_then ?_
   refine c_f F rfl ?_
   refine wp_skip ?_
   refine then_n ?_
   refine s_reg ?_
   refine l_pure 3 (fun L => (27, .pointer (some ⟨b, 3, none⟩)) :: (26, .pointer (some ⟨b, 0, none⟩)) :: (25, .pointer (some ⟨b, 0, none⟩)) :: L) F (by kernel_rfl) fun a F => ?_
   refine l_do F rfl rfl (op_load _ _ (some ⟨b, 0, none⟩) 3 (.slice Al qs.length cl) F rfl (by kernel_rfl) (by kernel_rfl) (cBox S 1 rfl (j := 3) rfl) (fun a F => ?_))
   refine l_pure 1 (fun L => (29, .int .i64 (iq : Nat)) :: L) F (by kernel_rfl) fun a F => ?_
   refine l_do F rfl rfl (op_index _ 83 _ _ Al qs.length cl iq 3 .i64 F rfl (by kernel_rfl) (by kernel_rfl) (by kernel_rfl) (by kernel_rfl) (get_lt hq) (row_some S 5 rfl (m := iq) (get_lt hq)) (fun a F => ?_))
   refine l_do F rfl rfl (op_field _ _ _ Al (iq * 3) 1 F rfl (by kernel_rfl) (by kernel_rfl) (row_some S 5 rfl (m := iq) (get_lt hq)) (fun a F => ?_))
   refine l_do F rfl rfl (op_storeRec S 5 _ _ _ Al iq 3 1 (.int .i64 2) (⟨q.A, q.c, ⟨q.p.id, 2, q.p.legs⟩⟩ : PayR) F payC_len hq rfl rfl (by kernel_rfl) (by kernel_rfl) (by kernel_rfl) (by kernel_rfl) (by kernel_rfl) (by kernel_rfl) (by kernel_rfl) fun z S a F => ?_)
   refine l_then ?_
   refine wp_seq ?_
   refine s_reg ?_
   refine l_pure 1 (fun L => (32, .bool paid) :: L) F (by kernel_rfl) fun a F => ?_
   refine l_then ?_
   cases paid with
   | false =>
    skip
    refine c_f F rfl ?_
    refine wp_skip ?_
    refine then_n ?_
    refine wp_seq ?_
    refine s_reg ?_
    refine l_pure 1 (fun L => (8, .int .i64 0) :: L) F (by kernel_rfl) fun a F => ?_
    refine l_then ?_
    refine wp_block ?_
    refine wp_loop_m (fun m a z => ∃ (k : Nat) (Fq : List (Int × Int)), m = q.p.legs.length - k ∧ (k ≤ q.p.legs.length) ∧ (Fq.length = I.ends.length) ∧ (∀ f ∈ Fq, 0 ≤ f.1 ∧ 0 ≤ f.2) ∧ (payL false Fq (q.p.legs.drop k) = payL false I.free q.p.legs) ∧ (sumF Fq + legSum (q.p.legs.drop k) = sumF I.free + legSum q.p.legs) ∧ Fr a 91 [(0, .pointer (some ⟨b, 0, none⟩)), (2, .bool false), (7, .int .i64 (iq : Nat)), (8, .int .i64 (k : Nat))] ∧ Sat w z [rest w G, box b 74 [.slice Ah I.has.length ch, .slice Ae I.ends.length ce, .slice Af I.free.length cf, .slice Al qs.length cl], rUl Ah ch I.has, rEl Ae ce I.ends, rF Af I.free.length cf Fq, rP Al qs.length cl (qs.set iq (⟨q.A, q.c, ⟨q.p.id, 2, q.p.legs⟩⟩ : PayR)), bag (qs.flatMap legRows)]) _ ⟨0, I.free, rfl, Nat.zero_le _, ok.fl, ok.fu, rfl, rfl, F.sub ⟨by kernel_rfl, by kernel_rfl, by kernel_rfl, by kernel_rfl, trivial⟩, S⟩ ?_
    rintro m a z ⟨k, Fq, hm, hf2, hf3, hf4, hf5, hf6, F, S⟩
    have hFl := hf3
    have hFn := hf4
    have hpl := hf5
    have hSF := hf6
    have hfl9 := ok.fl
    refine wp_seq ?_
    refine s_reg ?_
    refine l_pure 4 (fun L => (43, .pointer (some ⟨b, 3, none⟩)) :: (42, .pointer (some ⟨b, 0, none⟩)) :: (41, .pointer (some ⟨b, 0, none⟩)) :: (40, .int .i64 (k : Nat)) :: L) F (by kernel_rfl) fun a F => ?_
    refine l_do F rfl rfl (op_load _ _ (some ⟨b, 0, none⟩) 3 (.slice Al qs.length cl) F rfl (by kernel_rfl) (by kernel_rfl) (cBox S 1 rfl (j := 3) rfl) (fun a F => ?_))
    refine l_pure 1 (fun L => (45, .int .i64 (iq : Nat)) :: L) F (by kernel_rfl) fun a F => ?_
    refine l_do F rfl rfl (op_index _ 83 _ _ Al qs.length cl iq 3 .i64 F rfl (by kernel_rfl) (by kernel_rfl) (by kernel_rfl) (by kernel_rfl) (by have h9 := get_lt (set_at (y := (⟨q.A, q.c, ⟨q.p.id, 2, q.p.legs⟩⟩ : PayR)) hq); (try simp only [List.length_set] at h9); omega) (row_some S 5 rfl (m := iq) (by have h9 := get_lt (set_at (y := (⟨q.A, q.c, ⟨q.p.id, 2, q.p.legs⟩⟩ : PayR)) hq); (try simp only [List.length_set] at h9); omega)) (fun a F => ?_))
    refine l_do F rfl rfl (op_field _ _ _ Al (iq * 3) 2 F rfl (by kernel_rfl) (by kernel_rfl) (row_some S 5 rfl (m := iq) (by have h9 := get_lt (set_at (y := (⟨q.A, q.c, ⟨q.p.id, 2, q.p.legs⟩⟩ : PayR)) hq); (try simp only [List.length_set] at h9); omega)) (fun a F => ?_))
    refine l_do F rfl rfl (op_load _ _ Al (iq * 3 + 2) (.slice q.A q.p.legs.length q.c) F rfl (by kernel_rfl) (by kernel_rfl) (cRec S 5 payC_len rfl 2 (set_at (y := (⟨q.A, q.c, ⟨q.p.id, 2, q.p.legs⟩⟩ : PayR)) hq) rfl) (fun a F => ?_))
    refine l_pure 1 (fun L => (49, .int .i64 (q.p.legs.length : Nat)) :: L) F (by kernel_rfl) fun a F => ?_
    by_cases ht7 : ((k : Nat) : Int) < ((q.p.legs.length : Nat) : Int)
    ·
     skip
     obtain ⟨⟨ge, gs, ga⟩, hgl⟩ : ∃ l, q.p.legs[k]? = some l := ⟨_, List.getElem?_eq_getElem (by omega)⟩
     obtain ⟨hge, hgs2, hga⟩ := hlg _ (List.mem_of_getElem? hgl)
     dsimp only at hge hgs2 hga
     obtain ⟨xg, hxg⟩ : ∃ xg, Fq[ge]? = some xg := ⟨_, List.getElem?_eq_getElem (by omega)⟩
     have hxn := hFn _ (List.mem_of_getElem? hxg)
     have hxs := sumF_one hFn hxg
     have hld := leg_drop hgl
     dsimp only at hld
     have hln := legSum_nn (l := q.p.legs.drop (k + 1)) (fun x hx => (hlg x (List.mem_of_mem_drop hx)).2.2)
     have hgs : gs = 0 ∨ gs = 1 := by omega
     refine l_do F rfl rfl (op_pure F (v0 := .bool (decide (((k : Nat) : Int) < ((q.p.legs.length : Nat) : Int)))) (v := .bool true) (by kernel_rfl) (lssT ht7) fun a F => ?_)
     refine l_then ?_
     refine c_t F rfl ?_
     refine wp_skip ?_
     refine then_n ?_
     refine wp_seq ?_
     refine wp_block ?_
     refine s_reg ?_
     refine l_pure 3 (fun L => (55, .pointer (some ⟨b, 3, none⟩)) :: (54, .pointer (some ⟨b, 0, none⟩)) :: (53, .pointer (some ⟨b, 0, none⟩)) :: L) F (by kernel_rfl) fun a F => ?_
     refine l_do F rfl rfl (op_load _ _ (some ⟨b, 0, none⟩) 3 (.slice Al qs.length cl) F rfl (by kernel_rfl) (by kernel_rfl) (cBox S 1 rfl (j := 3) rfl) (fun a F => ?_))
     refine l_pure 1 (fun L => (57, .int .i64 (iq : Nat)) :: L) F (by kernel_rfl) fun a F => ?_
     refine l_do F rfl rfl (op_index _ 83 _ _ Al qs.length cl iq 3 .i64 F rfl (by kernel_rfl) (by kernel_rfl) (by kernel_rfl) (by kernel_rfl) (by have h9 := get_lt (set_at (y := (⟨q.A, q.c, ⟨q.p.id, 2, q.p.legs⟩⟩ : PayR)) hq); (try simp only [List.length_set] at h9); omega) (row_some S 5 rfl (m := iq) (by have h9 := get_lt (set_at (y := (⟨q.A, q.c, ⟨q.p.id, 2, q.p.legs⟩⟩ : PayR)) hq); (try simp only [List.length_set] at h9); omega)) (fun a F => ?_))
     refine l_do F rfl rfl (op_field _ _ _ Al (iq * 3) 2 F rfl (by kernel_rfl) (by kernel_rfl) (row_some S 5 rfl (m := iq) (by have h9 := get_lt (set_at (y := (⟨q.A, q.c, ⟨q.p.id, 2, q.p.legs⟩⟩ : PayR)) hq); (try simp only [List.length_set] at h9); omega)) (fun a F => ?_))
     refine l_do F rfl rfl (op_load _ _ Al (iq * 3 + 2) (.slice q.A q.p.legs.length q.c) F rfl (by kernel_rfl) (by kernel_rfl) (cRec S 5 payC_len rfl 2 (set_at (y := (⟨q.A, q.c, ⟨q.p.id, 2, q.p.legs⟩⟩ : PayR)) hq) rfl) (fun a F => ?_))
     refine l_pure 1 (fun L => (61, .int .i64 (k : Nat)) :: L) F (by kernel_rfl) fun a F => ?_
     refine l_do F rfl rfl (op_index _ 92 _ _ q.A q.p.legs.length q.c k 3 .i64 F rfl (by kernel_rfl) (by kernel_rfl) (by kernel_rfl) (by kernel_rfl) (get_lt hgl) (recs_some (pay_legs S 6 rfl (List.mem_of_getElem? hq) (by omega)) (m := k) (get_lt hgl)) (fun a F => ?_))
     refine l_do F rfl rfl (op_loadK _ _ q.A (k * 3) [.int .i64 (ge : Nat), .int .i64 (gs : Nat), .int .u64 ga] F rfl (by kernel_rfl) (by kernel_rfl) (by kernel_rfl) (by simp) (cReadK0 legC_len (pay_legs S 6 rfl (List.mem_of_getElem? hq) (by omega)) hgl (by kernel_rfl)) (fun a F => ?_))
     refine l_do F rfl rfl (op_alloc S _ (.agg #[.int .i64 0, .int .i64 0, .int .u64 0]) rfl (by kernel_rfl) fun b8 z S a F => ?_)
     refine l_do F rfl rfl (op_storeB S 7 _ _ _ b8 0 (.agg #[.int .i64 (ge : Nat), .int .i64 (gs : Nat), .int .u64 ga]) F rfl rfl (by kernel_rfl) (by kernel_rfl) (by kernel_rfl) (by kernel_rfl) (by kernel_rfl) fun z S a F => ?_)
     refine l_then ?_
     refine s_reg ?_
     refine l_pure 1 (fun L => (64, .pointer (some ⟨b8, 1, none⟩)) :: L) F (by kernel_rfl) fun a F => ?_
     refine l_do F rfl rfl (op_load _ _ (some ⟨b8, 0, none⟩) 1 (.int .i64 (gs : Nat)) F rfl (by kernel_rfl) (by kernel_rfl) (cBox S 7 rfl (j := 1) rfl) (fun a F => ?_))
     refine l_pure 1 (fun L => (10, .int .i64 (gs : Nat)) :: L) F (by kernel_rfl) fun a F => ?_
     refine l_then ?_
     refine wp_seq ?_
     refine s_reg ?_
     refine l_pure 1 (fun L => (66, .bool false) :: L) F (by kernel_rfl) fun a F => ?_
     refine l_then ?_
     refine c_f F rfl ?_
     refine wp_skip ?_
     refine then_n ?_
     have hn9 : Option.isSome Al = true := (row_some S 5 rfl (m := iq) (by have h9 := get_lt (set_at (y := (⟨q.A, q.c, ⟨q.p.id, 2, q.p.legs⟩⟩ : PayR)) hq); (try simp only [List.length_set] at h9); omega))
     rcases hgs with rfl | rfl
     ·
      skip
      refine region_gx (fun D => fun (_ : Unit) => [rest w G, box b 74 [.slice Ah I.has.length ch, .slice Ae I.ends.length ce, .slice Af I.free.length cf, .slice Al qs.length cl], rUl Ah ch I.has, rEl Ae ce I.ends, bif D 22 then rF Af I.free.length cf (Fq.set ge ((xg.1 + ga, xg.2) : Int × Int)) else rF Af I.free.length cf Fq, rP Al qs.length cl (qs.set iq (⟨q.A, q.c, ⟨q.p.id, 2, q.p.legs⟩⟩ : PayR)), bag (qs.flatMap legRows), box b8 92 [.int .i64 (ge : Nat), .int .i64 0, .int .u64 ga]]) (fun (_ : Unit) => [.pointer (some ⟨b, 0, none⟩), .pointer (some ⟨b, 0, none⟩), .pointer (some ⟨b, 2, none⟩), .slice Af I.free.length cf, .pointer (some ⟨b8, 0, none⟩), .int .i64 (ge : Nat), .int .i64 0, .pointer (some ⟨b, 0, none⟩), .pointer (some ⟨b, 0, none⟩), .pointer (some ⟨b, 2, none⟩), .slice Af I.free.length cf, .pointer (some ⟨b8, 0, none⟩), .int .i64 (ge : Nat), .int .i64 0, ptrA Af (ge * 2), ptrA Af (ge * 2), .int .u64 xg.1, .pointer (some ⟨b8, 2, none⟩), .int .u64 ga, .int .u64 (xg.1 + ga), ptrA Af (ge * 2), ptrA Af (ge * 2), undef]) [(3, [], [20, 21, 22]), (5, [], [20, 21, 22]), (10, [], [14, 15, 16, 19, 21, 22]), (12, [], [14, 15, 16, 19, 21, 22]), (14, [10, 12], [15, 16, 19, 21, 22]), (15, [10, 12, 14], [16, 19, 21, 22]), (16, [10, 12, 14, 15], [19, 21, 22]), (18, [], [19, 21, 22]), (19, [10, 12, 14, 15, 16, 18], [21, 22]), (20, [3, 5], [21, 22]), (21, [3, 5, 10, 12, 14, 15, 16, 18, 19, 20], [22]), (22, [3, 5, 10, 12, 14, 15, 16, 18, 19, 20, 21], [])] () rfl (by kernel_rfl) (by kernel_rfl) F S.drew ?_ ?_ ?_ ?_ ?_
      · rintro ⟨⟩; rfl
      · rintro ⟨⟩; kernel_rfl
      ·
       intro D D' x h
       cases x
       simp only [h 22 (by decide)]
      ·
       refine ⟨?_, ?_⟩
       ·
        refine ⟨_, rfl, rfl, by kernel_rfl, ?_⟩
        rintro D ⟨⟩ a z S F
        refine ⟨by kernel_rfl, ?_⟩
        exact op_load _ _ (some ⟨b, 0, none⟩) 2 (.slice Af I.free.length cf) F rfl (by kernel_rfl) (by kernel_rfl) (cBox S 1 rfl (j := 2) rfl) (⟨(), rfl, (SameB.refl _ _ rfl), S⟩)
       refine ⟨?_, ?_⟩
       ·
        refine ⟨_, rfl, rfl, by kernel_rfl, ?_⟩
        rintro D ⟨⟩ a z S F
        refine ⟨by kernel_rfl, ?_⟩
        exact op_load _ _ (some ⟨b8, 0, none⟩) 0 (.int .i64 (ge : Nat)) F rfl (by kernel_rfl) (by kernel_rfl) (cBox S 7 rfl (j := 0) rfl) (⟨(), rfl, (SameB.refl _ _ rfl), S⟩)
       refine ⟨?_, ?_⟩
       ·
        refine ⟨_, rfl, rfl, by kernel_rfl, ?_⟩
        rintro D ⟨⟩ a z S F
        refine ⟨by kernel_rfl, ?_⟩
        exact op_load _ _ (some ⟨b, 0, none⟩) 2 (.slice Af I.free.length cf) F rfl (by kernel_rfl) (by kernel_rfl) (cBox S 1 rfl (j := 2) rfl) (⟨(), rfl, (SameB.refl _ _ rfl), S⟩)
       refine ⟨?_, ?_⟩
       ·
        refine ⟨_, rfl, rfl, by kernel_rfl, ?_⟩
        rintro D ⟨⟩ a z S F
        refine ⟨by kernel_rfl, ?_⟩
        exact op_load _ _ (some ⟨b8, 0, none⟩) 0 (.int .i64 (ge : Nat)) F rfl (by kernel_rfl) (by kernel_rfl) (cBox S 7 rfl (j := 0) rfl) (⟨(), rfl, (SameB.refl _ _ rfl), S⟩)
       refine ⟨?_, ?_⟩
       ·
        refine ⟨_, rfl, rfl, by kernel_rfl, ?_⟩
        rintro D ⟨⟩ a z S F
        refine ⟨by kernel_rfl, ?_⟩
        exact op_index _ 31 _ _ Af I.free.length cf ge 2 .i64 F rfl (by kernel_rfl) (by kernel_rfl) (by kernel_rfl) (by kernel_rfl) (by have h9 := get_lt hxg; (try simp only [List.length_set] at h9); omega) (row_some S 4 rfl (m := ge) (by have h9 := get_lt hxg; (try simp only [List.length_set] at h9); omega)) (⟨(), rfl, (SameB.refl _ _ rfl), S⟩)
       refine ⟨?_, ?_⟩
       ·
        refine ⟨_, rfl, rfl, by kernel_rfl, ?_⟩
        rintro D ⟨⟩ a z S F
        refine ⟨by kernel_rfl, ?_⟩
        exact op_indexArr _ 23 _ _ Af (ge * 2) 2 0 1 .i64 F rfl (by kernel_rfl) (by kernel_rfl) (by kernel_rfl) (by kernel_rfl) (by decide) (row_some S 4 rfl (m := ge) (by have h9 := get_lt hxg; (try simp only [List.length_set] at h9); omega)) (⟨(), rfl, (SameB.refl _ _ rfl), S⟩)
       refine ⟨?_, ?_⟩
       ·
        refine ⟨_, rfl, rfl, by kernel_rfl, ?_⟩
        rintro D ⟨⟩ a z S F
        refine ⟨by kernel_rfl, ?_⟩
        exact op_load _ _ Af (ge * 2) (.int .u64 xg.1) F rfl (by kernel_rfl) (by kernel_rfl) (cRec S 4 frC_len rfl 0 hxg rfl) (⟨(), rfl, (SameB.refl _ _ rfl), S⟩)
       refine ⟨?_, ?_⟩
       ·
        refine ⟨_, rfl, rfl, by kernel_rfl, ?_⟩
        rintro D ⟨⟩ a z S F
        refine ⟨by kernel_rfl, ?_⟩
        exact op_load _ _ (some ⟨b8, 0, none⟩) 2 (.int .u64 ga) F rfl (by kernel_rfl) (by kernel_rfl) (cBox S 7 rfl (j := 2) rfl) (⟨(), rfl, (SameB.refl _ _ rfl), S⟩)
       refine ⟨?_, ?_⟩
       ·
        refine ⟨_, rfl, rfl, by kernel_rfl, ?_⟩
        rintro D ⟨⟩ a z S F
        refine ⟨by kernel_rfl, ?_⟩
        exact op_pure F (v0 := .int .u64 (IntKind.wrap .u64 (xg.1 + ga))) (v := .int .u64 (xg.1 + ga)) (by kernel_rfl) (wr_u64 (by omega) (by omega)) ⟨(), rfl, (SameB.refl _ _ rfl), S⟩
       refine ⟨?_, ?_⟩
       ·
        refine ⟨_, rfl, rfl, by kernel_rfl, ?_⟩
        rintro D ⟨⟩ a z S F
        refine ⟨by kernel_rfl, ?_⟩
        exact op_index _ 31 _ _ Af I.free.length cf ge 2 .i64 F rfl (by kernel_rfl) (by kernel_rfl) (by kernel_rfl) (by kernel_rfl) (by have h9 := get_lt hxg; (try simp only [List.length_set] at h9); omega) (row_some S 4 rfl (m := ge) (by have h9 := get_lt hxg; (try simp only [List.length_set] at h9); omega)) (⟨(), rfl, (SameB.refl _ _ rfl), S⟩)
       refine ⟨?_, ?_⟩
       ·
        refine ⟨_, rfl, rfl, by kernel_rfl, ?_⟩
        rintro D ⟨⟩ a z S F
        refine ⟨by kernel_rfl, ?_⟩
        exact op_indexArr _ 23 _ _ Af (ge * 2) 2 0 1 .i64 F rfl (by kernel_rfl) (by kernel_rfl) (by kernel_rfl) (by kernel_rfl) (by decide) (row_some S 4 rfl (m := ge) (by have h9 := get_lt hxg; (try simp only [List.length_set] at h9); omega)) (⟨(), rfl, (SameB.refl _ _ rfl), S⟩)
       refine ⟨?_, ?_⟩
       ·
        refine ⟨_, rfl, rfl, by kernel_rfl, ?_⟩
        rintro D ⟨⟩ a z S F
        refine ⟨by kernel_rfl, ?_⟩
        exact op_storeRec S 4 _ _ _ Af ge 2 0 (.int .u64 (xg.1 + ga)) ((xg.1 + ga, xg.2) : Int × Int) F frC_len hxg rfl rfl (by kernel_rfl) (by kernel_rfl) (by kernel_rfl) (by kernel_rfl) (by kernel_rfl) (by kernel_rfl) (by kernel_rfl) fun z S => ⟨(), rfl, (SameB.refl _ _ rfl), S⟩
       trivial
      ·
       rintro ⟨⟩ a z F S
       have F := F.sub (l := [(0, .pointer (some ⟨b, 0, none⟩)), (2, .bool false), (7, .int .i64 (iq : Nat)), (8, .int .i64 (k : Nat))]) ⟨by kernel_rfl, by kernel_rfl, by kernel_rfl, by kernel_rfl, trivial⟩
       have S : Sat w z [rest w G, box b 74 [.slice Ah I.has.length ch, .slice Ae I.ends.length ce, .slice Af I.free.length cf, .slice Al qs.length cl], rUl Ah ch I.has, rEl Ae ce I.ends, rF Af I.free.length cf (Fq.set ge ((xg.1 + ga, xg.2) : Int × Int)), rP Al qs.length cl (qs.set iq (⟨q.A, q.c, ⟨q.p.id, 2, q.p.legs⟩⟩ : PayR)), bag (qs.flatMap legRows), box b8 92 [.int .i64 (ge : Nat), .int .i64 0, .int .u64 ga]] := S
       refine inb_n ?_
       refine then_n ?_
       refine wp_region_list ?_
       refine l_pure 1 (fun L => (51, .int .i64 (k : Nat)) :: L) F (by kernel_rfl) fun a F => ?_
       refine l_do F rfl rfl (op_pure F (v0 := .int .i64 (IntKind.wrap .i64 ((k : Nat) + 1))) (v := .int .i64 (k + 1 : Nat)) (by kernel_rfl) (wrn_i64 (by omega) (by omega) (by omega)) fun a F => ?_)
       refine l_pure 1 (fun L => (8, .int .i64 (k + 1 : Nat)) :: L) F (by kernel_rfl) fun a F => ?_
       refine l_then ?_
       exact ⟨_, (by omega), k + 1, (Fq.set ge ((xg.1 + ga, xg.2) : Int × Int)), rfl, (by omega), (by rw [List.length_set]; exact hFl), (set_free_nn hFn (by omega) (by omega)), (by rw [← hpl, payL_next hgl hxg]; rfl), (by rw [sumF_set hxg]; (try dsimp only); omega), F.sub ⟨by kernel_rfl, by kernel_rfl, by kernel_rfl, by kernel_rfl, trivial⟩, (S.pick [0, 1, 2, 3, 4, 5, 6] (by decide))⟩
     ·
      skip
      refine region_gx (fun D => fun (_ : Unit) => [rest w G, box b 74 [.slice Ah I.has.length ch, .slice Ae I.ends.length ce, .slice Af I.free.length cf, .slice Al qs.length cl], rUl Ah ch I.has, rEl Ae ce I.ends, bif D 22 then rF Af I.free.length cf (Fq.set ge ((xg.1, xg.2 + ga) : Int × Int)) else rF Af I.free.length cf Fq, rP Al qs.length cl (qs.set iq (⟨q.A, q.c, ⟨q.p.id, 2, q.p.legs⟩⟩ : PayR)), bag (qs.flatMap legRows), box b8 92 [.int .i64 (ge : Nat), .int .i64 1, .int .u64 ga]]) (fun (_ : Unit) => [.pointer (some ⟨b, 0, none⟩), .pointer (some ⟨b, 0, none⟩), .pointer (some ⟨b, 2, none⟩), .slice Af I.free.length cf, .pointer (some ⟨b8, 0, none⟩), .int .i64 (ge : Nat), .int .i64 1, .pointer (some ⟨b, 0, none⟩), .pointer (some ⟨b, 0, none⟩), .pointer (some ⟨b, 2, none⟩), .slice Af I.free.length cf, .pointer (some ⟨b8, 0, none⟩), .int .i64 (ge : Nat), .int .i64 1, ptrA Af (ge * 2), ptrA Af (ge * 2 + 1), .int .u64 xg.2, .pointer (some ⟨b8, 2, none⟩), .int .u64 ga, .int .u64 (xg.2 + ga), ptrA Af (ge * 2), ptrA Af (ge * 2 + 1), undef]) [(3, [], [20, 21, 22]), (5, [], [20, 21, 22]), (10, [], [14, 15, 16, 19, 21, 22]), (12, [], [14, 15, 16, 19, 21, 22]), (14, [10, 12], [15, 16, 19, 21, 22]), (15, [10, 12, 14], [16, 19, 21, 22]), (16, [10, 12, 14, 15], [19, 21, 22]), (18, [], [19, 21, 22]), (19, [10, 12, 14, 15, 16, 18], [21, 22]), (20, [3, 5], [21, 22]), (21, [3, 5, 10, 12, 14, 15, 16, 18, 19, 20], [22]), (22, [3, 5, 10, 12, 14, 15, 16, 18, 19, 20, 21], [])] () rfl (by kernel_rfl) (by kernel_rfl) F S.drew ?_ ?_ ?_ ?_ ?_
      · rintro ⟨⟩; rfl
      · rintro ⟨⟩; kernel_rfl
      ·
       intro D D' x h
       cases x
       simp only [h 22 (by decide)]
      ·
       refine ⟨?_, ?_⟩
       ·
        refine ⟨_, rfl, rfl, by kernel_rfl, ?_⟩
        rintro D ⟨⟩ a z S F
        refine ⟨by kernel_rfl, ?_⟩
        exact op_load _ _ (some ⟨b, 0, none⟩) 2 (.slice Af I.free.length cf) F rfl (by kernel_rfl) (by kernel_rfl) (cBox S 1 rfl (j := 2) rfl) (⟨(), rfl, (SameB.refl _ _ rfl), S⟩)
       refine ⟨?_, ?_⟩
       ·
        refine ⟨_, rfl, rfl, by kernel_rfl, ?_⟩
        rintro D ⟨⟩ a z S F
        refine ⟨by kernel_rfl, ?_⟩
        exact op_load _ _ (some ⟨b8, 0, none⟩) 0 (.int .i64 (ge : Nat)) F rfl (by kernel_rfl) (by kernel_rfl) (cBox S 7 rfl (j := 0) rfl) (⟨(), rfl, (SameB.refl _ _ rfl), S⟩)
       refine ⟨?_, ?_⟩
       ·
        refine ⟨_, rfl, rfl, by kernel_rfl, ?_⟩
        rintro D ⟨⟩ a z S F
        refine ⟨by kernel_rfl, ?_⟩
        exact op_load _ _ (some ⟨b, 0, none⟩) 2 (.slice Af I.free.length cf) F rfl (by kernel_rfl) (by kernel_rfl) (cBox S 1 rfl (j := 2) rfl) (⟨(), rfl, (SameB.refl _ _ rfl), S⟩)
       refine ⟨?_, ?_⟩
       ·
        refine ⟨_, rfl, rfl, by kernel_rfl, ?_⟩
        rintro D ⟨⟩ a z S F
        refine ⟨by kernel_rfl, ?_⟩
        exact op_load _ _ (some ⟨b8, 0, none⟩) 0 (.int .i64 (ge : Nat)) F rfl (by kernel_rfl) (by kernel_rfl) (cBox S 7 rfl (j := 0) rfl) (⟨(), rfl, (SameB.refl _ _ rfl), S⟩)
       refine ⟨?_, ?_⟩
       ·
        refine ⟨_, rfl, rfl, by kernel_rfl, ?_⟩
        rintro D ⟨⟩ a z S F
        refine ⟨by kernel_rfl, ?_⟩
        exact op_index _ 31 _ _ Af I.free.length cf ge 2 .i64 F rfl (by kernel_rfl) (by kernel_rfl) (by kernel_rfl) (by kernel_rfl) (by have h9 := get_lt hxg; (try simp only [List.length_set] at h9); omega) (row_some S 4 rfl (m := ge) (by have h9 := get_lt hxg; (try simp only [List.length_set] at h9); omega)) (⟨(), rfl, (SameB.refl _ _ rfl), S⟩)
       refine ⟨?_, ?_⟩
       ·
        refine ⟨_, rfl, rfl, by kernel_rfl, ?_⟩
        rintro D ⟨⟩ a z S F
        refine ⟨by kernel_rfl, ?_⟩
        exact op_indexArr _ 23 _ _ Af (ge * 2) 2 1 1 .i64 F rfl (by kernel_rfl) (by kernel_rfl) (by kernel_rfl) (by kernel_rfl) (by decide) (row_some S 4 rfl (m := ge) (by have h9 := get_lt hxg; (try simp only [List.length_set] at h9); omega)) (⟨(), rfl, (SameB.refl _ _ rfl), S⟩)
       refine ⟨?_, ?_⟩
       ·
        refine ⟨_, rfl, rfl, by kernel_rfl, ?_⟩
        rintro D ⟨⟩ a z S F
        refine ⟨by kernel_rfl, ?_⟩
        exact op_load _ _ Af (ge * 2 + 1) (.int .u64 xg.2) F rfl (by kernel_rfl) (by kernel_rfl) (cRec S 4 frC_len rfl 1 hxg rfl) (⟨(), rfl, (SameB.refl _ _ rfl), S⟩)
       refine ⟨?_, ?_⟩
       ·
        refine ⟨_, rfl, rfl, by kernel_rfl, ?_⟩
        rintro D ⟨⟩ a z S F
        refine ⟨by kernel_rfl, ?_⟩
        exact op_load _ _ (some ⟨b8, 0, none⟩) 2 (.int .u64 ga) F rfl (by kernel_rfl) (by kernel_rfl) (cBox S 7 rfl (j := 2) rfl) (⟨(), rfl, (SameB.refl _ _ rfl), S⟩)
       refine ⟨?_, ?_⟩
       ·
        refine ⟨_, rfl, rfl, by kernel_rfl, ?_⟩
        rintro D ⟨⟩ a z S F
        refine ⟨by kernel_rfl, ?_⟩
        exact op_pure F (v0 := .int .u64 (IntKind.wrap .u64 (xg.2 + ga))) (v := .int .u64 (xg.2 + ga)) (by kernel_rfl) (wr_u64 (by omega) (by omega)) ⟨(), rfl, (SameB.refl _ _ rfl), S⟩
       refine ⟨?_, ?_⟩
       ·
        refine ⟨_, rfl, rfl, by kernel_rfl, ?_⟩
        rintro D ⟨⟩ a z S F
        refine ⟨by kernel_rfl, ?_⟩
        exact op_index _ 31 _ _ Af I.free.length cf ge 2 .i64 F rfl (by kernel_rfl) (by kernel_rfl) (by kernel_rfl) (by kernel_rfl) (by have h9 := get_lt hxg; (try simp only [List.length_set] at h9); omega) (row_some S 4 rfl (m := ge) (by have h9 := get_lt hxg; (try simp only [List.length_set] at h9); omega)) (⟨(), rfl, (SameB.refl _ _ rfl), S⟩)
       refine ⟨?_, ?_⟩
       ·
        refine ⟨_, rfl, rfl, by kernel_rfl, ?_⟩
        rintro D ⟨⟩ a z S F
        refine ⟨by kernel_rfl, ?_⟩
        exact op_indexArr _ 23 _ _ Af (ge * 2) 2 1 1 .i64 F rfl (by kernel_rfl) (by kernel_rfl) (by kernel_rfl) (by kernel_rfl) (by decide) (row_some S 4 rfl (m := ge) (by have h9 := get_lt hxg; (try simp only [List.length_set] at h9); omega)) (⟨(), rfl, (SameB.refl _ _ rfl), S⟩)
       refine ⟨?_, ?_⟩
       ·
        refine ⟨_, rfl, rfl, by kernel_rfl, ?_⟩
        rintro D ⟨⟩ a z S F
        refine ⟨by kernel_rfl, ?_⟩
        exact op_storeRec S 4 _ _ _ Af ge 2 1 (.int .u64 (xg.2 + ga)) ((xg.1, xg.2 + ga) : Int × Int) F frC_len hxg rfl rfl (by kernel_rfl) (by kernel_rfl) (by kernel_rfl) (by kernel_rfl) (by kernel_rfl) (by kernel_rfl) (by kernel_rfl) fun z S => ⟨(), rfl, (SameB.refl _ _ rfl), S⟩
       trivial
      ·
       rintro ⟨⟩ a z F S
       have F := F.sub (l := [(0, .pointer (some ⟨b, 0, none⟩)), (2, .bool false), (7, .int .i64 (iq : Nat)), (8, .int .i64 (k : Nat))]) ⟨by kernel_rfl, by kernel_rfl, by kernel_rfl, by kernel_rfl, trivial⟩
       have S : Sat w z [rest w G, box b 74 [.slice Ah I.has.length ch, .slice Ae I.ends.length ce, .slice Af I.free.length cf, .slice Al qs.length cl], rUl Ah ch I.has, rEl Ae ce I.ends, rF Af I.free.length cf (Fq.set ge ((xg.1, xg.2 + ga) : Int × Int)), rP Al qs.length cl (qs.set iq (⟨q.A, q.c, ⟨q.p.id, 2, q.p.legs⟩⟩ : PayR)), bag (qs.flatMap legRows), box b8 92 [.int .i64 (ge : Nat), .int .i64 1, .int .u64 ga]] := S
       refine inb_n ?_
       refine then_n ?_
       refine wp_region_list ?_
       refine l_pure 1 (fun L => (51, .int .i64 (k : Nat)) :: L) F (by kernel_rfl) fun a F => ?_
       refine l_do F rfl rfl (op_pure F (v0 := .int .i64 (IntKind.wrap .i64 ((k : Nat) + 1))) (v := .int .i64 (k + 1 : Nat)) (by kernel_rfl) (wrn_i64 (by omega) (by omega) (by omega)) fun a F => ?_)
       refine l_pure 1 (fun L => (8, .int .i64 (k + 1 : Nat)) :: L) F (by kernel_rfl) fun a F => ?_
       refine l_then ?_
       exact ⟨_, (by omega), k + 1, (Fq.set ge ((xg.1, xg.2 + ga) : Int × Int)), rfl, (by omega), (by rw [List.length_set]; exact hFl), (set_free_nn hFn (by omega) (by omega)), (by rw [← hpl, payL_next hgl hxg]; rfl), (by rw [sumF_set hxg]; (try dsimp only); omega), F.sub ⟨by kernel_rfl, by kernel_rfl, by kernel_rfl, by kernel_rfl, trivial⟩, (S.pick [0, 1, 2, 3, 4, 5, 6] (by decide))⟩
    ·
     skip
     have hk : k = q.p.legs.length := by omega
     refine l_do F rfl rfl (op_pure F (v0 := .bool (decide (((k : Nat) : Int) < ((q.p.legs.length : Nat) : Int)))) (v := .bool false) (by kernel_rfl) (lssF ht7) fun a F => ?_)
     refine l_then ?_
     refine c_f F rfl ?_
     refine wp_exit ?_
     refine then_x ?_
     refine then_x ?_
     refine inb_x ?_
     refine then_n ?_
     refine s_reg ?_
     refine l_pure 1 (fun L => (6, .int .i64 0) :: L) F (by kernel_rfl) fun a F => ?_
     refine l_then ?_
     refine wp_ret ?_
     rw [hk, List.drop_length] at hpl
     have hpl : Fq = payL false I.free q.p.legs := hpl
     subst hpl
     rw [show qs.flatMap legRows = (qs.set iq (⟨q.A, q.c, ⟨q.p.id, 2, q.p.legs⟩⟩ : PayR)).flatMap legRows from (legRows_set (m' := (⟨q.A, q.c, ⟨q.p.id, 2, q.p.legs⟩⟩ : PayR)) hq rfl).symm] at S
     exact fin F [.tmp 6] [.int .i64 0] rfl ⟨by kernel_rfl, trivial⟩ (.int .i64 0) rfl ⟨by rw [end_ok (paid := false) hf hlq hs0], by rw [end_ok (paid := false) hf hlq hs0]; exact (ref_shut (by rw [List.map_set, hqs]; rfl) (by first | rfl | (rw [payL_len]) | (simp; omega) | simp) (by first | rfl | (rw [payL_len]) | (simp; omega) | simp) (by first | rfl | (rw [payL_len]) | (simp; omega) | simp) (by first | rfl | (rw [payL_len]) | (simp; omega) | simp) (S.pick [0, 1, 2, 3, 4, 5, 6] (by decide)))⟩
   | true =>
    skip
    refine c_t F rfl ?_
    refine wp_region_list ?_
    refine l_pure 3 (fun L => (35, .pointer (some ⟨b, 3, none⟩)) :: (34, .pointer (some ⟨b, 0, none⟩)) :: (33, .pointer (some ⟨b, 0, none⟩)) :: L) F (by kernel_rfl) fun a F => ?_
    refine l_do F rfl rfl (op_load _ _ (some ⟨b, 0, none⟩) 3 (.slice Al qs.length cl) F rfl (by kernel_rfl) (by kernel_rfl) (cBox S 1 rfl (j := 3) rfl) (fun a F => ?_))
    refine l_pure 1 (fun L => (37, .int .i64 (iq : Nat)) :: L) F (by kernel_rfl) fun a F => ?_
    refine l_do F rfl rfl (op_index _ 83 _ _ Al qs.length cl iq 3 .i64 F rfl (by kernel_rfl) (by kernel_rfl) (by kernel_rfl) (by kernel_rfl) (by have h9 := get_lt (set_at (y := (⟨q.A, q.c, ⟨q.p.id, 2, q.p.legs⟩⟩ : PayR)) hq); (try simp only [List.length_set] at h9); omega) (row_some S 5 rfl (m := iq) (by have h9 := get_lt (set_at (y := (⟨q.A, q.c, ⟨q.p.id, 2, q.p.legs⟩⟩ : PayR)) hq); (try simp only [List.length_set] at h9); omega)) (fun a F => ?_))
    refine l_do F rfl rfl (op_field _ _ _ Al (iq * 3) 1 F rfl (by kernel_rfl) (by kernel_rfl) (row_some S 5 rfl (m := iq) (by have h9 := get_lt (set_at (y := (⟨q.A, q.c, ⟨q.p.id, 2, q.p.legs⟩⟩ : PayR)) hq); (try simp only [List.length_set] at h9); omega)) (fun a F => ?_))
    refine l_do F rfl rfl (op_storeRec S 5 _ _ _ Al iq 3 1 (.int .i64 1) (⟨q.A, q.c, ⟨q.p.id, 1, q.p.legs⟩⟩ : PayR) F payC_len (set_at (y := (⟨q.A, q.c, ⟨q.p.id, 2, q.p.legs⟩⟩ : PayR)) hq) rfl rfl (by kernel_rfl) (by kernel_rfl) (by kernel_rfl) (by kernel_rfl) (by kernel_rfl) (by kernel_rfl) (by kernel_rfl) fun z S a F => ?_)
    refine l_then ?_
    refine wp_seq ?_
    refine s_reg ?_
    refine l_pure 1 (fun L => (8, .int .i64 0) :: L) F (by kernel_rfl) fun a F => ?_
    refine l_then ?_
    refine wp_block ?_
    refine wp_loop_m (fun m a z => ∃ (k : Nat) (Fq : List (Int × Int)), m = q.p.legs.length - k ∧ (k ≤ q.p.legs.length) ∧ (Fq.length = I.ends.length) ∧ (∀ f ∈ Fq, 0 ≤ f.1 ∧ 0 ≤ f.2) ∧ (payL true Fq (q.p.legs.drop k) = payL true I.free q.p.legs) ∧ (sumF Fq + legSum (q.p.legs.drop k) = sumF I.free + legSum q.p.legs) ∧ Fr a 91 [(0, .pointer (some ⟨b, 0, none⟩)), (2, .bool true), (7, .int .i64 (iq : Nat)), (8, .int .i64 (k : Nat))] ∧ Sat w z [rest w G, box b 74 [.slice Ah I.has.length ch, .slice Ae I.ends.length ce, .slice Af I.free.length cf, .slice Al qs.length cl], rUl Ah ch I.has, rEl Ae ce I.ends, rF Af I.free.length cf Fq, rP Al qs.length cl ((qs.set iq (⟨q.A, q.c, ⟨q.p.id, 2, q.p.legs⟩⟩ : PayR)).set iq (⟨q.A, q.c, ⟨q.p.id, 1, q.p.legs⟩⟩ : PayR)), bag (qs.flatMap legRows)]) _ ⟨0, I.free, rfl, Nat.zero_le _, ok.fl, ok.fu, rfl, rfl, F.sub ⟨by kernel_rfl, by kernel_rfl, by kernel_rfl, by kernel_rfl, trivial⟩, S⟩ ?_
    rintro m a z ⟨k, Fq, hm, hf10, hf11, hf12, hf13, hf14, F, S⟩
    have hFl := hf11
    have hFn := hf12
    have hpl := hf13
    have hSF := hf14
    have hfl9 := ok.fl
    refine wp_seq ?_
    refine s_reg ?_
    refine l_pure 4 (fun L => (43, .pointer (some ⟨b, 3, none⟩)) :: (42, .pointer (some ⟨b, 0, none⟩)) :: (41, .pointer (some ⟨b, 0, none⟩)) :: (40, .int .i64 (k : Nat)) :: L) F (by kernel_rfl) fun a F => ?_
    refine l_do F rfl rfl (op_load _ _ (some ⟨b, 0, none⟩) 3 (.slice Al qs.length cl) F rfl (by kernel_rfl) (by kernel_rfl) (cBox S 1 rfl (j := 3) rfl) (fun a F => ?_))
    refine l_pure 1 (fun L => (45, .int .i64 (iq : Nat)) :: L) F (by kernel_rfl) fun a F => ?_
    refine l_do F rfl rfl (op_index _ 83 _ _ Al qs.length cl iq 3 .i64 F rfl (by kernel_rfl) (by kernel_rfl) (by kernel_rfl) (by kernel_rfl) (by have h9 := get_lt (set_at (y := (⟨q.A, q.c, ⟨q.p.id, 1, q.p.legs⟩⟩ : PayR)) (set_at (y := (⟨q.A, q.c, ⟨q.p.id, 2, q.p.legs⟩⟩ : PayR)) hq)); (try simp only [List.length_set] at h9); omega) (row_some S 5 rfl (m := iq) (by have h9 := get_lt (set_at (y := (⟨q.A, q.c, ⟨q.p.id, 1, q.p.legs⟩⟩ : PayR)) (set_at (y := (⟨q.A, q.c, ⟨q.p.id, 2, q.p.legs⟩⟩ : PayR)) hq)); (try simp only [List.length_set] at h9); omega)) (fun a F => ?_))
    refine l_do F rfl rfl (op_field _ _ _ Al (iq * 3) 2 F rfl (by kernel_rfl) (by kernel_rfl) (row_some S 5 rfl (m := iq) (by have h9 := get_lt (set_at (y := (⟨q.A, q.c, ⟨q.p.id, 1, q.p.legs⟩⟩ : PayR)) (set_at (y := (⟨q.A, q.c, ⟨q.p.id, 2, q.p.legs⟩⟩ : PayR)) hq)); (try simp only [List.length_set] at h9); omega)) (fun a F => ?_))
    refine l_do F rfl rfl (op_load _ _ Al (iq * 3 + 2) (.slice q.A q.p.legs.length q.c) F rfl (by kernel_rfl) (by kernel_rfl) (cRec S 5 payC_len rfl 2 (set_at (y := (⟨q.A, q.c, ⟨q.p.id, 1, q.p.legs⟩⟩ : PayR)) (set_at (y := (⟨q.A, q.c, ⟨q.p.id, 2, q.p.legs⟩⟩ : PayR)) hq)) rfl) (fun a F => ?_))
    refine l_pure 1 (fun L => (49, .int .i64 (q.p.legs.length : Nat)) :: L) F (by kernel_rfl) fun a F => ?_
    by_cases ht15 : ((k : Nat) : Int) < ((q.p.legs.length : Nat) : Int)
    ·
     skip
     obtain ⟨⟨ge, gs, ga⟩, hgl⟩ : ∃ l, q.p.legs[k]? = some l := ⟨_, List.getElem?_eq_getElem (by omega)⟩
     obtain ⟨hge, hgs2, hga⟩ := hlg _ (List.mem_of_getElem? hgl)
     dsimp only at hge hgs2 hga
     obtain ⟨xg, hxg⟩ : ∃ xg, Fq[ge]? = some xg := ⟨_, List.getElem?_eq_getElem (by omega)⟩
     have hxn := hFn _ (List.mem_of_getElem? hxg)
     have hxs := sumF_one hFn hxg
     have hld := leg_drop hgl
     dsimp only at hld
     have hln := legSum_nn (l := q.p.legs.drop (k + 1)) (fun x hx => (hlg x (List.mem_of_mem_drop hx)).2.2)
     have hgs : gs = 0 ∨ gs = 1 := by omega
     refine l_do F rfl rfl (op_pure F (v0 := .bool (decide (((k : Nat) : Int) < ((q.p.legs.length : Nat) : Int)))) (v := .bool true) (by kernel_rfl) (lssT ht15) fun a F => ?_)
     refine l_then ?_
     refine c_t F rfl ?_
     refine wp_skip ?_
     refine then_n ?_
     refine wp_seq ?_
     refine wp_block ?_
     refine s_reg ?_
     refine l_pure 3 (fun L => (55, .pointer (some ⟨b, 3, none⟩)) :: (54, .pointer (some ⟨b, 0, none⟩)) :: (53, .pointer (some ⟨b, 0, none⟩)) :: L) F (by kernel_rfl) fun a F => ?_
     refine l_do F rfl rfl (op_load _ _ (some ⟨b, 0, none⟩) 3 (.slice Al qs.length cl) F rfl (by kernel_rfl) (by kernel_rfl) (cBox S 1 rfl (j := 3) rfl) (fun a F => ?_))
     refine l_pure 1 (fun L => (57, .int .i64 (iq : Nat)) :: L) F (by kernel_rfl) fun a F => ?_
     refine l_do F rfl rfl (op_index _ 83 _ _ Al qs.length cl iq 3 .i64 F rfl (by kernel_rfl) (by kernel_rfl) (by kernel_rfl) (by kernel_rfl) (by have h9 := get_lt (set_at (y := (⟨q.A, q.c, ⟨q.p.id, 1, q.p.legs⟩⟩ : PayR)) (set_at (y := (⟨q.A, q.c, ⟨q.p.id, 2, q.p.legs⟩⟩ : PayR)) hq)); (try simp only [List.length_set] at h9); omega) (row_some S 5 rfl (m := iq) (by have h9 := get_lt (set_at (y := (⟨q.A, q.c, ⟨q.p.id, 1, q.p.legs⟩⟩ : PayR)) (set_at (y := (⟨q.A, q.c, ⟨q.p.id, 2, q.p.legs⟩⟩ : PayR)) hq)); (try simp only [List.length_set] at h9); omega)) (fun a F => ?_))
     refine l_do F rfl rfl (op_field _ _ _ Al (iq * 3) 2 F rfl (by kernel_rfl) (by kernel_rfl) (row_some S 5 rfl (m := iq) (by have h9 := get_lt (set_at (y := (⟨q.A, q.c, ⟨q.p.id, 1, q.p.legs⟩⟩ : PayR)) (set_at (y := (⟨q.A, q.c, ⟨q.p.id, 2, q.p.legs⟩⟩ : PayR)) hq)); (try simp only [List.length_set] at h9); omega)) (fun a F => ?_))
     refine l_do F rfl rfl (op_load _ _ Al (iq * 3 + 2) (.slice q.A q.p.legs.length q.c) F rfl (by kernel_rfl) (by kernel_rfl) (cRec S 5 payC_len rfl 2 (set_at (y := (⟨q.A, q.c, ⟨q.p.id, 1, q.p.legs⟩⟩ : PayR)) (set_at (y := (⟨q.A, q.c, ⟨q.p.id, 2, q.p.legs⟩⟩ : PayR)) hq)) rfl) (fun a F => ?_))
     refine l_pure 1 (fun L => (61, .int .i64 (k : Nat)) :: L) F (by kernel_rfl) fun a F => ?_
     refine l_do F rfl rfl (op_index _ 92 _ _ q.A q.p.legs.length q.c k 3 .i64 F rfl (by kernel_rfl) (by kernel_rfl) (by kernel_rfl) (by kernel_rfl) (get_lt hgl) (recs_some (pay_legs S 6 rfl (List.mem_of_getElem? hq) (by omega)) (m := k) (get_lt hgl)) (fun a F => ?_))
     refine l_do F rfl rfl (op_loadK _ _ q.A (k * 3) [.int .i64 (ge : Nat), .int .i64 (gs : Nat), .int .u64 ga] F rfl (by kernel_rfl) (by kernel_rfl) (by kernel_rfl) (by simp) (cReadK0 legC_len (pay_legs S 6 rfl (List.mem_of_getElem? hq) (by omega)) hgl (by kernel_rfl)) (fun a F => ?_))
     refine l_do F rfl rfl (op_alloc S _ (.agg #[.int .i64 0, .int .i64 0, .int .u64 0]) rfl (by kernel_rfl) fun b16 z S a F => ?_)
     refine l_do F rfl rfl (op_storeB S 7 _ _ _ b16 0 (.agg #[.int .i64 (ge : Nat), .int .i64 (gs : Nat), .int .u64 ga]) F rfl rfl (by kernel_rfl) (by kernel_rfl) (by kernel_rfl) (by kernel_rfl) (by kernel_rfl) fun z S a F => ?_)
     refine l_then ?_
     refine s_reg ?_
     refine l_pure 1 (fun L => (64, .pointer (some ⟨b16, 1, none⟩)) :: L) F (by kernel_rfl) fun a F => ?_
     refine l_do F rfl rfl (op_load _ _ (some ⟨b16, 0, none⟩) 1 (.int .i64 (gs : Nat)) F rfl (by kernel_rfl) (by kernel_rfl) (cBox S 7 rfl (j := 1) rfl) (fun a F => ?_))
     refine l_pure 1 (fun L => (10, .int .i64 (gs : Nat)) :: L) F (by kernel_rfl) fun a F => ?_
     refine l_then ?_
     refine wp_seq ?_
     refine s_reg ?_
     refine l_pure 1 (fun L => (66, .bool true) :: L) F (by kernel_rfl) fun a F => ?_
     refine l_then ?_
     refine c_t F rfl ?_
     refine wp_region_list ?_
     refine l_pure 1 (fun L => (67, .int .i64 (gs : Nat)) :: L) F (by kernel_rfl) fun a F => ?_
     refine l_do F rfl rfl (op_pure F (v0 := .int .i64 (IntKind.wrap .i64 (1 - (gs : Nat)))) (v := .int .i64 (1 - (gs : Nat))) (by kernel_rfl) (wr_i64 (by omega) (by omega)) fun a F => ?_)
     refine l_pure 1 (fun L => (10, .int .i64 (1 - (gs : Nat))) :: L) F (by kernel_rfl) fun a F => ?_
     refine l_then ?_
     have hn17 : Option.isSome Al = true := (row_some S 5 rfl (m := iq) (by have h9 := get_lt (set_at (y := (⟨q.A, q.c, ⟨q.p.id, 1, q.p.legs⟩⟩ : PayR)) (set_at (y := (⟨q.A, q.c, ⟨q.p.id, 2, q.p.legs⟩⟩ : PayR)) hq)); (try simp only [List.length_set] at h9); omega))
     rcases hgs with rfl | rfl
     ·
      skip
      refine region_gx (fun D => fun (_ : Unit) => [rest w G, box b 74 [.slice Ah I.has.length ch, .slice Ae I.ends.length ce, .slice Af I.free.length cf, .slice Al qs.length cl], rUl Ah ch I.has, rEl Ae ce I.ends, bif D 22 then rF Af I.free.length cf (Fq.set ge ((xg.1, xg.2 + ga) : Int × Int)) else rF Af I.free.length cf Fq, rP Al qs.length cl ((qs.set iq (⟨q.A, q.c, ⟨q.p.id, 2, q.p.legs⟩⟩ : PayR)).set iq (⟨q.A, q.c, ⟨q.p.id, 1, q.p.legs⟩⟩ : PayR)), bag (qs.flatMap legRows), box b16 92 [.int .i64 (ge : Nat), .int .i64 0, .int .u64 ga]]) (fun (_ : Unit) => [.pointer (some ⟨b, 0, none⟩), .pointer (some ⟨b, 0, none⟩), .pointer (some ⟨b, 2, none⟩), .slice Af I.free.length cf, .pointer (some ⟨b16, 0, none⟩), .int .i64 (ge : Nat), .int .i64 1, .pointer (some ⟨b, 0, none⟩), .pointer (some ⟨b, 0, none⟩), .pointer (some ⟨b, 2, none⟩), .slice Af I.free.length cf, .pointer (some ⟨b16, 0, none⟩), .int .i64 (ge : Nat), .int .i64 1, ptrA Af (ge * 2), ptrA Af (ge * 2 + 1), .int .u64 xg.2, .pointer (some ⟨b16, 2, none⟩), .int .u64 ga, .int .u64 (xg.2 + ga), ptrA Af (ge * 2), ptrA Af (ge * 2 + 1), undef]) [(3, [], [20, 21, 22]), (5, [], [20, 21, 22]), (10, [], [14, 15, 16, 19, 21, 22]), (12, [], [14, 15, 16, 19, 21, 22]), (14, [10, 12], [15, 16, 19, 21, 22]), (15, [10, 12, 14], [16, 19, 21, 22]), (16, [10, 12, 14, 15], [19, 21, 22]), (18, [], [19, 21, 22]), (19, [10, 12, 14, 15, 16, 18], [21, 22]), (20, [3, 5], [21, 22]), (21, [3, 5, 10, 12, 14, 15, 16, 18, 19, 20], [22]), (22, [3, 5, 10, 12, 14, 15, 16, 18, 19, 20, 21], [])] () rfl (by kernel_rfl) (by kernel_rfl) F S.drew ?_ ?_ ?_ ?_ ?_
      · rintro ⟨⟩; rfl
      · rintro ⟨⟩; kernel_rfl
      ·
       intro D D' x h
       cases x
       simp only [h 22 (by decide)]
      ·
       refine ⟨?_, ?_⟩
       ·
        refine ⟨_, rfl, rfl, by kernel_rfl, ?_⟩
        rintro D ⟨⟩ a z S F
        refine ⟨by kernel_rfl, ?_⟩
        exact op_load _ _ (some ⟨b, 0, none⟩) 2 (.slice Af I.free.length cf) F rfl (by kernel_rfl) (by kernel_rfl) (cBox S 1 rfl (j := 2) rfl) (⟨(), rfl, (SameB.refl _ _ rfl), S⟩)
       refine ⟨?_, ?_⟩
       ·
        refine ⟨_, rfl, rfl, by kernel_rfl, ?_⟩
        rintro D ⟨⟩ a z S F
        refine ⟨by kernel_rfl, ?_⟩
        exact op_load _ _ (some ⟨b16, 0, none⟩) 0 (.int .i64 (ge : Nat)) F rfl (by kernel_rfl) (by kernel_rfl) (cBox S 7 rfl (j := 0) rfl) (⟨(), rfl, (SameB.refl _ _ rfl), S⟩)
       refine ⟨?_, ?_⟩
       ·
        refine ⟨_, rfl, rfl, by kernel_rfl, ?_⟩
        rintro D ⟨⟩ a z S F
        refine ⟨by kernel_rfl, ?_⟩
        exact op_load _ _ (some ⟨b, 0, none⟩) 2 (.slice Af I.free.length cf) F rfl (by kernel_rfl) (by kernel_rfl) (cBox S 1 rfl (j := 2) rfl) (⟨(), rfl, (SameB.refl _ _ rfl), S⟩)
       refine ⟨?_, ?_⟩
       ·
        refine ⟨_, rfl, rfl, by kernel_rfl, ?_⟩
        rintro D ⟨⟩ a z S F
        refine ⟨by kernel_rfl, ?_⟩
        exact op_load _ _ (some ⟨b16, 0, none⟩) 0 (.int .i64 (ge : Nat)) F rfl (by kernel_rfl) (by kernel_rfl) (cBox S 7 rfl (j := 0) rfl) (⟨(), rfl, (SameB.refl _ _ rfl), S⟩)
       refine ⟨?_, ?_⟩
       ·
        refine ⟨_, rfl, rfl, by kernel_rfl, ?_⟩
        rintro D ⟨⟩ a z S F
        refine ⟨by kernel_rfl, ?_⟩
        exact op_index _ 31 _ _ Af I.free.length cf ge 2 .i64 F rfl (by kernel_rfl) (by kernel_rfl) (by kernel_rfl) (by kernel_rfl) (by have h9 := get_lt hxg; (try simp only [List.length_set] at h9); omega) (row_some S 4 rfl (m := ge) (by have h9 := get_lt hxg; (try simp only [List.length_set] at h9); omega)) (⟨(), rfl, (SameB.refl _ _ rfl), S⟩)
       refine ⟨?_, ?_⟩
       ·
        refine ⟨_, rfl, rfl, by kernel_rfl, ?_⟩
        rintro D ⟨⟩ a z S F
        refine ⟨by kernel_rfl, ?_⟩
        exact op_indexArr _ 23 _ _ Af (ge * 2) 2 1 1 .i64 F rfl (by kernel_rfl) (by kernel_rfl) (by kernel_rfl) (by kernel_rfl) (by decide) (row_some S 4 rfl (m := ge) (by have h9 := get_lt hxg; (try simp only [List.length_set] at h9); omega)) (⟨(), rfl, (SameB.refl _ _ rfl), S⟩)
       refine ⟨?_, ?_⟩
       ·
        refine ⟨_, rfl, rfl, by kernel_rfl, ?_⟩
        rintro D ⟨⟩ a z S F
        refine ⟨by kernel_rfl, ?_⟩
        exact op_load _ _ Af (ge * 2 + 1) (.int .u64 xg.2) F rfl (by kernel_rfl) (by kernel_rfl) (cRec S 4 frC_len rfl 1 hxg rfl) (⟨(), rfl, (SameB.refl _ _ rfl), S⟩)
       refine ⟨?_, ?_⟩
       ·
        refine ⟨_, rfl, rfl, by kernel_rfl, ?_⟩
        rintro D ⟨⟩ a z S F
        refine ⟨by kernel_rfl, ?_⟩
        exact op_load _ _ (some ⟨b16, 0, none⟩) 2 (.int .u64 ga) F rfl (by kernel_rfl) (by kernel_rfl) (cBox S 7 rfl (j := 2) rfl) (⟨(), rfl, (SameB.refl _ _ rfl), S⟩)
       refine ⟨?_, ?_⟩
       ·
        refine ⟨_, rfl, rfl, by kernel_rfl, ?_⟩
        rintro D ⟨⟩ a z S F
        refine ⟨by kernel_rfl, ?_⟩
        exact op_pure F (v0 := .int .u64 (IntKind.wrap .u64 (xg.2 + ga))) (v := .int .u64 (xg.2 + ga)) (by kernel_rfl) (wr_u64 (by omega) (by omega)) ⟨(), rfl, (SameB.refl _ _ rfl), S⟩
       refine ⟨?_, ?_⟩
       ·
        refine ⟨_, rfl, rfl, by kernel_rfl, ?_⟩
        rintro D ⟨⟩ a z S F
        refine ⟨by kernel_rfl, ?_⟩
        exact op_index _ 31 _ _ Af I.free.length cf ge 2 .i64 F rfl (by kernel_rfl) (by kernel_rfl) (by kernel_rfl) (by kernel_rfl) (by have h9 := get_lt hxg; (try simp only [List.length_set] at h9); omega) (row_some S 4 rfl (m := ge) (by have h9 := get_lt hxg; (try simp only [List.length_set] at h9); omega)) (⟨(), rfl, (SameB.refl _ _ rfl), S⟩)
       refine ⟨?_, ?_⟩
       ·
        refine ⟨_, rfl, rfl, by kernel_rfl, ?_⟩
        rintro D ⟨⟩ a z S F
        refine ⟨by kernel_rfl, ?_⟩
        exact op_indexArr _ 23 _ _ Af (ge * 2) 2 1 1 .i64 F rfl (by kernel_rfl) (by kernel_rfl) (by kernel_rfl) (by kernel_rfl) (by decide) (row_some S 4 rfl (m := ge) (by have h9 := get_lt hxg; (try simp only [List.length_set] at h9); omega)) (⟨(), rfl, (SameB.refl _ _ rfl), S⟩)
       refine ⟨?_, ?_⟩
       ·
        refine ⟨_, rfl, rfl, by kernel_rfl, ?_⟩
        rintro D ⟨⟩ a z S F
        refine ⟨by kernel_rfl, ?_⟩
        exact op_storeRec S 4 _ _ _ Af ge 2 1 (.int .u64 (xg.2 + ga)) ((xg.1, xg.2 + ga) : Int × Int) F frC_len hxg rfl rfl (by kernel_rfl) (by kernel_rfl) (by kernel_rfl) (by kernel_rfl) (by kernel_rfl) (by kernel_rfl) (by kernel_rfl) fun z S => ⟨(), rfl, (SameB.refl _ _ rfl), S⟩
       trivial
      ·
       rintro ⟨⟩ a z F S
       have F := F.sub (l := [(0, .pointer (some ⟨b, 0, none⟩)), (2, .bool true), (7, .int .i64 (iq : Nat)), (8, .int .i64 (k : Nat))]) ⟨by kernel_rfl, by kernel_rfl, by kernel_rfl, by kernel_rfl, trivial⟩
       have S : Sat w z [rest w G, box b 74 [.slice Ah I.has.length ch, .slice Ae I.ends.length ce, .slice Af I.free.length cf, .slice Al qs.length cl], rUl Ah ch I.has, rEl Ae ce I.ends, rF Af I.free.length cf (Fq.set ge ((xg.1, xg.2 + ga) : Int × Int)), rP Al qs.length cl ((qs.set iq (⟨q.A, q.c, ⟨q.p.id, 2, q.p.legs⟩⟩ : PayR)).set iq (⟨q.A, q.c, ⟨q.p.id, 1, q.p.legs⟩⟩ : PayR)), bag (qs.flatMap legRows), box b16 92 [.int .i64 (ge : Nat), .int .i64 0, .int .u64 ga]] := S
       refine inb_n ?_
       refine then_n ?_
       refine wp_region_list ?_
       refine l_pure 1 (fun L => (51, .int .i64 (k : Nat)) :: L) F (by kernel_rfl) fun a F => ?_
       refine l_do F rfl rfl (op_pure F (v0 := .int .i64 (IntKind.wrap .i64 ((k : Nat) + 1))) (v := .int .i64 (k + 1 : Nat)) (by kernel_rfl) (wrn_i64 (by omega) (by omega) (by omega)) fun a F => ?_)
       refine l_pure 1 (fun L => (8, .int .i64 (k + 1 : Nat)) :: L) F (by kernel_rfl) fun a F => ?_
       refine l_then ?_
       exact ⟨_, (by omega), k + 1, (Fq.set ge ((xg.1, xg.2 + ga) : Int × Int)), rfl, (by omega), (by rw [List.length_set]; exact hFl), (set_free_nn hFn (by omega) (by omega)), (by rw [← hpl, payL_next hgl hxg]; rfl), (by rw [sumF_set hxg]; (try dsimp only); omega), F.sub ⟨by kernel_rfl, by kernel_rfl, by kernel_rfl, by kernel_rfl, trivial⟩, (S.pick [0, 1, 2, 3, 4, 5, 6] (by decide))⟩
     ·
      skip
      refine region_gx (fun D => fun (_ : Unit) => [rest w G, box b 74 [.slice Ah I.has.length ch, .slice Ae I.ends.length ce, .slice Af I.free.length cf, .slice Al qs.length cl], rUl Ah ch I.has, rEl Ae ce I.ends, bif D 22 then rF Af I.free.length cf (Fq.set ge ((xg.1 + ga, xg.2) : Int × Int)) else rF Af I.free.length cf Fq, rP Al qs.length cl ((qs.set iq (⟨q.A, q.c, ⟨q.p.id, 2, q.p.legs⟩⟩ : PayR)).set iq (⟨q.A, q.c, ⟨q.p.id, 1, q.p.legs⟩⟩ : PayR)), bag (qs.flatMap legRows), box b16 92 [.int .i64 (ge : Nat), .int .i64 1, .int .u64 ga]]) (fun (_ : Unit) => [.pointer (some ⟨b, 0, none⟩), .pointer (some ⟨b, 0, none⟩), .pointer (some ⟨b, 2, none⟩), .slice Af I.free.length cf, .pointer (some ⟨b16, 0, none⟩), .int .i64 (ge : Nat), .int .i64 0, .pointer (some ⟨b, 0, none⟩), .pointer (some ⟨b, 0, none⟩), .pointer (some ⟨b, 2, none⟩), .slice Af I.free.length cf, .pointer (some ⟨b16, 0, none⟩), .int .i64 (ge : Nat), .int .i64 0, ptrA Af (ge * 2), ptrA Af (ge * 2), .int .u64 xg.1, .pointer (some ⟨b16, 2, none⟩), .int .u64 ga, .int .u64 (xg.1 + ga), ptrA Af (ge * 2), ptrA Af (ge * 2), undef]) [(3, [], [20, 21, 22]), (5, [], [20, 21, 22]), (10, [], [14, 15, 16, 19, 21, 22]), (12, [], [14, 15, 16, 19, 21, 22]), (14, [10, 12], [15, 16, 19, 21, 22]), (15, [10, 12, 14], [16, 19, 21, 22]), (16, [10, 12, 14, 15], [19, 21, 22]), (18, [], [19, 21, 22]), (19, [10, 12, 14, 15, 16, 18], [21, 22]), (20, [3, 5], [21, 22]), (21, [3, 5, 10, 12, 14, 15, 16, 18, 19, 20], [22]), (22, [3, 5, 10, 12, 14, 15, 16, 18, 19, 20, 21], [])] () rfl (by kernel_rfl) (by kernel_rfl) F S.drew ?_ ?_ ?_ ?_ ?_
      · rintro ⟨⟩; rfl
      · rintro ⟨⟩; kernel_rfl
      ·
       intro D D' x h
       cases x
       simp only [h 22 (by decide)]
      ·
       refine ⟨?_, ?_⟩
       ·
        refine ⟨_, rfl, rfl, by kernel_rfl, ?_⟩
        rintro D ⟨⟩ a z S F
        refine ⟨by kernel_rfl, ?_⟩
        exact op_load _ _ (some ⟨b, 0, none⟩) 2 (.slice Af I.free.length cf) F rfl (by kernel_rfl) (by kernel_rfl) (cBox S 1 rfl (j := 2) rfl) (⟨(), rfl, (SameB.refl _ _ rfl), S⟩)
       refine ⟨?_, ?_⟩
       ·
        refine ⟨_, rfl, rfl, by kernel_rfl, ?_⟩
        rintro D ⟨⟩ a z S F
        refine ⟨by kernel_rfl, ?_⟩
        exact op_load _ _ (some ⟨b16, 0, none⟩) 0 (.int .i64 (ge : Nat)) F rfl (by kernel_rfl) (by kernel_rfl) (cBox S 7 rfl (j := 0) rfl) (⟨(), rfl, (SameB.refl _ _ rfl), S⟩)
       refine ⟨?_, ?_⟩
       ·
        refine ⟨_, rfl, rfl, by kernel_rfl, ?_⟩
        rintro D ⟨⟩ a z S F
        refine ⟨by kernel_rfl, ?_⟩
        exact op_load _ _ (some ⟨b, 0, none⟩) 2 (.slice Af I.free.length cf) F rfl (by kernel_rfl) (by kernel_rfl) (cBox S 1 rfl (j := 2) rfl) (⟨(), rfl, (SameB.refl _ _ rfl), S⟩)
       refine ⟨?_, ?_⟩
       ·
        refine ⟨_, rfl, rfl, by kernel_rfl, ?_⟩
        rintro D ⟨⟩ a z S F
        refine ⟨by kernel_rfl, ?_⟩
        exact op_load _ _ (some ⟨b16, 0, none⟩) 0 (.int .i64 (ge : Nat)) F rfl (by kernel_rfl) (by kernel_rfl) (cBox S 7 rfl (j := 0) rfl) (⟨(), rfl, (SameB.refl _ _ rfl), S⟩)
       refine ⟨?_, ?_⟩
       ·
        refine ⟨_, rfl, rfl, by kernel_rfl, ?_⟩
        rintro D ⟨⟩ a z S F
        refine ⟨by kernel_rfl, ?_⟩
        exact op_index _ 31 _ _ Af I.free.length cf ge 2 .i64 F rfl (by kernel_rfl) (by kernel_rfl) (by kernel_rfl) (by kernel_rfl) (by have h9 := get_lt hxg; (try simp only [List.length_set] at h9); omega) (row_some S 4 rfl (m := ge) (by have h9 := get_lt hxg; (try simp only [List.length_set] at h9); omega)) (⟨(), rfl, (SameB.refl _ _ rfl), S⟩)
       refine ⟨?_, ?_⟩
       ·
        refine ⟨_, rfl, rfl, by kernel_rfl, ?_⟩
        rintro D ⟨⟩ a z S F
        refine ⟨by kernel_rfl, ?_⟩
        exact op_indexArr _ 23 _ _ Af (ge * 2) 2 0 1 .i64 F rfl (by kernel_rfl) (by kernel_rfl) (by kernel_rfl) (by kernel_rfl) (by decide) (row_some S 4 rfl (m := ge) (by have h9 := get_lt hxg; (try simp only [List.length_set] at h9); omega)) (⟨(), rfl, (SameB.refl _ _ rfl), S⟩)
       refine ⟨?_, ?_⟩
       ·
        refine ⟨_, rfl, rfl, by kernel_rfl, ?_⟩
        rintro D ⟨⟩ a z S F
        refine ⟨by kernel_rfl, ?_⟩
        exact op_load _ _ Af (ge * 2) (.int .u64 xg.1) F rfl (by kernel_rfl) (by kernel_rfl) (cRec S 4 frC_len rfl 0 hxg rfl) (⟨(), rfl, (SameB.refl _ _ rfl), S⟩)
       refine ⟨?_, ?_⟩
       ·
        refine ⟨_, rfl, rfl, by kernel_rfl, ?_⟩
        rintro D ⟨⟩ a z S F
        refine ⟨by kernel_rfl, ?_⟩
        exact op_load _ _ (some ⟨b16, 0, none⟩) 2 (.int .u64 ga) F rfl (by kernel_rfl) (by kernel_rfl) (cBox S 7 rfl (j := 2) rfl) (⟨(), rfl, (SameB.refl _ _ rfl), S⟩)
       refine ⟨?_, ?_⟩
       ·
        refine ⟨_, rfl, rfl, by kernel_rfl, ?_⟩
        rintro D ⟨⟩ a z S F
        refine ⟨by kernel_rfl, ?_⟩
        exact op_pure F (v0 := .int .u64 (IntKind.wrap .u64 (xg.1 + ga))) (v := .int .u64 (xg.1 + ga)) (by kernel_rfl) (wr_u64 (by omega) (by omega)) ⟨(), rfl, (SameB.refl _ _ rfl), S⟩
       refine ⟨?_, ?_⟩
       ·
        refine ⟨_, rfl, rfl, by kernel_rfl, ?_⟩
        rintro D ⟨⟩ a z S F
        refine ⟨by kernel_rfl, ?_⟩
        exact op_index _ 31 _ _ Af I.free.length cf ge 2 .i64 F rfl (by kernel_rfl) (by kernel_rfl) (by kernel_rfl) (by kernel_rfl) (by have h9 := get_lt hxg; (try simp only [List.length_set] at h9); omega) (row_some S 4 rfl (m := ge) (by have h9 := get_lt hxg; (try simp only [List.length_set] at h9); omega)) (⟨(), rfl, (SameB.refl _ _ rfl), S⟩)
       refine ⟨?_, ?_⟩
       ·
        refine ⟨_, rfl, rfl, by kernel_rfl, ?_⟩
        rintro D ⟨⟩ a z S F
        refine ⟨by kernel_rfl, ?_⟩
        exact op_indexArr _ 23 _ _ Af (ge * 2) 2 0 1 .i64 F rfl (by kernel_rfl) (by kernel_rfl) (by kernel_rfl) (by kernel_rfl) (by decide) (row_some S 4 rfl (m := ge) (by have h9 := get_lt hxg; (try simp only [List.length_set] at h9); omega)) (⟨(), rfl, (SameB.refl _ _ rfl), S⟩)
       refine ⟨?_, ?_⟩
       ·
        refine ⟨_, rfl, rfl, by kernel_rfl, ?_⟩
        rintro D ⟨⟩ a z S F
        refine ⟨by kernel_rfl, ?_⟩
        exact op_storeRec S 4 _ _ _ Af ge 2 0 (.int .u64 (xg.1 + ga)) ((xg.1 + ga, xg.2) : Int × Int) F frC_len hxg rfl rfl (by kernel_rfl) (by kernel_rfl) (by kernel_rfl) (by kernel_rfl) (by kernel_rfl) (by kernel_rfl) (by kernel_rfl) fun z S => ⟨(), rfl, (SameB.refl _ _ rfl), S⟩
       trivial
      ·
       rintro ⟨⟩ a z F S
       have F := F.sub (l := [(0, .pointer (some ⟨b, 0, none⟩)), (2, .bool true), (7, .int .i64 (iq : Nat)), (8, .int .i64 (k : Nat))]) ⟨by kernel_rfl, by kernel_rfl, by kernel_rfl, by kernel_rfl, trivial⟩
       have S : Sat w z [rest w G, box b 74 [.slice Ah I.has.length ch, .slice Ae I.ends.length ce, .slice Af I.free.length cf, .slice Al qs.length cl], rUl Ah ch I.has, rEl Ae ce I.ends, rF Af I.free.length cf (Fq.set ge ((xg.1 + ga, xg.2) : Int × Int)), rP Al qs.length cl ((qs.set iq (⟨q.A, q.c, ⟨q.p.id, 2, q.p.legs⟩⟩ : PayR)).set iq (⟨q.A, q.c, ⟨q.p.id, 1, q.p.legs⟩⟩ : PayR)), bag (qs.flatMap legRows), box b16 92 [.int .i64 (ge : Nat), .int .i64 1, .int .u64 ga]] := S
       refine inb_n ?_
       refine then_n ?_
       refine wp_region_list ?_
       refine l_pure 1 (fun L => (51, .int .i64 (k : Nat)) :: L) F (by kernel_rfl) fun a F => ?_
       refine l_do F rfl rfl (op_pure F (v0 := .int .i64 (IntKind.wrap .i64 ((k : Nat) + 1))) (v := .int .i64 (k + 1 : Nat)) (by kernel_rfl) (wrn_i64 (by omega) (by omega) (by omega)) fun a F => ?_)
       refine l_pure 1 (fun L => (8, .int .i64 (k + 1 : Nat)) :: L) F (by kernel_rfl) fun a F => ?_
       refine l_then ?_
       exact ⟨_, (by omega), k + 1, (Fq.set ge ((xg.1 + ga, xg.2) : Int × Int)), rfl, (by omega), (by rw [List.length_set]; exact hFl), (set_free_nn hFn (by omega) (by omega)), (by rw [← hpl, payL_next hgl hxg]; rfl), (by rw [sumF_set hxg]; (try dsimp only); omega), F.sub ⟨by kernel_rfl, by kernel_rfl, by kernel_rfl, by kernel_rfl, trivial⟩, (S.pick [0, 1, 2, 3, 4, 5, 6] (by decide))⟩
    ·
     skip
     have hk : k = q.p.legs.length := by omega
     refine l_do F rfl rfl (op_pure F (v0 := .bool (decide (((k : Nat) : Int) < ((q.p.legs.length : Nat) : Int)))) (v := .bool false) (by kernel_rfl) (lssF ht15) fun a F => ?_)
     refine l_then ?_
     refine c_f F rfl ?_
     refine wp_exit ?_
     refine then_x ?_
     refine then_x ?_
     refine inb_x ?_
     refine then_n ?_
     refine s_reg ?_
     refine l_pure 1 (fun L => (6, .int .i64 0) :: L) F (by kernel_rfl) fun a F => ?_
     refine l_then ?_
     refine wp_ret ?_
     rw [hk, List.drop_length] at hpl
     have hpl : Fq = payL true I.free q.p.legs := hpl
     subst hpl
     rw [List.set_set] at S
     rw [show qs.flatMap legRows = (qs.set iq (⟨q.A, q.c, ⟨q.p.id, 1, q.p.legs⟩⟩ : PayR)).flatMap legRows from (legRows_set (m' := (⟨q.A, q.c, ⟨q.p.id, 1, q.p.legs⟩⟩ : PayR)) hq rfl).symm] at S
     exact fin F [.tmp 6] [.int .i64 0] rfl ⟨by kernel_rfl, trivial⟩ (.int .i64 0) rfl ⟨by rw [end_ok (paid := true) hf hlq hs0], by rw [end_ok (paid := true) hf hlq hs0]; exact (ref_shut (by rw [List.map_set, hqs]; rfl) (by first | rfl | (rw [payL_len]) | (simp; omega) | simp) (by first | rfl | (rw [payL_len]) | (simp; omega) | simp) (by first | rfl | (rw [payL_len]) | (simp; omega) | simp) (by first | rfl | (rw [payL_len]) | (simp; omega) | simp) (S.pick [0, 1, 2, 3, 4, 5, 6] (by decide)))⟩
  ·
   skip
   refine l_do F rfl rfl (op_pure F (v0 := .bool ((q.p.state : Int) != (0 : Int))) (v := .bool true) (by kernel_rfl) (neqT ht1) fun a F => ?_)
   refine l_then ?_
   refine c_t F rfl ?_
   refine s_reg ?_
   refine l_pure 1 (fun L => (6, .int .i64 3) :: L) F (by kernel_rfl) fun a F => ?_
   refine l_then ?_
   refine wp_ret ?_
   refine then_r (?_)
   exact fin F [.tmp 6] [.int .i64 3] rfl ⟨by kernel_rfl, trivial⟩ (.int .i64 3) rfl ⟨by rw [end_state hf hlq ht1], by rw [end_state hf hlq ht1]; exact (ref_shut hqs (by simp) (by simp) (by simp) (by simp) (S.pick [0, 1, 2, 3, 4, 5, 6] (by decide)))⟩
set_option maxRecDepth 100000 in
set_option maxHeartbeats 4000000 in
theorem rheld24_any (w : World) (G : Nat → Prop) (b : Nat) (I : Idl) (ok : IOk I) (hS : Sat w w [refA b I, rest w G]) (hpn : I.pays.length ≤ 900) : Calls Try.prog 39 #[.pointer (some ⟨b, 0, none⟩)] w fun e w' => e = .returned (.int .u64 (heldP I.pays)) ∧ Sat w w' [refA b I, rest w G] := by
 refine enter 52 Try.func39 rfl rfl rfl fun a F => ?_
 obtain ⟨Ah, ch, Ae, ce, Af, cf, Al, cl, qs, hqs, S⟩ := ref_open hS
 have hsm := ok.sums
 have hql := qs_len hqs
 refine s_reg ?_
 refine l_pure 1 (fun L => (2, .int .u64 0) :: L) F (by kernel_rfl) fun a F => ?_
 refine l_then ?_
 refine s_reg ?_
 refine l_pure 1 (fun L => (3, .int .u64 0) :: L) F (by kernel_rfl) fun a F => ?_
 refine l_then ?_
 refine wp_seq ?_
 refine s_reg ?_
 refine l_pure 1 (fun L => (4, .int .i64 0) :: L) F (by kernel_rfl) fun a F => ?_
 refine l_then ?_
 refine wp_block ?_
 refine wp_loop_m (fun m a z => ∃ (i : Nat) (sm : Int), m = qs.length - i ∧ (i ≤ qs.length) ∧ (sm = heldTo I.pays i) ∧ Fr a 52 [(0, .pointer (some ⟨b, 0, none⟩)), (3, .int .u64 sm), (4, .int .i64 (i : Nat))] ∧ Sat w z [rest w G, box b 74 [.slice Ah I.has.length ch, .slice Ae I.ends.length ce, .slice Af I.free.length cf, .slice Al qs.length cl], rUl Ah ch I.has, rEl Ae ce I.ends, rFl Af cf I.free, rPl Al cl qs, bag (qs.flatMap legRows)]) _ ⟨0, 0, rfl, Nat.zero_le _, rfl, F.sub ⟨by kernel_rfl, by kernel_rfl, by kernel_rfl, trivial⟩, S⟩ ?_
 rintro m a z ⟨i, sm, hm, hf1, hf2, F, S⟩
 have hsm1 := hf2
 refine wp_seq ?_
 refine s_reg ?_
 refine l_pure 4 (fun L => (9, .pointer (some ⟨b, 3, none⟩)) :: (8, .pointer (some ⟨b, 0, none⟩)) :: (7, .pointer (some ⟨b, 0, none⟩)) :: (6, .int .i64 (i : Nat)) :: L) F (by kernel_rfl) fun a F => ?_
 refine l_do F rfl rfl (op_load _ _ (some ⟨b, 0, none⟩) 3 (.slice Al qs.length cl) F rfl (by kernel_rfl) (by kernel_rfl) (cBox S 1 rfl (j := 3) rfl) (fun a F => ?_))
 refine l_pure 1 (fun L => (11, .int .i64 (qs.length : Nat)) :: L) F (by kernel_rfl) fun a F => ?_
 by_cases ht3 : ((i : Nat) : Int) < ((qs.length : Nat) : Int)
 ·
  skip
  obtain ⟨q, hq⟩ : ∃ q, qs[i]? = some q := ⟨_, List.getElem?_eq_getElem (by omega)⟩
  have hlq := qs_at hqs hq
  obtain ⟨hst, hll, hlg⟩ := ok.lg q.p (List.mem_of_getElem? hlq)
  have hln := heldTo_snoc hlq
  have hl2 := heldTo_le ok (i + 1)
  have hl3 := heldTo_le ok i
  refine l_do F rfl rfl (op_pure F (v0 := .bool (decide (((i : Nat) : Int) < ((qs.length : Nat) : Int)))) (v := .bool true) (by kernel_rfl) (lssT ht3) fun a F => ?_)
  refine l_then ?_
  refine c_t F rfl ?_
  refine wp_skip ?_
  refine then_n ?_
  refine wp_seq ?_
  refine wp_block ?_
  refine s_reg ?_
  refine l_pure 1 (fun L => (5, .int .i64 0) :: L) F (by kernel_rfl) fun a F => ?_
  refine l_then ?_
  refine wp_block ?_
  refine wp_loop_m (fun m a z => ∃ (k : Nat) (sv : Int), m = q.p.legs.length - k ∧ (k ≤ q.p.legs.length) ∧ (sv = heldTo I.pays i + openTo q.p k) ∧ Fr a 52 [(0, .pointer (some ⟨b, 0, none⟩)), (3, .int .u64 sv), (4, .int .i64 (i : Nat)), (5, .int .i64 (k : Nat))] ∧ Sat w z [rest w G, box b 74 [.slice Ah I.has.length ch, .slice Ae I.ends.length ce, .slice Af I.free.length cf, .slice Al qs.length cl], rUl Ah ch I.has, rEl Ae ce I.ends, rFl Af cf I.free, rPl Al cl qs, bag (qs.flatMap legRows)]) _ ⟨0, sm, rfl, Nat.zero_le _, (by rw [hsm1, openTo_zero]; omega), F.sub ⟨by kernel_rfl, by kernel_rfl, by kernel_rfl, by kernel_rfl, trivial⟩, S⟩ ?_
  rintro m a z ⟨k, sv, hm, hf4, hf5, F, S⟩
  have hsv := hf5
  have hol0 := openTo_le (p := q.p) (fun x hx => (hlg x hx).2.2) k
  refine wp_seq ?_
  refine s_reg ?_
  refine l_pure 4 (fun L => (18, .pointer (some ⟨b, 3, none⟩)) :: (17, .pointer (some ⟨b, 0, none⟩)) :: (16, .pointer (some ⟨b, 0, none⟩)) :: (15, .int .i64 (k : Nat)) :: L) F (by kernel_rfl) fun a F => ?_
  refine l_do F rfl rfl (op_load _ _ (some ⟨b, 0, none⟩) 3 (.slice Al qs.length cl) F rfl (by kernel_rfl) (by kernel_rfl) (cBox S 1 rfl (j := 3) rfl) (fun a F => ?_))
  refine l_pure 1 (fun L => (20, .int .i64 (i : Nat)) :: L) F (by kernel_rfl) fun a F => ?_
  refine l_do F rfl rfl (op_index _ 83 _ _ Al qs.length cl i 3 .i64 F rfl (by kernel_rfl) (by kernel_rfl) (by kernel_rfl) (by kernel_rfl) (get_lt hq) (row_some S 5 rfl (m := i) (get_lt hq)) (fun a F => ?_))
  refine l_do F rfl rfl (op_field _ _ _ Al (i * 3) 2 F rfl (by kernel_rfl) (by kernel_rfl) (row_some S 5 rfl (m := i) (get_lt hq)) (fun a F => ?_))
  refine l_do F rfl rfl (op_load _ _ Al (i * 3 + 2) (.slice q.A q.p.legs.length q.c) F rfl (by kernel_rfl) (by kernel_rfl) (cRec S 5 payC_len rfl 2 hq rfl) (fun a F => ?_))
  refine l_pure 1 (fun L => (24, .int .i64 (q.p.legs.length : Nat)) :: L) F (by kernel_rfl) fun a F => ?_
  by_cases ht6 : ((k : Nat) : Int) < ((q.p.legs.length : Nat) : Int)
  ·
   skip
   obtain ⟨gl, hgl⟩ : ∃ gl, q.p.legs[k]? = some gl := ⟨_, List.getElem?_eq_getElem (by omega)⟩
   have hol := openTo_le (p := q.p) (fun x hx => (hlg x hx).2.2) (k + 1)
   have hga := (hlg gl (List.mem_of_getElem? hgl)).2.2
   refine l_do F rfl rfl (op_pure F (v0 := .bool (decide (((k : Nat) : Int) < ((q.p.legs.length : Nat) : Int)))) (v := .bool true) (by kernel_rfl) (lssT ht6) fun a F => ?_)
   refine l_then ?_
   refine c_t F rfl ?_
   refine wp_skip ?_
   refine then_n ?_
   refine wp_seq ?_
   refine wp_block ?_
   refine s_reg ?_
   refine l_pure 3 (fun L => (30, .pointer (some ⟨b, 3, none⟩)) :: (29, .pointer (some ⟨b, 0, none⟩)) :: (28, .pointer (some ⟨b, 0, none⟩)) :: L) F (by kernel_rfl) fun a F => ?_
   refine l_do F rfl rfl (op_load _ _ (some ⟨b, 0, none⟩) 3 (.slice Al qs.length cl) F rfl (by kernel_rfl) (by kernel_rfl) (cBox S 1 rfl (j := 3) rfl) (fun a F => ?_))
   refine l_pure 1 (fun L => (32, .int .i64 (i : Nat)) :: L) F (by kernel_rfl) fun a F => ?_
   refine l_do F rfl rfl (op_index _ 83 _ _ Al qs.length cl i 3 .i64 F rfl (by kernel_rfl) (by kernel_rfl) (by kernel_rfl) (by kernel_rfl) (get_lt hq) (row_some S 5 rfl (m := i) (get_lt hq)) (fun a F => ?_))
   refine l_do F rfl rfl (op_field _ _ _ Al (i * 3) 1 F rfl (by kernel_rfl) (by kernel_rfl) (row_some S 5 rfl (m := i) (get_lt hq)) (fun a F => ?_))
   refine l_do F rfl rfl (op_load _ _ Al (i * 3 + 1) (.int .i64 q.p.state) F rfl (by kernel_rfl) (by kernel_rfl) (cRec S 5 payC_len rfl 1 hq rfl) (fun a F => ?_))
   by_cases ht7 : (q.p.state : Int) = (0 : Int)
   ·
    skip
    have hop := openTo_yes ht7 hgl
    refine l_do F rfl rfl (op_pure F (v0 := .bool ((q.p.state : Int) == (0 : Int))) (v := .bool true) (by kernel_rfl) (eqlT ht7) fun a F => ?_)
    refine l_then ?_
    refine c_t F rfl ?_
    refine wp_region_list ?_
    refine l_pure 4 (fun L => (40, .pointer (some ⟨b, 3, none⟩)) :: (39, .pointer (some ⟨b, 0, none⟩)) :: (38, .pointer (some ⟨b, 0, none⟩)) :: (37, .int .u64 sv) :: L) F (by kernel_rfl) fun a F => ?_
    refine l_do F rfl rfl (op_load _ _ (some ⟨b, 0, none⟩) 3 (.slice Al qs.length cl) F rfl (by kernel_rfl) (by kernel_rfl) (cBox S 1 rfl (j := 3) rfl) (fun a F => ?_))
    refine l_pure 1 (fun L => (42, .int .i64 (i : Nat)) :: L) F (by kernel_rfl) fun a F => ?_
    refine l_do F rfl rfl (op_index _ 83 _ _ Al qs.length cl i 3 .i64 F rfl (by kernel_rfl) (by kernel_rfl) (by kernel_rfl) (by kernel_rfl) (get_lt hq) (row_some S 5 rfl (m := i) (get_lt hq)) (fun a F => ?_))
    refine l_do F rfl rfl (op_field _ _ _ Al (i * 3) 2 F rfl (by kernel_rfl) (by kernel_rfl) (row_some S 5 rfl (m := i) (get_lt hq)) (fun a F => ?_))
    refine l_do F rfl rfl (op_load _ _ Al (i * 3 + 2) (.slice q.A q.p.legs.length q.c) F rfl (by kernel_rfl) (by kernel_rfl) (cRec S 5 payC_len rfl 2 hq rfl) (fun a F => ?_))
    refine l_pure 1 (fun L => (46, .int .i64 (k : Nat)) :: L) F (by kernel_rfl) fun a F => ?_
    refine l_do F rfl rfl (op_index _ 92 _ _ q.A q.p.legs.length q.c k 3 .i64 F rfl (by kernel_rfl) (by kernel_rfl) (by kernel_rfl) (by kernel_rfl) (get_lt hgl) (recs_some (pay_legs S 6 rfl (List.mem_of_getElem? hq) (by omega)) (m := k) (get_lt hgl)) (fun a F => ?_))
    refine l_do F rfl rfl (op_field _ _ _ q.A (k * 3) 2 F rfl (by kernel_rfl) (by kernel_rfl) (recs_some (pay_legs S 6 rfl (List.mem_of_getElem? hq) (by omega)) (m := k) (get_lt hgl)) (fun a F => ?_))
    refine l_do F rfl rfl (op_load _ _ q.A (k * 3 + 2) (.int .u64 gl.am) F rfl (by kernel_rfl) (by kernel_rfl) (recs_cell legC_len (pay_legs S 6 rfl (List.mem_of_getElem? hq) (by omega)) 2 hgl rfl) (fun a F => ?_))
    refine l_do F rfl rfl (op_pure F (v0 := .int .u64 (IntKind.wrap .u64 (sv + gl.am))) (v := .int .u64 (sv + gl.am)) (by kernel_rfl) (wr_u64 (by omega) (by omega)) fun a F => ?_)
    refine l_pure 1 (fun L => (3, .int .u64 (sv + gl.am)) :: L) F (by kernel_rfl) fun a F => ?_
    refine l_nil (inb_n ?_)
    refine then_n ?_
    refine wp_region_list ?_
    refine l_pure 1 (fun L => (26, .int .i64 (k : Nat)) :: L) F (by kernel_rfl) fun a F => ?_
    refine l_do F rfl rfl (op_pure F (v0 := .int .i64 (IntKind.wrap .i64 ((k : Nat) + 1))) (v := .int .i64 (k + 1 : Nat)) (by kernel_rfl) (wrn_i64 (by omega) (by omega) (by omega)) fun a F => ?_)
    refine l_pure 1 (fun L => (5, .int .i64 (k + 1 : Nat)) :: L) F (by kernel_rfl) fun a F => ?_
    refine l_then ?_
    exact ⟨_, (by omega), k + 1, sv + gl.am, rfl, (by omega), (by omega), F.sub ⟨by kernel_rfl, by kernel_rfl, by kernel_rfl, by kernel_rfl, trivial⟩, S⟩
   ·
    skip
    have hop := openTo_no (k := k) ht7
    refine l_do F rfl rfl (op_pure F (v0 := .bool ((q.p.state : Int) == (0 : Int))) (v := .bool false) (by kernel_rfl) (eqlF ht7) fun a F => ?_)
    refine l_then ?_
    refine c_f F rfl ?_
    refine wp_skip ?_
    refine inb_n ?_
    refine then_n ?_
    refine wp_region_list ?_
    refine l_pure 1 (fun L => (26, .int .i64 (k : Nat)) :: L) F (by kernel_rfl) fun a F => ?_
    refine l_do F rfl rfl (op_pure F (v0 := .int .i64 (IntKind.wrap .i64 ((k : Nat) + 1))) (v := .int .i64 (k + 1 : Nat)) (by kernel_rfl) (wrn_i64 (by omega) (by omega) (by omega)) fun a F => ?_)
    refine l_pure 1 (fun L => (5, .int .i64 (k + 1 : Nat)) :: L) F (by kernel_rfl) fun a F => ?_
    refine l_then ?_
    exact ⟨_, (by omega), k + 1, sv, rfl, (by omega), (by omega), F.sub ⟨by kernel_rfl, by kernel_rfl, by kernel_rfl, by kernel_rfl, trivial⟩, S⟩
  ·
   skip
   have hk : k = q.p.legs.length := by omega
   refine l_do F rfl rfl (op_pure F (v0 := .bool (decide (((k : Nat) : Int) < ((q.p.legs.length : Nat) : Int)))) (v := .bool false) (by kernel_rfl) (lssF ht6) fun a F => ?_)
   refine l_then ?_
   refine c_f F rfl ?_
   refine wp_exit ?_
   refine then_x ?_
   refine then_x ?_
   refine inb_x ?_
   refine inb_n ?_
   refine then_n ?_
   refine wp_region_list ?_
   refine l_pure 1 (fun L => (13, .int .i64 (i : Nat)) :: L) F (by kernel_rfl) fun a F => ?_
   refine l_do F rfl rfl (op_pure F (v0 := .int .i64 (IntKind.wrap .i64 ((i : Nat) + 1))) (v := .int .i64 (i + 1 : Nat)) (by kernel_rfl) (wrn_i64 (by omega) (by omega) (by omega)) fun a F => ?_)
   refine l_pure 1 (fun L => (4, .int .i64 (i + 1 : Nat)) :: L) F (by kernel_rfl) fun a F => ?_
   refine l_then ?_
   exact ⟨_, (by omega), i + 1, sv, rfl, (by omega), (by rw [hsv, hk, openTo_all]; omega), F.sub ⟨by kernel_rfl, by kernel_rfl, by kernel_rfl, trivial⟩, S⟩
 ·
  skip
  have hi : i = I.pays.length := by omega
  refine l_do F rfl rfl (op_pure F (v0 := .bool (decide (((i : Nat) : Int) < ((qs.length : Nat) : Int)))) (v := .bool false) (by kernel_rfl) (lssF ht3) fun a F => ?_)
  refine l_then ?_
  refine c_f F rfl ?_
  refine wp_exit ?_
  refine then_x ?_
  refine then_x ?_
  refine inb_x ?_
  refine then_n ?_
  refine s_reg ?_
  refine l_pure 2 (fun L => (2, .int .u64 sm) :: (51, .int .u64 sm) :: L) F (by kernel_rfl) fun a F => ?_
  refine l_then ?_
  refine wp_ret ?_
  exact fin F [.tmp 2] [.int .u64 sm] rfl ⟨by kernel_rfl, trivial⟩ (.int .u64 sm) rfl ⟨by rw [hsm1, hi]; unfold heldTo; rw [List.take_length], (ref_shut hqs (by simp) (by simp) (by simp) (by simp) (S.pick [0, 1, 2, 3, 4, 5, 6] (by decide)))⟩
set_option maxRecDepth 100000 in
set_option maxHeartbeats 4000000 in
theorem rclose24_any (w : World) (G : Nat → Prop) (b : Nat) (I : Idl) (ok : IOk I) (hS : Sat w w [refA b I, rest w G]) (hpn : I.pays.length ≤ 900) (cid : Int) : Calls Try.prog 38 #[.pointer (some ⟨b, 0, none⟩), .int .i64 cid] w fun e w' => e = .returned (.int .i64 (closeP I cid).2) ∧ Sat w w' [refA b (closeP I cid).1, rest w G] := by
 refine enter 111 Try.func38 rfl rfl rfl fun a F => ?_
 obtain ⟨Ah, ch, Ae, ce, Af, cf, Al, cl, qs, hqs, S⟩ := ref_open hS
 have hql := qs_len hqs
 refine s_reg ?_
 refine l_pure 1 (fun L => (4, .int .i64 0) :: L) F (by kernel_rfl) fun a F => ?_
 refine l_then ?_
 refine wp_seq ?_
 refine s_reg ?_
 refine l_pure 1 (fun L => (9, .int .i64 cid) :: L) F (by kernel_rfl) fun a F => ?_
 by_cases ht1 : (cid : Int) < (0 : Int)
 ·
  skip
  refine l_do F rfl rfl (op_pure F (v0 := .bool (decide ((cid : Int) < (0 : Int)))) (v := .bool true) (by kernel_rfl) (lssT ht1) fun a F => ?_)
  refine l_pure 9 (fun L => (19, .bool true) :: (18, undef) :: (17, undef) :: (16, undef) :: (15, undef) :: (14, undef) :: (13, undef) :: (12, undef) :: (11, .bool true) :: L) F (by kernel_rfl) fun a F => ?_
  refine l_then ?_
  refine c_t F rfl ?_
  refine s_reg ?_
  refine l_pure 1 (fun L => (4, .int .i64 6) :: L) F (by kernel_rfl) fun a F => ?_
  refine l_then ?_
  refine wp_ret ?_
  refine then_r (?_)
  exact fin F [.tmp 4] [.int .i64 6] rfl ⟨by kernel_rfl, trivial⟩ (.int .i64 6) rfl ⟨by rw [close_none (by omega)], by rw [close_none (by omega)]; exact (ref_shut hqs (by simp) (by simp) (by simp) (by simp) (S.pick [0, 1, 2, 3, 4, 5, 6] (by decide)))⟩
 ·
  skip
  refine l_do F rfl rfl (op_pure F (v0 := .bool (decide ((cid : Int) < (0 : Int)))) (v := .bool false) (by kernel_rfl) (lssF ht1) fun a F => ?_)
  refine l_pure 5 (fun L => (15, .pointer (some ⟨b, 1, none⟩)) :: (14, .pointer (some ⟨b, 0, none⟩)) :: (13, .pointer (some ⟨b, 0, none⟩)) :: (12, .int .i64 cid) :: (11, .bool false) :: L) F (by kernel_rfl) fun a F => ?_
  refine l_do F rfl rfl (op_load _ _ (some ⟨b, 0, none⟩) 1 (.slice Ae I.ends.length ce) F rfl (by kernel_rfl) (by kernel_rfl) (cBox S 1 rfl (j := 1) rfl) (fun a F => ?_))
  refine l_pure 1 (fun L => (17, .int .i64 (I.ends.length : Nat)) :: L) F (by kernel_rfl) fun a F => ?_
  by_cases ht2 : ((I.ends.length : Nat) : Int) ≤ (cid : Int)
  ·
   skip
   refine l_do F rfl rfl (op_pure F (v0 := .bool (decide ((cid : Int) ≥ ((I.ends.length : Nat) : Int)))) (v := .bool true) (by kernel_rfl) (geqT ht2) fun a F => ?_)
   refine l_pure 1 (fun L => (19, .bool true) :: L) F (by kernel_rfl) fun a F => ?_
   refine l_then ?_
   refine c_t F rfl ?_
   refine s_reg ?_
   refine l_pure 1 (fun L => (4, .int .i64 6) :: L) F (by kernel_rfl) fun a F => ?_
   refine l_then ?_
   refine wp_ret ?_
   refine then_r (?_)
   exact fin F [.tmp 4] [.int .i64 6] rfl ⟨by kernel_rfl, trivial⟩ (.int .i64 6) rfl ⟨by rw [close_none (by omega)], by rw [close_none (by omega)]; exact (ref_shut hqs (by simp) (by simp) (by simp) (by simp) (S.pick [0, 1, 2, 3, 4, 5, 6] (by decide)))⟩
  ·
   skip
   obtain ⟨nn, rfl⟩ : ∃ n : Nat, cid = (n : Int) := ⟨cid.toNat, by omega⟩
   have hnn : nn < I.ends.length := by omega
   have hfl := ok.fl
   obtain ⟨pa, qa, he⟩ : ∃ pa qa, I.ends[nn]? = some (pa, qa) := ⟨_, _, List.getElem?_eq_getElem hnn⟩
   obtain ⟨hpl, hql2, hpq⟩ := ok.en _ (List.mem_of_getElem? he)
   dsimp only at hpl hql2 hpq
   obtain ⟨xf, hxf⟩ : ∃ xf, I.free[nn]? = some xf := ⟨_, List.getElem?_eq_getElem (by omega)⟩
   obtain ⟨xp, hxp⟩ : ∃ xp, I.has[pa]? = some xp := ⟨_, List.getElem?_eq_getElem (by omega)⟩
   obtain ⟨xq, hxq⟩ : ∃ xq, I.has[qa]? = some xq := ⟨_, List.getElem?_eq_getElem (by omega)⟩
   have hsm := ok.sums
   have hx1 := sumI_one _ _ _ ok.hu hxp
   have hx2 := sumI_one _ _ _ ok.hu hxq
   have hx3 := sumF_one ok.fu hxf
   by_cases ht3 : ((I.ends.length : Nat) : Int) ≤ ((nn : Nat) : Int)
   ·
    skip
    refine l_do F rfl rfl (op_pure F (v0 := .bool (decide (((nn : Nat) : Int) ≥ ((I.ends.length : Nat) : Int)))) (v := .bool true) (by kernel_rfl) (geqT ht3) fun a F => ?_)
    refine l_pure 1 (fun L => (19, .bool true) :: L) F (by kernel_rfl) fun a F => ?_
    refine l_then ?_
    refine c_t F rfl ?_
    refine s_reg ?_
    refine l_pure 1 (fun L => (4, .int .i64 6) :: L) F (by kernel_rfl) fun a F => ?_
    refine l_then ?_
    refine wp_ret ?_
    refine then_r (?_)
    exact fin F [.tmp 4] [.int .i64 6] rfl ⟨by kernel_rfl, trivial⟩ (.int .i64 6) rfl ⟨by rw [close_none (by omega)], by rw [close_none (by omega)]; exact (ref_shut hqs (by simp) (by simp) (by simp) (by simp) (S.pick [0, 1, 2, 3, 4, 5, 6] (by decide)))⟩
   ·
    skip
    refine l_do F rfl rfl (op_pure F (v0 := .bool (decide (((nn : Nat) : Int) ≥ ((I.ends.length : Nat) : Int)))) (v := .bool false) (by kernel_rfl) (geqF ht3) fun a F => ?_)
    refine l_pure 1 (fun L => (19, .bool false) :: L) F (by kernel_rfl) fun a F => ?_
    refine l_then ?_
    refine c_f F rfl ?_
    refine wp_skip ?_
    refine then_n ?_
    refine wp_seq ?_
    refine s_reg ?_
    refine l_pure 1 (fun L => (5, .int .i64 0) :: L) F (by kernel_rfl) fun a F => ?_
    refine l_then ?_
    refine wp_block ?_
    refine wp_loop_m (fun m a z => ∃ (i : Nat), m = qs.length - i ∧ (i ≤ qs.length) ∧ (¬ overTo I.pays nn i) ∧ Fr a 111 [(0, .pointer (some ⟨b, 0, none⟩)), (1, .int .i64 (nn : Nat)), (5, .int .i64 (i : Nat))] ∧ Sat w z [rest w G, box b 74 [.slice Ah I.has.length ch, .slice Ae I.ends.length ce, .slice Af I.free.length cf, .slice Al qs.length cl], rUl Ah ch I.has, rEl Ae ce I.ends, rFl Af cf I.free, rPl Al cl qs, bag (qs.flatMap legRows)]) _ ⟨0, rfl, Nat.zero_le _, (overTo_zero _ _), F.sub ⟨by kernel_rfl, by kernel_rfl, by kernel_rfl, trivial⟩, S⟩ ?_
    rintro m a z ⟨i, hm, hf4, hf5, F, S⟩
    have hno := hf5
    refine wp_seq ?_
    refine s_reg ?_
    refine l_pure 4 (fun L => (23, .pointer (some ⟨b, 3, none⟩)) :: (22, .pointer (some ⟨b, 0, none⟩)) :: (21, .pointer (some ⟨b, 0, none⟩)) :: (20, .int .i64 (i : Nat)) :: L) F (by kernel_rfl) fun a F => ?_
    refine l_do F rfl rfl (op_load _ _ (some ⟨b, 0, none⟩) 3 (.slice Al qs.length cl) F rfl (by kernel_rfl) (by kernel_rfl) (cBox S 1 rfl (j := 3) rfl) (fun a F => ?_))
    refine l_pure 1 (fun L => (25, .int .i64 (qs.length : Nat)) :: L) F (by kernel_rfl) fun a F => ?_
    by_cases ht6 : ((i : Nat) : Int) < ((qs.length : Nat) : Int)
    ·
     skip
     obtain ⟨q, hq⟩ : ∃ q, qs[i]? = some q := ⟨_, List.getElem?_eq_getElem (by omega)⟩
     have hlq := qs_at hqs hq
     obtain ⟨hst, hll, hlg⟩ := ok.lg q.p (List.mem_of_getElem? hlq)
     refine l_do F rfl rfl (op_pure F (v0 := .bool (decide (((i : Nat) : Int) < ((qs.length : Nat) : Int)))) (v := .bool true) (by kernel_rfl) (lssT ht6) fun a F => ?_)
     refine l_then ?_
     refine c_t F rfl ?_
     refine wp_skip ?_
     refine then_n ?_
     refine wp_seq ?_
     refine wp_block ?_
     refine s_reg ?_
     refine l_pure 1 (fun L => (6, .int .i64 0) :: L) F (by kernel_rfl) fun a F => ?_
     refine l_then ?_
     refine wp_block ?_
     refine wp_loop_m (fun m a z => ∃ (k : Nat), m = q.p.legs.length - k ∧ (k ≤ q.p.legs.length) ∧ (¬ overP1 q.p nn k) ∧ Fr a 111 [(0, .pointer (some ⟨b, 0, none⟩)), (1, .int .i64 (nn : Nat)), (5, .int .i64 (i : Nat)), (6, .int .i64 (k : Nat))] ∧ Sat w z [rest w G, box b 74 [.slice Ah I.has.length ch, .slice Ae I.ends.length ce, .slice Af I.free.length cf, .slice Al qs.length cl], rUl Ah ch I.has, rEl Ae ce I.ends, rFl Af cf I.free, rPl Al cl qs, bag (qs.flatMap legRows)]) _ ⟨0, rfl, Nat.zero_le _, (overP1_zero _ _), F.sub ⟨by kernel_rfl, by kernel_rfl, by kernel_rfl, by kernel_rfl, trivial⟩, S⟩ ?_
     rintro m a z ⟨k, hm, hf7, hf8, F, S⟩
     have hnk := hf8
     refine wp_seq ?_
     refine s_reg ?_
     refine l_pure 4 (fun L => (32, .pointer (some ⟨b, 3, none⟩)) :: (31, .pointer (some ⟨b, 0, none⟩)) :: (30, .pointer (some ⟨b, 0, none⟩)) :: (29, .int .i64 (k : Nat)) :: L) F (by kernel_rfl) fun a F => ?_
     refine l_do F rfl rfl (op_load _ _ (some ⟨b, 0, none⟩) 3 (.slice Al qs.length cl) F rfl (by kernel_rfl) (by kernel_rfl) (cBox S 1 rfl (j := 3) rfl) (fun a F => ?_))
     refine l_pure 1 (fun L => (34, .int .i64 (i : Nat)) :: L) F (by kernel_rfl) fun a F => ?_
     refine l_do F rfl rfl (op_index _ 83 _ _ Al qs.length cl i 3 .i64 F rfl (by kernel_rfl) (by kernel_rfl) (by kernel_rfl) (by kernel_rfl) (get_lt hq) (row_some S 5 rfl (m := i) (get_lt hq)) (fun a F => ?_))
     refine l_do F rfl rfl (op_field _ _ _ Al (i * 3) 2 F rfl (by kernel_rfl) (by kernel_rfl) (row_some S 5 rfl (m := i) (get_lt hq)) (fun a F => ?_))
     refine l_do F rfl rfl (op_load _ _ Al (i * 3 + 2) (.slice q.A q.p.legs.length q.c) F rfl (by kernel_rfl) (by kernel_rfl) (cRec S 5 payC_len rfl 2 hq rfl) (fun a F => ?_))
     refine l_pure 1 (fun L => (38, .int .i64 (q.p.legs.length : Nat)) :: L) F (by kernel_rfl) fun a F => ?_
     by_cases ht9 : ((k : Nat) : Int) < ((q.p.legs.length : Nat) : Int)
     ·
      skip
      obtain ⟨gl, hgl⟩ : ∃ gl, q.p.legs[k]? = some gl := ⟨_, List.getElem?_eq_getElem (by omega)⟩
      refine l_do F rfl rfl (op_pure F (v0 := .bool (decide (((k : Nat) : Int) < ((q.p.legs.length : Nat) : Int)))) (v := .bool true) (by kernel_rfl) (lssT ht9) fun a F => ?_)
      refine l_then ?_
      refine c_t F rfl ?_
      refine wp_skip ?_
      refine then_n ?_
      refine wp_seq ?_
      refine wp_block ?_
      refine s_reg ?_
      refine l_pure 3 (fun L => (44, .pointer (some ⟨b, 3, none⟩)) :: (43, .pointer (some ⟨b, 0, none⟩)) :: (42, .pointer (some ⟨b, 0, none⟩)) :: L) F (by kernel_rfl) fun a F => ?_
      refine l_do F rfl rfl (op_load _ _ (some ⟨b, 0, none⟩) 3 (.slice Al qs.length cl) F rfl (by kernel_rfl) (by kernel_rfl) (cBox S 1 rfl (j := 3) rfl) (fun a F => ?_))
      refine l_pure 1 (fun L => (46, .int .i64 (i : Nat)) :: L) F (by kernel_rfl) fun a F => ?_
      refine l_do F rfl rfl (op_index _ 83 _ _ Al qs.length cl i 3 .i64 F rfl (by kernel_rfl) (by kernel_rfl) (by kernel_rfl) (by kernel_rfl) (get_lt hq) (row_some S 5 rfl (m := i) (get_lt hq)) (fun a F => ?_))
      refine l_do F rfl rfl (op_field _ _ _ Al (i * 3) 1 F rfl (by kernel_rfl) (by kernel_rfl) (row_some S 5 rfl (m := i) (get_lt hq)) (fun a F => ?_))
      refine l_do F rfl rfl (op_load _ _ Al (i * 3 + 1) (.int .i64 q.p.state) F rfl (by kernel_rfl) (by kernel_rfl) (cRec S 5 payC_len rfl 1 hq rfl) (fun a F => ?_))
      by_cases ht10 : (q.p.state : Int) = (0 : Int)
      ·
       skip
       have hs0 := ht10
       refine l_do F rfl rfl (op_pure F (v0 := .bool ((q.p.state : Int) == (0 : Int))) (v := .bool true) (by kernel_rfl) (eqlT ht10) fun a F => ?_)
       refine l_pure 4 (fun L => (54, .pointer (some ⟨b, 3, none⟩)) :: (53, .pointer (some ⟨b, 0, none⟩)) :: (52, .pointer (some ⟨b, 0, none⟩)) :: (51, .bool true) :: L) F (by kernel_rfl) fun a F => ?_
       refine l_do F rfl rfl (op_load _ _ (some ⟨b, 0, none⟩) 3 (.slice Al qs.length cl) F rfl (by kernel_rfl) (by kernel_rfl) (cBox S 1 rfl (j := 3) rfl) (fun a F => ?_))
       refine l_pure 1 (fun L => (56, .int .i64 (i : Nat)) :: L) F (by kernel_rfl) fun a F => ?_
       refine l_do F rfl rfl (op_index _ 83 _ _ Al qs.length cl i 3 .i64 F rfl (by kernel_rfl) (by kernel_rfl) (by kernel_rfl) (by kernel_rfl) (get_lt hq) (row_some S 5 rfl (m := i) (get_lt hq)) (fun a F => ?_))
       refine l_do F rfl rfl (op_field _ _ _ Al (i * 3) 2 F rfl (by kernel_rfl) (by kernel_rfl) (row_some S 5 rfl (m := i) (get_lt hq)) (fun a F => ?_))
       refine l_do F rfl rfl (op_load _ _ Al (i * 3 + 2) (.slice q.A q.p.legs.length q.c) F rfl (by kernel_rfl) (by kernel_rfl) (cRec S 5 payC_len rfl 2 hq rfl) (fun a F => ?_))
       refine l_pure 1 (fun L => (60, .int .i64 (k : Nat)) :: L) F (by kernel_rfl) fun a F => ?_
       refine l_do F rfl rfl (op_index _ 92 _ _ q.A q.p.legs.length q.c k 3 .i64 F rfl (by kernel_rfl) (by kernel_rfl) (by kernel_rfl) (by kernel_rfl) (get_lt hgl) (recs_some (pay_legs S 6 rfl (List.mem_of_getElem? hq) (by omega)) (m := k) (get_lt hgl)) (fun a F => ?_))
       refine l_do F rfl rfl (op_field _ _ _ q.A (k * 3) 0 F rfl (by kernel_rfl) (by kernel_rfl) (recs_some (pay_legs S 6 rfl (List.mem_of_getElem? hq) (by omega)) (m := k) (get_lt hgl)) (fun a F => ?_))
       refine l_do F rfl rfl (op_load _ _ q.A (k * 3) (.int .i64 (gl.edge : Nat)) F rfl (by kernel_rfl) (by kernel_rfl) (recs_cell legC_len (pay_legs S 6 rfl (List.mem_of_getElem? hq) (by omega)) 0 hgl rfl) (fun a F => ?_))
       refine l_pure 1 (fun L => (64, .int .i64 (nn : Nat)) :: L) F (by kernel_rfl) fun a F => ?_
       by_cases ht11 : ((gl.edge : Nat) : Int) = ((nn : Nat) : Int)
       ·
        skip
        refine l_do F rfl rfl (op_pure F (v0 := .bool (((gl.edge : Nat) : Int) == ((nn : Nat) : Int))) (v := .bool true) (by kernel_rfl) (eqlT ht11) fun a F => ?_)
        refine l_pure 1 (fun L => (66, .bool true) :: L) F (by kernel_rfl) fun a F => ?_
        refine l_then ?_
        refine c_t F rfl ?_
        refine s_reg ?_
        refine l_pure 1 (fun L => (4, .int .i64 3) :: L) F (by kernel_rfl) fun a F => ?_
        refine l_then ?_
        refine wp_ret ?_
        refine inb_r (then_r (then_r (inb_r (inb_r (then_r (then_r (inb_r (then_r (?_)))))))))
        exact fin F [.tmp 4] [.int .i64 3] rfl ⟨by kernel_rfl, trivial⟩ (.int .i64 3) rfl ⟨by rw [close_state hnn (over_at hlq hs0 hgl ht11)], by rw [close_state hnn (over_at hlq hs0 hgl ht11)]; exact (ref_shut hqs (by simp) (by simp) (by simp) (by simp) (S.pick [0, 1, 2, 3, 4, 5, 6] (by decide)))⟩
       ·
        skip
        refine l_do F rfl rfl (op_pure F (v0 := .bool (((gl.edge : Nat) : Int) == ((nn : Nat) : Int))) (v := .bool false) (by kernel_rfl) (eqlF ht11) fun a F => ?_)
        refine l_pure 1 (fun L => (66, .bool false) :: L) F (by kernel_rfl) fun a F => ?_
        refine l_then ?_
        refine c_f F rfl ?_
        refine wp_skip ?_
        refine inb_n ?_
        refine then_n ?_
        refine wp_region_list ?_
        refine l_pure 1 (fun L => (40, .int .i64 (k : Nat)) :: L) F (by kernel_rfl) fun a F => ?_
        refine l_do F rfl rfl (op_pure F (v0 := .int .i64 (IntKind.wrap .i64 ((k : Nat) + 1))) (v := .int .i64 (k + 1 : Nat)) (by kernel_rfl) (wrn_i64 (by omega) (by omega) (by omega)) fun a F => ?_)
        refine l_pure 1 (fun L => (6, .int .i64 (k + 1 : Nat)) :: L) F (by kernel_rfl) fun a F => ?_
        refine l_then ?_
        exact ⟨_, (by omega), k + 1, rfl, (by omega), (overP1_next hnk hgl (fun h9 => ht11 h9.2)), F.sub ⟨by kernel_rfl, by kernel_rfl, by kernel_rfl, by kernel_rfl, trivial⟩, S⟩
      ·
       skip
       have hs0 := ht10
       refine l_do F rfl rfl (op_pure F (v0 := .bool ((q.p.state : Int) == (0 : Int))) (v := .bool false) (by kernel_rfl) (eqlF ht10) fun a F => ?_)
       refine l_pure 16 (fun L => (66, .bool false) :: (65, undef) :: (64, undef) :: (63, undef) :: (62, undef) :: (61, undef) :: (60, undef) :: (59, undef) :: (58, undef) :: (57, undef) :: (56, undef) :: (55, undef) :: (54, undef) :: (53, undef) :: (52, undef) :: (51, .bool false) :: L) F (by kernel_rfl) fun a F => ?_
       refine l_then ?_
       refine c_f F rfl ?_
       refine wp_skip ?_
       refine inb_n ?_
       refine then_n ?_
       refine wp_region_list ?_
       refine l_pure 1 (fun L => (40, .int .i64 (k : Nat)) :: L) F (by kernel_rfl) fun a F => ?_
       refine l_do F rfl rfl (op_pure F (v0 := .int .i64 (IntKind.wrap .i64 ((k : Nat) + 1))) (v := .int .i64 (k + 1 : Nat)) (by kernel_rfl) (wrn_i64 (by omega) (by omega) (by omega)) fun a F => ?_)
       refine l_pure 1 (fun L => (6, .int .i64 (k + 1 : Nat)) :: L) F (by kernel_rfl) fun a F => ?_
       refine l_then ?_
       exact ⟨_, (by omega), k + 1, rfl, (by omega), (overP1_next hnk hgl (fun h9 => ht10 h9.1)), F.sub ⟨by kernel_rfl, by kernel_rfl, by kernel_rfl, by kernel_rfl, trivial⟩, S⟩
     ·
      skip
      have hk : k = q.p.legs.length := by omega
      refine l_do F rfl rfl (op_pure F (v0 := .bool (decide (((k : Nat) : Int) < ((q.p.legs.length : Nat) : Int)))) (v := .bool false) (by kernel_rfl) (lssF ht9) fun a F => ?_)
      refine l_then ?_
      refine c_f F rfl ?_
      refine wp_exit ?_
      refine then_x ?_
      refine then_x ?_
      refine inb_x ?_
      refine inb_n ?_
      refine then_n ?_
      refine wp_region_list ?_
      refine l_pure 1 (fun L => (27, .int .i64 (i : Nat)) :: L) F (by kernel_rfl) fun a F => ?_
      refine l_do F rfl rfl (op_pure F (v0 := .int .i64 (IntKind.wrap .i64 ((i : Nat) + 1))) (v := .int .i64 (i + 1 : Nat)) (by kernel_rfl) (wrn_i64 (by omega) (by omega) (by omega)) fun a F => ?_)
      refine l_pure 1 (fun L => (5, .int .i64 (i + 1 : Nat)) :: L) F (by kernel_rfl) fun a F => ?_
      refine l_then ?_
      exact ⟨_, (by omega), i + 1, rfl, (by omega), (overTo_next hno hlq (by rw [hk] at hnk; exact hnk)), F.sub ⟨by kernel_rfl, by kernel_rfl, by kernel_rfl, trivial⟩, S⟩
    ·
     skip
     have hi : i = I.pays.length := by omega
     refine l_do F rfl rfl (op_pure F (v0 := .bool (decide (((i : Nat) : Int) < ((qs.length : Nat) : Int)))) (v := .bool false) (by kernel_rfl) (lssF ht6) fun a F => ?_)
     refine l_then ?_
     refine c_f F rfl ?_
     refine wp_exit ?_
     refine then_x ?_
     refine then_x ?_
     refine inb_x ?_
     refine then_n ?_
     refine wp_seq ?_
     refine s_reg ?_
     refine l_pure 1 (fun L => (7, .int .i64 0) :: L) F (by kernel_rfl) fun a F => ?_
     refine l_then ?_
     refine wp_block ?_
     refine wp_loop_rounds 3 (rnd ?_)
     refine wp_seq ?_
     refine s_reg ?_
     refine l_pure 2 (fun L => (68, .bool true) :: (67, .int .i64 0) :: L) F (by kernel_rfl) fun a F => ?_
     refine l_then ?_
     refine c_t F rfl ?_
     refine wp_skip ?_
     refine then_n ?_
     refine wp_seq ?_
     refine wp_block ?_
     refine s_reg ?_
     refine l_pure 3 (fun L => (73, .pointer (some ⟨b, 1, none⟩)) :: (72, .pointer (some ⟨b, 0, none⟩)) :: (71, .pointer (some ⟨b, 0, none⟩)) :: L) F (by kernel_rfl) fun a F => ?_
     refine l_do F rfl rfl (op_load _ _ (some ⟨b, 0, none⟩) 1 (.slice Ae I.ends.length ce) F rfl (by kernel_rfl) (by kernel_rfl) (cBox S 1 rfl (j := 1) rfl) (fun a F => ?_))
     refine l_pure 2 (fun L => (76, .int .i64 0) :: (75, .int .i64 (nn : Nat)) :: L) F (by kernel_rfl) fun a F => ?_
     refine l_do F rfl rfl (op_index _ 63 _ _ Ae I.ends.length ce nn 2 .i64 F rfl (by kernel_rfl) (by kernel_rfl) (by kernel_rfl) (by kernel_rfl) (get_lt he) (row_some S 3 rfl (m := nn) (get_lt he)) (fun a F => ?_))
     refine l_do F rfl rfl (op_indexArr _ 3 _ _ Ae (nn * 2) 2 0 1 .i64 F rfl (by kernel_rfl) (by kernel_rfl) (by kernel_rfl) (by kernel_rfl) (by decide) (row_some S 3 rfl (m := nn) (get_lt he)) (fun a F => ?_))
     refine l_do F rfl rfl (op_load _ _ Ae (nn * 2) (.int .i64 (pa : Nat)) F rfl (by kernel_rfl) (by kernel_rfl) (cRec S 3 enC_len rfl 0 he rfl) (fun a F => ?_))
     refine l_pure 1 (fun L => (8, .int .i64 (pa : Nat)) :: L) F (by kernel_rfl) fun a F => ?_
     refine l_then ?_
     refine wp_seq ?_
     have hn12 : Option.isSome Ae = true := (row_some S 3 rfl (m := nn) (get_lt he))
     refine region_gx (fun D => fun (_ : Unit) => [rest w G, box b 74 [.slice Ah I.has.length ch, .slice Ae I.ends.length ce, .slice Af I.free.length cf, .slice Al qs.length cl], bif D 23 then rU Ah I.has.length ch (I.has.set pa (xp + xf.1)) else rUl Ah ch I.has, rEl Ae ce I.ends, rFl Af cf I.free, rPl Al cl qs, bag (qs.flatMap legRows)]) (fun (_ : Unit) => [.pointer (some ⟨b, 0, none⟩), .pointer (some ⟨b, 0, none⟩), .pointer (some ⟨b, 0, none⟩), .slice Ah I.has.length ch, .int .i64 (pa : Nat), .pointer (some ⟨b, 0, none⟩), .pointer (some ⟨b, 0, none⟩), .pointer (some ⟨b, 0, none⟩), .slice Ah I.has.length ch, .int .i64 (pa : Nat), ptrA Ah (pa * 1), .int .u64 xp, .pointer (some ⟨b, 0, none⟩), .pointer (some ⟨b, 0, none⟩), .pointer (some ⟨b, 2, none⟩), .slice Af I.free.length cf, .int .i64 (nn : Nat), .int .i64 0, ptrA Af (nn * 2), ptrA Af (nn * 2), .int .u64 xf.1, .int .u64 (xp + xf.1), ptrA Ah (pa * 1), undef]) [(3, [], [22, 23]), (8, [], [10, 11, 21, 22, 23]), (10, [8], [11, 21, 22, 23]), (11, [8, 10], [21, 22, 23]), (15, [], [18, 19, 20, 21, 22, 23]), (18, [15], [19, 20, 21, 22, 23]), (19, [15, 18], [20, 21, 22, 23]), (20, [15, 18, 19], [21, 22, 23]), (21, [8, 10, 11, 15, 18, 19, 20], [22, 23]), (22, [3, 8, 10, 11, 15, 18, 19, 20, 21], [23]), (23, [3, 8, 10, 11, 15, 18, 19, 20, 21, 22], [])] () rfl (by kernel_rfl) (by kernel_rfl) F S.drew ?_ ?_ ?_ ?_ ?_
     · rintro ⟨⟩; rfl
     · rintro ⟨⟩; kernel_rfl
     ·
      intro D D' x h
      cases x
      simp only [h 23 (by decide)]
     ·
      refine ⟨?_, ?_⟩
      ·
       refine ⟨_, rfl, rfl, by kernel_rfl, ?_⟩
       rintro D ⟨⟩ a z S F
       refine ⟨by kernel_rfl, ?_⟩
       exact op_load _ _ (some ⟨b, 0, none⟩) 0 (.slice Ah I.has.length ch) F rfl (by kernel_rfl) (by kernel_rfl) (cBox S 1 rfl (j := 0) rfl) (⟨(), rfl, (SameB.refl _ _ rfl), S⟩)
      refine ⟨?_, ?_⟩
      ·
       refine ⟨_, rfl, rfl, by kernel_rfl, ?_⟩
       rintro D ⟨⟩ a z S F
       refine ⟨by kernel_rfl, ?_⟩
       exact op_load _ _ (some ⟨b, 0, none⟩) 0 (.slice Ah I.has.length ch) F rfl (by kernel_rfl) (by kernel_rfl) (cBox S 1 rfl (j := 0) rfl) (⟨(), rfl, (SameB.refl _ _ rfl), S⟩)
      refine ⟨?_, ?_⟩
      ·
       refine ⟨_, rfl, rfl, by kernel_rfl, ?_⟩
       rintro D ⟨⟩ a z S F
       refine ⟨by kernel_rfl, ?_⟩
       exact op_index _ 23 _ _ Ah I.has.length ch pa 1 .i64 F rfl (by kernel_rfl) (by kernel_rfl) (by kernel_rfl) (by kernel_rfl) (get_lt hxp) (row_some S 2 rfl (m := pa) (get_lt hxp)) (⟨(), rfl, (SameB.refl _ _ rfl), S⟩)
      refine ⟨?_, ?_⟩
      ·
       refine ⟨_, rfl, rfl, by kernel_rfl, ?_⟩
       rintro D ⟨⟩ a z S F
       refine ⟨by kernel_rfl, ?_⟩
       exact op_load _ _ Ah (pa * 1) (.int .u64 xp) F rfl (by kernel_rfl) (by kernel_rfl) (cRec S 2 iC_len_u64 rfl 0 hxp rfl) (⟨(), rfl, (SameB.refl _ _ rfl), S⟩)
      refine ⟨?_, ?_⟩
      ·
       refine ⟨_, rfl, rfl, by kernel_rfl, ?_⟩
       rintro D ⟨⟩ a z S F
       refine ⟨by kernel_rfl, ?_⟩
       exact op_load _ _ (some ⟨b, 0, none⟩) 2 (.slice Af I.free.length cf) F rfl (by kernel_rfl) (by kernel_rfl) (cBox S 1 rfl (j := 2) rfl) (⟨(), rfl, (SameB.refl _ _ rfl), S⟩)
      refine ⟨?_, ?_⟩
      ·
       refine ⟨_, rfl, rfl, by kernel_rfl, ?_⟩
       rintro D ⟨⟩ a z S F
       refine ⟨by kernel_rfl, ?_⟩
       exact op_index _ 31 _ _ Af I.free.length cf nn 2 .i64 F rfl (by kernel_rfl) (by kernel_rfl) (by kernel_rfl) (by kernel_rfl) (get_lt hxf) (row_some S 4 rfl (m := nn) (get_lt hxf)) (⟨(), rfl, (SameB.refl _ _ rfl), S⟩)
      refine ⟨?_, ?_⟩
      ·
       refine ⟨_, rfl, rfl, by kernel_rfl, ?_⟩
       rintro D ⟨⟩ a z S F
       refine ⟨by kernel_rfl, ?_⟩
       exact op_indexArr _ 23 _ _ Af (nn * 2) 2 0 1 .i64 F rfl (by kernel_rfl) (by kernel_rfl) (by kernel_rfl) (by kernel_rfl) (by decide) (row_some S 4 rfl (m := nn) (get_lt hxf)) (⟨(), rfl, (SameB.refl _ _ rfl), S⟩)
      refine ⟨?_, ?_⟩
      ·
       refine ⟨_, rfl, rfl, by kernel_rfl, ?_⟩
       rintro D ⟨⟩ a z S F
       refine ⟨by kernel_rfl, ?_⟩
       exact op_load _ _ Af (nn * 2) (.int .u64 xf.1) F rfl (by kernel_rfl) (by kernel_rfl) (cRec S 4 frC_len rfl 0 hxf rfl) (⟨(), rfl, (SameB.refl _ _ rfl), S⟩)
      refine ⟨?_, ?_⟩
      ·
       refine ⟨_, rfl, rfl, by kernel_rfl, ?_⟩
       rintro D ⟨⟩ a z S F
       refine ⟨by kernel_rfl, ?_⟩
       exact op_pure F (v0 := .int .u64 (IntKind.wrap .u64 (xp + xf.1))) (v := .int .u64 (xp + xf.1)) (by kernel_rfl) (wr_u64 (by omega) (by omega)) ⟨(), rfl, (SameB.refl _ _ rfl), S⟩
      refine ⟨?_, ?_⟩
      ·
       refine ⟨_, rfl, rfl, by kernel_rfl, ?_⟩
       rintro D ⟨⟩ a z S F
       refine ⟨by kernel_rfl, ?_⟩
       exact op_index _ 23 _ _ Ah I.has.length ch pa 1 .i64 F rfl (by kernel_rfl) (by kernel_rfl) (by kernel_rfl) (by kernel_rfl) (get_lt hxp) (row_some S 2 rfl (m := pa) (get_lt hxp)) (⟨(), rfl, (SameB.refl _ _ rfl), S⟩)
      refine ⟨?_, ?_⟩
      ·
       refine ⟨_, rfl, rfl, by kernel_rfl, ?_⟩
       rintro D ⟨⟩ a z S F
       refine ⟨by kernel_rfl, ?_⟩
       exact op_storeRec S 2 _ _ _ Ah pa 1 0 (.int .u64 (xp + xf.1)) (xp + xf.1) F iC_len_u64 hxp rfl rfl (by kernel_rfl) (by kernel_rfl) (by kernel_rfl) (by kernel_rfl) (by kernel_rfl) (by kernel_rfl) (by kernel_rfl) fun z S => ⟨(), rfl, (SameB.refl _ _ rfl), S⟩
      trivial
     ·
      rintro ⟨⟩ a z F S
      have F := F.sub (l := [(0, .pointer (some ⟨b, 0, none⟩)), (1, .int .i64 (nn : Nat)), (7, .int .i64 0)]) ⟨by kernel_rfl, by kernel_rfl, by kernel_rfl, trivial⟩
      have S : Sat w z [rest w G, box b 74 [.slice Ah I.has.length ch, .slice Ae I.ends.length ce, .slice Af I.free.length cf, .slice Al qs.length cl], rU Ah I.has.length ch (I.has.set pa (xp + xf.1)), rEl Ae ce I.ends, rFl Af cf I.free, rPl Al cl qs, bag (qs.flatMap legRows)] := S
      refine then_n ?_
      refine wp_region_list ?_
      refine l_pure 3 (fun L => (105, .pointer (some ⟨b, 2, none⟩)) :: (104, .pointer (some ⟨b, 0, none⟩)) :: (103, .pointer (some ⟨b, 0, none⟩)) :: L) F (by kernel_rfl) fun a F => ?_
      refine l_do F rfl rfl (op_load _ _ (some ⟨b, 0, none⟩) 2 (.slice Af I.free.length cf) F rfl (by kernel_rfl) (by kernel_rfl) (cBox S 1 rfl (j := 2) rfl) (fun a F => ?_))
      refine l_pure 2 (fun L => (108, .int .i64 0) :: (107, .int .i64 (nn : Nat)) :: L) F (by kernel_rfl) fun a F => ?_
      refine l_do F rfl rfl (op_index _ 31 _ _ Af I.free.length cf nn 2 .i64 F rfl (by kernel_rfl) (by kernel_rfl) (by kernel_rfl) (by kernel_rfl) (get_lt hxf) (row_some S 4 rfl (m := nn) (get_lt hxf)) (fun a F => ?_))
      refine l_do F rfl rfl (op_indexArr _ 23 _ _ Af (nn * 2) 2 0 1 .i64 F rfl (by kernel_rfl) (by kernel_rfl) (by kernel_rfl) (by kernel_rfl) (by decide) (row_some S 4 rfl (m := nn) (get_lt hxf)) (fun a F => ?_))
      refine l_do F rfl rfl (op_storeRec S 4 _ _ _ Af nn 2 0 (.int .u64 0) ((0, xf.2) : Int × Int) F frC_len hxf rfl rfl (by kernel_rfl) (by kernel_rfl) (by kernel_rfl) (by kernel_rfl) (by kernel_rfl) (by kernel_rfl) (by kernel_rfl) fun z S a F => ?_)
      refine l_nil (inb_n ?_)
      refine then_n ?_
      refine wp_region_list ?_
      refine l_pure 3 (fun L => (7, .int .i64 1) :: (70, .int .i64 1) :: (69, .int .i64 0) :: L) F (by kernel_rfl) fun a F => ?_
      refine l_then ?_
      refine rnd ?_
      refine wp_seq ?_
      refine s_reg ?_
      refine l_pure 2 (fun L => (68, .bool true) :: (67, .int .i64 1) :: L) F (by kernel_rfl) fun a F => ?_
      refine l_then ?_
      refine c_t F rfl ?_
      refine wp_skip ?_
      refine then_n ?_
      refine wp_seq ?_
      refine wp_block ?_
      refine s_reg ?_
      refine l_pure 3 (fun L => (73, .pointer (some ⟨b, 1, none⟩)) :: (72, .pointer (some ⟨b, 0, none⟩)) :: (71, .pointer (some ⟨b, 0, none⟩)) :: L) F (by kernel_rfl) fun a F => ?_
      refine l_do F rfl rfl (op_load _ _ (some ⟨b, 0, none⟩) 1 (.slice Ae I.ends.length ce) F rfl (by kernel_rfl) (by kernel_rfl) (cBox S 1 rfl (j := 1) rfl) (fun a F => ?_))
      refine l_pure 2 (fun L => (76, .int .i64 1) :: (75, .int .i64 (nn : Nat)) :: L) F (by kernel_rfl) fun a F => ?_
      refine l_do F rfl rfl (op_index _ 63 _ _ Ae I.ends.length ce nn 2 .i64 F rfl (by kernel_rfl) (by kernel_rfl) (by kernel_rfl) (by kernel_rfl) (get_lt he) hn12 (fun a F => ?_))
      refine l_do F rfl rfl (op_indexArr _ 3 _ _ Ae (nn * 2) 2 1 1 .i64 F rfl (by kernel_rfl) (by kernel_rfl) (by kernel_rfl) (by kernel_rfl) (by decide) hn12 (fun a F => ?_))
      refine l_do F rfl rfl (op_load _ _ Ae (nn * 2 + 1) (.int .i64 (qa : Nat)) F rfl (by kernel_rfl) (by kernel_rfl) (cRec S 3 enC_len rfl 1 he rfl) (fun a F => ?_))
      refine l_pure 1 (fun L => (8, .int .i64 (qa : Nat)) :: L) F (by kernel_rfl) fun a F => ?_
      refine l_then ?_
      refine wp_seq ?_
      have hn13 : Option.isSome Af = true := (row_some S 4 rfl (m := nn) (by have h9 := get_lt (set_at (y := ((0, xf.2) : Int × Int)) hxf); (try simp only [List.length_set] at h9); omega))
      refine region_gx (fun D => fun (_ : Unit) => [rest w G, box b 74 [.slice Ah I.has.length ch, .slice Ae I.ends.length ce, .slice Af I.free.length cf, .slice Al qs.length cl], bif D 23 then rU Ah I.has.length ch ((I.has.set pa (xp + xf.1)).set qa (xq + xf.2)) else rU Ah I.has.length ch (I.has.set pa (xp + xf.1)), rEl Ae ce I.ends, rF Af I.free.length cf (I.free.set nn ((0, xf.2) : Int × Int)), rPl Al cl qs, bag (qs.flatMap legRows)]) (fun (_ : Unit) => [.pointer (some ⟨b, 0, none⟩), .pointer (some ⟨b, 0, none⟩), .pointer (some ⟨b, 0, none⟩), .slice Ah I.has.length ch, .int .i64 (qa : Nat), .pointer (some ⟨b, 0, none⟩), .pointer (some ⟨b, 0, none⟩), .pointer (some ⟨b, 0, none⟩), .slice Ah I.has.length ch, .int .i64 (qa : Nat), ptrA Ah (qa * 1), .int .u64 xq, .pointer (some ⟨b, 0, none⟩), .pointer (some ⟨b, 0, none⟩), .pointer (some ⟨b, 2, none⟩), .slice Af I.free.length cf, .int .i64 (nn : Nat), .int .i64 1, ptrA Af (nn * 2), ptrA Af (nn * 2 + 1), .int .u64 xf.2, .int .u64 (xq + xf.2), ptrA Ah (qa * 1), undef]) [(3, [], [22, 23]), (8, [], [10, 11, 21, 22, 23]), (10, [8], [11, 21, 22, 23]), (11, [8, 10], [21, 22, 23]), (15, [], [18, 19, 20, 21, 22, 23]), (18, [15], [19, 20, 21, 22, 23]), (19, [15, 18], [20, 21, 22, 23]), (20, [15, 18, 19], [21, 22, 23]), (21, [8, 10, 11, 15, 18, 19, 20], [22, 23]), (22, [3, 8, 10, 11, 15, 18, 19, 20, 21], [23]), (23, [3, 8, 10, 11, 15, 18, 19, 20, 21, 22], [])] () rfl (by kernel_rfl) (by kernel_rfl) F S.drew ?_ ?_ ?_ ?_ ?_
      · rintro ⟨⟩; rfl
      · rintro ⟨⟩; kernel_rfl
      ·
       intro D D' x h
       cases x
       simp only [h 23 (by decide)]
      ·
       refine ⟨?_, ?_⟩
       ·
        refine ⟨_, rfl, rfl, by kernel_rfl, ?_⟩
        rintro D ⟨⟩ a z S F
        refine ⟨by kernel_rfl, ?_⟩
        exact op_load _ _ (some ⟨b, 0, none⟩) 0 (.slice Ah I.has.length ch) F rfl (by kernel_rfl) (by kernel_rfl) (cBox S 1 rfl (j := 0) rfl) (⟨(), rfl, (SameB.refl _ _ rfl), S⟩)
       refine ⟨?_, ?_⟩
       ·
        refine ⟨_, rfl, rfl, by kernel_rfl, ?_⟩
        rintro D ⟨⟩ a z S F
        refine ⟨by kernel_rfl, ?_⟩
        exact op_load _ _ (some ⟨b, 0, none⟩) 0 (.slice Ah I.has.length ch) F rfl (by kernel_rfl) (by kernel_rfl) (cBox S 1 rfl (j := 0) rfl) (⟨(), rfl, (SameB.refl _ _ rfl), S⟩)
       refine ⟨?_, ?_⟩
       ·
        refine ⟨_, rfl, rfl, by kernel_rfl, ?_⟩
        rintro D ⟨⟩ a z S F
        refine ⟨by kernel_rfl, ?_⟩
        exact op_index _ 23 _ _ Ah I.has.length ch qa 1 .i64 F rfl (by kernel_rfl) (by kernel_rfl) (by kernel_rfl) (by kernel_rfl) (by have h9 := get_lt (set_ne_at (m := pa) (y := (xp + xf.1)) hxq (by omega)); (try simp only [List.length_set] at h9); omega) (row_some S 2 rfl (m := qa) (by have h9 := get_lt (set_ne_at (m := pa) (y := (xp + xf.1)) hxq (by omega)); (try simp only [List.length_set] at h9); omega)) (⟨(), rfl, (SameB.refl _ _ rfl), S⟩)
       refine ⟨?_, ?_⟩
       ·
        refine ⟨_, rfl, rfl, by kernel_rfl, ?_⟩
        rintro D ⟨⟩ a z S F
        refine ⟨by kernel_rfl, ?_⟩
        exact op_load _ _ Ah (qa * 1) (.int .u64 xq) F rfl (by kernel_rfl) (by kernel_rfl) (cRec S 2 iC_len_u64 rfl 0 (set_ne_at (m := pa) (y := (xp + xf.1)) hxq (by omega)) rfl) (⟨(), rfl, (SameB.refl _ _ rfl), S⟩)
       refine ⟨?_, ?_⟩
       ·
        refine ⟨_, rfl, rfl, by kernel_rfl, ?_⟩
        rintro D ⟨⟩ a z S F
        refine ⟨by kernel_rfl, ?_⟩
        exact op_load _ _ (some ⟨b, 0, none⟩) 2 (.slice Af I.free.length cf) F rfl (by kernel_rfl) (by kernel_rfl) (cBox S 1 rfl (j := 2) rfl) (⟨(), rfl, (SameB.refl _ _ rfl), S⟩)
       refine ⟨?_, ?_⟩
       ·
        refine ⟨_, rfl, rfl, by kernel_rfl, ?_⟩
        rintro D ⟨⟩ a z S F
        refine ⟨by kernel_rfl, ?_⟩
        exact op_index _ 31 _ _ Af I.free.length cf nn 2 .i64 F rfl (by kernel_rfl) (by kernel_rfl) (by kernel_rfl) (by kernel_rfl) (by have h9 := get_lt (set_at (y := ((0, xf.2) : Int × Int)) hxf); (try simp only [List.length_set] at h9); omega) hn13 (⟨(), rfl, (SameB.refl _ _ rfl), S⟩)
       refine ⟨?_, ?_⟩
       ·
        refine ⟨_, rfl, rfl, by kernel_rfl, ?_⟩
        rintro D ⟨⟩ a z S F
        refine ⟨by kernel_rfl, ?_⟩
        exact op_indexArr _ 23 _ _ Af (nn * 2) 2 1 1 .i64 F rfl (by kernel_rfl) (by kernel_rfl) (by kernel_rfl) (by kernel_rfl) (by decide) hn13 (⟨(), rfl, (SameB.refl _ _ rfl), S⟩)
       refine ⟨?_, ?_⟩
       ·
        refine ⟨_, rfl, rfl, by kernel_rfl, ?_⟩
        rintro D ⟨⟩ a z S F
        refine ⟨by kernel_rfl, ?_⟩
        exact op_load _ _ Af (nn * 2 + 1) (.int .u64 xf.2) F rfl (by kernel_rfl) (by kernel_rfl) (cRec S 4 frC_len rfl 1 (set_at (y := ((0, xf.2) : Int × Int)) hxf) rfl) (⟨(), rfl, (SameB.refl _ _ rfl), S⟩)
       refine ⟨?_, ?_⟩
       ·
        refine ⟨_, rfl, rfl, by kernel_rfl, ?_⟩
        rintro D ⟨⟩ a z S F
        refine ⟨by kernel_rfl, ?_⟩
        exact op_pure F (v0 := .int .u64 (IntKind.wrap .u64 (xq + xf.2))) (v := .int .u64 (xq + xf.2)) (by kernel_rfl) (wr_u64 (by omega) (by omega)) ⟨(), rfl, (SameB.refl _ _ rfl), S⟩
       refine ⟨?_, ?_⟩
       ·
        refine ⟨_, rfl, rfl, by kernel_rfl, ?_⟩
        rintro D ⟨⟩ a z S F
        refine ⟨by kernel_rfl, ?_⟩
        exact op_index _ 23 _ _ Ah I.has.length ch qa 1 .i64 F rfl (by kernel_rfl) (by kernel_rfl) (by kernel_rfl) (by kernel_rfl) (by have h9 := get_lt (set_ne_at (m := pa) (y := (xp + xf.1)) hxq (by omega)); (try simp only [List.length_set] at h9); omega) (row_some S 2 rfl (m := qa) (by have h9 := get_lt (set_ne_at (m := pa) (y := (xp + xf.1)) hxq (by omega)); (try simp only [List.length_set] at h9); omega)) (⟨(), rfl, (SameB.refl _ _ rfl), S⟩)
       refine ⟨?_, ?_⟩
       ·
        refine ⟨_, rfl, rfl, by kernel_rfl, ?_⟩
        rintro D ⟨⟩ a z S F
        refine ⟨by kernel_rfl, ?_⟩
        exact op_storeRec S 2 _ _ _ Ah qa 1 0 (.int .u64 (xq + xf.2)) (xq + xf.2) F iC_len_u64 (set_ne_at (m := pa) (y := (xp + xf.1)) hxq (by omega)) rfl rfl (by kernel_rfl) (by kernel_rfl) (by kernel_rfl) (by kernel_rfl) (by kernel_rfl) (by kernel_rfl) (by kernel_rfl) fun z S => ⟨(), rfl, (SameB.refl _ _ rfl), S⟩
       trivial
      ·
       rintro ⟨⟩ a z F S
       have F := F.sub (l := [(0, .pointer (some ⟨b, 0, none⟩)), (1, .int .i64 (nn : Nat)), (7, .int .i64 1)]) ⟨by kernel_rfl, by kernel_rfl, by kernel_rfl, trivial⟩
       have S : Sat w z [rest w G, box b 74 [.slice Ah I.has.length ch, .slice Ae I.ends.length ce, .slice Af I.free.length cf, .slice Al qs.length cl], rU Ah I.has.length ch ((I.has.set pa (xp + xf.1)).set qa (xq + xf.2)), rEl Ae ce I.ends, rF Af I.free.length cf (I.free.set nn ((0, xf.2) : Int × Int)), rPl Al cl qs, bag (qs.flatMap legRows)] := S
       refine then_n ?_
       refine wp_region_list ?_
       refine l_pure 3 (fun L => (105, .pointer (some ⟨b, 2, none⟩)) :: (104, .pointer (some ⟨b, 0, none⟩)) :: (103, .pointer (some ⟨b, 0, none⟩)) :: L) F (by kernel_rfl) fun a F => ?_
       refine l_do F rfl rfl (op_load _ _ (some ⟨b, 0, none⟩) 2 (.slice Af I.free.length cf) F rfl (by kernel_rfl) (by kernel_rfl) (cBox S 1 rfl (j := 2) rfl) (fun a F => ?_))
       refine l_pure 2 (fun L => (108, .int .i64 1) :: (107, .int .i64 (nn : Nat)) :: L) F (by kernel_rfl) fun a F => ?_
       refine l_do F rfl rfl (op_index _ 31 _ _ Af I.free.length cf nn 2 .i64 F rfl (by kernel_rfl) (by kernel_rfl) (by kernel_rfl) (by kernel_rfl) (by have h9 := get_lt (set_at (y := ((0, xf.2) : Int × Int)) hxf); (try simp only [List.length_set] at h9); omega) hn13 (fun a F => ?_))
       refine l_do F rfl rfl (op_indexArr _ 23 _ _ Af (nn * 2) 2 1 1 .i64 F rfl (by kernel_rfl) (by kernel_rfl) (by kernel_rfl) (by kernel_rfl) (by decide) hn13 (fun a F => ?_))
       refine l_do F rfl rfl (op_storeRec S 4 _ _ _ Af nn 2 1 (.int .u64 0) ((0, 0) : Int × Int) F frC_len (set_at (y := ((0, xf.2) : Int × Int)) hxf) rfl rfl (by kernel_rfl) (by kernel_rfl) (by kernel_rfl) (by kernel_rfl) (by kernel_rfl) (by kernel_rfl) (by kernel_rfl) fun z S a F => ?_)
       refine l_nil (inb_n ?_)
       refine then_n ?_
       refine wp_region_list ?_
       refine l_pure 3 (fun L => (7, .int .i64 2) :: (70, .int .i64 2) :: (69, .int .i64 1) :: L) F (by kernel_rfl) fun a F => ?_
       refine l_then ?_
       refine rnd ?_
       refine wp_seq ?_
       refine s_reg ?_
       refine l_pure 2 (fun L => (68, .bool false) :: (67, .int .i64 2) :: L) F (by kernel_rfl) fun a F => ?_
       refine l_then ?_
       refine c_f F rfl ?_
       refine wp_exit ?_
       refine then_x ?_
       refine then_x ?_
       refine inb_x ?_
       refine then_n ?_
       refine s_reg ?_
       refine l_pure 1 (fun L => (4, .int .i64 0) :: L) F (by kernel_rfl) fun a F => ?_
       refine l_then ?_
       refine wp_ret ?_
       rw [List.set_set] at S
       exact fin F [.tmp 4] [.int .i64 0] rfl ⟨by kernel_rfl, trivial⟩ (.int .i64 0) rfl ⟨by rw [close_ok he hxf hxp hxq (overTo_all (by rw [hi] at hno; exact hno))], by rw [close_ok he hxf hxp hxq (overTo_all (by rw [hi] at hno; exact hno))]; exact (ref_shut hqs (by simp) (by simp) (by simp) (by simp) (S.pick [0, 1, 2, 3, 4, 5, 6] (by decide)))⟩
set_option maxRecDepth 100000 in
set_option maxHeartbeats 4000000 in
theorem rnew24_bad (w : World) (Ax : Option Addr) (cx : Nat) (X : List Int) (hX : Recs 1 iC_u64 w Ax cx X) (hXu : ∀ a ∈ X, U64 a) (hne : newE X ≠ 0) : Calls Try.prog 15 #[.slice Ax X.length cx] w fun e w' => e = .returned (.tuple #[.pointer none, .int .i64 (newE X)]) ∧ Below w.heap.size w w' := by
 refine enter 22 Try.func15 rfl rfl rfl fun a F => ?_
 have S := Sat.pushRest w
 refine s_reg ?_
 refine l_pure 2 (fun L => (3, .int .i64 0) :: (2, .pointer none) :: L) F (by kernel_rfl) fun a F => ?_
 refine l_then ?_
 refine wp_seq ?_
 refine s_reg ?_
 refine l_pure 2 (fun L => (7, .int .i64 (X.length : Nat)) :: (6, .slice Ax X.length cx) :: L) F (by kernel_rfl) fun a F => ?_
 by_cases ht1 : (8 : Int) < ((X.length : Nat) : Int)
 ·
  skip
  refine l_do F rfl rfl (op_pure F (v0 := .bool (decide (((X.length : Nat) : Int) > (8 : Int)))) (v := .bool true) (by kernel_rfl) (gtrT ht1) fun a F => ?_)
  refine l_then ?_
  refine c_t F rfl ?_
  refine s_reg ?_
  refine l_pure 2 (fun L => (3, .int .i64 8) :: (2, .pointer none) :: L) F (by kernel_rfl) fun a F => ?_
  refine l_then ?_
  refine wp_ret ?_
  refine then_r (?_)
  exact fin F [.tmp 2, .tmp 3] [.pointer none, .int .i64 8] rfl ⟨by kernel_rfl, by kernel_rfl, trivial⟩ (.tuple #[.pointer none, .int .i64 8]) rfl ⟨by rw [show newE X = 8 from if_pos (by omega)], S.below (i := 0) rfl⟩
 ·
  skip
  refine l_do F rfl rfl (op_pure F (v0 := .bool (decide (((X.length : Nat) : Int) > (8 : Int)))) (v := .bool false) (by kernel_rfl) (gtrF ht1) fun a F => ?_)
  refine l_then ?_
  refine c_f F rfl ?_
  refine wp_skip ?_
  refine then_n ?_
  refine s_reg ?_
  refine l_pure 1 (fun L => (10, .slice Ax X.length cx) :: L) F (by kernel_rfl) fun a F => ?_
  refine l_do F rfl rfl (op_fn F (by kernel_rfl) (rsum_any _ Ax cx X (words_of_recs (hX.mono (src_rest S (i := 0) rfl hX.src (src_lt hX.src))) hXu (by omega))) ?_)
  rintro e z ⟨rfl, hw⟩
  first | subst hw | (have hw := hw.symm; subst hw)
  refine ⟨_, rfl, ?_⟩
  intro a F
  refine l_pure 5 (fun L => (5, .int .i64 ((sumP 0 X).2)) :: (4, .int .u64 ((sumP 0 X).1)) :: (13, .int .i64 ((sumP 0 X).2)) :: (12, .int .u64 ((sumP 0 X).1)) :: (9, .tuple #[.int .u64 ((sumP 0 X).1), .int .i64 ((sumP 0 X).2)]) :: L) F (by kernel_rfl) fun a F => ?_
  refine l_then ?_
  refine wp_seq ?_
  refine s_reg ?_
  refine l_pure 1 (fun L => (14, .int .i64 ((sumP 0 X).2)) :: L) F (by kernel_rfl) fun a F => ?_
  by_cases ht2 : ((sumP 0 X).2 : Int) = (0 : Int)
  · exact absurd ((if_neg (by omega) : newE X = (sumP 0 X).2).trans ht2) hne
  ·
   skip
   refine l_do F rfl rfl (op_pure F (v0 := .bool (((sumP 0 X).2 : Int) != (0 : Int))) (v := .bool true) (by kernel_rfl) (neqT ht2) fun a F => ?_)
   refine l_then ?_
   refine c_t F rfl ?_
   refine s_reg ?_
   refine l_pure 3 (fun L => (3, .int .i64 ((sumP 0 X).2)) :: (2, .pointer none) :: (16, .int .i64 ((sumP 0 X).2)) :: L) F (by kernel_rfl) fun a F => ?_
   refine l_then ?_
   refine wp_ret ?_
   refine then_r (?_)
   exact fin F [.tmp 2, .tmp 3] [.pointer none, .int .i64 ((sumP 0 X).2)] rfl ⟨by kernel_rfl, by kernel_rfl, trivial⟩ (.tuple #[.pointer none, .int .i64 ((sumP 0 X).2)]) rfl ⟨by rw [show newE X = (sumP 0 X).2 from if_neg (by omega)], S.below (i := 0) rfl⟩
set_option maxRecDepth 100000 in
set_option maxHeartbeats 4000000 in
theorem rnew24_ok (w : World) (Ax : Option Addr) (cx : Nat) (X : List Int) (hX : Recs 1 iC_u64 w Ax cx X) (hXu : ∀ a ∈ X, U64 a) (hz : newE X = 0) : Calls Try.prog 15 #[.slice Ax X.length cx] w fun e w' => ∃ b : Nat, e = .returned (.tuple #[.pointer (some ⟨b, 0, none⟩), .int .i64 0]) ∧ Sat w w' [rest w (· < w.heap.size), refA b ⟨X, [], [], []⟩] := by
 refine enter 22 Try.func15 rfl rfl rfl fun a F => ?_
 have S := Sat.pushRest w
 refine s_reg ?_
 refine l_pure 2 (fun L => (3, .int .i64 0) :: (2, .pointer none) :: L) F (by kernel_rfl) fun a F => ?_
 refine l_then ?_
 refine wp_seq ?_
 refine s_reg ?_
 refine l_pure 2 (fun L => (7, .int .i64 (X.length : Nat)) :: (6, .slice Ax X.length cx) :: L) F (by kernel_rfl) fun a F => ?_
 by_cases ht1 : (8 : Int) < ((X.length : Nat) : Int)
 · exact absurd ((if_pos (by omega) : newE X = 8).symm.trans hz) (by decide)
 ·
  skip
  refine l_do F rfl rfl (op_pure F (v0 := .bool (decide (((X.length : Nat) : Int) > (8 : Int)))) (v := .bool false) (by kernel_rfl) (gtrF ht1) fun a F => ?_)
  refine l_then ?_
  refine c_f F rfl ?_
  refine wp_skip ?_
  refine then_n ?_
  refine s_reg ?_
  refine l_pure 1 (fun L => (10, .slice Ax X.length cx) :: L) F (by kernel_rfl) fun a F => ?_
  refine l_do F rfl rfl (op_fn F (by kernel_rfl) (rsum_any _ Ax cx X (words_of_recs (hX.mono (src_rest S (i := 0) rfl hX.src (src_lt hX.src))) hXu (by omega))) ?_)
  rintro e z ⟨rfl, hw⟩
  first | subst hw | (have hw := hw.symm; subst hw)
  refine ⟨_, rfl, ?_⟩
  intro a F
  refine l_pure 5 (fun L => (5, .int .i64 ((sumP 0 X).2)) :: (4, .int .u64 ((sumP 0 X).1)) :: (13, .int .i64 ((sumP 0 X).2)) :: (12, .int .u64 ((sumP 0 X).1)) :: (9, .tuple #[.int .u64 ((sumP 0 X).1), .int .i64 ((sumP 0 X).2)]) :: L) F (by kernel_rfl) fun a F => ?_
  refine l_then ?_
  refine wp_seq ?_
  refine s_reg ?_
  refine l_pure 1 (fun L => (14, .int .i64 ((sumP 0 X).2)) :: L) F (by kernel_rfl) fun a F => ?_
  by_cases ht2 : ((sumP 0 X).2 : Int) = (0 : Int)
  ·
   skip
   refine l_do F rfl rfl (op_pure F (v0 := .bool (((sumP 0 X).2 : Int) != (0 : Int))) (v := .bool false) (by kernel_rfl) (neqF ht2) fun a F => ?_)
   refine l_then ?_
   refine c_f F rfl ?_
   refine wp_skip ?_
   refine then_n ?_
   refine s_reg ?_
   refine l_do F rfl rfl (op_buildSlice S _ 0 _ 23 1 iC_u64 ([] : List Int) F rfl (by kernel_rfl) (by kernel_rfl) (by kernel_rfl) (by unfold maxLen; omega) fun b3 z S a F => ?_)
   refine l_pure 1 (fun L => (18, .slice Ax X.length cx) :: L) F (by kernel_rfl) fun a F => ?_
   refine l_do F rfl rfl (op_append S 1 _ _ _ 23 (.int .u64 0) 1 8 ([] : List Int) X iC_u64 Ax cx F iC_len_u64 (fun _ => rfl) rfl rfl (by kernel_rfl) (by kernel_rfl) rfl rfl rfl (by kernel_rfl) (by kernel_rfl) hX.none_ (src_rest S (i := 0) rfl hX.src (src_lt hX.src)) (by first | omega | (simp <;> omega)) fun A4 c5 z S a F => ?_)
   refine l_pure 1 (fun L => (20, .agg #[.slice A4 ((([] : List Int) ++ X).length) c5, .slice none 0 0, .slice none 0 0, .slice none 0 0]) :: L) F (by kernel_rfl) fun a F => ?_
   refine l_do F rfl rfl (op_box S _ _ (.agg #[.slice A4 ((([] : List Int) ++ X).length) c5, .slice none 0 0, .slice none 0 0, .slice none 0 0]) F rfl (by kernel_rfl) fun b6 z S a F => ?_)
   refine l_pure 2 (fun L => (3, .int .i64 0) :: (2, .pointer (some ⟨b6, 0, none⟩)) :: L) F (by kernel_rfl) fun a F => ?_
   refine l_then ?_
   refine wp_ret ?_
   have S := (((S.nilRow 63 2).nilRow 31 2).nilRow 83 3).pushBag
   exact fin F [.tmp 2, .tmp 3] [.pointer (some ⟨b6, 0, none⟩), .int .i64 0] rfl ⟨by kernel_rfl, by kernel_rfl, trivial⟩ (.tuple #[.pointer (some ⟨b6, 0, none⟩), .int .i64 0]) rfl ⟨b6, rfl, (ref_shut (b := b6) (H := X) (E := []) (F := []) (l := []) (qs := []) rfl rfl rfl (by simp) rfl (S.pick [0, 2, 1, 3, 4, 5, 6] (by decide))).pick [1, 0] (by decide)⟩
  · exact absurd ((if_neg (by omega) : newE X = (sumP 0 X).2).symm.trans hz) ht2
end Go.Proofs.Ytecgpkjigbhneaa
