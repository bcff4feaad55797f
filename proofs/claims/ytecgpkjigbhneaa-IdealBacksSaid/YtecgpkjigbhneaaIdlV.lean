/- Walks over the document's ideal: payments begin; a new ideal. -/
import Derived.Test.YtecgpkjigbhneaaIdlU
namespace Go.Proofs.Ytecgpkjigbhneaa
set_option linter.unusedVariables false
set_option linter.unusedSimpArgs false
set_option linter.unnecessarySimpa false
open Go Go.RowKit

set_option maxRecDepth 100000 in
set_option maxHeartbeats 4000000 in
theorem rbegin24_any (w : World) (G : Nat → Prop) (b : Nat) (I : Idl) (ok : IOk I) (hS : Sat w w [refA b I, rest w G]) (hpn : I.pays.length ≤ 900) (cid from_ : Int) (Ar : Option Addr) (cr : Nat) (E : List Int) (hE0 : Recs 1 iC_i64 w Ar cr E) (gE : InG G Ar (E.flatMap iC_i64)) (As : Option Addr) (cs : Nat) (A : List Int) (hA0 : Recs 1 iC_u64 w As cs A) (gA : InG G As (A.flatMap iC_u64)) (hAu : ∀ a ∈ A, U64 a) : Calls Try.prog 36 #[.pointer (some ⟨b, 0, none⟩), .int .u64 cid, .int .i64 from_, .slice Ar E.length cr, .slice As A.length cs] w fun e w' => e = .returned (.int .i64 (begP I cid from_ E A).2) ∧ Sat w w' [refA b (begP I cid from_ E A).1, rest w G] := by
 refine enter 199 Try.func36 rfl rfl rfl fun a F => ?_
 obtain ⟨Ah, ch, Ae, ce, Af, cf, Al, cl, qs, hqs, S⟩ := ref_open hS
 have hfl := ok.fl
 have hel := ok.el
 have hsm := ok.sums
 have hql := qs_len hqs
 refine s_reg ?_
 refine l_pure 1 (fun L => (10, .int .i64 0) :: L) F (by kernel_rfl) fun a F => ?_
 refine l_then ?_
 refine wp_seq ?_
 refine s_reg ?_
 refine l_pure 4 (fun L => (20, .int .i64 (A.length : Nat)) :: (19, .slice As A.length cs) :: (18, .int .i64 (E.length : Nat)) :: (17, .slice Ar E.length cr) :: L) F (by kernel_rfl) fun a F => ?_
 by_cases ht1 : ((E.length : Nat) : Int) = ((A.length : Nat) : Int)
 ·
  skip
  refine l_do F rfl rfl (op_pure F (v0 := .bool (((E.length : Nat) : Int) != ((A.length : Nat) : Int))) (v := .bool false) (by kernel_rfl) (neqF ht1) fun a F => ?_)
  refine l_pure 3 (fun L => (24, .int .i64 (E.length : Nat)) :: (23, .slice Ar E.length cr) :: (22, .bool false) :: L) F (by kernel_rfl) fun a F => ?_
  by_cases ht2 : ((E.length : Nat) : Int) = (0 : Int)
  ·
   skip
   refine l_do F rfl rfl (op_pure F (v0 := .bool (((E.length : Nat) : Int) == (0 : Int))) (v := .bool true) (by kernel_rfl) (eqlT ht2) fun a F => ?_)
   refine l_pure 6 (fun L => (31, .bool true) :: (30, undef) :: (29, undef) :: (28, undef) :: (27, .bool true) :: (26, .bool true) :: L) F (by kernel_rfl) fun a F => ?_
   refine l_then ?_
   refine c_t F rfl ?_
   refine s_reg ?_
   refine l_pure 1 (fun L => (10, .int .i64 1) :: L) F (by kernel_rfl) fun a F => ?_
   refine l_then ?_
   refine wp_ret ?_
   refine then_r (?_)
   exact fin F [.tmp 10] [.int .i64 1] rfl ⟨by kernel_rfl, trivial⟩ (.int .i64 1) rfl ⟨by rw [beg_arg (by omega)], by rw [beg_arg (by omega)]; exact (ref_shut hqs (by simp) (by simp) (by simp) (by simp) (S.pick [0, 1, 2, 3, 4, 5, 6] (by decide)))⟩
  ·
   skip
   refine l_do F rfl rfl (op_pure F (v0 := .bool (((E.length : Nat) : Int) == (0 : Int))) (v := .bool false) (by kernel_rfl) (eqlF ht2) fun a F => ?_)
   refine l_pure 4 (fun L => (29, .int .i64 (E.length : Nat)) :: (28, .slice Ar E.length cr) :: (27, .bool false) :: (26, .bool false) :: L) F (by kernel_rfl) fun a F => ?_
   by_cases ht3 : (7 : Int) < ((E.length : Nat) : Int)
   ·
    skip
    refine l_do F rfl rfl (op_pure F (v0 := .bool (decide (((E.length : Nat) : Int) > (7 : Int)))) (v := .bool true) (by kernel_rfl) (gtrT ht3) fun a F => ?_)
    refine l_pure 1 (fun L => (31, .bool true) :: L) F (by kernel_rfl) fun a F => ?_
    refine l_then ?_
    refine c_t F rfl ?_
    refine s_reg ?_
    refine l_pure 1 (fun L => (10, .int .i64 1) :: L) F (by kernel_rfl) fun a F => ?_
    refine l_then ?_
    refine wp_ret ?_
    refine then_r (?_)
    exact fin F [.tmp 10] [.int .i64 1] rfl ⟨by kernel_rfl, trivial⟩ (.int .i64 1) rfl ⟨by rw [beg_arg (by omega)], by rw [beg_arg (by omega)]; exact (ref_shut hqs (by simp) (by simp) (by simp) (by simp) (S.pick [0, 1, 2, 3, 4, 5, 6] (by decide)))⟩
   ·
    skip
    refine l_do F rfl rfl (op_pure F (v0 := .bool (decide (((E.length : Nat) : Int) > (7 : Int)))) (v := .bool false) (by kernel_rfl) (gtrF ht3) fun a F => ?_)
    refine l_pure 1 (fun L => (31, .bool false) :: L) F (by kernel_rfl) fun a F => ?_
    refine l_then ?_
    refine c_f F rfl ?_
    refine wp_skip ?_
    refine then_n ?_
    refine wp_seq ?_
    refine s_reg ?_
    refine l_pure 2 (fun L => (33, .int .u64 cid) :: (32, .pointer (some ⟨b, 0, none⟩)) :: L) F (by kernel_rfl) fun a F => ?_
    rcases rlook_cases hqs cid with ⟨hf, hv⟩ | ⟨iq, q, hf, hq, hlq, hid, hv⟩
    ·
     skip
     have hfn := hf
     obtain ⟨G9, g9, hin9, hlt9, k9⟩ := S.frameB [1, 5] (by decide) rfl
     refine l_do F rfl rfl (op_fn F (by kernel_rfl) (rfind24_at hqs hv _ G9 b Ah I.has.length ch Ae I.ends.length ce Af I.free.length cf Al cl (by omega) g9) ?_)
     rintro e z9 ⟨rfl, g⟩
     have S : Sat w z9 [rest w G, box b 74 [.slice Ah I.has.length ch, .slice Ae I.ends.length ce, .slice Af I.free.length cf, .slice Al qs.length cl], rUl Ah ch I.has, rEl Ae ce I.ends, rFl Af cf I.free, rPl Al cl qs, bag (qs.flatMap legRows)] := k9 z9 [box b 74 [.slice Ah I.has.length ch, .slice Ae I.ends.length ce, .slice Af I.free.length cf, .slice Al qs.length cl], rPl Al cl qs] rfl g
     clear g g9 k9 hin9 hlt9
     refine ⟨_, rfl, ?_⟩
     intro a F
     refine l_pure 1 (fun L => (35, .bool false) :: L) F (by kernel_rfl) fun a F => ?_
     refine l_then ?_
     refine c_f F rfl ?_
     refine wp_skip ?_
     refine then_n ?_
     refine cutK 3 (fun a z => ∃ (er : Int) (Fq : List (Int × Int)) (Lg : List Leg) (Alg : Option Addr) (clg : Nat), (begF I.ends I.free from_ none E A = (er, Fq, Lg)) ∧ Fr a 199 [(0, .pointer (some ⟨b, 0, none⟩)), (1, .int .u64 cid), (11, .slice Alg Lg.length clg), (12, .int .i64 er)] ∧ Sat w z [rest w G, box b 74 [.slice Ah I.has.length ch, .slice Ae I.ends.length ce, .slice Af I.free.length cf, .slice Al qs.length cl], rUl Ah ch I.has, rEl Ae ce I.ends, rF Af I.free.length cf Fq, rPl Al cl qs, bag (qs.flatMap legRows), rLl Alg clg Lg]) ?_ ?_
     ·
      rintro a z ⟨er, Fq, Lg, Alg, clg, hf4, F, S⟩
      dsimp only [tailAt]
      have hbf := hf4
      obtain ⟨hi1, hi2, hi3, hi4, hi5, hi6⟩ := begF_ok E A I.free from_ none ok.fl ok.fu (fun a9 ha9 => (hAu a9 ha9).1)
      rw [hbf] at hi1 hi2 hi3 hi4 hi5 hi6
      dsimp only at hi1 hi2 hi3 hi4 hi5 hi6
      have hfl9 := ok.fl
      refine wp_seq ?_
      refine s_reg ?_
      refine l_pure 1 (fun L => (150, .int .i64 er) :: L) F (by kernel_rfl) fun a F => ?_
      by_cases ht5 : (er : Int) = (0 : Int)
      ·
       skip
       have her := ht5
       refine l_do F rfl rfl (op_pure F (v0 := .bool ((er : Int) != (0 : Int))) (v := .bool false) (by kernel_rfl) (neqF ht5) fun a F => ?_)
       refine l_then ?_
       refine c_f F rfl ?_
       refine wp_skip ?_
       refine then_n ?_
       refine s_reg ?_
       refine l_pure 4 (fun L => (190, .pointer (some ⟨b, 3, none⟩)) :: (189, .pointer (some ⟨b, 0, none⟩)) :: (188, .pointer (some ⟨b, 0, none⟩)) :: (187, .pointer (some ⟨b, 0, none⟩)) :: L) F (by kernel_rfl) fun a F => ?_
       refine l_do F rfl rfl (op_load _ _ (some ⟨b, 0, none⟩) 3 (.slice Al qs.length cl) F rfl (by kernel_rfl) (by kernel_rfl) (cBox S 1 rfl (j := 3) rfl) (fun a F => ?_))
       refine l_pure 3 (fun L => (194, .agg #[.int .u64 cid, .int .i64 0, .slice Alg Lg.length clg]) :: (193, .slice Alg Lg.length clg) :: (192, .int .u64 cid) :: L) F (by kernel_rfl) fun a F => ?_
       refine l_do F rfl rfl (op_buildSlice S _ 1 _ 83 3 payC ([(⟨Alg, clg, ⟨cid, 0, Lg⟩⟩ : PayR)] : List PayR) F rfl (by kernel_rfl) (by kernel_rfl) (by kernel_rfl) (by unfold maxLen; omega) fun b6 z S a F => ?_)
       refine l_do F rfl rfl (op_append S 5 _ _ _ 83 (.agg #[.int .u64 0, .int .i64 0, .slice none 0 0]) 3 40 qs ([(⟨Alg, clg, ⟨cid, 0, Lg⟩⟩ : PayR)] : List PayR) payC (some ⟨b6, 0, none⟩) 1 F payC_len (fun _ => rfl) rfl rfl (by kernel_rfl) (by kernel_rfl) rfl rfl rfl (by kernel_rfl) (by kernel_rfl) (row_none (S.rowOf (i := 8) rfl)) (src_row (S.rowOf (i := 8) rfl)) (by first | omega | (simp <;> omega)) fun A7 c8 z S a F => ?_)
       refine l_pure 2 (fun L => (198, .pointer (some ⟨b, 3, none⟩)) :: (197, .pointer (some ⟨b, 0, none⟩)) :: L) F (by kernel_rfl) fun a F => ?_
       refine l_do F rfl rfl (op_storeB S 1 _ _ _ b 3 (.slice A7 ((qs ++ ([(⟨Alg, clg, ⟨cid, 0, Lg⟩⟩ : PayR)] : List PayR)).length) c8) F rfl rfl (by kernel_rfl) (by kernel_rfl) (by kernel_rfl) (by kernel_rfl) (by kernel_rfl) fun z S a F => ?_)
       refine l_then ?_
       refine s_reg ?_
       refine l_pure 1 (fun L => (10, .int .i64 0) :: L) F (by kernel_rfl) fun a F => ?_
       refine l_then ?_
       refine wp_ret ?_
       have S := bag_legs S (⟨Alg, clg, ⟨cid, 0, Lg⟩⟩ : PayR) 6 7 rfl rfl rfl
       have S : Sat w z [rest w G, box b 74 [.slice Ah I.has.length ch, .slice Ae I.ends.length ce, .slice Af I.free.length cf, .slice A7 ((qs ++ ([(⟨Alg, clg, ⟨cid, 0, Lg⟩⟩ : PayR)] : List PayR)).length) c8], rUl Ah ch I.has, rEl Ae ce I.ends, rF Af I.free.length cf Fq, rPl A7 c8 (qs ++ ([(⟨Alg, clg, ⟨cid, 0, Lg⟩⟩ : PayR)] : List PayR)), bag ((qs ++ [(⟨Alg, clg, ⟨cid, 0, Lg⟩⟩ : PayR)]).flatMap legRows), emp, rP (some ⟨b6, 0, none⟩) 1 1 ([(⟨Alg, clg, ⟨cid, 0, Lg⟩⟩ : PayR)] : List PayR)] := S
       exact fin F [.tmp 10] [.int .i64 0] rfl ⟨by kernel_rfl, trivial⟩ (.int .i64 0) rfl ⟨by rw [beg_ok (by omega) hfn (her ▸ hbf)], by rw [beg_ok (by omega) hfn (her ▸ hbf)]; exact (ref_shut (by rw [List.map_append, hqs]; rfl) (by first | rfl | omega | (simp; omega) | simp) (by first | rfl | omega | (simp; omega) | simp) (by first | rfl | omega | (simp; omega) | simp) (by first | rfl | omega | (simp; omega) | simp) (S.pick [0, 1, 2, 3, 4, 5, 6] (by decide)))⟩
      ·
       skip
       have her := ht5
       refine l_do F rfl rfl (op_pure F (v0 := .bool ((er : Int) != (0 : Int))) (v := .bool true) (by kernel_rfl) (neqT ht5) fun a F => ?_)
       refine l_then ?_
       refine c_t F rfl ?_
       refine wp_seq ?_
       refine s_reg ?_
       refine l_pure 1 (fun L => (15, .int .i64 0) :: L) F (by kernel_rfl) fun a F => ?_
       refine l_then ?_
       refine wp_block ?_
       refine wp_loop_m (fun m a z => ∃ (j : Nat) (F2 : List (Int × Int)), m = Lg.length - j ∧ (j ≤ Lg.length) ∧ (F2.length = I.free.length) ∧ (∀ f ∈ F2, 0 ≤ f.1 ∧ 0 ≤ f.2) ∧ (payL false F2 (Lg.drop j) = I.free) ∧ (sumF F2 + legSum (Lg.drop j) = sumF I.free) ∧ Fr a 199 [(0, .pointer (some ⟨b, 0, none⟩)), (11, .slice Alg Lg.length clg), (12, .int .i64 er), (15, .int .i64 (j : Nat))] ∧ Sat w z [rest w G, box b 74 [.slice Ah I.has.length ch, .slice Ae I.ends.length ce, .slice Af I.free.length cf, .slice Al qs.length cl], rUl Ah ch I.has, rEl Ae ce I.ends, rF Af I.free.length cf F2, rPl Al cl qs, bag (qs.flatMap legRows), rLl Alg clg Lg]) _ ⟨0, Fq, rfl, Nat.zero_le _, hi1, hi2, hi6, hi5, F.sub ⟨by kernel_rfl, by kernel_rfl, by kernel_rfl, by kernel_rfl, trivial⟩, S⟩ ?_
       rintro m a z ⟨j, F2, hm, hf9, hf10, hf11, hf12, hf13, F, S⟩
       have hF2l := hf10
       have hFn := hf11
       have hpl2 := hf12
       have hSF := hf13
       refine wp_seq ?_
       refine s_reg ?_
       refine l_pure 3 (fun L => (154, .int .i64 (Lg.length : Nat)) :: (153, .slice Alg Lg.length clg) :: (152, .int .i64 (j : Nat)) :: L) F (by kernel_rfl) fun a F => ?_
       by_cases ht14 : ((j : Nat) : Int) < ((Lg.length : Nat) : Int)
       ·
        skip
        obtain ⟨⟨ge, gs, ga⟩, hgl⟩ : ∃ l, Lg[j]? = some l := ⟨_, List.getElem?_eq_getElem (by omega)⟩
        obtain ⟨hge, hgs2, hga⟩ := hi3 _ (List.mem_of_getElem? hgl)
        dsimp only at hge hgs2 hga
        obtain ⟨xg, hxg⟩ : ∃ xg, F2[ge]? = some xg := ⟨_, List.getElem?_eq_getElem (by omega)⟩
        have hxn := hFn _ (List.mem_of_getElem? hxg)
        have hxs := sumF_one hFn hxg
        have hld := leg_drop hgl
        dsimp only at hld
        have hln := legSum_nn (l := Lg.drop (j + 1)) (fun x hx => (hi3 x (List.mem_of_mem_drop hx)).2.2)
        have hgs : gs = 0 ∨ gs = 1 := by omega
        refine l_do F rfl rfl (op_pure F (v0 := .bool (decide (((j : Nat) : Int) < ((Lg.length : Nat) : Int)))) (v := .bool true) (by kernel_rfl) (lssT ht14) fun a F => ?_)
        refine l_then ?_
        refine c_t F rfl ?_
        refine wp_skip ?_
        refine then_n ?_
        refine wp_seq ?_
        refine wp_block ?_
        refine s_reg ?_
        refine l_pure 2 (fun L => (159, .int .i64 (j : Nat)) :: (158, .slice Alg Lg.length clg) :: L) F (by kernel_rfl) fun a F => ?_
        refine l_do F rfl rfl (op_index _ 92 _ _ Alg Lg.length clg j 3 .i64 F rfl (by kernel_rfl) (by kernel_rfl) (by kernel_rfl) (by kernel_rfl) (get_lt hgl) (row_some S 7 rfl (m := j) (get_lt hgl)) (fun a F => ?_))
        refine l_do F rfl rfl (op_loadK _ _ Alg (j * 3) [.int .i64 (ge : Nat), .int .i64 (gs : Nat), .int .u64 ga] F rfl (by kernel_rfl) (by kernel_rfl) (by kernel_rfl) (by simp) (cRecK0 S 7 legC_len rfl hgl (by kernel_rfl)) (fun a F => ?_))
        refine l_do F rfl rfl (op_alloc S _ (.agg #[.int .i64 0, .int .i64 0, .int .u64 0]) rfl (by kernel_rfl) fun b15 z S a F => ?_)
        refine l_do F rfl rfl (op_storeB S 8 _ _ _ b15 0 (.agg #[.int .i64 (ge : Nat), .int .i64 (gs : Nat), .int .u64 ga]) F rfl rfl (by kernel_rfl) (by kernel_rfl) (by kernel_rfl) (by kernel_rfl) (by kernel_rfl) fun z S a F => ?_)
        refine l_then ?_
        have hn16 : Option.isSome Alg = true := (row_some S 7 rfl (m := j) (get_lt hgl))
        rcases hgs with rfl | rfl
        ·
         skip
         refine region_gx (fun D => fun (_ : Unit) => [rest w G, box b 74 [.slice Ah I.has.length ch, .slice Ae I.ends.length ce, .slice Af I.free.length cf, .slice Al qs.length cl], rUl Ah ch I.has, rEl Ae ce I.ends, bif D 24 then rF Af I.free.length cf (F2.set ge ((xg.1 + ga, xg.2) : Int × Int)) else rF Af I.free.length cf F2, rPl Al cl qs, bag (qs.flatMap legRows), rLl Alg clg Lg, box b15 92 [.int .i64 (ge : Nat), .int .i64 0, .int .u64 ga]]) (fun (_ : Unit) => [.pointer (some ⟨b, 0, none⟩), .pointer (some ⟨b, 0, none⟩), .pointer (some ⟨b, 2, none⟩), .slice Af I.free.length cf, .pointer (some ⟨b15, 0, none⟩), .int .i64 (ge : Nat), .pointer (some ⟨b15, 1, none⟩), .int .i64 0, .pointer (some ⟨b, 0, none⟩), .pointer (some ⟨b, 0, none⟩), .pointer (some ⟨b, 2, none⟩), .slice Af I.free.length cf, .pointer (some ⟨b15, 0, none⟩), .int .i64 (ge : Nat), .pointer (some ⟨b15, 1, none⟩), .int .i64 0, ptrA Af (ge * 2), ptrA Af (ge * 2), .int .u64 xg.1, .pointer (some ⟨b15, 2, none⟩), .int .u64 ga, .int .u64 (xg.1 + ga), ptrA Af (ge * 2), ptrA Af (ge * 2), undef]) [(3, [], [22, 23, 24]), (5, [], [22, 23, 24]), (7, [], [23, 24]), (11, [], [16, 17, 18, 21, 23, 24]), (13, [], [16, 17, 18, 21, 23, 24]), (15, [], [17, 18, 21, 23, 24]), (16, [11, 13], [17, 18, 21, 23, 24]), (17, [11, 13, 15, 16], [18, 21, 23, 24]), (18, [11, 13, 15, 16, 17], [21, 23, 24]), (20, [], [21, 23, 24]), (21, [11, 13, 15, 16, 17, 18, 20], [23, 24]), (22, [3, 5], [23, 24]), (23, [3, 5, 7, 11, 13, 15, 16, 17, 18, 20, 21, 22], [24]), (24, [3, 5, 7, 11, 13, 15, 16, 17, 18, 20, 21, 22, 23], [])] () rfl (by kernel_rfl) (by kernel_rfl) F S.drew ?_ ?_ ?_ ?_ ?_
         · rintro ⟨⟩; rfl
         · rintro ⟨⟩; kernel_rfl
         ·
          intro D D' x h
          cases x
          simp only [h 24 (by decide)]
         ·
          refine ⟨?_, ?_⟩
          ·
           refine ⟨_, rfl, rfl, by kernel_rfl, ?_⟩
           rintro D ⟨⟩ a z S F
           refine ⟨by kernel_rfl, ?_⟩
           exact op_load _ _ (some ⟨b, 0, none⟩) 2 (.slice Af I.free.length cf) F rfl (by kernel_rfl) (by kernel_rfl) (cBox S 1 rfl (j := 2) rfl) (⟨(), rfl, (SameB.refl _ _ rfl), S⟩)
          refine ⟨?_, ?_⟩
          ·
           refine ⟨_, rfl, rfl, by kernel_rfl, ?_⟩
           rintro D ⟨⟩ a z S F
           refine ⟨by kernel_rfl, ?_⟩
           exact op_load _ _ (some ⟨b15, 0, none⟩) 0 (.int .i64 (ge : Nat)) F rfl (by kernel_rfl) (by kernel_rfl) (cBox S 8 rfl (j := 0) rfl) (⟨(), rfl, (SameB.refl _ _ rfl), S⟩)
          refine ⟨?_, ?_⟩
          ·
           refine ⟨_, rfl, rfl, by kernel_rfl, ?_⟩
           rintro D ⟨⟩ a z S F
           refine ⟨by kernel_rfl, ?_⟩
           exact op_load _ _ (some ⟨b15, 0, none⟩) 1 (.int .i64 0) F rfl (by kernel_rfl) (by kernel_rfl) (cBox S 8 rfl (j := 1) rfl) (⟨(), rfl, (SameB.refl _ _ rfl), S⟩)
          refine ⟨?_, ?_⟩
          ·
           refine ⟨_, rfl, rfl, by kernel_rfl, ?_⟩
           rintro D ⟨⟩ a z S F
           refine ⟨by kernel_rfl, ?_⟩
           exact op_load _ _ (some ⟨b, 0, none⟩) 2 (.slice Af I.free.length cf) F rfl (by kernel_rfl) (by kernel_rfl) (cBox S 1 rfl (j := 2) rfl) (⟨(), rfl, (SameB.refl _ _ rfl), S⟩)
          refine ⟨?_, ?_⟩
          ·
           refine ⟨_, rfl, rfl, by kernel_rfl, ?_⟩
           rintro D ⟨⟩ a z S F
           refine ⟨by kernel_rfl, ?_⟩
           exact op_load _ _ (some ⟨b15, 0, none⟩) 0 (.int .i64 (ge : Nat)) F rfl (by kernel_rfl) (by kernel_rfl) (cBox S 8 rfl (j := 0) rfl) (⟨(), rfl, (SameB.refl _ _ rfl), S⟩)
          refine ⟨?_, ?_⟩
          ·
           refine ⟨_, rfl, rfl, by kernel_rfl, ?_⟩
           rintro D ⟨⟩ a z S F
           refine ⟨by kernel_rfl, ?_⟩
           exact op_load _ _ (some ⟨b15, 0, none⟩) 1 (.int .i64 0) F rfl (by kernel_rfl) (by kernel_rfl) (cBox S 8 rfl (j := 1) rfl) (⟨(), rfl, (SameB.refl _ _ rfl), S⟩)
          refine ⟨?_, ?_⟩
          ·
           refine ⟨_, rfl, rfl, by kernel_rfl, ?_⟩
           rintro D ⟨⟩ a z S F
           refine ⟨by kernel_rfl, ?_⟩
           exact op_index _ 31 _ _ Af I.free.length cf ge 2 .i64 F rfl (by kernel_rfl) (by kernel_rfl) (by kernel_rfl) (by kernel_rfl) (by have h9 := get_lt hxg; (try simp only [List.length_set] at h9); omega) (row_some S 4 rfl (m := ge) (by have h9 := get_lt hxg; (try simp only [List.length_set] at h9); omega)) (⟨(), rfl, (SameB.refl _ _ rfl), S⟩)
          refine ⟨?_, ?_⟩
          ·
           refine ⟨_, rfl, rfl, by kernel_rfl, ?_⟩
           rintro D ⟨⟩ a z S F
           refine ⟨by kernel_rfl, ?_⟩
           exact op_indexArr _ 23 _ _ Af (ge * 2) 2 0 1 .i64 F rfl (by kernel_rfl) (by kernel_rfl) (by kernel_rfl) (by kernel_rfl) (by decide) (row_some S 4 rfl (m := ge) (by have h9 := get_lt hxg; (try simp only [List.length_set] at h9); omega)) (⟨(), rfl, (SameB.refl _ _ rfl), S⟩)
          refine ⟨?_, ?_⟩
          ·
           refine ⟨_, rfl, rfl, by kernel_rfl, ?_⟩
           rintro D ⟨⟩ a z S F
           refine ⟨by kernel_rfl, ?_⟩
           exact op_load _ _ Af (ge * 2) (.int .u64 xg.1) F rfl (by kernel_rfl) (by kernel_rfl) (cRec S 4 frC_len rfl 0 hxg rfl) (⟨(), rfl, (SameB.refl _ _ rfl), S⟩)
          refine ⟨?_, ?_⟩
          ·
           refine ⟨_, rfl, rfl, by kernel_rfl, ?_⟩
           rintro D ⟨⟩ a z S F
           refine ⟨by kernel_rfl, ?_⟩
           exact op_load _ _ (some ⟨b15, 0, none⟩) 2 (.int .u64 ga) F rfl (by kernel_rfl) (by kernel_rfl) (cBox S 8 rfl (j := 2) rfl) (⟨(), rfl, (SameB.refl _ _ rfl), S⟩)
          refine ⟨?_, ?_⟩
          ·
           refine ⟨_, rfl, rfl, by kernel_rfl, ?_⟩
           rintro D ⟨⟩ a z S F
           refine ⟨by kernel_rfl, ?_⟩
           exact op_pure F (v0 := .int .u64 (IntKind.wrap .u64 (xg.1 + ga))) (v := .int .u64 (xg.1 + ga)) (by kernel_rfl) (wr_u64 (by omega) (by omega)) ⟨(), rfl, (SameB.refl _ _ rfl), S⟩
          refine ⟨?_, ?_⟩
          ·
           refine ⟨_, rfl, rfl, by kernel_rfl, ?_⟩
           rintro D ⟨⟩ a z S F
           refine ⟨by kernel_rfl, ?_⟩
           exact op_index _ 31 _ _ Af I.free.length cf ge 2 .i64 F rfl (by kernel_rfl) (by kernel_rfl) (by kernel_rfl) (by kernel_rfl) (by have h9 := get_lt hxg; (try simp only [List.length_set] at h9); omega) (row_some S 4 rfl (m := ge) (by have h9 := get_lt hxg; (try simp only [List.length_set] at h9); omega)) (⟨(), rfl, (SameB.refl _ _ rfl), S⟩)
          refine ⟨?_, ?_⟩
          ·
           refine ⟨_, rfl, rfl, by kernel_rfl, ?_⟩
           rintro D ⟨⟩ a z S F
           refine ⟨by kernel_rfl, ?_⟩
           exact op_indexArr _ 23 _ _ Af (ge * 2) 2 0 1 .i64 F rfl (by kernel_rfl) (by kernel_rfl) (by kernel_rfl) (by kernel_rfl) (by decide) (row_some S 4 rfl (m := ge) (by have h9 := get_lt hxg; (try simp only [List.length_set] at h9); omega)) (⟨(), rfl, (SameB.refl _ _ rfl), S⟩)
          refine ⟨?_, ?_⟩
          ·
           refine ⟨_, rfl, rfl, by kernel_rfl, ?_⟩
           rintro D ⟨⟩ a z S F
           refine ⟨by kernel_rfl, ?_⟩
           exact op_storeRec S 4 _ _ _ Af ge 2 0 (.int .u64 (xg.1 + ga)) ((xg.1 + ga, xg.2) : Int × Int) F frC_len hxg rfl rfl (by kernel_rfl) (by kernel_rfl) (by kernel_rfl) (by kernel_rfl) (by kernel_rfl) (by kernel_rfl) (by kernel_rfl) fun z S => ⟨(), rfl, (SameB.refl _ _ rfl), S⟩
          trivial
         ·
          rintro ⟨⟩ a z F S
          have F := F.sub (l := [(0, .pointer (some ⟨b, 0, none⟩)), (11, .slice Alg Lg.length clg), (12, .int .i64 er), (15, .int .i64 (j : Nat))]) ⟨by kernel_rfl, by kernel_rfl, by kernel_rfl, by kernel_rfl, trivial⟩
          have S : Sat w z [rest w G, box b 74 [.slice Ah I.has.length ch, .slice Ae I.ends.length ce, .slice Af I.free.length cf, .slice Al qs.length cl], rUl Ah ch I.has, rEl Ae ce I.ends, rF Af I.free.length cf (F2.set ge ((xg.1 + ga, xg.2) : Int × Int)), rPl Al cl qs, bag (qs.flatMap legRows), rLl Alg clg Lg, box b15 92 [.int .i64 (ge : Nat), .int .i64 0, .int .u64 ga]] := S
          refine inb_n ?_
          refine then_n ?_
          refine wp_region_list ?_
          refine l_pure 1 (fun L => (156, .int .i64 (j : Nat)) :: L) F (by kernel_rfl) fun a F => ?_
          refine l_do F rfl rfl (op_pure F (v0 := .int .i64 (IntKind.wrap .i64 ((j : Nat) + 1))) (v := .int .i64 (j + 1 : Nat)) (by kernel_rfl) (wrn_i64 (by omega) (by omega) (by omega)) fun a F => ?_)
          refine l_pure 1 (fun L => (15, .int .i64 (j + 1 : Nat)) :: L) F (by kernel_rfl) fun a F => ?_
          refine l_then ?_
          exact ⟨_, (by omega), j + 1, (F2.set ge ((xg.1 + ga, xg.2) : Int × Int)), rfl, (by omega), (by rw [List.length_set]; exact hF2l), (set_free_nn hFn (by omega) (by omega)), (by rw [← hpl2, payL_next hgl hxg]; rfl), (by rw [sumF_set hxg]; (try dsimp only); omega), F.sub ⟨by kernel_rfl, by kernel_rfl, by kernel_rfl, by kernel_rfl, trivial⟩, (S.pick [0, 1, 2, 3, 4, 5, 6, 7] (by decide))⟩
        ·
         skip
         refine region_gx (fun D => fun (_ : Unit) => [rest w G, box b 74 [.slice Ah I.has.length ch, .slice Ae I.ends.length ce, .slice Af I.free.length cf, .slice Al qs.length cl], rUl Ah ch I.has, rEl Ae ce I.ends, bif D 24 then rF Af I.free.length cf (F2.set ge ((xg.1, xg.2 + ga) : Int × Int)) else rF Af I.free.length cf F2, rPl Al cl qs, bag (qs.flatMap legRows), rLl Alg clg Lg, box b15 92 [.int .i64 (ge : Nat), .int .i64 1, .int .u64 ga]]) (fun (_ : Unit) => [.pointer (some ⟨b, 0, none⟩), .pointer (some ⟨b, 0, none⟩), .pointer (some ⟨b, 2, none⟩), .slice Af I.free.length cf, .pointer (some ⟨b15, 0, none⟩), .int .i64 (ge : Nat), .pointer (some ⟨b15, 1, none⟩), .int .i64 1, .pointer (some ⟨b, 0, none⟩), .pointer (some ⟨b, 0, none⟩), .pointer (some ⟨b, 2, none⟩), .slice Af I.free.length cf, .pointer (some ⟨b15, 0, none⟩), .int .i64 (ge : Nat), .pointer (some ⟨b15, 1, none⟩), .int .i64 1, ptrA Af (ge * 2), ptrA Af (ge * 2 + 1), .int .u64 xg.2, .pointer (some ⟨b15, 2, none⟩), .int .u64 ga, .int .u64 (xg.2 + ga), ptrA Af (ge * 2), ptrA Af (ge * 2 + 1), undef]) [(3, [], [22, 23, 24]), (5, [], [22, 23, 24]), (7, [], [23, 24]), (11, [], [16, 17, 18, 21, 23, 24]), (13, [], [16, 17, 18, 21, 23, 24]), (15, [], [17, 18, 21, 23, 24]), (16, [11, 13], [17, 18, 21, 23, 24]), (17, [11, 13, 15, 16], [18, 21, 23, 24]), (18, [11, 13, 15, 16, 17], [21, 23, 24]), (20, [], [21, 23, 24]), (21, [11, 13, 15, 16, 17, 18, 20], [23, 24]), (22, [3, 5], [23, 24]), (23, [3, 5, 7, 11, 13, 15, 16, 17, 18, 20, 21, 22], [24]), (24, [3, 5, 7, 11, 13, 15, 16, 17, 18, 20, 21, 22, 23], [])] () rfl (by kernel_rfl) (by kernel_rfl) F S.drew ?_ ?_ ?_ ?_ ?_
         · rintro ⟨⟩; rfl
         · rintro ⟨⟩; kernel_rfl
         ·
          intro D D' x h
          cases x
          simp only [h 24 (by decide)]
         ·
          refine ⟨?_, ?_⟩
          ·
           refine ⟨_, rfl, rfl, by kernel_rfl, ?_⟩
           rintro D ⟨⟩ a z S F
           refine ⟨by kernel_rfl, ?_⟩
           exact op_load _ _ (some ⟨b, 0, none⟩) 2 (.slice Af I.free.length cf) F rfl (by kernel_rfl) (by kernel_rfl) (cBox S 1 rfl (j := 2) rfl) (⟨(), rfl, (SameB.refl _ _ rfl), S⟩)
          refine ⟨?_, ?_⟩
          ·
           refine ⟨_, rfl, rfl, by kernel_rfl, ?_⟩
           rintro D ⟨⟩ a z S F
           refine ⟨by kernel_rfl, ?_⟩
           exact op_load _ _ (some ⟨b15, 0, none⟩) 0 (.int .i64 (ge : Nat)) F rfl (by kernel_rfl) (by kernel_rfl) (cBox S 8 rfl (j := 0) rfl) (⟨(), rfl, (SameB.refl _ _ rfl), S⟩)
          refine ⟨?_, ?_⟩
          ·
           refine ⟨_, rfl, rfl, by kernel_rfl, ?_⟩
           rintro D ⟨⟩ a z S F
           refine ⟨by kernel_rfl, ?_⟩
           exact op_load _ _ (some ⟨b15, 0, none⟩) 1 (.int .i64 1) F rfl (by kernel_rfl) (by kernel_rfl) (cBox S 8 rfl (j := 1) rfl) (⟨(), rfl, (SameB.refl _ _ rfl), S⟩)
          refine ⟨?_, ?_⟩
          ·
           refine ⟨_, rfl, rfl, by kernel_rfl, ?_⟩
           rintro D ⟨⟩ a z S F
           refine ⟨by kernel_rfl, ?_⟩
           exact op_load _ _ (some ⟨b, 0, none⟩) 2 (.slice Af I.free.length cf) F rfl (by kernel_rfl) (by kernel_rfl) (cBox S 1 rfl (j := 2) rfl) (⟨(), rfl, (SameB.refl _ _ rfl), S⟩)
          refine ⟨?_, ?_⟩
          ·
           refine ⟨_, rfl, rfl, by kernel_rfl, ?_⟩
           rintro D ⟨⟩ a z S F
           refine ⟨by kernel_rfl, ?_⟩
           exact op_load _ _ (some ⟨b15, 0, none⟩) 0 (.int .i64 (ge : Nat)) F rfl (by kernel_rfl) (by kernel_rfl) (cBox S 8 rfl (j := 0) rfl) (⟨(), rfl, (SameB.refl _ _ rfl), S⟩)
          refine ⟨?_, ?_⟩
          ·
           refine ⟨_, rfl, rfl, by kernel_rfl, ?_⟩
           rintro D ⟨⟩ a z S F
           refine ⟨by kernel_rfl, ?_⟩
           exact op_load _ _ (some ⟨b15, 0, none⟩) 1 (.int .i64 1) F rfl (by kernel_rfl) (by kernel_rfl) (cBox S 8 rfl (j := 1) rfl) (⟨(), rfl, (SameB.refl _ _ rfl), S⟩)
          refine ⟨?_, ?_⟩
          ·
           refine ⟨_, rfl, rfl, by kernel_rfl, ?_⟩
           rintro D ⟨⟩ a z S F
           refine ⟨by kernel_rfl, ?_⟩
           exact op_index _ 31 _ _ Af I.free.length cf ge 2 .i64 F rfl (by kernel_rfl) (by kernel_rfl) (by kernel_rfl) (by kernel_rfl) (by have h9 := get_lt hxg; (try simp only [List.length_set] at h9); omega) (row_some S 4 rfl (m := ge) (by have h9 := get_lt hxg; (try simp only [List.length_set] at h9); omega)) (⟨(), rfl, (SameB.refl _ _ rfl), S⟩)
          refine ⟨?_, ?_⟩
          ·
           refine ⟨_, rfl, rfl, by kernel_rfl, ?_⟩
           rintro D ⟨⟩ a z S F
           refine ⟨by kernel_rfl, ?_⟩
           exact op_indexArr _ 23 _ _ Af (ge * 2) 2 1 1 .i64 F rfl (by kernel_rfl) (by kernel_rfl) (by kernel_rfl) (by kernel_rfl) (by decide) (row_some S 4 rfl (m := ge) (by have h9 := get_lt hxg; (try simp only [List.length_set] at h9); omega)) (⟨(), rfl, (SameB.refl _ _ rfl), S⟩)
          refine ⟨?_, ?_⟩
          ·
           refine ⟨_, rfl, rfl, by kernel_rfl, ?_⟩
           rintro D ⟨⟩ a z S F
           refine ⟨by kernel_rfl, ?_⟩
           exact op_load _ _ Af (ge * 2 + 1) (.int .u64 xg.2) F rfl (by kernel_rfl) (by kernel_rfl) (cRec S 4 frC_len rfl 1 hxg rfl) (⟨(), rfl, (SameB.refl _ _ rfl), S⟩)
          refine ⟨?_, ?_⟩
          ·
           refine ⟨_, rfl, rfl, by kernel_rfl, ?_⟩
           rintro D ⟨⟩ a z S F
           refine ⟨by kernel_rfl, ?_⟩
           exact op_load _ _ (some ⟨b15, 0, none⟩) 2 (.int .u64 ga) F rfl (by kernel_rfl) (by kernel_rfl) (cBox S 8 rfl (j := 2) rfl) (⟨(), rfl, (SameB.refl _ _ rfl), S⟩)
          refine ⟨?_, ?_⟩
          ·
           refine ⟨_, rfl, rfl, by kernel_rfl, ?_⟩
           rintro D ⟨⟩ a z S F
           refine ⟨by kernel_rfl, ?_⟩
           exact op_pure F (v0 := .int .u64 (IntKind.wrap .u64 (xg.2 + ga))) (v := .int .u64 (xg.2 + ga)) (by kernel_rfl) (wr_u64 (by omega) (by omega)) ⟨(), rfl, (SameB.refl _ _ rfl), S⟩
          refine ⟨?_, ?_⟩
          ·
           refine ⟨_, rfl, rfl, by kernel_rfl, ?_⟩
           rintro D ⟨⟩ a z S F
           refine ⟨by kernel_rfl, ?_⟩
           exact op_index _ 31 _ _ Af I.free.length cf ge 2 .i64 F rfl (by kernel_rfl) (by kernel_rfl) (by kernel_rfl) (by kernel_rfl) (by have h9 := get_lt hxg; (try simp only [List.length_set] at h9); omega) (row_some S 4 rfl (m := ge) (by have h9 := get_lt hxg; (try simp only [List.length_set] at h9); omega)) (⟨(), rfl, (SameB.refl _ _ rfl), S⟩)
          refine ⟨?_, ?_⟩
          ·
           refine ⟨_, rfl, rfl, by kernel_rfl, ?_⟩
           rintro D ⟨⟩ a z S F
           refine ⟨by kernel_rfl, ?_⟩
           exact op_indexArr _ 23 _ _ Af (ge * 2) 2 1 1 .i64 F rfl (by kernel_rfl) (by kernel_rfl) (by kernel_rfl) (by kernel_rfl) (by decide) (row_some S 4 rfl (m := ge) (by have h9 := get_lt hxg; (try simp only [List.length_set] at h9); omega)) (⟨(), rfl, (SameB.refl _ _ rfl), S⟩)
          refine ⟨?_, ?_⟩
          ·
           refine ⟨_, rfl, rfl, by kernel_rfl, ?_⟩
           rintro D ⟨⟩ a z S F
           refine ⟨by kernel_rfl, ?_⟩
           exact op_storeRec S 4 _ _ _ Af ge 2 1 (.int .u64 (xg.2 + ga)) ((xg.1, xg.2 + ga) : Int × Int) F frC_len hxg rfl rfl (by kernel_rfl) (by kernel_rfl) (by kernel_rfl) (by kernel_rfl) (by kernel_rfl) (by kernel_rfl) (by kernel_rfl) fun z S => ⟨(), rfl, (SameB.refl _ _ rfl), S⟩
          trivial
         ·
          rintro ⟨⟩ a z F S
          have F := F.sub (l := [(0, .pointer (some ⟨b, 0, none⟩)), (11, .slice Alg Lg.length clg), (12, .int .i64 er), (15, .int .i64 (j : Nat))]) ⟨by kernel_rfl, by kernel_rfl, by kernel_rfl, by kernel_rfl, trivial⟩
          have S : Sat w z [rest w G, box b 74 [.slice Ah I.has.length ch, .slice Ae I.ends.length ce, .slice Af I.free.length cf, .slice Al qs.length cl], rUl Ah ch I.has, rEl Ae ce I.ends, rF Af I.free.length cf (F2.set ge ((xg.1, xg.2 + ga) : Int × Int)), rPl Al cl qs, bag (qs.flatMap legRows), rLl Alg clg Lg, box b15 92 [.int .i64 (ge : Nat), .int .i64 1, .int .u64 ga]] := S
          refine inb_n ?_
          refine then_n ?_
          refine wp_region_list ?_
          refine l_pure 1 (fun L => (156, .int .i64 (j : Nat)) :: L) F (by kernel_rfl) fun a F => ?_
          refine l_do F rfl rfl (op_pure F (v0 := .int .i64 (IntKind.wrap .i64 ((j : Nat) + 1))) (v := .int .i64 (j + 1 : Nat)) (by kernel_rfl) (wrn_i64 (by omega) (by omega) (by omega)) fun a F => ?_)
          refine l_pure 1 (fun L => (15, .int .i64 (j + 1 : Nat)) :: L) F (by kernel_rfl) fun a F => ?_
          refine l_then ?_
          exact ⟨_, (by omega), j + 1, (F2.set ge ((xg.1, xg.2 + ga) : Int × Int)), rfl, (by omega), (by rw [List.length_set]; exact hF2l), (set_free_nn hFn (by omega) (by omega)), (by rw [← hpl2, payL_next hgl hxg]; rfl), (by rw [sumF_set hxg]; (try dsimp only); omega), F.sub ⟨by kernel_rfl, by kernel_rfl, by kernel_rfl, by kernel_rfl, trivial⟩, (S.pick [0, 1, 2, 3, 4, 5, 6, 7] (by decide))⟩
       ·
        skip
        have hj : j = Lg.length := by omega
        refine l_do F rfl rfl (op_pure F (v0 := .bool (decide (((j : Nat) : Int) < ((Lg.length : Nat) : Int)))) (v := .bool false) (by kernel_rfl) (lssF ht14) fun a F => ?_)
        refine l_then ?_
        refine c_f F rfl ?_
        refine wp_exit ?_
        refine then_x ?_
        refine then_x ?_
        refine inb_x ?_
        refine then_n ?_
        refine s_reg ?_
        refine l_pure 2 (fun L => (10, .int .i64 er) :: (186, .int .i64 er) :: L) F (by kernel_rfl) fun a F => ?_
        refine l_then ?_
        refine wp_ret ?_
        refine then_r (?_)
        rw [hj, List.drop_length] at hpl2
        have hpl3 : F2 = I.free := hpl2
        rw [hpl3] at S
        exact fin F [.tmp 10] [.int .i64 er] rfl ⟨by kernel_rfl, trivial⟩ (.int .i64 er) rfl ⟨by rw [beg_err (by omega) hfn hbf her], by rw [beg_err (by omega) hfn hbf her]; exact (ref_shut hqs (by simp) (by simp) (by simp) (by simp) (S.pick [0, 1, 2, 3, 4, 5, 6] (by decide)))⟩
     ·
      intro hcut20
      dsimp only [tailAt] at hcut20
      refine s_reg ?_
      refine l_pure 1 (fun L => (11, .slice none 0 0) :: L) F (by kernel_rfl) fun a F => ?_
      refine l_then ?_
      refine s_reg ?_
      refine l_pure 1 (fun L => (12, .int .i64 0) :: L) F (by kernel_rfl) fun a F => ?_
      refine l_then ?_
      refine wp_seq ?_
      refine s_reg ?_
      refine l_pure 1 (fun L => (13, .int .i64 0) :: L) F (by kernel_rfl) fun a F => ?_
      refine l_then ?_
      refine wp_block ?_
      refine wp_loop_m (fun m a z => ∃ (k : Nat) (Fq : List (Int × Int)) (Lg : List Leg) (fv : Int) (Alg : Option Addr) (clg : Nat), m = E.length - k ∧ (k ≤ E.length) ∧ (Fq.length = I.ends.length) ∧ (∀ f ∈ Fq, 0 ≤ f.1 ∧ 0 ≤ f.2) ∧ (begF I.ends I.free from_ none E A = comb Lg (begF I.ends Fq fv (pvOf A k) (E.drop k) (A.drop k))) ∧ (Lg.length = k) ∧ (sumF Fq ≤ sumF I.free) ∧ Fr a 199 [(0, .pointer (some ⟨b, 0, none⟩)), (1, .int .u64 cid), (2, .int .i64 fv), (3, .slice Ar E.length cr), (4, .slice As A.length cs), (11, .slice Alg Lg.length clg), (12, .int .i64 0), (13, .int .i64 (k : Nat))] ∧ Sat w z [rest w G, box b 74 [.slice Ah I.has.length ch, .slice Ae I.ends.length ce, .slice Af I.free.length cf, .slice Al qs.length cl], rUl Ah ch I.has, rEl Ae ce I.ends, rF Af I.free.length cf Fq, rPl Al cl qs, bag (qs.flatMap legRows), rLl Alg clg Lg]) _ ⟨0, I.free, ([] : List Leg), from_, none, 0, rfl, Nat.zero_le _, ok.fl, ok.fu, (by rfl), rfl, (Int.le_refl _), F.sub ⟨by kernel_rfl, by kernel_rfl, by kernel_rfl, by kernel_rfl, by kernel_rfl, by kernel_rfl, by kernel_rfl, by kernel_rfl, trivial⟩, (S.nilRow 92 3)⟩ ?_
      rintro m a z ⟨k, Fq, Lg, fv, Alg, clg, hm, hf17, hf18, hf19, hf20, hf21, hf22, F, S⟩
      have hFl := hf18
      have hFn := hf19
      have hbf := hf20
      have hLl := hf21
      have hSF := hf22
      have hfl9 := ok.fl
      refine wp_seq ?_
      refine s_reg ?_
      refine l_pure 3 (fun L => (38, .int .i64 (E.length : Nat)) :: (37, .slice Ar E.length cr) :: (36, .int .i64 (k : Nat)) :: L) F (by kernel_rfl) fun a F => ?_
      by_cases ht23 : ((k : Nat) : Int) < ((E.length : Nat) : Int)
      ·
       skip
       obtain ⟨ev, hek⟩ : ∃ ev, E[k]? = some ev := ⟨_, List.getElem?_eq_getElem (by omega)⟩
       obtain ⟨av, hak⟩ : ∃ av, A[k]? = some av := ⟨_, List.getElem?_eq_getElem (by omega)⟩
       have hau := hAu av (List.mem_of_getElem? hak)
       unfold U64 at hau
       refine l_do F rfl rfl (op_pure F (v0 := .bool (decide (((k : Nat) : Int) < ((E.length : Nat) : Int)))) (v := .bool true) (by kernel_rfl) (lssT ht23) fun a F => ?_)
       refine l_pure 4 (fun L => (43, .bool true) :: (42, .bool true) :: (41, .int .i64 0) :: (40, .bool true) :: L) F (by kernel_rfl) fun a F => ?_
       refine l_then ?_
       refine c_t F rfl ?_
       refine wp_skip ?_
       refine then_n ?_
       refine wp_seq ?_
       refine wp_block ?_
       refine s_reg ?_
       refine l_pure 1 (fun L => (14, .int .i64 0) :: L) F (by kernel_rfl) fun a F => ?_
       refine l_then ?_
       refine s_reg ?_
       refine l_pure 3 (fun L => (49, .int .i64 (k : Nat)) :: (48, .slice Ar E.length cr) :: (47, .pointer (some ⟨b, 0, none⟩)) :: L) F (by kernel_rfl) fun a F => ?_
       refine l_do F rfl rfl (op_index _ 3 _ _ Ar E.length cr k 1 .i64 F rfl (by kernel_rfl) (by kernel_rfl) (by kernel_rfl) (by kernel_rfl) (get_lt hek) (recs_some hE0 (m := k) (get_lt hek)) (fun a F => ?_))
       refine l_do F rfl rfl (op_load _ _ Ar (k * 1) (.int .i64 ev) F rfl (by kernel_rfl) (by kernel_rfl) (cOldG S 0 iC_len_i64 hE0 gE rfl 0 hek rfl) (fun a F => ?_))
       refine l_pure 1 (fun L => (52, .int .i64 fv) :: L) F (by kernel_rfl) fun a F => ?_
       rcases side_cases24 I.ends ev fv with ⟨hsd, hbad⟩ | ⟨nn, pa, qa, rfl, rfl, he, hsd⟩ | ⟨nn, pa, qa, rfl, rfl, he, hpq, hsd⟩ | ⟨nn, pa, qa, rfl, he, hw1, hw2, hsd⟩
       ·
        skip
        obtain ⟨G9, g9, hin9, hlt9, k9⟩ := S.frameB [1, 3] (by decide) rfl
        refine l_do F rfl rfl (op_fn F (by kernel_rfl) (rside24_at hsd _ G9 b Ah I.has.length ch Ae ce Af I.free.length cf Al qs.length cl g9) ?_)
        rintro e z9 ⟨rfl, g⟩
        have S : Sat w z9 [rest w G, box b 74 [.slice Ah I.has.length ch, .slice Ae I.ends.length ce, .slice Af I.free.length cf, .slice Al qs.length cl], rUl Ah ch I.has, rEl Ae ce I.ends, rF Af I.free.length cf Fq, rPl Al cl qs, bag (qs.flatMap legRows), rLl Alg clg Lg] := k9 z9 [box b 74 [.slice Ah I.has.length ch, .slice Ae I.ends.length ce, .slice Af I.free.length cf, .slice Al qs.length cl], rEl Ae ce I.ends] rfl g
        clear g g9 k9 hin9 hlt9
        refine ⟨_, rfl, ?_⟩
        intro a F
        refine l_pure 5 (fun L => (12, .int .i64 6) :: (14, .int .i64 0) :: (55, .int .i64 6) :: (54, .int .i64 0) :: (46, .tuple #[.int .i64 0, .int .i64 6]) :: L) F (by kernel_rfl) fun a F => ?_
        refine l_then ?_
        refine wp_seq ?_
        refine s_reg ?_
        refine l_pure 2 (fun L => (57, .bool true) :: (56, .int .i64 6) :: L) F (by kernel_rfl) fun a F => ?_
        refine l_then ?_
        refine c_t F rfl ?_
        refine wp_exit ?_
        refine then_x ?_
        refine inb_xo (by kernel_rfl) ?_
        refine then_x ?_
        refine then_x ?_
        refine inb_x ?_
        refine then_n ?_
        exact hcut20 _ _ ⟨6, Fq, Lg, Alg, clg, (by rw [hbf, beg_side hek hak hsd (by decide)]; unfold comb; rw [List.append_nil]), F.sub ⟨by kernel_rfl, by kernel_rfl, by kernel_rfl, by kernel_rfl, trivial⟩, S⟩
       ·
        skip
        obtain ⟨hpl, hql, hpq9⟩ := ok.en _ (List.mem_of_getElem? he)
        dsimp only at hpl hql hpq9
        have hnn := (List.getElem?_eq_some_iff.1 he).1
        obtain ⟨xg, hxg⟩ : ∃ xg, Fq[nn]? = some xg := ⟨_, List.getElem?_eq_getElem (by omega)⟩
        have hxn := hFn _ (List.mem_of_getElem? hxg)
        have hxs := sumF_one hFn hxg
        obtain ⟨G9, g9, hin9, hlt9, k9⟩ := S.frameB [1, 3] (by decide) rfl
        refine l_do F rfl rfl (op_fn F (by kernel_rfl) (rside24_at hsd _ G9 b Ah I.has.length ch Ae ce Af I.free.length cf Al qs.length cl g9) ?_)
        rintro e z9 ⟨rfl, g⟩
        have S : Sat w z9 [rest w G, box b 74 [.slice Ah I.has.length ch, .slice Ae I.ends.length ce, .slice Af I.free.length cf, .slice Al qs.length cl], rUl Ah ch I.has, rEl Ae ce I.ends, rF Af I.free.length cf Fq, rPl Al cl qs, bag (qs.flatMap legRows), rLl Alg clg Lg] := k9 z9 [box b 74 [.slice Ah I.has.length ch, .slice Ae I.ends.length ce, .slice Af I.free.length cf, .slice Al qs.length cl], rEl Ae ce I.ends] rfl g
        clear g g9 k9 hin9 hlt9
        refine ⟨_, rfl, ?_⟩
        intro a F
        refine l_pure 5 (fun L => (12, .int .i64 0) :: (14, .int .i64 0) :: (55, .int .i64 0) :: (54, .int .i64 0) :: (46, .tuple #[.int .i64 0, .int .i64 0]) :: L) F (by kernel_rfl) fun a F => ?_
        refine l_then ?_
        refine wp_seq ?_
        refine s_reg ?_
        refine l_pure 2 (fun L => (57, .bool false) :: (56, .int .i64 0) :: L) F (by kernel_rfl) fun a F => ?_
        refine l_then ?_
        refine c_f F rfl ?_
        refine wp_skip ?_
        refine then_n ?_
        refine cutK 1 (fun a z => (¬ (av = 0 ∨ ∃ p, pvOf A k = some p ∧ p < av)) ∧ Fr a 199 [(0, .pointer (some ⟨b, 0, none⟩)), (1, .int .u64 cid), (2, .int .i64 (pa : Nat)), (3, .slice Ar E.length cr), (4, .slice As A.length cs), (11, .slice Alg Lg.length clg), (12, .int .i64 0), (13, .int .i64 (k : Nat)), (14, .int .i64 0)] ∧ Sat w z [rest w G, box b 74 [.slice Ah I.has.length ch, .slice Ae I.ends.length ce, .slice Af I.free.length cf, .slice Al qs.length cl], rUl Ah ch I.has, rEl Ae ce I.ends, rF Af I.free.length cf Fq, rPl Al cl qs, bag (qs.flatMap legRows), rLl Alg clg Lg]) ?_ ?_
        ·
         rintro a z ⟨hf24, F, S⟩
         dsimp only [tailAt]
         have hpvn := hf24
         refine wp_seq ?_
         refine wp_seq ?_
         by_cases ht25 : (xg.1 : Int) < (av : Int)
         ·
          skip
          refine region_gx (fun D => fun (_ : Unit) => [rest w G, box b 74 [.slice Ah I.has.length ch, .slice Ae I.ends.length ce, .slice Af I.free.length cf, .slice Al qs.length cl], rUl Ah ch I.has, rEl Ae ce I.ends, rF Af I.free.length cf Fq, rPl Al cl qs, bag (qs.flatMap legRows), rLl Alg clg Lg]) (fun (_ : Unit) => [.pointer (some ⟨b, 0, none⟩), .pointer (some ⟨b, 0, none⟩), .pointer (some ⟨b, 2, none⟩), .slice Af I.free.length cf, .slice Ar E.length cr, .int .i64 (k : Nat), ptrA Ar (k * 1), .int .i64 (nn : Nat), .int .i64 0, ptrA Af (nn * 2), ptrA Af (nn * 2), .int .u64 xg.1, .slice As A.length cs, .int .i64 (k : Nat), ptrA As (k * 1), .int .u64 av, .bool true]) [(3, [], [9, 10, 11, 16]), (6, [], [7, 9, 10, 11, 16]), (7, [6], [9, 10, 11, 16]), (9, [3, 6, 7], [10, 11, 16]), (10, [3, 6, 7, 9], [11, 16]), (11, [3, 6, 7, 9, 10], [16]), (14, [], [15, 16]), (15, [14], [16]), (16, [3, 6, 7, 9, 10, 11, 14, 15], [])] () rfl (by kernel_rfl) (by kernel_rfl) F S.drew ?_ ?_ ?_ ?_ ?_
          · rintro ⟨⟩; rfl
          · rintro ⟨⟩; kernel_rfl
          ·
           intro D D' x h
           cases x
           rfl
          ·
           refine ⟨?_, ?_⟩
           ·
            refine ⟨_, rfl, rfl, by kernel_rfl, ?_⟩
            rintro D ⟨⟩ a z S F
            refine ⟨by kernel_rfl, ?_⟩
            exact op_load _ _ (some ⟨b, 0, none⟩) 2 (.slice Af I.free.length cf) F rfl (by kernel_rfl) (by kernel_rfl) (cBox S 1 rfl (j := 2) rfl) (⟨(), rfl, (SameB.refl _ _ rfl), S⟩)
           refine ⟨?_, ?_⟩
           ·
            refine ⟨_, rfl, rfl, by kernel_rfl, ?_⟩
            rintro D ⟨⟩ a z S F
            refine ⟨by kernel_rfl, ?_⟩
            exact op_index _ 3 _ _ Ar E.length cr k 1 .i64 F rfl (by kernel_rfl) (by kernel_rfl) (by kernel_rfl) (by kernel_rfl) (get_lt hek) (recs_some hE0 (m := k) (get_lt hek)) (⟨(), rfl, (SameB.refl _ _ rfl), S⟩)
           refine ⟨?_, ?_⟩
           ·
            refine ⟨_, rfl, rfl, by kernel_rfl, ?_⟩
            rintro D ⟨⟩ a z S F
            refine ⟨by kernel_rfl, ?_⟩
            exact op_load _ _ Ar (k * 1) (.int .i64 (nn : Nat)) F rfl (by kernel_rfl) (by kernel_rfl) (cOldG S 0 iC_len_i64 hE0 gE rfl 0 hek rfl) (⟨(), rfl, (SameB.refl _ _ rfl), S⟩)
           refine ⟨?_, ?_⟩
           ·
            refine ⟨_, rfl, rfl, by kernel_rfl, ?_⟩
            rintro D ⟨⟩ a z S F
            refine ⟨by kernel_rfl, ?_⟩
            exact op_index _ 31 _ _ Af I.free.length cf nn 2 .i64 F rfl (by kernel_rfl) (by kernel_rfl) (by kernel_rfl) (by kernel_rfl) (by have h9 := get_lt hxg; (try simp only [List.length_set] at h9); omega) (row_some S 4 rfl (m := nn) (by have h9 := get_lt hxg; (try simp only [List.length_set] at h9); omega)) (⟨(), rfl, (SameB.refl _ _ rfl), S⟩)
           refine ⟨?_, ?_⟩
           ·
            refine ⟨_, rfl, rfl, by kernel_rfl, ?_⟩
            rintro D ⟨⟩ a z S F
            refine ⟨by kernel_rfl, ?_⟩
            exact op_indexArr _ 23 _ _ Af (nn * 2) 2 0 1 .i64 F rfl (by kernel_rfl) (by kernel_rfl) (by kernel_rfl) (by kernel_rfl) (by decide) (row_some S 4 rfl (m := nn) (by have h9 := get_lt hxg; (try simp only [List.length_set] at h9); omega)) (⟨(), rfl, (SameB.refl _ _ rfl), S⟩)
           refine ⟨?_, ?_⟩
           ·
            refine ⟨_, rfl, rfl, by kernel_rfl, ?_⟩
            rintro D ⟨⟩ a z S F
            refine ⟨by kernel_rfl, ?_⟩
            exact op_load _ _ Af (nn * 2) (.int .u64 xg.1) F rfl (by kernel_rfl) (by kernel_rfl) (cRec S 4 frC_len rfl 0 hxg rfl) (⟨(), rfl, (SameB.refl _ _ rfl), S⟩)
           refine ⟨?_, ?_⟩
           ·
            refine ⟨_, rfl, rfl, by kernel_rfl, ?_⟩
            rintro D ⟨⟩ a z S F
            refine ⟨by kernel_rfl, ?_⟩
            exact op_index _ 23 _ _ As A.length cs k 1 .i64 F rfl (by kernel_rfl) (by kernel_rfl) (by kernel_rfl) (by kernel_rfl) (get_lt hak) (recs_some hA0 (m := k) (get_lt hak)) (⟨(), rfl, (SameB.refl _ _ rfl), S⟩)
           refine ⟨?_, ?_⟩
           ·
            refine ⟨_, rfl, rfl, by kernel_rfl, ?_⟩
            rintro D ⟨⟩ a z S F
            refine ⟨by kernel_rfl, ?_⟩
            exact op_load _ _ As (k * 1) (.int .u64 av) F rfl (by kernel_rfl) (by kernel_rfl) (cOldG S 0 iC_len_u64 hA0 gA rfl 0 hak rfl) (⟨(), rfl, (SameB.refl _ _ rfl), S⟩)
           refine ⟨?_, ?_⟩
           ·
            refine ⟨_, rfl, rfl, by kernel_rfl, ?_⟩
            rintro D ⟨⟩ a z S F
            refine ⟨by kernel_rfl, ?_⟩
            exact op_pure F (v0 := .bool (decide ((xg.1 : Int) < (av : Int)))) (v := .bool true) (by kernel_rfl) (lssT ht25) ⟨(), rfl, (SameB.refl _ _ rfl), S⟩
           trivial
          ·
           rintro ⟨⟩ a z F S
           have F := F.sub (l := [(0, .pointer (some ⟨b, 0, none⟩)), (1, .int .u64 cid), (2, .int .i64 (pa : Nat)), (3, .slice Ar E.length cr), (4, .slice As A.length cs), (11, .slice Alg Lg.length clg), (12, .int .i64 0), (13, .int .i64 (k : Nat)), (14, .int .i64 0), (95, .bool true)]) ⟨by kernel_rfl, by kernel_rfl, by kernel_rfl, by kernel_rfl, by kernel_rfl, by kernel_rfl, by kernel_rfl, by kernel_rfl, by kernel_rfl, by kernel_rfl, trivial⟩
           have S : Sat w z [rest w G, box b 74 [.slice Ah I.has.length ch, .slice Ae I.ends.length ce, .slice Af I.free.length cf, .slice Al qs.length cl], rUl Ah ch I.has, rEl Ae ce I.ends, rF Af I.free.length cf Fq, rPl Al cl qs, bag (qs.flatMap legRows), rLl Alg clg Lg] := S
           refine then_n ?_
           refine c_t F rfl ?_
           refine s_reg ?_
           refine l_pure 1 (fun L => (12, .int .i64 28) :: L) F (by kernel_rfl) fun a F => ?_
           refine l_then ?_
           refine wp_exit ?_
           refine then_x ?_
           refine inb_xo (by kernel_rfl) ?_
           refine then_x ?_
           refine then_x ?_
           refine inb_x ?_
           refine then_n ?_
           exact hcut20 _ _ ⟨28, Fq, Lg, Alg, clg, (by rw [hbf, beg_room (s := 0) hak hek hsd hpvn hxg (show frN xg 0 < av from ht25)]; unfold comb; rw [List.append_nil]), F.sub ⟨by kernel_rfl, by kernel_rfl, by kernel_rfl, by kernel_rfl, trivial⟩, S⟩
         ·
          skip
          refine region_gx (fun D => fun (_ : Unit) => [rest w G, box b 74 [.slice Ah I.has.length ch, .slice Ae I.ends.length ce, .slice Af I.free.length cf, .slice Al qs.length cl], rUl Ah ch I.has, rEl Ae ce I.ends, rF Af I.free.length cf Fq, rPl Al cl qs, bag (qs.flatMap legRows), rLl Alg clg Lg]) (fun (_ : Unit) => [.pointer (some ⟨b, 0, none⟩), .pointer (some ⟨b, 0, none⟩), .pointer (some ⟨b, 2, none⟩), .slice Af I.free.length cf, .slice Ar E.length cr, .int .i64 (k : Nat), ptrA Ar (k * 1), .int .i64 (nn : Nat), .int .i64 0, ptrA Af (nn * 2), ptrA Af (nn * 2), .int .u64 xg.1, .slice As A.length cs, .int .i64 (k : Nat), ptrA As (k * 1), .int .u64 av, .bool false]) [(3, [], [9, 10, 11, 16]), (6, [], [7, 9, 10, 11, 16]), (7, [6], [9, 10, 11, 16]), (9, [3, 6, 7], [10, 11, 16]), (10, [3, 6, 7, 9], [11, 16]), (11, [3, 6, 7, 9, 10], [16]), (14, [], [15, 16]), (15, [14], [16]), (16, [3, 6, 7, 9, 10, 11, 14, 15], [])] () rfl (by kernel_rfl) (by kernel_rfl) F S.drew ?_ ?_ ?_ ?_ ?_
          · rintro ⟨⟩; rfl
          · rintro ⟨⟩; kernel_rfl
          ·
           intro D D' x h
           cases x
           rfl
          ·
           refine ⟨?_, ?_⟩
           ·
            refine ⟨_, rfl, rfl, by kernel_rfl, ?_⟩
            rintro D ⟨⟩ a z S F
            refine ⟨by kernel_rfl, ?_⟩
            exact op_load _ _ (some ⟨b, 0, none⟩) 2 (.slice Af I.free.length cf) F rfl (by kernel_rfl) (by kernel_rfl) (cBox S 1 rfl (j := 2) rfl) (⟨(), rfl, (SameB.refl _ _ rfl), S⟩)
           refine ⟨?_, ?_⟩
           ·
            refine ⟨_, rfl, rfl, by kernel_rfl, ?_⟩
            rintro D ⟨⟩ a z S F
            refine ⟨by kernel_rfl, ?_⟩
            exact op_index _ 3 _ _ Ar E.length cr k 1 .i64 F rfl (by kernel_rfl) (by kernel_rfl) (by kernel_rfl) (by kernel_rfl) (get_lt hek) (recs_some hE0 (m := k) (get_lt hek)) (⟨(), rfl, (SameB.refl _ _ rfl), S⟩)
           refine ⟨?_, ?_⟩
           ·
            refine ⟨_, rfl, rfl, by kernel_rfl, ?_⟩
            rintro D ⟨⟩ a z S F
            refine ⟨by kernel_rfl, ?_⟩
            exact op_load _ _ Ar (k * 1) (.int .i64 (nn : Nat)) F rfl (by kernel_rfl) (by kernel_rfl) (cOldG S 0 iC_len_i64 hE0 gE rfl 0 hek rfl) (⟨(), rfl, (SameB.refl _ _ rfl), S⟩)
           refine ⟨?_, ?_⟩
           ·
            refine ⟨_, rfl, rfl, by kernel_rfl, ?_⟩
            rintro D ⟨⟩ a z S F
            refine ⟨by kernel_rfl, ?_⟩
            exact op_index _ 31 _ _ Af I.free.length cf nn 2 .i64 F rfl (by kernel_rfl) (by kernel_rfl) (by kernel_rfl) (by kernel_rfl) (by have h9 := get_lt hxg; (try simp only [List.length_set] at h9); omega) (row_some S 4 rfl (m := nn) (by have h9 := get_lt hxg; (try simp only [List.length_set] at h9); omega)) (⟨(), rfl, (SameB.refl _ _ rfl), S⟩)
           refine ⟨?_, ?_⟩
           ·
            refine ⟨_, rfl, rfl, by kernel_rfl, ?_⟩
            rintro D ⟨⟩ a z S F
            refine ⟨by kernel_rfl, ?_⟩
            exact op_indexArr _ 23 _ _ Af (nn * 2) 2 0 1 .i64 F rfl (by kernel_rfl) (by kernel_rfl) (by kernel_rfl) (by kernel_rfl) (by decide) (row_some S 4 rfl (m := nn) (by have h9 := get_lt hxg; (try simp only [List.length_set] at h9); omega)) (⟨(), rfl, (SameB.refl _ _ rfl), S⟩)
           refine ⟨?_, ?_⟩
           ·
            refine ⟨_, rfl, rfl, by kernel_rfl, ?_⟩
            rintro D ⟨⟩ a z S F
            refine ⟨by kernel_rfl, ?_⟩
            exact op_load _ _ Af (nn * 2) (.int .u64 xg.1) F rfl (by kernel_rfl) (by kernel_rfl) (cRec S 4 frC_len rfl 0 hxg rfl) (⟨(), rfl, (SameB.refl _ _ rfl), S⟩)
           refine ⟨?_, ?_⟩
           ·
            refine ⟨_, rfl, rfl, by kernel_rfl, ?_⟩
            rintro D ⟨⟩ a z S F
            refine ⟨by kernel_rfl, ?_⟩
            exact op_index _ 23 _ _ As A.length cs k 1 .i64 F rfl (by kernel_rfl) (by kernel_rfl) (by kernel_rfl) (by kernel_rfl) (get_lt hak) (recs_some hA0 (m := k) (get_lt hak)) (⟨(), rfl, (SameB.refl _ _ rfl), S⟩)
           refine ⟨?_, ?_⟩
           ·
            refine ⟨_, rfl, rfl, by kernel_rfl, ?_⟩
            rintro D ⟨⟩ a z S F
            refine ⟨by kernel_rfl, ?_⟩
            exact op_load _ _ As (k * 1) (.int .u64 av) F rfl (by kernel_rfl) (by kernel_rfl) (cOldG S 0 iC_len_u64 hA0 gA rfl 0 hak rfl) (⟨(), rfl, (SameB.refl _ _ rfl), S⟩)
           refine ⟨?_, ?_⟩
           ·
            refine ⟨_, rfl, rfl, by kernel_rfl, ?_⟩
            rintro D ⟨⟩ a z S F
            refine ⟨by kernel_rfl, ?_⟩
            exact op_pure F (v0 := .bool (decide ((xg.1 : Int) < (av : Int)))) (v := .bool false) (by kernel_rfl) (lssF ht25) ⟨(), rfl, (SameB.refl _ _ rfl), S⟩
           trivial
          ·
           rintro ⟨⟩ a z F S
           have F := F.sub (l := [(0, .pointer (some ⟨b, 0, none⟩)), (1, .int .u64 cid), (2, .int .i64 (pa : Nat)), (3, .slice Ar E.length cr), (4, .slice As A.length cs), (11, .slice Alg Lg.length clg), (12, .int .i64 0), (13, .int .i64 (k : Nat)), (14, .int .i64 0), (95, .bool false)]) ⟨by kernel_rfl, by kernel_rfl, by kernel_rfl, by kernel_rfl, by kernel_rfl, by kernel_rfl, by kernel_rfl, by kernel_rfl, by kernel_rfl, by kernel_rfl, trivial⟩
           have S : Sat w z [rest w G, box b 74 [.slice Ah I.has.length ch, .slice Ae I.ends.length ce, .slice Af I.free.length cf, .slice Al qs.length cl], rUl Ah ch I.has, rEl Ae ce I.ends, rF Af I.free.length cf Fq, rPl Al cl qs, bag (qs.flatMap legRows), rLl Alg clg Lg] := S
           refine then_n ?_
           refine c_f F rfl ?_
           refine wp_skip ?_
           refine then_n ?_
           refine wp_seq ?_
           refine region_gx (fun D => fun (_ : Unit) => [rest w G, box b 74 [.slice Ah I.has.length ch, .slice Ae I.ends.length ce, .slice Af I.free.length cf, .slice Al qs.length cl], rUl Ah ch I.has, rEl Ae ce I.ends, bif D 28 then rF Af I.free.length cf (Fq.set nn ((xg.1 - av, xg.2) : Int × Int)) else rF Af I.free.length cf Fq, rPl Al cl qs, bag (qs.flatMap legRows), rLl Alg clg Lg]) (fun (_ : Unit) => [.pointer (some ⟨b, 0, none⟩), .pointer (some ⟨b, 0, none⟩), .pointer (some ⟨b, 2, none⟩), .slice Af I.free.length cf, .slice Ar E.length cr, .int .i64 (k : Nat), ptrA Ar (k * 1), .int .i64 (nn : Nat), .int .i64 0, .pointer (some ⟨b, 0, none⟩), .pointer (some ⟨b, 0, none⟩), .pointer (some ⟨b, 2, none⟩), .slice Af I.free.length cf, .slice Ar E.length cr, .int .i64 (k : Nat), ptrA Ar (k * 1), .int .i64 (nn : Nat), .int .i64 0, ptrA Af (nn * 2), ptrA Af (nn * 2), .int .u64 xg.1, .slice As A.length cs, .int .i64 (k : Nat), ptrA As (k * 1), .int .u64 av, .int .u64 (xg.1 - av), ptrA Af (nn * 2), ptrA Af (nn * 2), undef]) [(3, [], [26, 27, 28]), (6, [], [7, 26, 27, 28]), (7, [6], [26, 27, 28]), (12, [], [18, 19, 20, 25, 27, 28]), (15, [], [16, 18, 19, 20, 25, 27, 28]), (16, [15], [18, 19, 20, 25, 27, 28]), (18, [12, 15, 16], [19, 20, 25, 27, 28]), (19, [12, 15, 16, 18], [20, 25, 27, 28]), (20, [12, 15, 16, 18, 19], [25, 27, 28]), (23, [], [24, 25, 27, 28]), (24, [23], [25, 27, 28]), (25, [12, 15, 16, 18, 19, 20, 23, 24], [27, 28]), (26, [3, 6, 7], [27, 28]), (27, [3, 6, 7, 12, 15, 16, 18, 19, 20, 23, 24, 25, 26], [28]), (28, [3, 6, 7, 12, 15, 16, 18, 19, 20, 23, 24, 25, 26, 27], [])] () rfl (by kernel_rfl) (by kernel_rfl) F S.drew ?_ ?_ ?_ ?_ ?_
           · rintro ⟨⟩; rfl
           · rintro ⟨⟩; kernel_rfl
           ·
            intro D D' x h
            cases x
            simp only [h 28 (by decide)]
           ·
            refine ⟨?_, ?_⟩
            ·
             refine ⟨_, rfl, rfl, by kernel_rfl, ?_⟩
             rintro D ⟨⟩ a z S F
             refine ⟨by kernel_rfl, ?_⟩
             exact op_load _ _ (some ⟨b, 0, none⟩) 2 (.slice Af I.free.length cf) F rfl (by kernel_rfl) (by kernel_rfl) (cBox S 1 rfl (j := 2) rfl) (⟨(), rfl, (SameB.refl _ _ rfl), S⟩)
            refine ⟨?_, ?_⟩
            ·
             refine ⟨_, rfl, rfl, by kernel_rfl, ?_⟩
             rintro D ⟨⟩ a z S F
             refine ⟨by kernel_rfl, ?_⟩
             exact op_index _ 3 _ _ Ar E.length cr k 1 .i64 F rfl (by kernel_rfl) (by kernel_rfl) (by kernel_rfl) (by kernel_rfl) (get_lt hek) (recs_some hE0 (m := k) (get_lt hek)) (⟨(), rfl, (SameB.refl _ _ rfl), S⟩)
            refine ⟨?_, ?_⟩
            ·
             refine ⟨_, rfl, rfl, by kernel_rfl, ?_⟩
             rintro D ⟨⟩ a z S F
             refine ⟨by kernel_rfl, ?_⟩
             exact op_load _ _ Ar (k * 1) (.int .i64 (nn : Nat)) F rfl (by kernel_rfl) (by kernel_rfl) (cOldG S 0 iC_len_i64 hE0 gE rfl 0 hek rfl) (⟨(), rfl, (SameB.refl _ _ rfl), S⟩)
            refine ⟨?_, ?_⟩
            ·
             refine ⟨_, rfl, rfl, by kernel_rfl, ?_⟩
             rintro D ⟨⟩ a z S F
             refine ⟨by kernel_rfl, ?_⟩
             exact op_load _ _ (some ⟨b, 0, none⟩) 2 (.slice Af I.free.length cf) F rfl (by kernel_rfl) (by kernel_rfl) (cBox S 1 rfl (j := 2) rfl) (⟨(), rfl, (SameB.refl _ _ rfl), S⟩)
            refine ⟨?_, ?_⟩
            ·
             refine ⟨_, rfl, rfl, by kernel_rfl, ?_⟩
             rintro D ⟨⟩ a z S F
             refine ⟨by kernel_rfl, ?_⟩
             exact op_index _ 3 _ _ Ar E.length cr k 1 .i64 F rfl (by kernel_rfl) (by kernel_rfl) (by kernel_rfl) (by kernel_rfl) (get_lt hek) (recs_some hE0 (m := k) (get_lt hek)) (⟨(), rfl, (SameB.refl _ _ rfl), S⟩)
            refine ⟨?_, ?_⟩
            ·
             refine ⟨_, rfl, rfl, by kernel_rfl, ?_⟩
             rintro D ⟨⟩ a z S F
             refine ⟨by kernel_rfl, ?_⟩
             exact op_load _ _ Ar (k * 1) (.int .i64 (nn : Nat)) F rfl (by kernel_rfl) (by kernel_rfl) (cOldG S 0 iC_len_i64 hE0 gE rfl 0 hek rfl) (⟨(), rfl, (SameB.refl _ _ rfl), S⟩)
            refine ⟨?_, ?_⟩
            ·
             refine ⟨_, rfl, rfl, by kernel_rfl, ?_⟩
             rintro D ⟨⟩ a z S F
             refine ⟨by kernel_rfl, ?_⟩
             exact op_index _ 31 _ _ Af I.free.length cf nn 2 .i64 F rfl (by kernel_rfl) (by kernel_rfl) (by kernel_rfl) (by kernel_rfl) (by have h9 := get_lt hxg; (try simp only [List.length_set] at h9); omega) (row_some S 4 rfl (m := nn) (by have h9 := get_lt hxg; (try simp only [List.length_set] at h9); omega)) (⟨(), rfl, (SameB.refl _ _ rfl), S⟩)
            refine ⟨?_, ?_⟩
            ·
             refine ⟨_, rfl, rfl, by kernel_rfl, ?_⟩
             rintro D ⟨⟩ a z S F
             refine ⟨by kernel_rfl, ?_⟩
             exact op_indexArr _ 23 _ _ Af (nn * 2) 2 0 1 .i64 F rfl (by kernel_rfl) (by kernel_rfl) (by kernel_rfl) (by kernel_rfl) (by decide) (row_some S 4 rfl (m := nn) (by have h9 := get_lt hxg; (try simp only [List.length_set] at h9); omega)) (⟨(), rfl, (SameB.refl _ _ rfl), S⟩)
            refine ⟨?_, ?_⟩
            ·
             refine ⟨_, rfl, rfl, by kernel_rfl, ?_⟩
             rintro D ⟨⟩ a z S F
             refine ⟨by kernel_rfl, ?_⟩
             exact op_load _ _ Af (nn * 2) (.int .u64 xg.1) F rfl (by kernel_rfl) (by kernel_rfl) (cRec S 4 frC_len rfl 0 hxg rfl) (⟨(), rfl, (SameB.refl _ _ rfl), S⟩)
            refine ⟨?_, ?_⟩
            ·
             refine ⟨_, rfl, rfl, by kernel_rfl, ?_⟩
             rintro D ⟨⟩ a z S F
             refine ⟨by kernel_rfl, ?_⟩
             exact op_index _ 23 _ _ As A.length cs k 1 .i64 F rfl (by kernel_rfl) (by kernel_rfl) (by kernel_rfl) (by kernel_rfl) (get_lt hak) (recs_some hA0 (m := k) (get_lt hak)) (⟨(), rfl, (SameB.refl _ _ rfl), S⟩)
            refine ⟨?_, ?_⟩
            ·
             refine ⟨_, rfl, rfl, by kernel_rfl, ?_⟩
             rintro D ⟨⟩ a z S F
             refine ⟨by kernel_rfl, ?_⟩
             exact op_load _ _ As (k * 1) (.int .u64 av) F rfl (by kernel_rfl) (by kernel_rfl) (cOldG S 0 iC_len_u64 hA0 gA rfl 0 hak rfl) (⟨(), rfl, (SameB.refl _ _ rfl), S⟩)
            refine ⟨?_, ?_⟩
            ·
             refine ⟨_, rfl, rfl, by kernel_rfl, ?_⟩
             rintro D ⟨⟩ a z S F
             refine ⟨by kernel_rfl, ?_⟩
             exact op_pure F (v0 := .int .u64 (IntKind.wrap .u64 (xg.1 - av))) (v := .int .u64 (xg.1 - av)) (by kernel_rfl) (wr_u64 (by omega) (by omega)) ⟨(), rfl, (SameB.refl _ _ rfl), S⟩
            refine ⟨?_, ?_⟩
            ·
             refine ⟨_, rfl, rfl, by kernel_rfl, ?_⟩
             rintro D ⟨⟩ a z S F
             refine ⟨by kernel_rfl, ?_⟩
             exact op_index _ 31 _ _ Af I.free.length cf nn 2 .i64 F rfl (by kernel_rfl) (by kernel_rfl) (by kernel_rfl) (by kernel_rfl) (by have h9 := get_lt hxg; (try simp only [List.length_set] at h9); omega) (row_some S 4 rfl (m := nn) (by have h9 := get_lt hxg; (try simp only [List.length_set] at h9); omega)) (⟨(), rfl, (SameB.refl _ _ rfl), S⟩)
            refine ⟨?_, ?_⟩
            ·
             refine ⟨_, rfl, rfl, by kernel_rfl, ?_⟩
             rintro D ⟨⟩ a z S F
             refine ⟨by kernel_rfl, ?_⟩
             exact op_indexArr _ 23 _ _ Af (nn * 2) 2 0 1 .i64 F rfl (by kernel_rfl) (by kernel_rfl) (by kernel_rfl) (by kernel_rfl) (by decide) (row_some S 4 rfl (m := nn) (by have h9 := get_lt hxg; (try simp only [List.length_set] at h9); omega)) (⟨(), rfl, (SameB.refl _ _ rfl), S⟩)
            refine ⟨?_, ?_⟩
            ·
             refine ⟨_, rfl, rfl, by kernel_rfl, ?_⟩
             rintro D ⟨⟩ a z S F
             refine ⟨by kernel_rfl, ?_⟩
             exact op_storeRec S 4 _ _ _ Af nn 2 0 (.int .u64 (xg.1 - av)) ((xg.1 - av, xg.2) : Int × Int) F frC_len hxg rfl rfl (by kernel_rfl) (by kernel_rfl) (by kernel_rfl) (by kernel_rfl) (by kernel_rfl) (by kernel_rfl) (by kernel_rfl) fun z S => ⟨(), rfl, (SameB.refl _ _ rfl), S⟩
            trivial
           ·
            rintro ⟨⟩ a z F S
            have F := F.sub (l := [(0, .pointer (some ⟨b, 0, none⟩)), (1, .int .u64 cid), (2, .int .i64 (pa : Nat)), (3, .slice Ar E.length cr), (4, .slice As A.length cs), (11, .slice Alg Lg.length clg), (12, .int .i64 0), (13, .int .i64 (k : Nat)), (14, .int .i64 0)]) ⟨by kernel_rfl, by kernel_rfl, by kernel_rfl, by kernel_rfl, by kernel_rfl, by kernel_rfl, by kernel_rfl, by kernel_rfl, by kernel_rfl, trivial⟩
            have S : Sat w z [rest w G, box b 74 [.slice Ah I.has.length ch, .slice Ae I.ends.length ce, .slice Af I.free.length cf, .slice Al qs.length cl], rUl Ah ch I.has, rEl Ae ce I.ends, rF Af I.free.length cf (Fq.set nn ((xg.1 - av, xg.2) : Int × Int)), rPl Al cl qs, bag (qs.flatMap legRows), rLl Alg clg Lg] := S
            refine then_n ?_
            refine wp_seq ?_
            have S := S.pushEmp
            refine region_gx (fun D => fun ((b26, A27, c28) : Nat × Option Addr × Nat) => [rest w G, box b 74 [.slice Ah I.has.length ch, .slice Ae I.ends.length ce, .slice Af I.free.length cf, .slice Al qs.length cl], rUl Ah ch I.has, rEl Ae ce I.ends, rF Af I.free.length cf (Fq.set nn ((xg.1 - av, xg.2) : Int × Int)), rPl Al cl qs, bag (qs.flatMap legRows), bif D 12 then rLl A27 c28 (Lg ++ ([(⟨nn, 0, av⟩ : Leg)] : List Leg)) else rLl Alg clg Lg, bif D 11 then rL (some ⟨b26, 0, none⟩) 1 1 ([(⟨nn, 0, av⟩ : Leg)] : List Leg) else emp]) (fun ((b26, A27, c28) : Nat × Option Addr × Nat) => [.slice Alg Lg.length clg, .slice Ar E.length cr, .int .i64 (k : Nat), ptrA Ar (k * 1), .int .i64 (nn : Nat), .int .i64 0, .slice As A.length cs, .int .i64 (k : Nat), ptrA As (k * 1), .int .u64 av, .agg #[.int .i64 (nn : Nat), .int .i64 0, .int .u64 av], .slice (some ⟨b26, 0, none⟩) 1 1, .slice A27 ((Lg ++ ([(⟨nn, 0, av⟩ : Leg)] : List Leg)).length) c28, .slice A27 ((Lg ++ ([(⟨nn, 0, av⟩ : Leg)] : List Leg)).length) c28]) [(3, [], [4, 11, 12]), (4, [3], [11, 12]), (8, [], [9, 11, 12]), (9, [8], [11, 12]), (11, [3, 4, 8, 9], [12]), (12, [3, 4, 8, 9, 11], [])] (0, none, 0) rfl (by kernel_rfl) (by kernel_rfl) F S.drew ?_ ?_ ?_ ?_ ?_
            · rintro ⟨b26, A27, c28⟩; rfl
            · rintro ⟨b26, A27, c28⟩; kernel_rfl
            ·
             intro D D' x h
             obtain ⟨b26, A27, c28⟩ := x
             simp only [h 11 (by decide), h 12 (by decide)]
            ·
             refine ⟨?_, ?_⟩
             ·
              refine ⟨_, rfl, rfl, by kernel_rfl, ?_⟩
              rintro D ⟨b26, A27, c28⟩ a z S F
              refine ⟨by kernel_rfl, ?_⟩
              exact op_index _ 3 _ _ Ar E.length cr k 1 .i64 F rfl (by kernel_rfl) (by kernel_rfl) (by kernel_rfl) (by kernel_rfl) (get_lt hek) (recs_some hE0 (m := k) (get_lt hek)) (⟨(b26, A27, c28), rfl, (SameB.refl _ _ rfl), S⟩)
             refine ⟨?_, ?_⟩
             ·
              refine ⟨_, rfl, rfl, by kernel_rfl, ?_⟩
              rintro D ⟨b26, A27, c28⟩ a z S F
              refine ⟨by kernel_rfl, ?_⟩
              exact op_load _ _ Ar (k * 1) (.int .i64 (nn : Nat)) F rfl (by kernel_rfl) (by kernel_rfl) (cOldG S 0 iC_len_i64 hE0 gE rfl 0 hek rfl) (⟨(b26, A27, c28), rfl, (SameB.refl _ _ rfl), S⟩)
             refine ⟨?_, ?_⟩
             ·
              refine ⟨_, rfl, rfl, by kernel_rfl, ?_⟩
              rintro D ⟨b26, A27, c28⟩ a z S F
              refine ⟨by kernel_rfl, ?_⟩
              exact op_index _ 23 _ _ As A.length cs k 1 .i64 F rfl (by kernel_rfl) (by kernel_rfl) (by kernel_rfl) (by kernel_rfl) (get_lt hak) (recs_some hA0 (m := k) (get_lt hak)) (⟨(b26, A27, c28), rfl, (SameB.refl _ _ rfl), S⟩)
             refine ⟨?_, ?_⟩
             ·
              refine ⟨_, rfl, rfl, by kernel_rfl, ?_⟩
              rintro D ⟨b26, A27, c28⟩ a z S F
              refine ⟨by kernel_rfl, ?_⟩
              exact op_load _ _ As (k * 1) (.int .u64 av) F rfl (by kernel_rfl) (by kernel_rfl) (cOldG S 0 iC_len_u64 hA0 gA rfl 0 hak rfl) (⟨(b26, A27, c28), rfl, (SameB.refl _ _ rfl), S⟩)
             refine ⟨?_, ?_⟩
             ·
              refine ⟨_, rfl, rfl, by kernel_rfl, ?_⟩
              rintro D ⟨b26, A27, c28⟩ a z S F
              refine ⟨by kernel_rfl, ?_⟩
              exact op_buildSliceF S 8 rfl _ 1 _ 92 3 legC ([(⟨nn, 0, av⟩ : Leg)] : List Leg) F rfl (by kernel_rfl) (by kernel_rfl) (by kernel_rfl) (by unfold maxLen; omega) fun y29 z S => ⟨(y29, A27, c28), rfl, ⟨rfl, rfl, rfl, rfl, rfl, rfl, rfl, rfl, rfl, rfl, rfl, trivial, trivial, trivial, trivial⟩, S⟩
             refine ⟨?_, ?_⟩
             ·
              refine ⟨_, rfl, rfl, by kernel_rfl, ?_⟩
              rintro D ⟨b26, A27, c28⟩ a z S F
              refine ⟨by kernel_rfl, ?_⟩
              exact op_append S 7 _ _ _ 92 (.agg #[.int .i64 0, .int .i64 0, .int .u64 0]) 3 24 Lg ([(⟨nn, 0, av⟩ : Leg)] : List Leg) legC (some ⟨b26, 0, none⟩) 1 F legC_len (fun _ => rfl) rfl rfl (by kernel_rfl) (by kernel_rfl) rfl rfl rfl (by kernel_rfl) (by kernel_rfl) (row_none (S.rowOf (i := 8) rfl)) (src_row (S.rowOf (i := 8) rfl)) (by first | omega | (simp <;> omega)) fun y30 y31 z S => ⟨(b26, y30, y31), rfl, ⟨rfl, rfl, rfl, rfl, rfl, rfl, rfl, rfl, rfl, rfl, rfl, rfl, trivial, trivial, trivial⟩, S⟩
             trivial
            ·
             rintro ⟨b26, A27, c28⟩ a z F S
             have F := F.sub (l := [(0, .pointer (some ⟨b, 0, none⟩)), (1, .int .u64 cid), (2, .int .i64 (pa : Nat)), (3, .slice Ar E.length cr), (4, .slice As A.length cs), (11, .slice A27 ((Lg ++ ([(⟨nn, 0, av⟩ : Leg)] : List Leg)).length) c28), (12, .int .i64 0), (13, .int .i64 (k : Nat)), (14, .int .i64 0)]) ⟨by kernel_rfl, by kernel_rfl, by kernel_rfl, by kernel_rfl, by kernel_rfl, by kernel_rfl, by kernel_rfl, by kernel_rfl, by kernel_rfl, trivial⟩
             have S : Sat w z [rest w G, box b 74 [.slice Ah I.has.length ch, .slice Ae I.ends.length ce, .slice Af I.free.length cf, .slice Al qs.length cl], rUl Ah ch I.has, rEl Ae ce I.ends, rF Af I.free.length cf (Fq.set nn ((xg.1 - av, xg.2) : Int × Int)), rPl Al cl qs, bag (qs.flatMap legRows), rLl A27 c28 (Lg ++ ([(⟨nn, 0, av⟩ : Leg)] : List Leg)), rL (some ⟨b26, 0, none⟩) 1 1 ([(⟨nn, 0, av⟩ : Leg)] : List Leg)] := S
             refine then_n ?_
             refine region_gx (fun D => fun (_ : Unit) => [rest w G, box b 74 [.slice Ah I.has.length ch, .slice Ae I.ends.length ce, .slice Af I.free.length cf, .slice Al qs.length cl], rUl Ah ch I.has, rEl Ae ce I.ends, rF Af I.free.length cf (Fq.set nn ((xg.1 - av, xg.2) : Int × Int)), rPl Al cl qs, bag (qs.flatMap legRows), rLl A27 c28 (Lg ++ ([(⟨nn, 0, av⟩ : Leg)] : List Leg)), rL (some ⟨b26, 0, none⟩) 1 1 ([(⟨nn, 0, av⟩ : Leg)] : List Leg)]) (fun (_ : Unit) => [.pointer (some ⟨b, 0, none⟩), .pointer (some ⟨b, 0, none⟩), .pointer (some ⟨b, 1, none⟩), .slice Ae I.ends.length ce, .slice Ar E.length cr, .int .i64 (k : Nat), ptrA Ar (k * 1), .int .i64 (nn : Nat), .int .i64 0, .int .i64 1, ptrA Ae (nn * 2), ptrA Ae (nn * 2 + 1), .int .i64 (qa : Nat), .int .i64 (qa : Nat)]) [(3, [], [10, 11, 12]), (6, [], [7, 10, 11, 12]), (7, [6], [10, 11, 12]), (10, [3, 6, 7], [11, 12]), (11, [3, 6, 7, 10], [12]), (12, [3, 6, 7, 10, 11], [])] () rfl (by kernel_rfl) (by kernel_rfl) F S.drew ?_ ?_ ?_ ?_ ?_
             · rintro ⟨⟩; rfl
             · rintro ⟨⟩; kernel_rfl
             ·
              intro D D' x h
              cases x
              rfl
             ·
              refine ⟨?_, ?_⟩
              ·
               refine ⟨_, rfl, rfl, by kernel_rfl, ?_⟩
               rintro D ⟨⟩ a z S F
               refine ⟨by kernel_rfl, ?_⟩
               exact op_load _ _ (some ⟨b, 0, none⟩) 1 (.slice Ae I.ends.length ce) F rfl (by kernel_rfl) (by kernel_rfl) (cBox S 1 rfl (j := 1) rfl) (⟨(), rfl, (SameB.refl _ _ rfl), S⟩)
              refine ⟨?_, ?_⟩
              ·
               refine ⟨_, rfl, rfl, by kernel_rfl, ?_⟩
               rintro D ⟨⟩ a z S F
               refine ⟨by kernel_rfl, ?_⟩
               exact op_index _ 3 _ _ Ar E.length cr k 1 .i64 F rfl (by kernel_rfl) (by kernel_rfl) (by kernel_rfl) (by kernel_rfl) (get_lt hek) (recs_some hE0 (m := k) (get_lt hek)) (⟨(), rfl, (SameB.refl _ _ rfl), S⟩)
              refine ⟨?_, ?_⟩
              ·
               refine ⟨_, rfl, rfl, by kernel_rfl, ?_⟩
               rintro D ⟨⟩ a z S F
               refine ⟨by kernel_rfl, ?_⟩
               exact op_load _ _ Ar (k * 1) (.int .i64 (nn : Nat)) F rfl (by kernel_rfl) (by kernel_rfl) (cOldG S 0 iC_len_i64 hE0 gE rfl 0 hek rfl) (⟨(), rfl, (SameB.refl _ _ rfl), S⟩)
              refine ⟨?_, ?_⟩
              ·
               refine ⟨_, rfl, rfl, by kernel_rfl, ?_⟩
               rintro D ⟨⟩ a z S F
               refine ⟨by kernel_rfl, ?_⟩
               exact op_index _ 63 _ _ Ae I.ends.length ce nn 2 .i64 F rfl (by kernel_rfl) (by kernel_rfl) (by kernel_rfl) (by kernel_rfl) (get_lt he) (row_some S 3 rfl (m := nn) (get_lt he)) (⟨(), rfl, (SameB.refl _ _ rfl), S⟩)
              refine ⟨?_, ?_⟩
              ·
               refine ⟨_, rfl, rfl, by kernel_rfl, ?_⟩
               rintro D ⟨⟩ a z S F
               refine ⟨by kernel_rfl, ?_⟩
               exact op_indexArr _ 3 _ _ Ae (nn * 2) 2 1 1 .i64 F rfl (by kernel_rfl) (by kernel_rfl) (by kernel_rfl) (by kernel_rfl) (by decide) (row_some S 3 rfl (m := nn) (get_lt he)) (⟨(), rfl, (SameB.refl _ _ rfl), S⟩)
              refine ⟨?_, ?_⟩
              ·
               refine ⟨_, rfl, rfl, by kernel_rfl, ?_⟩
               rintro D ⟨⟩ a z S F
               refine ⟨by kernel_rfl, ?_⟩
               exact op_load _ _ Ae (nn * 2 + 1) (.int .i64 (qa : Nat)) F rfl (by kernel_rfl) (by kernel_rfl) (cRec S 3 enC_len rfl 1 he rfl) (⟨(), rfl, (SameB.refl _ _ rfl), S⟩)
              trivial
             ·
              rintro ⟨⟩ a z F S
              have F := F.sub (l := [(0, .pointer (some ⟨b, 0, none⟩)), (1, .int .u64 cid), (2, .int .i64 (qa : Nat)), (3, .slice Ar E.length cr), (4, .slice As A.length cs), (11, .slice A27 ((Lg ++ ([(⟨nn, 0, av⟩ : Leg)] : List Leg)).length) c28), (12, .int .i64 0), (13, .int .i64 (k : Nat))]) ⟨by kernel_rfl, by kernel_rfl, by kernel_rfl, by kernel_rfl, by kernel_rfl, by kernel_rfl, by kernel_rfl, by kernel_rfl, trivial⟩
              have S : Sat w z [rest w G, box b 74 [.slice Ah I.has.length ch, .slice Ae I.ends.length ce, .slice Af I.free.length cf, .slice Al qs.length cl], rUl Ah ch I.has, rEl Ae ce I.ends, rF Af I.free.length cf (Fq.set nn ((xg.1 - av, xg.2) : Int × Int)), rPl Al cl qs, bag (qs.flatMap legRows), rLl A27 c28 (Lg ++ ([(⟨nn, 0, av⟩ : Leg)] : List Leg)), rL (some ⟨b26, 0, none⟩) 1 1 ([(⟨nn, 0, av⟩ : Leg)] : List Leg)] := S
              refine inb_n ?_
              refine then_n ?_
              refine wp_region_list ?_
              refine l_pure 1 (fun L => (44, .int .i64 (k : Nat)) :: L) F (by kernel_rfl) fun a F => ?_
              refine l_do F rfl rfl (op_pure F (v0 := .int .i64 (IntKind.wrap .i64 ((k : Nat) + 1))) (v := .int .i64 (k + 1 : Nat)) (by kernel_rfl) (wrn_i64 (by omega) (by omega) (by omega)) fun a F => ?_)
              refine l_pure 1 (fun L => (13, .int .i64 (k + 1 : Nat)) :: L) F (by kernel_rfl) fun a F => ?_
              refine l_then ?_
              have hsn : (Lg ++ ([(⟨nn, 0, av⟩ : Leg)] : List Leg)) = (Lg ++ [(⟨nn, 0, av⟩ : Leg)]) := rfl
              exact ⟨_, (by omega), k + 1, (Fq.set nn ((xg.1 - av, xg.2) : Int × Int)), (Lg ++ [(⟨nn, 0, av⟩ : Leg)]), (qa : Nat), A27, c28, rfl, (by omega), (by rw [List.length_set]; exact hFl), (set_free_nn hFn (by omega) (by omega)), (by rw [hbf, beg_go (s := 0) hak hek hsd hpvn hxg (show ¬ frN xg 0 < av from ht25) he]; rfl), (by simp; omega), (by rw [sumF_set hxg]; (try dsimp only); omega), F.sub ⟨by kernel_rfl, by kernel_rfl, by kernel_rfl, by kernel_rfl, by kernel_rfl, by kernel_rfl, by kernel_rfl, by kernel_rfl, trivial⟩, (S.pick [0, 1, 2, 3, 4, 5, 6, 7] (by decide))⟩
        ·
         intro hcut15
         dsimp only [tailAt] at hcut15
         refine wp_seq ?_
         refine wp_seq ?_
         by_cases ht32 : (av : Int) = (0 : Int)
         ·
          skip
          refine region_gx (fun D => fun (_ : Unit) => [rest w G, box b 74 [.slice Ah I.has.length ch, .slice Ae I.ends.length ce, .slice Af I.free.length cf, .slice Al qs.length cl], rUl Ah ch I.has, rEl Ae ce I.ends, rF Af I.free.length cf Fq, rPl Al cl qs, bag (qs.flatMap legRows), rLl Alg clg Lg]) (fun (_ : Unit) => [.slice As A.length cs, .int .i64 (k : Nat), ptrA As (k * 1), .int .u64 av, .bool true, .bool true, undef, undef, undef, undef, undef, undef, undef, undef, undef, undef, undef, undef, undef, undef, .bool true]) [(2, [], [3, 4]), (3, [2], [4]), (4, [2, 3], [])] () rfl (by kernel_rfl) (by kernel_rfl) F S.drew ?_ ?_ ?_ ?_ ?_
          · rintro ⟨⟩; rfl
          · rintro ⟨⟩; kernel_rfl
          ·
           intro D D' x h
           cases x
           rfl
          ·
           refine ⟨?_, ?_⟩
           ·
            refine ⟨_, rfl, rfl, by kernel_rfl, ?_⟩
            rintro D ⟨⟩ a z S F
            refine ⟨by kernel_rfl, ?_⟩
            exact op_index _ 23 _ _ As A.length cs k 1 .i64 F rfl (by kernel_rfl) (by kernel_rfl) (by kernel_rfl) (by kernel_rfl) (get_lt hak) (recs_some hA0 (m := k) (get_lt hak)) (⟨(), rfl, (SameB.refl _ _ rfl), S⟩)
           refine ⟨?_, ?_⟩
           ·
            refine ⟨_, rfl, rfl, by kernel_rfl, ?_⟩
            rintro D ⟨⟩ a z S F
            refine ⟨by kernel_rfl, ?_⟩
            exact op_load _ _ As (k * 1) (.int .u64 av) F rfl (by kernel_rfl) (by kernel_rfl) (cOldG S 0 iC_len_u64 hA0 gA rfl 0 hak rfl) (⟨(), rfl, (SameB.refl _ _ rfl), S⟩)
           refine ⟨?_, ?_⟩
           ·
            refine ⟨_, rfl, rfl, by kernel_rfl, ?_⟩
            rintro D ⟨⟩ a z S F
            refine ⟨by kernel_rfl, ?_⟩
            exact op_pure F (v0 := .bool ((av : Int) == (0 : Int))) (v := .bool true) (by kernel_rfl) (eqlT ht32) ⟨(), rfl, (SameB.refl _ _ rfl), S⟩
           trivial
          ·
           rintro ⟨⟩ a z F S
           have F := F.sub (l := [(0, .pointer (some ⟨b, 0, none⟩)), (1, .int .u64 cid), (2, .int .i64 (pa : Nat)), (3, .slice Ar E.length cr), (4, .slice As A.length cs), (11, .slice Alg Lg.length clg), (12, .int .i64 0), (13, .int .i64 (k : Nat)), (14, .int .i64 0), (78, .bool true)]) ⟨by kernel_rfl, by kernel_rfl, by kernel_rfl, by kernel_rfl, by kernel_rfl, by kernel_rfl, by kernel_rfl, by kernel_rfl, by kernel_rfl, by kernel_rfl, trivial⟩
           have S : Sat w z [rest w G, box b 74 [.slice Ah I.has.length ch, .slice Ae I.ends.length ce, .slice Af I.free.length cf, .slice Al qs.length cl], rUl Ah ch I.has, rEl Ae ce I.ends, rF Af I.free.length cf Fq, rPl Al cl qs, bag (qs.flatMap legRows), rLl Alg clg Lg] := S
           refine then_n ?_
           refine c_t F rfl ?_
           refine s_reg ?_
           refine l_pure 1 (fun L => (12, .int .i64 1) :: L) F (by kernel_rfl) fun a F => ?_
           refine l_then ?_
           refine wp_exit ?_
           refine then_x ?_
           refine inb_xo (by kernel_rfl) ?_
           refine then_x ?_
           refine then_x ?_
           refine inb_x ?_
           refine then_n ?_
           exact hcut20 _ _ ⟨1, Fq, Lg, Alg, clg, (by rw [hbf, beg_amt hek hak hsd (.inl ht32)]; unfold comb; rw [List.append_nil]), F.sub ⟨by kernel_rfl, by kernel_rfl, by kernel_rfl, by kernel_rfl, trivial⟩, S⟩
         ·
          skip
          by_cases ht33 : (0 : Int) < ((k : Nat) : Int)
          ·
           skip
           obtain ⟨ap, hap⟩ : ∃ ap, A[k - 1]? = some ap := ⟨_, List.getElem?_eq_getElem (by omega)⟩
           by_cases ht34 : (ap : Int) < (av : Int)
           ·
            skip
            refine region_gx (fun D => fun (_ : Unit) => [rest w G, box b 74 [.slice Ah I.has.length ch, .slice Ae I.ends.length ce, .slice Af I.free.length cf, .slice Al qs.length cl], rUl Ah ch I.has, rEl Ae ce I.ends, rF Af I.free.length cf Fq, rPl Al cl qs, bag (qs.flatMap legRows), rLl Alg clg Lg]) (fun (_ : Unit) => [.slice As A.length cs, .int .i64 (k : Nat), ptrA As (k * 1), .int .u64 av, .bool false, .bool false, .int .i64 (k : Nat), .bool true, .bool true, .slice As A.length cs, .int .i64 (k : Nat), ptrA As (k * 1), .int .u64 av, .slice As A.length cs, .int .i64 (k : Nat), .int .i64 (k - 1 : Nat), ptrA As ((k - 1) * 1), .int .u64 ap, .bool true, .bool true, .bool true]) [(2, [], [3, 4, 7, 11, 12, 15, 16, 17, 18]), (3, [2], [4, 7, 11, 12, 15, 16, 17, 18]), (4, [2, 3], [7, 11, 12, 15, 16, 17, 18]), (7, [2, 3, 4], [11, 12, 15, 16, 17, 18]), (11, [2, 3, 4, 7], [12, 18]), (12, [2, 3, 4, 7, 11], [18]), (15, [2, 3, 4, 7], [16, 17, 18]), (16, [2, 3, 4, 7, 15], [17, 18]), (17, [2, 3, 4, 7, 15, 16], [18]), (18, [2, 3, 4, 7, 11, 12, 15, 16, 17], [])] () rfl (by kernel_rfl) (by kernel_rfl) F S.drew ?_ ?_ ?_ ?_ ?_
            · rintro ⟨⟩; rfl
            · rintro ⟨⟩; kernel_rfl
            ·
             intro D D' x h
             cases x
             rfl
            ·
             refine ⟨?_, ?_⟩
             ·
              refine ⟨_, rfl, rfl, by kernel_rfl, ?_⟩
              rintro D ⟨⟩ a z S F
              refine ⟨by kernel_rfl, ?_⟩
              exact op_index _ 23 _ _ As A.length cs k 1 .i64 F rfl (by kernel_rfl) (by kernel_rfl) (by kernel_rfl) (by kernel_rfl) (get_lt hak) (recs_some hA0 (m := k) (get_lt hak)) (⟨(), rfl, (SameB.refl _ _ rfl), S⟩)
             refine ⟨?_, ?_⟩
             ·
              refine ⟨_, rfl, rfl, by kernel_rfl, ?_⟩
              rintro D ⟨⟩ a z S F
              refine ⟨by kernel_rfl, ?_⟩
              exact op_load _ _ As (k * 1) (.int .u64 av) F rfl (by kernel_rfl) (by kernel_rfl) (cOldG S 0 iC_len_u64 hA0 gA rfl 0 hak rfl) (⟨(), rfl, (SameB.refl _ _ rfl), S⟩)
             refine ⟨?_, ?_⟩
             ·
              refine ⟨_, rfl, rfl, by kernel_rfl, ?_⟩
              rintro D ⟨⟩ a z S F
              refine ⟨by kernel_rfl, ?_⟩
              exact op_pure F (v0 := .bool ((av : Int) == (0 : Int))) (v := .bool false) (by kernel_rfl) (eqlF ht32) ⟨(), rfl, (SameB.refl _ _ rfl), S⟩
             refine ⟨?_, ?_⟩
             ·
              refine ⟨_, rfl, rfl, by kernel_rfl, ?_⟩
              rintro D ⟨⟩ a z S F
              refine ⟨by kernel_rfl, ?_⟩
              exact op_pure F (v0 := .bool (decide (((k : Nat) : Int) > (0 : Int)))) (v := .bool true) (by kernel_rfl) (gtrT ht33) ⟨(), rfl, (SameB.refl _ _ rfl), S⟩
             refine ⟨?_, ?_⟩
             ·
              refine ⟨_, rfl, rfl, by kernel_rfl, ?_⟩
              rintro D ⟨⟩ a z S F
              refine ⟨by kernel_rfl, ?_⟩
              exact op_index _ 23 _ _ As A.length cs k 1 .i64 F rfl (by kernel_rfl) (by kernel_rfl) (by kernel_rfl) (by kernel_rfl) (get_lt hak) (recs_some hA0 (m := k) (get_lt hak)) (⟨(), rfl, (SameB.refl _ _ rfl), S⟩)
             refine ⟨?_, ?_⟩
             ·
              refine ⟨_, rfl, rfl, by kernel_rfl, ?_⟩
              rintro D ⟨⟩ a z S F
              refine ⟨by kernel_rfl, ?_⟩
              exact op_load _ _ As (k * 1) (.int .u64 av) F rfl (by kernel_rfl) (by kernel_rfl) (cOldG S 0 iC_len_u64 hA0 gA rfl 0 hak rfl) (⟨(), rfl, (SameB.refl _ _ rfl), S⟩)
             refine ⟨?_, ?_⟩
             ·
              refine ⟨_, rfl, rfl, by kernel_rfl, ?_⟩
              rintro D ⟨⟩ a z S F
              refine ⟨by kernel_rfl, ?_⟩
              exact op_pure F (v0 := .int .i64 (IntKind.wrap .i64 ((k : Nat) - 1))) (v := .int .i64 (k - 1 : Nat)) (by kernel_rfl) (wrn_i64 (by omega) (by omega) (by omega)) ⟨(), rfl, (SameB.refl _ _ rfl), S⟩
             refine ⟨?_, ?_⟩
             ·
              refine ⟨_, rfl, rfl, by kernel_rfl, ?_⟩
              rintro D ⟨⟩ a z S F
              refine ⟨by kernel_rfl, ?_⟩
              exact op_index _ 23 _ _ As A.length cs (k - 1) 1 .i64 F rfl (by kernel_rfl) (by kernel_rfl) (by kernel_rfl) (by kernel_rfl) (get_lt hap) (recs_some hA0 (m := k - 1) (get_lt hap)) (⟨(), rfl, (SameB.refl _ _ rfl), S⟩)
             refine ⟨?_, ?_⟩
             ·
              refine ⟨_, rfl, rfl, by kernel_rfl, ?_⟩
              rintro D ⟨⟩ a z S F
              refine ⟨by kernel_rfl, ?_⟩
              exact op_load _ _ As ((k - 1) * 1) (.int .u64 ap) F rfl (by kernel_rfl) (by kernel_rfl) (cOldG S 0 iC_len_u64 hA0 gA rfl 0 hap rfl) (⟨(), rfl, (SameB.refl _ _ rfl), S⟩)
             refine ⟨?_, ?_⟩
             ·
              refine ⟨_, rfl, rfl, by kernel_rfl, ?_⟩
              rintro D ⟨⟩ a z S F
              refine ⟨by kernel_rfl, ?_⟩
              exact op_pure F (v0 := .bool (decide ((av : Int) > (ap : Int)))) (v := .bool true) (by kernel_rfl) (gtrT ht34) ⟨(), rfl, (SameB.refl _ _ rfl), S⟩
             trivial
            ·
             rintro ⟨⟩ a z F S
             have F := F.sub (l := [(0, .pointer (some ⟨b, 0, none⟩)), (1, .int .u64 cid), (2, .int .i64 (pa : Nat)), (3, .slice Ar E.length cr), (4, .slice As A.length cs), (11, .slice Alg Lg.length clg), (12, .int .i64 0), (13, .int .i64 (k : Nat)), (14, .int .i64 0), (78, .bool true)]) ⟨by kernel_rfl, by kernel_rfl, by kernel_rfl, by kernel_rfl, by kernel_rfl, by kernel_rfl, by kernel_rfl, by kernel_rfl, by kernel_rfl, by kernel_rfl, trivial⟩
             have S : Sat w z [rest w G, box b 74 [.slice Ah I.has.length ch, .slice Ae I.ends.length ce, .slice Af I.free.length cf, .slice Al qs.length cl], rUl Ah ch I.has, rEl Ae ce I.ends, rF Af I.free.length cf Fq, rPl Al cl qs, bag (qs.flatMap legRows), rLl Alg clg Lg] := S
             refine then_n ?_
             refine c_t F rfl ?_
             refine s_reg ?_
             refine l_pure 1 (fun L => (12, .int .i64 1) :: L) F (by kernel_rfl) fun a F => ?_
             refine l_then ?_
             refine wp_exit ?_
             refine then_x ?_
             refine inb_xo (by kernel_rfl) ?_
             refine then_x ?_
             refine then_x ?_
             refine inb_x ?_
             refine then_n ?_
             exact hcut20 _ _ ⟨1, Fq, Lg, Alg, clg, (by rw [hbf, beg_amt hek hak hsd (.inr (pv_yes (by omega) hap ht34))]; unfold comb; rw [List.append_nil]), F.sub ⟨by kernel_rfl, by kernel_rfl, by kernel_rfl, by kernel_rfl, trivial⟩, S⟩
           ·
            skip
            refine region_gx (fun D => fun (_ : Unit) => [rest w G, box b 74 [.slice Ah I.has.length ch, .slice Ae I.ends.length ce, .slice Af I.free.length cf, .slice Al qs.length cl], rUl Ah ch I.has, rEl Ae ce I.ends, rF Af I.free.length cf Fq, rPl Al cl qs, bag (qs.flatMap legRows), rLl Alg clg Lg]) (fun (_ : Unit) => [.slice As A.length cs, .int .i64 (k : Nat), ptrA As (k * 1), .int .u64 av, .bool false, .bool false, .int .i64 (k : Nat), .bool true, .bool true, .slice As A.length cs, .int .i64 (k : Nat), ptrA As (k * 1), .int .u64 av, .slice As A.length cs, .int .i64 (k : Nat), .int .i64 (k - 1 : Nat), ptrA As ((k - 1) * 1), .int .u64 ap, .bool false, .bool false, .bool false]) [(2, [], [3, 4, 7, 11, 12, 15, 16, 17, 18]), (3, [2], [4, 7, 11, 12, 15, 16, 17, 18]), (4, [2, 3], [7, 11, 12, 15, 16, 17, 18]), (7, [2, 3, 4], [11, 12, 15, 16, 17, 18]), (11, [2, 3, 4, 7], [12, 18]), (12, [2, 3, 4, 7, 11], [18]), (15, [2, 3, 4, 7], [16, 17, 18]), (16, [2, 3, 4, 7, 15], [17, 18]), (17, [2, 3, 4, 7, 15, 16], [18]), (18, [2, 3, 4, 7, 11, 12, 15, 16, 17], [])] () rfl (by kernel_rfl) (by kernel_rfl) F S.drew ?_ ?_ ?_ ?_ ?_
            · rintro ⟨⟩; rfl
            · rintro ⟨⟩; kernel_rfl
            ·
             intro D D' x h
             cases x
             rfl
            ·
             refine ⟨?_, ?_⟩
             ·
              refine ⟨_, rfl, rfl, by kernel_rfl, ?_⟩
              rintro D ⟨⟩ a z S F
              refine ⟨by kernel_rfl, ?_⟩
              exact op_index _ 23 _ _ As A.length cs k 1 .i64 F rfl (by kernel_rfl) (by kernel_rfl) (by kernel_rfl) (by kernel_rfl) (get_lt hak) (recs_some hA0 (m := k) (get_lt hak)) (⟨(), rfl, (SameB.refl _ _ rfl), S⟩)
             refine ⟨?_, ?_⟩
             ·
              refine ⟨_, rfl, rfl, by kernel_rfl, ?_⟩
              rintro D ⟨⟩ a z S F
              refine ⟨by kernel_rfl, ?_⟩
              exact op_load _ _ As (k * 1) (.int .u64 av) F rfl (by kernel_rfl) (by kernel_rfl) (cOldG S 0 iC_len_u64 hA0 gA rfl 0 hak rfl) (⟨(), rfl, (SameB.refl _ _ rfl), S⟩)
             refine ⟨?_, ?_⟩
             ·
              refine ⟨_, rfl, rfl, by kernel_rfl, ?_⟩
              rintro D ⟨⟩ a z S F
              refine ⟨by kernel_rfl, ?_⟩
              exact op_pure F (v0 := .bool ((av : Int) == (0 : Int))) (v := .bool false) (by kernel_rfl) (eqlF ht32) ⟨(), rfl, (SameB.refl _ _ rfl), S⟩
             refine ⟨?_, ?_⟩
             ·
              refine ⟨_, rfl, rfl, by kernel_rfl, ?_⟩
              rintro D ⟨⟩ a z S F
              refine ⟨by kernel_rfl, ?_⟩
              exact op_pure F (v0 := .bool (decide (((k : Nat) : Int) > (0 : Int)))) (v := .bool true) (by kernel_rfl) (gtrT ht33) ⟨(), rfl, (SameB.refl _ _ rfl), S⟩
             refine ⟨?_, ?_⟩
             ·
              refine ⟨_, rfl, rfl, by kernel_rfl, ?_⟩
              rintro D ⟨⟩ a z S F
              refine ⟨by kernel_rfl, ?_⟩
              exact op_index _ 23 _ _ As A.length cs k 1 .i64 F rfl (by kernel_rfl) (by kernel_rfl) (by kernel_rfl) (by kernel_rfl) (get_lt hak) (recs_some hA0 (m := k) (get_lt hak)) (⟨(), rfl, (SameB.refl _ _ rfl), S⟩)
             refine ⟨?_, ?_⟩
             ·
              refine ⟨_, rfl, rfl, by kernel_rfl, ?_⟩
              rintro D ⟨⟩ a z S F
              refine ⟨by kernel_rfl, ?_⟩
              exact op_load _ _ As (k * 1) (.int .u64 av) F rfl (by kernel_rfl) (by kernel_rfl) (cOldG S 0 iC_len_u64 hA0 gA rfl 0 hak rfl) (⟨(), rfl, (SameB.refl _ _ rfl), S⟩)
             refine ⟨?_, ?_⟩
             ·
              refine ⟨_, rfl, rfl, by kernel_rfl, ?_⟩
              rintro D ⟨⟩ a z S F
              refine ⟨by kernel_rfl, ?_⟩
              exact op_pure F (v0 := .int .i64 (IntKind.wrap .i64 ((k : Nat) - 1))) (v := .int .i64 (k - 1 : Nat)) (by kernel_rfl) (wrn_i64 (by omega) (by omega) (by omega)) ⟨(), rfl, (SameB.refl _ _ rfl), S⟩
             refine ⟨?_, ?_⟩
             ·
              refine ⟨_, rfl, rfl, by kernel_rfl, ?_⟩
              rintro D ⟨⟩ a z S F
              refine ⟨by kernel_rfl, ?_⟩
              exact op_index _ 23 _ _ As A.length cs (k - 1) 1 .i64 F rfl (by kernel_rfl) (by kernel_rfl) (by kernel_rfl) (by kernel_rfl) (get_lt hap) (recs_some hA0 (m := k - 1) (get_lt hap)) (⟨(), rfl, (SameB.refl _ _ rfl), S⟩)
             refine ⟨?_, ?_⟩
             ·
              refine ⟨_, rfl, rfl, by kernel_rfl, ?_⟩
              rintro D ⟨⟩ a z S F
              refine ⟨by kernel_rfl, ?_⟩
              exact op_load _ _ As ((k - 1) * 1) (.int .u64 ap) F rfl (by kernel_rfl) (by kernel_rfl) (cOldG S 0 iC_len_u64 hA0 gA rfl 0 hap rfl) (⟨(), rfl, (SameB.refl _ _ rfl), S⟩)
             refine ⟨?_, ?_⟩
             ·
              refine ⟨_, rfl, rfl, by kernel_rfl, ?_⟩
              rintro D ⟨⟩ a z S F
              refine ⟨by kernel_rfl, ?_⟩
              exact op_pure F (v0 := .bool (decide ((av : Int) > (ap : Int)))) (v := .bool false) (by kernel_rfl) (gtrF ht34) ⟨(), rfl, (SameB.refl _ _ rfl), S⟩
             trivial
            ·
             rintro ⟨⟩ a z F S
             have F := F.sub (l := [(0, .pointer (some ⟨b, 0, none⟩)), (1, .int .u64 cid), (2, .int .i64 (pa : Nat)), (3, .slice Ar E.length cr), (4, .slice As A.length cs), (11, .slice Alg Lg.length clg), (12, .int .i64 0), (13, .int .i64 (k : Nat)), (14, .int .i64 0), (78, .bool false)]) ⟨by kernel_rfl, by kernel_rfl, by kernel_rfl, by kernel_rfl, by kernel_rfl, by kernel_rfl, by kernel_rfl, by kernel_rfl, by kernel_rfl, by kernel_rfl, trivial⟩
             have S : Sat w z [rest w G, box b 74 [.slice Ah I.has.length ch, .slice Ae I.ends.length ce, .slice Af I.free.length cf, .slice Al qs.length cl], rUl Ah ch I.has, rEl Ae ce I.ends, rF Af I.free.length cf Fq, rPl Al cl qs, bag (qs.flatMap legRows), rLl Alg clg Lg] := S
             refine then_n ?_
             refine c_f F rfl ?_
             refine wp_skip ?_
             refine then_n ?_
             exact hcut15 _ _ ⟨(fun h9 => h9.elim ht32 (pv_no (.inr ⟨_, hap, ht34⟩))), F.sub ⟨by kernel_rfl, by kernel_rfl, by kernel_rfl, by kernel_rfl, by kernel_rfl, by kernel_rfl, by kernel_rfl, by kernel_rfl, by kernel_rfl, trivial⟩, S⟩
          ·
           skip
           refine region_gx (fun D => fun (_ : Unit) => [rest w G, box b 74 [.slice Ah I.has.length ch, .slice Ae I.ends.length ce, .slice Af I.free.length cf, .slice Al qs.length cl], rUl Ah ch I.has, rEl Ae ce I.ends, rF Af I.free.length cf Fq, rPl Al cl qs, bag (qs.flatMap legRows), rLl Alg clg Lg]) (fun (_ : Unit) => [.slice As A.length cs, .int .i64 (k : Nat), ptrA As (k * 1), .int .u64 av, .bool false, .bool false, .int .i64 (k : Nat), .bool false, .bool false, undef, undef, undef, undef, undef, undef, undef, undef, undef, undef, .bool false, .bool false]) [(2, [], [3, 4, 7]), (3, [2], [4, 7]), (4, [2, 3], [7]), (7, [2, 3, 4], [])] () rfl (by kernel_rfl) (by kernel_rfl) F S.drew ?_ ?_ ?_ ?_ ?_
           · rintro ⟨⟩; rfl
           · rintro ⟨⟩; kernel_rfl
           ·
            intro D D' x h
            cases x
            rfl
           ·
            refine ⟨?_, ?_⟩
            ·
             refine ⟨_, rfl, rfl, by kernel_rfl, ?_⟩
             rintro D ⟨⟩ a z S F
             refine ⟨by kernel_rfl, ?_⟩
             exact op_index _ 23 _ _ As A.length cs k 1 .i64 F rfl (by kernel_rfl) (by kernel_rfl) (by kernel_rfl) (by kernel_rfl) (get_lt hak) (recs_some hA0 (m := k) (get_lt hak)) (⟨(), rfl, (SameB.refl _ _ rfl), S⟩)
            refine ⟨?_, ?_⟩
            ·
             refine ⟨_, rfl, rfl, by kernel_rfl, ?_⟩
             rintro D ⟨⟩ a z S F
             refine ⟨by kernel_rfl, ?_⟩
             exact op_load _ _ As (k * 1) (.int .u64 av) F rfl (by kernel_rfl) (by kernel_rfl) (cOldG S 0 iC_len_u64 hA0 gA rfl 0 hak rfl) (⟨(), rfl, (SameB.refl _ _ rfl), S⟩)
            refine ⟨?_, ?_⟩
            ·
             refine ⟨_, rfl, rfl, by kernel_rfl, ?_⟩
             rintro D ⟨⟩ a z S F
             refine ⟨by kernel_rfl, ?_⟩
             exact op_pure F (v0 := .bool ((av : Int) == (0 : Int))) (v := .bool false) (by kernel_rfl) (eqlF ht32) ⟨(), rfl, (SameB.refl _ _ rfl), S⟩
            refine ⟨?_, ?_⟩
            ·
             refine ⟨_, rfl, rfl, by kernel_rfl, ?_⟩
             rintro D ⟨⟩ a z S F
             refine ⟨by kernel_rfl, ?_⟩
             exact op_pure F (v0 := .bool (decide (((k : Nat) : Int) > (0 : Int)))) (v := .bool false) (by kernel_rfl) (gtrF ht33) ⟨(), rfl, (SameB.refl _ _ rfl), S⟩
            trivial
           ·
            rintro ⟨⟩ a z F S
            have F := F.sub (l := [(0, .pointer (some ⟨b, 0, none⟩)), (1, .int .u64 cid), (2, .int .i64 (pa : Nat)), (3, .slice Ar E.length cr), (4, .slice As A.length cs), (11, .slice Alg Lg.length clg), (12, .int .i64 0), (13, .int .i64 (k : Nat)), (14, .int .i64 0), (78, .bool false)]) ⟨by kernel_rfl, by kernel_rfl, by kernel_rfl, by kernel_rfl, by kernel_rfl, by kernel_rfl, by kernel_rfl, by kernel_rfl, by kernel_rfl, by kernel_rfl, trivial⟩
            have S : Sat w z [rest w G, box b 74 [.slice Ah I.has.length ch, .slice Ae I.ends.length ce, .slice Af I.free.length cf, .slice Al qs.length cl], rUl Ah ch I.has, rEl Ae ce I.ends, rF Af I.free.length cf Fq, rPl Al cl qs, bag (qs.flatMap legRows), rLl Alg clg Lg] := S
            refine then_n ?_
            refine c_f F rfl ?_
            refine wp_skip ?_
            refine then_n ?_
            exact hcut15 _ _ ⟨(fun h9 => h9.elim ht32 (pv_no (.inl (by omega)))), F.sub ⟨by kernel_rfl, by kernel_rfl, by kernel_rfl, by kernel_rfl, by kernel_rfl, by kernel_rfl, by kernel_rfl, by kernel_rfl, by kernel_rfl, trivial⟩, S⟩
       ·
        skip
        obtain ⟨hpl, hql, hpq9⟩ := ok.en _ (List.mem_of_getElem? he)
        dsimp only at hpl hql hpq9
        have hnn := (List.getElem?_eq_some_iff.1 he).1
        obtain ⟨xg, hxg⟩ : ∃ xg, Fq[nn]? = some xg := ⟨_, List.getElem?_eq_getElem (by omega)⟩
        have hxn := hFn _ (List.mem_of_getElem? hxg)
        have hxs := sumF_one hFn hxg
        obtain ⟨G9, g9, hin9, hlt9, k9⟩ := S.frameB [1, 3] (by decide) rfl
        refine l_do F rfl rfl (op_fn F (by kernel_rfl) (rside24_at hsd _ G9 b Ah I.has.length ch Ae ce Af I.free.length cf Al qs.length cl g9) ?_)
        rintro e z9 ⟨rfl, g⟩
        have S : Sat w z9 [rest w G, box b 74 [.slice Ah I.has.length ch, .slice Ae I.ends.length ce, .slice Af I.free.length cf, .slice Al qs.length cl], rUl Ah ch I.has, rEl Ae ce I.ends, rF Af I.free.length cf Fq, rPl Al cl qs, bag (qs.flatMap legRows), rLl Alg clg Lg] := k9 z9 [box b 74 [.slice Ah I.has.length ch, .slice Ae I.ends.length ce, .slice Af I.free.length cf, .slice Al qs.length cl], rEl Ae ce I.ends] rfl g
        clear g g9 k9 hin9 hlt9
        refine ⟨_, rfl, ?_⟩
        intro a F
        refine l_pure 5 (fun L => (12, .int .i64 0) :: (14, .int .i64 1) :: (55, .int .i64 0) :: (54, .int .i64 1) :: (46, .tuple #[.int .i64 1, .int .i64 0]) :: L) F (by kernel_rfl) fun a F => ?_
        refine l_then ?_
        refine wp_seq ?_
        refine s_reg ?_
        refine l_pure 2 (fun L => (57, .bool false) :: (56, .int .i64 0) :: L) F (by kernel_rfl) fun a F => ?_
        refine l_then ?_
        refine c_f F rfl ?_
        refine wp_skip ?_
        refine then_n ?_
        refine cutK 1 (fun a z => (¬ (av = 0 ∨ ∃ p, pvOf A k = some p ∧ p < av)) ∧ Fr a 199 [(0, .pointer (some ⟨b, 0, none⟩)), (1, .int .u64 cid), (2, .int .i64 (qa : Nat)), (3, .slice Ar E.length cr), (4, .slice As A.length cs), (11, .slice Alg Lg.length clg), (12, .int .i64 0), (13, .int .i64 (k : Nat)), (14, .int .i64 1)] ∧ Sat w z [rest w G, box b 74 [.slice Ah I.has.length ch, .slice Ae I.ends.length ce, .slice Af I.free.length cf, .slice Al qs.length cl], rUl Ah ch I.has, rEl Ae ce I.ends, rF Af I.free.length cf Fq, rPl Al cl qs, bag (qs.flatMap legRows), rLl Alg clg Lg]) ?_ ?_
        ·
         rintro a z ⟨hf35, F, S⟩
         dsimp only [tailAt]
         have hpvn := hf35
         refine wp_seq ?_
         refine wp_seq ?_
         by_cases ht36 : (xg.2 : Int) < (av : Int)
         ·
          skip
          refine region_gx (fun D => fun (_ : Unit) => [rest w G, box b 74 [.slice Ah I.has.length ch, .slice Ae I.ends.length ce, .slice Af I.free.length cf, .slice Al qs.length cl], rUl Ah ch I.has, rEl Ae ce I.ends, rF Af I.free.length cf Fq, rPl Al cl qs, bag (qs.flatMap legRows), rLl Alg clg Lg]) (fun (_ : Unit) => [.pointer (some ⟨b, 0, none⟩), .pointer (some ⟨b, 0, none⟩), .pointer (some ⟨b, 2, none⟩), .slice Af I.free.length cf, .slice Ar E.length cr, .int .i64 (k : Nat), ptrA Ar (k * 1), .int .i64 (nn : Nat), .int .i64 1, ptrA Af (nn * 2), ptrA Af (nn * 2 + 1), .int .u64 xg.2, .slice As A.length cs, .int .i64 (k : Nat), ptrA As (k * 1), .int .u64 av, .bool true]) [(3, [], [9, 10, 11, 16]), (6, [], [7, 9, 10, 11, 16]), (7, [6], [9, 10, 11, 16]), (9, [3, 6, 7], [10, 11, 16]), (10, [3, 6, 7, 9], [11, 16]), (11, [3, 6, 7, 9, 10], [16]), (14, [], [15, 16]), (15, [14], [16]), (16, [3, 6, 7, 9, 10, 11, 14, 15], [])] () rfl (by kernel_rfl) (by kernel_rfl) F S.drew ?_ ?_ ?_ ?_ ?_
          · rintro ⟨⟩; rfl
          · rintro ⟨⟩; kernel_rfl
          ·
           intro D D' x h
           cases x
           rfl
          ·
           refine ⟨?_, ?_⟩
           ·
            refine ⟨_, rfl, rfl, by kernel_rfl, ?_⟩
            rintro D ⟨⟩ a z S F
            refine ⟨by kernel_rfl, ?_⟩
            exact op_load _ _ (some ⟨b, 0, none⟩) 2 (.slice Af I.free.length cf) F rfl (by kernel_rfl) (by kernel_rfl) (cBox S 1 rfl (j := 2) rfl) (⟨(), rfl, (SameB.refl _ _ rfl), S⟩)
           refine ⟨?_, ?_⟩
           ·
            refine ⟨_, rfl, rfl, by kernel_rfl, ?_⟩
            rintro D ⟨⟩ a z S F
            refine ⟨by kernel_rfl, ?_⟩
            exact op_index _ 3 _ _ Ar E.length cr k 1 .i64 F rfl (by kernel_rfl) (by kernel_rfl) (by kernel_rfl) (by kernel_rfl) (get_lt hek) (recs_some hE0 (m := k) (get_lt hek)) (⟨(), rfl, (SameB.refl _ _ rfl), S⟩)
           refine ⟨?_, ?_⟩
           ·
            refine ⟨_, rfl, rfl, by kernel_rfl, ?_⟩
            rintro D ⟨⟩ a z S F
            refine ⟨by kernel_rfl, ?_⟩
            exact op_load _ _ Ar (k * 1) (.int .i64 (nn : Nat)) F rfl (by kernel_rfl) (by kernel_rfl) (cOldG S 0 iC_len_i64 hE0 gE rfl 0 hek rfl) (⟨(), rfl, (SameB.refl _ _ rfl), S⟩)
           refine ⟨?_, ?_⟩
           ·
            refine ⟨_, rfl, rfl, by kernel_rfl, ?_⟩
            rintro D ⟨⟩ a z S F
            refine ⟨by kernel_rfl, ?_⟩
            exact op_index _ 31 _ _ Af I.free.length cf nn 2 .i64 F rfl (by kernel_rfl) (by kernel_rfl) (by kernel_rfl) (by kernel_rfl) (by have h9 := get_lt hxg; (try simp only [List.length_set] at h9); omega) (row_some S 4 rfl (m := nn) (by have h9 := get_lt hxg; (try simp only [List.length_set] at h9); omega)) (⟨(), rfl, (SameB.refl _ _ rfl), S⟩)
           refine ⟨?_, ?_⟩
           ·
            refine ⟨_, rfl, rfl, by kernel_rfl, ?_⟩
            rintro D ⟨⟩ a z S F
            refine ⟨by kernel_rfl, ?_⟩
            exact op_indexArr _ 23 _ _ Af (nn * 2) 2 1 1 .i64 F rfl (by kernel_rfl) (by kernel_rfl) (by kernel_rfl) (by kernel_rfl) (by decide) (row_some S 4 rfl (m := nn) (by have h9 := get_lt hxg; (try simp only [List.length_set] at h9); omega)) (⟨(), rfl, (SameB.refl _ _ rfl), S⟩)
           refine ⟨?_, ?_⟩
           ·
            refine ⟨_, rfl, rfl, by kernel_rfl, ?_⟩
            rintro D ⟨⟩ a z S F
            refine ⟨by kernel_rfl, ?_⟩
            exact op_load _ _ Af (nn * 2 + 1) (.int .u64 xg.2) F rfl (by kernel_rfl) (by kernel_rfl) (cRec S 4 frC_len rfl 1 hxg rfl) (⟨(), rfl, (SameB.refl _ _ rfl), S⟩)
           refine ⟨?_, ?_⟩
           ·
            refine ⟨_, rfl, rfl, by kernel_rfl, ?_⟩
            rintro D ⟨⟩ a z S F
            refine ⟨by kernel_rfl, ?_⟩
            exact op_index _ 23 _ _ As A.length cs k 1 .i64 F rfl (by kernel_rfl) (by kernel_rfl) (by kernel_rfl) (by kernel_rfl) (get_lt hak) (recs_some hA0 (m := k) (get_lt hak)) (⟨(), rfl, (SameB.refl _ _ rfl), S⟩)
           refine ⟨?_, ?_⟩
           ·
            refine ⟨_, rfl, rfl, by kernel_rfl, ?_⟩
            rintro D ⟨⟩ a z S F
            refine ⟨by kernel_rfl, ?_⟩
            exact op_load _ _ As (k * 1) (.int .u64 av) F rfl (by kernel_rfl) (by kernel_rfl) (cOldG S 0 iC_len_u64 hA0 gA rfl 0 hak rfl) (⟨(), rfl, (SameB.refl _ _ rfl), S⟩)
           refine ⟨?_, ?_⟩
           ·
            refine ⟨_, rfl, rfl, by kernel_rfl, ?_⟩
            rintro D ⟨⟩ a z S F
            refine ⟨by kernel_rfl, ?_⟩
            exact op_pure F (v0 := .bool (decide ((xg.2 : Int) < (av : Int)))) (v := .bool true) (by kernel_rfl) (lssT ht36) ⟨(), rfl, (SameB.refl _ _ rfl), S⟩
           trivial
          ·
           rintro ⟨⟩ a z F S
           have F := F.sub (l := [(0, .pointer (some ⟨b, 0, none⟩)), (1, .int .u64 cid), (2, .int .i64 (qa : Nat)), (3, .slice Ar E.length cr), (4, .slice As A.length cs), (11, .slice Alg Lg.length clg), (12, .int .i64 0), (13, .int .i64 (k : Nat)), (14, .int .i64 1), (95, .bool true)]) ⟨by kernel_rfl, by kernel_rfl, by kernel_rfl, by kernel_rfl, by kernel_rfl, by kernel_rfl, by kernel_rfl, by kernel_rfl, by kernel_rfl, by kernel_rfl, trivial⟩
           have S : Sat w z [rest w G, box b 74 [.slice Ah I.has.length ch, .slice Ae I.ends.length ce, .slice Af I.free.length cf, .slice Al qs.length cl], rUl Ah ch I.has, rEl Ae ce I.ends, rF Af I.free.length cf Fq, rPl Al cl qs, bag (qs.flatMap legRows), rLl Alg clg Lg] := S
           refine then_n ?_
           refine c_t F rfl ?_
           refine s_reg ?_
           refine l_pure 1 (fun L => (12, .int .i64 28) :: L) F (by kernel_rfl) fun a F => ?_
           refine l_then ?_
           refine wp_exit ?_
           refine then_x ?_
           refine inb_xo (by kernel_rfl) ?_
           refine then_x ?_
           refine then_x ?_
           refine inb_x ?_
           refine then_n ?_
           exact hcut20 _ _ ⟨28, Fq, Lg, Alg, clg, (by rw [hbf, beg_room (s := 1) hak hek hsd hpvn hxg (show frN xg 1 < av from ht36)]; unfold comb; rw [List.append_nil]), F.sub ⟨by kernel_rfl, by kernel_rfl, by kernel_rfl, by kernel_rfl, trivial⟩, S⟩
         ·
          skip
          refine region_gx (fun D => fun (_ : Unit) => [rest w G, box b 74 [.slice Ah I.has.length ch, .slice Ae I.ends.length ce, .slice Af I.free.length cf, .slice Al qs.length cl], rUl Ah ch I.has, rEl Ae ce I.ends, rF Af I.free.length cf Fq, rPl Al cl qs, bag (qs.flatMap legRows), rLl Alg clg Lg]) (fun (_ : Unit) => [.pointer (some ⟨b, 0, none⟩), .pointer (some ⟨b, 0, none⟩), .pointer (some ⟨b, 2, none⟩), .slice Af I.free.length cf, .slice Ar E.length cr, .int .i64 (k : Nat), ptrA Ar (k * 1), .int .i64 (nn : Nat), .int .i64 1, ptrA Af (nn * 2), ptrA Af (nn * 2 + 1), .int .u64 xg.2, .slice As A.length cs, .int .i64 (k : Nat), ptrA As (k * 1), .int .u64 av, .bool false]) [(3, [], [9, 10, 11, 16]), (6, [], [7, 9, 10, 11, 16]), (7, [6], [9, 10, 11, 16]), (9, [3, 6, 7], [10, 11, 16]), (10, [3, 6, 7, 9], [11, 16]), (11, [3, 6, 7, 9, 10], [16]), (14, [], [15, 16]), (15, [14], [16]), (16, [3, 6, 7, 9, 10, 11, 14, 15], [])] () rfl (by kernel_rfl) (by kernel_rfl) F S.drew ?_ ?_ ?_ ?_ ?_
          · rintro ⟨⟩; rfl
          · rintro ⟨⟩; kernel_rfl
          ·
           intro D D' x h
           cases x
           rfl
          ·
           refine ⟨?_, ?_⟩
           ·
            refine ⟨_, rfl, rfl, by kernel_rfl, ?_⟩
            rintro D ⟨⟩ a z S F
            refine ⟨by kernel_rfl, ?_⟩
            exact op_load _ _ (some ⟨b, 0, none⟩) 2 (.slice Af I.free.length cf) F rfl (by kernel_rfl) (by kernel_rfl) (cBox S 1 rfl (j := 2) rfl) (⟨(), rfl, (SameB.refl _ _ rfl), S⟩)
           refine ⟨?_, ?_⟩
           ·
            refine ⟨_, rfl, rfl, by kernel_rfl, ?_⟩
            rintro D ⟨⟩ a z S F
            refine ⟨by kernel_rfl, ?_⟩
            exact op_index _ 3 _ _ Ar E.length cr k 1 .i64 F rfl (by kernel_rfl) (by kernel_rfl) (by kernel_rfl) (by kernel_rfl) (get_lt hek) (recs_some hE0 (m := k) (get_lt hek)) (⟨(), rfl, (SameB.refl _ _ rfl), S⟩)
           refine ⟨?_, ?_⟩
           ·
            refine ⟨_, rfl, rfl, by kernel_rfl, ?_⟩
            rintro D ⟨⟩ a z S F
            refine ⟨by kernel_rfl, ?_⟩
            exact op_load _ _ Ar (k * 1) (.int .i64 (nn : Nat)) F rfl (by kernel_rfl) (by kernel_rfl) (cOldG S 0 iC_len_i64 hE0 gE rfl 0 hek rfl) (⟨(), rfl, (SameB.refl _ _ rfl), S⟩)
           refine ⟨?_, ?_⟩
           ·
            refine ⟨_, rfl, rfl, by kernel_rfl, ?_⟩
            rintro D ⟨⟩ a z S F
            refine ⟨by kernel_rfl, ?_⟩
            exact op_index _ 31 _ _ Af I.free.length cf nn 2 .i64 F rfl (by kernel_rfl) (by kernel_rfl) (by kernel_rfl) (by kernel_rfl) (by have h9 := get_lt hxg; (try simp only [List.length_set] at h9); omega) (row_some S 4 rfl (m := nn) (by have h9 := get_lt hxg; (try simp only [List.length_set] at h9); omega)) (⟨(), rfl, (SameB.refl _ _ rfl), S⟩)
           refine ⟨?_, ?_⟩
           ·
            refine ⟨_, rfl, rfl, by kernel_rfl, ?_⟩
            rintro D ⟨⟩ a z S F
            refine ⟨by kernel_rfl, ?_⟩
            exact op_indexArr _ 23 _ _ Af (nn * 2) 2 1 1 .i64 F rfl (by kernel_rfl) (by kernel_rfl) (by kernel_rfl) (by kernel_rfl) (by decide) (row_some S 4 rfl (m := nn) (by have h9 := get_lt hxg; (try simp only [List.length_set] at h9); omega)) (⟨(), rfl, (SameB.refl _ _ rfl), S⟩)
           refine ⟨?_, ?_⟩
           ·
            refine ⟨_, rfl, rfl, by kernel_rfl, ?_⟩
            rintro D ⟨⟩ a z S F
            refine ⟨by kernel_rfl, ?_⟩
            exact op_load _ _ Af (nn * 2 + 1) (.int .u64 xg.2) F rfl (by kernel_rfl) (by kernel_rfl) (cRec S 4 frC_len rfl 1 hxg rfl) (⟨(), rfl, (SameB.refl _ _ rfl), S⟩)
           refine ⟨?_, ?_⟩
           ·
            refine ⟨_, rfl, rfl, by kernel_rfl, ?_⟩
            rintro D ⟨⟩ a z S F
            refine ⟨by kernel_rfl, ?_⟩
            exact op_index _ 23 _ _ As A.length cs k 1 .i64 F rfl (by kernel_rfl) (by kernel_rfl) (by kernel_rfl) (by kernel_rfl) (get_lt hak) (recs_some hA0 (m := k) (get_lt hak)) (⟨(), rfl, (SameB.refl _ _ rfl), S⟩)
           refine ⟨?_, ?_⟩
           ·
            refine ⟨_, rfl, rfl, by kernel_rfl, ?_⟩
            rintro D ⟨⟩ a z S F
            refine ⟨by kernel_rfl, ?_⟩
            exact op_load _ _ As (k * 1) (.int .u64 av) F rfl (by kernel_rfl) (by kernel_rfl) (cOldG S 0 iC_len_u64 hA0 gA rfl 0 hak rfl) (⟨(), rfl, (SameB.refl _ _ rfl), S⟩)
           refine ⟨?_, ?_⟩
           ·
            refine ⟨_, rfl, rfl, by kernel_rfl, ?_⟩
            rintro D ⟨⟩ a z S F
            refine ⟨by kernel_rfl, ?_⟩
            exact op_pure F (v0 := .bool (decide ((xg.2 : Int) < (av : Int)))) (v := .bool false) (by kernel_rfl) (lssF ht36) ⟨(), rfl, (SameB.refl _ _ rfl), S⟩
           trivial
          ·
           rintro ⟨⟩ a z F S
           have F := F.sub (l := [(0, .pointer (some ⟨b, 0, none⟩)), (1, .int .u64 cid), (2, .int .i64 (qa : Nat)), (3, .slice Ar E.length cr), (4, .slice As A.length cs), (11, .slice Alg Lg.length clg), (12, .int .i64 0), (13, .int .i64 (k : Nat)), (14, .int .i64 1), (95, .bool false)]) ⟨by kernel_rfl, by kernel_rfl, by kernel_rfl, by kernel_rfl, by kernel_rfl, by kernel_rfl, by kernel_rfl, by kernel_rfl, by kernel_rfl, by kernel_rfl, trivial⟩
           have S : Sat w z [rest w G, box b 74 [.slice Ah I.has.length ch, .slice Ae I.ends.length ce, .slice Af I.free.length cf, .slice Al qs.length cl], rUl Ah ch I.has, rEl Ae ce I.ends, rF Af I.free.length cf Fq, rPl Al cl qs, bag (qs.flatMap legRows), rLl Alg clg Lg] := S
           refine then_n ?_
           refine c_f F rfl ?_
           refine wp_skip ?_
           refine then_n ?_
           refine wp_seq ?_
           refine region_gx (fun D => fun (_ : Unit) => [rest w G, box b 74 [.slice Ah I.has.length ch, .slice Ae I.ends.length ce, .slice Af I.free.length cf, .slice Al qs.length cl], rUl Ah ch I.has, rEl Ae ce I.ends, bif D 28 then rF Af I.free.length cf (Fq.set nn ((xg.1, xg.2 - av) : Int × Int)) else rF Af I.free.length cf Fq, rPl Al cl qs, bag (qs.flatMap legRows), rLl Alg clg Lg]) (fun (_ : Unit) => [.pointer (some ⟨b, 0, none⟩), .pointer (some ⟨b, 0, none⟩), .pointer (some ⟨b, 2, none⟩), .slice Af I.free.length cf, .slice Ar E.length cr, .int .i64 (k : Nat), ptrA Ar (k * 1), .int .i64 (nn : Nat), .int .i64 1, .pointer (some ⟨b, 0, none⟩), .pointer (some ⟨b, 0, none⟩), .pointer (some ⟨b, 2, none⟩), .slice Af I.free.length cf, .slice Ar E.length cr, .int .i64 (k : Nat), ptrA Ar (k * 1), .int .i64 (nn : Nat), .int .i64 1, ptrA Af (nn * 2), ptrA Af (nn * 2 + 1), .int .u64 xg.2, .slice As A.length cs, .int .i64 (k : Nat), ptrA As (k * 1), .int .u64 av, .int .u64 (xg.2 - av), ptrA Af (nn * 2), ptrA Af (nn * 2 + 1), undef]) [(3, [], [26, 27, 28]), (6, [], [7, 26, 27, 28]), (7, [6], [26, 27, 28]), (12, [], [18, 19, 20, 25, 27, 28]), (15, [], [16, 18, 19, 20, 25, 27, 28]), (16, [15], [18, 19, 20, 25, 27, 28]), (18, [12, 15, 16], [19, 20, 25, 27, 28]), (19, [12, 15, 16, 18], [20, 25, 27, 28]), (20, [12, 15, 16, 18, 19], [25, 27, 28]), (23, [], [24, 25, 27, 28]), (24, [23], [25, 27, 28]), (25, [12, 15, 16, 18, 19, 20, 23, 24], [27, 28]), (26, [3, 6, 7], [27, 28]), (27, [3, 6, 7, 12, 15, 16, 18, 19, 20, 23, 24, 25, 26], [28]), (28, [3, 6, 7, 12, 15, 16, 18, 19, 20, 23, 24, 25, 26, 27], [])] () rfl (by kernel_rfl) (by kernel_rfl) F S.drew ?_ ?_ ?_ ?_ ?_
           · rintro ⟨⟩; rfl
           · rintro ⟨⟩; kernel_rfl
           ·
            intro D D' x h
            cases x
            simp only [h 28 (by decide)]
           ·
            refine ⟨?_, ?_⟩
            ·
             refine ⟨_, rfl, rfl, by kernel_rfl, ?_⟩
             rintro D ⟨⟩ a z S F
             refine ⟨by kernel_rfl, ?_⟩
             exact op_load _ _ (some ⟨b, 0, none⟩) 2 (.slice Af I.free.length cf) F rfl (by kernel_rfl) (by kernel_rfl) (cBox S 1 rfl (j := 2) rfl) (⟨(), rfl, (SameB.refl _ _ rfl), S⟩)
            refine ⟨?_, ?_⟩
            ·
             refine ⟨_, rfl, rfl, by kernel_rfl, ?_⟩
             rintro D ⟨⟩ a z S F
             refine ⟨by kernel_rfl, ?_⟩
             exact op_index _ 3 _ _ Ar E.length cr k 1 .i64 F rfl (by kernel_rfl) (by kernel_rfl) (by kernel_rfl) (by kernel_rfl) (get_lt hek) (recs_some hE0 (m := k) (get_lt hek)) (⟨(), rfl, (SameB.refl _ _ rfl), S⟩)
            refine ⟨?_, ?_⟩
            ·
             refine ⟨_, rfl, rfl, by kernel_rfl, ?_⟩
             rintro D ⟨⟩ a z S F
             refine ⟨by kernel_rfl, ?_⟩
             exact op_load _ _ Ar (k * 1) (.int .i64 (nn : Nat)) F rfl (by kernel_rfl) (by kernel_rfl) (cOldG S 0 iC_len_i64 hE0 gE rfl 0 hek rfl) (⟨(), rfl, (SameB.refl _ _ rfl), S⟩)
            refine ⟨?_, ?_⟩
            ·
             refine ⟨_, rfl, rfl, by kernel_rfl, ?_⟩
             rintro D ⟨⟩ a z S F
             refine ⟨by kernel_rfl, ?_⟩
             exact op_load _ _ (some ⟨b, 0, none⟩) 2 (.slice Af I.free.length cf) F rfl (by kernel_rfl) (by kernel_rfl) (cBox S 1 rfl (j := 2) rfl) (⟨(), rfl, (SameB.refl _ _ rfl), S⟩)
            refine ⟨?_, ?_⟩
            ·
             refine ⟨_, rfl, rfl, by kernel_rfl, ?_⟩
             rintro D ⟨⟩ a z S F
             refine ⟨by kernel_rfl, ?_⟩
             exact op_index _ 3 _ _ Ar E.length cr k 1 .i64 F rfl (by kernel_rfl) (by kernel_rfl) (by kernel_rfl) (by kernel_rfl) (get_lt hek) (recs_some hE0 (m := k) (get_lt hek)) (⟨(), rfl, (SameB.refl _ _ rfl), S⟩)
            refine ⟨?_, ?_⟩
            ·
             refine ⟨_, rfl, rfl, by kernel_rfl, ?_⟩
             rintro D ⟨⟩ a z S F
             refine ⟨by kernel_rfl, ?_⟩
             exact op_load _ _ Ar (k * 1) (.int .i64 (nn : Nat)) F rfl (by kernel_rfl) (by kernel_rfl) (cOldG S 0 iC_len_i64 hE0 gE rfl 0 hek rfl) (⟨(), rfl, (SameB.refl _ _ rfl), S⟩)
            refine ⟨?_, ?_⟩
            ·
             refine ⟨_, rfl, rfl, by kernel_rfl, ?_⟩
             rintro D ⟨⟩ a z S F
             refine ⟨by kernel_rfl, ?_⟩
             exact op_index _ 31 _ _ Af I.free.length cf nn 2 .i64 F rfl (by kernel_rfl) (by kernel_rfl) (by kernel_rfl) (by kernel_rfl) (by have h9 := get_lt hxg; (try simp only [List.length_set] at h9); omega) (row_some S 4 rfl (m := nn) (by have h9 := get_lt hxg; (try simp only [List.length_set] at h9); omega)) (⟨(), rfl, (SameB.refl _ _ rfl), S⟩)
            refine ⟨?_, ?_⟩
            ·
             refine ⟨_, rfl, rfl, by kernel_rfl, ?_⟩
             rintro D ⟨⟩ a z S F
             refine ⟨by kernel_rfl, ?_⟩
             exact op_indexArr _ 23 _ _ Af (nn * 2) 2 1 1 .i64 F rfl (by kernel_rfl) (by kernel_rfl) (by kernel_rfl) (by kernel_rfl) (by decide) (row_some S 4 rfl (m := nn) (by have h9 := get_lt hxg; (try simp only [List.length_set] at h9); omega)) (⟨(), rfl, (SameB.refl _ _ rfl), S⟩)
            refine ⟨?_, ?_⟩
            ·
             refine ⟨_, rfl, rfl, by kernel_rfl, ?_⟩
             rintro D ⟨⟩ a z S F
             refine ⟨by kernel_rfl, ?_⟩
             exact op_load _ _ Af (nn * 2 + 1) (.int .u64 xg.2) F rfl (by kernel_rfl) (by kernel_rfl) (cRec S 4 frC_len rfl 1 hxg rfl) (⟨(), rfl, (SameB.refl _ _ rfl), S⟩)
            refine ⟨?_, ?_⟩
            ·
             refine ⟨_, rfl, rfl, by kernel_rfl, ?_⟩
             rintro D ⟨⟩ a z S F
             refine ⟨by kernel_rfl, ?_⟩
             exact op_index _ 23 _ _ As A.length cs k 1 .i64 F rfl (by kernel_rfl) (by kernel_rfl) (by kernel_rfl) (by kernel_rfl) (get_lt hak) (recs_some hA0 (m := k) (get_lt hak)) (⟨(), rfl, (SameB.refl _ _ rfl), S⟩)
            refine ⟨?_, ?_⟩
            ·
             refine ⟨_, rfl, rfl, by kernel_rfl, ?_⟩
             rintro D ⟨⟩ a z S F
             refine ⟨by kernel_rfl, ?_⟩
             exact op_load _ _ As (k * 1) (.int .u64 av) F rfl (by kernel_rfl) (by kernel_rfl) (cOldG S 0 iC_len_u64 hA0 gA rfl 0 hak rfl) (⟨(), rfl, (SameB.refl _ _ rfl), S⟩)
            refine ⟨?_, ?_⟩
            ·
             refine ⟨_, rfl, rfl, by kernel_rfl, ?_⟩
             rintro D ⟨⟩ a z S F
             refine ⟨by kernel_rfl, ?_⟩
             exact op_pure F (v0 := .int .u64 (IntKind.wrap .u64 (xg.2 - av))) (v := .int .u64 (xg.2 - av)) (by kernel_rfl) (wr_u64 (by omega) (by omega)) ⟨(), rfl, (SameB.refl _ _ rfl), S⟩
            refine ⟨?_, ?_⟩
            ·
             refine ⟨_, rfl, rfl, by kernel_rfl, ?_⟩
             rintro D ⟨⟩ a z S F
             refine ⟨by kernel_rfl, ?_⟩
             exact op_index _ 31 _ _ Af I.free.length cf nn 2 .i64 F rfl (by kernel_rfl) (by kernel_rfl) (by kernel_rfl) (by kernel_rfl) (by have h9 := get_lt hxg; (try simp only [List.length_set] at h9); omega) (row_some S 4 rfl (m := nn) (by have h9 := get_lt hxg; (try simp only [List.length_set] at h9); omega)) (⟨(), rfl, (SameB.refl _ _ rfl), S⟩)
            refine ⟨?_, ?_⟩
            ·
             refine ⟨_, rfl, rfl, by kernel_rfl, ?_⟩
             rintro D ⟨⟩ a z S F
             refine ⟨by kernel_rfl, ?_⟩
             exact op_indexArr _ 23 _ _ Af (nn * 2) 2 1 1 .i64 F rfl (by kernel_rfl) (by kernel_rfl) (by kernel_rfl) (by kernel_rfl) (by decide) (row_some S 4 rfl (m := nn) (by have h9 := get_lt hxg; (try simp only [List.length_set] at h9); omega)) (⟨(), rfl, (SameB.refl _ _ rfl), S⟩)
            refine ⟨?_, ?_⟩
            ·
             refine ⟨_, rfl, rfl, by kernel_rfl, ?_⟩
             rintro D ⟨⟩ a z S F
             refine ⟨by kernel_rfl, ?_⟩
             exact op_storeRec S 4 _ _ _ Af nn 2 1 (.int .u64 (xg.2 - av)) ((xg.1, xg.2 - av) : Int × Int) F frC_len hxg rfl rfl (by kernel_rfl) (by kernel_rfl) (by kernel_rfl) (by kernel_rfl) (by kernel_rfl) (by kernel_rfl) (by kernel_rfl) fun z S => ⟨(), rfl, (SameB.refl _ _ rfl), S⟩
            trivial
           ·
            rintro ⟨⟩ a z F S
            have F := F.sub (l := [(0, .pointer (some ⟨b, 0, none⟩)), (1, .int .u64 cid), (2, .int .i64 (qa : Nat)), (3, .slice Ar E.length cr), (4, .slice As A.length cs), (11, .slice Alg Lg.length clg), (12, .int .i64 0), (13, .int .i64 (k : Nat)), (14, .int .i64 1)]) ⟨by kernel_rfl, by kernel_rfl, by kernel_rfl, by kernel_rfl, by kernel_rfl, by kernel_rfl, by kernel_rfl, by kernel_rfl, by kernel_rfl, trivial⟩
            have S : Sat w z [rest w G, box b 74 [.slice Ah I.has.length ch, .slice Ae I.ends.length ce, .slice Af I.free.length cf, .slice Al qs.length cl], rUl Ah ch I.has, rEl Ae ce I.ends, rF Af I.free.length cf (Fq.set nn ((xg.1, xg.2 - av) : Int × Int)), rPl Al cl qs, bag (qs.flatMap legRows), rLl Alg clg Lg] := S
            refine then_n ?_
            refine wp_seq ?_
            have S := S.pushEmp
            refine region_gx (fun D => fun ((b37, A38, c39) : Nat × Option Addr × Nat) => [rest w G, box b 74 [.slice Ah I.has.length ch, .slice Ae I.ends.length ce, .slice Af I.free.length cf, .slice Al qs.length cl], rUl Ah ch I.has, rEl Ae ce I.ends, rF Af I.free.length cf (Fq.set nn ((xg.1, xg.2 - av) : Int × Int)), rPl Al cl qs, bag (qs.flatMap legRows), bif D 12 then rLl A38 c39 (Lg ++ ([(⟨nn, 1, av⟩ : Leg)] : List Leg)) else rLl Alg clg Lg, bif D 11 then rL (some ⟨b37, 0, none⟩) 1 1 ([(⟨nn, 1, av⟩ : Leg)] : List Leg) else emp]) (fun ((b37, A38, c39) : Nat × Option Addr × Nat) => [.slice Alg Lg.length clg, .slice Ar E.length cr, .int .i64 (k : Nat), ptrA Ar (k * 1), .int .i64 (nn : Nat), .int .i64 1, .slice As A.length cs, .int .i64 (k : Nat), ptrA As (k * 1), .int .u64 av, .agg #[.int .i64 (nn : Nat), .int .i64 1, .int .u64 av], .slice (some ⟨b37, 0, none⟩) 1 1, .slice A38 ((Lg ++ ([(⟨nn, 1, av⟩ : Leg)] : List Leg)).length) c39, .slice A38 ((Lg ++ ([(⟨nn, 1, av⟩ : Leg)] : List Leg)).length) c39]) [(3, [], [4, 11, 12]), (4, [3], [11, 12]), (8, [], [9, 11, 12]), (9, [8], [11, 12]), (11, [3, 4, 8, 9], [12]), (12, [3, 4, 8, 9, 11], [])] (0, none, 0) rfl (by kernel_rfl) (by kernel_rfl) F S.drew ?_ ?_ ?_ ?_ ?_
            · rintro ⟨b37, A38, c39⟩; rfl
            · rintro ⟨b37, A38, c39⟩; kernel_rfl
            ·
             intro D D' x h
             obtain ⟨b37, A38, c39⟩ := x
             simp only [h 11 (by decide), h 12 (by decide)]
            ·
             refine ⟨?_, ?_⟩
             ·
              refine ⟨_, rfl, rfl, by kernel_rfl, ?_⟩
              rintro D ⟨b37, A38, c39⟩ a z S F
              refine ⟨by kernel_rfl, ?_⟩
              exact op_index _ 3 _ _ Ar E.length cr k 1 .i64 F rfl (by kernel_rfl) (by kernel_rfl) (by kernel_rfl) (by kernel_rfl) (get_lt hek) (recs_some hE0 (m := k) (get_lt hek)) (⟨(b37, A38, c39), rfl, (SameB.refl _ _ rfl), S⟩)
             refine ⟨?_, ?_⟩
             ·
              refine ⟨_, rfl, rfl, by kernel_rfl, ?_⟩
              rintro D ⟨b37, A38, c39⟩ a z S F
              refine ⟨by kernel_rfl, ?_⟩
              exact op_load _ _ Ar (k * 1) (.int .i64 (nn : Nat)) F rfl (by kernel_rfl) (by kernel_rfl) (cOldG S 0 iC_len_i64 hE0 gE rfl 0 hek rfl) (⟨(b37, A38, c39), rfl, (SameB.refl _ _ rfl), S⟩)
             refine ⟨?_, ?_⟩
             ·
              refine ⟨_, rfl, rfl, by kernel_rfl, ?_⟩
              rintro D ⟨b37, A38, c39⟩ a z S F
              refine ⟨by kernel_rfl, ?_⟩
              exact op_index _ 23 _ _ As A.length cs k 1 .i64 F rfl (by kernel_rfl) (by kernel_rfl) (by kernel_rfl) (by kernel_rfl) (get_lt hak) (recs_some hA0 (m := k) (get_lt hak)) (⟨(b37, A38, c39), rfl, (SameB.refl _ _ rfl), S⟩)
             refine ⟨?_, ?_⟩
             ·
              refine ⟨_, rfl, rfl, by kernel_rfl, ?_⟩
              rintro D ⟨b37, A38, c39⟩ a z S F
              refine ⟨by kernel_rfl, ?_⟩
              exact op_load _ _ As (k * 1) (.int .u64 av) F rfl (by kernel_rfl) (by kernel_rfl) (cOldG S 0 iC_len_u64 hA0 gA rfl 0 hak rfl) (⟨(b37, A38, c39), rfl, (SameB.refl _ _ rfl), S⟩)
             refine ⟨?_, ?_⟩
             ·
              refine ⟨_, rfl, rfl, by kernel_rfl, ?_⟩
              rintro D ⟨b37, A38, c39⟩ a z S F
              refine ⟨by kernel_rfl, ?_⟩
              exact op_buildSliceF S 8 rfl _ 1 _ 92 3 legC ([(⟨nn, 1, av⟩ : Leg)] : List Leg) F rfl (by kernel_rfl) (by kernel_rfl) (by kernel_rfl) (by unfold maxLen; omega) fun y40 z S => ⟨(y40, A38, c39), rfl, ⟨rfl, rfl, rfl, rfl, rfl, rfl, rfl, rfl, rfl, rfl, rfl, trivial, trivial, trivial, trivial⟩, S⟩
             refine ⟨?_, ?_⟩
             ·
              refine ⟨_, rfl, rfl, by kernel_rfl, ?_⟩
              rintro D ⟨b37, A38, c39⟩ a z S F
              refine ⟨by kernel_rfl, ?_⟩
              exact op_append S 7 _ _ _ 92 (.agg #[.int .i64 0, .int .i64 0, .int .u64 0]) 3 24 Lg ([(⟨nn, 1, av⟩ : Leg)] : List Leg) legC (some ⟨b37, 0, none⟩) 1 F legC_len (fun _ => rfl) rfl rfl (by kernel_rfl) (by kernel_rfl) rfl rfl rfl (by kernel_rfl) (by kernel_rfl) (row_none (S.rowOf (i := 8) rfl)) (src_row (S.rowOf (i := 8) rfl)) (by first | omega | (simp <;> omega)) fun y41 y42 z S => ⟨(b37, y41, y42), rfl, ⟨rfl, rfl, rfl, rfl, rfl, rfl, rfl, rfl, rfl, rfl, rfl, rfl, trivial, trivial, trivial⟩, S⟩
             trivial
            ·
             rintro ⟨b37, A38, c39⟩ a z F S
             have F := F.sub (l := [(0, .pointer (some ⟨b, 0, none⟩)), (1, .int .u64 cid), (2, .int .i64 (qa : Nat)), (3, .slice Ar E.length cr), (4, .slice As A.length cs), (11, .slice A38 ((Lg ++ ([(⟨nn, 1, av⟩ : Leg)] : List Leg)).length) c39), (12, .int .i64 0), (13, .int .i64 (k : Nat)), (14, .int .i64 1)]) ⟨by kernel_rfl, by kernel_rfl, by kernel_rfl, by kernel_rfl, by kernel_rfl, by kernel_rfl, by kernel_rfl, by kernel_rfl, by kernel_rfl, trivial⟩
             have S : Sat w z [rest w G, box b 74 [.slice Ah I.has.length ch, .slice Ae I.ends.length ce, .slice Af I.free.length cf, .slice Al qs.length cl], rUl Ah ch I.has, rEl Ae ce I.ends, rF Af I.free.length cf (Fq.set nn ((xg.1, xg.2 - av) : Int × Int)), rPl Al cl qs, bag (qs.flatMap legRows), rLl A38 c39 (Lg ++ ([(⟨nn, 1, av⟩ : Leg)] : List Leg)), rL (some ⟨b37, 0, none⟩) 1 1 ([(⟨nn, 1, av⟩ : Leg)] : List Leg)] := S
             refine then_n ?_
             refine region_gx (fun D => fun (_ : Unit) => [rest w G, box b 74 [.slice Ah I.has.length ch, .slice Ae I.ends.length ce, .slice Af I.free.length cf, .slice Al qs.length cl], rUl Ah ch I.has, rEl Ae ce I.ends, rF Af I.free.length cf (Fq.set nn ((xg.1, xg.2 - av) : Int × Int)), rPl Al cl qs, bag (qs.flatMap legRows), rLl A38 c39 (Lg ++ ([(⟨nn, 1, av⟩ : Leg)] : List Leg)), rL (some ⟨b37, 0, none⟩) 1 1 ([(⟨nn, 1, av⟩ : Leg)] : List Leg)]) (fun (_ : Unit) => [.pointer (some ⟨b, 0, none⟩), .pointer (some ⟨b, 0, none⟩), .pointer (some ⟨b, 1, none⟩), .slice Ae I.ends.length ce, .slice Ar E.length cr, .int .i64 (k : Nat), ptrA Ar (k * 1), .int .i64 (nn : Nat), .int .i64 1, .int .i64 0, ptrA Ae (nn * 2), ptrA Ae (nn * 2), .int .i64 (pa : Nat), .int .i64 (pa : Nat)]) [(3, [], [10, 11, 12]), (6, [], [7, 10, 11, 12]), (7, [6], [10, 11, 12]), (10, [3, 6, 7], [11, 12]), (11, [3, 6, 7, 10], [12]), (12, [3, 6, 7, 10, 11], [])] () rfl (by kernel_rfl) (by kernel_rfl) F S.drew ?_ ?_ ?_ ?_ ?_
             · rintro ⟨⟩; rfl
             · rintro ⟨⟩; kernel_rfl
             ·
              intro D D' x h
              cases x
              rfl
             ·
              refine ⟨?_, ?_⟩
              ·
               refine ⟨_, rfl, rfl, by kernel_rfl, ?_⟩
               rintro D ⟨⟩ a z S F
               refine ⟨by kernel_rfl, ?_⟩
               exact op_load _ _ (some ⟨b, 0, none⟩) 1 (.slice Ae I.ends.length ce) F rfl (by kernel_rfl) (by kernel_rfl) (cBox S 1 rfl (j := 1) rfl) (⟨(), rfl, (SameB.refl _ _ rfl), S⟩)
              refine ⟨?_, ?_⟩
              ·
               refine ⟨_, rfl, rfl, by kernel_rfl, ?_⟩
               rintro D ⟨⟩ a z S F
               refine ⟨by kernel_rfl, ?_⟩
               exact op_index _ 3 _ _ Ar E.length cr k 1 .i64 F rfl (by kernel_rfl) (by kernel_rfl) (by kernel_rfl) (by kernel_rfl) (get_lt hek) (recs_some hE0 (m := k) (get_lt hek)) (⟨(), rfl, (SameB.refl _ _ rfl), S⟩)
              refine ⟨?_, ?_⟩
              ·
               refine ⟨_, rfl, rfl, by kernel_rfl, ?_⟩
               rintro D ⟨⟩ a z S F
               refine ⟨by kernel_rfl, ?_⟩
               exact op_load _ _ Ar (k * 1) (.int .i64 (nn : Nat)) F rfl (by kernel_rfl) (by kernel_rfl) (cOldG S 0 iC_len_i64 hE0 gE rfl 0 hek rfl) (⟨(), rfl, (SameB.refl _ _ rfl), S⟩)
              refine ⟨?_, ?_⟩
              ·
               refine ⟨_, rfl, rfl, by kernel_rfl, ?_⟩
               rintro D ⟨⟩ a z S F
               refine ⟨by kernel_rfl, ?_⟩
               exact op_index _ 63 _ _ Ae I.ends.length ce nn 2 .i64 F rfl (by kernel_rfl) (by kernel_rfl) (by kernel_rfl) (by kernel_rfl) (get_lt he) (row_some S 3 rfl (m := nn) (get_lt he)) (⟨(), rfl, (SameB.refl _ _ rfl), S⟩)
              refine ⟨?_, ?_⟩
              ·
               refine ⟨_, rfl, rfl, by kernel_rfl, ?_⟩
               rintro D ⟨⟩ a z S F
               refine ⟨by kernel_rfl, ?_⟩
               exact op_indexArr _ 3 _ _ Ae (nn * 2) 2 0 1 .i64 F rfl (by kernel_rfl) (by kernel_rfl) (by kernel_rfl) (by kernel_rfl) (by decide) (row_some S 3 rfl (m := nn) (get_lt he)) (⟨(), rfl, (SameB.refl _ _ rfl), S⟩)
              refine ⟨?_, ?_⟩
              ·
               refine ⟨_, rfl, rfl, by kernel_rfl, ?_⟩
               rintro D ⟨⟩ a z S F
               refine ⟨by kernel_rfl, ?_⟩
               exact op_load _ _ Ae (nn * 2) (.int .i64 (pa : Nat)) F rfl (by kernel_rfl) (by kernel_rfl) (cRec S 3 enC_len rfl 0 he rfl) (⟨(), rfl, (SameB.refl _ _ rfl), S⟩)
              trivial
             ·
              rintro ⟨⟩ a z F S
              have F := F.sub (l := [(0, .pointer (some ⟨b, 0, none⟩)), (1, .int .u64 cid), (2, .int .i64 (pa : Nat)), (3, .slice Ar E.length cr), (4, .slice As A.length cs), (11, .slice A38 ((Lg ++ ([(⟨nn, 1, av⟩ : Leg)] : List Leg)).length) c39), (12, .int .i64 0), (13, .int .i64 (k : Nat))]) ⟨by kernel_rfl, by kernel_rfl, by kernel_rfl, by kernel_rfl, by kernel_rfl, by kernel_rfl, by kernel_rfl, by kernel_rfl, trivial⟩
              have S : Sat w z [rest w G, box b 74 [.slice Ah I.has.length ch, .slice Ae I.ends.length ce, .slice Af I.free.length cf, .slice Al qs.length cl], rUl Ah ch I.has, rEl Ae ce I.ends, rF Af I.free.length cf (Fq.set nn ((xg.1, xg.2 - av) : Int × Int)), rPl Al cl qs, bag (qs.flatMap legRows), rLl A38 c39 (Lg ++ ([(⟨nn, 1, av⟩ : Leg)] : List Leg)), rL (some ⟨b37, 0, none⟩) 1 1 ([(⟨nn, 1, av⟩ : Leg)] : List Leg)] := S
              refine inb_n ?_
              refine then_n ?_
              refine wp_region_list ?_
              refine l_pure 1 (fun L => (44, .int .i64 (k : Nat)) :: L) F (by kernel_rfl) fun a F => ?_
              refine l_do F rfl rfl (op_pure F (v0 := .int .i64 (IntKind.wrap .i64 ((k : Nat) + 1))) (v := .int .i64 (k + 1 : Nat)) (by kernel_rfl) (wrn_i64 (by omega) (by omega) (by omega)) fun a F => ?_)
              refine l_pure 1 (fun L => (13, .int .i64 (k + 1 : Nat)) :: L) F (by kernel_rfl) fun a F => ?_
              refine l_then ?_
              have hsn : (Lg ++ ([(⟨nn, 1, av⟩ : Leg)] : List Leg)) = (Lg ++ [(⟨nn, 1, av⟩ : Leg)]) := rfl
              exact ⟨_, (by omega), k + 1, (Fq.set nn ((xg.1, xg.2 - av) : Int × Int)), (Lg ++ [(⟨nn, 1, av⟩ : Leg)]), (pa : Nat), A38, c39, rfl, (by omega), (by rw [List.length_set]; exact hFl), (set_free_nn hFn (by omega) (by omega)), (by rw [hbf, beg_go (s := 1) hak hek hsd hpvn hxg (show ¬ frN xg 1 < av from ht36) he]; rfl), (by simp; omega), (by rw [sumF_set hxg]; (try dsimp only); omega), F.sub ⟨by kernel_rfl, by kernel_rfl, by kernel_rfl, by kernel_rfl, by kernel_rfl, by kernel_rfl, by kernel_rfl, by kernel_rfl, trivial⟩, (S.pick [0, 1, 2, 3, 4, 5, 6, 7] (by decide))⟩
        ·
         intro hcut15
         dsimp only [tailAt] at hcut15
         refine wp_seq ?_
         refine wp_seq ?_
         by_cases ht43 : (av : Int) = (0 : Int)
         ·
          skip
          refine region_gx (fun D => fun (_ : Unit) => [rest w G, box b 74 [.slice Ah I.has.length ch, .slice Ae I.ends.length ce, .slice Af I.free.length cf, .slice Al qs.length cl], rUl Ah ch I.has, rEl Ae ce I.ends, rF Af I.free.length cf Fq, rPl Al cl qs, bag (qs.flatMap legRows), rLl Alg clg Lg]) (fun (_ : Unit) => [.slice As A.length cs, .int .i64 (k : Nat), ptrA As (k * 1), .int .u64 av, .bool true, .bool true, undef, undef, undef, undef, undef, undef, undef, undef, undef, undef, undef, undef, undef, undef, .bool true]) [(2, [], [3, 4]), (3, [2], [4]), (4, [2, 3], [])] () rfl (by kernel_rfl) (by kernel_rfl) F S.drew ?_ ?_ ?_ ?_ ?_
          · rintro ⟨⟩; rfl
          · rintro ⟨⟩; kernel_rfl
          ·
           intro D D' x h
           cases x
           rfl
          ·
           refine ⟨?_, ?_⟩
           ·
            refine ⟨_, rfl, rfl, by kernel_rfl, ?_⟩
            rintro D ⟨⟩ a z S F
            refine ⟨by kernel_rfl, ?_⟩
            exact op_index _ 23 _ _ As A.length cs k 1 .i64 F rfl (by kernel_rfl) (by kernel_rfl) (by kernel_rfl) (by kernel_rfl) (get_lt hak) (recs_some hA0 (m := k) (get_lt hak)) (⟨(), rfl, (SameB.refl _ _ rfl), S⟩)
           refine ⟨?_, ?_⟩
           ·
            refine ⟨_, rfl, rfl, by kernel_rfl, ?_⟩
            rintro D ⟨⟩ a z S F
            refine ⟨by kernel_rfl, ?_⟩
            exact op_load _ _ As (k * 1) (.int .u64 av) F rfl (by kernel_rfl) (by kernel_rfl) (cOldG S 0 iC_len_u64 hA0 gA rfl 0 hak rfl) (⟨(), rfl, (SameB.refl _ _ rfl), S⟩)
           refine ⟨?_, ?_⟩
           ·
            refine ⟨_, rfl, rfl, by kernel_rfl, ?_⟩
            rintro D ⟨⟩ a z S F
            refine ⟨by kernel_rfl, ?_⟩
            exact op_pure F (v0 := .bool ((av : Int) == (0 : Int))) (v := .bool true) (by kernel_rfl) (eqlT ht43) ⟨(), rfl, (SameB.refl _ _ rfl), S⟩
           trivial
          ·
           rintro ⟨⟩ a z F S
           have F := F.sub (l := [(0, .pointer (some ⟨b, 0, none⟩)), (1, .int .u64 cid), (2, .int .i64 (qa : Nat)), (3, .slice Ar E.length cr), (4, .slice As A.length cs), (11, .slice Alg Lg.length clg), (12, .int .i64 0), (13, .int .i64 (k : Nat)), (14, .int .i64 1), (78, .bool true)]) ⟨by kernel_rfl, by kernel_rfl, by kernel_rfl, by kernel_rfl, by kernel_rfl, by kernel_rfl, by kernel_rfl, by kernel_rfl, by kernel_rfl, by kernel_rfl, trivial⟩
           have S : Sat w z [rest w G, box b 74 [.slice Ah I.has.length ch, .slice Ae I.ends.length ce, .slice Af I.free.length cf, .slice Al qs.length cl], rUl Ah ch I.has, rEl Ae ce I.ends, rF Af I.free.length cf Fq, rPl Al cl qs, bag (qs.flatMap legRows), rLl Alg clg Lg] := S
           refine then_n ?_
           refine c_t F rfl ?_
           refine s_reg ?_
           refine l_pure 1 (fun L => (12, .int .i64 1) :: L) F (by kernel_rfl) fun a F => ?_
           refine l_then ?_
           refine wp_exit ?_
           refine then_x ?_
           refine inb_xo (by kernel_rfl) ?_
           refine then_x ?_
           refine then_x ?_
           refine inb_x ?_
           refine then_n ?_
           exact hcut20 _ _ ⟨1, Fq, Lg, Alg, clg, (by rw [hbf, beg_amt hek hak hsd (.inl ht43)]; unfold comb; rw [List.append_nil]), F.sub ⟨by kernel_rfl, by kernel_rfl, by kernel_rfl, by kernel_rfl, trivial⟩, S⟩
         ·
          skip
          by_cases ht44 : (0 : Int) < ((k : Nat) : Int)
          ·
           skip
           obtain ⟨ap, hap⟩ : ∃ ap, A[k - 1]? = some ap := ⟨_, List.getElem?_eq_getElem (by omega)⟩
           by_cases ht45 : (ap : Int) < (av : Int)
           ·
            skip
            refine region_gx (fun D => fun (_ : Unit) => [rest w G, box b 74 [.slice Ah I.has.length ch, .slice Ae I.ends.length ce, .slice Af I.free.length cf, .slice Al qs.length cl], rUl Ah ch I.has, rEl Ae ce I.ends, rF Af I.free.length cf Fq, rPl Al cl qs, bag (qs.flatMap legRows), rLl Alg clg Lg]) (fun (_ : Unit) => [.slice As A.length cs, .int .i64 (k : Nat), ptrA As (k * 1), .int .u64 av, .bool false, .bool false, .int .i64 (k : Nat), .bool true, .bool true, .slice As A.length cs, .int .i64 (k : Nat), ptrA As (k * 1), .int .u64 av, .slice As A.length cs, .int .i64 (k : Nat), .int .i64 (k - 1 : Nat), ptrA As ((k - 1) * 1), .int .u64 ap, .bool true, .bool true, .bool true]) [(2, [], [3, 4, 7, 11, 12, 15, 16, 17, 18]), (3, [2], [4, 7, 11, 12, 15, 16, 17, 18]), (4, [2, 3], [7, 11, 12, 15, 16, 17, 18]), (7, [2, 3, 4], [11, 12, 15, 16, 17, 18]), (11, [2, 3, 4, 7], [12, 18]), (12, [2, 3, 4, 7, 11], [18]), (15, [2, 3, 4, 7], [16, 17, 18]), (16, [2, 3, 4, 7, 15], [17, 18]), (17, [2, 3, 4, 7, 15, 16], [18]), (18, [2, 3, 4, 7, 11, 12, 15, 16, 17], [])] () rfl (by kernel_rfl) (by kernel_rfl) F S.drew ?_ ?_ ?_ ?_ ?_
            · rintro ⟨⟩; rfl
            · rintro ⟨⟩; kernel_rfl
            ·
             intro D D' x h
             cases x
             rfl
            ·
             refine ⟨?_, ?_⟩
             ·
              refine ⟨_, rfl, rfl, by kernel_rfl, ?_⟩
              rintro D ⟨⟩ a z S F
              refine ⟨by kernel_rfl, ?_⟩
              exact op_index _ 23 _ _ As A.length cs k 1 .i64 F rfl (by kernel_rfl) (by kernel_rfl) (by kernel_rfl) (by kernel_rfl) (get_lt hak) (recs_some hA0 (m := k) (get_lt hak)) (⟨(), rfl, (SameB.refl _ _ rfl), S⟩)
             refine ⟨?_, ?_⟩
             ·
              refine ⟨_, rfl, rfl, by kernel_rfl, ?_⟩
              rintro D ⟨⟩ a z S F
              refine ⟨by kernel_rfl, ?_⟩
              exact op_load _ _ As (k * 1) (.int .u64 av) F rfl (by kernel_rfl) (by kernel_rfl) (cOldG S 0 iC_len_u64 hA0 gA rfl 0 hak rfl) (⟨(), rfl, (SameB.refl _ _ rfl), S⟩)
             refine ⟨?_, ?_⟩
             ·
              refine ⟨_, rfl, rfl, by kernel_rfl, ?_⟩
              rintro D ⟨⟩ a z S F
              refine ⟨by kernel_rfl, ?_⟩
              exact op_pure F (v0 := .bool ((av : Int) == (0 : Int))) (v := .bool false) (by kernel_rfl) (eqlF ht43) ⟨(), rfl, (SameB.refl _ _ rfl), S⟩
             refine ⟨?_, ?_⟩
             ·
              refine ⟨_, rfl, rfl, by kernel_rfl, ?_⟩
              rintro D ⟨⟩ a z S F
              refine ⟨by kernel_rfl, ?_⟩
              exact op_pure F (v0 := .bool (decide (((k : Nat) : Int) > (0 : Int)))) (v := .bool true) (by kernel_rfl) (gtrT ht44) ⟨(), rfl, (SameB.refl _ _ rfl), S⟩
             refine ⟨?_, ?_⟩
             ·
              refine ⟨_, rfl, rfl, by kernel_rfl, ?_⟩
              rintro D ⟨⟩ a z S F
              refine ⟨by kernel_rfl, ?_⟩
              exact op_index _ 23 _ _ As A.length cs k 1 .i64 F rfl (by kernel_rfl) (by kernel_rfl) (by kernel_rfl) (by kernel_rfl) (get_lt hak) (recs_some hA0 (m := k) (get_lt hak)) (⟨(), rfl, (SameB.refl _ _ rfl), S⟩)
             refine ⟨?_, ?_⟩
             ·
              refine ⟨_, rfl, rfl, by kernel_rfl, ?_⟩
              rintro D ⟨⟩ a z S F
              refine ⟨by kernel_rfl, ?_⟩
              exact op_load _ _ As (k * 1) (.int .u64 av) F rfl (by kernel_rfl) (by kernel_rfl) (cOldG S 0 iC_len_u64 hA0 gA rfl 0 hak rfl) (⟨(), rfl, (SameB.refl _ _ rfl), S⟩)
             refine ⟨?_, ?_⟩
             ·
              refine ⟨_, rfl, rfl, by kernel_rfl, ?_⟩
              rintro D ⟨⟩ a z S F
              refine ⟨by kernel_rfl, ?_⟩
              exact op_pure F (v0 := .int .i64 (IntKind.wrap .i64 ((k : Nat) - 1))) (v := .int .i64 (k - 1 : Nat)) (by kernel_rfl) (wrn_i64 (by omega) (by omega) (by omega)) ⟨(), rfl, (SameB.refl _ _ rfl), S⟩
             refine ⟨?_, ?_⟩
             ·
              refine ⟨_, rfl, rfl, by kernel_rfl, ?_⟩
              rintro D ⟨⟩ a z S F
              refine ⟨by kernel_rfl, ?_⟩
              exact op_index _ 23 _ _ As A.length cs (k - 1) 1 .i64 F rfl (by kernel_rfl) (by kernel_rfl) (by kernel_rfl) (by kernel_rfl) (get_lt hap) (recs_some hA0 (m := k - 1) (get_lt hap)) (⟨(), rfl, (SameB.refl _ _ rfl), S⟩)
             refine ⟨?_, ?_⟩
             ·
              refine ⟨_, rfl, rfl, by kernel_rfl, ?_⟩
              rintro D ⟨⟩ a z S F
              refine ⟨by kernel_rfl, ?_⟩
              exact op_load _ _ As ((k - 1) * 1) (.int .u64 ap) F rfl (by kernel_rfl) (by kernel_rfl) (cOldG S 0 iC_len_u64 hA0 gA rfl 0 hap rfl) (⟨(), rfl, (SameB.refl _ _ rfl), S⟩)
             refine ⟨?_, ?_⟩
             ·
              refine ⟨_, rfl, rfl, by kernel_rfl, ?_⟩
              rintro D ⟨⟩ a z S F
              refine ⟨by kernel_rfl, ?_⟩
              exact op_pure F (v0 := .bool (decide ((av : Int) > (ap : Int)))) (v := .bool true) (by kernel_rfl) (gtrT ht45) ⟨(), rfl, (SameB.refl _ _ rfl), S⟩
             trivial
            ·
             rintro ⟨⟩ a z F S
             have F := F.sub (l := [(0, .pointer (some ⟨b, 0, none⟩)), (1, .int .u64 cid), (2, .int .i64 (qa : Nat)), (3, .slice Ar E.length cr), (4, .slice As A.length cs), (11, .slice Alg Lg.length clg), (12, .int .i64 0), (13, .int .i64 (k : Nat)), (14, .int .i64 1), (78, .bool true)]) ⟨by kernel_rfl, by kernel_rfl, by kernel_rfl, by kernel_rfl, by kernel_rfl, by kernel_rfl, by kernel_rfl, by kernel_rfl, by kernel_rfl, by kernel_rfl, trivial⟩
             have S : Sat w z [rest w G, box b 74 [.slice Ah I.has.length ch, .slice Ae I.ends.length ce, .slice Af I.free.length cf, .slice Al qs.length cl], rUl Ah ch I.has, rEl Ae ce I.ends, rF Af I.free.length cf Fq, rPl Al cl qs, bag (qs.flatMap legRows), rLl Alg clg Lg] := S
             refine then_n ?_
             refine c_t F rfl ?_
             refine s_reg ?_
             refine l_pure 1 (fun L => (12, .int .i64 1) :: L) F (by kernel_rfl) fun a F => ?_
             refine l_then ?_
             refine wp_exit ?_
             refine then_x ?_
             refine inb_xo (by kernel_rfl) ?_
             refine then_x ?_
             refine then_x ?_
             refine inb_x ?_
             refine then_n ?_
             exact hcut20 _ _ ⟨1, Fq, Lg, Alg, clg, (by rw [hbf, beg_amt hek hak hsd (.inr (pv_yes (by omega) hap ht45))]; unfold comb; rw [List.append_nil]), F.sub ⟨by kernel_rfl, by kernel_rfl, by kernel_rfl, by kernel_rfl, trivial⟩, S⟩
           ·
            skip
            refine region_gx (fun D => fun (_ : Unit) => [rest w G, box b 74 [.slice Ah I.has.length ch, .slice Ae I.ends.length ce, .slice Af I.free.length cf, .slice Al qs.length cl], rUl Ah ch I.has, rEl Ae ce I.ends, rF Af I.free.length cf Fq, rPl Al cl qs, bag (qs.flatMap legRows), rLl Alg clg Lg]) (fun (_ : Unit) => [.slice As A.length cs, .int .i64 (k : Nat), ptrA As (k * 1), .int .u64 av, .bool false, .bool false, .int .i64 (k : Nat), .bool true, .bool true, .slice As A.length cs, .int .i64 (k : Nat), ptrA As (k * 1), .int .u64 av, .slice As A.length cs, .int .i64 (k : Nat), .int .i64 (k - 1 : Nat), ptrA As ((k - 1) * 1), .int .u64 ap, .bool false, .bool false, .bool false]) [(2, [], [3, 4, 7, 11, 12, 15, 16, 17, 18]), (3, [2], [4, 7, 11, 12, 15, 16, 17, 18]), (4, [2, 3], [7, 11, 12, 15, 16, 17, 18]), (7, [2, 3, 4], [11, 12, 15, 16, 17, 18]), (11, [2, 3, 4, 7], [12, 18]), (12, [2, 3, 4, 7, 11], [18]), (15, [2, 3, 4, 7], [16, 17, 18]), (16, [2, 3, 4, 7, 15], [17, 18]), (17, [2, 3, 4, 7, 15, 16], [18]), (18, [2, 3, 4, 7, 11, 12, 15, 16, 17], [])] () rfl (by kernel_rfl) (by kernel_rfl) F S.drew ?_ ?_ ?_ ?_ ?_
            · rintro ⟨⟩; rfl
            · rintro ⟨⟩; kernel_rfl
            ·
             intro D D' x h
             cases x
             rfl
            ·
             refine ⟨?_, ?_⟩
             ·
              refine ⟨_, rfl, rfl, by kernel_rfl, ?_⟩
              rintro D ⟨⟩ a z S F
              refine ⟨by kernel_rfl, ?_⟩
              exact op_index _ 23 _ _ As A.length cs k 1 .i64 F rfl (by kernel_rfl) (by kernel_rfl) (by kernel_rfl) (by kernel_rfl) (get_lt hak) (recs_some hA0 (m := k) (get_lt hak)) (⟨(), rfl, (SameB.refl _ _ rfl), S⟩)
             refine ⟨?_, ?_⟩
             ·
              refine ⟨_, rfl, rfl, by kernel_rfl, ?_⟩
              rintro D ⟨⟩ a z S F
              refine ⟨by kernel_rfl, ?_⟩
              exact op_load _ _ As (k * 1) (.int .u64 av) F rfl (by kernel_rfl) (by kernel_rfl) (cOldG S 0 iC_len_u64 hA0 gA rfl 0 hak rfl) (⟨(), rfl, (SameB.refl _ _ rfl), S⟩)
             refine ⟨?_, ?_⟩
             ·
              refine ⟨_, rfl, rfl, by kernel_rfl, ?_⟩
              rintro D ⟨⟩ a z S F
              refine ⟨by kernel_rfl, ?_⟩
              exact op_pure F (v0 := .bool ((av : Int) == (0 : Int))) (v := .bool false) (by kernel_rfl) (eqlF ht43) ⟨(), rfl, (SameB.refl _ _ rfl), S⟩
             refine ⟨?_, ?_⟩
             ·
              refine ⟨_, rfl, rfl, by kernel_rfl, ?_⟩
              rintro D ⟨⟩ a z S F
              refine ⟨by kernel_rfl, ?_⟩
              exact op_pure F (v0 := .bool (decide (((k : Nat) : Int) > (0 : Int)))) (v := .bool true) (by kernel_rfl) (gtrT ht44) ⟨(), rfl, (SameB.refl _ _ rfl), S⟩
             refine ⟨?_, ?_⟩
             ·
              refine ⟨_, rfl, rfl, by kernel_rfl, ?_⟩
              rintro D ⟨⟩ a z S F
              refine ⟨by kernel_rfl, ?_⟩
              exact op_index _ 23 _ _ As A.length cs k 1 .i64 F rfl (by kernel_rfl) (by kernel_rfl) (by kernel_rfl) (by kernel_rfl) (get_lt hak) (recs_some hA0 (m := k) (get_lt hak)) (⟨(), rfl, (SameB.refl _ _ rfl), S⟩)
             refine ⟨?_, ?_⟩
             ·
              refine ⟨_, rfl, rfl, by kernel_rfl, ?_⟩
              rintro D ⟨⟩ a z S F
              refine ⟨by kernel_rfl, ?_⟩
              exact op_load _ _ As (k * 1) (.int .u64 av) F rfl (by kernel_rfl) (by kernel_rfl) (cOldG S 0 iC_len_u64 hA0 gA rfl 0 hak rfl) (⟨(), rfl, (SameB.refl _ _ rfl), S⟩)
             refine ⟨?_, ?_⟩
             ·
              refine ⟨_, rfl, rfl, by kernel_rfl, ?_⟩
              rintro D ⟨⟩ a z S F
              refine ⟨by kernel_rfl, ?_⟩
              exact op_pure F (v0 := .int .i64 (IntKind.wrap .i64 ((k : Nat) - 1))) (v := .int .i64 (k - 1 : Nat)) (by kernel_rfl) (wrn_i64 (by omega) (by omega) (by omega)) ⟨(), rfl, (SameB.refl _ _ rfl), S⟩
             refine ⟨?_, ?_⟩
             ·
              refine ⟨_, rfl, rfl, by kernel_rfl, ?_⟩
              rintro D ⟨⟩ a z S F
              refine ⟨by kernel_rfl, ?_⟩
              exact op_index _ 23 _ _ As A.length cs (k - 1) 1 .i64 F rfl (by kernel_rfl) (by kernel_rfl) (by kernel_rfl) (by kernel_rfl) (get_lt hap) (recs_some hA0 (m := k - 1) (get_lt hap)) (⟨(), rfl, (SameB.refl _ _ rfl), S⟩)
             refine ⟨?_, ?_⟩
             ·
              refine ⟨_, rfl, rfl, by kernel_rfl, ?_⟩
              rintro D ⟨⟩ a z S F
              refine ⟨by kernel_rfl, ?_⟩
              exact op_load _ _ As ((k - 1) * 1) (.int .u64 ap) F rfl (by kernel_rfl) (by kernel_rfl) (cOldG S 0 iC_len_u64 hA0 gA rfl 0 hap rfl) (⟨(), rfl, (SameB.refl _ _ rfl), S⟩)
             refine ⟨?_, ?_⟩
             ·
              refine ⟨_, rfl, rfl, by kernel_rfl, ?_⟩
              rintro D ⟨⟩ a z S F
              refine ⟨by kernel_rfl, ?_⟩
              exact op_pure F (v0 := .bool (decide ((av : Int) > (ap : Int)))) (v := .bool false) (by kernel_rfl) (gtrF ht45) ⟨(), rfl, (SameB.refl _ _ rfl), S⟩
             trivial
            ·
             rintro ⟨⟩ a z F S
             have F := F.sub (l := [(0, .pointer (some ⟨b, 0, none⟩)), (1, .int .u64 cid), (2, .int .i64 (qa : Nat)), (3, .slice Ar E.length cr), (4, .slice As A.length cs), (11, .slice Alg Lg.length clg), (12, .int .i64 0), (13, .int .i64 (k : Nat)), (14, .int .i64 1), (78, .bool false)]) ⟨by kernel_rfl, by kernel_rfl, by kernel_rfl, by kernel_rfl, by kernel_rfl, by kernel_rfl, by kernel_rfl, by kernel_rfl, by kernel_rfl, by kernel_rfl, trivial⟩
             have S : Sat w z [rest w G, box b 74 [.slice Ah I.has.length ch, .slice Ae I.ends.length ce, .slice Af I.free.length cf, .slice Al qs.length cl], rUl Ah ch I.has, rEl Ae ce I.ends, rF Af I.free.length cf Fq, rPl Al cl qs, bag (qs.flatMap legRows), rLl Alg clg Lg] := S
             refine then_n ?_
             refine c_f F rfl ?_
             refine wp_skip ?_
             refine then_n ?_
             exact hcut15 _ _ ⟨(fun h9 => h9.elim ht43 (pv_no (.inr ⟨_, hap, ht45⟩))), F.sub ⟨by kernel_rfl, by kernel_rfl, by kernel_rfl, by kernel_rfl, by kernel_rfl, by kernel_rfl, by kernel_rfl, by kernel_rfl, by kernel_rfl, trivial⟩, S⟩
          ·
           skip
           refine region_gx (fun D => fun (_ : Unit) => [rest w G, box b 74 [.slice Ah I.has.length ch, .slice Ae I.ends.length ce, .slice Af I.free.length cf, .slice Al qs.length cl], rUl Ah ch I.has, rEl Ae ce I.ends, rF Af I.free.length cf Fq, rPl Al cl qs, bag (qs.flatMap legRows), rLl Alg clg Lg]) (fun (_ : Unit) => [.slice As A.length cs, .int .i64 (k : Nat), ptrA As (k * 1), .int .u64 av, .bool false, .bool false, .int .i64 (k : Nat), .bool false, .bool false, undef, undef, undef, undef, undef, undef, undef, undef, undef, undef, .bool false, .bool false]) [(2, [], [3, 4, 7]), (3, [2], [4, 7]), (4, [2, 3], [7]), (7, [2, 3, 4], [])] () rfl (by kernel_rfl) (by kernel_rfl) F S.drew ?_ ?_ ?_ ?_ ?_
           · rintro ⟨⟩; rfl
           · rintro ⟨⟩; kernel_rfl
           ·
            intro D D' x h
            cases x
            rfl
           ·
            refine ⟨?_, ?_⟩
            ·
             refine ⟨_, rfl, rfl, by kernel_rfl, ?_⟩
             rintro D ⟨⟩ a z S F
             refine ⟨by kernel_rfl, ?_⟩
             exact op_index _ 23 _ _ As A.length cs k 1 .i64 F rfl (by kernel_rfl) (by kernel_rfl) (by kernel_rfl) (by kernel_rfl) (get_lt hak) (recs_some hA0 (m := k) (get_lt hak)) (⟨(), rfl, (SameB.refl _ _ rfl), S⟩)
            refine ⟨?_, ?_⟩
            ·
             refine ⟨_, rfl, rfl, by kernel_rfl, ?_⟩
             rintro D ⟨⟩ a z S F
             refine ⟨by kernel_rfl, ?_⟩
             exact op_load _ _ As (k * 1) (.int .u64 av) F rfl (by kernel_rfl) (by kernel_rfl) (cOldG S 0 iC_len_u64 hA0 gA rfl 0 hak rfl) (⟨(), rfl, (SameB.refl _ _ rfl), S⟩)
            refine ⟨?_, ?_⟩
            ·
             refine ⟨_, rfl, rfl, by kernel_rfl, ?_⟩
             rintro D ⟨⟩ a z S F
             refine ⟨by kernel_rfl, ?_⟩
             exact op_pure F (v0 := .bool ((av : Int) == (0 : Int))) (v := .bool false) (by kernel_rfl) (eqlF ht43) ⟨(), rfl, (SameB.refl _ _ rfl), S⟩
            refine ⟨?_, ?_⟩
            ·
             refine ⟨_, rfl, rfl, by kernel_rfl, ?_⟩
             rintro D ⟨⟩ a z S F
             refine ⟨by kernel_rfl, ?_⟩
             exact op_pure F (v0 := .bool (decide (((k : Nat) : Int) > (0 : Int)))) (v := .bool false) (by kernel_rfl) (gtrF ht44) ⟨(), rfl, (SameB.refl _ _ rfl), S⟩
            trivial
           ·
            rintro ⟨⟩ a z F S
            have F := F.sub (l := [(0, .pointer (some ⟨b, 0, none⟩)), (1, .int .u64 cid), (2, .int .i64 (qa : Nat)), (3, .slice Ar E.length cr), (4, .slice As A.length cs), (11, .slice Alg Lg.length clg), (12, .int .i64 0), (13, .int .i64 (k : Nat)), (14, .int .i64 1), (78, .bool false)]) ⟨by kernel_rfl, by kernel_rfl, by kernel_rfl, by kernel_rfl, by kernel_rfl, by kernel_rfl, by kernel_rfl, by kernel_rfl, by kernel_rfl, by kernel_rfl, trivial⟩
            have S : Sat w z [rest w G, box b 74 [.slice Ah I.has.length ch, .slice Ae I.ends.length ce, .slice Af I.free.length cf, .slice Al qs.length cl], rUl Ah ch I.has, rEl Ae ce I.ends, rF Af I.free.length cf Fq, rPl Al cl qs, bag (qs.flatMap legRows), rLl Alg clg Lg] := S
            refine then_n ?_
            refine c_f F rfl ?_
            refine wp_skip ?_
            refine then_n ?_
            exact hcut15 _ _ ⟨(fun h9 => h9.elim ht43 (pv_no (.inl (by omega)))), F.sub ⟨by kernel_rfl, by kernel_rfl, by kernel_rfl, by kernel_rfl, by kernel_rfl, by kernel_rfl, by kernel_rfl, by kernel_rfl, by kernel_rfl, trivial⟩, S⟩
       ·
        skip
        obtain ⟨hpl, hql, hpq9⟩ := ok.en _ (List.mem_of_getElem? he)
        dsimp only at hpl hql hpq9
        have hnn := (List.getElem?_eq_some_iff.1 he).1
        obtain ⟨xg, hxg⟩ : ∃ xg, Fq[nn]? = some xg := ⟨_, List.getElem?_eq_getElem (by omega)⟩
        have hxn := hFn _ (List.mem_of_getElem? hxg)
        have hxs := sumF_one hFn hxg
        obtain ⟨G9, g9, hin9, hlt9, k9⟩ := S.frameB [1, 3] (by decide) rfl
        refine l_do F rfl rfl (op_fn F (by kernel_rfl) (rside24_at hsd _ G9 b Ah I.has.length ch Ae ce Af I.free.length cf Al qs.length cl g9) ?_)
        rintro e z9 ⟨rfl, g⟩
        have S : Sat w z9 [rest w G, box b 74 [.slice Ah I.has.length ch, .slice Ae I.ends.length ce, .slice Af I.free.length cf, .slice Al qs.length cl], rUl Ah ch I.has, rEl Ae ce I.ends, rF Af I.free.length cf Fq, rPl Al cl qs, bag (qs.flatMap legRows), rLl Alg clg Lg] := k9 z9 [box b 74 [.slice Ah I.has.length ch, .slice Ae I.ends.length ce, .slice Af I.free.length cf, .slice Al qs.length cl], rEl Ae ce I.ends] rfl g
        clear g g9 k9 hin9 hlt9
        refine ⟨_, rfl, ?_⟩
        intro a F
        refine l_pure 5 (fun L => (12, .int .i64 1) :: (14, .int .i64 0) :: (55, .int .i64 1) :: (54, .int .i64 0) :: (46, .tuple #[.int .i64 0, .int .i64 1]) :: L) F (by kernel_rfl) fun a F => ?_
        refine l_then ?_
        refine wp_seq ?_
        refine s_reg ?_
        refine l_pure 2 (fun L => (57, .bool true) :: (56, .int .i64 1) :: L) F (by kernel_rfl) fun a F => ?_
        refine l_then ?_
        refine c_t F rfl ?_
        refine wp_exit ?_
        refine then_x ?_
        refine inb_xo (by kernel_rfl) ?_
        refine then_x ?_
        refine then_x ?_
        refine inb_x ?_
        refine then_n ?_
        exact hcut20 _ _ ⟨1, Fq, Lg, Alg, clg, (by rw [hbf, beg_side hek hak hsd (by decide)]; unfold comb; rw [List.append_nil]), F.sub ⟨by kernel_rfl, by kernel_rfl, by kernel_rfl, by kernel_rfl, trivial⟩, S⟩
      ·
       skip
       have hk : k = E.length := by omega
       refine l_do F rfl rfl (op_pure F (v0 := .bool (decide (((k : Nat) : Int) < ((E.length : Nat) : Int)))) (v := .bool false) (by kernel_rfl) (lssF ht23) fun a F => ?_)
       refine l_pure 4 (fun L => (43, .bool false) :: (42, undef) :: (41, undef) :: (40, .bool false) :: L) F (by kernel_rfl) fun a F => ?_
       refine l_then ?_
       refine c_f F rfl ?_
       refine wp_exit ?_
       refine then_x ?_
       refine then_x ?_
       refine inb_x ?_
       refine then_n ?_
       exact hcut20 _ _ ⟨0, Fq, Lg, Alg, clg, (by rw [hbf, hk, List.drop_length]; exact beg_done), F.sub ⟨by kernel_rfl, by kernel_rfl, by kernel_rfl, by kernel_rfl, trivial⟩, S⟩
    ·
     skip
     have hfn := hf
     obtain ⟨G9, g9, hin9, hlt9, k9⟩ := S.frameB [1, 5] (by decide) rfl
     refine l_do F rfl rfl (op_fn F (by kernel_rfl) (rfind24_at hqs hv _ G9 b Ah I.has.length ch Ae I.ends.length ce Af I.free.length cf Al cl (by omega) g9) ?_)
     rintro e z9 ⟨rfl, g⟩
     have S : Sat w z9 [rest w G, box b 74 [.slice Ah I.has.length ch, .slice Ae I.ends.length ce, .slice Af I.free.length cf, .slice Al qs.length cl], rUl Ah ch I.has, rEl Ae ce I.ends, rFl Af cf I.free, rPl Al cl qs, bag (qs.flatMap legRows)] := k9 z9 [box b 74 [.slice Ah I.has.length ch, .slice Ae I.ends.length ce, .slice Af I.free.length cf, .slice Al qs.length cl], rPl Al cl qs] rfl g
     clear g g9 k9 hin9 hlt9
     refine ⟨_, rfl, ?_⟩
     intro a F
     refine l_do F rfl rfl (op_pure F (v0 := .bool (decide (((iq : Nat) : Int) ≥ (0 : Int)))) (v := .bool true) (by kernel_rfl) (geqT (by omega)) fun a F => ?_)
     refine l_then ?_
     refine c_t F rfl ?_
     refine s_reg ?_
     refine l_pure 1 (fun L => (10, .int .i64 7) :: L) F (by kernel_rfl) fun a F => ?_
     refine l_then ?_
     refine wp_ret ?_
     refine then_r (?_)
     exact fin F [.tmp 10] [.int .i64 7] rfl ⟨by kernel_rfl, trivial⟩ (.int .i64 7) rfl ⟨by rw [beg_twice (by omega) (by rw [hfn]; simp)], by rw [beg_twice (by omega) (by rw [hfn]; simp)]; exact (ref_shut hqs (by simp) (by simp) (by simp) (by simp) (S.pick [0, 1, 2, 3, 4, 5, 6] (by decide)))⟩
 ·
  skip
  refine l_do F rfl rfl (op_pure F (v0 := .bool (((E.length : Nat) : Int) != ((A.length : Nat) : Int))) (v := .bool true) (by kernel_rfl) (neqT ht1) fun a F => ?_)
  refine l_pure 10 (fun L => (31, .bool true) :: (30, undef) :: (29, undef) :: (28, undef) :: (27, .bool true) :: (26, .bool true) :: (25, undef) :: (24, undef) :: (23, undef) :: (22, .bool true) :: L) F (by kernel_rfl) fun a F => ?_
  refine l_then ?_
  refine c_t F rfl ?_
  refine s_reg ?_
  refine l_pure 1 (fun L => (10, .int .i64 1) :: L) F (by kernel_rfl) fun a F => ?_
  refine l_then ?_
  refine wp_ret ?_
  refine then_r (?_)
  exact fin F [.tmp 10] [.int .i64 1] rfl ⟨by kernel_rfl, trivial⟩ (.int .i64 1) rfl ⟨by rw [beg_arg (by omega)], by rw [beg_arg (by omega)]; exact (ref_shut hqs (by simp) (by simp) (by simp) (by simp) (S.pick [0, 1, 2, 3, 4, 5, 6] (by decide)))⟩
end Go.Proofs.Ytecgpkjigbhneaa
