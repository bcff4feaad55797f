/- Walks: is an ideal the document's; the law's example. -/
import Derived.Test.YtecgpkjigbhneaaIdlX
import Derived.Test.YtecgpkjigbhneaaIdl2
import Derived.Test.YtecgpkjigbhneaaIdl4
import Derived.Test.YtecgpkjigbhneaaIdl5
import Derived.Test.YtecgpkjigbhneaaIdl6
import Derived.Test.YtecgpkjigbhneaaIdlW
namespace Go.Proofs.Ytecgpkjigbhneaa
set_option linter.unusedVariables false
set_option linter.unusedSimpArgs false
set_option linter.unnecessarySimpa false
open Go Go.RowKit

theorem state24_at {I : Idl} {cid s : Int} {b0 : Bool} (h : stateP I cid = (s, b0)) (w : World) (G : Nat → Prop) (b : Nat) (hS : Sat w w [idA b I, rest w G]) : Calls Try.prog 20 #[.pointer (some ⟨b, 0, none⟩), .int .u64 cid] w fun e w' => e = .returned (.tuple #[.int .i64 s, .bool b0]) ∧ Sat w w' [idA b I, rest w G] := by
  have h1 := state24_any w G b I hS cid
  rw [h] at h1
  exact h1
set_option maxRecDepth 100000 in
set_option maxHeartbeats 4000000 in
theorem is24_any (w : World) (G : Nat → Prop) (bx bm : Nat) (I : Idl) (ok : IOk I) (hpn : I.pays.length ≤ 900) (hS : Sat w w [idA bx I, refA bm I, rest w G]) : Calls Try.prog 19 #[.pointer (some ⟨bx, 0, none⟩), .pointer (some ⟨bm, 0, none⟩)] w fun e w' => e = .returned (.bool true) ∧ Sat w w' [idA bx I, refA bm I, rest w G] := by
 refine enter 95 Try.func19 rfl rfl rfl fun a F => ?_
 have S : Sat w w ([rest w G, idA bx I] ++ [refA bm I]) := hS.pick [2, 0, 1] (by decide)
 obtain ⟨⟨Ah, ch, Ae, ce, Af, cf, Al, cl, qs⟩, hqs, S⟩ := Sat.openTold (p := fun m : RefM => m.qs.map PayR.p = I.pays) (f := refThings bm I) [rest w G, idA bx I] S
 dsimp only at hqs
 have S : Sat w w [rest w G, idA bx I, box bm 74 [.slice Ah I.has.length ch, .slice Ae I.ends.length ce, .slice Af I.free.length cf, .slice Al qs.length cl], rUl Ah ch I.has, rEl Ae ce I.ends, rFl Af cf I.free, rPl Al cl qs, bag (qs.flatMap legRows)] := S
 have hhl := ok.hl
 have hel := ok.el
 have hql := qs_len hqs
 refine s_reg ?_
 refine l_pure 1 (fun L => (4, .bool false) :: L) F (by kernel_rfl) fun a F => ?_
 refine l_then ?_
 refine wp_seq ?_
 refine s_reg ?_
 refine l_pure 3 (fun L => (16, .pointer (some ⟨bm, 0, none⟩)) :: (15, .pointer (some ⟨bm, 0, none⟩)) :: (14, .pointer (some ⟨bm, 0, none⟩)) :: L) F (by kernel_rfl) fun a F => ?_
 refine l_do F rfl rfl (op_load _ _ (some ⟨bm, 0, none⟩) 0 (.slice Ah I.has.length ch) F rfl (by kernel_rfl) (by kernel_rfl) (cBox S 2 rfl (j := 0) rfl) (fun a F => ?_))
 refine l_pure 2 (fun L => (19, .int .i64 0) :: (18, .int .i64 (I.has.length : Nat)) :: L) F (by kernel_rfl) fun a F => ?_
 refine l_then ?_
 refine wp_block ?_
 refine wp_loop_m (fun m a z => ∃ (i : Nat), m = I.has.length - i ∧ (i ≤ I.has.length) ∧ Fr a 95 [(0, .pointer (some ⟨bx, 0, none⟩)), (1, .pointer (some ⟨bm, 0, none⟩)), (18, .int .i64 (I.has.length : Nat)), (19, .int .i64 (i : Nat))] ∧ Sat w z [rest w G, idA bx I, box bm 74 [.slice Ah I.has.length ch, .slice Ae I.ends.length ce, .slice Af I.free.length cf, .slice Al qs.length cl], rUl Ah ch I.has, rEl Ae ce I.ends, rFl Af cf I.free, rPl Al cl qs, bag (qs.flatMap legRows)]) _ ⟨0, rfl, Nat.zero_le _, F.sub ⟨by kernel_rfl, by kernel_rfl, by kernel_rfl, by kernel_rfl, trivial⟩, S⟩ ?_
 rintro m a z ⟨i, hm, hf1, F, S⟩
 refine s_reg ?_
 by_cases ht2 : ((i : Nat) : Int) < ((I.has.length : Nat) : Int)
 ·
  skip
  obtain ⟨xa, hxa⟩ : ∃ xa, I.has[i]? = some xa := ⟨_, List.getElem?_eq_getElem (by omega)⟩
  refine l_do F rfl rfl (op_pure F (v0 := .bool (decide (((i : Nat) : Int) < ((I.has.length : Nat) : Int)))) (v := .bool true) (by kernel_rfl) (lssT ht2) fun a F => ?_)
  refine l_then ?_
  refine wp_seq ?_
  refine c_t F rfl ?_
  refine wp_skip ?_
  refine then_n ?_
  refine wp_seq ?_
  refine wp_block ?_
  refine s_reg ?_
  refine l_pure 2 (fun L => (5, .int .i64 (i : Nat)) :: (21, .int .i64 (i : Nat)) :: L) F (by kernel_rfl) fun a F => ?_
  refine l_then ?_
  refine wp_seq ?_
  refine region_gx (fun D => fun (_ : Unit) => [rest w G, idA bx I, box bm 74 [.slice Ah I.has.length ch, .slice Ae I.ends.length ce, .slice Af I.free.length cf, .slice Al qs.length cl], rUl Ah ch I.has, rEl Ae ce I.ends, rFl Af cf I.free, rPl Al cl qs, bag (qs.flatMap legRows)]) (fun (_ : Unit) => [.pointer (some ⟨bx, 0, none⟩), .int .i64 (i : Nat), .int .u64 (hasP I (i : Nat)), .pointer (some ⟨bm, 0, none⟩), .pointer (some ⟨bm, 0, none⟩), .pointer (some ⟨bm, 0, none⟩), .slice Ah I.has.length ch, .int .i64 (i : Nat), ptrA Ah (i * 1), .int .u64 xa, .bool false]) [(2, [], [10]), (6, [], [8, 9, 10]), (8, [6], [9, 10]), (9, [6, 8], [10]), (10, [2, 6, 8, 9], [])] () rfl (by kernel_rfl) (by kernel_rfl) F S.drew ?_ ?_ ?_ ?_ ?_
  · rintro ⟨⟩; rfl
  · rintro ⟨⟩; kernel_rfl
  ·
   intro D D' x h
   cases x
   rfl
  ·
   refine ⟨?_, ?_⟩
   ·
    refine ⟨_, rfl, rfl, by kernel_rfl, ?_⟩
    rintro D ⟨⟩ a z S F
    refine ⟨by kernel_rfl, ?_⟩
    have S : Sat w z [rest w G, idA bx I, box bm 74 [.slice Ah I.has.length ch, .slice Ae I.ends.length ce, .slice Af I.free.length cf, .slice Al qs.length cl], rUl Ah ch I.has, rEl Ae ce I.ends, rFl Af cf I.free, rPl Al cl qs, bag (qs.flatMap legRows)] := S
    obtain ⟨G9, g9, hin9, hlt9, k9⟩ := S.frameB [1] (by decide) rfl
    refine op_fn F (by kernel_rfl) (has24_any _ G9 bx I g9 (i : Nat)) ?_
    rintro e z9 ⟨rfl, g⟩
    have S : Sat w z9 [rest w G, idA bx I, box bm 74 [.slice Ah I.has.length ch, .slice Ae I.ends.length ce, .slice Af I.free.length cf, .slice Al qs.length cl], rUl Ah ch I.has, rEl Ae ce I.ends, rFl Af cf I.free, rPl Al cl qs, bag (qs.flatMap legRows)] := k9 z9 [idA bx I] rfl g
    clear g g9 k9 hin9 hlt9
    exact ⟨_, rfl, (), rfl, (SameB.refl _ _ rfl), S⟩
   refine ⟨?_, ?_⟩
   ·
    refine ⟨_, rfl, rfl, by kernel_rfl, ?_⟩
    rintro D ⟨⟩ a z S F
    refine ⟨by kernel_rfl, ?_⟩
    exact op_load _ _ (some ⟨bm, 0, none⟩) 0 (.slice Ah I.has.length ch) F rfl (by kernel_rfl) (by kernel_rfl) (cBox S 2 rfl (j := 0) rfl) (⟨(), rfl, (SameB.refl _ _ rfl), S⟩)
   refine ⟨?_, ?_⟩
   ·
    refine ⟨_, rfl, rfl, by kernel_rfl, ?_⟩
    rintro D ⟨⟩ a z S F
    refine ⟨by kernel_rfl, ?_⟩
    exact op_index _ 23 _ _ Ah I.has.length ch i 1 .i64 F rfl (by kernel_rfl) (by kernel_rfl) (by kernel_rfl) (by kernel_rfl) (get_lt hxa) (row_some S 3 rfl (m := i) (get_lt hxa)) (⟨(), rfl, (SameB.refl _ _ rfl), S⟩)
   refine ⟨?_, ?_⟩
   ·
    refine ⟨_, rfl, rfl, by kernel_rfl, ?_⟩
    rintro D ⟨⟩ a z S F
    refine ⟨by kernel_rfl, ?_⟩
    exact op_load _ _ Ah (i * 1) (.int .u64 xa) F rfl (by kernel_rfl) (by kernel_rfl) (cRec S 3 iC_len_u64 rfl 0 hxa rfl) (⟨(), rfl, (SameB.refl _ _ rfl), S⟩)
   refine ⟨?_, ?_⟩
   ·
    refine ⟨_, rfl, rfl, by kernel_rfl, ?_⟩
    rintro D ⟨⟩ a z S F
    refine ⟨by kernel_rfl, ?_⟩
    exact op_pure F (v0 := .bool ((hasP I (i : Nat) : Int) != (xa : Int))) (v := .bool false) (by kernel_rfl) (neqF (has_is hxa)) ⟨(), rfl, (SameB.refl _ _ rfl), S⟩
   trivial
  ·
   rintro ⟨⟩ a z F S
   have F := F.sub (l := [(0, .pointer (some ⟨bx, 0, none⟩)), (1, .pointer (some ⟨bm, 0, none⟩)), (18, .int .i64 (I.has.length : Nat)), (19, .int .i64 (i : Nat)), (32, .bool false)]) ⟨by kernel_rfl, by kernel_rfl, by kernel_rfl, by kernel_rfl, by kernel_rfl, trivial⟩
   have S : Sat w z [rest w G, idA bx I, box bm 74 [.slice Ah I.has.length ch, .slice Ae I.ends.length ce, .slice Af I.free.length cf, .slice Al qs.length cl], rUl Ah ch I.has, rEl Ae ce I.ends, rFl Af cf I.free, rPl Al cl qs, bag (qs.flatMap legRows)] := S
   refine then_n ?_
   refine c_f F rfl ?_
   refine wp_skip ?_
   refine inb_n ?_
   refine then_n ?_
   refine wp_region_list ?_
   refine l_do F rfl rfl (op_pure F (v0 := .int .i64 (IntKind.wrap .i64 ((i : Nat) + 1))) (v := .int .i64 (i + 1 : Nat)) (by kernel_rfl) (wrn_i64 (by omega) (by omega) (by omega)) fun a F => ?_)
   refine l_pure 1 (fun L => (19, .int .i64 (i + 1 : Nat)) :: L) F (by kernel_rfl) fun a F => ?_
   refine l_then ?_
   exact ⟨_, (by omega), i + 1, rfl, (by omega), F.sub ⟨by kernel_rfl, by kernel_rfl, by kernel_rfl, by kernel_rfl, trivial⟩, S⟩
 ·
  skip
  refine l_do F rfl rfl (op_pure F (v0 := .bool (decide (((i : Nat) : Int) < ((I.has.length : Nat) : Int)))) (v := .bool false) (by kernel_rfl) (lssF ht2) fun a F => ?_)
  refine l_then ?_
  refine wp_seq ?_
  refine c_f F rfl ?_
  refine wp_exit ?_
  refine then_x ?_
  refine then_x ?_
  refine inb_x ?_
  refine then_n ?_
  refine wp_seq ?_
  refine s_reg ?_
  refine l_pure 3 (fun L => (36, .pointer (some ⟨bm, 1, none⟩)) :: (35, .pointer (some ⟨bm, 0, none⟩)) :: (34, .pointer (some ⟨bm, 0, none⟩)) :: L) F (by kernel_rfl) fun a F => ?_
  refine l_do F rfl rfl (op_load _ _ (some ⟨bm, 0, none⟩) 1 (.slice Ae I.ends.length ce) F rfl (by kernel_rfl) (by kernel_rfl) (cBox S 2 rfl (j := 1) rfl) (fun a F => ?_))
  refine l_pure 2 (fun L => (39, .int .i64 0) :: (38, .int .i64 (I.ends.length : Nat)) :: L) F (by kernel_rfl) fun a F => ?_
  refine l_then ?_
  refine wp_block ?_
  refine wp_loop_m (fun m a z => ∃ (j : Nat), m = I.ends.length - j ∧ (j ≤ I.ends.length) ∧ Fr a 95 [(0, .pointer (some ⟨bx, 0, none⟩)), (1, .pointer (some ⟨bm, 0, none⟩)), (37, .slice Ae I.ends.length ce), (38, .int .i64 (I.ends.length : Nat)), (39, .int .i64 (j : Nat))] ∧ Sat w z [rest w G, idA bx I, box bm 74 [.slice Ah I.has.length ch, .slice Ae I.ends.length ce, .slice Af I.free.length cf, .slice Al qs.length cl], rUl Ah ch I.has, rEl Ae ce I.ends, rFl Af cf I.free, rPl Al cl qs, bag (qs.flatMap legRows)]) _ ⟨0, rfl, Nat.zero_le _, F.sub ⟨by kernel_rfl, by kernel_rfl, by kernel_rfl, by kernel_rfl, by kernel_rfl, trivial⟩, S⟩ ?_
  rintro m a z ⟨j, hm, hf3, F, S⟩
  refine s_reg ?_
  by_cases ht4 : ((j : Nat) : Int) < ((I.ends.length : Nat) : Int)
  ·
   skip
   obtain ⟨pa, qa, he⟩ : ∃ pa qa, I.ends[j]? = some (pa, qa) := ⟨_, _, List.getElem?_eq_getElem (by omega)⟩
   obtain ⟨hpl, hql, hpq⟩ := ok.en _ (List.mem_of_getElem? he)
   dsimp only at hpl hql hpq
   have hfl := ok.fl
   obtain ⟨xf, hxf⟩ : ∃ xf, I.free[j]? = some xf := ⟨_, List.getElem?_eq_getElem (by omega)⟩
   refine l_do F rfl rfl (op_pure F (v0 := .bool (decide (((j : Nat) : Int) < ((I.ends.length : Nat) : Int)))) (v := .bool true) (by kernel_rfl) (lssT ht4) fun a F => ?_)
   refine l_then ?_
   refine wp_seq ?_
   refine c_t F rfl ?_
   refine wp_skip ?_
   refine then_n ?_
   refine wp_seq ?_
   refine wp_block ?_
   refine s_reg ?_
   refine l_pure 1 (fun L => (41, .int .i64 (j : Nat)) :: L) F (by kernel_rfl) fun a F => ?_
   refine l_do F rfl rfl (op_index _ 63 _ _ Ae I.ends.length ce j 2 .i64 F rfl (by kernel_rfl) (by kernel_rfl) (by kernel_rfl) (by kernel_rfl) (get_lt he) (row_some S 4 rfl (m := j) (get_lt he)) (fun a F => ?_))
   refine l_do F rfl rfl (op_loadK _ _ Ae (j * 2) [.int .i64 (pa : Nat), .int .i64 (qa : Nat)] F rfl (by kernel_rfl) (by kernel_rfl) (by kernel_rfl) (by simp) (cRecK0 S 4 enC_len rfl he (by kernel_rfl)) (fun a F => ?_))
   refine l_do F rfl rfl (op_alloc S _ (.agg #[.int .i64 0, .int .i64 0]) rfl (by kernel_rfl) fun b5 z S a F => ?_)
   refine l_pure 1 (fun L => (6, .int .i64 (j : Nat)) :: L) F (by kernel_rfl) fun a F => ?_
   refine l_do F rfl rfl (op_storeB S 8 _ _ _ b5 0 (.agg #[.int .i64 (pa : Nat), .int .i64 (qa : Nat)]) F rfl rfl (by kernel_rfl) (by kernel_rfl) (by kernel_rfl) (by kernel_rfl) (by kernel_rfl) fun z S a F => ?_)
   refine l_then ?_
   refine s_reg ?_
   refine l_do F rfl rfl (op_loadK _ _ (some ⟨b5, 0, none⟩) 0 [.int .i64 (pa : Nat), .int .i64 (qa : Nat)] F rfl (by kernel_rfl) (by kernel_rfl) (by kernel_rfl) (by simp) (cBoxK S 8 rfl 0 (by kernel_rfl)) (fun a F => ?_))
   refine l_pure 1 (fun L => (45, .int .i64 0) :: L) F (by kernel_rfl) fun a F => ?_
   refine l_then ?_
   refine wp_block ?_
   refine wp_loop_rounds 3 (rnd ?_)
   refine s_reg ?_
   refine l_pure 1 (fun L => (46, .bool true) :: L) F (by kernel_rfl) fun a F => ?_
   refine l_then ?_
   refine wp_seq ?_
   refine c_t F rfl ?_
   refine wp_skip ?_
   refine then_n ?_
   refine wp_seq ?_
   refine wp_block ?_
   refine s_reg ?_
   refine l_pure 4 (fun L => (9, .int .i64 (pa : Nat)) :: (8, .int .i64 0) :: (48, .int .i64 (pa : Nat)) :: (47, .int .i64 0) :: L) F (by kernel_rfl) fun a F => ?_
   refine l_then ?_
   refine wp_seq ?_
   have hn6 : Option.isSome Ae = true := (row_some S 4 rfl (m := j) (get_lt he))
   refine region_gx (fun D => fun (_ : Unit) => [rest w G, idA bx I, box bm 74 [.slice Ah I.has.length ch, .slice Ae I.ends.length ce, .slice Af I.free.length cf, .slice Al qs.length cl], rUl Ah ch I.has, rEl Ae ce I.ends, rFl Af cf I.free, rPl Al cl qs, bag (qs.flatMap legRows), box b5 63 [.int .i64 (pa : Nat), .int .i64 (qa : Nat)]]) (fun (_ : Unit) => [.pointer (some ⟨bx, 0, none⟩), .int .i64 (j : Nat), .int .i64 (pa : Nat), .int .u64 (freeP I (j : Nat) (pa : Nat)), .pointer (some ⟨bm, 0, none⟩), .pointer (some ⟨bm, 0, none⟩), .pointer (some ⟨bm, 2, none⟩), .slice Af I.free.length cf, .int .i64 (j : Nat), .int .i64 0, ptrA Af (j * 2), ptrA Af (j * 2), .int .u64 xf.1, .bool false]) [(3, [], [13]), (7, [], [10, 11, 12, 13]), (10, [7], [11, 12, 13]), (11, [7, 10], [12, 13]), (12, [7, 10, 11], [13]), (13, [3, 7, 10, 11, 12], [])] () rfl (by kernel_rfl) (by kernel_rfl) F S.drew ?_ ?_ ?_ ?_ ?_
   · rintro ⟨⟩; rfl
   · rintro ⟨⟩; kernel_rfl
   ·
    intro D D' x h
    cases x
    rfl
   ·
    refine ⟨?_, ?_⟩
    ·
     refine ⟨_, rfl, rfl, by kernel_rfl, ?_⟩
     rintro D ⟨⟩ a z S F
     refine ⟨by kernel_rfl, ?_⟩
     have S : Sat w z [rest w G, idA bx I, box bm 74 [.slice Ah I.has.length ch, .slice Ae I.ends.length ce, .slice Af I.free.length cf, .slice Al qs.length cl], rUl Ah ch I.has, rEl Ae ce I.ends, rFl Af cf I.free, rPl Al cl qs, bag (qs.flatMap legRows), box b5 63 [.int .i64 (pa : Nat), .int .i64 (qa : Nat)]] := S
     obtain ⟨G9, g9, hin9, hlt9, k9⟩ := S.frameB [1] (by decide) rfl
     refine op_fn F (by kernel_rfl) (free24_any _ G9 bx I ok g9 (j : Nat) (pa : Nat)) ?_
     rintro e z9 ⟨rfl, g⟩
     have S : Sat w z9 [rest w G, idA bx I, box bm 74 [.slice Ah I.has.length ch, .slice Ae I.ends.length ce, .slice Af I.free.length cf, .slice Al qs.length cl], rUl Ah ch I.has, rEl Ae ce I.ends, rFl Af cf I.free, rPl Al cl qs, bag (qs.flatMap legRows), box b5 63 [.int .i64 (pa : Nat), .int .i64 (qa : Nat)]] := k9 z9 [idA bx I] rfl g
     clear g g9 k9 hin9 hlt9
     exact ⟨_, rfl, (), rfl, (SameB.refl _ _ rfl), S⟩
    refine ⟨?_, ?_⟩
    ·
     refine ⟨_, rfl, rfl, by kernel_rfl, ?_⟩
     rintro D ⟨⟩ a z S F
     refine ⟨by kernel_rfl, ?_⟩
     exact op_load _ _ (some ⟨bm, 0, none⟩) 2 (.slice Af I.free.length cf) F rfl (by kernel_rfl) (by kernel_rfl) (cBox S 2 rfl (j := 2) rfl) (⟨(), rfl, (SameB.refl _ _ rfl), S⟩)
    refine ⟨?_, ?_⟩
    ·
     refine ⟨_, rfl, rfl, by kernel_rfl, ?_⟩
     rintro D ⟨⟩ a z S F
     refine ⟨by kernel_rfl, ?_⟩
     exact op_index _ 31 _ _ Af I.free.length cf j 2 .i64 F rfl (by kernel_rfl) (by kernel_rfl) (by kernel_rfl) (by kernel_rfl) (get_lt hxf) (row_some S 5 rfl (m := j) (get_lt hxf)) (⟨(), rfl, (SameB.refl _ _ rfl), S⟩)
    refine ⟨?_, ?_⟩
    ·
     refine ⟨_, rfl, rfl, by kernel_rfl, ?_⟩
     rintro D ⟨⟩ a z S F
     refine ⟨by kernel_rfl, ?_⟩
     exact op_indexArr _ 23 _ _ Af (j * 2) 2 0 1 .i64 F rfl (by kernel_rfl) (by kernel_rfl) (by kernel_rfl) (by kernel_rfl) (by decide) (row_some S 5 rfl (m := j) (get_lt hxf)) (⟨(), rfl, (SameB.refl _ _ rfl), S⟩)
    refine ⟨?_, ?_⟩
    ·
     refine ⟨_, rfl, rfl, by kernel_rfl, ?_⟩
     rintro D ⟨⟩ a z S F
     refine ⟨by kernel_rfl, ?_⟩
     exact op_load _ _ Af (j * 2) (.int .u64 xf.1) F rfl (by kernel_rfl) (by kernel_rfl) (cRec S 5 frC_len rfl 0 hxf rfl) (⟨(), rfl, (SameB.refl _ _ rfl), S⟩)
    refine ⟨?_, ?_⟩
    ·
     refine ⟨_, rfl, rfl, by kernel_rfl, ?_⟩
     rintro D ⟨⟩ a z S F
     refine ⟨by kernel_rfl, ?_⟩
     exact op_pure F (v0 := .bool ((freeP I (j : Nat) (pa : Nat) : Int) != (xf.1 : Int))) (v := .bool false) (by kernel_rfl) (neqF (free_is (s := 0) (side_left he) hxf)) ⟨(), rfl, (SameB.refl _ _ rfl), S⟩
    trivial
   ·
    rintro ⟨⟩ a z F S
    have F := F.sub (l := [(0, .pointer (some ⟨bx, 0, none⟩)), (1, .pointer (some ⟨bm, 0, none⟩)), (6, .int .i64 (j : Nat)), (37, .slice Ae I.ends.length ce), (38, .int .i64 (I.ends.length : Nat)), (39, .int .i64 (j : Nat)), (44, .agg #[.int .i64 (pa : Nat), .int .i64 (qa : Nat)]), (45, .int .i64 0), (62, .bool false)]) ⟨by kernel_rfl, by kernel_rfl, by kernel_rfl, by kernel_rfl, by kernel_rfl, by kernel_rfl, by kernel_rfl, by kernel_rfl, by kernel_rfl, trivial⟩
    have S : Sat w z [rest w G, idA bx I, box bm 74 [.slice Ah I.has.length ch, .slice Ae I.ends.length ce, .slice Af I.free.length cf, .slice Al qs.length cl], rUl Ah ch I.has, rEl Ae ce I.ends, rFl Af cf I.free, rPl Al cl qs, bag (qs.flatMap legRows), box b5 63 [.int .i64 (pa : Nat), .int .i64 (qa : Nat)]] := S
    refine then_n ?_
    refine c_f F rfl ?_
    refine wp_skip ?_
    refine inb_n ?_
    refine then_n ?_
    refine wp_region_list ?_
    refine l_pure 2 (fun L => (45, .int .i64 1) :: (63, .int .i64 1) :: L) F (by kernel_rfl) fun a F => ?_
    refine l_then ?_
    refine rnd ?_
    refine s_reg ?_
    refine l_pure 1 (fun L => (46, .bool true) :: L) F (by kernel_rfl) fun a F => ?_
    refine l_then ?_
    refine wp_seq ?_
    refine c_t F rfl ?_
    refine wp_skip ?_
    refine then_n ?_
    refine wp_seq ?_
    refine wp_block ?_
    refine s_reg ?_
    refine l_pure 4 (fun L => (9, .int .i64 (qa : Nat)) :: (8, .int .i64 1) :: (48, .int .i64 (qa : Nat)) :: (47, .int .i64 1) :: L) F (by kernel_rfl) fun a F => ?_
    refine l_then ?_
    refine wp_seq ?_
    refine region_gx (fun D => fun (_ : Unit) => [rest w G, idA bx I, box bm 74 [.slice Ah I.has.length ch, .slice Ae I.ends.length ce, .slice Af I.free.length cf, .slice Al qs.length cl], rUl Ah ch I.has, rEl Ae ce I.ends, rFl Af cf I.free, rPl Al cl qs, bag (qs.flatMap legRows), box b5 63 [.int .i64 (pa : Nat), .int .i64 (qa : Nat)]]) (fun (_ : Unit) => [.pointer (some ⟨bx, 0, none⟩), .int .i64 (j : Nat), .int .i64 (qa : Nat), .int .u64 (freeP I (j : Nat) (qa : Nat)), .pointer (some ⟨bm, 0, none⟩), .pointer (some ⟨bm, 0, none⟩), .pointer (some ⟨bm, 2, none⟩), .slice Af I.free.length cf, .int .i64 (j : Nat), .int .i64 1, ptrA Af (j * 2), ptrA Af (j * 2 + 1), .int .u64 xf.2, .bool false]) [(3, [], [13]), (7, [], [10, 11, 12, 13]), (10, [7], [11, 12, 13]), (11, [7, 10], [12, 13]), (12, [7, 10, 11], [13]), (13, [3, 7, 10, 11, 12], [])] () rfl (by kernel_rfl) (by kernel_rfl) F S.drew ?_ ?_ ?_ ?_ ?_
    · rintro ⟨⟩; rfl
    · rintro ⟨⟩; kernel_rfl
    ·
     intro D D' x h
     cases x
     rfl
    ·
     refine ⟨?_, ?_⟩
     ·
      refine ⟨_, rfl, rfl, by kernel_rfl, ?_⟩
      rintro D ⟨⟩ a z S F
      refine ⟨by kernel_rfl, ?_⟩
      have S : Sat w z [rest w G, idA bx I, box bm 74 [.slice Ah I.has.length ch, .slice Ae I.ends.length ce, .slice Af I.free.length cf, .slice Al qs.length cl], rUl Ah ch I.has, rEl Ae ce I.ends, rFl Af cf I.free, rPl Al cl qs, bag (qs.flatMap legRows), box b5 63 [.int .i64 (pa : Nat), .int .i64 (qa : Nat)]] := S
      obtain ⟨G9, g9, hin9, hlt9, k9⟩ := S.frameB [1] (by decide) rfl
      refine op_fn F (by kernel_rfl) (free24_any _ G9 bx I ok g9 (j : Nat) (qa : Nat)) ?_
      rintro e z9 ⟨rfl, g⟩
      have S : Sat w z9 [rest w G, idA bx I, box bm 74 [.slice Ah I.has.length ch, .slice Ae I.ends.length ce, .slice Af I.free.length cf, .slice Al qs.length cl], rUl Ah ch I.has, rEl Ae ce I.ends, rFl Af cf I.free, rPl Al cl qs, bag (qs.flatMap legRows), box b5 63 [.int .i64 (pa : Nat), .int .i64 (qa : Nat)]] := k9 z9 [idA bx I] rfl g
      clear g g9 k9 hin9 hlt9
      exact ⟨_, rfl, (), rfl, (SameB.refl _ _ rfl), S⟩
     refine ⟨?_, ?_⟩
     ·
      refine ⟨_, rfl, rfl, by kernel_rfl, ?_⟩
      rintro D ⟨⟩ a z S F
      refine ⟨by kernel_rfl, ?_⟩
      exact op_load _ _ (some ⟨bm, 0, none⟩) 2 (.slice Af I.free.length cf) F rfl (by kernel_rfl) (by kernel_rfl) (cBox S 2 rfl (j := 2) rfl) (⟨(), rfl, (SameB.refl _ _ rfl), S⟩)
     refine ⟨?_, ?_⟩
     ·
      refine ⟨_, rfl, rfl, by kernel_rfl, ?_⟩
      rintro D ⟨⟩ a z S F
      refine ⟨by kernel_rfl, ?_⟩
      exact op_index _ 31 _ _ Af I.free.length cf j 2 .i64 F rfl (by kernel_rfl) (by kernel_rfl) (by kernel_rfl) (by kernel_rfl) (get_lt hxf) (row_some S 5 rfl (m := j) (get_lt hxf)) (⟨(), rfl, (SameB.refl _ _ rfl), S⟩)
     refine ⟨?_, ?_⟩
     ·
      refine ⟨_, rfl, rfl, by kernel_rfl, ?_⟩
      rintro D ⟨⟩ a z S F
      refine ⟨by kernel_rfl, ?_⟩
      exact op_indexArr _ 23 _ _ Af (j * 2) 2 1 1 .i64 F rfl (by kernel_rfl) (by kernel_rfl) (by kernel_rfl) (by kernel_rfl) (by decide) (row_some S 5 rfl (m := j) (get_lt hxf)) (⟨(), rfl, (SameB.refl _ _ rfl), S⟩)
     refine ⟨?_, ?_⟩
     ·
      refine ⟨_, rfl, rfl, by kernel_rfl, ?_⟩
      rintro D ⟨⟩ a z S F
      refine ⟨by kernel_rfl, ?_⟩
      exact op_load _ _ Af (j * 2 + 1) (.int .u64 xf.2) F rfl (by kernel_rfl) (by kernel_rfl) (cRec S 5 frC_len rfl 1 hxf rfl) (⟨(), rfl, (SameB.refl _ _ rfl), S⟩)
     refine ⟨?_, ?_⟩
     ·
      refine ⟨_, rfl, rfl, by kernel_rfl, ?_⟩
      rintro D ⟨⟩ a z S F
      refine ⟨by kernel_rfl, ?_⟩
      exact op_pure F (v0 := .bool ((freeP I (j : Nat) (qa : Nat) : Int) != (xf.2 : Int))) (v := .bool false) (by kernel_rfl) (neqF (free_is (s := 1) (side_right he hpq) hxf)) ⟨(), rfl, (SameB.refl _ _ rfl), S⟩
     trivial
    ·
     rintro ⟨⟩ a z F S
     have F := F.sub (l := [(0, .pointer (some ⟨bx, 0, none⟩)), (1, .pointer (some ⟨bm, 0, none⟩)), (6, .int .i64 (j : Nat)), (37, .slice Ae I.ends.length ce), (38, .int .i64 (I.ends.length : Nat)), (39, .int .i64 (j : Nat)), (44, .agg #[.int .i64 (pa : Nat), .int .i64 (qa : Nat)]), (45, .int .i64 1), (62, .bool false)]) ⟨by kernel_rfl, by kernel_rfl, by kernel_rfl, by kernel_rfl, by kernel_rfl, by kernel_rfl, by kernel_rfl, by kernel_rfl, by kernel_rfl, trivial⟩
     have S : Sat w z [rest w G, idA bx I, box bm 74 [.slice Ah I.has.length ch, .slice Ae I.ends.length ce, .slice Af I.free.length cf, .slice Al qs.length cl], rUl Ah ch I.has, rEl Ae ce I.ends, rFl Af cf I.free, rPl Al cl qs, bag (qs.flatMap legRows), box b5 63 [.int .i64 (pa : Nat), .int .i64 (qa : Nat)]] := S
     refine then_n ?_
     refine c_f F rfl ?_
     refine wp_skip ?_
     refine inb_n ?_
     refine then_n ?_
     refine wp_region_list ?_
     refine l_pure 2 (fun L => (45, .int .i64 2) :: (63, .int .i64 2) :: L) F (by kernel_rfl) fun a F => ?_
     refine l_then ?_
     refine rnd ?_
     refine s_reg ?_
     refine l_pure 1 (fun L => (46, .bool false) :: L) F (by kernel_rfl) fun a F => ?_
     refine l_then ?_
     refine wp_seq ?_
     refine c_f F rfl ?_
     refine wp_exit ?_
     refine then_x ?_
     refine then_x ?_
     refine inb_x ?_
     refine inb_n ?_
     refine then_n ?_
     refine wp_region_list ?_
     refine l_do F rfl rfl (op_pure F (v0 := .int .i64 (IntKind.wrap .i64 ((j : Nat) + 1))) (v := .int .i64 (j + 1 : Nat)) (by kernel_rfl) (wrn_i64 (by omega) (by omega) (by omega)) fun a F => ?_)
     refine l_pure 1 (fun L => (39, .int .i64 (j + 1 : Nat)) :: L) F (by kernel_rfl) fun a F => ?_
     refine l_then ?_
     exact ⟨_, (by omega), j + 1, rfl, (by omega), F.sub ⟨by kernel_rfl, by kernel_rfl, by kernel_rfl, by kernel_rfl, by kernel_rfl, trivial⟩, (S.pick [0, 1, 2, 3, 4, 5, 6, 7] (by decide))⟩
  ·
   skip
   refine l_do F rfl rfl (op_pure F (v0 := .bool (decide (((j : Nat) : Int) < ((I.ends.length : Nat) : Int)))) (v := .bool false) (by kernel_rfl) (lssF ht4) fun a F => ?_)
   refine l_then ?_
   refine wp_seq ?_
   refine c_f F rfl ?_
   refine wp_exit ?_
   refine then_x ?_
   refine then_x ?_
   refine inb_x ?_
   refine then_n ?_
   refine wp_seq ?_
   refine s_reg ?_
   refine l_pure 3 (fun L => (67, .pointer (some ⟨bm, 3, none⟩)) :: (66, .pointer (some ⟨bm, 0, none⟩)) :: (65, .pointer (some ⟨bm, 0, none⟩)) :: L) F (by kernel_rfl) fun a F => ?_
   refine l_do F rfl rfl (op_load _ _ (some ⟨bm, 0, none⟩) 3 (.slice Al qs.length cl) F rfl (by kernel_rfl) (by kernel_rfl) (cBox S 2 rfl (j := 3) rfl) (fun a F => ?_))
   refine l_pure 2 (fun L => (70, .int .i64 0) :: (69, .int .i64 (qs.length : Nat)) :: L) F (by kernel_rfl) fun a F => ?_
   refine l_then ?_
   refine wp_block ?_
   refine wp_loop_m (fun m a z => ∃ (k : Nat), m = qs.length - k ∧ (k ≤ qs.length) ∧ Fr a 95 [(0, .pointer (some ⟨bx, 0, none⟩)), (1, .pointer (some ⟨bm, 0, none⟩)), (68, .slice Al qs.length cl), (69, .int .i64 (qs.length : Nat)), (70, .int .i64 (k : Nat))] ∧ Sat w z [rest w G, idA bx I, box bm 74 [.slice Ah I.has.length ch, .slice Ae I.ends.length ce, .slice Af I.free.length cf, .slice Al qs.length cl], rUl Ah ch I.has, rEl Ae ce I.ends, rFl Af cf I.free, rPl Al cl qs, bag (qs.flatMap legRows)]) _ ⟨0, rfl, Nat.zero_le _, F.sub ⟨by kernel_rfl, by kernel_rfl, by kernel_rfl, by kernel_rfl, by kernel_rfl, trivial⟩, S⟩ ?_
   rintro m a z ⟨k, hm, hf7, F, S⟩
   refine s_reg ?_
   by_cases ht8 : ((k : Nat) : Int) < ((qs.length : Nat) : Int)
   ·
    skip
    obtain ⟨q, hq⟩ : ∃ q, qs[k]? = some q := ⟨_, List.getElem?_eq_getElem (by omega)⟩
    refine l_do F rfl rfl (op_pure F (v0 := .bool (decide (((k : Nat) : Int) < ((qs.length : Nat) : Int)))) (v := .bool true) (by kernel_rfl) (lssT ht8) fun a F => ?_)
    refine l_then ?_
    refine wp_seq ?_
    refine c_t F rfl ?_
    refine wp_skip ?_
    refine then_n ?_
    refine wp_seq ?_
    refine wp_block ?_
    refine s_reg ?_
    refine l_do F rfl rfl (op_index _ 83 _ _ Al qs.length cl k 3 .i64 F rfl (by kernel_rfl) (by kernel_rfl) (by kernel_rfl) (by kernel_rfl) (get_lt hq) (row_some S 6 rfl (m := k) (get_lt hq)) (fun a F => ?_))
    refine l_do F rfl rfl (op_loadK _ _ Al (k * 3) [.int .u64 q.p.id, .int .i64 q.p.state, .slice q.A q.p.legs.length q.c] F rfl (by kernel_rfl) (by kernel_rfl) (by kernel_rfl) (by simp) (cRecK0 S 6 payC_len rfl hq (by kernel_rfl)) (fun a F => ?_))
    refine l_do F rfl rfl (op_alloc S _ (.agg #[.int .u64 0, .int .i64 0, .slice none 0 0]) rfl (by kernel_rfl) fun b9 z S a F => ?_)
    refine l_do F rfl rfl (op_storeB S 8 _ _ _ b9 0 (.agg #[.int .u64 q.p.id, .int .i64 q.p.state, .slice q.A q.p.legs.length q.c]) F rfl rfl (by kernel_rfl) (by kernel_rfl) (by kernel_rfl) (by kernel_rfl) (by kernel_rfl) fun z S a F => ?_)
    refine l_then ?_
    refine s_reg ?_
    refine l_pure 2 (fun L => (76, .pointer (some ⟨b9, 0, none⟩)) :: (75, .pointer (some ⟨bx, 0, none⟩)) :: L) F (by kernel_rfl) fun a F => ?_
    refine l_do F rfl rfl (op_load _ _ (some ⟨b9, 0, none⟩) 0 (.int .u64 q.p.id) F rfl (by kernel_rfl) (by kernel_rfl) (cBox S 8 rfl (j := 0) rfl) (fun a F => ?_))
    obtain ⟨G9, g9, hin9, hlt9, k9⟩ := S.frameB [1] (by decide) rfl
    refine l_do F rfl rfl (op_fn F (by kernel_rfl) (state24_at (state_at ok (qs_at hqs hq)) _ G9 bx g9) ?_)
    rintro e z9 ⟨rfl, g⟩
    have S : Sat w z9 [rest w G, idA bx I, box bm 74 [.slice Ah I.has.length ch, .slice Ae I.ends.length ce, .slice Af I.free.length cf, .slice Al qs.length cl], rUl Ah ch I.has, rEl Ae ce I.ends, rFl Af cf I.free, rPl Al cl qs, bag (qs.flatMap legRows), box b9 83 [.int .u64 q.p.id, .int .i64 q.p.state, .slice q.A q.p.legs.length q.c]] := k9 z9 [idA bx I] rfl g
    clear g g9 k9 hin9 hlt9
    refine ⟨_, rfl, ?_⟩
    intro a F
    refine l_pure 5 (fun L => (13, .bool true) :: (12, .int .i64 q.p.state) :: (80, .bool true) :: (79, .int .i64 q.p.state) :: (74, .tuple #[.int .i64 q.p.state, .bool true]) :: L) F (by kernel_rfl) fun a F => ?_
    refine l_then ?_
    refine s_reg ?_
    refine l_pure 2 (fun L => (82, .pointer (some ⟨b9, 1, none⟩)) :: (81, .int .i64 q.p.state) :: L) F (by kernel_rfl) fun a F => ?_
    refine l_do F rfl rfl (op_load _ _ (some ⟨b9, 0, none⟩) 1 (.int .i64 q.p.state) F rfl (by kernel_rfl) (by kernel_rfl) (cBox S 8 rfl (j := 1) rfl) (fun a F => ?_))
    refine l_do F rfl rfl (op_pure F (v0 := .bool ((q.p.state : Int) != (q.p.state : Int))) (v := .bool false) (by kernel_rfl) (neqF rfl) fun a F => ?_)
    refine l_pure 4 (fun L => (88, .bool false) :: (87, .bool false) :: (86, .bool true) :: (85, .bool false) :: L) F (by kernel_rfl) fun a F => ?_
    refine l_then ?_
    refine c_f F rfl ?_
    refine wp_skip ?_
    refine inb_n ?_
    refine then_n ?_
    refine wp_region_list ?_
    refine l_do F rfl rfl (op_pure F (v0 := .int .i64 (IntKind.wrap .i64 ((k : Nat) + 1))) (v := .int .i64 (k + 1 : Nat)) (by kernel_rfl) (wrn_i64 (by omega) (by omega) (by omega)) fun a F => ?_)
    refine l_pure 1 (fun L => (70, .int .i64 (k + 1 : Nat)) :: L) F (by kernel_rfl) fun a F => ?_
    refine l_then ?_
    exact ⟨_, (by omega), k + 1, rfl, (by omega), F.sub ⟨by kernel_rfl, by kernel_rfl, by kernel_rfl, by kernel_rfl, by kernel_rfl, trivial⟩, (S.pick [0, 1, 2, 3, 4, 5, 6, 7] (by decide))⟩
   ·
    skip
    refine l_do F rfl rfl (op_pure F (v0 := .bool (decide (((k : Nat) : Int) < ((qs.length : Nat) : Int)))) (v := .bool false) (by kernel_rfl) (lssF ht8) fun a F => ?_)
    refine l_then ?_
    refine wp_seq ?_
    refine c_f F rfl ?_
    refine wp_exit ?_
    refine then_x ?_
    refine then_x ?_
    refine inb_x ?_
    refine then_n ?_
    refine s_reg ?_
    refine l_pure 1 (fun L => (90, .pointer (some ⟨bx, 0, none⟩)) :: L) F (by kernel_rfl) fun a F => ?_
    obtain ⟨G9, g9, hin9, hlt9, k9⟩ := S.frameB [1] (by decide) rfl
    refine l_do F rfl rfl (op_fn F (by kernel_rfl) (held24_any _ G9 bx I ok g9) ?_)
    rintro e z9 ⟨rfl, g⟩
    have S : Sat w z9 [rest w G, idA bx I, box bm 74 [.slice Ah I.has.length ch, .slice Ae I.ends.length ce, .slice Af I.free.length cf, .slice Al qs.length cl], rUl Ah ch I.has, rEl Ae ce I.ends, rFl Af cf I.free, rPl Al cl qs, bag (qs.flatMap legRows)] := k9 z9 [idA bx I] rfl g
    clear g g9 k9 hin9 hlt9
    refine ⟨_, rfl, ?_⟩
    intro a F
    refine l_pure 1 (fun L => (92, .pointer (some ⟨bm, 0, none⟩)) :: L) F (by kernel_rfl) fun a F => ?_
    have S := Sat.shutTold (p := fun m : RefM => m.qs.map PayR.p = I.pays) (f := refThings bm I) [rest w G, idA bx I] ⟨Ah, ch, Ae, ce, Af, cf, Al, cl, qs⟩ hqs (S.pick [0, 1, 2, 3, 4, 5, 6, 7] (by decide))
    have S : Sat w z9 [rest w G, idA bx I, refA bm I] := S
    obtain ⟨G9, g9, hin9, hlt9, k9⟩ := S.frameB [2] (by decide) rfl
    refine l_do F rfl rfl (op_fn F (by kernel_rfl) (rheld24_any _ G9 bm I ok g9 hpn) ?_)
    rintro e z9 ⟨rfl, g⟩
    have S : Sat w z9 [rest w G, idA bx I, refA bm I] := k9 z9 [refA bm I] rfl g
    clear g g9 k9 hin9 hlt9
    refine ⟨_, rfl, ?_⟩
    intro a F
    refine l_do F rfl rfl (op_pure F (v0 := .bool ((heldP I.pays : Int) == (heldP I.pays : Int))) (v := .bool true) (by kernel_rfl) (eqlT rfl) fun a F => ?_)
    refine l_pure 1 (fun L => (4, .bool true) :: L) F (by kernel_rfl) fun a F => ?_
    refine l_then ?_
    refine wp_ret ?_
    exact fin F [.tmp 4] [.bool true] rfl ⟨by kernel_rfl, trivial⟩ (.bool true) rfl ⟨rfl, S.pick [1, 2, 0] (by decide)⟩
def i24 : Idl := newI [9, 9]
def i24a : Idl := ⟨[4, 9], [(0, 1)], [(5, 0)], []⟩
def i24b : Idl := ⟨[4, 9], [(0, 1)], [(2, 0)], [⟨7, 0, [⟨0, 0, 3⟩]⟩]⟩
def i24c : Idl := ⟨[4, 9], [(0, 1)], [(2, 3)], [⟨7, 1, [⟨0, 0, 3⟩]⟩]⟩
theorem i24_u : ∀ a ∈ ([9, 9] : List Int), U64 a := by
  intro a ha
  simp at ha; subst ha; exact ⟨by decide, by decide⟩
theorem i24_ok : IOk i24 := new_ok i24_u (by decide)
theorem i24a_is : openP i24 0 1 5 0 = (i24a, 0, 0) := by rfl
theorem i24a_ok : IOk i24a := by have h := (open_keeps i24_ok (a := 0) (b := 1) (p := 5) (q := 0) (by decide) (by decide)).1; rw [i24a_is] at h; exact h
theorem i24b_is : begP i24a 7 0 [0] [3] = (i24b, 0) := by
  have hs : sideP24 i24a.ends ((0 : Nat) : Int) 0 = (((0 : Nat) : Int), 0) := by decide
  have hb := beg_go (ends := i24a.ends) (F := i24a.free) (fr := 0) (a := 3) (pv := pvOf [3] 0) (E := [0]) (A := [3]) (k := 0) (n := 0) (s := 0) (f := (5, 0)) (d := (0, 1)) (L := []) rfl rfl hs (fun h => h.elim (by decide) (pv_no (.inl rfl))) rfl (by decide) rfl
  have hb2 : begF i24a.ends i24a.free 0 none [0] [3] = (0, [(2, 0)], [⟨0, 0, 3⟩]) := hb
  exact beg_ok (by decide) (by rfl) hb2
theorem i24b_ok : IOk i24b := by have h := (beg_keeps i24a_ok (id := 7) (fr := 0) (E := [0]) (A := [3]) (by simp)).1; rw [i24b_is] at h; exact h
theorem i24c_is : endP i24b 7 true = (i24c, 0) := by rfl
theorem i24c_ok : IOk i24c := by have h := (end_keeps i24b_ok (id := 7) (paid := true)).1; rw [i24c_is] at h; exact h
theorem open24_at {I J : Idl} {aa bb pq qq v1 v2 : Int} (h : openP I aa bb pq qq = (J, v1, v2)) (w : World) (G : Nat → Prop) (b : Nat) (ok : IOk I) (hS : Sat w w [idA b I, rest w G]) (hp : U64 pq) (hq : U64 qq) : Calls Try.prog 8 #[.pointer (some ⟨b, 0, none⟩), .int .i64 aa, .int .i64 bb, .agg #[.int .u64 pq, .int .u64 qq]] w fun e w' => e = .returned (.tuple #[.int .i64 v1, .int .i64 v2]) ∧ Sat w w' [idA b J, rest w G] := by
  have h1 := open24_any w G b I ok hS aa bb pq qq hp hq
  rw [h] at h1
  exact h1
theorem begin24_at {I J : Idl} {cid from_ v : Int} {E A : List Int} (h : begP I cid from_ E A = (J, v)) (w : World) (G : Nat → Prop) (b : Nat) (ok : IOk I) (hS : Sat w w [idA b I, rest w G]) (Ar : Option Addr) (cr : Nat) (hE0 : Recs 1 iC_i64 w Ar cr E) (gE : InG G Ar (E.flatMap iC_i64)) (As : Option Addr) (cs : Nat) (hA0 : Recs 1 iC_u64 w As cs A) (gA : InG G As (A.flatMap iC_u64)) (hAu : ∀ a ∈ A, U64 a) : Calls Try.prog 12 #[.pointer (some ⟨b, 0, none⟩), .int .u64 cid, .int .i64 from_, .slice Ar E.length cr, .slice As A.length cs] w fun e w' => e = .returned (.int .i64 v) ∧ Sat w w' [idA b J, rest w G] := by
  have h1 := begin24_any w G b I ok hS cid from_ Ar cr E hE0 gE As cs A hA0 gA hAu
  rw [h] at h1
  exact h1
theorem end24_at {I J : Idl} {cid v : Int} {paid : Bool} (h : endP I cid paid = (J, v)) (w : World) (G : Nat → Prop) (b : Nat) (ok : IOk I) (hS : Sat w w [idA b I, rest w G]) : Calls Try.prog 13 #[.pointer (some ⟨b, 0, none⟩), .int .u64 cid, .bool paid] w fun e w' => e = .returned (.int .i64 v) ∧ Sat w w' [idA b J, rest w G] := by
  have h1 := end24_any w G b I ok hS cid paid
  rw [h] at h1
  exact h1
theorem free24_at {J : Idl} {cid who v : Int} (h : freeP J cid who = v) (w : World) (G : Nat → Prop) (b : Nat) (ok : IOk J) (hS : Sat w w [idA b J, rest w G]) : Calls Try.prog 11 #[.pointer (some ⟨b, 0, none⟩), .int .i64 cid, .int .i64 who] w fun e w' => e = .returned (.int .u64 v) ∧ Sat w w' [idA b J, rest w G] := by
  have h1 := free24_any w G b J ok hS cid who
  rw [h] at h1
  exact h1
theorem has24_at {J : Idl} {who v : Int} (h : hasP J who = v) (w : World) (G : Nat → Prop) (b : Nat) (hS : Sat w w [idA b J, rest w G]) : Calls Try.prog 10 #[.pointer (some ⟨b, 0, none⟩), .int .i64 who] w fun e w' => e = .returned (.int .u64 v) ∧ Sat w w' [idA b J, rest w G] := by
  have h1 := has24_any w G b J hS who
  rw [h] at h1
  exact h1
set_option maxRecDepth 100000 in
set_option maxHeartbeats 4000000 in
theorem awake24_any (w : World) : Calls Try.prog 14 #[] w fun e w' => e = .returned (.bool true) ∧ Below w.heap.size w w' := by
 refine enter 57 Try.func14 rfl rfl rfl fun a F => ?_
 have S := Sat.pushRest w
 refine s_reg ?_
 refine l_pure 1 (fun L => (0, .bool false) :: L) F (by kernel_rfl) fun a F => ?_
 refine l_then ?_
 refine s_reg ?_
 refine l_do F rfl rfl (op_buildSlice S _ 2 _ 23 1 iC_u64 ([9, 9] : List Int) F rfl (by kernel_rfl) (by kernel_rfl) (by kernel_rfl) (by unfold maxLen; omega) fun b1 z S a F => ?_)
 refine l_do F rfl rfl (op_fn F (by kernel_rfl) (new24_ok _ (some ⟨b1, 0, none⟩) 2 [9, 9] (Recs.ofRow (S.rowOf (i := 1) rfl) (by decide)) i24_u (by decide)) ?_)
 rintro e z ⟨bx, rfl, g⟩
 have S := S.pushThings g
 refine ⟨_, rfl, ?_⟩
 intro a F
 refine l_pure 5 (fun L => (2, .int .i64 0) :: (1, .pointer (some ⟨bx, 0, none⟩)) :: (11, .int .i64 0) :: (10, .pointer (some ⟨bx, 0, none⟩)) :: (7, .tuple #[.pointer (some ⟨bx, 0, none⟩), .int .i64 0]) :: L) F (by kernel_rfl) fun a F => ?_
 refine l_then ?_
 refine s_reg ?_
 refine l_pure 2 (fun L => (14, .agg #[.int .u64 5, .int .u64 0]) :: (13, .pointer (some ⟨bx, 0, none⟩)) :: L) F (by kernel_rfl) fun a F => ?_
 obtain ⟨G9, g9, hin9, hlt9, k9⟩ := S.frameB [2] (by decide) rfl
 refine l_do F rfl rfl (op_fn F (by kernel_rfl) (open24_at i24a_is _ G9 bx i24_ok g9 ⟨by decide, by decide⟩ ⟨by decide, by decide⟩) ?_)
 rintro e z9 ⟨rfl, g⟩
 have S : Sat w z9 [rest w (· < w.heap.size), rU (some ⟨b1, 0, none⟩) 2 2 ([9, 9] : List Int), idA bx i24a] := k9 z9 [idA bx i24a] rfl g
 clear g g9 k9 hin9 hlt9
 refine ⟨_, rfl, ?_⟩
 intro a F
 refine l_pure 5 (fun L => (4, .int .i64 0) :: (3, .int .i64 0) :: (17, .int .i64 0) :: (16, .int .i64 0) :: (12, .tuple #[.int .i64 0, .int .i64 0]) :: L) F (by kernel_rfl) fun a F => ?_
 refine l_then ?_
 refine s_reg ?_
 refine l_pure 1 (fun L => (18, .pointer (some ⟨bx, 0, none⟩)) :: L) F (by kernel_rfl) fun a F => ?_
 refine l_do F rfl rfl (op_buildSlice S _ 1 _ 3 1 iC_i64 ([0] : List Int) F rfl (by kernel_rfl) (by kernel_rfl) (by kernel_rfl) (by unfold maxLen; omega) fun b2 z S a F => ?_)
 refine l_do F rfl rfl (op_buildSlice S _ 1 _ 23 1 iC_u64 ([3] : List Int) F rfl (by kernel_rfl) (by kernel_rfl) (by kernel_rfl) (by unfold maxLen; omega) fun b3 z S a F => ?_)
 obtain ⟨G9, g9, hin9, hlt9, k9⟩ := S.frameB [2] (by decide) rfl
 refine l_do F rfl rfl (op_fn F (by kernel_rfl) (begin24_at i24b_is _ G9 bx i24a_ok g9 (some ⟨b2, 0, none⟩) 1 (Recs.ofRow (S.rowOf (i := 3) rfl) (by decide)) (InG.row S hin9 3 (by decide) rfl) (some ⟨b3, 0, none⟩) 1 (Recs.ofRow (S.rowOf (i := 4) rfl) (by decide)) (InG.row S hin9 4 (by decide) rfl) (fun a9 ha9 => by simp at ha9; subst ha9; exact ⟨by decide, by decide⟩)) ?_)
 rintro e z9 ⟨rfl, g⟩
 have S : Sat w z9 [rest w (· < w.heap.size), rU (some ⟨b1, 0, none⟩) 2 2 ([9, 9] : List Int), idA bx i24b, rI (some ⟨b2, 0, none⟩) 1 1 ([0] : List Int), rU (some ⟨b3, 0, none⟩) 1 1 ([3] : List Int)] := k9 z9 [idA bx i24b] rfl g
 clear g g9 k9 hin9 hlt9
 refine ⟨_, rfl, ?_⟩
 intro a F
 refine l_pure 1 (fun L => (5, .int .i64 0) :: L) F (by kernel_rfl) fun a F => ?_
 refine l_then ?_
 refine s_reg ?_
 refine l_pure 1 (fun L => (22, .pointer (some ⟨bx, 0, none⟩)) :: L) F (by kernel_rfl) fun a F => ?_
 obtain ⟨G9, g9, hin9, hlt9, k9⟩ := S.frameB [2] (by decide) rfl
 refine l_do F rfl rfl (op_fn F (by kernel_rfl) (end24_at i24c_is _ G9 bx i24b_ok g9) ?_)
 rintro e z9 ⟨rfl, g⟩
 have S : Sat w z9 [rest w (· < w.heap.size), rU (some ⟨b1, 0, none⟩) 2 2 ([9, 9] : List Int), idA bx i24c, rI (some ⟨b2, 0, none⟩) 1 1 ([0] : List Int), rU (some ⟨b3, 0, none⟩) 1 1 ([3] : List Int)] := k9 z9 [idA bx i24c] rfl g
 clear g g9 k9 hin9 hlt9
 refine ⟨_, rfl, ?_⟩
 intro a F
 refine l_pure 1 (fun L => (6, .int .i64 0) :: L) F (by kernel_rfl) fun a F => ?_
 refine l_then ?_
 refine s_reg ?_
 refine l_pure 20 (fun L => (43, .pointer (some ⟨bx, 0, none⟩)) :: (42, .bool true) :: (41, .bool true) :: (40, .bool true) :: (39, .int .i64 0) :: (38, .bool true) :: (37, .bool true) :: (36, .bool true) :: (35, .int .i64 0) :: (34, .bool true) :: (33, .bool true) :: (32, .bool true) :: (31, .int .i64 0) :: (30, .bool true) :: (29, .bool true) :: (28, .bool true) :: (27, .int .i64 0) :: (26, .bool true) :: (25, .bool true) :: (24, .int .i64 0) :: L) F (by kernel_rfl) fun a F => ?_
 obtain ⟨G9, g9, hin9, hlt9, k9⟩ := S.frameB [2] (by decide) rfl
 refine l_do F rfl rfl (op_fn F (by kernel_rfl) (free24_at (v := 2) (by decide : freeP i24c 0 0 = 2) _ G9 bx i24c_ok g9) ?_)
 rintro e z9 ⟨rfl, g⟩
 have S : Sat w z9 [rest w (· < w.heap.size), rU (some ⟨b1, 0, none⟩) 2 2 ([9, 9] : List Int), idA bx i24c, rI (some ⟨b2, 0, none⟩) 1 1 ([0] : List Int), rU (some ⟨b3, 0, none⟩) 1 1 ([3] : List Int)] := k9 z9 [idA bx i24c] rfl g
 clear g g9 k9 hin9 hlt9
 refine ⟨_, rfl, ?_⟩
 intro a F
 refine l_pure 4 (fun L => (48, .pointer (some ⟨bx, 0, none⟩)) :: (47, .bool true) :: (46, .bool true) :: (45, .bool true) :: L) F (by kernel_rfl) fun a F => ?_
 obtain ⟨G9, g9, hin9, hlt9, k9⟩ := S.frameB [2] (by decide) rfl
 refine l_do F rfl rfl (op_fn F (by kernel_rfl) (free24_at (v := 3) (by decide : freeP i24c 0 1 = 3) _ G9 bx i24c_ok g9) ?_)
 rintro e z9 ⟨rfl, g⟩
 have S : Sat w z9 [rest w (· < w.heap.size), rU (some ⟨b1, 0, none⟩) 2 2 ([9, 9] : List Int), idA bx i24c, rI (some ⟨b2, 0, none⟩) 1 1 ([0] : List Int), rU (some ⟨b3, 0, none⟩) 1 1 ([3] : List Int)] := k9 z9 [idA bx i24c] rfl g
 clear g g9 k9 hin9 hlt9
 refine ⟨_, rfl, ?_⟩
 intro a F
 refine l_pure 4 (fun L => (53, .pointer (some ⟨bx, 0, none⟩)) :: (52, .bool true) :: (51, .bool true) :: (50, .bool true) :: L) F (by kernel_rfl) fun a F => ?_
 obtain ⟨G9, g9, hin9, hlt9, k9⟩ := S.frameB [2] (by decide) rfl
 refine l_do F rfl rfl (op_fn F (by kernel_rfl) (has24_at (v := 4) (by decide : hasP i24c 0 = 4) _ G9 bx g9) ?_)
 rintro e z9 ⟨rfl, g⟩
 have S : Sat w z9 [rest w (· < w.heap.size), rU (some ⟨b1, 0, none⟩) 2 2 ([9, 9] : List Int), idA bx i24c, rI (some ⟨b2, 0, none⟩) 1 1 ([0] : List Int), rU (some ⟨b3, 0, none⟩) 1 1 ([3] : List Int)] := k9 z9 [idA bx i24c] rfl g
 clear g g9 k9 hin9 hlt9
 refine ⟨_, rfl, ?_⟩
 intro a F
 refine l_pure 3 (fun L => (0, .bool true) :: (56, .bool true) :: (55, .bool true) :: L) F (by kernel_rfl) fun a F => ?_
 refine l_then ?_
 refine wp_ret ?_
 exact fin F [.tmp 0] [.bool true] rfl ⟨by kernel_rfl, trivial⟩ (.bool true) rfl ⟨rfl, S.below (i := 0) rfl⟩
end Go.Proofs.Ytecgpkjigbhneaa
