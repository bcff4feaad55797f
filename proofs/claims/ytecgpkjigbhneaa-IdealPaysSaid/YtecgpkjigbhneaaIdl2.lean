/- Walks over the program's ideal: opening, putting in, taking out, moving. -/
import Derived.Test.YtecgpkjigbhneaaIdl1
namespace Go.Proofs.Ytecgpkjigbhneaa
set_option linter.unusedVariables false
set_option linter.unusedSimpArgs false
set_option linter.unnecessarySimpa false
open Go Go.RowKit

set_option maxRecDepth 100000 in
set_option maxHeartbeats 4000000 in
theorem open24_any (w : World) (G : Nat → Prop) (b : Nat) (I : Idl) (ok : IOk I) (hS : Sat w w [idA b I, rest w G]) (aa bb pq qq : Int) (hp : U64 pq) (hq : U64 qq) : Calls Try.prog 8 #[.pointer (some ⟨b, 0, none⟩), .int .i64 aa, .int .i64 bb, .agg #[.int .u64 pq, .int .u64 qq]] w fun e w' => e = .returned (.tuple #[.int .i64 (openP I aa bb pq qq).2.1, .int .i64 (openP I aa bb pq qq).2.2]) ∧ Sat w w' [idA b (openP I aa bb pq qq).1, rest w G] := by
 have hfl := ok.fl
 have hp2 := hp
 have hq2 := hq
 unfold U64 at hp2 hq2
 refine enter 109 Try.func8 rfl rfl rfl fun a F => ?_
 obtain ⟨Ae, ce, Af, cf, Ah, ch, r, ck, ps, hps, S⟩ := id_open hS
 have hel := ok.el
 have hhl := ok.hl
 have hsm := ok.sums
 refine s_reg ?_
 refine l_do F rfl rfl (op_box S _ _ (.agg #[.int .u64 pq, .int .u64 qq]) F rfl (by kernel_rfl) fun b1 z S a F => ?_)
 refine l_pure 2 (fun L => (9, .int .i64 0) :: (8, .int .i64 0) :: L) F (by kernel_rfl) fun a F => ?_
 refine l_then ?_
 refine wp_seq ?_
 refine wp_block ?_
 refine s_reg ?_
 refine l_pure 3 (fun L => (10, .bool false) :: (12, .bool false) :: (11, .pointer (some ⟨b, 0, none⟩)) :: L) F (by kernel_rfl) fun a F => ?_
 refine l_then ?_
 refine c_f F rfl ?_
 refine s_reg ?_
 refine l_pure 2 (fun L => (15, .int .i64 aa) :: (14, .pointer (some ⟨b, 0, none⟩)) :: L) F (by kernel_rfl) fun a F => ?_
 cases hb2 : (inB I.has.length aa) with
 | false =>
  have hna := inB_f hb2
  obtain ⟨G9, g9, hin9, hlt9, k9⟩ := S.frameB [1] (by decide) rfl
  refine l_do F rfl rfl (op_fn F (by kernel_rfl) (in24_any _ G9 b Ae I.ends.length ce Af I.free.length cf r Ah I.has.length ch aa g9) ?_)
  rintro e z9 ⟨rfl, g⟩
  have S : Sat w z9 [rest w G, box b 61 [.slice Ae I.ends.length ce, .slice Af I.free.length cf, .map (some r), .slice Ah I.has.length ch], rEl Ae ce I.ends, rFl Af cf I.free, rUl Ah ch I.has, mapA r .u64 (ps.map entM) ck, bag (ps.flatMap payRows), box b1 31 [.int .u64 pq, .int .u64 qq]] := k9 z9 [box b 61 [.slice Ae I.ends.length ce, .slice Af I.free.length cf, .map (some r), .slice Ah I.has.length ch]] rfl g
  clear g g9 k9 hin9 hlt9
  refine ⟨_, rfl, ?_⟩
  rw [hb2]
  intro a F
  refine l_pure 13 (fun L => (13, .bool true) :: (28, .bool true) :: (27, undef) :: (26, undef) :: (25, undef) :: (24, .bool true) :: (23, .bool true) :: (22, undef) :: (21, undef) :: (20, undef) :: (19, undef) :: (18, .bool true) :: (17, .bool true) :: L) F (by kernel_rfl) fun a F => ?_
  refine l_then ?_
  refine c_t F rfl ?_
  refine s_reg ?_
  refine l_pure 2 (fun L => (9, .int .i64 1) :: (8, .int .i64 0) :: L) F (by kernel_rfl) fun a F => ?_
  refine l_then ?_
  refine wp_ret ?_
  refine inb_r (then_r (?_))
  exact fin F [.tmp 8, .tmp 9] [.int .i64 0, .int .i64 1] rfl ⟨by kernel_rfl, by kernel_rfl, trivial⟩ (.tuple #[.int .i64 0, .int .i64 1]) rfl ⟨by rw [open_arg (by omega)], by rw [open_arg (by omega)]; exact (id_shut hps (by simp) (by simp) (by simp) (S.pick [0, 1, 2, 3, 4, 5, 6] (by decide)))⟩
 | true =>
  obtain ⟨an, rfl, han⟩ := inB_t hb2
  obtain ⟨xa, hxa⟩ : ∃ xa, I.has[an]? = some xa := ⟨_, List.getElem?_eq_getElem (by omega)⟩
  have hx1 := sumI_one I.has an xa ok.hu hxa
  obtain ⟨G9, g9, hin9, hlt9, k9⟩ := S.frameB [1] (by decide) rfl
  refine l_do F rfl rfl (op_fn F (by kernel_rfl) (in24_any _ G9 b Ae I.ends.length ce Af I.free.length cf r Ah I.has.length ch (an : Nat) g9) ?_)
  rintro e z9 ⟨rfl, g⟩
  have S : Sat w z9 [rest w G, box b 61 [.slice Ae I.ends.length ce, .slice Af I.free.length cf, .map (some r), .slice Ah I.has.length ch], rEl Ae ce I.ends, rFl Af cf I.free, rUl Ah ch I.has, mapA r .u64 (ps.map entM) ck, bag (ps.flatMap payRows), box b1 31 [.int .u64 pq, .int .u64 qq]] := k9 z9 [box b 61 [.slice Ae I.ends.length ce, .slice Af I.free.length cf, .map (some r), .slice Ah I.has.length ch]] rfl g
  clear g g9 k9 hin9 hlt9
  refine ⟨_, rfl, ?_⟩
  rw [hb2]
  intro a F
  refine l_pure 4 (fun L => (20, .int .i64 bb) :: (19, .pointer (some ⟨b, 0, none⟩)) :: (18, .bool false) :: (17, .bool false) :: L) F (by kernel_rfl) fun a F => ?_
  cases hb3 : (inB I.has.length bb) with
  | false =>
   have hna := inB_f hb3
   obtain ⟨G9, g9, hin9, hlt9, k9⟩ := S.frameB [1] (by decide) rfl
   refine l_do F rfl rfl (op_fn F (by kernel_rfl) (in24_any _ G9 b Ae I.ends.length ce Af I.free.length cf r Ah I.has.length ch bb g9) ?_)
   rintro e z9 ⟨rfl, g⟩
   have S : Sat w z9 [rest w G, box b 61 [.slice Ae I.ends.length ce, .slice Af I.free.length cf, .map (some r), .slice Ah I.has.length ch], rEl Ae ce I.ends, rFl Af cf I.free, rUl Ah ch I.has, mapA r .u64 (ps.map entM) ck, bag (ps.flatMap payRows), box b1 31 [.int .u64 pq, .int .u64 qq]] := k9 z9 [box b 61 [.slice Ae I.ends.length ce, .slice Af I.free.length cf, .map (some r), .slice Ah I.has.length ch]] rfl g
   clear g g9 k9 hin9 hlt9
   refine ⟨_, rfl, ?_⟩
   rw [hb3]
   intro a F
   refine l_pure 8 (fun L => (13, .bool true) :: (28, .bool true) :: (27, undef) :: (26, undef) :: (25, undef) :: (24, .bool true) :: (23, .bool true) :: (22, .bool true) :: L) F (by kernel_rfl) fun a F => ?_
   refine l_then ?_
   refine c_t F rfl ?_
   refine s_reg ?_
   refine l_pure 2 (fun L => (9, .int .i64 1) :: (8, .int .i64 0) :: L) F (by kernel_rfl) fun a F => ?_
   refine l_then ?_
   refine wp_ret ?_
   refine inb_r (then_r (?_))
   exact fin F [.tmp 8, .tmp 9] [.int .i64 0, .int .i64 1] rfl ⟨by kernel_rfl, by kernel_rfl, trivial⟩ (.tuple #[.int .i64 0, .int .i64 1]) rfl ⟨by rw [open_arg (by omega)], by rw [open_arg (by omega)]; exact (id_shut hps (by simp) (by simp) (by simp) (S.pick [0, 1, 2, 3, 4, 5, 6] (by decide)))⟩
  | true =>
   obtain ⟨bn, rfl, hbn⟩ := inB_t hb3
   obtain ⟨xb, hxb⟩ : ∃ xb, I.has[bn]? = some xb := ⟨_, List.getElem?_eq_getElem (by omega)⟩
   have hx3 := sumI_one I.has bn xb ok.hu hxb
   obtain ⟨G9, g9, hin9, hlt9, k9⟩ := S.frameB [1] (by decide) rfl
   refine l_do F rfl rfl (op_fn F (by kernel_rfl) (in24_any _ G9 b Ae I.ends.length ce Af I.free.length cf r Ah I.has.length ch (bn : Nat) g9) ?_)
   rintro e z9 ⟨rfl, g⟩
   have S : Sat w z9 [rest w G, box b 61 [.slice Ae I.ends.length ce, .slice Af I.free.length cf, .map (some r), .slice Ah I.has.length ch], rEl Ae ce I.ends, rFl Af cf I.free, rUl Ah ch I.has, mapA r .u64 (ps.map entM) ck, bag (ps.flatMap payRows), box b1 31 [.int .u64 pq, .int .u64 qq]] := k9 z9 [box b 61 [.slice Ae I.ends.length ce, .slice Af I.free.length cf, .map (some r), .slice Ah I.has.length ch]] rfl g
   clear g g9 k9 hin9 hlt9
   refine ⟨_, rfl, ?_⟩
   rw [hb3]
   intro a F
   refine l_pure 5 (fun L => (26, .int .i64 (bn : Nat)) :: (25, .int .i64 (an : Nat)) :: (24, .bool false) :: (23, .bool false) :: (22, .bool false) :: L) F (by kernel_rfl) fun a F => ?_
   by_cases ht4 : ((an : Nat) : Int) = ((bn : Nat) : Int)
   ·
    skip
    refine l_do F rfl rfl (op_pure F (v0 := .bool (((an : Nat) : Int) == ((bn : Nat) : Int))) (v := .bool true) (by kernel_rfl) (eqlT ht4) fun a F => ?_)
    refine l_pure 2 (fun L => (13, .bool true) :: (28, .bool true) :: L) F (by kernel_rfl) fun a F => ?_
    refine l_then ?_
    refine c_t F rfl ?_
    refine s_reg ?_
    refine l_pure 2 (fun L => (9, .int .i64 1) :: (8, .int .i64 0) :: L) F (by kernel_rfl) fun a F => ?_
    refine l_then ?_
    refine wp_ret ?_
    refine inb_r (then_r (?_))
    exact fin F [.tmp 8, .tmp 9] [.int .i64 0, .int .i64 1] rfl ⟨by kernel_rfl, by kernel_rfl, trivial⟩ (.tuple #[.int .i64 0, .int .i64 1]) rfl ⟨by rw [open_arg (by omega)], by rw [open_arg (by omega)]; exact (id_shut hps (by simp) (by simp) (by simp) (S.pick [0, 1, 2, 3, 4, 5, 6] (by decide)))⟩
   ·
    skip
    refine l_do F rfl rfl (op_pure F (v0 := .bool (((an : Nat) : Int) == ((bn : Nat) : Int))) (v := .bool false) (by kernel_rfl) (eqlF ht4) fun a F => ?_)
    refine l_pure 2 (fun L => (13, .bool false) :: (28, .bool false) :: L) F (by kernel_rfl) fun a F => ?_
    refine l_then ?_
    refine c_f F rfl ?_
    refine s_reg ?_
    refine l_pure 3 (fun L => (32, .pointer (some ⟨b, 0, none⟩)) :: (31, .pointer (some ⟨b, 0, none⟩)) :: (30, .pointer (some ⟨b, 0, none⟩)) :: L) F (by kernel_rfl) fun a F => ?_
    refine l_do F rfl rfl (op_load _ _ (some ⟨b, 0, none⟩) 0 (.slice Ae I.ends.length ce) F rfl (by kernel_rfl) (by kernel_rfl) (cBox S 1 rfl (j := 0) rfl) (fun a F => ?_))
    refine l_pure 1 (fun L => (34, .int .i64 (I.ends.length : Nat)) :: L) F (by kernel_rfl) fun a F => ?_
    by_cases ht5 : (16 : Int) ≤ ((I.ends.length : Nat) : Int)
    ·
     skip
     refine l_do F rfl rfl (op_pure F (v0 := .bool (decide (((I.ends.length : Nat) : Int) ≥ (16 : Int)))) (v := .bool true) (by kernel_rfl) (geqT ht5) fun a F => ?_)
     refine l_pure 1 (fun L => (29, .bool true) :: L) F (by kernel_rfl) fun a F => ?_
     refine l_then ?_
     refine c_t F rfl ?_
     refine s_reg ?_
     refine l_pure 2 (fun L => (9, .int .i64 4) :: (8, .int .i64 0) :: L) F (by kernel_rfl) fun a F => ?_
     refine l_then ?_
     refine wp_ret ?_
     refine inb_r (then_r (?_))
     exact fin F [.tmp 8, .tmp 9] [.int .i64 0, .int .i64 4] rfl ⟨by kernel_rfl, by kernel_rfl, trivial⟩ (.tuple #[.int .i64 0, .int .i64 4]) rfl ⟨by rw [open_full (by omega) (by omega)], by rw [open_full (by omega) (by omega)]; exact (id_shut hps (by simp) (by simp) (by simp) (S.pick [0, 1, 2, 3, 4, 5, 6] (by decide)))⟩
    ·
     skip
     refine l_do F rfl rfl (op_pure F (v0 := .bool (decide (((I.ends.length : Nat) : Int) ≥ (16 : Int)))) (v := .bool false) (by kernel_rfl) (geqF ht5) fun a F => ?_)
     refine l_pure 1 (fun L => (29, .bool false) :: L) F (by kernel_rfl) fun a F => ?_
     refine l_then ?_
     refine c_f F rfl ?_
     refine wp_seq ?_
     by_cases ht6 : (xa : Int) < (pq : Int)
     ·
      skip
      refine region_gx (fun D => fun (_ : Unit) => [rest w G, box b 61 [.slice Ae I.ends.length ce, .slice Af I.free.length cf, .map (some r), .slice Ah I.has.length ch], rEl Ae ce I.ends, rFl Af cf I.free, rUl Ah ch I.has, mapA r .u64 (ps.map entM) ck, bag (ps.flatMap payRows), box b1 31 [.int .u64 pq, .int .u64 qq]]) (fun (_ : Unit) => [.pointer (some ⟨b1, 0, none⟩), .int .u64 pq, .pointer (some ⟨b, 0, none⟩), .pointer (some ⟨b, 0, none⟩), .pointer (some ⟨b, 3, none⟩), .slice Ah I.has.length ch, .int .i64 (an : Nat), ptrA Ah (an * 1), .int .u64 xa, .bool true, .bool true, undef, undef, undef, undef, undef, undef, undef, undef, undef, undef, .bool true, .bool true]) [(1, [], [9]), (5, [], [7, 8, 9]), (7, [5], [8, 9]), (8, [5, 7], [9]), (9, [1, 5, 7, 8], [])] () rfl (by kernel_rfl) (by kernel_rfl) F S.drew ?_ ?_ ?_ ?_ ?_
      · rintro ⟨⟩; rfl
      · rintro ⟨⟩; kernel_rfl
      ·
       intro D D' x h
       cases x
       rfl
      ·
       refine ⟨?_, ?_⟩
       ·
        refine ⟨_, rfl, rfl, by kernel_rfl, ?_⟩
        rintro D ⟨⟩ a z S F
        refine ⟨by kernel_rfl, ?_⟩
        exact op_load _ _ (some ⟨b1, 0, none⟩) 0 (.int .u64 pq) F rfl (by kernel_rfl) (by kernel_rfl) (cBox S 7 rfl (j := 0) rfl) (⟨(), rfl, (SameB.refl _ _ rfl), S⟩)
       refine ⟨?_, ?_⟩
       ·
        refine ⟨_, rfl, rfl, by kernel_rfl, ?_⟩
        rintro D ⟨⟩ a z S F
        refine ⟨by kernel_rfl, ?_⟩
        exact op_load _ _ (some ⟨b, 0, none⟩) 3 (.slice Ah I.has.length ch) F rfl (by kernel_rfl) (by kernel_rfl) (cBox S 1 rfl (j := 3) rfl) (⟨(), rfl, (SameB.refl _ _ rfl), S⟩)
       refine ⟨?_, ?_⟩
       ·
        refine ⟨_, rfl, rfl, by kernel_rfl, ?_⟩
        rintro D ⟨⟩ a z S F
        refine ⟨by kernel_rfl, ?_⟩
        exact op_index _ 23 _ _ Ah I.has.length ch an 1 .i64 F rfl (by kernel_rfl) (by kernel_rfl) (by kernel_rfl) (by kernel_rfl) (get_lt hxa) (row_some S 4 rfl (m := an) (get_lt hxa)) (⟨(), rfl, (SameB.refl _ _ rfl), S⟩)
       refine ⟨?_, ?_⟩
       ·
        refine ⟨_, rfl, rfl, by kernel_rfl, ?_⟩
        rintro D ⟨⟩ a z S F
        refine ⟨by kernel_rfl, ?_⟩
        exact op_load _ _ Ah (an * 1) (.int .u64 xa) F rfl (by kernel_rfl) (by kernel_rfl) (cRec S 4 iC_len_u64 rfl 0 hxa rfl) (⟨(), rfl, (SameB.refl _ _ rfl), S⟩)
       refine ⟨?_, ?_⟩
       ·
        refine ⟨_, rfl, rfl, by kernel_rfl, ?_⟩
        rintro D ⟨⟩ a z S F
        refine ⟨by kernel_rfl, ?_⟩
        exact op_pure F (v0 := .bool (decide ((pq : Int) > (xa : Int)))) (v := .bool true) (by kernel_rfl) (gtrT ht6) ⟨(), rfl, (SameB.refl _ _ rfl), S⟩
       trivial
      ·
       rintro ⟨⟩ a z F S
       have F := F.sub (l := [(0, .pointer (some ⟨b, 0, none⟩)), (1, .int .i64 (an : Nat)), (2, .int .i64 (bn : Nat)), (7, .pointer (some ⟨b1, 0, none⟩)), (36, .bool true)]) ⟨by kernel_rfl, by kernel_rfl, by kernel_rfl, by kernel_rfl, by kernel_rfl, trivial⟩
       have S : Sat w z [rest w G, box b 61 [.slice Ae I.ends.length ce, .slice Af I.free.length cf, .map (some r), .slice Ah I.has.length ch], rEl Ae ce I.ends, rFl Af cf I.free, rUl Ah ch I.has, mapA r .u64 (ps.map entM) ck, bag (ps.flatMap payRows), box b1 31 [.int .u64 pq, .int .u64 qq]] := S
       refine then_n ?_
       refine c_t F rfl ?_
       refine s_reg ?_
       refine l_pure 2 (fun L => (9, .int .i64 12) :: (8, .int .i64 0) :: L) F (by kernel_rfl) fun a F => ?_
       refine l_then ?_
       refine wp_ret ?_
       refine inb_r (then_r (?_))
       exact fin F [.tmp 8, .tmp 9] [.int .i64 0, .int .i64 12] rfl ⟨by kernel_rfl, by kernel_rfl, trivial⟩ (.tuple #[.int .i64 0, .int .i64 12]) rfl ⟨by rw [open_under hxa hxb (by omega) (by omega) (by omega)], by rw [open_under hxa hxb (by omega) (by omega) (by omega)]; exact (id_shut hps (by simp) (by simp) (by simp) (S.pick [0, 1, 2, 3, 4, 5, 6] (by decide)))⟩
     ·
      skip
      by_cases ht7 : (xb : Int) < (qq : Int)
      ·
       skip
       refine region_gx (fun D => fun (_ : Unit) => [rest w G, box b 61 [.slice Ae I.ends.length ce, .slice Af I.free.length cf, .map (some r), .slice Ah I.has.length ch], rEl Ae ce I.ends, rFl Af cf I.free, rUl Ah ch I.has, mapA r .u64 (ps.map entM) ck, bag (ps.flatMap payRows), box b1 31 [.int .u64 pq, .int .u64 qq]]) (fun (_ : Unit) => [.pointer (some ⟨b1, 0, none⟩), .int .u64 pq, .pointer (some ⟨b, 0, none⟩), .pointer (some ⟨b, 0, none⟩), .pointer (some ⟨b, 3, none⟩), .slice Ah I.has.length ch, .int .i64 (an : Nat), ptrA Ah (an * 1), .int .u64 xa, .bool false, .bool false, .pointer (some ⟨b1, 1, none⟩), .int .u64 qq, .pointer (some ⟨b, 0, none⟩), .pointer (some ⟨b, 0, none⟩), .pointer (some ⟨b, 3, none⟩), .slice Ah I.has.length ch, .int .i64 (bn : Nat), ptrA Ah (bn * 1), .int .u64 xb, .bool true, .bool true, .bool true]) [(1, [], [9, 12, 16, 18, 19, 20]), (5, [], [7, 8, 9, 12, 16, 18, 19, 20]), (7, [5], [8, 9, 12, 16, 18, 19, 20]), (8, [5, 7], [9, 12, 16, 18, 19, 20]), (9, [1, 5, 7, 8], [12, 16, 18, 19, 20]), (12, [1, 5, 7, 8, 9], [20]), (16, [1, 5, 7, 8, 9], [18, 19, 20]), (18, [1, 5, 7, 8, 9, 16], [19, 20]), (19, [1, 5, 7, 8, 9, 16, 18], [20]), (20, [1, 5, 7, 8, 9, 12, 16, 18, 19], [])] () rfl (by kernel_rfl) (by kernel_rfl) F S.drew ?_ ?_ ?_ ?_ ?_
       · rintro ⟨⟩; rfl
       · rintro ⟨⟩; kernel_rfl
       ·
        intro D D' x h
        cases x
        rfl
       ·
        refine ⟨?_, ?_⟩
        ·
         refine ⟨_, rfl, rfl, by kernel_rfl, ?_⟩
         rintro D ⟨⟩ a z S F
         refine ⟨by kernel_rfl, ?_⟩
         exact op_load _ _ (some ⟨b1, 0, none⟩) 0 (.int .u64 pq) F rfl (by kernel_rfl) (by kernel_rfl) (cBox S 7 rfl (j := 0) rfl) (⟨(), rfl, (SameB.refl _ _ rfl), S⟩)
        refine ⟨?_, ?_⟩
        ·
         refine ⟨_, rfl, rfl, by kernel_rfl, ?_⟩
         rintro D ⟨⟩ a z S F
         refine ⟨by kernel_rfl, ?_⟩
         exact op_load _ _ (some ⟨b, 0, none⟩) 3 (.slice Ah I.has.length ch) F rfl (by kernel_rfl) (by kernel_rfl) (cBox S 1 rfl (j := 3) rfl) (⟨(), rfl, (SameB.refl _ _ rfl), S⟩)
        refine ⟨?_, ?_⟩
        ·
         refine ⟨_, rfl, rfl, by kernel_rfl, ?_⟩
         rintro D ⟨⟩ a z S F
         refine ⟨by kernel_rfl, ?_⟩
         exact op_index _ 23 _ _ Ah I.has.length ch an 1 .i64 F rfl (by kernel_rfl) (by kernel_rfl) (by kernel_rfl) (by kernel_rfl) (get_lt hxa) (row_some S 4 rfl (m := an) (get_lt hxa)) (⟨(), rfl, (SameB.refl _ _ rfl), S⟩)
        refine ⟨?_, ?_⟩
        ·
         refine ⟨_, rfl, rfl, by kernel_rfl, ?_⟩
         rintro D ⟨⟩ a z S F
         refine ⟨by kernel_rfl, ?_⟩
         exact op_load _ _ Ah (an * 1) (.int .u64 xa) F rfl (by kernel_rfl) (by kernel_rfl) (cRec S 4 iC_len_u64 rfl 0 hxa rfl) (⟨(), rfl, (SameB.refl _ _ rfl), S⟩)
        refine ⟨?_, ?_⟩
        ·
         refine ⟨_, rfl, rfl, by kernel_rfl, ?_⟩
         rintro D ⟨⟩ a z S F
         refine ⟨by kernel_rfl, ?_⟩
         exact op_pure F (v0 := .bool (decide ((pq : Int) > (xa : Int)))) (v := .bool false) (by kernel_rfl) (gtrF ht6) ⟨(), rfl, (SameB.refl _ _ rfl), S⟩
        refine ⟨?_, ?_⟩
        ·
         refine ⟨_, rfl, rfl, by kernel_rfl, ?_⟩
         rintro D ⟨⟩ a z S F
         refine ⟨by kernel_rfl, ?_⟩
         exact op_load _ _ (some ⟨b1, 0, none⟩) 1 (.int .u64 qq) F rfl (by kernel_rfl) (by kernel_rfl) (cBox S 7 rfl (j := 1) rfl) (⟨(), rfl, (SameB.refl _ _ rfl), S⟩)
        refine ⟨?_, ?_⟩
        ·
         refine ⟨_, rfl, rfl, by kernel_rfl, ?_⟩
         rintro D ⟨⟩ a z S F
         refine ⟨by kernel_rfl, ?_⟩
         exact op_load _ _ (some ⟨b, 0, none⟩) 3 (.slice Ah I.has.length ch) F rfl (by kernel_rfl) (by kernel_rfl) (cBox S 1 rfl (j := 3) rfl) (⟨(), rfl, (SameB.refl _ _ rfl), S⟩)
        refine ⟨?_, ?_⟩
        ·
         refine ⟨_, rfl, rfl, by kernel_rfl, ?_⟩
         rintro D ⟨⟩ a z S F
         refine ⟨by kernel_rfl, ?_⟩
         exact op_index _ 23 _ _ Ah I.has.length ch bn 1 .i64 F rfl (by kernel_rfl) (by kernel_rfl) (by kernel_rfl) (by kernel_rfl) (get_lt hxb) (row_some S 4 rfl (m := bn) (get_lt hxb)) (⟨(), rfl, (SameB.refl _ _ rfl), S⟩)
        refine ⟨?_, ?_⟩
        ·
         refine ⟨_, rfl, rfl, by kernel_rfl, ?_⟩
         rintro D ⟨⟩ a z S F
         refine ⟨by kernel_rfl, ?_⟩
         exact op_load _ _ Ah (bn * 1) (.int .u64 xb) F rfl (by kernel_rfl) (by kernel_rfl) (cRec S 4 iC_len_u64 rfl 0 hxb rfl) (⟨(), rfl, (SameB.refl _ _ rfl), S⟩)
        refine ⟨?_, ?_⟩
        ·
         refine ⟨_, rfl, rfl, by kernel_rfl, ?_⟩
         rintro D ⟨⟩ a z S F
         refine ⟨by kernel_rfl, ?_⟩
         exact op_pure F (v0 := .bool (decide ((qq : Int) > (xb : Int)))) (v := .bool true) (by kernel_rfl) (gtrT ht7) ⟨(), rfl, (SameB.refl _ _ rfl), S⟩
        trivial
       ·
        rintro ⟨⟩ a z F S
        have F := F.sub (l := [(0, .pointer (some ⟨b, 0, none⟩)), (1, .int .i64 (an : Nat)), (2, .int .i64 (bn : Nat)), (7, .pointer (some ⟨b1, 0, none⟩)), (36, .bool true)]) ⟨by kernel_rfl, by kernel_rfl, by kernel_rfl, by kernel_rfl, by kernel_rfl, trivial⟩
        have S : Sat w z [rest w G, box b 61 [.slice Ae I.ends.length ce, .slice Af I.free.length cf, .map (some r), .slice Ah I.has.length ch], rEl Ae ce I.ends, rFl Af cf I.free, rUl Ah ch I.has, mapA r .u64 (ps.map entM) ck, bag (ps.flatMap payRows), box b1 31 [.int .u64 pq, .int .u64 qq]] := S
        refine then_n ?_
        refine c_t F rfl ?_
        refine s_reg ?_
        refine l_pure 2 (fun L => (9, .int .i64 12) :: (8, .int .i64 0) :: L) F (by kernel_rfl) fun a F => ?_
        refine l_then ?_
        refine wp_ret ?_
        refine inb_r (then_r (?_))
        exact fin F [.tmp 8, .tmp 9] [.int .i64 0, .int .i64 12] rfl ⟨by kernel_rfl, by kernel_rfl, trivial⟩ (.tuple #[.int .i64 0, .int .i64 12]) rfl ⟨by rw [open_under hxa hxb (by omega) (by omega) (by omega)], by rw [open_under hxa hxb (by omega) (by omega) (by omega)]; exact (id_shut hps (by simp) (by simp) (by simp) (S.pick [0, 1, 2, 3, 4, 5, 6] (by decide)))⟩
      ·
       skip
       refine region_gx (fun D => fun (_ : Unit) => [rest w G, box b 61 [.slice Ae I.ends.length ce, .slice Af I.free.length cf, .map (some r), .slice Ah I.has.length ch], rEl Ae ce I.ends, rFl Af cf I.free, rUl Ah ch I.has, mapA r .u64 (ps.map entM) ck, bag (ps.flatMap payRows), box b1 31 [.int .u64 pq, .int .u64 qq]]) (fun (_ : Unit) => [.pointer (some ⟨b1, 0, none⟩), .int .u64 pq, .pointer (some ⟨b, 0, none⟩), .pointer (some ⟨b, 0, none⟩), .pointer (some ⟨b, 3, none⟩), .slice Ah I.has.length ch, .int .i64 (an : Nat), ptrA Ah (an * 1), .int .u64 xa, .bool false, .bool false, .pointer (some ⟨b1, 1, none⟩), .int .u64 qq, .pointer (some ⟨b, 0, none⟩), .pointer (some ⟨b, 0, none⟩), .pointer (some ⟨b, 3, none⟩), .slice Ah I.has.length ch, .int .i64 (bn : Nat), ptrA Ah (bn * 1), .int .u64 xb, .bool false, .bool false, .bool false]) [(1, [], [9, 12, 16, 18, 19, 20]), (5, [], [7, 8, 9, 12, 16, 18, 19, 20]), (7, [5], [8, 9, 12, 16, 18, 19, 20]), (8, [5, 7], [9, 12, 16, 18, 19, 20]), (9, [1, 5, 7, 8], [12, 16, 18, 19, 20]), (12, [1, 5, 7, 8, 9], [20]), (16, [1, 5, 7, 8, 9], [18, 19, 20]), (18, [1, 5, 7, 8, 9, 16], [19, 20]), (19, [1, 5, 7, 8, 9, 16, 18], [20]), (20, [1, 5, 7, 8, 9, 12, 16, 18, 19], [])] () rfl (by kernel_rfl) (by kernel_rfl) F S.drew ?_ ?_ ?_ ?_ ?_
       · rintro ⟨⟩; rfl
       · rintro ⟨⟩; kernel_rfl
       ·
        intro D D' x h
        cases x
        rfl
       ·
        refine ⟨?_, ?_⟩
        ·
         refine ⟨_, rfl, rfl, by kernel_rfl, ?_⟩
         rintro D ⟨⟩ a z S F
         refine ⟨by kernel_rfl, ?_⟩
         exact op_load _ _ (some ⟨b1, 0, none⟩) 0 (.int .u64 pq) F rfl (by kernel_rfl) (by kernel_rfl) (cBox S 7 rfl (j := 0) rfl) (⟨(), rfl, (SameB.refl _ _ rfl), S⟩)
        refine ⟨?_, ?_⟩
        ·
         refine ⟨_, rfl, rfl, by kernel_rfl, ?_⟩
         rintro D ⟨⟩ a z S F
         refine ⟨by kernel_rfl, ?_⟩
         exact op_load _ _ (some ⟨b, 0, none⟩) 3 (.slice Ah I.has.length ch) F rfl (by kernel_rfl) (by kernel_rfl) (cBox S 1 rfl (j := 3) rfl) (⟨(), rfl, (SameB.refl _ _ rfl), S⟩)
        refine ⟨?_, ?_⟩
        ·
         refine ⟨_, rfl, rfl, by kernel_rfl, ?_⟩
         rintro D ⟨⟩ a z S F
         refine ⟨by kernel_rfl, ?_⟩
         exact op_index _ 23 _ _ Ah I.has.length ch an 1 .i64 F rfl (by kernel_rfl) (by kernel_rfl) (by kernel_rfl) (by kernel_rfl) (get_lt hxa) (row_some S 4 rfl (m := an) (get_lt hxa)) (⟨(), rfl, (SameB.refl _ _ rfl), S⟩)
        refine ⟨?_, ?_⟩
        ·
         refine ⟨_, rfl, rfl, by kernel_rfl, ?_⟩
         rintro D ⟨⟩ a z S F
         refine ⟨by kernel_rfl, ?_⟩
         exact op_load _ _ Ah (an * 1) (.int .u64 xa) F rfl (by kernel_rfl) (by kernel_rfl) (cRec S 4 iC_len_u64 rfl 0 hxa rfl) (⟨(), rfl, (SameB.refl _ _ rfl), S⟩)
        refine ⟨?_, ?_⟩
        ·
         refine ⟨_, rfl, rfl, by kernel_rfl, ?_⟩
         rintro D ⟨⟩ a z S F
         refine ⟨by kernel_rfl, ?_⟩
         exact op_pure F (v0 := .bool (decide ((pq : Int) > (xa : Int)))) (v := .bool false) (by kernel_rfl) (gtrF ht6) ⟨(), rfl, (SameB.refl _ _ rfl), S⟩
        refine ⟨?_, ?_⟩
        ·
         refine ⟨_, rfl, rfl, by kernel_rfl, ?_⟩
         rintro D ⟨⟩ a z S F
         refine ⟨by kernel_rfl, ?_⟩
         exact op_load _ _ (some ⟨b1, 0, none⟩) 1 (.int .u64 qq) F rfl (by kernel_rfl) (by kernel_rfl) (cBox S 7 rfl (j := 1) rfl) (⟨(), rfl, (SameB.refl _ _ rfl), S⟩)
        refine ⟨?_, ?_⟩
        ·
         refine ⟨_, rfl, rfl, by kernel_rfl, ?_⟩
         rintro D ⟨⟩ a z S F
         refine ⟨by kernel_rfl, ?_⟩
         exact op_load _ _ (some ⟨b, 0, none⟩) 3 (.slice Ah I.has.length ch) F rfl (by kernel_rfl) (by kernel_rfl) (cBox S 1 rfl (j := 3) rfl) (⟨(), rfl, (SameB.refl _ _ rfl), S⟩)
        refine ⟨?_, ?_⟩
        ·
         refine ⟨_, rfl, rfl, by kernel_rfl, ?_⟩
         rintro D ⟨⟩ a z S F
         refine ⟨by kernel_rfl, ?_⟩
         exact op_index _ 23 _ _ Ah I.has.length ch bn 1 .i64 F rfl (by kernel_rfl) (by kernel_rfl) (by kernel_rfl) (by kernel_rfl) (get_lt hxb) (row_some S 4 rfl (m := bn) (get_lt hxb)) (⟨(), rfl, (SameB.refl _ _ rfl), S⟩)
        refine ⟨?_, ?_⟩
        ·
         refine ⟨_, rfl, rfl, by kernel_rfl, ?_⟩
         rintro D ⟨⟩ a z S F
         refine ⟨by kernel_rfl, ?_⟩
         exact op_load _ _ Ah (bn * 1) (.int .u64 xb) F rfl (by kernel_rfl) (by kernel_rfl) (cRec S 4 iC_len_u64 rfl 0 hxb rfl) (⟨(), rfl, (SameB.refl _ _ rfl), S⟩)
        refine ⟨?_, ?_⟩
        ·
         refine ⟨_, rfl, rfl, by kernel_rfl, ?_⟩
         rintro D ⟨⟩ a z S F
         refine ⟨by kernel_rfl, ?_⟩
         exact op_pure F (v0 := .bool (decide ((qq : Int) > (xb : Int)))) (v := .bool false) (by kernel_rfl) (gtrF ht7) ⟨(), rfl, (SameB.refl _ _ rfl), S⟩
        trivial
       ·
        rintro ⟨⟩ a z F S
        have F := F.sub (l := [(0, .pointer (some ⟨b, 0, none⟩)), (1, .int .i64 (an : Nat)), (2, .int .i64 (bn : Nat)), (7, .pointer (some ⟨b1, 0, none⟩)), (36, .bool false)]) ⟨by kernel_rfl, by kernel_rfl, by kernel_rfl, by kernel_rfl, by kernel_rfl, trivial⟩
        have S : Sat w z [rest w G, box b 61 [.slice Ae I.ends.length ce, .slice Af I.free.length cf, .map (some r), .slice Ah I.has.length ch], rEl Ae ce I.ends, rFl Af cf I.free, rUl Ah ch I.has, mapA r .u64 (ps.map entM) ck, bag (ps.flatMap payRows), box b1 31 [.int .u64 pq, .int .u64 qq]] := S
        refine then_n ?_
        refine c_f F rfl ?_
        refine wp_skip ?_
        refine inb_n ?_
        refine then_n ?_
        refine wp_seq ?_
        refine region_gx (fun D => fun (_ : Unit) => [rest w G, box b 61 [.slice Ae I.ends.length ce, .slice Af I.free.length cf, .map (some r), .slice Ah I.has.length ch], rEl Ae ce I.ends, rFl Af cf I.free, bif D 11 then rU Ah I.has.length ch (I.has.set an (xa - pq)) else rUl Ah ch I.has, mapA r .u64 (ps.map entM) ck, bag (ps.flatMap payRows), box b1 31 [.int .u64 pq, .int .u64 qq]]) (fun (_ : Unit) => [.pointer (some ⟨b, 0, none⟩), .pointer (some ⟨b, 0, none⟩), .pointer (some ⟨b, 3, none⟩), .slice Ah I.has.length ch, .int .i64 (an : Nat), ptrA Ah (an * 1), .int .u64 xa, .pointer (some ⟨b1, 0, none⟩), .int .u64 pq, .int .u64 (xa - pq), ptrA Ah (an * 1), undef]) [(3, [], [5, 6, 9, 10, 11]), (5, [3], [6, 9, 10, 11]), (6, [3, 5], [9, 10, 11]), (8, [], [9, 10, 11]), (9, [3, 5, 6, 8], [10, 11]), (10, [3, 5, 6, 8, 9], [11]), (11, [3, 5, 6, 8, 9, 10], [])] () rfl (by kernel_rfl) (by kernel_rfl) F S.drew ?_ ?_ ?_ ?_ ?_
        · rintro ⟨⟩; rfl
        · rintro ⟨⟩; kernel_rfl
        ·
         intro D D' x h
         cases x
         simp only [h 11 (by decide)]
        ·
         refine ⟨?_, ?_⟩
         ·
          refine ⟨_, rfl, rfl, by kernel_rfl, ?_⟩
          rintro D ⟨⟩ a z S F
          refine ⟨by kernel_rfl, ?_⟩
          exact op_load _ _ (some ⟨b, 0, none⟩) 3 (.slice Ah I.has.length ch) F rfl (by kernel_rfl) (by kernel_rfl) (cBox S 1 rfl (j := 3) rfl) (⟨(), rfl, (SameB.refl _ _ rfl), S⟩)
         refine ⟨?_, ?_⟩
         ·
          refine ⟨_, rfl, rfl, by kernel_rfl, ?_⟩
          rintro D ⟨⟩ a z S F
          refine ⟨by kernel_rfl, ?_⟩
          exact op_index _ 23 _ _ Ah I.has.length ch an 1 .i64 F rfl (by kernel_rfl) (by kernel_rfl) (by kernel_rfl) (by kernel_rfl) (get_lt hxa) (row_some S 4 rfl (m := an) (get_lt hxa)) (⟨(), rfl, (SameB.refl _ _ rfl), S⟩)
         refine ⟨?_, ?_⟩
         ·
          refine ⟨_, rfl, rfl, by kernel_rfl, ?_⟩
          rintro D ⟨⟩ a z S F
          refine ⟨by kernel_rfl, ?_⟩
          exact op_load _ _ Ah (an * 1) (.int .u64 xa) F rfl (by kernel_rfl) (by kernel_rfl) (cRec S 4 iC_len_u64 rfl 0 hxa rfl) (⟨(), rfl, (SameB.refl _ _ rfl), S⟩)
         refine ⟨?_, ?_⟩
         ·
          refine ⟨_, rfl, rfl, by kernel_rfl, ?_⟩
          rintro D ⟨⟩ a z S F
          refine ⟨by kernel_rfl, ?_⟩
          exact op_load _ _ (some ⟨b1, 0, none⟩) 0 (.int .u64 pq) F rfl (by kernel_rfl) (by kernel_rfl) (cBox S 7 rfl (j := 0) rfl) (⟨(), rfl, (SameB.refl _ _ rfl), S⟩)
         refine ⟨?_, ?_⟩
         ·
          refine ⟨_, rfl, rfl, by kernel_rfl, ?_⟩
          rintro D ⟨⟩ a z S F
          refine ⟨by kernel_rfl, ?_⟩
          exact op_pure F (v0 := .int .u64 (IntKind.wrap .u64 (xa - pq))) (v := .int .u64 (xa - pq)) (by kernel_rfl) (wr_u64 (by omega) (by omega)) ⟨(), rfl, (SameB.refl _ _ rfl), S⟩
         refine ⟨?_, ?_⟩
         ·
          refine ⟨_, rfl, rfl, by kernel_rfl, ?_⟩
          rintro D ⟨⟩ a z S F
          refine ⟨by kernel_rfl, ?_⟩
          exact op_index _ 23 _ _ Ah I.has.length ch an 1 .i64 F rfl (by kernel_rfl) (by kernel_rfl) (by kernel_rfl) (by kernel_rfl) (get_lt hxa) (row_some S 4 rfl (m := an) (get_lt hxa)) (⟨(), rfl, (SameB.refl _ _ rfl), S⟩)
         refine ⟨?_, ?_⟩
         ·
          refine ⟨_, rfl, rfl, by kernel_rfl, ?_⟩
          rintro D ⟨⟩ a z S F
          refine ⟨by kernel_rfl, ?_⟩
          exact op_storeRec S 4 _ _ _ Ah an 1 0 (.int .u64 (xa - pq)) (xa - pq) F iC_len_u64 hxa rfl rfl (by kernel_rfl) (by kernel_rfl) (by kernel_rfl) (by kernel_rfl) (by kernel_rfl) (by kernel_rfl) (by kernel_rfl) fun z S => ⟨(), rfl, (SameB.refl _ _ rfl), S⟩
         trivial
        ·
         rintro ⟨⟩ a z F S
         have F := F.sub (l := [(0, .pointer (some ⟨b, 0, none⟩)), (1, .int .i64 (an : Nat)), (2, .int .i64 (bn : Nat)), (7, .pointer (some ⟨b1, 0, none⟩))]) ⟨by kernel_rfl, by kernel_rfl, by kernel_rfl, by kernel_rfl, trivial⟩
         have S : Sat w z [rest w G, box b 61 [.slice Ae I.ends.length ce, .slice Af I.free.length cf, .map (some r), .slice Ah I.has.length ch], rEl Ae ce I.ends, rFl Af cf I.free, rU Ah I.has.length ch (I.has.set an (xa - pq)), mapA r .u64 (ps.map entM) ck, bag (ps.flatMap payRows), box b1 31 [.int .u64 pq, .int .u64 qq]] := S
         refine then_n ?_
         refine wp_seq ?_
         refine region_gx (fun D => fun (_ : Unit) => [rest w G, box b 61 [.slice Ae I.ends.length ce, .slice Af I.free.length cf, .map (some r), .slice Ah I.has.length ch], rEl Ae ce I.ends, rFl Af cf I.free, bif D 11 then rU Ah I.has.length ch ((I.has.set an (xa - pq)).set bn (xb - qq)) else rU Ah I.has.length ch (I.has.set an (xa - pq)), mapA r .u64 (ps.map entM) ck, bag (ps.flatMap payRows), box b1 31 [.int .u64 pq, .int .u64 qq]]) (fun (_ : Unit) => [.pointer (some ⟨b, 0, none⟩), .pointer (some ⟨b, 0, none⟩), .pointer (some ⟨b, 3, none⟩), .slice Ah I.has.length ch, .int .i64 (bn : Nat), ptrA Ah (bn * 1), .int .u64 xb, .pointer (some ⟨b1, 1, none⟩), .int .u64 qq, .int .u64 (xb - qq), ptrA Ah (bn * 1), undef]) [(3, [], [5, 6, 9, 10, 11]), (5, [3], [6, 9, 10, 11]), (6, [3, 5], [9, 10, 11]), (8, [], [9, 10, 11]), (9, [3, 5, 6, 8], [10, 11]), (10, [3, 5, 6, 8, 9], [11]), (11, [3, 5, 6, 8, 9, 10], [])] () rfl (by kernel_rfl) (by kernel_rfl) F S.drew ?_ ?_ ?_ ?_ ?_
         · rintro ⟨⟩; rfl
         · rintro ⟨⟩; kernel_rfl
         ·
          intro D D' x h
          cases x
          simp only [h 11 (by decide)]
         ·
          refine ⟨?_, ?_⟩
          ·
           refine ⟨_, rfl, rfl, by kernel_rfl, ?_⟩
           rintro D ⟨⟩ a z S F
           refine ⟨by kernel_rfl, ?_⟩
           exact op_load _ _ (some ⟨b, 0, none⟩) 3 (.slice Ah I.has.length ch) F rfl (by kernel_rfl) (by kernel_rfl) (cBox S 1 rfl (j := 3) rfl) (⟨(), rfl, (SameB.refl _ _ rfl), S⟩)
          refine ⟨?_, ?_⟩
          ·
           refine ⟨_, rfl, rfl, by kernel_rfl, ?_⟩
           rintro D ⟨⟩ a z S F
           refine ⟨by kernel_rfl, ?_⟩
           exact op_index _ 23 _ _ Ah I.has.length ch bn 1 .i64 F rfl (by kernel_rfl) (by kernel_rfl) (by kernel_rfl) (by kernel_rfl) (by have h9 := get_lt (set_ne_at (m := an) (y := (xa - pq)) hxb (by omega)); (try simp only [List.length_set] at h9); omega) (row_some S 4 rfl (m := bn) (by have h9 := get_lt (set_ne_at (m := an) (y := (xa - pq)) hxb (by omega)); (try simp only [List.length_set] at h9); omega)) (⟨(), rfl, (SameB.refl _ _ rfl), S⟩)
          refine ⟨?_, ?_⟩
          ·
           refine ⟨_, rfl, rfl, by kernel_rfl, ?_⟩
           rintro D ⟨⟩ a z S F
           refine ⟨by kernel_rfl, ?_⟩
           exact op_load _ _ Ah (bn * 1) (.int .u64 xb) F rfl (by kernel_rfl) (by kernel_rfl) (cRec S 4 iC_len_u64 rfl 0 (set_ne_at (m := an) (y := (xa - pq)) hxb (by omega)) rfl) (⟨(), rfl, (SameB.refl _ _ rfl), S⟩)
          refine ⟨?_, ?_⟩
          ·
           refine ⟨_, rfl, rfl, by kernel_rfl, ?_⟩
           rintro D ⟨⟩ a z S F
           refine ⟨by kernel_rfl, ?_⟩
           exact op_load _ _ (some ⟨b1, 0, none⟩) 1 (.int .u64 qq) F rfl (by kernel_rfl) (by kernel_rfl) (cBox S 7 rfl (j := 1) rfl) (⟨(), rfl, (SameB.refl _ _ rfl), S⟩)
          refine ⟨?_, ?_⟩
          ·
           refine ⟨_, rfl, rfl, by kernel_rfl, ?_⟩
           rintro D ⟨⟩ a z S F
           refine ⟨by kernel_rfl, ?_⟩
           exact op_pure F (v0 := .int .u64 (IntKind.wrap .u64 (xb - qq))) (v := .int .u64 (xb - qq)) (by kernel_rfl) (wr_u64 (by omega) (by omega)) ⟨(), rfl, (SameB.refl _ _ rfl), S⟩
          refine ⟨?_, ?_⟩
          ·
           refine ⟨_, rfl, rfl, by kernel_rfl, ?_⟩
           rintro D ⟨⟩ a z S F
           refine ⟨by kernel_rfl, ?_⟩
           exact op_index _ 23 _ _ Ah I.has.length ch bn 1 .i64 F rfl (by kernel_rfl) (by kernel_rfl) (by kernel_rfl) (by kernel_rfl) (by have h9 := get_lt (set_ne_at (m := an) (y := (xa - pq)) hxb (by omega)); (try simp only [List.length_set] at h9); omega) (row_some S 4 rfl (m := bn) (by have h9 := get_lt (set_ne_at (m := an) (y := (xa - pq)) hxb (by omega)); (try simp only [List.length_set] at h9); omega)) (⟨(), rfl, (SameB.refl _ _ rfl), S⟩)
          refine ⟨?_, ?_⟩
          ·
           refine ⟨_, rfl, rfl, by kernel_rfl, ?_⟩
           rintro D ⟨⟩ a z S F
           refine ⟨by kernel_rfl, ?_⟩
           exact op_storeRec S 4 _ _ _ Ah bn 1 0 (.int .u64 (xb - qq)) (xb - qq) F iC_len_u64 (set_ne_at (m := an) (y := (xa - pq)) hxb (by omega)) rfl rfl (by kernel_rfl) (by kernel_rfl) (by kernel_rfl) (by kernel_rfl) (by kernel_rfl) (by kernel_rfl) (by kernel_rfl) fun z S => ⟨(), rfl, (SameB.refl _ _ rfl), S⟩
          trivial
         ·
          rintro ⟨⟩ a z F S
          have F := F.sub (l := [(0, .pointer (some ⟨b, 0, none⟩)), (1, .int .i64 (an : Nat)), (2, .int .i64 (bn : Nat)), (7, .pointer (some ⟨b1, 0, none⟩))]) ⟨by kernel_rfl, by kernel_rfl, by kernel_rfl, by kernel_rfl, trivial⟩
          have S : Sat w z [rest w G, box b 61 [.slice Ae I.ends.length ce, .slice Af I.free.length cf, .map (some r), .slice Ah I.has.length ch], rEl Ae ce I.ends, rFl Af cf I.free, rU Ah I.has.length ch ((I.has.set an (xa - pq)).set bn (xb - qq)), mapA r .u64 (ps.map entM) ck, bag (ps.flatMap payRows), box b1 31 [.int .u64 pq, .int .u64 qq]] := S
          refine then_n ?_
          refine wp_seq ?_
          have S := S.pushEmp.pushEmp
          refine region_gx (fun D => fun ((b8, A9, c10, b11, A12, c13) : Nat × Option Addr × Nat × Nat × Option Addr × Nat) => [rest w G, bif D 23 then box b 61 [.slice A9 ((I.ends ++ ([((an, bn) : Nat × Nat)] : List (Nat × Nat))).length) c10, .slice A12 ((I.free ++ ([((pq, qq) : Int × Int)] : List (Int × Int))).length) c13, .map (some r), .slice Ah I.has.length ch] else (bif D 20 then box b 61 [.slice A9 ((I.ends ++ ([((an, bn) : Nat × Nat)] : List (Nat × Nat))).length) c10, .slice Af I.free.length cf, .map (some r), .slice Ah I.has.length ch] else box b 61 [.slice Ae I.ends.length ce, .slice Af I.free.length cf, .map (some r), .slice Ah I.has.length ch]), bif D 10 then rEl A9 c10 (I.ends ++ ([((an, bn) : Nat × Nat)] : List (Nat × Nat))) else rEl Ae ce I.ends, bif D 17 then rFl A12 c13 (I.free ++ ([((pq, qq) : Int × Int)] : List (Int × Int))) else rFl Af cf I.free, rU Ah I.has.length ch ((I.has.set an (xa - pq)).set bn (xb - qq)), mapA r .u64 (ps.map entM) ck, bag (ps.flatMap payRows), box b1 31 [.int .u64 pq, .int .u64 qq], bif D 9 then rE (some ⟨b8, 0, none⟩) 1 1 ([((an, bn) : Nat × Nat)] : List (Nat × Nat)) else emp, bif D 16 then rF (some ⟨b11, 0, none⟩) 1 1 ([((pq, qq) : Int × Int)] : List (Int × Int)) else emp]) (fun ((b8, A9, c10, b11, A12, c13) : Nat × Option Addr × Nat × Nat × Option Addr × Nat) => [.pointer (some ⟨b, 0, none⟩), .pointer (some ⟨b, 0, none⟩), .pointer (some ⟨b, 0, none⟩), .pointer (some ⟨b, 0, none⟩), .pointer (some ⟨b, 0, none⟩), .slice Ae I.ends.length ce, .int .i64 (an : Nat), .int .i64 (bn : Nat), .agg #[.int .i64 (an : Nat), .int .i64 (bn : Nat)], .slice (some ⟨b8, 0, none⟩) 1 1, .slice A9 ((I.ends ++ ([((an, bn) : Nat × Nat)] : List (Nat × Nat))).length) c10, .pointer (some ⟨b, 0, none⟩), .pointer (some ⟨b, 0, none⟩), .pointer (some ⟨b, 1, none⟩), .slice Af I.free.length cf, .agg #[.int .u64 pq, .int .u64 qq], .slice (some ⟨b11, 0, none⟩) 1 1, .slice A12 ((I.free ++ ([((pq, qq) : Int × Int)] : List (Int × Int))).length) c13, .pointer (some ⟨b, 0, none⟩), .pointer (some ⟨b, 0, none⟩), undef, .pointer (some ⟨b, 0, none⟩), .pointer (some ⟨b, 1, none⟩), undef]) [(5, [], [10, 17, 20, 23]), (9, [], [10, 17, 20, 23]), (10, [5, 9], [17, 20, 23]), (14, [], [17, 20, 23]), (15, [], [16, 17, 20, 23]), (16, [15], [17, 20, 23]), (17, [5, 9, 10, 14, 15, 16], [20, 23]), (20, [5, 9, 10, 14, 15, 16, 17], [23]), (23, [5, 9, 10, 14, 15, 16, 17, 20], [])] (0, none, 0, 0, none, 0) rfl (by kernel_rfl) (by kernel_rfl) F S.drew ?_ ?_ ?_ ?_ ?_
          · rintro ⟨b8, A9, c10, b11, A12, c13⟩; rfl
          · rintro ⟨b8, A9, c10, b11, A12, c13⟩; kernel_rfl
          ·
           intro D D' x h
           obtain ⟨b8, A9, c10, b11, A12, c13⟩ := x
           simp only [h 9 (by decide), h 10 (by decide), h 16 (by decide), h 17 (by decide), h 20 (by decide), h 23 (by decide)]
          ·
           refine ⟨?_, ?_⟩
           ·
            refine ⟨_, rfl, rfl, by kernel_rfl, ?_⟩
            rintro D ⟨b8, A9, c10, b11, A12, c13⟩ a z S F
            refine ⟨by kernel_rfl, ?_⟩
            exact op_load _ _ (some ⟨b, 0, none⟩) 0 (.slice Ae I.ends.length ce) F rfl (by kernel_rfl) (by kernel_rfl) (cBox S 1 rfl (j := 0) rfl) (⟨(b8, A9, c10, b11, A12, c13), rfl, (SameB.refl _ _ rfl), S⟩)
           refine ⟨?_, ?_⟩
           ·
            refine ⟨_, rfl, rfl, by kernel_rfl, ?_⟩
            rintro D ⟨b8, A9, c10, b11, A12, c13⟩ a z S F
            refine ⟨by kernel_rfl, ?_⟩
            exact op_buildSliceF S 8 rfl _ 1 _ 63 2 enC ([((an, bn) : Nat × Nat)] : List (Nat × Nat)) F rfl (by kernel_rfl) (by kernel_rfl) (by kernel_rfl) (by unfold maxLen; omega) fun y14 z S => ⟨(y14, A9, c10, b11, A12, c13), rfl, ⟨rfl, rfl, rfl, rfl, rfl, rfl, rfl, rfl, rfl, trivial, trivial, rfl, rfl, rfl, rfl, rfl, rfl, trivial, trivial, trivial, trivial, trivial, trivial, trivial, trivial⟩, S⟩
           refine ⟨?_, ?_⟩
           ·
            refine ⟨_, rfl, rfl, by kernel_rfl, ?_⟩
            rintro D ⟨b8, A9, c10, b11, A12, c13⟩ a z S F
            refine ⟨by kernel_rfl, ?_⟩
            exact op_append S 2 _ _ _ 63 (.agg #[.int .i64 0, .int .i64 0]) 2 16 I.ends ([((an, bn) : Nat × Nat)] : List (Nat × Nat)) enC (some ⟨b8, 0, none⟩) 1 F enC_len (fun _ => rfl) rfl rfl (by kernel_rfl) (by kernel_rfl) rfl rfl rfl (by kernel_rfl) (by kernel_rfl) (row_none (S.rowOf (i := 8) rfl)) (src_row (S.rowOf (i := 8) rfl)) (by first | (have := ok.fl; simp; omega) | (simp; omega)) fun y15 y16 z S => ⟨(b8, y15, y16, b11, A12, c13), rfl, ⟨rfl, rfl, rfl, rfl, rfl, rfl, rfl, rfl, rfl, rfl, trivial, rfl, rfl, rfl, rfl, rfl, rfl, trivial, trivial, trivial, trivial, trivial, trivial, trivial, trivial⟩, S⟩
           refine ⟨?_, ?_⟩
           ·
            refine ⟨_, rfl, rfl, by kernel_rfl, ?_⟩
            rintro D ⟨b8, A9, c10, b11, A12, c13⟩ a z S F
            refine ⟨by kernel_rfl, ?_⟩
            exact op_load _ _ (some ⟨b, 0, none⟩) 1 (.slice Af I.free.length cf) F rfl (by kernel_rfl) (by kernel_rfl) (cBox S 1 rfl (j := 1) rfl) (⟨(b8, A9, c10, b11, A12, c13), rfl, (SameB.refl _ _ rfl), S⟩)
           refine ⟨?_, ?_⟩
           ·
            refine ⟨_, rfl, rfl, by kernel_rfl, ?_⟩
            rintro D ⟨b8, A9, c10, b11, A12, c13⟩ a z S F
            refine ⟨by kernel_rfl, ?_⟩
            exact op_loadK _ _ (some ⟨b1, 0, none⟩) 0 [.int .u64 pq, .int .u64 qq] F rfl (by kernel_rfl) (by kernel_rfl) (by kernel_rfl) (by simp) (cBoxK S 7 rfl 0 (by kernel_rfl)) (⟨(b8, A9, c10, b11, A12, c13), rfl, (SameB.refl _ _ rfl), S⟩)
           refine ⟨?_, ?_⟩
           ·
            refine ⟨_, rfl, rfl, by kernel_rfl, ?_⟩
            rintro D ⟨b8, A9, c10, b11, A12, c13⟩ a z S F
            refine ⟨by kernel_rfl, ?_⟩
            exact op_buildSliceF S 9 rfl _ 1 _ 31 2 frC ([((pq, qq) : Int × Int)] : List (Int × Int)) F rfl (by kernel_rfl) (by kernel_rfl) (by kernel_rfl) (by unfold maxLen; omega) fun y17 z S => ⟨(b8, A9, c10, y17, A12, c13), rfl, ⟨rfl, rfl, rfl, rfl, rfl, rfl, rfl, rfl, rfl, rfl, rfl, rfl, rfl, rfl, rfl, rfl, trivial, trivial, trivial, trivial, trivial, trivial, trivial, trivial, trivial⟩, S⟩
           refine ⟨?_, ?_⟩
           ·
            refine ⟨_, rfl, rfl, by kernel_rfl, ?_⟩
            rintro D ⟨b8, A9, c10, b11, A12, c13⟩ a z S F
            refine ⟨by kernel_rfl, ?_⟩
            exact op_append S 3 _ _ _ 31 (.agg #[.int .u64 0, .int .u64 0]) 2 16 I.free ([((pq, qq) : Int × Int)] : List (Int × Int)) frC (some ⟨b11, 0, none⟩) 1 F frC_len (fun _ => rfl) rfl rfl (by kernel_rfl) (by kernel_rfl) rfl rfl rfl (by kernel_rfl) (by kernel_rfl) (row_none (S.rowOf (i := 9) rfl)) (src_row (S.rowOf (i := 9) rfl)) (by first | (have := ok.fl; simp; omega) | (simp; omega)) fun y18 y19 z S => ⟨(b8, A9, c10, b11, y18, y19), rfl, ⟨rfl, rfl, rfl, rfl, rfl, rfl, rfl, rfl, rfl, rfl, rfl, rfl, rfl, rfl, rfl, rfl, rfl, trivial, trivial, trivial, trivial, trivial, trivial, trivial, trivial⟩, S⟩
           refine ⟨?_, ?_⟩
           ·
            refine ⟨_, rfl, rfl, by kernel_rfl, ?_⟩
            rintro D ⟨b8, A9, c10, b11, A12, c13⟩ a z S F
            refine ⟨by kernel_rfl, ?_⟩
            exact op_storeB S 1 _ _ _ b 0 (.slice A9 ((I.ends ++ ([((an, bn) : Nat × Nat)] : List (Nat × Nat))).length) c10) F rfl rfl (by kernel_rfl) (by kernel_rfl) (by kernel_rfl) (by kernel_rfl) (by kernel_rfl) fun z S => ⟨(b8, A9, c10, b11, A12, c13), rfl, (SameB.refl _ _ rfl), S⟩
           refine ⟨?_, ?_⟩
           ·
            refine ⟨_, rfl, rfl, by kernel_rfl, ?_⟩
            rintro D ⟨b8, A9, c10, b11, A12, c13⟩ a z S F
            refine ⟨by kernel_rfl, ?_⟩
            exact op_storeB S 1 _ _ _ b 1 (.slice A12 ((I.free ++ ([((pq, qq) : Int × Int)] : List (Int × Int))).length) c13) F rfl rfl (by kernel_rfl) (by kernel_rfl) (by kernel_rfl) (by kernel_rfl) (by kernel_rfl) fun z S => ⟨(b8, A9, c10, b11, A12, c13), rfl, (SameB.refl _ _ rfl), S⟩
           trivial
          ·
           rintro ⟨b8, A9, c10, b11, A12, c13⟩ a z F S
           have F := F.sub (l := [(0, .pointer (some ⟨b, 0, none⟩))]) ⟨by kernel_rfl, trivial⟩
           have S : Sat w z [rest w G, box b 61 [.slice A9 ((I.ends ++ ([((an, bn) : Nat × Nat)] : List (Nat × Nat))).length) c10, .slice A12 ((I.free ++ ([((pq, qq) : Int × Int)] : List (Int × Int))).length) c13, .map (some r), .slice Ah I.has.length ch], rEl A9 c10 (I.ends ++ ([((an, bn) : Nat × Nat)] : List (Nat × Nat))), rFl A12 c13 (I.free ++ ([((pq, qq) : Int × Int)] : List (Int × Int))), rU Ah I.has.length ch ((I.has.set an (xa - pq)).set bn (xb - qq)), mapA r .u64 (ps.map entM) ck, bag (ps.flatMap payRows), box b1 31 [.int .u64 pq, .int .u64 qq], rE (some ⟨b8, 0, none⟩) 1 1 ([((an, bn) : Nat × Nat)] : List (Nat × Nat)), rF (some ⟨b11, 0, none⟩) 1 1 ([((pq, qq) : Int × Int)] : List (Int × Int))] := S
           have hlen9 : (I.ends ++ ([((an, bn) : Nat × Nat)] : List (Nat × Nat))).length = I.ends.length + 1 := by simp
           refine then_n ?_
           refine s_reg ?_
           refine l_pure 3 (fun L => (105, .pointer (some ⟨b, 0, none⟩)) :: (104, .pointer (some ⟨b, 0, none⟩)) :: (103, .pointer (some ⟨b, 0, none⟩)) :: L) F (by kernel_rfl) fun a F => ?_
           refine l_do F rfl rfl (op_load _ _ (some ⟨b, 0, none⟩) 0 (.slice A9 ((I.ends ++ ([((an, bn) : Nat × Nat)] : List (Nat × Nat))).length) c10) F rfl (by kernel_rfl) (by kernel_rfl) (cBox S 1 rfl (j := 0) rfl) (fun a F => ?_))
           refine l_pure 1 (fun L => (107, .int .i64 ((I.ends ++ ([((an, bn) : Nat × Nat)] : List (Nat × Nat))).length : Nat)) :: L) F (by kernel_rfl) fun a F => ?_
           refine l_do F rfl rfl (op_pure F (v0 := .int .i64 (IntKind.wrap .i64 (((I.ends ++ ([((an, bn) : Nat × Nat)] : List (Nat × Nat))).length : Nat) - 1))) (v := .int .i64 ((I.ends ++ ([((an, bn) : Nat × Nat)] : List (Nat × Nat))).length - 1 : Nat)) (by kernel_rfl) (wrn_i64 (by omega) (by omega) (by omega)) fun a F => ?_)
           refine l_pure 2 (fun L => (9, .int .i64 0) :: (8, .int .i64 ((I.ends ++ ([((an, bn) : Nat × Nat)] : List (Nat × Nat))).length - 1 : Nat)) :: L) F (by kernel_rfl) fun a F => ?_
           refine l_then ?_
           refine wp_ret ?_
           exact fin F [.tmp 8, .tmp 9] [.int .i64 ((I.ends ++ ([((an, bn) : Nat × Nat)] : List (Nat × Nat))).length - 1 : Nat), .int .i64 0] rfl ⟨by kernel_rfl, by kernel_rfl, trivial⟩ (.tuple #[.int .i64 ((I.ends ++ ([((an, bn) : Nat × Nat)] : List (Nat × Nat))).length - 1 : Nat), .int .i64 0]) rfl ⟨by rw [open_ok hxa hxb (by omega) (by omega) (by omega)]; simp, by rw [open_ok hxa hxb (by omega) (by omega) (by omega)]; exact (id_shut hps (by simp) (by simp) (by simp) (S.pick [0, 1, 2, 3, 4, 5, 6] (by decide)))⟩
set_option maxRecDepth 100000 in
set_option maxHeartbeats 4000000 in
theorem put24_any (w : World) (G : Nat → Prop) (b : Nat) (I : Idl) (ok : IOk I) (hS : Sat w w [idA b I, rest w G]) (cid who am : Int) (ham : U64 am) : Calls Try.prog 21 #[.pointer (some ⟨b, 0, none⟩), .int .i64 cid, .int .i64 who, .int .u64 am] w fun e w' => e = .returned (.int .i64 (putP I cid who am).2) ∧ Sat w w' [idA b (putP I cid who am).1, rest w G] := by
 have ham2 := ham
 unfold U64 at ham2
 refine enter 58 Try.func21 rfl rfl rfl fun a F => ?_
 obtain ⟨Ae, ce, Af, cf, Ah, ch, r, ck, ps, hps, S⟩ := id_open hS
 refine s_reg ?_
 refine l_pure 1 (fun L => (8, .int .i64 0) :: L) F (by kernel_rfl) fun a F => ?_
 refine l_then ?_
 refine s_reg ?_
 refine l_pure 3 (fun L => (14, .int .i64 who) :: (13, .int .i64 cid) :: (12, .pointer (some ⟨b, 0, none⟩)) :: L) F (by kernel_rfl) fun a F => ?_
 rcases side_cases24 I.ends cid who with ⟨hsd, hbad⟩ | ⟨nn, pa, qa, rfl, rfl, he, hsd⟩ | ⟨nn, pa, qa, rfl, rfl, he, hpq, hsd⟩ | ⟨nn, pa, qa, rfl, he, hw1, hw2, hsd⟩
 ·
  skip
  have hnl := ok.fl
  obtain ⟨G9, g9, hin9, hlt9, k9⟩ := S.frameB [1, 2] (by decide) rfl
  refine l_do F rfl rfl (op_fn F (by kernel_rfl) (side24_at hsd _ G9 b Ae ce Af I.free.length cf r Ah I.has.length ch g9) ?_)
  rintro e z9 ⟨rfl, g⟩
  have S : Sat w z9 [rest w G, box b 61 [.slice Ae I.ends.length ce, .slice Af I.free.length cf, .map (some r), .slice Ah I.has.length ch], rEl Ae ce I.ends, rFl Af cf I.free, rUl Ah ch I.has, mapA r .u64 (ps.map entM) ck, bag (ps.flatMap payRows)] := k9 z9 [box b 61 [.slice Ae I.ends.length ce, .slice Af I.free.length cf, .map (some r), .slice Ah I.has.length ch], rEl Ae ce I.ends] rfl g
  clear g g9 k9 hin9 hlt9
  refine ⟨_, rfl, ?_⟩
  intro a F
  refine l_pure 5 (fun L => (10, .int .i64 6) :: (9, .int .i64 0) :: (17, .int .i64 6) :: (16, .int .i64 0) :: (11, .tuple #[.int .i64 0, .int .i64 6]) :: L) F (by kernel_rfl) fun a F => ?_
  refine l_then ?_
  refine wp_seq ?_
  refine wp_block ?_
  refine s_reg ?_
  refine l_pure 3 (fun L => (18, .bool true) :: (20, .bool true) :: (19, .int .i64 6) :: L) F (by kernel_rfl) fun a F => ?_
  refine l_then ?_
  refine c_t F rfl ?_
  refine s_reg ?_
  refine l_pure 2 (fun L => (8, .int .i64 6) :: (21, .int .i64 6) :: L) F (by kernel_rfl) fun a F => ?_
  refine l_then ?_
  refine wp_ret ?_
  refine inb_r (then_r (?_))
  exact fin F [.tmp 8] [.int .i64 6] rfl ⟨by kernel_rfl, trivial⟩ (.int .i64 6) rfl ⟨by rw [put_err (by rw [hsd]; decide), hsd], by rw [put_err (by rw [hsd]; decide)]; exact (id_shut hps (by simp) (by simp) (by simp) (S.pick [0, 1, 2, 3, 4, 5, 6] (by decide)))⟩
 ·
  skip
  have hsm := ok.sums
  obtain ⟨hpl, hql, hpq9⟩ := ok.en _ (List.mem_of_getElem? he)
  dsimp only at hpl hql hpq9
  have hnn := (List.getElem?_eq_some_iff.1 he).1
  have hfl := ok.fl
  obtain ⟨xf, hxf⟩ : ∃ xf, I.free[nn]? = some xf := ⟨_, List.getElem?_eq_getElem (by omega)⟩
  have hx2 := sumF_one ok.fu hxf
  obtain ⟨xh, hxh⟩ : ∃ xh, I.has[pa]? = some xh := ⟨_, List.getElem?_eq_getElem (by omega)⟩
  have hx1 := sumI_one I.has pa xh ok.hu hxh
  obtain ⟨G9, g9, hin9, hlt9, k9⟩ := S.frameB [1, 2] (by decide) rfl
  refine l_do F rfl rfl (op_fn F (by kernel_rfl) (side24_at hsd _ G9 b Ae ce Af I.free.length cf r Ah I.has.length ch g9) ?_)
  rintro e z9 ⟨rfl, g⟩
  have S : Sat w z9 [rest w G, box b 61 [.slice Ae I.ends.length ce, .slice Af I.free.length cf, .map (some r), .slice Ah I.has.length ch], rEl Ae ce I.ends, rFl Af cf I.free, rUl Ah ch I.has, mapA r .u64 (ps.map entM) ck, bag (ps.flatMap payRows)] := k9 z9 [box b 61 [.slice Ae I.ends.length ce, .slice Af I.free.length cf, .map (some r), .slice Ah I.has.length ch], rEl Ae ce I.ends] rfl g
  clear g g9 k9 hin9 hlt9
  refine ⟨_, rfl, ?_⟩
  intro a F
  refine l_pure 5 (fun L => (10, .int .i64 0) :: (9, .int .i64 0) :: (17, .int .i64 0) :: (16, .int .i64 0) :: (11, .tuple #[.int .i64 0, .int .i64 0]) :: L) F (by kernel_rfl) fun a F => ?_
  refine l_then ?_
  refine wp_seq ?_
  refine wp_block ?_
  refine s_reg ?_
  refine l_pure 3 (fun L => (18, .bool false) :: (20, .bool false) :: (19, .int .i64 0) :: L) F (by kernel_rfl) fun a F => ?_
  refine l_then ?_
  refine c_f F rfl ?_
  refine s_reg ?_
  refine l_pure 1 (fun L => (23, .int .u64 am) :: L) F (by kernel_rfl) fun a F => ?_
  by_cases ht1 : (am : Int) = (0 : Int)
  ·
   skip
   refine l_do F rfl rfl (op_pure F (v0 := .bool ((am : Int) == (0 : Int))) (v := .bool true) (by kernel_rfl) (eqlT ht1) fun a F => ?_)
   refine l_pure 1 (fun L => (22, .bool true) :: L) F (by kernel_rfl) fun a F => ?_
   refine l_then ?_
   refine c_t F rfl ?_
   refine s_reg ?_
   refine l_pure 1 (fun L => (8, .int .i64 1) :: L) F (by kernel_rfl) fun a F => ?_
   refine l_then ?_
   refine wp_ret ?_
   refine inb_r (then_r (?_))
   exact fin F [.tmp 8] [.int .i64 1] rfl ⟨by kernel_rfl, trivial⟩ (.int .i64 1) rfl ⟨by rw [put_zero (by rw [hsd]) ht1], by rw [put_zero (by rw [hsd]) ht1]; exact (id_shut hps (by simp) (by simp) (by simp) (S.pick [0, 1, 2, 3, 4, 5, 6] (by decide)))⟩
  ·
   skip
   refine l_do F rfl rfl (op_pure F (v0 := .bool ((am : Int) == (0 : Int))) (v := .bool false) (by kernel_rfl) (eqlF ht1) fun a F => ?_)
   refine l_pure 1 (fun L => (22, .bool false) :: L) F (by kernel_rfl) fun a F => ?_
   refine l_then ?_
   refine c_f F rfl ?_
   refine s_reg ?_
   refine l_pure 4 (fun L => (29, .pointer (some ⟨b, 3, none⟩)) :: (28, .pointer (some ⟨b, 0, none⟩)) :: (27, .pointer (some ⟨b, 0, none⟩)) :: (26, .int .u64 am) :: L) F (by kernel_rfl) fun a F => ?_
   refine l_do F rfl rfl (op_load _ _ (some ⟨b, 0, none⟩) 3 (.slice Ah I.has.length ch) F rfl (by kernel_rfl) (by kernel_rfl) (cBox S 1 rfl (j := 3) rfl) (fun a F => ?_))
   refine l_pure 1 (fun L => (31, .int .i64 (pa : Nat)) :: L) F (by kernel_rfl) fun a F => ?_
   refine l_do F rfl rfl (op_index _ 23 _ _ Ah I.has.length ch pa 1 .i64 F rfl (by kernel_rfl) (by kernel_rfl) (by kernel_rfl) (by kernel_rfl) (get_lt hxh) (row_some S 4 rfl (m := pa) (get_lt hxh)) (fun a F => ?_))
   refine l_do F rfl rfl (op_load _ _ Ah (pa * 1) (.int .u64 xh) F rfl (by kernel_rfl) (by kernel_rfl) (cRec S 4 iC_len_u64 rfl 0 hxh rfl) (fun a F => ?_))
   by_cases ht2 : (xh : Int) < (am : Int)
   ·
    skip
    refine l_do F rfl rfl (op_pure F (v0 := .bool (decide ((am : Int) > (xh : Int)))) (v := .bool true) (by kernel_rfl) (gtrT ht2) fun a F => ?_)
    refine l_pure 1 (fun L => (25, .bool true) :: L) F (by kernel_rfl) fun a F => ?_
    refine l_then ?_
    refine c_t F rfl ?_
    refine s_reg ?_
    refine l_pure 1 (fun L => (8, .int .i64 12) :: L) F (by kernel_rfl) fun a F => ?_
    refine l_then ?_
    refine wp_ret ?_
    refine inb_r (then_r (?_))
    exact fin F [.tmp 8] [.int .i64 12] rfl ⟨by kernel_rfl, trivial⟩ (.int .i64 12) rfl ⟨by rw [put_under (s := 0) hsd ht1 hxh (by omega)], by rw [put_under (s := 0) hsd ht1 hxh (by omega)]; exact (id_shut hps (by simp) (by simp) (by simp) (S.pick [0, 1, 2, 3, 4, 5, 6] (by decide)))⟩
   ·
    skip
    refine l_do F rfl rfl (op_pure F (v0 := .bool (decide ((am : Int) > (xh : Int)))) (v := .bool false) (by kernel_rfl) (gtrF ht2) fun a F => ?_)
    refine l_pure 1 (fun L => (25, .bool false) :: L) F (by kernel_rfl) fun a F => ?_
    refine l_then ?_
    refine c_f F rfl ?_
    refine wp_skip ?_
    refine inb_n ?_
    refine then_n ?_
    refine s_reg ?_
    refine l_pure 3 (fun L => (37, .pointer (some ⟨b, 3, none⟩)) :: (36, .pointer (some ⟨b, 0, none⟩)) :: (35, .pointer (some ⟨b, 0, none⟩)) :: L) F (by kernel_rfl) fun a F => ?_
    refine l_do F rfl rfl (op_load _ _ (some ⟨b, 0, none⟩) 3 (.slice Ah I.has.length ch) F rfl (by kernel_rfl) (by kernel_rfl) (cBox S 1 rfl (j := 3) rfl) (fun a F => ?_))
    refine l_pure 1 (fun L => (39, .int .i64 (pa : Nat)) :: L) F (by kernel_rfl) fun a F => ?_
    refine l_do F rfl rfl (op_index _ 23 _ _ Ah I.has.length ch pa 1 .i64 F rfl (by kernel_rfl) (by kernel_rfl) (by kernel_rfl) (by kernel_rfl) (get_lt hxh) (row_some S 4 rfl (m := pa) (get_lt hxh)) (fun a F => ?_))
    refine l_do F rfl rfl (op_load _ _ Ah (pa * 1) (.int .u64 xh) F rfl (by kernel_rfl) (by kernel_rfl) (cRec S 4 iC_len_u64 rfl 0 hxh rfl) (fun a F => ?_))
    refine l_pure 1 (fun L => (42, .int .u64 am) :: L) F (by kernel_rfl) fun a F => ?_
    refine l_do F rfl rfl (op_pure F (v0 := .int .u64 (IntKind.wrap .u64 (xh - am))) (v := .int .u64 (xh - am)) (by kernel_rfl) (wr_u64 (by omega) (by omega)) fun a F => ?_)
    refine l_do F rfl rfl (op_index _ 23 _ _ Ah I.has.length ch pa 1 .i64 F rfl (by kernel_rfl) (by kernel_rfl) (by kernel_rfl) (by kernel_rfl) (get_lt hxh) (row_some S 4 rfl (m := pa) (get_lt hxh)) (fun a F => ?_))
    refine l_do F rfl rfl (op_storeRec S 4 _ _ _ Ah pa 1 0 (.int .u64 (xh - am)) (xh - am) F iC_len_u64 hxh rfl rfl (by kernel_rfl) (by kernel_rfl) (by kernel_rfl) (by kernel_rfl) (by kernel_rfl) (by kernel_rfl) (by kernel_rfl) fun z S a F => ?_)
    refine l_then ?_
    refine wp_seq ?_
    have hn3 : Option.isSome Ah = true := (row_some S 4 rfl (m := pa) (by have h9 := get_lt (set_at (y := (xh - am)) hxh); (try simp only [List.length_set] at h9); omega))
    refine region_gx (fun D => fun (_ : Unit) => [rest w G, box b 61 [.slice Ae I.ends.length ce, .slice Af I.free.length cf, .map (some r), .slice Ah I.has.length ch], rEl Ae ce I.ends, bif D 13 then rF Af I.free.length cf (I.free.set nn ((xf.1 + am, xf.2) : Int × Int)) else rFl Af cf I.free, rU Ah I.has.length ch (I.has.set pa (xh - am)), mapA r .u64 (ps.map entM) ck, bag (ps.flatMap payRows)]) (fun (_ : Unit) => [.pointer (some ⟨b, 0, none⟩), .pointer (some ⟨b, 0, none⟩), .pointer (some ⟨b, 1, none⟩), .slice Af I.free.length cf, .int .i64 (nn : Nat), .int .i64 0, ptrA Af (nn * 2), ptrA Af (nn * 2), .int .u64 xf.1, .int .u64 am, .int .u64 (xf.1 + am), ptrA Af (nn * 2), ptrA Af (nn * 2), undef]) [(3, [], [6, 7, 8, 10, 11, 12, 13]), (6, [3], [7, 8, 10, 12, 13]), (7, [3, 6], [8, 10, 12, 13]), (8, [3, 6, 7], [10, 12, 13]), (10, [3, 6, 7, 8], [12, 13]), (11, [3], [12, 13]), (12, [3, 6, 7, 8, 10, 11], [13]), (13, [3, 6, 7, 8, 10, 11, 12], [])] () rfl (by kernel_rfl) (by kernel_rfl) F S.drew ?_ ?_ ?_ ?_ ?_
    · rintro ⟨⟩; rfl
    · rintro ⟨⟩; kernel_rfl
    ·
     intro D D' x h
     cases x
     simp only [h 13 (by decide)]
    ·
     refine ⟨?_, ?_⟩
     ·
      refine ⟨_, rfl, rfl, by kernel_rfl, ?_⟩
      rintro D ⟨⟩ a z S F
      refine ⟨by kernel_rfl, ?_⟩
      exact op_load _ _ (some ⟨b, 0, none⟩) 1 (.slice Af I.free.length cf) F rfl (by kernel_rfl) (by kernel_rfl) (cBox S 1 rfl (j := 1) rfl) (⟨(), rfl, (SameB.refl _ _ rfl), S⟩)
     refine ⟨?_, ?_⟩
     ·
      refine ⟨_, rfl, rfl, by kernel_rfl, ?_⟩
      rintro D ⟨⟩ a z S F
      refine ⟨by kernel_rfl, ?_⟩
      exact op_index _ 31 _ _ Af I.free.length cf nn 2 .i64 F rfl (by kernel_rfl) (by kernel_rfl) (by kernel_rfl) (by kernel_rfl) (get_lt hxf) (row_some S 3 rfl (m := nn) (get_lt hxf)) (⟨(), rfl, (SameB.refl _ _ rfl), S⟩)
     refine ⟨?_, ?_⟩
     ·
      refine ⟨_, rfl, rfl, by kernel_rfl, ?_⟩
      rintro D ⟨⟩ a z S F
      refine ⟨by kernel_rfl, ?_⟩
      exact op_indexArr _ 23 _ _ Af (nn * 2) 2 0 1 .i64 F rfl (by kernel_rfl) (by kernel_rfl) (by kernel_rfl) (by kernel_rfl) (by decide) (row_some S 3 rfl (m := nn) (get_lt hxf)) (⟨(), rfl, (SameB.refl _ _ rfl), S⟩)
     refine ⟨?_, ?_⟩
     ·
      refine ⟨_, rfl, rfl, by kernel_rfl, ?_⟩
      rintro D ⟨⟩ a z S F
      refine ⟨by kernel_rfl, ?_⟩
      exact op_load _ _ Af (nn * 2) (.int .u64 xf.1) F rfl (by kernel_rfl) (by kernel_rfl) (cRec S 3 frC_len rfl 0 hxf rfl) (⟨(), rfl, (SameB.refl _ _ rfl), S⟩)
     refine ⟨?_, ?_⟩
     ·
      refine ⟨_, rfl, rfl, by kernel_rfl, ?_⟩
      rintro D ⟨⟩ a z S F
      refine ⟨by kernel_rfl, ?_⟩
      exact op_pure F (v0 := .int .u64 (IntKind.wrap .u64 (xf.1 + am))) (v := .int .u64 (xf.1 + am)) (by kernel_rfl) (wr_u64 (by omega) (by omega)) ⟨(), rfl, (SameB.refl _ _ rfl), S⟩
     refine ⟨?_, ?_⟩
     ·
      refine ⟨_, rfl, rfl, by kernel_rfl, ?_⟩
      rintro D ⟨⟩ a z S F
      refine ⟨by kernel_rfl, ?_⟩
      exact op_index _ 31 _ _ Af I.free.length cf nn 2 .i64 F rfl (by kernel_rfl) (by kernel_rfl) (by kernel_rfl) (by kernel_rfl) (get_lt hxf) (row_some S 3 rfl (m := nn) (get_lt hxf)) (⟨(), rfl, (SameB.refl _ _ rfl), S⟩)
     refine ⟨?_, ?_⟩
     ·
      refine ⟨_, rfl, rfl, by kernel_rfl, ?_⟩
      rintro D ⟨⟩ a z S F
      refine ⟨by kernel_rfl, ?_⟩
      exact op_indexArr _ 23 _ _ Af (nn * 2) 2 0 1 .i64 F rfl (by kernel_rfl) (by kernel_rfl) (by kernel_rfl) (by kernel_rfl) (by decide) (row_some S 3 rfl (m := nn) (get_lt hxf)) (⟨(), rfl, (SameB.refl _ _ rfl), S⟩)
     refine ⟨?_, ?_⟩
     ·
      refine ⟨_, rfl, rfl, by kernel_rfl, ?_⟩
      rintro D ⟨⟩ a z S F
      refine ⟨by kernel_rfl, ?_⟩
      exact op_storeRec S 3 _ _ _ Af nn 2 0 (.int .u64 (xf.1 + am)) ((xf.1 + am, xf.2) : Int × Int) F frC_len hxf rfl rfl (by kernel_rfl) (by kernel_rfl) (by kernel_rfl) (by kernel_rfl) (by kernel_rfl) (by kernel_rfl) (by kernel_rfl) fun z S => ⟨(), rfl, (SameB.refl _ _ rfl), S⟩
     trivial
    ·
     rintro ⟨⟩ a z F S
     have F := F.sub (l := []) trivial
     have S : Sat w z [rest w G, box b 61 [.slice Ae I.ends.length ce, .slice Af I.free.length cf, .map (some r), .slice Ah I.has.length ch], rEl Ae ce I.ends, rF Af I.free.length cf (I.free.set nn ((xf.1 + am, xf.2) : Int × Int)), rU Ah I.has.length ch (I.has.set pa (xh - am)), mapA r .u64 (ps.map entM) ck, bag (ps.flatMap payRows)] := S
     refine then_n ?_
     refine s_reg ?_
     refine l_pure 1 (fun L => (8, .int .i64 0) :: L) F (by kernel_rfl) fun a F => ?_
     refine l_then ?_
     refine wp_ret ?_
     exact fin F [.tmp 8] [.int .i64 0] rfl ⟨by kernel_rfl, trivial⟩ (.int .i64 0) rfl ⟨by rw [put_ok (s := 0) hsd ht1 hxh (by omega) hxf], by rw [put_ok (s := 0) hsd ht1 hxh (by omega) hxf]; exact (id_shut hps (by simp) (by simp) (by simp) (S.pick [0, 1, 2, 3, 4, 5, 6] (by decide)))⟩
 ·
  skip
  have hsm := ok.sums
  obtain ⟨hpl, hql, hpq9⟩ := ok.en _ (List.mem_of_getElem? he)
  dsimp only at hpl hql hpq9
  have hnn := (List.getElem?_eq_some_iff.1 he).1
  have hfl := ok.fl
  obtain ⟨xf, hxf⟩ : ∃ xf, I.free[nn]? = some xf := ⟨_, List.getElem?_eq_getElem (by omega)⟩
  have hx2 := sumF_one ok.fu hxf
  obtain ⟨xh, hxh⟩ : ∃ xh, I.has[qa]? = some xh := ⟨_, List.getElem?_eq_getElem (by omega)⟩
  have hx1 := sumI_one I.has qa xh ok.hu hxh
  obtain ⟨G9, g9, hin9, hlt9, k9⟩ := S.frameB [1, 2] (by decide) rfl
  refine l_do F rfl rfl (op_fn F (by kernel_rfl) (side24_at hsd _ G9 b Ae ce Af I.free.length cf r Ah I.has.length ch g9) ?_)
  rintro e z9 ⟨rfl, g⟩
  have S : Sat w z9 [rest w G, box b 61 [.slice Ae I.ends.length ce, .slice Af I.free.length cf, .map (some r), .slice Ah I.has.length ch], rEl Ae ce I.ends, rFl Af cf I.free, rUl Ah ch I.has, mapA r .u64 (ps.map entM) ck, bag (ps.flatMap payRows)] := k9 z9 [box b 61 [.slice Ae I.ends.length ce, .slice Af I.free.length cf, .map (some r), .slice Ah I.has.length ch], rEl Ae ce I.ends] rfl g
  clear g g9 k9 hin9 hlt9
  refine ⟨_, rfl, ?_⟩
  intro a F
  refine l_pure 5 (fun L => (10, .int .i64 0) :: (9, .int .i64 1) :: (17, .int .i64 0) :: (16, .int .i64 1) :: (11, .tuple #[.int .i64 1, .int .i64 0]) :: L) F (by kernel_rfl) fun a F => ?_
  refine l_then ?_
  refine wp_seq ?_
  refine wp_block ?_
  refine s_reg ?_
  refine l_pure 3 (fun L => (18, .bool false) :: (20, .bool false) :: (19, .int .i64 0) :: L) F (by kernel_rfl) fun a F => ?_
  refine l_then ?_
  refine c_f F rfl ?_
  refine s_reg ?_
  refine l_pure 1 (fun L => (23, .int .u64 am) :: L) F (by kernel_rfl) fun a F => ?_
  by_cases ht4 : (am : Int) = (0 : Int)
  ·
   skip
   refine l_do F rfl rfl (op_pure F (v0 := .bool ((am : Int) == (0 : Int))) (v := .bool true) (by kernel_rfl) (eqlT ht4) fun a F => ?_)
   refine l_pure 1 (fun L => (22, .bool true) :: L) F (by kernel_rfl) fun a F => ?_
   refine l_then ?_
   refine c_t F rfl ?_
   refine s_reg ?_
   refine l_pure 1 (fun L => (8, .int .i64 1) :: L) F (by kernel_rfl) fun a F => ?_
   refine l_then ?_
   refine wp_ret ?_
   refine inb_r (then_r (?_))
   exact fin F [.tmp 8] [.int .i64 1] rfl ⟨by kernel_rfl, trivial⟩ (.int .i64 1) rfl ⟨by rw [put_zero (by rw [hsd]) ht4], by rw [put_zero (by rw [hsd]) ht4]; exact (id_shut hps (by simp) (by simp) (by simp) (S.pick [0, 1, 2, 3, 4, 5, 6] (by decide)))⟩
  ·
   skip
   refine l_do F rfl rfl (op_pure F (v0 := .bool ((am : Int) == (0 : Int))) (v := .bool false) (by kernel_rfl) (eqlF ht4) fun a F => ?_)
   refine l_pure 1 (fun L => (22, .bool false) :: L) F (by kernel_rfl) fun a F => ?_
   refine l_then ?_
   refine c_f F rfl ?_
   refine s_reg ?_
   refine l_pure 4 (fun L => (29, .pointer (some ⟨b, 3, none⟩)) :: (28, .pointer (some ⟨b, 0, none⟩)) :: (27, .pointer (some ⟨b, 0, none⟩)) :: (26, .int .u64 am) :: L) F (by kernel_rfl) fun a F => ?_
   refine l_do F rfl rfl (op_load _ _ (some ⟨b, 0, none⟩) 3 (.slice Ah I.has.length ch) F rfl (by kernel_rfl) (by kernel_rfl) (cBox S 1 rfl (j := 3) rfl) (fun a F => ?_))
   refine l_pure 1 (fun L => (31, .int .i64 (qa : Nat)) :: L) F (by kernel_rfl) fun a F => ?_
   refine l_do F rfl rfl (op_index _ 23 _ _ Ah I.has.length ch qa 1 .i64 F rfl (by kernel_rfl) (by kernel_rfl) (by kernel_rfl) (by kernel_rfl) (get_lt hxh) (row_some S 4 rfl (m := qa) (get_lt hxh)) (fun a F => ?_))
   refine l_do F rfl rfl (op_load _ _ Ah (qa * 1) (.int .u64 xh) F rfl (by kernel_rfl) (by kernel_rfl) (cRec S 4 iC_len_u64 rfl 0 hxh rfl) (fun a F => ?_))
   by_cases ht5 : (xh : Int) < (am : Int)
   ·
    skip
    refine l_do F rfl rfl (op_pure F (v0 := .bool (decide ((am : Int) > (xh : Int)))) (v := .bool true) (by kernel_rfl) (gtrT ht5) fun a F => ?_)
    refine l_pure 1 (fun L => (25, .bool true) :: L) F (by kernel_rfl) fun a F => ?_
    refine l_then ?_
    refine c_t F rfl ?_
    refine s_reg ?_
    refine l_pure 1 (fun L => (8, .int .i64 12) :: L) F (by kernel_rfl) fun a F => ?_
    refine l_then ?_
    refine wp_ret ?_
    refine inb_r (then_r (?_))
    exact fin F [.tmp 8] [.int .i64 12] rfl ⟨by kernel_rfl, trivial⟩ (.int .i64 12) rfl ⟨by rw [put_under (s := 1) hsd ht4 hxh (by omega)], by rw [put_under (s := 1) hsd ht4 hxh (by omega)]; exact (id_shut hps (by simp) (by simp) (by simp) (S.pick [0, 1, 2, 3, 4, 5, 6] (by decide)))⟩
   ·
    skip
    refine l_do F rfl rfl (op_pure F (v0 := .bool (decide ((am : Int) > (xh : Int)))) (v := .bool false) (by kernel_rfl) (gtrF ht5) fun a F => ?_)
    refine l_pure 1 (fun L => (25, .bool false) :: L) F (by kernel_rfl) fun a F => ?_
    refine l_then ?_
    refine c_f F rfl ?_
    refine wp_skip ?_
    refine inb_n ?_
    refine then_n ?_
    refine s_reg ?_
    refine l_pure 3 (fun L => (37, .pointer (some ⟨b, 3, none⟩)) :: (36, .pointer (some ⟨b, 0, none⟩)) :: (35, .pointer (some ⟨b, 0, none⟩)) :: L) F (by kernel_rfl) fun a F => ?_
    refine l_do F rfl rfl (op_load _ _ (some ⟨b, 0, none⟩) 3 (.slice Ah I.has.length ch) F rfl (by kernel_rfl) (by kernel_rfl) (cBox S 1 rfl (j := 3) rfl) (fun a F => ?_))
    refine l_pure 1 (fun L => (39, .int .i64 (qa : Nat)) :: L) F (by kernel_rfl) fun a F => ?_
    refine l_do F rfl rfl (op_index _ 23 _ _ Ah I.has.length ch qa 1 .i64 F rfl (by kernel_rfl) (by kernel_rfl) (by kernel_rfl) (by kernel_rfl) (get_lt hxh) (row_some S 4 rfl (m := qa) (get_lt hxh)) (fun a F => ?_))
    refine l_do F rfl rfl (op_load _ _ Ah (qa * 1) (.int .u64 xh) F rfl (by kernel_rfl) (by kernel_rfl) (cRec S 4 iC_len_u64 rfl 0 hxh rfl) (fun a F => ?_))
    refine l_pure 1 (fun L => (42, .int .u64 am) :: L) F (by kernel_rfl) fun a F => ?_
    refine l_do F rfl rfl (op_pure F (v0 := .int .u64 (IntKind.wrap .u64 (xh - am))) (v := .int .u64 (xh - am)) (by kernel_rfl) (wr_u64 (by omega) (by omega)) fun a F => ?_)
    refine l_do F rfl rfl (op_index _ 23 _ _ Ah I.has.length ch qa 1 .i64 F rfl (by kernel_rfl) (by kernel_rfl) (by kernel_rfl) (by kernel_rfl) (get_lt hxh) (row_some S 4 rfl (m := qa) (get_lt hxh)) (fun a F => ?_))
    refine l_do F rfl rfl (op_storeRec S 4 _ _ _ Ah qa 1 0 (.int .u64 (xh - am)) (xh - am) F iC_len_u64 hxh rfl rfl (by kernel_rfl) (by kernel_rfl) (by kernel_rfl) (by kernel_rfl) (by kernel_rfl) (by kernel_rfl) (by kernel_rfl) fun z S a F => ?_)
    refine l_then ?_
    refine wp_seq ?_
    have hn6 : Option.isSome Ah = true := (row_some S 4 rfl (m := qa) (by have h9 := get_lt (set_at (y := (xh - am)) hxh); (try simp only [List.length_set] at h9); omega))
    refine region_gx (fun D => fun (_ : Unit) => [rest w G, box b 61 [.slice Ae I.ends.length ce, .slice Af I.free.length cf, .map (some r), .slice Ah I.has.length ch], rEl Ae ce I.ends, bif D 13 then rF Af I.free.length cf (I.free.set nn ((xf.1, xf.2 + am) : Int × Int)) else rFl Af cf I.free, rU Ah I.has.length ch (I.has.set qa (xh - am)), mapA r .u64 (ps.map entM) ck, bag (ps.flatMap payRows)]) (fun (_ : Unit) => [.pointer (some ⟨b, 0, none⟩), .pointer (some ⟨b, 0, none⟩), .pointer (some ⟨b, 1, none⟩), .slice Af I.free.length cf, .int .i64 (nn : Nat), .int .i64 1, ptrA Af (nn * 2), ptrA Af (nn * 2 + 1), .int .u64 xf.2, .int .u64 am, .int .u64 (xf.2 + am), ptrA Af (nn * 2), ptrA Af (nn * 2 + 1), undef]) [(3, [], [6, 7, 8, 10, 11, 12, 13]), (6, [3], [7, 8, 10, 12, 13]), (7, [3, 6], [8, 10, 12, 13]), (8, [3, 6, 7], [10, 12, 13]), (10, [3, 6, 7, 8], [12, 13]), (11, [3], [12, 13]), (12, [3, 6, 7, 8, 10, 11], [13]), (13, [3, 6, 7, 8, 10, 11, 12], [])] () rfl (by kernel_rfl) (by kernel_rfl) F S.drew ?_ ?_ ?_ ?_ ?_
    · rintro ⟨⟩; rfl
    · rintro ⟨⟩; kernel_rfl
    ·
     intro D D' x h
     cases x
     simp only [h 13 (by decide)]
    ·
     refine ⟨?_, ?_⟩
     ·
      refine ⟨_, rfl, rfl, by kernel_rfl, ?_⟩
      rintro D ⟨⟩ a z S F
      refine ⟨by kernel_rfl, ?_⟩
      exact op_load _ _ (some ⟨b, 0, none⟩) 1 (.slice Af I.free.length cf) F rfl (by kernel_rfl) (by kernel_rfl) (cBox S 1 rfl (j := 1) rfl) (⟨(), rfl, (SameB.refl _ _ rfl), S⟩)
     refine ⟨?_, ?_⟩
     ·
      refine ⟨_, rfl, rfl, by kernel_rfl, ?_⟩
      rintro D ⟨⟩ a z S F
      refine ⟨by kernel_rfl, ?_⟩
      exact op_index _ 31 _ _ Af I.free.length cf nn 2 .i64 F rfl (by kernel_rfl) (by kernel_rfl) (by kernel_rfl) (by kernel_rfl) (get_lt hxf) (row_some S 3 rfl (m := nn) (get_lt hxf)) (⟨(), rfl, (SameB.refl _ _ rfl), S⟩)
     refine ⟨?_, ?_⟩
     ·
      refine ⟨_, rfl, rfl, by kernel_rfl, ?_⟩
      rintro D ⟨⟩ a z S F
      refine ⟨by kernel_rfl, ?_⟩
      exact op_indexArr _ 23 _ _ Af (nn * 2) 2 1 1 .i64 F rfl (by kernel_rfl) (by kernel_rfl) (by kernel_rfl) (by kernel_rfl) (by decide) (row_some S 3 rfl (m := nn) (get_lt hxf)) (⟨(), rfl, (SameB.refl _ _ rfl), S⟩)
     refine ⟨?_, ?_⟩
     ·
      refine ⟨_, rfl, rfl, by kernel_rfl, ?_⟩
      rintro D ⟨⟩ a z S F
      refine ⟨by kernel_rfl, ?_⟩
      exact op_load _ _ Af (nn * 2 + 1) (.int .u64 xf.2) F rfl (by kernel_rfl) (by kernel_rfl) (cRec S 3 frC_len rfl 1 hxf rfl) (⟨(), rfl, (SameB.refl _ _ rfl), S⟩)
     refine ⟨?_, ?_⟩
     ·
      refine ⟨_, rfl, rfl, by kernel_rfl, ?_⟩
      rintro D ⟨⟩ a z S F
      refine ⟨by kernel_rfl, ?_⟩
      exact op_pure F (v0 := .int .u64 (IntKind.wrap .u64 (xf.2 + am))) (v := .int .u64 (xf.2 + am)) (by kernel_rfl) (wr_u64 (by omega) (by omega)) ⟨(), rfl, (SameB.refl _ _ rfl), S⟩
     refine ⟨?_, ?_⟩
     ·
      refine ⟨_, rfl, rfl, by kernel_rfl, ?_⟩
      rintro D ⟨⟩ a z S F
      refine ⟨by kernel_rfl, ?_⟩
      exact op_index _ 31 _ _ Af I.free.length cf nn 2 .i64 F rfl (by kernel_rfl) (by kernel_rfl) (by kernel_rfl) (by kernel_rfl) (get_lt hxf) (row_some S 3 rfl (m := nn) (get_lt hxf)) (⟨(), rfl, (SameB.refl _ _ rfl), S⟩)
     refine ⟨?_, ?_⟩
     ·
      refine ⟨_, rfl, rfl, by kernel_rfl, ?_⟩
      rintro D ⟨⟩ a z S F
      refine ⟨by kernel_rfl, ?_⟩
      exact op_indexArr _ 23 _ _ Af (nn * 2) 2 1 1 .i64 F rfl (by kernel_rfl) (by kernel_rfl) (by kernel_rfl) (by kernel_rfl) (by decide) (row_some S 3 rfl (m := nn) (get_lt hxf)) (⟨(), rfl, (SameB.refl _ _ rfl), S⟩)
     refine ⟨?_, ?_⟩
     ·
      refine ⟨_, rfl, rfl, by kernel_rfl, ?_⟩
      rintro D ⟨⟩ a z S F
      refine ⟨by kernel_rfl, ?_⟩
      exact op_storeRec S 3 _ _ _ Af nn 2 1 (.int .u64 (xf.2 + am)) ((xf.1, xf.2 + am) : Int × Int) F frC_len hxf rfl rfl (by kernel_rfl) (by kernel_rfl) (by kernel_rfl) (by kernel_rfl) (by kernel_rfl) (by kernel_rfl) (by kernel_rfl) fun z S => ⟨(), rfl, (SameB.refl _ _ rfl), S⟩
     trivial
    ·
     rintro ⟨⟩ a z F S
     have F := F.sub (l := []) trivial
     have S : Sat w z [rest w G, box b 61 [.slice Ae I.ends.length ce, .slice Af I.free.length cf, .map (some r), .slice Ah I.has.length ch], rEl Ae ce I.ends, rF Af I.free.length cf (I.free.set nn ((xf.1, xf.2 + am) : Int × Int)), rU Ah I.has.length ch (I.has.set qa (xh - am)), mapA r .u64 (ps.map entM) ck, bag (ps.flatMap payRows)] := S
     refine then_n ?_
     refine s_reg ?_
     refine l_pure 1 (fun L => (8, .int .i64 0) :: L) F (by kernel_rfl) fun a F => ?_
     refine l_then ?_
     refine wp_ret ?_
     exact fin F [.tmp 8] [.int .i64 0] rfl ⟨by kernel_rfl, trivial⟩ (.int .i64 0) rfl ⟨by rw [put_ok (s := 1) hsd ht4 hxh (by omega) hxf], by rw [put_ok (s := 1) hsd ht4 hxh (by omega) hxf]; exact (id_shut hps (by simp) (by simp) (by simp) (S.pick [0, 1, 2, 3, 4, 5, 6] (by decide)))⟩
 ·
  skip
  have hsm := ok.sums
  obtain ⟨hpl, hql, hpq9⟩ := ok.en _ (List.mem_of_getElem? he)
  dsimp only at hpl hql hpq9
  have hnn := (List.getElem?_eq_some_iff.1 he).1
  have hfl := ok.fl
  obtain ⟨xf, hxf⟩ : ∃ xf, I.free[nn]? = some xf := ⟨_, List.getElem?_eq_getElem (by omega)⟩
  have hx2 := sumF_one ok.fu hxf
  obtain ⟨G9, g9, hin9, hlt9, k9⟩ := S.frameB [1, 2] (by decide) rfl
  refine l_do F rfl rfl (op_fn F (by kernel_rfl) (side24_at hsd _ G9 b Ae ce Af I.free.length cf r Ah I.has.length ch g9) ?_)
  rintro e z9 ⟨rfl, g⟩
  have S : Sat w z9 [rest w G, box b 61 [.slice Ae I.ends.length ce, .slice Af I.free.length cf, .map (some r), .slice Ah I.has.length ch], rEl Ae ce I.ends, rFl Af cf I.free, rUl Ah ch I.has, mapA r .u64 (ps.map entM) ck, bag (ps.flatMap payRows)] := k9 z9 [box b 61 [.slice Ae I.ends.length ce, .slice Af I.free.length cf, .map (some r), .slice Ah I.has.length ch], rEl Ae ce I.ends] rfl g
  clear g g9 k9 hin9 hlt9
  refine ⟨_, rfl, ?_⟩
  intro a F
  refine l_pure 5 (fun L => (10, .int .i64 1) :: (9, .int .i64 0) :: (17, .int .i64 1) :: (16, .int .i64 0) :: (11, .tuple #[.int .i64 0, .int .i64 1]) :: L) F (by kernel_rfl) fun a F => ?_
  refine l_then ?_
  refine wp_seq ?_
  refine wp_block ?_
  refine s_reg ?_
  refine l_pure 3 (fun L => (18, .bool true) :: (20, .bool true) :: (19, .int .i64 1) :: L) F (by kernel_rfl) fun a F => ?_
  refine l_then ?_
  refine c_t F rfl ?_
  refine s_reg ?_
  refine l_pure 2 (fun L => (8, .int .i64 1) :: (21, .int .i64 1) :: L) F (by kernel_rfl) fun a F => ?_
  refine l_then ?_
  refine wp_ret ?_
  refine inb_r (then_r (?_))
  exact fin F [.tmp 8] [.int .i64 1] rfl ⟨by kernel_rfl, trivial⟩ (.int .i64 1) rfl ⟨by rw [put_err (by rw [hsd]; decide), hsd], by rw [put_err (by rw [hsd]; decide)]; exact (id_shut hps (by simp) (by simp) (by simp) (S.pick [0, 1, 2, 3, 4, 5, 6] (by decide)))⟩
set_option maxRecDepth 100000 in
set_option maxHeartbeats 4000000 in
theorem take24_any (w : World) (G : Nat → Prop) (b : Nat) (I : Idl) (ok : IOk I) (hS : Sat w w [idA b I, rest w G]) (cid who am : Int) (ham : U64 am) : Calls Try.prog 22 #[.pointer (some ⟨b, 0, none⟩), .int .i64 cid, .int .i64 who, .int .u64 am] w fun e w' => e = .returned (.int .i64 (takeP I cid who am).2) ∧ Sat w w' [idA b (takeP I cid who am).1, rest w G] := by
 have ham2 := ham
 unfold U64 at ham2
 refine enter 60 Try.func22 rfl rfl rfl fun a F => ?_
 obtain ⟨Ae, ce, Af, cf, Ah, ch, r, ck, ps, hps, S⟩ := id_open hS
 refine s_reg ?_
 refine l_pure 1 (fun L => (8, .int .i64 0) :: L) F (by kernel_rfl) fun a F => ?_
 refine l_then ?_
 refine s_reg ?_
 refine l_pure 3 (fun L => (14, .int .i64 who) :: (13, .int .i64 cid) :: (12, .pointer (some ⟨b, 0, none⟩)) :: L) F (by kernel_rfl) fun a F => ?_
 rcases side_cases24 I.ends cid who with ⟨hsd, hbad⟩ | ⟨nn, pa, qa, rfl, rfl, he, hsd⟩ | ⟨nn, pa, qa, rfl, rfl, he, hpq, hsd⟩ | ⟨nn, pa, qa, rfl, he, hw1, hw2, hsd⟩
 ·
  skip
  have hnl := ok.fl
  obtain ⟨G9, g9, hin9, hlt9, k9⟩ := S.frameB [1, 2] (by decide) rfl
  refine l_do F rfl rfl (op_fn F (by kernel_rfl) (side24_at hsd _ G9 b Ae ce Af I.free.length cf r Ah I.has.length ch g9) ?_)
  rintro e z9 ⟨rfl, g⟩
  have S : Sat w z9 [rest w G, box b 61 [.slice Ae I.ends.length ce, .slice Af I.free.length cf, .map (some r), .slice Ah I.has.length ch], rEl Ae ce I.ends, rFl Af cf I.free, rUl Ah ch I.has, mapA r .u64 (ps.map entM) ck, bag (ps.flatMap payRows)] := k9 z9 [box b 61 [.slice Ae I.ends.length ce, .slice Af I.free.length cf, .map (some r), .slice Ah I.has.length ch], rEl Ae ce I.ends] rfl g
  clear g g9 k9 hin9 hlt9
  refine ⟨_, rfl, ?_⟩
  intro a F
  refine l_pure 5 (fun L => (10, .int .i64 6) :: (9, .int .i64 0) :: (17, .int .i64 6) :: (16, .int .i64 0) :: (11, .tuple #[.int .i64 0, .int .i64 6]) :: L) F (by kernel_rfl) fun a F => ?_
  refine l_then ?_
  refine wp_seq ?_
  refine wp_block ?_
  refine s_reg ?_
  refine l_pure 3 (fun L => (18, .bool true) :: (20, .bool true) :: (19, .int .i64 6) :: L) F (by kernel_rfl) fun a F => ?_
  refine l_then ?_
  refine c_t F rfl ?_
  refine s_reg ?_
  refine l_pure 2 (fun L => (8, .int .i64 6) :: (21, .int .i64 6) :: L) F (by kernel_rfl) fun a F => ?_
  refine l_then ?_
  refine wp_ret ?_
  refine inb_r (then_r (?_))
  exact fin F [.tmp 8] [.int .i64 6] rfl ⟨by kernel_rfl, trivial⟩ (.int .i64 6) rfl ⟨by rw [take_err (spend_err (by rw [hsd]; decide)) (by rw [hsd]; decide), hsd], by rw [take_err (spend_err (by rw [hsd]; decide)) (by rw [hsd]; decide)]; exact (id_shut hps (by simp) (by simp) (by simp) (S.pick [0, 1, 2, 3, 4, 5, 6] (by decide)))⟩
 ·
  skip
  have hsm := ok.sums
  obtain ⟨hpl, hql, hpq9⟩ := ok.en _ (List.mem_of_getElem? he)
  dsimp only at hpl hql hpq9
  have hnn := (List.getElem?_eq_some_iff.1 he).1
  have hfl := ok.fl
  obtain ⟨xf, hxf⟩ : ∃ xf, I.free[nn]? = some xf := ⟨_, List.getElem?_eq_getElem (by omega)⟩
  have hx2 := sumF_one ok.fu hxf
  obtain ⟨xh, hxh⟩ : ∃ xh, I.has[pa]? = some xh := ⟨_, List.getElem?_eq_getElem (by omega)⟩
  have hx1 := sumI_one I.has pa xh ok.hu hxh
  obtain ⟨G9, g9, hin9, hlt9, k9⟩ := S.frameB [1, 2] (by decide) rfl
  refine l_do F rfl rfl (op_fn F (by kernel_rfl) (side24_at hsd _ G9 b Ae ce Af I.free.length cf r Ah I.has.length ch g9) ?_)
  rintro e z9 ⟨rfl, g⟩
  have S : Sat w z9 [rest w G, box b 61 [.slice Ae I.ends.length ce, .slice Af I.free.length cf, .map (some r), .slice Ah I.has.length ch], rEl Ae ce I.ends, rFl Af cf I.free, rUl Ah ch I.has, mapA r .u64 (ps.map entM) ck, bag (ps.flatMap payRows)] := k9 z9 [box b 61 [.slice Ae I.ends.length ce, .slice Af I.free.length cf, .map (some r), .slice Ah I.has.length ch], rEl Ae ce I.ends] rfl g
  clear g g9 k9 hin9 hlt9
  refine ⟨_, rfl, ?_⟩
  intro a F
  refine l_pure 5 (fun L => (10, .int .i64 0) :: (9, .int .i64 0) :: (17, .int .i64 0) :: (16, .int .i64 0) :: (11, .tuple #[.int .i64 0, .int .i64 0]) :: L) F (by kernel_rfl) fun a F => ?_
  refine l_then ?_
  refine wp_seq ?_
  refine wp_block ?_
  refine s_reg ?_
  refine l_pure 3 (fun L => (18, .bool false) :: (20, .bool false) :: (19, .int .i64 0) :: L) F (by kernel_rfl) fun a F => ?_
  refine l_then ?_
  refine c_f F rfl ?_
  refine s_reg ?_
  refine l_pure 1 (fun L => (23, .int .u64 am) :: L) F (by kernel_rfl) fun a F => ?_
  by_cases ht1 : (am : Int) = (0 : Int)
  ·
   skip
   refine l_do F rfl rfl (op_pure F (v0 := .bool ((am : Int) == (0 : Int))) (v := .bool true) (by kernel_rfl) (eqlT ht1) fun a F => ?_)
   refine l_pure 1 (fun L => (22, .bool true) :: L) F (by kernel_rfl) fun a F => ?_
   refine l_then ?_
   refine c_t F rfl ?_
   refine s_reg ?_
   refine l_pure 1 (fun L => (8, .int .i64 1) :: L) F (by kernel_rfl) fun a F => ?_
   refine l_then ?_
   refine wp_ret ?_
   refine inb_r (then_r (?_))
   exact fin F [.tmp 8] [.int .i64 1] rfl ⟨by kernel_rfl, trivial⟩ (.int .i64 1) rfl ⟨by rw [take_err (spend_zero (by rw [hsd]) ht1) (by decide)], by rw [take_err (spend_zero (by rw [hsd]) ht1) (by decide)]; exact (id_shut hps (by simp) (by simp) (by simp) (S.pick [0, 1, 2, 3, 4, 5, 6] (by decide)))⟩
  ·
   skip
   refine l_do F rfl rfl (op_pure F (v0 := .bool ((am : Int) == (0 : Int))) (v := .bool false) (by kernel_rfl) (eqlF ht1) fun a F => ?_)
   refine l_pure 1 (fun L => (22, .bool false) :: L) F (by kernel_rfl) fun a F => ?_
   refine l_then ?_
   refine c_f F rfl ?_
   refine s_reg ?_
   refine l_pure 4 (fun L => (29, .pointer (some ⟨b, 1, none⟩)) :: (28, .pointer (some ⟨b, 0, none⟩)) :: (27, .pointer (some ⟨b, 0, none⟩)) :: (26, .int .u64 am) :: L) F (by kernel_rfl) fun a F => ?_
   refine l_do F rfl rfl (op_load _ _ (some ⟨b, 0, none⟩) 1 (.slice Af I.free.length cf) F rfl (by kernel_rfl) (by kernel_rfl) (cBox S 1 rfl (j := 1) rfl) (fun a F => ?_))
   refine l_pure 2 (fun L => (32, .int .i64 0) :: (31, .int .i64 (nn : Nat)) :: L) F (by kernel_rfl) fun a F => ?_
   refine l_do F rfl rfl (op_index _ 31 _ _ Af I.free.length cf nn 2 .i64 F rfl (by kernel_rfl) (by kernel_rfl) (by kernel_rfl) (by kernel_rfl) (get_lt hxf) (row_some S 3 rfl (m := nn) (get_lt hxf)) (fun a F => ?_))
   refine l_do F rfl rfl (op_indexArr _ 23 _ _ Af (nn * 2) 2 0 1 .i64 F rfl (by kernel_rfl) (by kernel_rfl) (by kernel_rfl) (by kernel_rfl) (by decide) (row_some S 3 rfl (m := nn) (get_lt hxf)) (fun a F => ?_))
   refine l_do F rfl rfl (op_load _ _ Af (nn * 2) (.int .u64 xf.1) F rfl (by kernel_rfl) (by kernel_rfl) (cRec S 3 frC_len rfl 0 hxf rfl) (fun a F => ?_))
   by_cases ht2 : (xf.1 : Int) < (am : Int)
   ·
    skip
    refine l_do F rfl rfl (op_pure F (v0 := .bool (decide ((am : Int) > (xf.1 : Int)))) (v := .bool true) (by kernel_rfl) (gtrT ht2) fun a F => ?_)
    refine l_pure 1 (fun L => (25, .bool true) :: L) F (by kernel_rfl) fun a F => ?_
    refine l_then ?_
    refine c_t F rfl ?_
    refine s_reg ?_
    refine l_pure 1 (fun L => (8, .int .i64 28) :: L) F (by kernel_rfl) fun a F => ?_
    refine l_then ?_
    refine wp_ret ?_
    refine inb_r (then_r (?_))
    exact fin F [.tmp 8] [.int .i64 28] rfl ⟨by kernel_rfl, trivial⟩ (.int .i64 28) rfl ⟨by rw [take_err (spend_room (s := 0) hsd ht1 hxf (show frN xf 0 < am from ht2)) (by decide)], by rw [take_err (spend_room (s := 0) hsd ht1 hxf (show frN xf 0 < am from ht2)) (by decide)]; exact (id_shut hps (by simp) (by simp) (by simp) (S.pick [0, 1, 2, 3, 4, 5, 6] (by decide)))⟩
   ·
    skip
    refine l_do F rfl rfl (op_pure F (v0 := .bool (decide ((am : Int) > (xf.1 : Int)))) (v := .bool false) (by kernel_rfl) (gtrF ht2) fun a F => ?_)
    refine l_pure 1 (fun L => (25, .bool false) :: L) F (by kernel_rfl) fun a F => ?_
    refine l_then ?_
    refine c_f F rfl ?_
    refine wp_skip ?_
    refine inb_n ?_
    refine then_n ?_
    refine wp_seq ?_
    have hn3 : Option.isSome Af = true := (row_some S 3 rfl (m := nn) (get_lt hxf))
    refine region_gx (fun D => fun (_ : Unit) => [rest w G, box b 61 [.slice Ae I.ends.length ce, .slice Af I.free.length cf, .map (some r), .slice Ah I.has.length ch], rEl Ae ce I.ends, bif D 13 then rF Af I.free.length cf (I.free.set nn ((xf.1 - am, xf.2) : Int × Int)) else rFl Af cf I.free, rUl Ah ch I.has, mapA r .u64 (ps.map entM) ck, bag (ps.flatMap payRows)]) (fun (_ : Unit) => [.pointer (some ⟨b, 0, none⟩), .pointer (some ⟨b, 0, none⟩), .pointer (some ⟨b, 1, none⟩), .slice Af I.free.length cf, .int .i64 (nn : Nat), .int .i64 0, ptrA Af (nn * 2), ptrA Af (nn * 2), .int .u64 xf.1, .int .u64 am, .int .u64 (xf.1 - am), ptrA Af (nn * 2), ptrA Af (nn * 2), undef]) [(3, [], [6, 7, 8, 10, 11, 12, 13]), (6, [3], [7, 8, 10, 12, 13]), (7, [3, 6], [8, 10, 12, 13]), (8, [3, 6, 7], [10, 12, 13]), (10, [3, 6, 7, 8], [12, 13]), (11, [3], [12, 13]), (12, [3, 6, 7, 8, 10, 11], [13]), (13, [3, 6, 7, 8, 10, 11, 12], [])] () rfl (by kernel_rfl) (by kernel_rfl) F S.drew ?_ ?_ ?_ ?_ ?_
    · rintro ⟨⟩; rfl
    · rintro ⟨⟩; kernel_rfl
    ·
     intro D D' x h
     cases x
     simp only [h 13 (by decide)]
    ·
     refine ⟨?_, ?_⟩
     ·
      refine ⟨_, rfl, rfl, by kernel_rfl, ?_⟩
      rintro D ⟨⟩ a z S F
      refine ⟨by kernel_rfl, ?_⟩
      exact op_load _ _ (some ⟨b, 0, none⟩) 1 (.slice Af I.free.length cf) F rfl (by kernel_rfl) (by kernel_rfl) (cBox S 1 rfl (j := 1) rfl) (⟨(), rfl, (SameB.refl _ _ rfl), S⟩)
     refine ⟨?_, ?_⟩
     ·
      refine ⟨_, rfl, rfl, by kernel_rfl, ?_⟩
      rintro D ⟨⟩ a z S F
      refine ⟨by kernel_rfl, ?_⟩
      exact op_index _ 31 _ _ Af I.free.length cf nn 2 .i64 F rfl (by kernel_rfl) (by kernel_rfl) (by kernel_rfl) (by kernel_rfl) (get_lt hxf) hn3 (⟨(), rfl, (SameB.refl _ _ rfl), S⟩)
     refine ⟨?_, ?_⟩
     ·
      refine ⟨_, rfl, rfl, by kernel_rfl, ?_⟩
      rintro D ⟨⟩ a z S F
      refine ⟨by kernel_rfl, ?_⟩
      exact op_indexArr _ 23 _ _ Af (nn * 2) 2 0 1 .i64 F rfl (by kernel_rfl) (by kernel_rfl) (by kernel_rfl) (by kernel_rfl) (by decide) hn3 (⟨(), rfl, (SameB.refl _ _ rfl), S⟩)
     refine ⟨?_, ?_⟩
     ·
      refine ⟨_, rfl, rfl, by kernel_rfl, ?_⟩
      rintro D ⟨⟩ a z S F
      refine ⟨by kernel_rfl, ?_⟩
      exact op_load _ _ Af (nn * 2) (.int .u64 xf.1) F rfl (by kernel_rfl) (by kernel_rfl) (cRec S 3 frC_len rfl 0 hxf rfl) (⟨(), rfl, (SameB.refl _ _ rfl), S⟩)
     refine ⟨?_, ?_⟩
     ·
      refine ⟨_, rfl, rfl, by kernel_rfl, ?_⟩
      rintro D ⟨⟩ a z S F
      refine ⟨by kernel_rfl, ?_⟩
      exact op_pure F (v0 := .int .u64 (IntKind.wrap .u64 (xf.1 - am))) (v := .int .u64 (xf.1 - am)) (by kernel_rfl) (wr_u64 (by omega) (by omega)) ⟨(), rfl, (SameB.refl _ _ rfl), S⟩
     refine ⟨?_, ?_⟩
     ·
      refine ⟨_, rfl, rfl, by kernel_rfl, ?_⟩
      rintro D ⟨⟩ a z S F
      refine ⟨by kernel_rfl, ?_⟩
      exact op_index _ 31 _ _ Af I.free.length cf nn 2 .i64 F rfl (by kernel_rfl) (by kernel_rfl) (by kernel_rfl) (by kernel_rfl) (get_lt hxf) hn3 (⟨(), rfl, (SameB.refl _ _ rfl), S⟩)
     refine ⟨?_, ?_⟩
     ·
      refine ⟨_, rfl, rfl, by kernel_rfl, ?_⟩
      rintro D ⟨⟩ a z S F
      refine ⟨by kernel_rfl, ?_⟩
      exact op_indexArr _ 23 _ _ Af (nn * 2) 2 0 1 .i64 F rfl (by kernel_rfl) (by kernel_rfl) (by kernel_rfl) (by kernel_rfl) (by decide) hn3 (⟨(), rfl, (SameB.refl _ _ rfl), S⟩)
     refine ⟨?_, ?_⟩
     ·
      refine ⟨_, rfl, rfl, by kernel_rfl, ?_⟩
      rintro D ⟨⟩ a z S F
      refine ⟨by kernel_rfl, ?_⟩
      exact op_storeRec S 3 _ _ _ Af nn 2 0 (.int .u64 (xf.1 - am)) ((xf.1 - am, xf.2) : Int × Int) F frC_len hxf rfl rfl (by kernel_rfl) (by kernel_rfl) (by kernel_rfl) (by kernel_rfl) (by kernel_rfl) (by kernel_rfl) (by kernel_rfl) fun z S => ⟨(), rfl, (SameB.refl _ _ rfl), S⟩
     trivial
    ·
     rintro ⟨⟩ a z F S
     have F := F.sub (l := [(0, .pointer (some ⟨b, 0, none⟩)), (2, .int .i64 (pa : Nat)), (3, .int .u64 am)]) ⟨by kernel_rfl, by kernel_rfl, by kernel_rfl, trivial⟩
     have S : Sat w z [rest w G, box b 61 [.slice Ae I.ends.length ce, .slice Af I.free.length cf, .map (some r), .slice Ah I.has.length ch], rEl Ae ce I.ends, rF Af I.free.length cf (I.free.set nn ((xf.1 - am, xf.2) : Int × Int)), rUl Ah ch I.has, mapA r .u64 (ps.map entM) ck, bag (ps.flatMap payRows)] := S
     refine then_n ?_
     refine s_reg ?_
     refine l_pure 3 (fun L => (52, .pointer (some ⟨b, 3, none⟩)) :: (51, .pointer (some ⟨b, 0, none⟩)) :: (50, .pointer (some ⟨b, 0, none⟩)) :: L) F (by kernel_rfl) fun a F => ?_
     refine l_do F rfl rfl (op_load _ _ (some ⟨b, 0, none⟩) 3 (.slice Ah I.has.length ch) F rfl (by kernel_rfl) (by kernel_rfl) (cBox S 1 rfl (j := 3) rfl) (fun a F => ?_))
     refine l_pure 1 (fun L => (54, .int .i64 (pa : Nat)) :: L) F (by kernel_rfl) fun a F => ?_
     refine l_do F rfl rfl (op_index _ 23 _ _ Ah I.has.length ch pa 1 .i64 F rfl (by kernel_rfl) (by kernel_rfl) (by kernel_rfl) (by kernel_rfl) (get_lt hxh) (row_some S 4 rfl (m := pa) (get_lt hxh)) (fun a F => ?_))
     refine l_do F rfl rfl (op_load _ _ Ah (pa * 1) (.int .u64 xh) F rfl (by kernel_rfl) (by kernel_rfl) (cRec S 4 iC_len_u64 rfl 0 hxh rfl) (fun a F => ?_))
     refine l_pure 1 (fun L => (57, .int .u64 am) :: L) F (by kernel_rfl) fun a F => ?_
     refine l_do F rfl rfl (op_pure F (v0 := .int .u64 (IntKind.wrap .u64 (xh + am))) (v := .int .u64 (xh + am)) (by kernel_rfl) (wr_u64 (by omega) (by omega)) fun a F => ?_)
     refine l_do F rfl rfl (op_index _ 23 _ _ Ah I.has.length ch pa 1 .i64 F rfl (by kernel_rfl) (by kernel_rfl) (by kernel_rfl) (by kernel_rfl) (get_lt hxh) (row_some S 4 rfl (m := pa) (get_lt hxh)) (fun a F => ?_))
     refine l_do F rfl rfl (op_storeRec S 4 _ _ _ Ah pa 1 0 (.int .u64 (xh + am)) (xh + am) F iC_len_u64 hxh rfl rfl (by kernel_rfl) (by kernel_rfl) (by kernel_rfl) (by kernel_rfl) (by kernel_rfl) (by kernel_rfl) (by kernel_rfl) fun z S a F => ?_)
     refine l_then ?_
     refine s_reg ?_
     refine l_pure 1 (fun L => (8, .int .i64 0) :: L) F (by kernel_rfl) fun a F => ?_
     refine l_then ?_
     refine wp_ret ?_
     exact fin F [.tmp 8] [.int .i64 0] rfl ⟨by kernel_rfl, trivial⟩ (.int .i64 0) rfl ⟨by rw [take_ok (s := 0) (spend_is (s := 0) hsd ht1 hxf (show ¬ frN xf 0 < am from ht2)) hxh hxf], by rw [take_ok (s := 0) (spend_is (s := 0) hsd ht1 hxf (show ¬ frN xf 0 < am from ht2)) hxh hxf]; exact (id_shut hps (by simp) (by simp) (by simp) (S.pick [0, 1, 2, 3, 4, 5, 6] (by decide)))⟩
 ·
  skip
  have hsm := ok.sums
  obtain ⟨hpl, hql, hpq9⟩ := ok.en _ (List.mem_of_getElem? he)
  dsimp only at hpl hql hpq9
  have hnn := (List.getElem?_eq_some_iff.1 he).1
  have hfl := ok.fl
  obtain ⟨xf, hxf⟩ : ∃ xf, I.free[nn]? = some xf := ⟨_, List.getElem?_eq_getElem (by omega)⟩
  have hx2 := sumF_one ok.fu hxf
  obtain ⟨xh, hxh⟩ : ∃ xh, I.has[qa]? = some xh := ⟨_, List.getElem?_eq_getElem (by omega)⟩
  have hx1 := sumI_one I.has qa xh ok.hu hxh
  obtain ⟨G9, g9, hin9, hlt9, k9⟩ := S.frameB [1, 2] (by decide) rfl
  refine l_do F rfl rfl (op_fn F (by kernel_rfl) (side24_at hsd _ G9 b Ae ce Af I.free.length cf r Ah I.has.length ch g9) ?_)
  rintro e z9 ⟨rfl, g⟩
  have S : Sat w z9 [rest w G, box b 61 [.slice Ae I.ends.length ce, .slice Af I.free.length cf, .map (some r), .slice Ah I.has.length ch], rEl Ae ce I.ends, rFl Af cf I.free, rUl Ah ch I.has, mapA r .u64 (ps.map entM) ck, bag (ps.flatMap payRows)] := k9 z9 [box b 61 [.slice Ae I.ends.length ce, .slice Af I.free.length cf, .map (some r), .slice Ah I.has.length ch], rEl Ae ce I.ends] rfl g
  clear g g9 k9 hin9 hlt9
  refine ⟨_, rfl, ?_⟩
  intro a F
  refine l_pure 5 (fun L => (10, .int .i64 0) :: (9, .int .i64 1) :: (17, .int .i64 0) :: (16, .int .i64 1) :: (11, .tuple #[.int .i64 1, .int .i64 0]) :: L) F (by kernel_rfl) fun a F => ?_
  refine l_then ?_
  refine wp_seq ?_
  refine wp_block ?_
  refine s_reg ?_
  refine l_pure 3 (fun L => (18, .bool false) :: (20, .bool false) :: (19, .int .i64 0) :: L) F (by kernel_rfl) fun a F => ?_
  refine l_then ?_
  refine c_f F rfl ?_
  refine s_reg ?_
  refine l_pure 1 (fun L => (23, .int .u64 am) :: L) F (by kernel_rfl) fun a F => ?_
  by_cases ht4 : (am : Int) = (0 : Int)
  ·
   skip
   refine l_do F rfl rfl (op_pure F (v0 := .bool ((am : Int) == (0 : Int))) (v := .bool true) (by kernel_rfl) (eqlT ht4) fun a F => ?_)
   refine l_pure 1 (fun L => (22, .bool true) :: L) F (by kernel_rfl) fun a F => ?_
   refine l_then ?_
   refine c_t F rfl ?_
   refine s_reg ?_
   refine l_pure 1 (fun L => (8, .int .i64 1) :: L) F (by kernel_rfl) fun a F => ?_
   refine l_then ?_
   refine wp_ret ?_
   refine inb_r (then_r (?_))
   exact fin F [.tmp 8] [.int .i64 1] rfl ⟨by kernel_rfl, trivial⟩ (.int .i64 1) rfl ⟨by rw [take_err (spend_zero (by rw [hsd]) ht4) (by decide)], by rw [take_err (spend_zero (by rw [hsd]) ht4) (by decide)]; exact (id_shut hps (by simp) (by simp) (by simp) (S.pick [0, 1, 2, 3, 4, 5, 6] (by decide)))⟩
  ·
   skip
   refine l_do F rfl rfl (op_pure F (v0 := .bool ((am : Int) == (0 : Int))) (v := .bool false) (by kernel_rfl) (eqlF ht4) fun a F => ?_)
   refine l_pure 1 (fun L => (22, .bool false) :: L) F (by kernel_rfl) fun a F => ?_
   refine l_then ?_
   refine c_f F rfl ?_
   refine s_reg ?_
   refine l_pure 4 (fun L => (29, .pointer (some ⟨b, 1, none⟩)) :: (28, .pointer (some ⟨b, 0, none⟩)) :: (27, .pointer (some ⟨b, 0, none⟩)) :: (26, .int .u64 am) :: L) F (by kernel_rfl) fun a F => ?_
   refine l_do F rfl rfl (op_load _ _ (some ⟨b, 0, none⟩) 1 (.slice Af I.free.length cf) F rfl (by kernel_rfl) (by kernel_rfl) (cBox S 1 rfl (j := 1) rfl) (fun a F => ?_))
   refine l_pure 2 (fun L => (32, .int .i64 1) :: (31, .int .i64 (nn : Nat)) :: L) F (by kernel_rfl) fun a F => ?_
   refine l_do F rfl rfl (op_index _ 31 _ _ Af I.free.length cf nn 2 .i64 F rfl (by kernel_rfl) (by kernel_rfl) (by kernel_rfl) (by kernel_rfl) (get_lt hxf) (row_some S 3 rfl (m := nn) (get_lt hxf)) (fun a F => ?_))
   refine l_do F rfl rfl (op_indexArr _ 23 _ _ Af (nn * 2) 2 1 1 .i64 F rfl (by kernel_rfl) (by kernel_rfl) (by kernel_rfl) (by kernel_rfl) (by decide) (row_some S 3 rfl (m := nn) (get_lt hxf)) (fun a F => ?_))
   refine l_do F rfl rfl (op_load _ _ Af (nn * 2 + 1) (.int .u64 xf.2) F rfl (by kernel_rfl) (by kernel_rfl) (cRec S 3 frC_len rfl 1 hxf rfl) (fun a F => ?_))
   by_cases ht5 : (xf.2 : Int) < (am : Int)
   ·
    skip
    refine l_do F rfl rfl (op_pure F (v0 := .bool (decide ((am : Int) > (xf.2 : Int)))) (v := .bool true) (by kernel_rfl) (gtrT ht5) fun a F => ?_)
    refine l_pure 1 (fun L => (25, .bool true) :: L) F (by kernel_rfl) fun a F => ?_
    refine l_then ?_
    refine c_t F rfl ?_
    refine s_reg ?_
    refine l_pure 1 (fun L => (8, .int .i64 28) :: L) F (by kernel_rfl) fun a F => ?_
    refine l_then ?_
    refine wp_ret ?_
    refine inb_r (then_r (?_))
    exact fin F [.tmp 8] [.int .i64 28] rfl ⟨by kernel_rfl, trivial⟩ (.int .i64 28) rfl ⟨by rw [take_err (spend_room (s := 1) hsd ht4 hxf (show frN xf 1 < am from ht5)) (by decide)], by rw [take_err (spend_room (s := 1) hsd ht4 hxf (show frN xf 1 < am from ht5)) (by decide)]; exact (id_shut hps (by simp) (by simp) (by simp) (S.pick [0, 1, 2, 3, 4, 5, 6] (by decide)))⟩
   ·
    skip
    refine l_do F rfl rfl (op_pure F (v0 := .bool (decide ((am : Int) > (xf.2 : Int)))) (v := .bool false) (by kernel_rfl) (gtrF ht5) fun a F => ?_)
    refine l_pure 1 (fun L => (25, .bool false) :: L) F (by kernel_rfl) fun a F => ?_
    refine l_then ?_
    refine c_f F rfl ?_
    refine wp_skip ?_
    refine inb_n ?_
    refine then_n ?_
    refine wp_seq ?_
    have hn6 : Option.isSome Af = true := (row_some S 3 rfl (m := nn) (get_lt hxf))
    refine region_gx (fun D => fun (_ : Unit) => [rest w G, box b 61 [.slice Ae I.ends.length ce, .slice Af I.free.length cf, .map (some r), .slice Ah I.has.length ch], rEl Ae ce I.ends, bif D 13 then rF Af I.free.length cf (I.free.set nn ((xf.1, xf.2 - am) : Int × Int)) else rFl Af cf I.free, rUl Ah ch I.has, mapA r .u64 (ps.map entM) ck, bag (ps.flatMap payRows)]) (fun (_ : Unit) => [.pointer (some ⟨b, 0, none⟩), .pointer (some ⟨b, 0, none⟩), .pointer (some ⟨b, 1, none⟩), .slice Af I.free.length cf, .int .i64 (nn : Nat), .int .i64 1, ptrA Af (nn * 2), ptrA Af (nn * 2 + 1), .int .u64 xf.2, .int .u64 am, .int .u64 (xf.2 - am), ptrA Af (nn * 2), ptrA Af (nn * 2 + 1), undef]) [(3, [], [6, 7, 8, 10, 11, 12, 13]), (6, [3], [7, 8, 10, 12, 13]), (7, [3, 6], [8, 10, 12, 13]), (8, [3, 6, 7], [10, 12, 13]), (10, [3, 6, 7, 8], [12, 13]), (11, [3], [12, 13]), (12, [3, 6, 7, 8, 10, 11], [13]), (13, [3, 6, 7, 8, 10, 11, 12], [])] () rfl (by kernel_rfl) (by kernel_rfl) F S.drew ?_ ?_ ?_ ?_ ?_
    · rintro ⟨⟩; rfl
    · rintro ⟨⟩; kernel_rfl
    ·
     intro D D' x h
     cases x
     simp only [h 13 (by decide)]
    ·
     refine ⟨?_, ?_⟩
     ·
      refine ⟨_, rfl, rfl, by kernel_rfl, ?_⟩
      rintro D ⟨⟩ a z S F
      refine ⟨by kernel_rfl, ?_⟩
      exact op_load _ _ (some ⟨b, 0, none⟩) 1 (.slice Af I.free.length cf) F rfl (by kernel_rfl) (by kernel_rfl) (cBox S 1 rfl (j := 1) rfl) (⟨(), rfl, (SameB.refl _ _ rfl), S⟩)
     refine ⟨?_, ?_⟩
     ·
      refine ⟨_, rfl, rfl, by kernel_rfl, ?_⟩
      rintro D ⟨⟩ a z S F
      refine ⟨by kernel_rfl, ?_⟩
      exact op_index _ 31 _ _ Af I.free.length cf nn 2 .i64 F rfl (by kernel_rfl) (by kernel_rfl) (by kernel_rfl) (by kernel_rfl) (get_lt hxf) hn6 (⟨(), rfl, (SameB.refl _ _ rfl), S⟩)
     refine ⟨?_, ?_⟩
     ·
      refine ⟨_, rfl, rfl, by kernel_rfl, ?_⟩
      rintro D ⟨⟩ a z S F
      refine ⟨by kernel_rfl, ?_⟩
      exact op_indexArr _ 23 _ _ Af (nn * 2) 2 1 1 .i64 F rfl (by kernel_rfl) (by kernel_rfl) (by kernel_rfl) (by kernel_rfl) (by decide) hn6 (⟨(), rfl, (SameB.refl _ _ rfl), S⟩)
     refine ⟨?_, ?_⟩
     ·
      refine ⟨_, rfl, rfl, by kernel_rfl, ?_⟩
      rintro D ⟨⟩ a z S F
      refine ⟨by kernel_rfl, ?_⟩
      exact op_load _ _ Af (nn * 2 + 1) (.int .u64 xf.2) F rfl (by kernel_rfl) (by kernel_rfl) (cRec S 3 frC_len rfl 1 hxf rfl) (⟨(), rfl, (SameB.refl _ _ rfl), S⟩)
     refine ⟨?_, ?_⟩
     ·
      refine ⟨_, rfl, rfl, by kernel_rfl, ?_⟩
      rintro D ⟨⟩ a z S F
      refine ⟨by kernel_rfl, ?_⟩
      exact op_pure F (v0 := .int .u64 (IntKind.wrap .u64 (xf.2 - am))) (v := .int .u64 (xf.2 - am)) (by kernel_rfl) (wr_u64 (by omega) (by omega)) ⟨(), rfl, (SameB.refl _ _ rfl), S⟩
     refine ⟨?_, ?_⟩
     ·
      refine ⟨_, rfl, rfl, by kernel_rfl, ?_⟩
      rintro D ⟨⟩ a z S F
      refine ⟨by kernel_rfl, ?_⟩
      exact op_index _ 31 _ _ Af I.free.length cf nn 2 .i64 F rfl (by kernel_rfl) (by kernel_rfl) (by kernel_rfl) (by kernel_rfl) (get_lt hxf) hn6 (⟨(), rfl, (SameB.refl _ _ rfl), S⟩)
     refine ⟨?_, ?_⟩
     ·
      refine ⟨_, rfl, rfl, by kernel_rfl, ?_⟩
      rintro D ⟨⟩ a z S F
      refine ⟨by kernel_rfl, ?_⟩
      exact op_indexArr _ 23 _ _ Af (nn * 2) 2 1 1 .i64 F rfl (by kernel_rfl) (by kernel_rfl) (by kernel_rfl) (by kernel_rfl) (by decide) hn6 (⟨(), rfl, (SameB.refl _ _ rfl), S⟩)
     refine ⟨?_, ?_⟩
     ·
      refine ⟨_, rfl, rfl, by kernel_rfl, ?_⟩
      rintro D ⟨⟩ a z S F
      refine ⟨by kernel_rfl, ?_⟩
      exact op_storeRec S 3 _ _ _ Af nn 2 1 (.int .u64 (xf.2 - am)) ((xf.1, xf.2 - am) : Int × Int) F frC_len hxf rfl rfl (by kernel_rfl) (by kernel_rfl) (by kernel_rfl) (by kernel_rfl) (by kernel_rfl) (by kernel_rfl) (by kernel_rfl) fun z S => ⟨(), rfl, (SameB.refl _ _ rfl), S⟩
     trivial
    ·
     rintro ⟨⟩ a z F S
     have F := F.sub (l := [(0, .pointer (some ⟨b, 0, none⟩)), (2, .int .i64 (qa : Nat)), (3, .int .u64 am)]) ⟨by kernel_rfl, by kernel_rfl, by kernel_rfl, trivial⟩
     have S : Sat w z [rest w G, box b 61 [.slice Ae I.ends.length ce, .slice Af I.free.length cf, .map (some r), .slice Ah I.has.length ch], rEl Ae ce I.ends, rF Af I.free.length cf (I.free.set nn ((xf.1, xf.2 - am) : Int × Int)), rUl Ah ch I.has, mapA r .u64 (ps.map entM) ck, bag (ps.flatMap payRows)] := S
     refine then_n ?_
     refine s_reg ?_
     refine l_pure 3 (fun L => (52, .pointer (some ⟨b, 3, none⟩)) :: (51, .pointer (some ⟨b, 0, none⟩)) :: (50, .pointer (some ⟨b, 0, none⟩)) :: L) F (by kernel_rfl) fun a F => ?_
     refine l_do F rfl rfl (op_load _ _ (some ⟨b, 0, none⟩) 3 (.slice Ah I.has.length ch) F rfl (by kernel_rfl) (by kernel_rfl) (cBox S 1 rfl (j := 3) rfl) (fun a F => ?_))
     refine l_pure 1 (fun L => (54, .int .i64 (qa : Nat)) :: L) F (by kernel_rfl) fun a F => ?_
     refine l_do F rfl rfl (op_index _ 23 _ _ Ah I.has.length ch qa 1 .i64 F rfl (by kernel_rfl) (by kernel_rfl) (by kernel_rfl) (by kernel_rfl) (get_lt hxh) (row_some S 4 rfl (m := qa) (get_lt hxh)) (fun a F => ?_))
     refine l_do F rfl rfl (op_load _ _ Ah (qa * 1) (.int .u64 xh) F rfl (by kernel_rfl) (by kernel_rfl) (cRec S 4 iC_len_u64 rfl 0 hxh rfl) (fun a F => ?_))
     refine l_pure 1 (fun L => (57, .int .u64 am) :: L) F (by kernel_rfl) fun a F => ?_
     refine l_do F rfl rfl (op_pure F (v0 := .int .u64 (IntKind.wrap .u64 (xh + am))) (v := .int .u64 (xh + am)) (by kernel_rfl) (wr_u64 (by omega) (by omega)) fun a F => ?_)
     refine l_do F rfl rfl (op_index _ 23 _ _ Ah I.has.length ch qa 1 .i64 F rfl (by kernel_rfl) (by kernel_rfl) (by kernel_rfl) (by kernel_rfl) (get_lt hxh) (row_some S 4 rfl (m := qa) (get_lt hxh)) (fun a F => ?_))
     refine l_do F rfl rfl (op_storeRec S 4 _ _ _ Ah qa 1 0 (.int .u64 (xh + am)) (xh + am) F iC_len_u64 hxh rfl rfl (by kernel_rfl) (by kernel_rfl) (by kernel_rfl) (by kernel_rfl) (by kernel_rfl) (by kernel_rfl) (by kernel_rfl) fun z S a F => ?_)
     refine l_then ?_
     refine s_reg ?_
     refine l_pure 1 (fun L => (8, .int .i64 0) :: L) F (by kernel_rfl) fun a F => ?_
     refine l_then ?_
     refine wp_ret ?_
     exact fin F [.tmp 8] [.int .i64 0] rfl ⟨by kernel_rfl, trivial⟩ (.int .i64 0) rfl ⟨by rw [take_ok (s := 1) (spend_is (s := 1) hsd ht4 hxf (show ¬ frN xf 1 < am from ht5)) hxh hxf], by rw [take_ok (s := 1) (spend_is (s := 1) hsd ht4 hxf (show ¬ frN xf 1 < am from ht5)) hxh hxf]; exact (id_shut hps (by simp) (by simp) (by simp) (S.pick [0, 1, 2, 3, 4, 5, 6] (by decide)))⟩
 ·
  skip
  have hsm := ok.sums
  obtain ⟨hpl, hql, hpq9⟩ := ok.en _ (List.mem_of_getElem? he)
  dsimp only at hpl hql hpq9
  have hnn := (List.getElem?_eq_some_iff.1 he).1
  have hfl := ok.fl
  obtain ⟨xf, hxf⟩ : ∃ xf, I.free[nn]? = some xf := ⟨_, List.getElem?_eq_getElem (by omega)⟩
  have hx2 := sumF_one ok.fu hxf
  obtain ⟨G9, g9, hin9, hlt9, k9⟩ := S.frameB [1, 2] (by decide) rfl
  refine l_do F rfl rfl (op_fn F (by kernel_rfl) (side24_at hsd _ G9 b Ae ce Af I.free.length cf r Ah I.has.length ch g9) ?_)
  rintro e z9 ⟨rfl, g⟩
  have S : Sat w z9 [rest w G, box b 61 [.slice Ae I.ends.length ce, .slice Af I.free.length cf, .map (some r), .slice Ah I.has.length ch], rEl Ae ce I.ends, rFl Af cf I.free, rUl Ah ch I.has, mapA r .u64 (ps.map entM) ck, bag (ps.flatMap payRows)] := k9 z9 [box b 61 [.slice Ae I.ends.length ce, .slice Af I.free.length cf, .map (some r), .slice Ah I.has.length ch], rEl Ae ce I.ends] rfl g
  clear g g9 k9 hin9 hlt9
  refine ⟨_, rfl, ?_⟩
  intro a F
  refine l_pure 5 (fun L => (10, .int .i64 1) :: (9, .int .i64 0) :: (17, .int .i64 1) :: (16, .int .i64 0) :: (11, .tuple #[.int .i64 0, .int .i64 1]) :: L) F (by kernel_rfl) fun a F => ?_
  refine l_then ?_
  refine wp_seq ?_
  refine wp_block ?_
  refine s_reg ?_
  refine l_pure 3 (fun L => (18, .bool true) :: (20, .bool true) :: (19, .int .i64 1) :: L) F (by kernel_rfl) fun a F => ?_
  refine l_then ?_
  refine c_t F rfl ?_
  refine s_reg ?_
  refine l_pure 2 (fun L => (8, .int .i64 1) :: (21, .int .i64 1) :: L) F (by kernel_rfl) fun a F => ?_
  refine l_then ?_
  refine wp_ret ?_
  refine inb_r (then_r (?_))
  exact fin F [.tmp 8] [.int .i64 1] rfl ⟨by kernel_rfl, trivial⟩ (.int .i64 1) rfl ⟨by rw [take_err (spend_err (by rw [hsd]; decide)) (by rw [hsd]; decide), hsd], by rw [take_err (spend_err (by rw [hsd]; decide)) (by rw [hsd]; decide)]; exact (id_shut hps (by simp) (by simp) (by simp) (S.pick [0, 1, 2, 3, 4, 5, 6] (by decide)))⟩
set_option maxRecDepth 100000 in
set_option maxHeartbeats 4000000 in
theorem move24_any (w : World) (G : Nat → Prop) (b : Nat) (I : Idl) (ok : IOk I) (hS : Sat w w [idA b I, rest w G]) (cid who am : Int) (ham : U64 am) : Calls Try.prog 23 #[.pointer (some ⟨b, 0, none⟩), .int .i64 cid, .int .i64 who, .int .u64 am] w fun e w' => e = .returned (.int .i64 (moveP I cid who am).2) ∧ Sat w w' [idA b (moveP I cid who am).1, rest w G] := by
 have ham2 := ham
 unfold U64 at ham2
 refine enter 64 Try.func23 rfl rfl rfl fun a F => ?_
 obtain ⟨Ae, ce, Af, cf, Ah, ch, r, ck, ps, hps, S⟩ := id_open hS
 refine s_reg ?_
 refine l_pure 1 (fun L => (8, .int .i64 0) :: L) F (by kernel_rfl) fun a F => ?_
 refine l_then ?_
 refine s_reg ?_
 refine l_pure 3 (fun L => (14, .int .i64 who) :: (13, .int .i64 cid) :: (12, .pointer (some ⟨b, 0, none⟩)) :: L) F (by kernel_rfl) fun a F => ?_
 rcases side_cases24 I.ends cid who with ⟨hsd, hbad⟩ | ⟨nn, pa, qa, rfl, rfl, he, hsd⟩ | ⟨nn, pa, qa, rfl, rfl, he, hpq, hsd⟩ | ⟨nn, pa, qa, rfl, he, hw1, hw2, hsd⟩
 ·
  skip
  have hnl := ok.fl
  obtain ⟨G9, g9, hin9, hlt9, k9⟩ := S.frameB [1, 2] (by decide) rfl
  refine l_do F rfl rfl (op_fn F (by kernel_rfl) (side24_at hsd _ G9 b Ae ce Af I.free.length cf r Ah I.has.length ch g9) ?_)
  rintro e z9 ⟨rfl, g⟩
  have S : Sat w z9 [rest w G, box b 61 [.slice Ae I.ends.length ce, .slice Af I.free.length cf, .map (some r), .slice Ah I.has.length ch], rEl Ae ce I.ends, rFl Af cf I.free, rUl Ah ch I.has, mapA r .u64 (ps.map entM) ck, bag (ps.flatMap payRows)] := k9 z9 [box b 61 [.slice Ae I.ends.length ce, .slice Af I.free.length cf, .map (some r), .slice Ah I.has.length ch], rEl Ae ce I.ends] rfl g
  clear g g9 k9 hin9 hlt9
  refine ⟨_, rfl, ?_⟩
  intro a F
  refine l_pure 5 (fun L => (10, .int .i64 6) :: (9, .int .i64 0) :: (17, .int .i64 6) :: (16, .int .i64 0) :: (11, .tuple #[.int .i64 0, .int .i64 6]) :: L) F (by kernel_rfl) fun a F => ?_
  refine l_then ?_
  refine wp_seq ?_
  refine wp_block ?_
  refine s_reg ?_
  refine l_pure 3 (fun L => (18, .bool true) :: (20, .bool true) :: (19, .int .i64 6) :: L) F (by kernel_rfl) fun a F => ?_
  refine l_then ?_
  refine c_t F rfl ?_
  refine s_reg ?_
  refine l_pure 2 (fun L => (8, .int .i64 6) :: (21, .int .i64 6) :: L) F (by kernel_rfl) fun a F => ?_
  refine l_then ?_
  refine wp_ret ?_
  refine inb_r (then_r (?_))
  exact fin F [.tmp 8] [.int .i64 6] rfl ⟨by kernel_rfl, trivial⟩ (.int .i64 6) rfl ⟨by rw [move_err (spend_err (by rw [hsd]; decide)) (by rw [hsd]; decide), hsd], by rw [move_err (spend_err (by rw [hsd]; decide)) (by rw [hsd]; decide)]; exact (id_shut hps (by simp) (by simp) (by simp) (S.pick [0, 1, 2, 3, 4, 5, 6] (by decide)))⟩
 ·
  skip
  have hsm := ok.sums
  obtain ⟨hpl, hql, hpq9⟩ := ok.en _ (List.mem_of_getElem? he)
  dsimp only at hpl hql hpq9
  have hnn := (List.getElem?_eq_some_iff.1 he).1
  have hfl := ok.fl
  obtain ⟨xf, hxf⟩ : ∃ xf, I.free[nn]? = some xf := ⟨_, List.getElem?_eq_getElem (by omega)⟩
  have hx2 := sumF_one ok.fu hxf
  obtain ⟨xh, hxh⟩ : ∃ xh, I.has[pa]? = some xh := ⟨_, List.getElem?_eq_getElem (by omega)⟩
  have hx1 := sumI_one I.has pa xh ok.hu hxh
  obtain ⟨G9, g9, hin9, hlt9, k9⟩ := S.frameB [1, 2] (by decide) rfl
  refine l_do F rfl rfl (op_fn F (by kernel_rfl) (side24_at hsd _ G9 b Ae ce Af I.free.length cf r Ah I.has.length ch g9) ?_)
  rintro e z9 ⟨rfl, g⟩
  have S : Sat w z9 [rest w G, box b 61 [.slice Ae I.ends.length ce, .slice Af I.free.length cf, .map (some r), .slice Ah I.has.length ch], rEl Ae ce I.ends, rFl Af cf I.free, rUl Ah ch I.has, mapA r .u64 (ps.map entM) ck, bag (ps.flatMap payRows)] := k9 z9 [box b 61 [.slice Ae I.ends.length ce, .slice Af I.free.length cf, .map (some r), .slice Ah I.has.length ch], rEl Ae ce I.ends] rfl g
  clear g g9 k9 hin9 hlt9
  refine ⟨_, rfl, ?_⟩
  intro a F
  refine l_pure 5 (fun L => (10, .int .i64 0) :: (9, .int .i64 0) :: (17, .int .i64 0) :: (16, .int .i64 0) :: (11, .tuple #[.int .i64 0, .int .i64 0]) :: L) F (by kernel_rfl) fun a F => ?_
  refine l_then ?_
  refine wp_seq ?_
  refine wp_block ?_
  refine s_reg ?_
  refine l_pure 3 (fun L => (18, .bool false) :: (20, .bool false) :: (19, .int .i64 0) :: L) F (by kernel_rfl) fun a F => ?_
  refine l_then ?_
  refine c_f F rfl ?_
  refine s_reg ?_
  refine l_pure 1 (fun L => (23, .int .u64 am) :: L) F (by kernel_rfl) fun a F => ?_
  by_cases ht1 : (am : Int) = (0 : Int)
  ·
   skip
   refine l_do F rfl rfl (op_pure F (v0 := .bool ((am : Int) == (0 : Int))) (v := .bool true) (by kernel_rfl) (eqlT ht1) fun a F => ?_)
   refine l_pure 1 (fun L => (22, .bool true) :: L) F (by kernel_rfl) fun a F => ?_
   refine l_then ?_
   refine c_t F rfl ?_
   refine s_reg ?_
   refine l_pure 1 (fun L => (8, .int .i64 1) :: L) F (by kernel_rfl) fun a F => ?_
   refine l_then ?_
   refine wp_ret ?_
   refine inb_r (then_r (?_))
   exact fin F [.tmp 8] [.int .i64 1] rfl ⟨by kernel_rfl, trivial⟩ (.int .i64 1) rfl ⟨by rw [move_err (spend_zero (by rw [hsd]) ht1) (by decide)], by rw [move_err (spend_zero (by rw [hsd]) ht1) (by decide)]; exact (id_shut hps (by simp) (by simp) (by simp) (S.pick [0, 1, 2, 3, 4, 5, 6] (by decide)))⟩
  ·
   skip
   refine l_do F rfl rfl (op_pure F (v0 := .bool ((am : Int) == (0 : Int))) (v := .bool false) (by kernel_rfl) (eqlF ht1) fun a F => ?_)
   refine l_pure 1 (fun L => (22, .bool false) :: L) F (by kernel_rfl) fun a F => ?_
   refine l_then ?_
   refine c_f F rfl ?_
   refine s_reg ?_
   refine l_pure 4 (fun L => (29, .pointer (some ⟨b, 1, none⟩)) :: (28, .pointer (some ⟨b, 0, none⟩)) :: (27, .pointer (some ⟨b, 0, none⟩)) :: (26, .int .u64 am) :: L) F (by kernel_rfl) fun a F => ?_
   refine l_do F rfl rfl (op_load _ _ (some ⟨b, 0, none⟩) 1 (.slice Af I.free.length cf) F rfl (by kernel_rfl) (by kernel_rfl) (cBox S 1 rfl (j := 1) rfl) (fun a F => ?_))
   refine l_pure 2 (fun L => (32, .int .i64 0) :: (31, .int .i64 (nn : Nat)) :: L) F (by kernel_rfl) fun a F => ?_
   refine l_do F rfl rfl (op_index _ 31 _ _ Af I.free.length cf nn 2 .i64 F rfl (by kernel_rfl) (by kernel_rfl) (by kernel_rfl) (by kernel_rfl) (get_lt hxf) (row_some S 3 rfl (m := nn) (get_lt hxf)) (fun a F => ?_))
   refine l_do F rfl rfl (op_indexArr _ 23 _ _ Af (nn * 2) 2 0 1 .i64 F rfl (by kernel_rfl) (by kernel_rfl) (by kernel_rfl) (by kernel_rfl) (by decide) (row_some S 3 rfl (m := nn) (get_lt hxf)) (fun a F => ?_))
   refine l_do F rfl rfl (op_load _ _ Af (nn * 2) (.int .u64 xf.1) F rfl (by kernel_rfl) (by kernel_rfl) (cRec S 3 frC_len rfl 0 hxf rfl) (fun a F => ?_))
   by_cases ht2 : (xf.1 : Int) < (am : Int)
   ·
    skip
    refine l_do F rfl rfl (op_pure F (v0 := .bool (decide ((am : Int) > (xf.1 : Int)))) (v := .bool true) (by kernel_rfl) (gtrT ht2) fun a F => ?_)
    refine l_pure 1 (fun L => (25, .bool true) :: L) F (by kernel_rfl) fun a F => ?_
    refine l_then ?_
    refine c_t F rfl ?_
    refine s_reg ?_
    refine l_pure 1 (fun L => (8, .int .i64 28) :: L) F (by kernel_rfl) fun a F => ?_
    refine l_then ?_
    refine wp_ret ?_
    refine inb_r (then_r (?_))
    exact fin F [.tmp 8] [.int .i64 28] rfl ⟨by kernel_rfl, trivial⟩ (.int .i64 28) rfl ⟨by rw [move_err (spend_room (s := 0) hsd ht1 hxf (show frN xf 0 < am from ht2)) (by decide)], by rw [move_err (spend_room (s := 0) hsd ht1 hxf (show frN xf 0 < am from ht2)) (by decide)]; exact (id_shut hps (by simp) (by simp) (by simp) (S.pick [0, 1, 2, 3, 4, 5, 6] (by decide)))⟩
   ·
    skip
    refine l_do F rfl rfl (op_pure F (v0 := .bool (decide ((am : Int) > (xf.1 : Int)))) (v := .bool false) (by kernel_rfl) (gtrF ht2) fun a F => ?_)
    refine l_pure 1 (fun L => (25, .bool false) :: L) F (by kernel_rfl) fun a F => ?_
    refine l_then ?_
    refine c_f F rfl ?_
    refine wp_skip ?_
    refine inb_n ?_
    refine then_n ?_
    refine wp_seq ?_
    have hn3 : Option.isSome Af = true := (row_some S 3 rfl (m := nn) (get_lt hxf))
    refine region_gx (fun D => fun (_ : Unit) => [rest w G, box b 61 [.slice Ae I.ends.length ce, .slice Af I.free.length cf, .map (some r), .slice Ah I.has.length ch], rEl Ae ce I.ends, bif D 13 then rF Af I.free.length cf (I.free.set nn ((xf.1 - am, xf.2) : Int × Int)) else rFl Af cf I.free, rUl Ah ch I.has, mapA r .u64 (ps.map entM) ck, bag (ps.flatMap payRows)]) (fun (_ : Unit) => [.pointer (some ⟨b, 0, none⟩), .pointer (some ⟨b, 0, none⟩), .pointer (some ⟨b, 1, none⟩), .slice Af I.free.length cf, .int .i64 (nn : Nat), .int .i64 0, ptrA Af (nn * 2), ptrA Af (nn * 2), .int .u64 xf.1, .int .u64 am, .int .u64 (xf.1 - am), ptrA Af (nn * 2), ptrA Af (nn * 2), undef]) [(3, [], [6, 7, 8, 10, 11, 12, 13]), (6, [3], [7, 8, 10, 12, 13]), (7, [3, 6], [8, 10, 12, 13]), (8, [3, 6, 7], [10, 12, 13]), (10, [3, 6, 7, 8], [12, 13]), (11, [3], [12, 13]), (12, [3, 6, 7, 8, 10, 11], [13]), (13, [3, 6, 7, 8, 10, 11, 12], [])] () rfl (by kernel_rfl) (by kernel_rfl) F S.drew ?_ ?_ ?_ ?_ ?_
    · rintro ⟨⟩; rfl
    · rintro ⟨⟩; kernel_rfl
    ·
     intro D D' x h
     cases x
     simp only [h 13 (by decide)]
    ·
     refine ⟨?_, ?_⟩
     ·
      refine ⟨_, rfl, rfl, by kernel_rfl, ?_⟩
      rintro D ⟨⟩ a z S F
      refine ⟨by kernel_rfl, ?_⟩
      exact op_load _ _ (some ⟨b, 0, none⟩) 1 (.slice Af I.free.length cf) F rfl (by kernel_rfl) (by kernel_rfl) (cBox S 1 rfl (j := 1) rfl) (⟨(), rfl, (SameB.refl _ _ rfl), S⟩)
     refine ⟨?_, ?_⟩
     ·
      refine ⟨_, rfl, rfl, by kernel_rfl, ?_⟩
      rintro D ⟨⟩ a z S F
      refine ⟨by kernel_rfl, ?_⟩
      exact op_index _ 31 _ _ Af I.free.length cf nn 2 .i64 F rfl (by kernel_rfl) (by kernel_rfl) (by kernel_rfl) (by kernel_rfl) (get_lt hxf) hn3 (⟨(), rfl, (SameB.refl _ _ rfl), S⟩)
     refine ⟨?_, ?_⟩
     ·
      refine ⟨_, rfl, rfl, by kernel_rfl, ?_⟩
      rintro D ⟨⟩ a z S F
      refine ⟨by kernel_rfl, ?_⟩
      exact op_indexArr _ 23 _ _ Af (nn * 2) 2 0 1 .i64 F rfl (by kernel_rfl) (by kernel_rfl) (by kernel_rfl) (by kernel_rfl) (by decide) hn3 (⟨(), rfl, (SameB.refl _ _ rfl), S⟩)
     refine ⟨?_, ?_⟩
     ·
      refine ⟨_, rfl, rfl, by kernel_rfl, ?_⟩
      rintro D ⟨⟩ a z S F
      refine ⟨by kernel_rfl, ?_⟩
      exact op_load _ _ Af (nn * 2) (.int .u64 xf.1) F rfl (by kernel_rfl) (by kernel_rfl) (cRec S 3 frC_len rfl 0 hxf rfl) (⟨(), rfl, (SameB.refl _ _ rfl), S⟩)
     refine ⟨?_, ?_⟩
     ·
      refine ⟨_, rfl, rfl, by kernel_rfl, ?_⟩
      rintro D ⟨⟩ a z S F
      refine ⟨by kernel_rfl, ?_⟩
      exact op_pure F (v0 := .int .u64 (IntKind.wrap .u64 (xf.1 - am))) (v := .int .u64 (xf.1 - am)) (by kernel_rfl) (wr_u64 (by omega) (by omega)) ⟨(), rfl, (SameB.refl _ _ rfl), S⟩
     refine ⟨?_, ?_⟩
     ·
      refine ⟨_, rfl, rfl, by kernel_rfl, ?_⟩
      rintro D ⟨⟩ a z S F
      refine ⟨by kernel_rfl, ?_⟩
      exact op_index _ 31 _ _ Af I.free.length cf nn 2 .i64 F rfl (by kernel_rfl) (by kernel_rfl) (by kernel_rfl) (by kernel_rfl) (get_lt hxf) hn3 (⟨(), rfl, (SameB.refl _ _ rfl), S⟩)
     refine ⟨?_, ?_⟩
     ·
      refine ⟨_, rfl, rfl, by kernel_rfl, ?_⟩
      rintro D ⟨⟩ a z S F
      refine ⟨by kernel_rfl, ?_⟩
      exact op_indexArr _ 23 _ _ Af (nn * 2) 2 0 1 .i64 F rfl (by kernel_rfl) (by kernel_rfl) (by kernel_rfl) (by kernel_rfl) (by decide) hn3 (⟨(), rfl, (SameB.refl _ _ rfl), S⟩)
     refine ⟨?_, ?_⟩
     ·
      refine ⟨_, rfl, rfl, by kernel_rfl, ?_⟩
      rintro D ⟨⟩ a z S F
      refine ⟨by kernel_rfl, ?_⟩
      exact op_storeRec S 3 _ _ _ Af nn 2 0 (.int .u64 (xf.1 - am)) ((xf.1 - am, xf.2) : Int × Int) F frC_len hxf rfl rfl (by kernel_rfl) (by kernel_rfl) (by kernel_rfl) (by kernel_rfl) (by kernel_rfl) (by kernel_rfl) (by kernel_rfl) fun z S => ⟨(), rfl, (SameB.refl _ _ rfl), S⟩
     trivial
    ·
     rintro ⟨⟩ a z F S
     have F := F.sub (l := [(0, .pointer (some ⟨b, 0, none⟩)), (1, .int .i64 (nn : Nat)), (3, .int .u64 am), (9, .int .i64 0)]) ⟨by kernel_rfl, by kernel_rfl, by kernel_rfl, by kernel_rfl, trivial⟩
     have S : Sat w z [rest w G, box b 61 [.slice Ae I.ends.length ce, .slice Af I.free.length cf, .map (some r), .slice Ah I.has.length ch], rEl Ae ce I.ends, rF Af I.free.length cf (I.free.set nn ((xf.1 - am, xf.2) : Int × Int)), rUl Ah ch I.has, mapA r .u64 (ps.map entM) ck, bag (ps.flatMap payRows)] := S
     refine then_n ?_
     refine wp_seq ?_
     refine region_gx (fun D => fun (_ : Unit) => [rest w G, box b 61 [.slice Ae I.ends.length ce, .slice Af I.free.length cf, .map (some r), .slice Ah I.has.length ch], rEl Ae ce I.ends, bif D 14 then rF Af I.free.length cf ((I.free.set nn ((xf.1 - am, xf.2) : Int × Int)).set nn ((xf.1 - am, xf.2 + am) : Int × Int)) else rF Af I.free.length cf (I.free.set nn ((xf.1 - am, xf.2) : Int × Int)), rUl Ah ch I.has, mapA r .u64 (ps.map entM) ck, bag (ps.flatMap payRows)]) (fun (_ : Unit) => [.pointer (some ⟨b, 0, none⟩), .pointer (some ⟨b, 0, none⟩), .pointer (some ⟨b, 1, none⟩), .slice Af I.free.length cf, .int .i64 (nn : Nat), .int .i64 0, .int .i64 1, ptrA Af (nn * 2), ptrA Af (nn * 2 + 1), .int .u64 xf.2, .int .u64 am, .int .u64 (xf.2 + am), ptrA Af (nn * 2), ptrA Af (nn * 2 + 1), undef]) [(3, [], [7, 8, 9, 11, 12, 13, 14]), (7, [3], [8, 9, 11, 13, 14]), (8, [3, 7], [9, 11, 13, 14]), (9, [3, 7, 8], [11, 13, 14]), (11, [3, 7, 8, 9], [13, 14]), (12, [3], [13, 14]), (13, [3, 7, 8, 9, 11, 12], [14]), (14, [3, 7, 8, 9, 11, 12, 13], [])] () rfl (by kernel_rfl) (by kernel_rfl) F S.drew ?_ ?_ ?_ ?_ ?_
     · rintro ⟨⟩; rfl
     · rintro ⟨⟩; kernel_rfl
     ·
      intro D D' x h
      cases x
      simp only [h 14 (by decide)]
     ·
      refine ⟨?_, ?_⟩
      ·
       refine ⟨_, rfl, rfl, by kernel_rfl, ?_⟩
       rintro D ⟨⟩ a z S F
       refine ⟨by kernel_rfl, ?_⟩
       exact op_load _ _ (some ⟨b, 0, none⟩) 1 (.slice Af I.free.length cf) F rfl (by kernel_rfl) (by kernel_rfl) (cBox S 1 rfl (j := 1) rfl) (⟨(), rfl, (SameB.refl _ _ rfl), S⟩)
      refine ⟨?_, ?_⟩
      ·
       refine ⟨_, rfl, rfl, by kernel_rfl, ?_⟩
       rintro D ⟨⟩ a z S F
       refine ⟨by kernel_rfl, ?_⟩
       exact op_index _ 31 _ _ Af I.free.length cf nn 2 .i64 F rfl (by kernel_rfl) (by kernel_rfl) (by kernel_rfl) (by kernel_rfl) (by have h9 := get_lt (set_at (y := ((xf.1 - am, xf.2) : Int × Int)) hxf); (try simp only [List.length_set] at h9); omega) hn3 (⟨(), rfl, (SameB.refl _ _ rfl), S⟩)
      refine ⟨?_, ?_⟩
      ·
       refine ⟨_, rfl, rfl, by kernel_rfl, ?_⟩
       rintro D ⟨⟩ a z S F
       refine ⟨by kernel_rfl, ?_⟩
       exact op_indexArr _ 23 _ _ Af (nn * 2) 2 1 1 .i64 F rfl (by kernel_rfl) (by kernel_rfl) (by kernel_rfl) (by kernel_rfl) (by decide) hn3 (⟨(), rfl, (SameB.refl _ _ rfl), S⟩)
      refine ⟨?_, ?_⟩
      ·
       refine ⟨_, rfl, rfl, by kernel_rfl, ?_⟩
       rintro D ⟨⟩ a z S F
       refine ⟨by kernel_rfl, ?_⟩
       exact op_load _ _ Af (nn * 2 + 1) (.int .u64 xf.2) F rfl (by kernel_rfl) (by kernel_rfl) (cRec S 3 frC_len rfl 1 (set_at (y := ((xf.1 - am, xf.2) : Int × Int)) hxf) rfl) (⟨(), rfl, (SameB.refl _ _ rfl), S⟩)
      refine ⟨?_, ?_⟩
      ·
       refine ⟨_, rfl, rfl, by kernel_rfl, ?_⟩
       rintro D ⟨⟩ a z S F
       refine ⟨by kernel_rfl, ?_⟩
       exact op_pure F (v0 := .int .u64 (IntKind.wrap .u64 (xf.2 + am))) (v := .int .u64 (xf.2 + am)) (by kernel_rfl) (wr_u64 (by omega) (by omega)) ⟨(), rfl, (SameB.refl _ _ rfl), S⟩
      refine ⟨?_, ?_⟩
      ·
       refine ⟨_, rfl, rfl, by kernel_rfl, ?_⟩
       rintro D ⟨⟩ a z S F
       refine ⟨by kernel_rfl, ?_⟩
       exact op_index _ 31 _ _ Af I.free.length cf nn 2 .i64 F rfl (by kernel_rfl) (by kernel_rfl) (by kernel_rfl) (by kernel_rfl) (by have h9 := get_lt (set_at (y := ((xf.1 - am, xf.2) : Int × Int)) hxf); (try simp only [List.length_set] at h9); omega) hn3 (⟨(), rfl, (SameB.refl _ _ rfl), S⟩)
      refine ⟨?_, ?_⟩
      ·
       refine ⟨_, rfl, rfl, by kernel_rfl, ?_⟩
       rintro D ⟨⟩ a z S F
       refine ⟨by kernel_rfl, ?_⟩
       exact op_indexArr _ 23 _ _ Af (nn * 2) 2 1 1 .i64 F rfl (by kernel_rfl) (by kernel_rfl) (by kernel_rfl) (by kernel_rfl) (by decide) hn3 (⟨(), rfl, (SameB.refl _ _ rfl), S⟩)
      refine ⟨?_, ?_⟩
      ·
       refine ⟨_, rfl, rfl, by kernel_rfl, ?_⟩
       rintro D ⟨⟩ a z S F
       refine ⟨by kernel_rfl, ?_⟩
       exact op_storeRec S 3 _ _ _ Af nn 2 1 (.int .u64 (xf.2 + am)) ((xf.1 - am, xf.2 + am) : Int × Int) F frC_len (set_at (y := ((xf.1 - am, xf.2) : Int × Int)) hxf) rfl rfl (by kernel_rfl) (by kernel_rfl) (by kernel_rfl) (by kernel_rfl) (by kernel_rfl) (by kernel_rfl) (by kernel_rfl) fun z S => ⟨(), rfl, (SameB.refl _ _ rfl), S⟩
      trivial
     ·
      rintro ⟨⟩ a z F S
      have F := F.sub (l := []) trivial
      have S : Sat w z [rest w G, box b 61 [.slice Ae I.ends.length ce, .slice Af I.free.length cf, .map (some r), .slice Ah I.has.length ch], rEl Ae ce I.ends, rF Af I.free.length cf ((I.free.set nn ((xf.1 - am, xf.2) : Int × Int)).set nn ((xf.1 - am, xf.2 + am) : Int × Int)), rUl Ah ch I.has, mapA r .u64 (ps.map entM) ck, bag (ps.flatMap payRows)] := S
      refine then_n ?_
      refine s_reg ?_
      refine l_pure 1 (fun L => (8, .int .i64 0) :: L) F (by kernel_rfl) fun a F => ?_
      refine l_then ?_
      refine wp_ret ?_
      rw [List.set_set] at S
      exact fin F [.tmp 8] [.int .i64 0] rfl ⟨by kernel_rfl, trivial⟩ (.int .i64 0) rfl ⟨by rw [move_ok (s := 0) (spend_is (s := 0) hsd ht1 hxf (show ¬ frN xf 0 < am from ht2)) hxf], by rw [move_ok (s := 0) (spend_is (s := 0) hsd ht1 hxf (show ¬ frN xf 0 < am from ht2)) hxf]; exact (id_shut hps (by simp) (by simp) (by simp) (S.pick [0, 1, 2, 3, 4, 5, 6] (by decide)))⟩
 ·
  skip
  have hsm := ok.sums
  obtain ⟨hpl, hql, hpq9⟩ := ok.en _ (List.mem_of_getElem? he)
  dsimp only at hpl hql hpq9
  have hnn := (List.getElem?_eq_some_iff.1 he).1
  have hfl := ok.fl
  obtain ⟨xf, hxf⟩ : ∃ xf, I.free[nn]? = some xf := ⟨_, List.getElem?_eq_getElem (by omega)⟩
  have hx2 := sumF_one ok.fu hxf
  obtain ⟨xh, hxh⟩ : ∃ xh, I.has[qa]? = some xh := ⟨_, List.getElem?_eq_getElem (by omega)⟩
  have hx1 := sumI_one I.has qa xh ok.hu hxh
  obtain ⟨G9, g9, hin9, hlt9, k9⟩ := S.frameB [1, 2] (by decide) rfl
  refine l_do F rfl rfl (op_fn F (by kernel_rfl) (side24_at hsd _ G9 b Ae ce Af I.free.length cf r Ah I.has.length ch g9) ?_)
  rintro e z9 ⟨rfl, g⟩
  have S : Sat w z9 [rest w G, box b 61 [.slice Ae I.ends.length ce, .slice Af I.free.length cf, .map (some r), .slice Ah I.has.length ch], rEl Ae ce I.ends, rFl Af cf I.free, rUl Ah ch I.has, mapA r .u64 (ps.map entM) ck, bag (ps.flatMap payRows)] := k9 z9 [box b 61 [.slice Ae I.ends.length ce, .slice Af I.free.length cf, .map (some r), .slice Ah I.has.length ch], rEl Ae ce I.ends] rfl g
  clear g g9 k9 hin9 hlt9
  refine ⟨_, rfl, ?_⟩
  intro a F
  refine l_pure 5 (fun L => (10, .int .i64 0) :: (9, .int .i64 1) :: (17, .int .i64 0) :: (16, .int .i64 1) :: (11, .tuple #[.int .i64 1, .int .i64 0]) :: L) F (by kernel_rfl) fun a F => ?_
  refine l_then ?_
  refine wp_seq ?_
  refine wp_block ?_
  refine s_reg ?_
  refine l_pure 3 (fun L => (18, .bool false) :: (20, .bool false) :: (19, .int .i64 0) :: L) F (by kernel_rfl) fun a F => ?_
  refine l_then ?_
  refine c_f F rfl ?_
  refine s_reg ?_
  refine l_pure 1 (fun L => (23, .int .u64 am) :: L) F (by kernel_rfl) fun a F => ?_
  by_cases ht4 : (am : Int) = (0 : Int)
  ·
   skip
   refine l_do F rfl rfl (op_pure F (v0 := .bool ((am : Int) == (0 : Int))) (v := .bool true) (by kernel_rfl) (eqlT ht4) fun a F => ?_)
   refine l_pure 1 (fun L => (22, .bool true) :: L) F (by kernel_rfl) fun a F => ?_
   refine l_then ?_
   refine c_t F rfl ?_
   refine s_reg ?_
   refine l_pure 1 (fun L => (8, .int .i64 1) :: L) F (by kernel_rfl) fun a F => ?_
   refine l_then ?_
   refine wp_ret ?_
   refine inb_r (then_r (?_))
   exact fin F [.tmp 8] [.int .i64 1] rfl ⟨by kernel_rfl, trivial⟩ (.int .i64 1) rfl ⟨by rw [move_err (spend_zero (by rw [hsd]) ht4) (by decide)], by rw [move_err (spend_zero (by rw [hsd]) ht4) (by decide)]; exact (id_shut hps (by simp) (by simp) (by simp) (S.pick [0, 1, 2, 3, 4, 5, 6] (by decide)))⟩
  ·
   skip
   refine l_do F rfl rfl (op_pure F (v0 := .bool ((am : Int) == (0 : Int))) (v := .bool false) (by kernel_rfl) (eqlF ht4) fun a F => ?_)
   refine l_pure 1 (fun L => (22, .bool false) :: L) F (by kernel_rfl) fun a F => ?_
   refine l_then ?_
   refine c_f F rfl ?_
   refine s_reg ?_
   refine l_pure 4 (fun L => (29, .pointer (some ⟨b, 1, none⟩)) :: (28, .pointer (some ⟨b, 0, none⟩)) :: (27, .pointer (some ⟨b, 0, none⟩)) :: (26, .int .u64 am) :: L) F (by kernel_rfl) fun a F => ?_
   refine l_do F rfl rfl (op_load _ _ (some ⟨b, 0, none⟩) 1 (.slice Af I.free.length cf) F rfl (by kernel_rfl) (by kernel_rfl) (cBox S 1 rfl (j := 1) rfl) (fun a F => ?_))
   refine l_pure 2 (fun L => (32, .int .i64 1) :: (31, .int .i64 (nn : Nat)) :: L) F (by kernel_rfl) fun a F => ?_
   refine l_do F rfl rfl (op_index _ 31 _ _ Af I.free.length cf nn 2 .i64 F rfl (by kernel_rfl) (by kernel_rfl) (by kernel_rfl) (by kernel_rfl) (get_lt hxf) (row_some S 3 rfl (m := nn) (get_lt hxf)) (fun a F => ?_))
   refine l_do F rfl rfl (op_indexArr _ 23 _ _ Af (nn * 2) 2 1 1 .i64 F rfl (by kernel_rfl) (by kernel_rfl) (by kernel_rfl) (by kernel_rfl) (by decide) (row_some S 3 rfl (m := nn) (get_lt hxf)) (fun a F => ?_))
   refine l_do F rfl rfl (op_load _ _ Af (nn * 2 + 1) (.int .u64 xf.2) F rfl (by kernel_rfl) (by kernel_rfl) (cRec S 3 frC_len rfl 1 hxf rfl) (fun a F => ?_))
   by_cases ht5 : (xf.2 : Int) < (am : Int)
   ·
    skip
    refine l_do F rfl rfl (op_pure F (v0 := .bool (decide ((am : Int) > (xf.2 : Int)))) (v := .bool true) (by kernel_rfl) (gtrT ht5) fun a F => ?_)
    refine l_pure 1 (fun L => (25, .bool true) :: L) F (by kernel_rfl) fun a F => ?_
    refine l_then ?_
    refine c_t F rfl ?_
    refine s_reg ?_
    refine l_pure 1 (fun L => (8, .int .i64 28) :: L) F (by kernel_rfl) fun a F => ?_
    refine l_then ?_
    refine wp_ret ?_
    refine inb_r (then_r (?_))
    exact fin F [.tmp 8] [.int .i64 28] rfl ⟨by kernel_rfl, trivial⟩ (.int .i64 28) rfl ⟨by rw [move_err (spend_room (s := 1) hsd ht4 hxf (show frN xf 1 < am from ht5)) (by decide)], by rw [move_err (spend_room (s := 1) hsd ht4 hxf (show frN xf 1 < am from ht5)) (by decide)]; exact (id_shut hps (by simp) (by simp) (by simp) (S.pick [0, 1, 2, 3, 4, 5, 6] (by decide)))⟩
   ·
    skip
    refine l_do F rfl rfl (op_pure F (v0 := .bool (decide ((am : Int) > (xf.2 : Int)))) (v := .bool false) (by kernel_rfl) (gtrF ht5) fun a F => ?_)
    refine l_pure 1 (fun L => (25, .bool false) :: L) F (by kernel_rfl) fun a F => ?_
    refine l_then ?_
    refine c_f F rfl ?_
    refine wp_skip ?_
    refine inb_n ?_
    refine then_n ?_
    refine wp_seq ?_
    have hn6 : Option.isSome Af = true := (row_some S 3 rfl (m := nn) (get_lt hxf))
    refine region_gx (fun D => fun (_ : Unit) => [rest w G, box b 61 [.slice Ae I.ends.length ce, .slice Af I.free.length cf, .map (some r), .slice Ah I.has.length ch], rEl Ae ce I.ends, bif D 13 then rF Af I.free.length cf (I.free.set nn ((xf.1, xf.2 - am) : Int × Int)) else rFl Af cf I.free, rUl Ah ch I.has, mapA r .u64 (ps.map entM) ck, bag (ps.flatMap payRows)]) (fun (_ : Unit) => [.pointer (some ⟨b, 0, none⟩), .pointer (some ⟨b, 0, none⟩), .pointer (some ⟨b, 1, none⟩), .slice Af I.free.length cf, .int .i64 (nn : Nat), .int .i64 1, ptrA Af (nn * 2), ptrA Af (nn * 2 + 1), .int .u64 xf.2, .int .u64 am, .int .u64 (xf.2 - am), ptrA Af (nn * 2), ptrA Af (nn * 2 + 1), undef]) [(3, [], [6, 7, 8, 10, 11, 12, 13]), (6, [3], [7, 8, 10, 12, 13]), (7, [3, 6], [8, 10, 12, 13]), (8, [3, 6, 7], [10, 12, 13]), (10, [3, 6, 7, 8], [12, 13]), (11, [3], [12, 13]), (12, [3, 6, 7, 8, 10, 11], [13]), (13, [3, 6, 7, 8, 10, 11, 12], [])] () rfl (by kernel_rfl) (by kernel_rfl) F S.drew ?_ ?_ ?_ ?_ ?_
    · rintro ⟨⟩; rfl
    · rintro ⟨⟩; kernel_rfl
    ·
     intro D D' x h
     cases x
     simp only [h 13 (by decide)]
    ·
     refine ⟨?_, ?_⟩
     ·
      refine ⟨_, rfl, rfl, by kernel_rfl, ?_⟩
      rintro D ⟨⟩ a z S F
      refine ⟨by kernel_rfl, ?_⟩
      exact op_load _ _ (some ⟨b, 0, none⟩) 1 (.slice Af I.free.length cf) F rfl (by kernel_rfl) (by kernel_rfl) (cBox S 1 rfl (j := 1) rfl) (⟨(), rfl, (SameB.refl _ _ rfl), S⟩)
     refine ⟨?_, ?_⟩
     ·
      refine ⟨_, rfl, rfl, by kernel_rfl, ?_⟩
      rintro D ⟨⟩ a z S F
      refine ⟨by kernel_rfl, ?_⟩
      exact op_index _ 31 _ _ Af I.free.length cf nn 2 .i64 F rfl (by kernel_rfl) (by kernel_rfl) (by kernel_rfl) (by kernel_rfl) (get_lt hxf) hn6 (⟨(), rfl, (SameB.refl _ _ rfl), S⟩)
     refine ⟨?_, ?_⟩
     ·
      refine ⟨_, rfl, rfl, by kernel_rfl, ?_⟩
      rintro D ⟨⟩ a z S F
      refine ⟨by kernel_rfl, ?_⟩
      exact op_indexArr _ 23 _ _ Af (nn * 2) 2 1 1 .i64 F rfl (by kernel_rfl) (by kernel_rfl) (by kernel_rfl) (by kernel_rfl) (by decide) hn6 (⟨(), rfl, (SameB.refl _ _ rfl), S⟩)
     refine ⟨?_, ?_⟩
     ·
      refine ⟨_, rfl, rfl, by kernel_rfl, ?_⟩
      rintro D ⟨⟩ a z S F
      refine ⟨by kernel_rfl, ?_⟩
      exact op_load _ _ Af (nn * 2 + 1) (.int .u64 xf.2) F rfl (by kernel_rfl) (by kernel_rfl) (cRec S 3 frC_len rfl 1 hxf rfl) (⟨(), rfl, (SameB.refl _ _ rfl), S⟩)
     refine ⟨?_, ?_⟩
     ·
      refine ⟨_, rfl, rfl, by kernel_rfl, ?_⟩
      rintro D ⟨⟩ a z S F
      refine ⟨by kernel_rfl, ?_⟩
      exact op_pure F (v0 := .int .u64 (IntKind.wrap .u64 (xf.2 - am))) (v := .int .u64 (xf.2 - am)) (by kernel_rfl) (wr_u64 (by omega) (by omega)) ⟨(), rfl, (SameB.refl _ _ rfl), S⟩
     refine ⟨?_, ?_⟩
     ·
      refine ⟨_, rfl, rfl, by kernel_rfl, ?_⟩
      rintro D ⟨⟩ a z S F
      refine ⟨by kernel_rfl, ?_⟩
      exact op_index _ 31 _ _ Af I.free.length cf nn 2 .i64 F rfl (by kernel_rfl) (by kernel_rfl) (by kernel_rfl) (by kernel_rfl) (get_lt hxf) hn6 (⟨(), rfl, (SameB.refl _ _ rfl), S⟩)
     refine ⟨?_, ?_⟩
     ·
      refine ⟨_, rfl, rfl, by kernel_rfl, ?_⟩
      rintro D ⟨⟩ a z S F
      refine ⟨by kernel_rfl, ?_⟩
      exact op_indexArr _ 23 _ _ Af (nn * 2) 2 1 1 .i64 F rfl (by kernel_rfl) (by kernel_rfl) (by kernel_rfl) (by kernel_rfl) (by decide) hn6 (⟨(), rfl, (SameB.refl _ _ rfl), S⟩)
     refine ⟨?_, ?_⟩
     ·
      refine ⟨_, rfl, rfl, by kernel_rfl, ?_⟩
      rintro D ⟨⟩ a z S F
      refine ⟨by kernel_rfl, ?_⟩
      exact op_storeRec S 3 _ _ _ Af nn 2 1 (.int .u64 (xf.2 - am)) ((xf.1, xf.2 - am) : Int × Int) F frC_len hxf rfl rfl (by kernel_rfl) (by kernel_rfl) (by kernel_rfl) (by kernel_rfl) (by kernel_rfl) (by kernel_rfl) (by kernel_rfl) fun z S => ⟨(), rfl, (SameB.refl _ _ rfl), S⟩
     trivial
    ·
     rintro ⟨⟩ a z F S
     have F := F.sub (l := [(0, .pointer (some ⟨b, 0, none⟩)), (1, .int .i64 (nn : Nat)), (3, .int .u64 am), (9, .int .i64 1)]) ⟨by kernel_rfl, by kernel_rfl, by kernel_rfl, by kernel_rfl, trivial⟩
     have S : Sat w z [rest w G, box b 61 [.slice Ae I.ends.length ce, .slice Af I.free.length cf, .map (some r), .slice Ah I.has.length ch], rEl Ae ce I.ends, rF Af I.free.length cf (I.free.set nn ((xf.1, xf.2 - am) : Int × Int)), rUl Ah ch I.has, mapA r .u64 (ps.map entM) ck, bag (ps.flatMap payRows)] := S
     refine then_n ?_
     refine wp_seq ?_
     refine region_gx (fun D => fun (_ : Unit) => [rest w G, box b 61 [.slice Ae I.ends.length ce, .slice Af I.free.length cf, .map (some r), .slice Ah I.has.length ch], rEl Ae ce I.ends, bif D 14 then rF Af I.free.length cf ((I.free.set nn ((xf.1, xf.2 - am) : Int × Int)).set nn ((xf.1 + am, xf.2 - am) : Int × Int)) else rF Af I.free.length cf (I.free.set nn ((xf.1, xf.2 - am) : Int × Int)), rUl Ah ch I.has, mapA r .u64 (ps.map entM) ck, bag (ps.flatMap payRows)]) (fun (_ : Unit) => [.pointer (some ⟨b, 0, none⟩), .pointer (some ⟨b, 0, none⟩), .pointer (some ⟨b, 1, none⟩), .slice Af I.free.length cf, .int .i64 (nn : Nat), .int .i64 1, .int .i64 0, ptrA Af (nn * 2), ptrA Af (nn * 2), .int .u64 xf.1, .int .u64 am, .int .u64 (xf.1 + am), ptrA Af (nn * 2), ptrA Af (nn * 2), undef]) [(3, [], [7, 8, 9, 11, 12, 13, 14]), (7, [3], [8, 9, 11, 13, 14]), (8, [3, 7], [9, 11, 13, 14]), (9, [3, 7, 8], [11, 13, 14]), (11, [3, 7, 8, 9], [13, 14]), (12, [3], [13, 14]), (13, [3, 7, 8, 9, 11, 12], [14]), (14, [3, 7, 8, 9, 11, 12, 13], [])] () rfl (by kernel_rfl) (by kernel_rfl) F S.drew ?_ ?_ ?_ ?_ ?_
     · rintro ⟨⟩; rfl
     · rintro ⟨⟩; kernel_rfl
     ·
      intro D D' x h
      cases x
      simp only [h 14 (by decide)]
     ·
      refine ⟨?_, ?_⟩
      ·
       refine ⟨_, rfl, rfl, by kernel_rfl, ?_⟩
       rintro D ⟨⟩ a z S F
       refine ⟨by kernel_rfl, ?_⟩
       exact op_load _ _ (some ⟨b, 0, none⟩) 1 (.slice Af I.free.length cf) F rfl (by kernel_rfl) (by kernel_rfl) (cBox S 1 rfl (j := 1) rfl) (⟨(), rfl, (SameB.refl _ _ rfl), S⟩)
      refine ⟨?_, ?_⟩
      ·
       refine ⟨_, rfl, rfl, by kernel_rfl, ?_⟩
       rintro D ⟨⟩ a z S F
       refine ⟨by kernel_rfl, ?_⟩
       exact op_index _ 31 _ _ Af I.free.length cf nn 2 .i64 F rfl (by kernel_rfl) (by kernel_rfl) (by kernel_rfl) (by kernel_rfl) (by have h9 := get_lt (set_at (y := ((xf.1, xf.2 - am) : Int × Int)) hxf); (try simp only [List.length_set] at h9); omega) hn6 (⟨(), rfl, (SameB.refl _ _ rfl), S⟩)
      refine ⟨?_, ?_⟩
      ·
       refine ⟨_, rfl, rfl, by kernel_rfl, ?_⟩
       rintro D ⟨⟩ a z S F
       refine ⟨by kernel_rfl, ?_⟩
       exact op_indexArr _ 23 _ _ Af (nn * 2) 2 0 1 .i64 F rfl (by kernel_rfl) (by kernel_rfl) (by kernel_rfl) (by kernel_rfl) (by decide) hn6 (⟨(), rfl, (SameB.refl _ _ rfl), S⟩)
      refine ⟨?_, ?_⟩
      ·
       refine ⟨_, rfl, rfl, by kernel_rfl, ?_⟩
       rintro D ⟨⟩ a z S F
       refine ⟨by kernel_rfl, ?_⟩
       exact op_load _ _ Af (nn * 2) (.int .u64 xf.1) F rfl (by kernel_rfl) (by kernel_rfl) (cRec S 3 frC_len rfl 0 (set_at (y := ((xf.1, xf.2 - am) : Int × Int)) hxf) rfl) (⟨(), rfl, (SameB.refl _ _ rfl), S⟩)
      refine ⟨?_, ?_⟩
      ·
       refine ⟨_, rfl, rfl, by kernel_rfl, ?_⟩
       rintro D ⟨⟩ a z S F
       refine ⟨by kernel_rfl, ?_⟩
       exact op_pure F (v0 := .int .u64 (IntKind.wrap .u64 (xf.1 + am))) (v := .int .u64 (xf.1 + am)) (by kernel_rfl) (wr_u64 (by omega) (by omega)) ⟨(), rfl, (SameB.refl _ _ rfl), S⟩
      refine ⟨?_, ?_⟩
      ·
       refine ⟨_, rfl, rfl, by kernel_rfl, ?_⟩
       rintro D ⟨⟩ a z S F
       refine ⟨by kernel_rfl, ?_⟩
       exact op_index _ 31 _ _ Af I.free.length cf nn 2 .i64 F rfl (by kernel_rfl) (by kernel_rfl) (by kernel_rfl) (by kernel_rfl) (by have h9 := get_lt (set_at (y := ((xf.1, xf.2 - am) : Int × Int)) hxf); (try simp only [List.length_set] at h9); omega) hn6 (⟨(), rfl, (SameB.refl _ _ rfl), S⟩)
      refine ⟨?_, ?_⟩
      ·
       refine ⟨_, rfl, rfl, by kernel_rfl, ?_⟩
       rintro D ⟨⟩ a z S F
       refine ⟨by kernel_rfl, ?_⟩
       exact op_indexArr _ 23 _ _ Af (nn * 2) 2 0 1 .i64 F rfl (by kernel_rfl) (by kernel_rfl) (by kernel_rfl) (by kernel_rfl) (by decide) hn6 (⟨(), rfl, (SameB.refl _ _ rfl), S⟩)
      refine ⟨?_, ?_⟩
      ·
       refine ⟨_, rfl, rfl, by kernel_rfl, ?_⟩
       rintro D ⟨⟩ a z S F
       refine ⟨by kernel_rfl, ?_⟩
       exact op_storeRec S 3 _ _ _ Af nn 2 0 (.int .u64 (xf.1 + am)) ((xf.1 + am, xf.2 - am) : Int × Int) F frC_len (set_at (y := ((xf.1, xf.2 - am) : Int × Int)) hxf) rfl rfl (by kernel_rfl) (by kernel_rfl) (by kernel_rfl) (by kernel_rfl) (by kernel_rfl) (by kernel_rfl) (by kernel_rfl) fun z S => ⟨(), rfl, (SameB.refl _ _ rfl), S⟩
      trivial
     ·
      rintro ⟨⟩ a z F S
      have F := F.sub (l := []) trivial
      have S : Sat w z [rest w G, box b 61 [.slice Ae I.ends.length ce, .slice Af I.free.length cf, .map (some r), .slice Ah I.has.length ch], rEl Ae ce I.ends, rF Af I.free.length cf ((I.free.set nn ((xf.1, xf.2 - am) : Int × Int)).set nn ((xf.1 + am, xf.2 - am) : Int × Int)), rUl Ah ch I.has, mapA r .u64 (ps.map entM) ck, bag (ps.flatMap payRows)] := S
      refine then_n ?_
      refine s_reg ?_
      refine l_pure 1 (fun L => (8, .int .i64 0) :: L) F (by kernel_rfl) fun a F => ?_
      refine l_then ?_
      refine wp_ret ?_
      rw [List.set_set] at S
      exact fin F [.tmp 8] [.int .i64 0] rfl ⟨by kernel_rfl, trivial⟩ (.int .i64 0) rfl ⟨by rw [move_ok (s := 1) (spend_is (s := 1) hsd ht4 hxf (show ¬ frN xf 1 < am from ht5)) hxf], by rw [move_ok (s := 1) (spend_is (s := 1) hsd ht4 hxf (show ¬ frN xf 1 < am from ht5)) hxf]; exact (id_shut hps (by simp) (by simp) (by simp) (S.pick [0, 1, 2, 3, 4, 5, 6] (by decide)))⟩
 ·
  skip
  have hsm := ok.sums
  obtain ⟨hpl, hql, hpq9⟩ := ok.en _ (List.mem_of_getElem? he)
  dsimp only at hpl hql hpq9
  have hnn := (List.getElem?_eq_some_iff.1 he).1
  have hfl := ok.fl
  obtain ⟨xf, hxf⟩ : ∃ xf, I.free[nn]? = some xf := ⟨_, List.getElem?_eq_getElem (by omega)⟩
  have hx2 := sumF_one ok.fu hxf
  obtain ⟨G9, g9, hin9, hlt9, k9⟩ := S.frameB [1, 2] (by decide) rfl
  refine l_do F rfl rfl (op_fn F (by kernel_rfl) (side24_at hsd _ G9 b Ae ce Af I.free.length cf r Ah I.has.length ch g9) ?_)
  rintro e z9 ⟨rfl, g⟩
  have S : Sat w z9 [rest w G, box b 61 [.slice Ae I.ends.length ce, .slice Af I.free.length cf, .map (some r), .slice Ah I.has.length ch], rEl Ae ce I.ends, rFl Af cf I.free, rUl Ah ch I.has, mapA r .u64 (ps.map entM) ck, bag (ps.flatMap payRows)] := k9 z9 [box b 61 [.slice Ae I.ends.length ce, .slice Af I.free.length cf, .map (some r), .slice Ah I.has.length ch], rEl Ae ce I.ends] rfl g
  clear g g9 k9 hin9 hlt9
  refine ⟨_, rfl, ?_⟩
  intro a F
  refine l_pure 5 (fun L => (10, .int .i64 1) :: (9, .int .i64 0) :: (17, .int .i64 1) :: (16, .int .i64 0) :: (11, .tuple #[.int .i64 0, .int .i64 1]) :: L) F (by kernel_rfl) fun a F => ?_
  refine l_then ?_
  refine wp_seq ?_
  refine wp_block ?_
  refine s_reg ?_
  refine l_pure 3 (fun L => (18, .bool true) :: (20, .bool true) :: (19, .int .i64 1) :: L) F (by kernel_rfl) fun a F => ?_
  refine l_then ?_
  refine c_t F rfl ?_
  refine s_reg ?_
  refine l_pure 2 (fun L => (8, .int .i64 1) :: (21, .int .i64 1) :: L) F (by kernel_rfl) fun a F => ?_
  refine l_then ?_
  refine wp_ret ?_
  refine inb_r (then_r (?_))
  exact fin F [.tmp 8] [.int .i64 1] rfl ⟨by kernel_rfl, trivial⟩ (.int .i64 1) rfl ⟨by rw [move_err (spend_err (by rw [hsd]; decide)) (by rw [hsd]; decide), hsd], by rw [move_err (spend_err (by rw [hsd]; decide)) (by rw [hsd]; decide)]; exact (id_shut hps (by simp) (by simp) (by simp) (S.pick [0, 1, 2, 3, 4, 5, 6] (by decide)))⟩
end Go.Proofs.Ytecgpkjigbhneaa
