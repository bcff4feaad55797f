/- Walks over the program's ideal: a payment begins, ends; a new ideal. -/
import Derived.Test.YtecgpkjigbhneaaIdl3
namespace Go.Proofs.Ytecgpkjigbhneaa
set_option linter.unusedVariables false
set_option linter.unusedSimpArgs false
set_option linter.unnecessarySimpa false
open Go Go.RowKit

theorem bag_mem {ps : List PayM} {i : Nat} {m : PayM} (h : ps[i]? = some m) : m ∈ ps := List.mem_of_getElem? h
theorem ids_of {I : Idl} (ok : IOk I) : (I.pays.map Pay.id).Nodup := ok.ids

set_option maxRecDepth 100000 in
set_option maxHeartbeats 4000000 in
theorem begin24_any (w : World) (G : Nat → Prop) (b : Nat) (I : Idl) (ok : IOk I) (hS : Sat w w [idA b I, rest w G]) (cid from_ : Int) (Ar : Option Addr) (cr : Nat) (E : List Int) (hE0 : Recs 1 iC_i64 w Ar cr E) (gE : InG G Ar (E.flatMap iC_i64)) (As : Option Addr) (cs : Nat) (A : List Int) (hA0 : Recs 1 iC_u64 w As cs A) (gA : InG G As (A.flatMap iC_u64)) (hAu : ∀ a ∈ A, U64 a) : Calls Try.prog 12 #[.pointer (some ⟨b, 0, none⟩), .int .u64 cid, .int .i64 from_, .slice Ar E.length cr, .slice As A.length cs] w fun e w' => e = .returned (.int .i64 (begP I cid from_ E A).2) ∧ Sat w w' [idA b (begP I cid from_ E A).1, rest w G] := by
 refine enter 152 Try.func12 rfl rfl rfl fun a F => ?_
 obtain ⟨Ae, ce, Af, cf, Ah, ch, r, ck, ps, hps, S⟩ := id_open hS
 have hfl := ok.fl
 have hel := ok.el
 have hsm := ok.sums
 refine s_reg ?_
 refine l_pure 1 (fun L => (10, .int .i64 0) :: L) F (by kernel_rfl) fun a F => ?_
 refine l_then ?_
 refine wp_seq ?_
 refine wp_block ?_
 refine s_reg ?_
 refine l_pure 3 (fun L => (19, .bool false) :: (21, .bool false) :: (20, .pointer (some ⟨b, 0, none⟩)) :: L) F (by kernel_rfl) fun a F => ?_
 refine l_then ?_
 refine c_f F rfl ?_
 refine s_reg ?_
 refine l_pure 4 (fun L => (26, .int .i64 (A.length : Nat)) :: (25, .slice As A.length cs) :: (24, .int .i64 (E.length : Nat)) :: (23, .slice Ar E.length cr) :: L) F (by kernel_rfl) fun a F => ?_
 by_cases ht1 : ((E.length : Nat) : Int) = ((A.length : Nat) : Int)
 ·
  skip
  refine l_do F rfl rfl (op_pure F (v0 := .bool (((E.length : Nat) : Int) != ((A.length : Nat) : Int))) (v := .bool false) (by kernel_rfl) (neqF ht1) fun a F => ?_)
  refine l_pure 3 (fun L => (30, .int .i64 (E.length : Nat)) :: (29, .slice Ar E.length cr) :: (28, .bool false) :: L) F (by kernel_rfl) fun a F => ?_
  by_cases ht2 : ((E.length : Nat) : Int) < (1 : Int)
  ·
   skip
   refine l_do F rfl rfl (op_pure F (v0 := .bool (decide (((E.length : Nat) : Int) < (1 : Int)))) (v := .bool true) (by kernel_rfl) (lssT ht2) fun a F => ?_)
   refine l_pure 7 (fun L => (22, .bool true) :: (37, .bool true) :: (36, undef) :: (35, undef) :: (34, undef) :: (33, .bool true) :: (32, .bool true) :: L) F (by kernel_rfl) fun a F => ?_
   refine l_then ?_
   refine c_t F rfl ?_
   refine s_reg ?_
   refine l_pure 1 (fun L => (10, .int .i64 1) :: L) F (by kernel_rfl) fun a F => ?_
   refine l_then ?_
   refine wp_ret ?_
   refine inb_r (then_r (?_))
   exact fin F [.tmp 10] [.int .i64 1] rfl ⟨by kernel_rfl, trivial⟩ (.int .i64 1) rfl ⟨by rw [beg_arg (by omega)], by rw [beg_arg (by omega)]; exact (id_shut hps (by simp) (by simp) (by simp) (S.pick [0, 1, 2, 3, 4, 5, 6] (by decide)))⟩
  ·
   skip
   refine l_do F rfl rfl (op_pure F (v0 := .bool (decide (((E.length : Nat) : Int) < (1 : Int)))) (v := .bool false) (by kernel_rfl) (lssF ht2) fun a F => ?_)
   refine l_pure 4 (fun L => (35, .int .i64 (E.length : Nat)) :: (34, .slice Ar E.length cr) :: (33, .bool false) :: (32, .bool false) :: L) F (by kernel_rfl) fun a F => ?_
   by_cases ht3 : (7 : Int) < ((E.length : Nat) : Int)
   ·
    skip
    refine l_do F rfl rfl (op_pure F (v0 := .bool (decide (((E.length : Nat) : Int) > (7 : Int)))) (v := .bool true) (by kernel_rfl) (gtrT ht3) fun a F => ?_)
    refine l_pure 2 (fun L => (22, .bool true) :: (37, .bool true) :: L) F (by kernel_rfl) fun a F => ?_
    refine l_then ?_
    refine c_t F rfl ?_
    refine s_reg ?_
    refine l_pure 1 (fun L => (10, .int .i64 1) :: L) F (by kernel_rfl) fun a F => ?_
    refine l_then ?_
    refine wp_ret ?_
    refine inb_r (then_r (?_))
    exact fin F [.tmp 10] [.int .i64 1] rfl ⟨by kernel_rfl, trivial⟩ (.int .i64 1) rfl ⟨by rw [beg_arg (by omega)], by rw [beg_arg (by omega)]; exact (id_shut hps (by simp) (by simp) (by simp) (S.pick [0, 1, 2, 3, 4, 5, 6] (by decide)))⟩
   ·
    skip
    refine l_do F rfl rfl (op_pure F (v0 := .bool (decide (((E.length : Nat) : Int) > (7 : Int)))) (v := .bool false) (by kernel_rfl) (gtrF ht3) fun a F => ?_)
    refine l_pure 2 (fun L => (22, .bool false) :: (37, .bool false) :: L) F (by kernel_rfl) fun a F => ?_
    refine l_then ?_
    refine c_f F rfl ?_
    refine wp_skip ?_
    refine inb_n ?_
    refine then_n ?_
    refine wp_seq ?_
    refine s_reg ?_
    refine l_pure 3 (fun L => (41, .pointer (some ⟨b, 2, none⟩)) :: (40, .pointer (some ⟨b, 0, none⟩)) :: (39, .pointer (some ⟨b, 0, none⟩)) :: L) F (by kernel_rfl) fun a F => ?_
    refine l_do F rfl rfl (op_load _ _ (some ⟨b, 0, none⟩) 2 (.map (some r)) F rfl (by kernel_rfl) (by kernel_rfl) (cBox S 1 rfl (j := 2) rfl) (fun a F => ?_))
    refine l_pure 1 (fun L => (43, .int .u64 cid) :: L) F (by kernel_rfl) fun a F => ?_
    rcases look_cases hps cid with ⟨hf, hg⟩ | ⟨im, mp, hf, hmp, hlm, hid, hg⟩
    ·
     skip
     have hfn := hf
     refine l_do F rfl rfl (op_lookup S 5 _ 23 66 _ _ true (.agg #[.int .i64 0, .slice none 0 0, .slice none 0 0, .slice none 0 0]) .u64 .u64 cid (.tuple #[.agg #[.int .i64 0, .slice none 0 0, .slice none 0 0, .slice none 0 0], .bool false]) F rfl rfl (by kernel_rfl) (by kernel_rfl) (by kernel_rfl) (by kernel_rfl) (by kernel_rfl) (by rw [hg]; rfl) (fun a F => ?_))
     refine l_pure 3 (fun L => (46, .bool false) :: (45, .agg #[.int .i64 0, .slice none 0 0, .slice none 0 0, .slice none 0 0]) :: (38, .tuple #[.agg #[.int .i64 0, .slice none 0 0, .slice none 0 0, .slice none 0 0], .bool false]) :: L) F (by kernel_rfl) fun a F => ?_
     refine l_do F rfl rfl (op_alloc S _ (.agg #[.int .i64 0, .slice none 0 0, .slice none 0 0, .slice none 0 0]) rfl (by kernel_rfl) fun b4 z S a F => ?_)
     refine l_do F rfl rfl (op_storeB S 7 _ _ _ b4 0 (.agg #[.int .i64 0, .slice none 0 0, .slice none 0 0, .slice none 0 0]) F rfl rfl (by kernel_rfl) (by kernel_rfl) (by kernel_rfl) (by kernel_rfl) (by kernel_rfl) fun z S a F => ?_)
     refine l_pure 1 (fun L => (12, .bool false) :: L) F (by kernel_rfl) fun a F => ?_
     refine l_then ?_
     refine s_reg ?_
     refine l_pure 1 (fun L => (47, .bool false) :: L) F (by kernel_rfl) fun a F => ?_
     refine l_then ?_
     refine c_f F rfl ?_
     refine wp_skip ?_
     refine then_n ?_
     refine s_reg ?_
     refine l_pure 1 (fun L => (48, .slice Ar E.length cr) :: L) F (by kernel_rfl) fun a F => ?_
     refine l_do F rfl rfl (op_fn F (by kernel_rfl) (clonei_any _ Ar cr E (hE0.mono (src_rest S (i := 0) rfl hE0.src gE)) (by omega)) ?_)
     rintro e z ⟨Ace, cce, rfl, g⟩
     have S := S.pushThings g
     refine ⟨_, rfl, ?_⟩
     intro a F
     refine l_pure 1 (fun L => (50, .slice As A.length cs) :: L) F (by kernel_rfl) fun a F => ?_
     refine l_do F rfl rfl (op_fn F (by kernel_rfl) (cloneu_any _ As cs A (hA0.mono (src_rest S (i := 0) rfl hA0.src gA)) (by omega)) ?_)
     rintro e z ⟨Aca, cca, rfl, g⟩
     have S := S.pushThings g
     refine ⟨_, rfl, ?_⟩
     intro a F
     refine l_pure 1 (fun L => (52, .agg #[.int .i64 0, .slice Ace E.length cce, .slice none 0 0, .slice Aca A.length cca]) :: L) F (by kernel_rfl) fun a F => ?_
     refine l_do F rfl rfl (op_alloc S _ (.agg #[.int .i64 0, .slice none 0 0, .slice none 0 0, .slice none 0 0]) rfl (by kernel_rfl) fun b5 z S a F => ?_)
     refine l_do F rfl rfl (op_storeB S 10 _ _ _ b5 0 (.agg #[.int .i64 0, .slice Ace E.length cce, .slice none 0 0, .slice Aca A.length cca]) F rfl rfl (by kernel_rfl) (by kernel_rfl) (by kernel_rfl) (by kernel_rfl) (by kernel_rfl) fun z S a F => ?_)
     refine l_then ?_
     refine s_reg ?_
     refine l_pure 3 (fun L => (55, .pointer (some ⟨b, 1, none⟩)) :: (54, .pointer (some ⟨b, 0, none⟩)) :: (53, .pointer (some ⟨b, 0, none⟩)) :: L) F (by kernel_rfl) fun a F => ?_
     refine l_do F rfl rfl (op_load _ _ (some ⟨b, 0, none⟩) 1 (.slice Af I.free.length cf) F rfl (by kernel_rfl) (by kernel_rfl) (cBox S 1 rfl (j := 1) rfl) (fun a F => ?_))
     refine l_do F rfl rfl (op_fn F (by kernel_rfl) (clonef_any _ Af cf I.free (Recs.ofRow (S.rowOf (i := 3) rfl) (by omega)) (by omega)) ?_)
     rintro e z ⟨Acf, ccf, rfl, g⟩
     have S := S.pushThings g
     refine ⟨_, rfl, ?_⟩
     intro a F
     refine l_pure 1 (fun L => (14, .slice Acf I.free.length ccf) :: L) F (by kernel_rfl) fun a F => ?_
     refine l_then ?_
     refine wp_seq ?_
     refine s_reg ?_
     refine l_pure 3 (fun L => (60, .int .i64 0) :: (59, .int .i64 (E.length : Nat)) :: (58, .slice Ar E.length cr) :: L) F (by kernel_rfl) fun a F => ?_
     refine l_then ?_
     refine wp_block ?_
     refine wp_loop_m (fun m a z => ∃ (k : Nat) (Fq : List (Int × Int)) (Lg : List Leg) (fv : Int) (Asd : Option Addr) (csd : Nat), m = E.length - k ∧ (k ≤ E.length) ∧ (edgesL Lg = E.take k) ∧ (amsL Lg = A.take k) ∧ (Fq.length = I.ends.length) ∧ (∀ f ∈ Fq, 0 ≤ f.1 ∧ 0 ≤ f.2) ∧ (begF I.ends I.free from_ none E A = comb Lg (begF I.ends Fq fv (pvOf A k) (E.drop k) (A.drop k))) ∧ (Lg.length = k) ∧ (sumF Fq ≤ sumF I.free) ∧ Fr a 152 [(0, .pointer (some ⟨b, 0, none⟩)), (1, .int .u64 cid), (2, .int .i64 fv), (4, .slice As A.length cs), (13, .pointer (some ⟨b5, 0, none⟩)), (14, .slice Acf I.free.length ccf), (58, .slice Ar E.length cr), (59, .int .i64 (E.length : Nat)), (60, .int .i64 (k : Nat))] ∧ Sat w z [rest w G, box b 61 [.slice Ae I.ends.length ce, .slice Af I.free.length cf, .map (some r), .slice Ah I.has.length ch], rEl Ae ce I.ends, rFl Af cf I.free, rUl Ah ch I.has, mapA r .u64 (ps.map entM) ck, bag (ps.flatMap payRows), box b4 66 [.int .i64 0, .slice none 0 0, .slice none 0 0, .slice none 0 0], rIl Ace cce E, rUl Aca cca A, box b5 66 [.int .i64 0, .slice Ace E.length cce, .slice Asd ((sidesL Lg).length) csd, .slice Aca A.length cca], rF Acf I.free.length ccf Fq, rIl Asd csd (sidesL Lg)]) _ ⟨0, I.free, ([] : List Leg), from_, none, 0, rfl, Nat.zero_le _, rfl, rfl, ok.fl, ok.fu, (by rfl), rfl, (Int.le_refl _), F.sub ⟨by kernel_rfl, by kernel_rfl, by kernel_rfl, by kernel_rfl, by kernel_rfl, by kernel_rfl, by kernel_rfl, by kernel_rfl, by kernel_rfl, trivial⟩, (S.nilRow 3 1)⟩ ?_
     rintro m a z ⟨k, Fq, Lg, fv, Asd, csd, hm, hf6, hf7, hf8, hf9, hf10, hf11, hf12, hf13, F, S⟩
     have hE := hf7
     have hA := hf8
     have hFl := hf9
     have hFn := hf10
     have hbf := hf11
     have hLl := hf12
     have hSF := hf13
     have hfl9 := ok.fl
     have hsl : (sidesL Lg).length = Lg.length := List.length_map _
     refine s_reg ?_
     by_cases ht14 : ((k : Nat) : Int) < ((E.length : Nat) : Int)
     ·
      skip
      obtain ⟨ev, hek⟩ : ∃ ev, E[k]? = some ev := ⟨_, List.getElem?_eq_getElem (by omega)⟩
      obtain ⟨av, hak⟩ : ∃ av, A[k]? = some av := ⟨_, List.getElem?_eq_getElem (by omega)⟩
      have hau := hAu av (List.mem_of_getElem? hak)
      unfold U64 at hau
      refine l_do F rfl rfl (op_pure F (v0 := .bool (decide (((k : Nat) : Int) < ((E.length : Nat) : Int)))) (v := .bool true) (by kernel_rfl) (lssT ht14) fun a F => ?_)
      refine l_then ?_
      refine wp_seq ?_
      refine c_t F rfl ?_
      refine wp_skip ?_
      refine then_n ?_
      refine wp_seq ?_
      refine wp_block ?_
      refine s_reg ?_
      refine l_pure 1 (fun L => (62, .int .i64 (k : Nat)) :: L) F (by kernel_rfl) fun a F => ?_
      refine l_do F rfl rfl (op_index _ 3 _ _ Ar E.length cr k 1 .i64 F rfl (by kernel_rfl) (by kernel_rfl) (by kernel_rfl) (by kernel_rfl) (get_lt hek) (recs_some hE0 (m := k) (get_lt hek)) (fun a F => ?_))
      refine l_do F rfl rfl (op_load _ _ Ar (k * 1) (.int .i64 ev) F rfl (by kernel_rfl) (by kernel_rfl) (cOldG S 0 iC_len_i64 hE0 gE rfl 0 hek rfl) (fun a F => ?_))
      refine l_pure 2 (fun L => (16, .int .i64 ev) :: (15, .int .i64 (k : Nat)) :: L) F (by kernel_rfl) fun a F => ?_
      refine l_then ?_
      refine s_reg ?_
      refine l_pure 3 (fun L => (68, .int .i64 fv) :: (67, .int .i64 ev) :: (66, .pointer (some ⟨b, 0, none⟩)) :: L) F (by kernel_rfl) fun a F => ?_
      rcases side_cases24 I.ends ev fv with ⟨hsd, hbad⟩ | ⟨nn, pa, qa, rfl, rfl, he, hsd⟩ | ⟨nn, pa, qa, rfl, rfl, he, hpq, hsd⟩ | ⟨nn, pa, qa, rfl, he, hw1, hw2, hsd⟩
      ·
       skip
       obtain ⟨G9, g9, hin9, hlt9, k9⟩ := S.frameB [1, 2] (by decide) rfl
       refine l_do F rfl rfl (op_fn F (by kernel_rfl) (side24_at hsd _ G9 b Ae ce Af I.free.length cf r Ah I.has.length ch g9) ?_)
       rintro e z9 ⟨rfl, g⟩
       have S : Sat w z9 [rest w G, box b 61 [.slice Ae I.ends.length ce, .slice Af I.free.length cf, .map (some r), .slice Ah I.has.length ch], rEl Ae ce I.ends, rFl Af cf I.free, rUl Ah ch I.has, mapA r .u64 (ps.map entM) ck, bag (ps.flatMap payRows), box b4 66 [.int .i64 0, .slice none 0 0, .slice none 0 0, .slice none 0 0], rIl Ace cce E, rUl Aca cca A, box b5 66 [.int .i64 0, .slice Ace E.length cce, .slice Asd ((sidesL Lg).length) csd, .slice Aca A.length cca], rF Acf I.free.length ccf Fq, rIl Asd csd (sidesL Lg)] := k9 z9 [box b 61 [.slice Ae I.ends.length ce, .slice Af I.free.length cf, .map (some r), .slice Ah I.has.length ch], rEl Ae ce I.ends] rfl g
       clear g g9 k9 hin9 hlt9
       refine ⟨_, rfl, ?_⟩
       intro a F
       refine l_pure 5 (fun L => (18, .int .i64 6) :: (17, .int .i64 0) :: (71, .int .i64 6) :: (70, .int .i64 0) :: (65, .tuple #[.int .i64 0, .int .i64 6]) :: L) F (by kernel_rfl) fun a F => ?_
       refine l_then ?_
       refine wp_seq ?_
       refine wp_block ?_
       refine s_reg ?_
       refine l_pure 3 (fun L => (72, .bool true) :: (74, .bool true) :: (73, .int .i64 6) :: L) F (by kernel_rfl) fun a F => ?_
       refine l_then ?_
       refine c_t F rfl ?_
       refine s_reg ?_
       refine l_pure 2 (fun L => (10, .int .i64 6) :: (75, .int .i64 6) :: L) F (by kernel_rfl) fun a F => ?_
       refine l_then ?_
       refine wp_ret ?_
       refine inb_r (then_r (inb_r (then_r (then_r (inb_r (then_r (?_)))))))
       exact fin F [.tmp 10] [.int .i64 6] rfl ⟨by kernel_rfl, trivial⟩ (.int .i64 6) rfl ⟨by rw [beg_err (by omega) hf (r := (6, Fq, Lg ++ [])) (by rw [hbf, beg_side hek hak hsd (by decide)]; rfl) (show (6 : Int) ≠ 0 from by decide)], by rw [beg_err (by omega) hf (r := (6, Fq, Lg ++ [])) (by rw [hbf, beg_side hek hak hsd (by decide)]; rfl) (show (6 : Int) ≠ 0 from by decide)]; exact (id_shut hps (by simp) (by simp) (by simp) (S.pick [0, 1, 2, 3, 4, 5, 6] (by decide)))⟩
      ·
       skip
       obtain ⟨hpl, hql, hpq9⟩ := ok.en _ (List.mem_of_getElem? he)
       dsimp only at hpl hql hpq9
       have hnn := (List.getElem?_eq_some_iff.1 he).1
       obtain ⟨xg, hxg⟩ : ∃ xg, Fq[nn]? = some xg := ⟨_, List.getElem?_eq_getElem (by omega)⟩
       have hxn := hFn _ (List.mem_of_getElem? hxg)
       have hxs := sumF_one hFn hxg
       obtain ⟨G9, g9, hin9, hlt9, k9⟩ := S.frameB [1, 2] (by decide) rfl
       refine l_do F rfl rfl (op_fn F (by kernel_rfl) (side24_at hsd _ G9 b Ae ce Af I.free.length cf r Ah I.has.length ch g9) ?_)
       rintro e z9 ⟨rfl, g⟩
       have S : Sat w z9 [rest w G, box b 61 [.slice Ae I.ends.length ce, .slice Af I.free.length cf, .map (some r), .slice Ah I.has.length ch], rEl Ae ce I.ends, rFl Af cf I.free, rUl Ah ch I.has, mapA r .u64 (ps.map entM) ck, bag (ps.flatMap payRows), box b4 66 [.int .i64 0, .slice none 0 0, .slice none 0 0, .slice none 0 0], rIl Ace cce E, rUl Aca cca A, box b5 66 [.int .i64 0, .slice Ace E.length cce, .slice Asd ((sidesL Lg).length) csd, .slice Aca A.length cca], rF Acf I.free.length ccf Fq, rIl Asd csd (sidesL Lg)] := k9 z9 [box b 61 [.slice Ae I.ends.length ce, .slice Af I.free.length cf, .map (some r), .slice Ah I.has.length ch], rEl Ae ce I.ends] rfl g
       clear g g9 k9 hin9 hlt9
       refine ⟨_, rfl, ?_⟩
       intro a F
       refine l_pure 5 (fun L => (18, .int .i64 0) :: (17, .int .i64 0) :: (71, .int .i64 0) :: (70, .int .i64 0) :: (65, .tuple #[.int .i64 0, .int .i64 0]) :: L) F (by kernel_rfl) fun a F => ?_
       refine l_then ?_
       refine cutK 1 (fun a z => (¬ (av = 0 ∨ ∃ p, pvOf A k = some p ∧ p < av)) ∧ (¬ xg.1 < av) ∧ Fr a 152 [(0, .pointer (some ⟨b, 0, none⟩)), (1, .int .u64 cid), (2, .int .i64 (pa : Nat)), (4, .slice As A.length cs), (13, .pointer (some ⟨b5, 0, none⟩)), (14, .slice Acf I.free.length ccf), (15, .int .i64 (k : Nat)), (16, .int .i64 (nn : Nat)), (17, .int .i64 0), (58, .slice Ar E.length cr), (59, .int .i64 (E.length : Nat)), (60, .int .i64 (k : Nat))] ∧ Sat w z [rest w G, box b 61 [.slice Ae I.ends.length ce, .slice Af I.free.length cf, .map (some r), .slice Ah I.has.length ch], rEl Ae ce I.ends, rFl Af cf I.free, rUl Ah ch I.has, mapA r .u64 (ps.map entM) ck, bag (ps.flatMap payRows), box b4 66 [.int .i64 0, .slice none 0 0, .slice none 0 0, .slice none 0 0], rIl Ace cce E, rUl Aca cca A, box b5 66 [.int .i64 0, .slice Ace E.length cce, .slice Asd ((sidesL Lg).length) csd, .slice Aca A.length cca], rF Acf I.free.length ccf Fq, rIl Asd csd (sidesL Lg)]) ?_ ?_
       ·
        rintro a z ⟨hf15, hf16, F, S⟩
        dsimp only [tailAt]
        have hpvn := hf15
        have hroom := hf16
        refine wp_seq ?_
        refine region_gx (fun D => fun (_ : Unit) => [rest w G, box b 61 [.slice Ae I.ends.length ce, .slice Af I.free.length cf, .map (some r), .slice Ah I.has.length ch], rEl Ae ce I.ends, rFl Af cf I.free, rUl Ah ch I.has, mapA r .u64 (ps.map entM) ck, bag (ps.flatMap payRows), box b4 66 [.int .i64 0, .slice none 0 0, .slice none 0 0, .slice none 0 0], rIl Ace cce E, rUl Aca cca A, box b5 66 [.int .i64 0, .slice Ace E.length cce, .slice Asd ((sidesL Lg).length) csd, .slice Aca A.length cca], bif D 13 then rF Acf I.free.length ccf (Fq.set nn ((xg.1 - av, xg.2) : Int × Int)) else rF Acf I.free.length ccf Fq, rIl Asd csd (sidesL Lg)]) (fun (_ : Unit) => [.slice Acf I.free.length ccf, .int .i64 (nn : Nat), .int .i64 0, ptrA Acf (nn * 2), ptrA Acf (nn * 2), .int .u64 xg.1, .slice As A.length cs, .int .i64 (k : Nat), ptrA As (k * 1), .int .u64 av, .int .u64 (xg.1 - av), ptrA Acf (nn * 2), ptrA Acf (nn * 2), undef]) [(3, [], [4, 5, 10, 12, 13]), (4, [3], [5, 10, 12, 13]), (5, [3, 4], [10, 12, 13]), (8, [], [9, 10, 12, 13]), (9, [8], [10, 12, 13]), (10, [3, 4, 5, 8, 9], [12, 13]), (11, [], [12, 13]), (12, [3, 4, 5, 8, 9, 10, 11], [13]), (13, [3, 4, 5, 8, 9, 10, 11, 12], [])] () rfl (by kernel_rfl) (by kernel_rfl) F S.drew ?_ ?_ ?_ ?_ ?_
        · rintro ⟨⟩; rfl
        · rintro ⟨⟩; kernel_rfl
        ·
         intro D D' x h
         cases x
         simp only [h 13 (by decide)]
        ·
         refine ⟨?_, ?_⟩
         ·
          refine ⟨_, rfl, rfl, by kernel_rfl, ?_⟩
          rintro D ⟨⟩ a z S F
          refine ⟨by kernel_rfl, ?_⟩
          exact op_index _ 31 _ _ Acf I.free.length ccf nn 2 .i64 F rfl (by kernel_rfl) (by kernel_rfl) (by kernel_rfl) (by kernel_rfl) (by have h9 := get_lt hxg; (try simp only [List.length_set] at h9); omega) (row_some S 11 rfl (m := nn) (by have h9 := get_lt hxg; (try simp only [List.length_set] at h9); omega)) (⟨(), rfl, (SameB.refl _ _ rfl), S⟩)
         refine ⟨?_, ?_⟩
         ·
          refine ⟨_, rfl, rfl, by kernel_rfl, ?_⟩
          rintro D ⟨⟩ a z S F
          refine ⟨by kernel_rfl, ?_⟩
          exact op_indexArr _ 23 _ _ Acf (nn * 2) 2 0 1 .i64 F rfl (by kernel_rfl) (by kernel_rfl) (by kernel_rfl) (by kernel_rfl) (by decide) (row_some S 11 rfl (m := nn) (by have h9 := get_lt hxg; (try simp only [List.length_set] at h9); omega)) (⟨(), rfl, (SameB.refl _ _ rfl), S⟩)
         refine ⟨?_, ?_⟩
         ·
          refine ⟨_, rfl, rfl, by kernel_rfl, ?_⟩
          rintro D ⟨⟩ a z S F
          refine ⟨by kernel_rfl, ?_⟩
          exact op_load _ _ Acf (nn * 2) (.int .u64 xg.1) F rfl (by kernel_rfl) (by kernel_rfl) (cRec S 11 frC_len rfl 0 hxg rfl) (⟨(), rfl, (SameB.refl _ _ rfl), S⟩)
         refine ⟨?_, ?_⟩
         ·
          refine ⟨_, rfl, rfl, by kernel_rfl, ?_⟩
          rintro D ⟨⟩ a z S F
          refine ⟨by kernel_rfl, ?_⟩
          exact op_index _ 23 _ _ As A.length cs k 1 .i64 F rfl (by kernel_rfl) (by kernel_rfl) (by kernel_rfl) (by kernel_rfl) (get_lt hak) (recs_some hA0 (m := k) (get_lt hak)) (⟨(), rfl, (SameB.refl _ _ rfl), S⟩)
         refine ⟨?_, ?_⟩
         ·
          refine ⟨_, rfl, rfl, by kernel_rfl, ?_⟩
          rintro D ⟨⟩ a z S F
          refine ⟨by kernel_rfl, ?_⟩
          exact op_load _ _ As (k * 1) (.int .u64 av) F rfl (by kernel_rfl) (by kernel_rfl) (cOldG S 0 iC_len_u64 hA0 gA rfl 0 hak rfl) (⟨(), rfl, (SameB.refl _ _ rfl), S⟩)
         refine ⟨?_, ?_⟩
         ·
          refine ⟨_, rfl, rfl, by kernel_rfl, ?_⟩
          rintro D ⟨⟩ a z S F
          refine ⟨by kernel_rfl, ?_⟩
          exact op_pure F (v0 := .int .u64 (IntKind.wrap .u64 (xg.1 - av))) (v := .int .u64 (xg.1 - av)) (by kernel_rfl) (wr_u64 (by omega) (by omega)) ⟨(), rfl, (SameB.refl _ _ rfl), S⟩
         refine ⟨?_, ?_⟩
         ·
          refine ⟨_, rfl, rfl, by kernel_rfl, ?_⟩
          rintro D ⟨⟩ a z S F
          refine ⟨by kernel_rfl, ?_⟩
          exact op_index _ 31 _ _ Acf I.free.length ccf nn 2 .i64 F rfl (by kernel_rfl) (by kernel_rfl) (by kernel_rfl) (by kernel_rfl) (by have h9 := get_lt hxg; (try simp only [List.length_set] at h9); omega) (row_some S 11 rfl (m := nn) (by have h9 := get_lt hxg; (try simp only [List.length_set] at h9); omega)) (⟨(), rfl, (SameB.refl _ _ rfl), S⟩)
         refine ⟨?_, ?_⟩
         ·
          refine ⟨_, rfl, rfl, by kernel_rfl, ?_⟩
          rintro D ⟨⟩ a z S F
          refine ⟨by kernel_rfl, ?_⟩
          exact op_indexArr _ 23 _ _ Acf (nn * 2) 2 0 1 .i64 F rfl (by kernel_rfl) (by kernel_rfl) (by kernel_rfl) (by kernel_rfl) (by decide) (row_some S 11 rfl (m := nn) (by have h9 := get_lt hxg; (try simp only [List.length_set] at h9); omega)) (⟨(), rfl, (SameB.refl _ _ rfl), S⟩)
         refine ⟨?_, ?_⟩
         ·
          refine ⟨_, rfl, rfl, by kernel_rfl, ?_⟩
          rintro D ⟨⟩ a z S F
          refine ⟨by kernel_rfl, ?_⟩
          exact op_storeRec S 11 _ _ _ Acf nn 2 0 (.int .u64 (xg.1 - av)) ((xg.1 - av, xg.2) : Int × Int) F frC_len hxg rfl rfl (by kernel_rfl) (by kernel_rfl) (by kernel_rfl) (by kernel_rfl) (by kernel_rfl) (by kernel_rfl) (by kernel_rfl) fun z S => ⟨(), rfl, (SameB.refl _ _ rfl), S⟩
         trivial
        ·
         rintro ⟨⟩ a z F S
         have F := F.sub (l := [(0, .pointer (some ⟨b, 0, none⟩)), (1, .int .u64 cid), (2, .int .i64 (pa : Nat)), (4, .slice As A.length cs), (13, .pointer (some ⟨b5, 0, none⟩)), (14, .slice Acf I.free.length ccf), (16, .int .i64 (nn : Nat)), (17, .int .i64 0), (58, .slice Ar E.length cr), (59, .int .i64 (E.length : Nat)), (60, .int .i64 (k : Nat))]) ⟨by kernel_rfl, by kernel_rfl, by kernel_rfl, by kernel_rfl, by kernel_rfl, by kernel_rfl, by kernel_rfl, by kernel_rfl, by kernel_rfl, by kernel_rfl, by kernel_rfl, trivial⟩
         have S : Sat w z [rest w G, box b 61 [.slice Ae I.ends.length ce, .slice Af I.free.length cf, .map (some r), .slice Ah I.has.length ch], rEl Ae ce I.ends, rFl Af cf I.free, rUl Ah ch I.has, mapA r .u64 (ps.map entM) ck, bag (ps.flatMap payRows), box b4 66 [.int .i64 0, .slice none 0 0, .slice none 0 0, .slice none 0 0], rIl Ace cce E, rUl Aca cca A, box b5 66 [.int .i64 0, .slice Ace E.length cce, .slice Asd ((sidesL Lg).length) csd, .slice Aca A.length cca], rF Acf I.free.length ccf (Fq.set nn ((xg.1 - av, xg.2) : Int × Int)), rIl Asd csd (sidesL Lg)] := S
         refine then_n ?_
         refine s_reg ?_
         refine l_pure 1 (fun L => (123, .pointer (some ⟨b5, 2, none⟩)) :: L) F (by kernel_rfl) fun a F => ?_
         refine l_do F rfl rfl (op_load _ _ (some ⟨b5, 0, none⟩) 2 (.slice Asd ((sidesL Lg).length) csd) F rfl (by kernel_rfl) (by kernel_rfl) (cBox S 10 rfl (j := 2) rfl) (fun a F => ?_))
         refine l_pure 1 (fun L => (125, .int .i64 0) :: L) F (by kernel_rfl) fun a F => ?_
         refine l_do F rfl rfl (op_buildSlice S _ 1 _ 3 1 iC_i64 ([0] : List Int) F rfl (by kernel_rfl) (by kernel_rfl) (by kernel_rfl) (by unfold maxLen; omega) fun b17 z S a F => ?_)
         refine l_do F rfl rfl (op_append S 12 _ _ _ 3 (.int .i64 0) 1 8 (sidesL Lg) ([0] : List Int) iC_i64 (some ⟨b17, 0, none⟩) 1 F iC_len_i64 (fun _ => rfl) rfl rfl (by kernel_rfl) (by kernel_rfl) rfl rfl rfl (by kernel_rfl) (by kernel_rfl) (row_none (S.rowOf (i := 13) rfl)) (src_row (S.rowOf (i := 13) rfl)) (by first | omega | (simp <;> omega)) fun A18 c19 z S a F => ?_)
         refine l_pure 1 (fun L => (128, .pointer (some ⟨b5, 2, none⟩)) :: L) F (by kernel_rfl) fun a F => ?_
         refine l_do F rfl rfl (op_storeB S 10 _ _ _ b5 2 (.slice A18 (((sidesL Lg) ++ ([0] : List Int)).length) c19) F rfl rfl (by kernel_rfl) (by kernel_rfl) (by kernel_rfl) (by kernel_rfl) (by kernel_rfl) fun z S a F => ?_)
         refine l_then ?_
         refine wp_region_list ?_
         refine l_pure 3 (fun L => (131, .pointer (some ⟨b, 0, none⟩)) :: (130, .pointer (some ⟨b, 0, none⟩)) :: (129, .pointer (some ⟨b, 0, none⟩)) :: L) F (by kernel_rfl) fun a F => ?_
         refine l_do F rfl rfl (op_load _ _ (some ⟨b, 0, none⟩) 0 (.slice Ae I.ends.length ce) F rfl (by kernel_rfl) (by kernel_rfl) (cBox S 1 rfl (j := 0) rfl) (fun a F => ?_))
         refine l_pure 3 (fun L => (135, .int .i64 1) :: (134, .int .i64 0) :: (133, .int .i64 (nn : Nat)) :: L) F (by kernel_rfl) fun a F => ?_
         refine l_do F rfl rfl (op_index _ 63 _ _ Ae I.ends.length ce nn 2 .i64 F rfl (by kernel_rfl) (by kernel_rfl) (by kernel_rfl) (by kernel_rfl) (get_lt he) (row_some S 2 rfl (m := nn) (get_lt he)) (fun a F => ?_))
         refine l_do F rfl rfl (op_indexArr _ 3 _ _ Ae (nn * 2) 2 1 1 .i64 F rfl (by kernel_rfl) (by kernel_rfl) (by kernel_rfl) (by kernel_rfl) (by decide) (row_some S 2 rfl (m := nn) (get_lt he)) (fun a F => ?_))
         refine l_do F rfl rfl (op_load _ _ Ae (nn * 2 + 1) (.int .i64 (qa : Nat)) F rfl (by kernel_rfl) (by kernel_rfl) (cRec S 2 enC_len rfl 1 he rfl) (fun a F => ?_))
         refine l_pure 1 (fun L => (2, .int .i64 (qa : Nat)) :: L) F (by kernel_rfl) fun a F => ?_
         refine l_nil (inb_n ?_)
         refine then_n ?_
         refine wp_region_list ?_
         refine l_do F rfl rfl (op_pure F (v0 := .int .i64 (IntKind.wrap .i64 ((k : Nat) + 1))) (v := .int .i64 (k + 1 : Nat)) (by kernel_rfl) (wrn_i64 (by omega) (by omega) (by omega)) fun a F => ?_)
         refine l_pure 1 (fun L => (60, .int .i64 (k + 1 : Nat)) :: L) F (by kernel_rfl) fun a F => ?_
         refine l_then ?_
         have hsn : ((sidesL Lg) ++ ([0] : List Int)) = sidesL (Lg ++ [(⟨nn, 0, av⟩ : Leg)]) := by rw [sidesL_snoc]; rfl
         rw [hsn] at F S
         exact ⟨_, (by omega), k + 1, (Fq.set nn ((xg.1 - av, xg.2) : Int × Int)), (Lg ++ [(⟨nn, 0, av⟩ : Leg)]), (qa : Nat), A18, c19, rfl, (by omega), (by rw [edgesL_snoc, hE, List.take_add_one, hek]; rfl), (by rw [amsL_snoc, hA, List.take_add_one, hak]; rfl), (by rw [List.length_set]; exact hFl), (set_free_nn hFn (by omega) (by omega)), (by rw [hbf, beg_go (s := 0) hak hek hsd hpvn hxg (show ¬ frN xg 0 < av from hroom) he]; rfl), (by simp; omega), (by rw [sumF_set hxg]; (try dsimp only); omega), F.sub ⟨by kernel_rfl, by kernel_rfl, by kernel_rfl, by kernel_rfl, by kernel_rfl, by kernel_rfl, by kernel_rfl, by kernel_rfl, by kernel_rfl, trivial⟩, (S.pick [0, 1, 2, 3, 4, 5, 6, 7, 8, 9, 10, 11, 12] (by decide))⟩
       ·
        intro hcut20
        dsimp only [tailAt] at hcut20
        refine wp_seq ?_
        refine wp_block ?_
        refine s_reg ?_
        refine l_pure 3 (fun L => (72, .bool false) :: (74, .bool false) :: (73, .int .i64 0) :: L) F (by kernel_rfl) fun a F => ?_
        refine l_then ?_
        refine c_f F rfl ?_
        refine wp_seq ?_
        by_cases ht20 : (av : Int) = (0 : Int)
        ·
         skip
         refine region_gx (fun D => fun (_ : Unit) => [rest w G, box b 61 [.slice Ae I.ends.length ce, .slice Af I.free.length cf, .map (some r), .slice Ah I.has.length ch], rEl Ae ce I.ends, rFl Af cf I.free, rUl Ah ch I.has, mapA r .u64 (ps.map entM) ck, bag (ps.flatMap payRows), box b4 66 [.int .i64 0, .slice none 0 0, .slice none 0 0, .slice none 0 0], rIl Ace cce E, rUl Aca cca A, box b5 66 [.int .i64 0, .slice Ace E.length cce, .slice Asd ((sidesL Lg).length) csd, .slice Aca A.length cca], rF Acf I.free.length ccf Fq, rIl Asd csd (sidesL Lg)]) (fun (_ : Unit) => [.slice As A.length cs, .int .i64 (k : Nat), ptrA As (k * 1), .int .u64 av, .bool true, .bool true, undef, undef, undef, undef, undef, undef, undef, undef, undef, undef, undef, undef, undef, undef, .bool true, .bool true]) [(2, [], [3, 4]), (3, [2], [4]), (4, [2, 3], [])] () rfl (by kernel_rfl) (by kernel_rfl) F S.drew ?_ ?_ ?_ ?_ ?_
         · rintro ⟨⟩; rfl
         · rintro ⟨⟩; kernel_rfl
         ·
          intro D D' x h
          cases x
          rfl
         ·
          refine ⟨?_, ?_⟩
          ·
           refine ⟨_, rfl, rfl, by kernel_rfl, ?_⟩
           rintro D ⟨⟩ a z S F
           refine ⟨by kernel_rfl, ?_⟩
           exact op_index _ 23 _ _ As A.length cs k 1 .i64 F rfl (by kernel_rfl) (by kernel_rfl) (by kernel_rfl) (by kernel_rfl) (get_lt hak) (recs_some hA0 (m := k) (get_lt hak)) (⟨(), rfl, (SameB.refl _ _ rfl), S⟩)
          refine ⟨?_, ?_⟩
          ·
           refine ⟨_, rfl, rfl, by kernel_rfl, ?_⟩
           rintro D ⟨⟩ a z S F
           refine ⟨by kernel_rfl, ?_⟩
           exact op_load _ _ As (k * 1) (.int .u64 av) F rfl (by kernel_rfl) (by kernel_rfl) (cOldG S 0 iC_len_u64 hA0 gA rfl 0 hak rfl) (⟨(), rfl, (SameB.refl _ _ rfl), S⟩)
          refine ⟨?_, ?_⟩
          ·
           refine ⟨_, rfl, rfl, by kernel_rfl, ?_⟩
           rintro D ⟨⟩ a z S F
           refine ⟨by kernel_rfl, ?_⟩
           exact op_pure F (v0 := .bool ((av : Int) == (0 : Int))) (v := .bool true) (by kernel_rfl) (eqlT ht20) ⟨(), rfl, (SameB.refl _ _ rfl), S⟩
          trivial
         ·
          rintro ⟨⟩ a z F S
          have F := F.sub (l := [(0, .pointer (some ⟨b, 0, none⟩)), (1, .int .u64 cid), (2, .int .i64 (pa : Nat)), (4, .slice As A.length cs), (13, .pointer (some ⟨b5, 0, none⟩)), (14, .slice Acf I.free.length ccf), (15, .int .i64 (k : Nat)), (16, .int .i64 (nn : Nat)), (17, .int .i64 0), (58, .slice Ar E.length cr), (59, .int .i64 (E.length : Nat)), (60, .int .i64 (k : Nat)), (76, .bool true)]) ⟨by kernel_rfl, by kernel_rfl, by kernel_rfl, by kernel_rfl, by kernel_rfl, by kernel_rfl, by kernel_rfl, by kernel_rfl, by kernel_rfl, by kernel_rfl, by kernel_rfl, by kernel_rfl, by kernel_rfl, trivial⟩
          have S : Sat w z [rest w G, box b 61 [.slice Ae I.ends.length ce, .slice Af I.free.length cf, .map (some r), .slice Ah I.has.length ch], rEl Ae ce I.ends, rFl Af cf I.free, rUl Ah ch I.has, mapA r .u64 (ps.map entM) ck, bag (ps.flatMap payRows), box b4 66 [.int .i64 0, .slice none 0 0, .slice none 0 0, .slice none 0 0], rIl Ace cce E, rUl Aca cca A, box b5 66 [.int .i64 0, .slice Ace E.length cce, .slice Asd ((sidesL Lg).length) csd, .slice Aca A.length cca], rF Acf I.free.length ccf Fq, rIl Asd csd (sidesL Lg)] := S
          refine then_n ?_
          refine c_t F rfl ?_
          refine s_reg ?_
          refine l_pure 1 (fun L => (10, .int .i64 1) :: L) F (by kernel_rfl) fun a F => ?_
          refine l_then ?_
          refine wp_ret ?_
          refine inb_r (then_r (inb_r (then_r (then_r (inb_r (then_r (?_)))))))
          exact fin F [.tmp 10] [.int .i64 1] rfl ⟨by kernel_rfl, trivial⟩ (.int .i64 1) rfl ⟨by rw [beg_err (by omega) hf (r := (1, Fq, Lg ++ [])) (by rw [hbf, beg_amt hek hak hsd (.inl ht20)]; rfl) (show (1 : Int) ≠ 0 from by decide)], by rw [beg_err (by omega) hf (r := (1, Fq, Lg ++ [])) (by rw [hbf, beg_amt hek hak hsd (.inl ht20)]; rfl) (show (1 : Int) ≠ 0 from by decide)]; exact (id_shut hps (by simp) (by simp) (by simp) (S.pick [0, 1, 2, 3, 4, 5, 6] (by decide)))⟩
        ·
         skip
         by_cases ht21 : (0 : Int) < ((k : Nat) : Int)
         ·
          skip
          obtain ⟨ap, hap⟩ : ∃ ap, A[k - 1]? = some ap := ⟨_, List.getElem?_eq_getElem (by omega)⟩
          by_cases ht22 : (ap : Int) < (av : Int)
          ·
           skip
           refine region_gx (fun D => fun (_ : Unit) => [rest w G, box b 61 [.slice Ae I.ends.length ce, .slice Af I.free.length cf, .map (some r), .slice Ah I.has.length ch], rEl Ae ce I.ends, rFl Af cf I.free, rUl Ah ch I.has, mapA r .u64 (ps.map entM) ck, bag (ps.flatMap payRows), box b4 66 [.int .i64 0, .slice none 0 0, .slice none 0 0, .slice none 0 0], rIl Ace cce E, rUl Aca cca A, box b5 66 [.int .i64 0, .slice Ace E.length cce, .slice Asd ((sidesL Lg).length) csd, .slice Aca A.length cca], rF Acf I.free.length ccf Fq, rIl Asd csd (sidesL Lg)]) (fun (_ : Unit) => [.slice As A.length cs, .int .i64 (k : Nat), ptrA As (k * 1), .int .u64 av, .bool false, .bool false, .int .i64 (k : Nat), .bool true, .bool true, .slice As A.length cs, .int .i64 (k : Nat), ptrA As (k * 1), .int .u64 av, .slice As A.length cs, .int .i64 (k : Nat), .int .i64 (k - 1 : Nat), ptrA As ((k - 1) * 1), .int .u64 ap, .bool true, .bool true, .bool true, .bool true]) [(2, [], [3, 4, 7, 11, 12, 15, 16, 17, 18]), (3, [2], [4, 7, 11, 12, 15, 16, 17, 18]), (4, [2, 3], [7, 11, 12, 15, 16, 17, 18]), (7, [2, 3, 4], [11, 12, 15, 16, 17, 18]), (11, [2, 3, 4, 7], [12, 18]), (12, [2, 3, 4, 7, 11], [18]), (15, [2, 3, 4, 7], [16, 17, 18]), (16, [2, 3, 4, 7, 15], [17, 18]), (17, [2, 3, 4, 7, 15, 16], [18]), (18, [2, 3, 4, 7, 11, 12, 15, 16, 17], [])] () rfl (by kernel_rfl) (by kernel_rfl) F S.drew ?_ ?_ ?_ ?_ ?_
           · rintro ⟨⟩; rfl
           · rintro ⟨⟩; kernel_rfl
           ·
            intro D D' x h
            cases x
            rfl
           ·
            refine ⟨?_, ?_⟩
            ·
             refine ⟨_, rfl, rfl, by kernel_rfl, ?_⟩
             rintro D ⟨⟩ a z S F
             refine ⟨by kernel_rfl, ?_⟩
             exact op_index _ 23 _ _ As A.length cs k 1 .i64 F rfl (by kernel_rfl) (by kernel_rfl) (by kernel_rfl) (by kernel_rfl) (get_lt hak) (recs_some hA0 (m := k) (get_lt hak)) (⟨(), rfl, (SameB.refl _ _ rfl), S⟩)
            refine ⟨?_, ?_⟩
            ·
             refine ⟨_, rfl, rfl, by kernel_rfl, ?_⟩
             rintro D ⟨⟩ a z S F
             refine ⟨by kernel_rfl, ?_⟩
             exact op_load _ _ As (k * 1) (.int .u64 av) F rfl (by kernel_rfl) (by kernel_rfl) (cOldG S 0 iC_len_u64 hA0 gA rfl 0 hak rfl) (⟨(), rfl, (SameB.refl _ _ rfl), S⟩)
            refine ⟨?_, ?_⟩
            ·
             refine ⟨_, rfl, rfl, by kernel_rfl, ?_⟩
             rintro D ⟨⟩ a z S F
             refine ⟨by kernel_rfl, ?_⟩
             exact op_pure F (v0 := .bool ((av : Int) == (0 : Int))) (v := .bool false) (by kernel_rfl) (eqlF ht20) ⟨(), rfl, (SameB.refl _ _ rfl), S⟩
            refine ⟨?_, ?_⟩
            ·
             refine ⟨_, rfl, rfl, by kernel_rfl, ?_⟩
             rintro D ⟨⟩ a z S F
             refine ⟨by kernel_rfl, ?_⟩
             exact op_pure F (v0 := .bool (decide (((k : Nat) : Int) > (0 : Int)))) (v := .bool true) (by kernel_rfl) (gtrT ht21) ⟨(), rfl, (SameB.refl _ _ rfl), S⟩
            refine ⟨?_, ?_⟩
            ·
             refine ⟨_, rfl, rfl, by kernel_rfl, ?_⟩
             rintro D ⟨⟩ a z S F
             refine ⟨by kernel_rfl, ?_⟩
             exact op_index _ 23 _ _ As A.length cs k 1 .i64 F rfl (by kernel_rfl) (by kernel_rfl) (by kernel_rfl) (by kernel_rfl) (get_lt hak) (recs_some hA0 (m := k) (get_lt hak)) (⟨(), rfl, (SameB.refl _ _ rfl), S⟩)
            refine ⟨?_, ?_⟩
            ·
             refine ⟨_, rfl, rfl, by kernel_rfl, ?_⟩
             rintro D ⟨⟩ a z S F
             refine ⟨by kernel_rfl, ?_⟩
             exact op_load _ _ As (k * 1) (.int .u64 av) F rfl (by kernel_rfl) (by kernel_rfl) (cOldG S 0 iC_len_u64 hA0 gA rfl 0 hak rfl) (⟨(), rfl, (SameB.refl _ _ rfl), S⟩)
            refine ⟨?_, ?_⟩
            ·
             refine ⟨_, rfl, rfl, by kernel_rfl, ?_⟩
             rintro D ⟨⟩ a z S F
             refine ⟨by kernel_rfl, ?_⟩
             exact op_pure F (v0 := .int .i64 (IntKind.wrap .i64 ((k : Nat) - 1))) (v := .int .i64 (k - 1 : Nat)) (by kernel_rfl) (wrn_i64 (by omega) (by omega) (by omega)) ⟨(), rfl, (SameB.refl _ _ rfl), S⟩
            refine ⟨?_, ?_⟩
            ·
             refine ⟨_, rfl, rfl, by kernel_rfl, ?_⟩
             rintro D ⟨⟩ a z S F
             refine ⟨by kernel_rfl, ?_⟩
             exact op_index _ 23 _ _ As A.length cs (k - 1) 1 .i64 F rfl (by kernel_rfl) (by kernel_rfl) (by kernel_rfl) (by kernel_rfl) (get_lt hap) (recs_some hA0 (m := k - 1) (get_lt hap)) (⟨(), rfl, (SameB.refl _ _ rfl), S⟩)
            refine ⟨?_, ?_⟩
            ·
             refine ⟨_, rfl, rfl, by kernel_rfl, ?_⟩
             rintro D ⟨⟩ a z S F
             refine ⟨by kernel_rfl, ?_⟩
             exact op_load _ _ As ((k - 1) * 1) (.int .u64 ap) F rfl (by kernel_rfl) (by kernel_rfl) (cOldG S 0 iC_len_u64 hA0 gA rfl 0 hap rfl) (⟨(), rfl, (SameB.refl _ _ rfl), S⟩)
            refine ⟨?_, ?_⟩
            ·
             refine ⟨_, rfl, rfl, by kernel_rfl, ?_⟩
             rintro D ⟨⟩ a z S F
             refine ⟨by kernel_rfl, ?_⟩
             exact op_pure F (v0 := .bool (decide ((av : Int) > (ap : Int)))) (v := .bool true) (by kernel_rfl) (gtrT ht22) ⟨(), rfl, (SameB.refl _ _ rfl), S⟩
            trivial
           ·
            rintro ⟨⟩ a z F S
            have F := F.sub (l := [(0, .pointer (some ⟨b, 0, none⟩)), (1, .int .u64 cid), (2, .int .i64 (pa : Nat)), (4, .slice As A.length cs), (13, .pointer (some ⟨b5, 0, none⟩)), (14, .slice Acf I.free.length ccf), (15, .int .i64 (k : Nat)), (16, .int .i64 (nn : Nat)), (17, .int .i64 0), (58, .slice Ar E.length cr), (59, .int .i64 (E.length : Nat)), (60, .int .i64 (k : Nat)), (76, .bool true)]) ⟨by kernel_rfl, by kernel_rfl, by kernel_rfl, by kernel_rfl, by kernel_rfl, by kernel_rfl, by kernel_rfl, by kernel_rfl, by kernel_rfl, by kernel_rfl, by kernel_rfl, by kernel_rfl, by kernel_rfl, trivial⟩
            have S : Sat w z [rest w G, box b 61 [.slice Ae I.ends.length ce, .slice Af I.free.length cf, .map (some r), .slice Ah I.has.length ch], rEl Ae ce I.ends, rFl Af cf I.free, rUl Ah ch I.has, mapA r .u64 (ps.map entM) ck, bag (ps.flatMap payRows), box b4 66 [.int .i64 0, .slice none 0 0, .slice none 0 0, .slice none 0 0], rIl Ace cce E, rUl Aca cca A, box b5 66 [.int .i64 0, .slice Ace E.length cce, .slice Asd ((sidesL Lg).length) csd, .slice Aca A.length cca], rF Acf I.free.length ccf Fq, rIl Asd csd (sidesL Lg)] := S
            refine then_n ?_
            refine c_t F rfl ?_
            refine s_reg ?_
            refine l_pure 1 (fun L => (10, .int .i64 1) :: L) F (by kernel_rfl) fun a F => ?_
            refine l_then ?_
            refine wp_ret ?_
            refine inb_r (then_r (inb_r (then_r (then_r (inb_r (then_r (?_)))))))
            exact fin F [.tmp 10] [.int .i64 1] rfl ⟨by kernel_rfl, trivial⟩ (.int .i64 1) rfl ⟨by rw [beg_err (by omega) hf (r := (1, Fq, Lg ++ [])) (by rw [hbf, beg_amt hek hak hsd (.inr (pv_yes (by omega) hap ht22))]; rfl) (show (1 : Int) ≠ 0 from by decide)], by rw [beg_err (by omega) hf (r := (1, Fq, Lg ++ [])) (by rw [hbf, beg_amt hek hak hsd (.inr (pv_yes (by omega) hap ht22))]; rfl) (show (1 : Int) ≠ 0 from by decide)]; exact (id_shut hps (by simp) (by simp) (by simp) (S.pick [0, 1, 2, 3, 4, 5, 6] (by decide)))⟩
          ·
           skip
           refine region_gx (fun D => fun (_ : Unit) => [rest w G, box b 61 [.slice Ae I.ends.length ce, .slice Af I.free.length cf, .map (some r), .slice Ah I.has.length ch], rEl Ae ce I.ends, rFl Af cf I.free, rUl Ah ch I.has, mapA r .u64 (ps.map entM) ck, bag (ps.flatMap payRows), box b4 66 [.int .i64 0, .slice none 0 0, .slice none 0 0, .slice none 0 0], rIl Ace cce E, rUl Aca cca A, box b5 66 [.int .i64 0, .slice Ace E.length cce, .slice Asd ((sidesL Lg).length) csd, .slice Aca A.length cca], rF Acf I.free.length ccf Fq, rIl Asd csd (sidesL Lg)]) (fun (_ : Unit) => [.slice As A.length cs, .int .i64 (k : Nat), ptrA As (k * 1), .int .u64 av, .bool false, .bool false, .int .i64 (k : Nat), .bool true, .bool true, .slice As A.length cs, .int .i64 (k : Nat), ptrA As (k * 1), .int .u64 av, .slice As A.length cs, .int .i64 (k : Nat), .int .i64 (k - 1 : Nat), ptrA As ((k - 1) * 1), .int .u64 ap, .bool false, .bool false, .bool false, .bool false]) [(2, [], [3, 4, 7, 11, 12, 15, 16, 17, 18]), (3, [2], [4, 7, 11, 12, 15, 16, 17, 18]), (4, [2, 3], [7, 11, 12, 15, 16, 17, 18]), (7, [2, 3, 4], [11, 12, 15, 16, 17, 18]), (11, [2, 3, 4, 7], [12, 18]), (12, [2, 3, 4, 7, 11], [18]), (15, [2, 3, 4, 7], [16, 17, 18]), (16, [2, 3, 4, 7, 15], [17, 18]), (17, [2, 3, 4, 7, 15, 16], [18]), (18, [2, 3, 4, 7, 11, 12, 15, 16, 17], [])] () rfl (by kernel_rfl) (by kernel_rfl) F S.drew ?_ ?_ ?_ ?_ ?_
           · rintro ⟨⟩; rfl
           · rintro ⟨⟩; kernel_rfl
           ·
            intro D D' x h
            cases x
            rfl
           ·
            refine ⟨?_, ?_⟩
            ·
             refine ⟨_, rfl, rfl, by kernel_rfl, ?_⟩
             rintro D ⟨⟩ a z S F
             refine ⟨by kernel_rfl, ?_⟩
             exact op_index _ 23 _ _ As A.length cs k 1 .i64 F rfl (by kernel_rfl) (by kernel_rfl) (by kernel_rfl) (by kernel_rfl) (get_lt hak) (recs_some hA0 (m := k) (get_lt hak)) (⟨(), rfl, (SameB.refl _ _ rfl), S⟩)
            refine ⟨?_, ?_⟩
            ·
             refine ⟨_, rfl, rfl, by kernel_rfl, ?_⟩
             rintro D ⟨⟩ a z S F
             refine ⟨by kernel_rfl, ?_⟩
             exact op_load _ _ As (k * 1) (.int .u64 av) F rfl (by kernel_rfl) (by kernel_rfl) (cOldG S 0 iC_len_u64 hA0 gA rfl 0 hak rfl) (⟨(), rfl, (SameB.refl _ _ rfl), S⟩)
            refine ⟨?_, ?_⟩
            ·
             refine ⟨_, rfl, rfl, by kernel_rfl, ?_⟩
             rintro D ⟨⟩ a z S F
             refine ⟨by kernel_rfl, ?_⟩
             exact op_pure F (v0 := .bool ((av : Int) == (0 : Int))) (v := .bool false) (by kernel_rfl) (eqlF ht20) ⟨(), rfl, (SameB.refl _ _ rfl), S⟩
            refine ⟨?_, ?_⟩
            ·
             refine ⟨_, rfl, rfl, by kernel_rfl, ?_⟩
             rintro D ⟨⟩ a z S F
             refine ⟨by kernel_rfl, ?_⟩
             exact op_pure F (v0 := .bool (decide (((k : Nat) : Int) > (0 : Int)))) (v := .bool true) (by kernel_rfl) (gtrT ht21) ⟨(), rfl, (SameB.refl _ _ rfl), S⟩
            refine ⟨?_, ?_⟩
            ·
             refine ⟨_, rfl, rfl, by kernel_rfl, ?_⟩
             rintro D ⟨⟩ a z S F
             refine ⟨by kernel_rfl, ?_⟩
             exact op_index _ 23 _ _ As A.length cs k 1 .i64 F rfl (by kernel_rfl) (by kernel_rfl) (by kernel_rfl) (by kernel_rfl) (get_lt hak) (recs_some hA0 (m := k) (get_lt hak)) (⟨(), rfl, (SameB.refl _ _ rfl), S⟩)
            refine ⟨?_, ?_⟩
            ·
             refine ⟨_, rfl, rfl, by kernel_rfl, ?_⟩
             rintro D ⟨⟩ a z S F
             refine ⟨by kernel_rfl, ?_⟩
             exact op_load _ _ As (k * 1) (.int .u64 av) F rfl (by kernel_rfl) (by kernel_rfl) (cOldG S 0 iC_len_u64 hA0 gA rfl 0 hak rfl) (⟨(), rfl, (SameB.refl _ _ rfl), S⟩)
            refine ⟨?_, ?_⟩
            ·
             refine ⟨_, rfl, rfl, by kernel_rfl, ?_⟩
             rintro D ⟨⟩ a z S F
             refine ⟨by kernel_rfl, ?_⟩
             exact op_pure F (v0 := .int .i64 (IntKind.wrap .i64 ((k : Nat) - 1))) (v := .int .i64 (k - 1 : Nat)) (by kernel_rfl) (wrn_i64 (by omega) (by omega) (by omega)) ⟨(), rfl, (SameB.refl _ _ rfl), S⟩
            refine ⟨?_, ?_⟩
            ·
             refine ⟨_, rfl, rfl, by kernel_rfl, ?_⟩
             rintro D ⟨⟩ a z S F
             refine ⟨by kernel_rfl, ?_⟩
             exact op_index _ 23 _ _ As A.length cs (k - 1) 1 .i64 F rfl (by kernel_rfl) (by kernel_rfl) (by kernel_rfl) (by kernel_rfl) (get_lt hap) (recs_some hA0 (m := k - 1) (get_lt hap)) (⟨(), rfl, (SameB.refl _ _ rfl), S⟩)
            refine ⟨?_, ?_⟩
            ·
             refine ⟨_, rfl, rfl, by kernel_rfl, ?_⟩
             rintro D ⟨⟩ a z S F
             refine ⟨by kernel_rfl, ?_⟩
             exact op_load _ _ As ((k - 1) * 1) (.int .u64 ap) F rfl (by kernel_rfl) (by kernel_rfl) (cOldG S 0 iC_len_u64 hA0 gA rfl 0 hap rfl) (⟨(), rfl, (SameB.refl _ _ rfl), S⟩)
            refine ⟨?_, ?_⟩
            ·
             refine ⟨_, rfl, rfl, by kernel_rfl, ?_⟩
             rintro D ⟨⟩ a z S F
             refine ⟨by kernel_rfl, ?_⟩
             exact op_pure F (v0 := .bool (decide ((av : Int) > (ap : Int)))) (v := .bool false) (by kernel_rfl) (gtrF ht22) ⟨(), rfl, (SameB.refl _ _ rfl), S⟩
            trivial
           ·
            rintro ⟨⟩ a z F S
            have F := F.sub (l := [(0, .pointer (some ⟨b, 0, none⟩)), (1, .int .u64 cid), (2, .int .i64 (pa : Nat)), (4, .slice As A.length cs), (13, .pointer (some ⟨b5, 0, none⟩)), (14, .slice Acf I.free.length ccf), (15, .int .i64 (k : Nat)), (16, .int .i64 (nn : Nat)), (17, .int .i64 0), (58, .slice Ar E.length cr), (59, .int .i64 (E.length : Nat)), (60, .int .i64 (k : Nat)), (76, .bool false)]) ⟨by kernel_rfl, by kernel_rfl, by kernel_rfl, by kernel_rfl, by kernel_rfl, by kernel_rfl, by kernel_rfl, by kernel_rfl, by kernel_rfl, by kernel_rfl, by kernel_rfl, by kernel_rfl, by kernel_rfl, trivial⟩
            have S : Sat w z [rest w G, box b 61 [.slice Ae I.ends.length ce, .slice Af I.free.length cf, .map (some r), .slice Ah I.has.length ch], rEl Ae ce I.ends, rFl Af cf I.free, rUl Ah ch I.has, mapA r .u64 (ps.map entM) ck, bag (ps.flatMap payRows), box b4 66 [.int .i64 0, .slice none 0 0, .slice none 0 0, .slice none 0 0], rIl Ace cce E, rUl Aca cca A, box b5 66 [.int .i64 0, .slice Ace E.length cce, .slice Asd ((sidesL Lg).length) csd, .slice Aca A.length cca], rF Acf I.free.length ccf Fq, rIl Asd csd (sidesL Lg)] := S
            refine then_n ?_
            refine c_f F rfl ?_
            refine wp_seq ?_
            by_cases ht23 : (xg.1 : Int) < (av : Int)
            ·
             skip
             refine region_gx (fun D => fun (_ : Unit) => [rest w G, box b 61 [.slice Ae I.ends.length ce, .slice Af I.free.length cf, .map (some r), .slice Ah I.has.length ch], rEl Ae ce I.ends, rFl Af cf I.free, rUl Ah ch I.has, mapA r .u64 (ps.map entM) ck, bag (ps.flatMap payRows), box b4 66 [.int .i64 0, .slice none 0 0, .slice none 0 0, .slice none 0 0], rIl Ace cce E, rUl Aca cca A, box b5 66 [.int .i64 0, .slice Ace E.length cce, .slice Asd ((sidesL Lg).length) csd, .slice Aca A.length cca], rF Acf I.free.length ccf Fq, rIl Asd csd (sidesL Lg)]) (fun (_ : Unit) => [.slice As A.length cs, .int .i64 (k : Nat), ptrA As (k * 1), .int .u64 av, .slice Acf I.free.length ccf, .int .i64 (nn : Nat), .int .i64 0, ptrA Acf (nn * 2), ptrA Acf (nn * 2), .int .u64 xg.1, .bool true, .bool true]) [(2, [], [3, 10]), (3, [2], [10]), (7, [], [8, 9, 10]), (8, [7], [9, 10]), (9, [7, 8], [10]), (10, [2, 3, 7, 8, 9], [])] () rfl (by kernel_rfl) (by kernel_rfl) F S.drew ?_ ?_ ?_ ?_ ?_
             · rintro ⟨⟩; rfl
             · rintro ⟨⟩; kernel_rfl
             ·
              intro D D' x h
              cases x
              rfl
             ·
              refine ⟨?_, ?_⟩
              ·
               refine ⟨_, rfl, rfl, by kernel_rfl, ?_⟩
               rintro D ⟨⟩ a z S F
               refine ⟨by kernel_rfl, ?_⟩
               exact op_index _ 23 _ _ As A.length cs k 1 .i64 F rfl (by kernel_rfl) (by kernel_rfl) (by kernel_rfl) (by kernel_rfl) (get_lt hak) (recs_some hA0 (m := k) (get_lt hak)) (⟨(), rfl, (SameB.refl _ _ rfl), S⟩)
              refine ⟨?_, ?_⟩
              ·
               refine ⟨_, rfl, rfl, by kernel_rfl, ?_⟩
               rintro D ⟨⟩ a z S F
               refine ⟨by kernel_rfl, ?_⟩
               exact op_load _ _ As (k * 1) (.int .u64 av) F rfl (by kernel_rfl) (by kernel_rfl) (cOldG S 0 iC_len_u64 hA0 gA rfl 0 hak rfl) (⟨(), rfl, (SameB.refl _ _ rfl), S⟩)
              refine ⟨?_, ?_⟩
              ·
               refine ⟨_, rfl, rfl, by kernel_rfl, ?_⟩
               rintro D ⟨⟩ a z S F
               refine ⟨by kernel_rfl, ?_⟩
               exact op_index _ 31 _ _ Acf I.free.length ccf nn 2 .i64 F rfl (by kernel_rfl) (by kernel_rfl) (by kernel_rfl) (by kernel_rfl) (by have h9 := get_lt hxg; (try simp only [List.length_set] at h9); omega) (row_some S 11 rfl (m := nn) (by have h9 := get_lt hxg; (try simp only [List.length_set] at h9); omega)) (⟨(), rfl, (SameB.refl _ _ rfl), S⟩)
              refine ⟨?_, ?_⟩
              ·
               refine ⟨_, rfl, rfl, by kernel_rfl, ?_⟩
               rintro D ⟨⟩ a z S F
               refine ⟨by kernel_rfl, ?_⟩
               exact op_indexArr _ 23 _ _ Acf (nn * 2) 2 0 1 .i64 F rfl (by kernel_rfl) (by kernel_rfl) (by kernel_rfl) (by kernel_rfl) (by decide) (row_some S 11 rfl (m := nn) (by have h9 := get_lt hxg; (try simp only [List.length_set] at h9); omega)) (⟨(), rfl, (SameB.refl _ _ rfl), S⟩)
              refine ⟨?_, ?_⟩
              ·
               refine ⟨_, rfl, rfl, by kernel_rfl, ?_⟩
               rintro D ⟨⟩ a z S F
               refine ⟨by kernel_rfl, ?_⟩
               exact op_load _ _ Acf (nn * 2) (.int .u64 xg.1) F rfl (by kernel_rfl) (by kernel_rfl) (cRec S 11 frC_len rfl 0 hxg rfl) (⟨(), rfl, (SameB.refl _ _ rfl), S⟩)
              refine ⟨?_, ?_⟩
              ·
               refine ⟨_, rfl, rfl, by kernel_rfl, ?_⟩
               rintro D ⟨⟩ a z S F
               refine ⟨by kernel_rfl, ?_⟩
               exact op_pure F (v0 := .bool (decide ((av : Int) > (xg.1 : Int)))) (v := .bool true) (by kernel_rfl) (gtrT ht23) ⟨(), rfl, (SameB.refl _ _ rfl), S⟩
              trivial
             ·
              rintro ⟨⟩ a z F S
              have F := F.sub (l := [(0, .pointer (some ⟨b, 0, none⟩)), (1, .int .u64 cid), (2, .int .i64 (pa : Nat)), (4, .slice As A.length cs), (13, .pointer (some ⟨b5, 0, none⟩)), (14, .slice Acf I.free.length ccf), (15, .int .i64 (k : Nat)), (16, .int .i64 (nn : Nat)), (17, .int .i64 0), (58, .slice Ar E.length cr), (59, .int .i64 (E.length : Nat)), (60, .int .i64 (k : Nat)), (98, .bool true)]) ⟨by kernel_rfl, by kernel_rfl, by kernel_rfl, by kernel_rfl, by kernel_rfl, by kernel_rfl, by kernel_rfl, by kernel_rfl, by kernel_rfl, by kernel_rfl, by kernel_rfl, by kernel_rfl, by kernel_rfl, trivial⟩
              have S : Sat w z [rest w G, box b 61 [.slice Ae I.ends.length ce, .slice Af I.free.length cf, .map (some r), .slice Ah I.has.length ch], rEl Ae ce I.ends, rFl Af cf I.free, rUl Ah ch I.has, mapA r .u64 (ps.map entM) ck, bag (ps.flatMap payRows), box b4 66 [.int .i64 0, .slice none 0 0, .slice none 0 0, .slice none 0 0], rIl Ace cce E, rUl Aca cca A, box b5 66 [.int .i64 0, .slice Ace E.length cce, .slice Asd ((sidesL Lg).length) csd, .slice Aca A.length cca], rF Acf I.free.length ccf Fq, rIl Asd csd (sidesL Lg)] := S
              refine then_n ?_
              refine c_t F rfl ?_
              refine s_reg ?_
              refine l_pure 1 (fun L => (10, .int .i64 28) :: L) F (by kernel_rfl) fun a F => ?_
              refine l_then ?_
              refine wp_ret ?_
              refine inb_r (then_r (inb_r (then_r (then_r (inb_r (then_r (?_)))))))
              exact fin F [.tmp 10] [.int .i64 28] rfl ⟨by kernel_rfl, trivial⟩ (.int .i64 28) rfl ⟨by rw [beg_err (by omega) hf (r := (28, Fq, Lg ++ [])) (by rw [hbf, beg_room (s := 0) hak hek hsd (fun h9 => h9.elim ht20 (pv_no (.inr ⟨_, hap, ht22⟩))) hxg (show frN xg 0 < av from ht23)]; rfl) (show (28 : Int) ≠ 0 from by decide)], by rw [beg_err (by omega) hf (r := (28, Fq, Lg ++ [])) (by rw [hbf, beg_room (s := 0) hak hek hsd (fun h9 => h9.elim ht20 (pv_no (.inr ⟨_, hap, ht22⟩))) hxg (show frN xg 0 < av from ht23)]; rfl) (show (28 : Int) ≠ 0 from by decide)]; exact (id_shut hps (by simp) (by simp) (by simp) (S.pick [0, 1, 2, 3, 4, 5, 6] (by decide)))⟩
            ·
             skip
             refine region_gx (fun D => fun (_ : Unit) => [rest w G, box b 61 [.slice Ae I.ends.length ce, .slice Af I.free.length cf, .map (some r), .slice Ah I.has.length ch], rEl Ae ce I.ends, rFl Af cf I.free, rUl Ah ch I.has, mapA r .u64 (ps.map entM) ck, bag (ps.flatMap payRows), box b4 66 [.int .i64 0, .slice none 0 0, .slice none 0 0, .slice none 0 0], rIl Ace cce E, rUl Aca cca A, box b5 66 [.int .i64 0, .slice Ace E.length cce, .slice Asd ((sidesL Lg).length) csd, .slice Aca A.length cca], rF Acf I.free.length ccf Fq, rIl Asd csd (sidesL Lg)]) (fun (_ : Unit) => [.slice As A.length cs, .int .i64 (k : Nat), ptrA As (k * 1), .int .u64 av, .slice Acf I.free.length ccf, .int .i64 (nn : Nat), .int .i64 0, ptrA Acf (nn * 2), ptrA Acf (nn * 2), .int .u64 xg.1, .bool false, .bool false]) [(2, [], [3, 10]), (3, [2], [10]), (7, [], [8, 9, 10]), (8, [7], [9, 10]), (9, [7, 8], [10]), (10, [2, 3, 7, 8, 9], [])] () rfl (by kernel_rfl) (by kernel_rfl) F S.drew ?_ ?_ ?_ ?_ ?_
             · rintro ⟨⟩; rfl
             · rintro ⟨⟩; kernel_rfl
             ·
              intro D D' x h
              cases x
              rfl
             ·
              refine ⟨?_, ?_⟩
              ·
               refine ⟨_, rfl, rfl, by kernel_rfl, ?_⟩
               rintro D ⟨⟩ a z S F
               refine ⟨by kernel_rfl, ?_⟩
               exact op_index _ 23 _ _ As A.length cs k 1 .i64 F rfl (by kernel_rfl) (by kernel_rfl) (by kernel_rfl) (by kernel_rfl) (get_lt hak) (recs_some hA0 (m := k) (get_lt hak)) (⟨(), rfl, (SameB.refl _ _ rfl), S⟩)
              refine ⟨?_, ?_⟩
              ·
               refine ⟨_, rfl, rfl, by kernel_rfl, ?_⟩
               rintro D ⟨⟩ a z S F
               refine ⟨by kernel_rfl, ?_⟩
               exact op_load _ _ As (k * 1) (.int .u64 av) F rfl (by kernel_rfl) (by kernel_rfl) (cOldG S 0 iC_len_u64 hA0 gA rfl 0 hak rfl) (⟨(), rfl, (SameB.refl _ _ rfl), S⟩)
              refine ⟨?_, ?_⟩
              ·
               refine ⟨_, rfl, rfl, by kernel_rfl, ?_⟩
               rintro D ⟨⟩ a z S F
               refine ⟨by kernel_rfl, ?_⟩
               exact op_index _ 31 _ _ Acf I.free.length ccf nn 2 .i64 F rfl (by kernel_rfl) (by kernel_rfl) (by kernel_rfl) (by kernel_rfl) (by have h9 := get_lt hxg; (try simp only [List.length_set] at h9); omega) (row_some S 11 rfl (m := nn) (by have h9 := get_lt hxg; (try simp only [List.length_set] at h9); omega)) (⟨(), rfl, (SameB.refl _ _ rfl), S⟩)
              refine ⟨?_, ?_⟩
              ·
               refine ⟨_, rfl, rfl, by kernel_rfl, ?_⟩
               rintro D ⟨⟩ a z S F
               refine ⟨by kernel_rfl, ?_⟩
               exact op_indexArr _ 23 _ _ Acf (nn * 2) 2 0 1 .i64 F rfl (by kernel_rfl) (by kernel_rfl) (by kernel_rfl) (by kernel_rfl) (by decide) (row_some S 11 rfl (m := nn) (by have h9 := get_lt hxg; (try simp only [List.length_set] at h9); omega)) (⟨(), rfl, (SameB.refl _ _ rfl), S⟩)
              refine ⟨?_, ?_⟩
              ·
               refine ⟨_, rfl, rfl, by kernel_rfl, ?_⟩
               rintro D ⟨⟩ a z S F
               refine ⟨by kernel_rfl, ?_⟩
               exact op_load _ _ Acf (nn * 2) (.int .u64 xg.1) F rfl (by kernel_rfl) (by kernel_rfl) (cRec S 11 frC_len rfl 0 hxg rfl) (⟨(), rfl, (SameB.refl _ _ rfl), S⟩)
              refine ⟨?_, ?_⟩
              ·
               refine ⟨_, rfl, rfl, by kernel_rfl, ?_⟩
               rintro D ⟨⟩ a z S F
               refine ⟨by kernel_rfl, ?_⟩
               exact op_pure F (v0 := .bool (decide ((av : Int) > (xg.1 : Int)))) (v := .bool false) (by kernel_rfl) (gtrF ht23) ⟨(), rfl, (SameB.refl _ _ rfl), S⟩
              trivial
             ·
              rintro ⟨⟩ a z F S
              have F := F.sub (l := [(0, .pointer (some ⟨b, 0, none⟩)), (1, .int .u64 cid), (2, .int .i64 (pa : Nat)), (4, .slice As A.length cs), (13, .pointer (some ⟨b5, 0, none⟩)), (14, .slice Acf I.free.length ccf), (15, .int .i64 (k : Nat)), (16, .int .i64 (nn : Nat)), (17, .int .i64 0), (58, .slice Ar E.length cr), (59, .int .i64 (E.length : Nat)), (60, .int .i64 (k : Nat)), (98, .bool false)]) ⟨by kernel_rfl, by kernel_rfl, by kernel_rfl, by kernel_rfl, by kernel_rfl, by kernel_rfl, by kernel_rfl, by kernel_rfl, by kernel_rfl, by kernel_rfl, by kernel_rfl, by kernel_rfl, by kernel_rfl, trivial⟩
              have S : Sat w z [rest w G, box b 61 [.slice Ae I.ends.length ce, .slice Af I.free.length cf, .map (some r), .slice Ah I.has.length ch], rEl Ae ce I.ends, rFl Af cf I.free, rUl Ah ch I.has, mapA r .u64 (ps.map entM) ck, bag (ps.flatMap payRows), box b4 66 [.int .i64 0, .slice none 0 0, .slice none 0 0, .slice none 0 0], rIl Ace cce E, rUl Aca cca A, box b5 66 [.int .i64 0, .slice Ace E.length cce, .slice Asd ((sidesL Lg).length) csd, .slice Aca A.length cca], rF Acf I.free.length ccf Fq, rIl Asd csd (sidesL Lg)] := S
              refine then_n ?_
              refine c_f F rfl ?_
              refine wp_skip ?_
              refine inb_n ?_
              refine then_n ?_
              exact hcut20 _ _ ⟨(fun h9 => h9.elim ht20 (pv_no (.inr ⟨_, hap, ht22⟩))), ht23, F.sub ⟨by kernel_rfl, by kernel_rfl, by kernel_rfl, by kernel_rfl, by kernel_rfl, by kernel_rfl, by kernel_rfl, by kernel_rfl, by kernel_rfl, by kernel_rfl, by kernel_rfl, by kernel_rfl, trivial⟩, S⟩
         ·
          skip
          refine region_gx (fun D => fun (_ : Unit) => [rest w G, box b 61 [.slice Ae I.ends.length ce, .slice Af I.free.length cf, .map (some r), .slice Ah I.has.length ch], rEl Ae ce I.ends, rFl Af cf I.free, rUl Ah ch I.has, mapA r .u64 (ps.map entM) ck, bag (ps.flatMap payRows), box b4 66 [.int .i64 0, .slice none 0 0, .slice none 0 0, .slice none 0 0], rIl Ace cce E, rUl Aca cca A, box b5 66 [.int .i64 0, .slice Ace E.length cce, .slice Asd ((sidesL Lg).length) csd, .slice Aca A.length cca], rF Acf I.free.length ccf Fq, rIl Asd csd (sidesL Lg)]) (fun (_ : Unit) => [.slice As A.length cs, .int .i64 (k : Nat), ptrA As (k * 1), .int .u64 av, .bool false, .bool false, .int .i64 (k : Nat), .bool false, .bool false, undef, undef, undef, undef, undef, undef, undef, undef, undef, undef, .bool false, .bool false, .bool false]) [(2, [], [3, 4, 7]), (3, [2], [4, 7]), (4, [2, 3], [7]), (7, [2, 3, 4], [])] () rfl (by kernel_rfl) (by kernel_rfl) F S.drew ?_ ?_ ?_ ?_ ?_
          · rintro ⟨⟩; rfl
          · rintro ⟨⟩; kernel_rfl
          ·
           intro D D' x h
           cases x
           rfl
          ·
           refine ⟨?_, ?_⟩
           ·
            refine ⟨_, rfl, rfl, by kernel_rfl, ?_⟩
            rintro D ⟨⟩ a z S F
            refine ⟨by kernel_rfl, ?_⟩
            exact op_index _ 23 _ _ As A.length cs k 1 .i64 F rfl (by kernel_rfl) (by kernel_rfl) (by kernel_rfl) (by kernel_rfl) (get_lt hak) (recs_some hA0 (m := k) (get_lt hak)) (⟨(), rfl, (SameB.refl _ _ rfl), S⟩)
           refine ⟨?_, ?_⟩
           ·
            refine ⟨_, rfl, rfl, by kernel_rfl, ?_⟩
            rintro D ⟨⟩ a z S F
            refine ⟨by kernel_rfl, ?_⟩
            exact op_load _ _ As (k * 1) (.int .u64 av) F rfl (by kernel_rfl) (by kernel_rfl) (cOldG S 0 iC_len_u64 hA0 gA rfl 0 hak rfl) (⟨(), rfl, (SameB.refl _ _ rfl), S⟩)
           refine ⟨?_, ?_⟩
           ·
            refine ⟨_, rfl, rfl, by kernel_rfl, ?_⟩
            rintro D ⟨⟩ a z S F
            refine ⟨by kernel_rfl, ?_⟩
            exact op_pure F (v0 := .bool ((av : Int) == (0 : Int))) (v := .bool false) (by kernel_rfl) (eqlF ht20) ⟨(), rfl, (SameB.refl _ _ rfl), S⟩
           refine ⟨?_, ?_⟩
           ·
            refine ⟨_, rfl, rfl, by kernel_rfl, ?_⟩
            rintro D ⟨⟩ a z S F
            refine ⟨by kernel_rfl, ?_⟩
            exact op_pure F (v0 := .bool (decide (((k : Nat) : Int) > (0 : Int)))) (v := .bool false) (by kernel_rfl) (gtrF ht21) ⟨(), rfl, (SameB.refl _ _ rfl), S⟩
           trivial
          ·
           rintro ⟨⟩ a z F S
           have F := F.sub (l := [(0, .pointer (some ⟨b, 0, none⟩)), (1, .int .u64 cid), (2, .int .i64 (pa : Nat)), (4, .slice As A.length cs), (13, .pointer (some ⟨b5, 0, none⟩)), (14, .slice Acf I.free.length ccf), (15, .int .i64 (k : Nat)), (16, .int .i64 (nn : Nat)), (17, .int .i64 0), (58, .slice Ar E.length cr), (59, .int .i64 (E.length : Nat)), (60, .int .i64 (k : Nat)), (76, .bool false)]) ⟨by kernel_rfl, by kernel_rfl, by kernel_rfl, by kernel_rfl, by kernel_rfl, by kernel_rfl, by kernel_rfl, by kernel_rfl, by kernel_rfl, by kernel_rfl, by kernel_rfl, by kernel_rfl, by kernel_rfl, trivial⟩
           have S : Sat w z [rest w G, box b 61 [.slice Ae I.ends.length ce, .slice Af I.free.length cf, .map (some r), .slice Ah I.has.length ch], rEl Ae ce I.ends, rFl Af cf I.free, rUl Ah ch I.has, mapA r .u64 (ps.map entM) ck, bag (ps.flatMap payRows), box b4 66 [.int .i64 0, .slice none 0 0, .slice none 0 0, .slice none 0 0], rIl Ace cce E, rUl Aca cca A, box b5 66 [.int .i64 0, .slice Ace E.length cce, .slice Asd ((sidesL Lg).length) csd, .slice Aca A.length cca], rF Acf I.free.length ccf Fq, rIl Asd csd (sidesL Lg)] := S
           refine then_n ?_
           refine c_f F rfl ?_
           refine wp_seq ?_
           by_cases ht24 : (xg.1 : Int) < (av : Int)
           ·
            skip
            refine region_gx (fun D => fun (_ : Unit) => [rest w G, box b 61 [.slice Ae I.ends.length ce, .slice Af I.free.length cf, .map (some r), .slice Ah I.has.length ch], rEl Ae ce I.ends, rFl Af cf I.free, rUl Ah ch I.has, mapA r .u64 (ps.map entM) ck, bag (ps.flatMap payRows), box b4 66 [.int .i64 0, .slice none 0 0, .slice none 0 0, .slice none 0 0], rIl Ace cce E, rUl Aca cca A, box b5 66 [.int .i64 0, .slice Ace E.length cce, .slice Asd ((sidesL Lg).length) csd, .slice Aca A.length cca], rF Acf I.free.length ccf Fq, rIl Asd csd (sidesL Lg)]) (fun (_ : Unit) => [.slice As A.length cs, .int .i64 (k : Nat), ptrA As (k * 1), .int .u64 av, .slice Acf I.free.length ccf, .int .i64 (nn : Nat), .int .i64 0, ptrA Acf (nn * 2), ptrA Acf (nn * 2), .int .u64 xg.1, .bool true, .bool true]) [(2, [], [3, 10]), (3, [2], [10]), (7, [], [8, 9, 10]), (8, [7], [9, 10]), (9, [7, 8], [10]), (10, [2, 3, 7, 8, 9], [])] () rfl (by kernel_rfl) (by kernel_rfl) F S.drew ?_ ?_ ?_ ?_ ?_
            · rintro ⟨⟩; rfl
            · rintro ⟨⟩; kernel_rfl
            ·
             intro D D' x h
             cases x
             rfl
            ·
             refine ⟨?_, ?_⟩
             ·
              refine ⟨_, rfl, rfl, by kernel_rfl, ?_⟩
              rintro D ⟨⟩ a z S F
              refine ⟨by kernel_rfl, ?_⟩
              exact op_index _ 23 _ _ As A.length cs k 1 .i64 F rfl (by kernel_rfl) (by kernel_rfl) (by kernel_rfl) (by kernel_rfl) (get_lt hak) (recs_some hA0 (m := k) (get_lt hak)) (⟨(), rfl, (SameB.refl _ _ rfl), S⟩)
             refine ⟨?_, ?_⟩
             ·
              refine ⟨_, rfl, rfl, by kernel_rfl, ?_⟩
              rintro D ⟨⟩ a z S F
              refine ⟨by kernel_rfl, ?_⟩
              exact op_load _ _ As (k * 1) (.int .u64 av) F rfl (by kernel_rfl) (by kernel_rfl) (cOldG S 0 iC_len_u64 hA0 gA rfl 0 hak rfl) (⟨(), rfl, (SameB.refl _ _ rfl), S⟩)
             refine ⟨?_, ?_⟩
             ·
              refine ⟨_, rfl, rfl, by kernel_rfl, ?_⟩
              rintro D ⟨⟩ a z S F
              refine ⟨by kernel_rfl, ?_⟩
              exact op_index _ 31 _ _ Acf I.free.length ccf nn 2 .i64 F rfl (by kernel_rfl) (by kernel_rfl) (by kernel_rfl) (by kernel_rfl) (by have h9 := get_lt hxg; (try simp only [List.length_set] at h9); omega) (row_some S 11 rfl (m := nn) (by have h9 := get_lt hxg; (try simp only [List.length_set] at h9); omega)) (⟨(), rfl, (SameB.refl _ _ rfl), S⟩)
             refine ⟨?_, ?_⟩
             ·
              refine ⟨_, rfl, rfl, by kernel_rfl, ?_⟩
              rintro D ⟨⟩ a z S F
              refine ⟨by kernel_rfl, ?_⟩
              exact op_indexArr _ 23 _ _ Acf (nn * 2) 2 0 1 .i64 F rfl (by kernel_rfl) (by kernel_rfl) (by kernel_rfl) (by kernel_rfl) (by decide) (row_some S 11 rfl (m := nn) (by have h9 := get_lt hxg; (try simp only [List.length_set] at h9); omega)) (⟨(), rfl, (SameB.refl _ _ rfl), S⟩)
             refine ⟨?_, ?_⟩
             ·
              refine ⟨_, rfl, rfl, by kernel_rfl, ?_⟩
              rintro D ⟨⟩ a z S F
              refine ⟨by kernel_rfl, ?_⟩
              exact op_load _ _ Acf (nn * 2) (.int .u64 xg.1) F rfl (by kernel_rfl) (by kernel_rfl) (cRec S 11 frC_len rfl 0 hxg rfl) (⟨(), rfl, (SameB.refl _ _ rfl), S⟩)
             refine ⟨?_, ?_⟩
             ·
              refine ⟨_, rfl, rfl, by kernel_rfl, ?_⟩
              rintro D ⟨⟩ a z S F
              refine ⟨by kernel_rfl, ?_⟩
              exact op_pure F (v0 := .bool (decide ((av : Int) > (xg.1 : Int)))) (v := .bool true) (by kernel_rfl) (gtrT ht24) ⟨(), rfl, (SameB.refl _ _ rfl), S⟩
             trivial
            ·
             rintro ⟨⟩ a z F S
             have F := F.sub (l := [(0, .pointer (some ⟨b, 0, none⟩)), (1, .int .u64 cid), (2, .int .i64 (pa : Nat)), (4, .slice As A.length cs), (13, .pointer (some ⟨b5, 0, none⟩)), (14, .slice Acf I.free.length ccf), (15, .int .i64 (k : Nat)), (16, .int .i64 (nn : Nat)), (17, .int .i64 0), (58, .slice Ar E.length cr), (59, .int .i64 (E.length : Nat)), (60, .int .i64 (k : Nat)), (98, .bool true)]) ⟨by kernel_rfl, by kernel_rfl, by kernel_rfl, by kernel_rfl, by kernel_rfl, by kernel_rfl, by kernel_rfl, by kernel_rfl, by kernel_rfl, by kernel_rfl, by kernel_rfl, by kernel_rfl, by kernel_rfl, trivial⟩
             have S : Sat w z [rest w G, box b 61 [.slice Ae I.ends.length ce, .slice Af I.free.length cf, .map (some r), .slice Ah I.has.length ch], rEl Ae ce I.ends, rFl Af cf I.free, rUl Ah ch I.has, mapA r .u64 (ps.map entM) ck, bag (ps.flatMap payRows), box b4 66 [.int .i64 0, .slice none 0 0, .slice none 0 0, .slice none 0 0], rIl Ace cce E, rUl Aca cca A, box b5 66 [.int .i64 0, .slice Ace E.length cce, .slice Asd ((sidesL Lg).length) csd, .slice Aca A.length cca], rF Acf I.free.length ccf Fq, rIl Asd csd (sidesL Lg)] := S
             refine then_n ?_
             refine c_t F rfl ?_
             refine s_reg ?_
             refine l_pure 1 (fun L => (10, .int .i64 28) :: L) F (by kernel_rfl) fun a F => ?_
             refine l_then ?_
             refine wp_ret ?_
             refine inb_r (then_r (inb_r (then_r (then_r (inb_r (then_r (?_)))))))
             exact fin F [.tmp 10] [.int .i64 28] rfl ⟨by kernel_rfl, trivial⟩ (.int .i64 28) rfl ⟨by rw [beg_err (by omega) hf (r := (28, Fq, Lg ++ [])) (by rw [hbf, beg_room (s := 0) hak hek hsd (fun h9 => h9.elim ht20 (pv_no (.inl (by omega)))) hxg (show frN xg 0 < av from ht24)]; rfl) (show (28 : Int) ≠ 0 from by decide)], by rw [beg_err (by omega) hf (r := (28, Fq, Lg ++ [])) (by rw [hbf, beg_room (s := 0) hak hek hsd (fun h9 => h9.elim ht20 (pv_no (.inl (by omega)))) hxg (show frN xg 0 < av from ht24)]; rfl) (show (28 : Int) ≠ 0 from by decide)]; exact (id_shut hps (by simp) (by simp) (by simp) (S.pick [0, 1, 2, 3, 4, 5, 6] (by decide)))⟩
           ·
            skip
            refine region_gx (fun D => fun (_ : Unit) => [rest w G, box b 61 [.slice Ae I.ends.length ce, .slice Af I.free.length cf, .map (some r), .slice Ah I.has.length ch], rEl Ae ce I.ends, rFl Af cf I.free, rUl Ah ch I.has, mapA r .u64 (ps.map entM) ck, bag (ps.flatMap payRows), box b4 66 [.int .i64 0, .slice none 0 0, .slice none 0 0, .slice none 0 0], rIl Ace cce E, rUl Aca cca A, box b5 66 [.int .i64 0, .slice Ace E.length cce, .slice Asd ((sidesL Lg).length) csd, .slice Aca A.length cca], rF Acf I.free.length ccf Fq, rIl Asd csd (sidesL Lg)]) (fun (_ : Unit) => [.slice As A.length cs, .int .i64 (k : Nat), ptrA As (k * 1), .int .u64 av, .slice Acf I.free.length ccf, .int .i64 (nn : Nat), .int .i64 0, ptrA Acf (nn * 2), ptrA Acf (nn * 2), .int .u64 xg.1, .bool false, .bool false]) [(2, [], [3, 10]), (3, [2], [10]), (7, [], [8, 9, 10]), (8, [7], [9, 10]), (9, [7, 8], [10]), (10, [2, 3, 7, 8, 9], [])] () rfl (by kernel_rfl) (by kernel_rfl) F S.drew ?_ ?_ ?_ ?_ ?_
            · rintro ⟨⟩; rfl
            · rintro ⟨⟩; kernel_rfl
            ·
             intro D D' x h
             cases x
             rfl
            ·
             refine ⟨?_, ?_⟩
             ·
              refine ⟨_, rfl, rfl, by kernel_rfl, ?_⟩
              rintro D ⟨⟩ a z S F
              refine ⟨by kernel_rfl, ?_⟩
              exact op_index _ 23 _ _ As A.length cs k 1 .i64 F rfl (by kernel_rfl) (by kernel_rfl) (by kernel_rfl) (by kernel_rfl) (get_lt hak) (recs_some hA0 (m := k) (get_lt hak)) (⟨(), rfl, (SameB.refl _ _ rfl), S⟩)
             refine ⟨?_, ?_⟩
             ·
              refine ⟨_, rfl, rfl, by kernel_rfl, ?_⟩
              rintro D ⟨⟩ a z S F
              refine ⟨by kernel_rfl, ?_⟩
              exact op_load _ _ As (k * 1) (.int .u64 av) F rfl (by kernel_rfl) (by kernel_rfl) (cOldG S 0 iC_len_u64 hA0 gA rfl 0 hak rfl) (⟨(), rfl, (SameB.refl _ _ rfl), S⟩)
             refine ⟨?_, ?_⟩
             ·
              refine ⟨_, rfl, rfl, by kernel_rfl, ?_⟩
              rintro D ⟨⟩ a z S F
              refine ⟨by kernel_rfl, ?_⟩
              exact op_index _ 31 _ _ Acf I.free.length ccf nn 2 .i64 F rfl (by kernel_rfl) (by kernel_rfl) (by kernel_rfl) (by kernel_rfl) (by have h9 := get_lt hxg; (try simp only [List.length_set] at h9); omega) (row_some S 11 rfl (m := nn) (by have h9 := get_lt hxg; (try simp only [List.length_set] at h9); omega)) (⟨(), rfl, (SameB.refl _ _ rfl), S⟩)
             refine ⟨?_, ?_⟩
             ·
              refine ⟨_, rfl, rfl, by kernel_rfl, ?_⟩
              rintro D ⟨⟩ a z S F
              refine ⟨by kernel_rfl, ?_⟩
              exact op_indexArr _ 23 _ _ Acf (nn * 2) 2 0 1 .i64 F rfl (by kernel_rfl) (by kernel_rfl) (by kernel_rfl) (by kernel_rfl) (by decide) (row_some S 11 rfl (m := nn) (by have h9 := get_lt hxg; (try simp only [List.length_set] at h9); omega)) (⟨(), rfl, (SameB.refl _ _ rfl), S⟩)
             refine ⟨?_, ?_⟩
             ·
              refine ⟨_, rfl, rfl, by kernel_rfl, ?_⟩
              rintro D ⟨⟩ a z S F
              refine ⟨by kernel_rfl, ?_⟩
              exact op_load _ _ Acf (nn * 2) (.int .u64 xg.1) F rfl (by kernel_rfl) (by kernel_rfl) (cRec S 11 frC_len rfl 0 hxg rfl) (⟨(), rfl, (SameB.refl _ _ rfl), S⟩)
             refine ⟨?_, ?_⟩
             ·
              refine ⟨_, rfl, rfl, by kernel_rfl, ?_⟩
              rintro D ⟨⟩ a z S F
              refine ⟨by kernel_rfl, ?_⟩
              exact op_pure F (v0 := .bool (decide ((av : Int) > (xg.1 : Int)))) (v := .bool false) (by kernel_rfl) (gtrF ht24) ⟨(), rfl, (SameB.refl _ _ rfl), S⟩
             trivial
            ·
             rintro ⟨⟩ a z F S
             have F := F.sub (l := [(0, .pointer (some ⟨b, 0, none⟩)), (1, .int .u64 cid), (2, .int .i64 (pa : Nat)), (4, .slice As A.length cs), (13, .pointer (some ⟨b5, 0, none⟩)), (14, .slice Acf I.free.length ccf), (15, .int .i64 (k : Nat)), (16, .int .i64 (nn : Nat)), (17, .int .i64 0), (58, .slice Ar E.length cr), (59, .int .i64 (E.length : Nat)), (60, .int .i64 (k : Nat)), (98, .bool false)]) ⟨by kernel_rfl, by kernel_rfl, by kernel_rfl, by kernel_rfl, by kernel_rfl, by kernel_rfl, by kernel_rfl, by kernel_rfl, by kernel_rfl, by kernel_rfl, by kernel_rfl, by kernel_rfl, by kernel_rfl, trivial⟩
             have S : Sat w z [rest w G, box b 61 [.slice Ae I.ends.length ce, .slice Af I.free.length cf, .map (some r), .slice Ah I.has.length ch], rEl Ae ce I.ends, rFl Af cf I.free, rUl Ah ch I.has, mapA r .u64 (ps.map entM) ck, bag (ps.flatMap payRows), box b4 66 [.int .i64 0, .slice none 0 0, .slice none 0 0, .slice none 0 0], rIl Ace cce E, rUl Aca cca A, box b5 66 [.int .i64 0, .slice Ace E.length cce, .slice Asd ((sidesL Lg).length) csd, .slice Aca A.length cca], rF Acf I.free.length ccf Fq, rIl Asd csd (sidesL Lg)] := S
             refine then_n ?_
             refine c_f F rfl ?_
             refine wp_skip ?_
             refine inb_n ?_
             refine then_n ?_
             exact hcut20 _ _ ⟨(fun h9 => h9.elim ht20 (pv_no (.inl (by omega)))), ht24, F.sub ⟨by kernel_rfl, by kernel_rfl, by kernel_rfl, by kernel_rfl, by kernel_rfl, by kernel_rfl, by kernel_rfl, by kernel_rfl, by kernel_rfl, by kernel_rfl, by kernel_rfl, by kernel_rfl, trivial⟩, S⟩
      ·
       skip
       obtain ⟨hpl, hql, hpq9⟩ := ok.en _ (List.mem_of_getElem? he)
       dsimp only at hpl hql hpq9
       have hnn := (List.getElem?_eq_some_iff.1 he).1
       obtain ⟨xg, hxg⟩ : ∃ xg, Fq[nn]? = some xg := ⟨_, List.getElem?_eq_getElem (by omega)⟩
       have hxn := hFn _ (List.mem_of_getElem? hxg)
       have hxs := sumF_one hFn hxg
       obtain ⟨G9, g9, hin9, hlt9, k9⟩ := S.frameB [1, 2] (by decide) rfl
       refine l_do F rfl rfl (op_fn F (by kernel_rfl) (side24_at hsd _ G9 b Ae ce Af I.free.length cf r Ah I.has.length ch g9) ?_)
       rintro e z9 ⟨rfl, g⟩
       have S : Sat w z9 [rest w G, box b 61 [.slice Ae I.ends.length ce, .slice Af I.free.length cf, .map (some r), .slice Ah I.has.length ch], rEl Ae ce I.ends, rFl Af cf I.free, rUl Ah ch I.has, mapA r .u64 (ps.map entM) ck, bag (ps.flatMap payRows), box b4 66 [.int .i64 0, .slice none 0 0, .slice none 0 0, .slice none 0 0], rIl Ace cce E, rUl Aca cca A, box b5 66 [.int .i64 0, .slice Ace E.length cce, .slice Asd ((sidesL Lg).length) csd, .slice Aca A.length cca], rF Acf I.free.length ccf Fq, rIl Asd csd (sidesL Lg)] := k9 z9 [box b 61 [.slice Ae I.ends.length ce, .slice Af I.free.length cf, .map (some r), .slice Ah I.has.length ch], rEl Ae ce I.ends] rfl g
       clear g g9 k9 hin9 hlt9
       refine ⟨_, rfl, ?_⟩
       intro a F
       refine l_pure 5 (fun L => (18, .int .i64 0) :: (17, .int .i64 1) :: (71, .int .i64 0) :: (70, .int .i64 1) :: (65, .tuple #[.int .i64 1, .int .i64 0]) :: L) F (by kernel_rfl) fun a F => ?_
       refine l_then ?_
       refine cutK 1 (fun a z => (¬ (av = 0 ∨ ∃ p, pvOf A k = some p ∧ p < av)) ∧ (¬ xg.2 < av) ∧ Fr a 152 [(0, .pointer (some ⟨b, 0, none⟩)), (1, .int .u64 cid), (2, .int .i64 (qa : Nat)), (4, .slice As A.length cs), (13, .pointer (some ⟨b5, 0, none⟩)), (14, .slice Acf I.free.length ccf), (15, .int .i64 (k : Nat)), (16, .int .i64 (nn : Nat)), (17, .int .i64 1), (58, .slice Ar E.length cr), (59, .int .i64 (E.length : Nat)), (60, .int .i64 (k : Nat))] ∧ Sat w z [rest w G, box b 61 [.slice Ae I.ends.length ce, .slice Af I.free.length cf, .map (some r), .slice Ah I.has.length ch], rEl Ae ce I.ends, rFl Af cf I.free, rUl Ah ch I.has, mapA r .u64 (ps.map entM) ck, bag (ps.flatMap payRows), box b4 66 [.int .i64 0, .slice none 0 0, .slice none 0 0, .slice none 0 0], rIl Ace cce E, rUl Aca cca A, box b5 66 [.int .i64 0, .slice Ace E.length cce, .slice Asd ((sidesL Lg).length) csd, .slice Aca A.length cca], rF Acf I.free.length ccf Fq, rIl Asd csd (sidesL Lg)]) ?_ ?_
       ·
        rintro a z ⟨hf25, hf26, F, S⟩
        dsimp only [tailAt]
        have hpvn := hf25
        have hroom := hf26
        refine wp_seq ?_
        refine region_gx (fun D => fun (_ : Unit) => [rest w G, box b 61 [.slice Ae I.ends.length ce, .slice Af I.free.length cf, .map (some r), .slice Ah I.has.length ch], rEl Ae ce I.ends, rFl Af cf I.free, rUl Ah ch I.has, mapA r .u64 (ps.map entM) ck, bag (ps.flatMap payRows), box b4 66 [.int .i64 0, .slice none 0 0, .slice none 0 0, .slice none 0 0], rIl Ace cce E, rUl Aca cca A, box b5 66 [.int .i64 0, .slice Ace E.length cce, .slice Asd ((sidesL Lg).length) csd, .slice Aca A.length cca], bif D 13 then rF Acf I.free.length ccf (Fq.set nn ((xg.1, xg.2 - av) : Int × Int)) else rF Acf I.free.length ccf Fq, rIl Asd csd (sidesL Lg)]) (fun (_ : Unit) => [.slice Acf I.free.length ccf, .int .i64 (nn : Nat), .int .i64 1, ptrA Acf (nn * 2), ptrA Acf (nn * 2 + 1), .int .u64 xg.2, .slice As A.length cs, .int .i64 (k : Nat), ptrA As (k * 1), .int .u64 av, .int .u64 (xg.2 - av), ptrA Acf (nn * 2), ptrA Acf (nn * 2 + 1), undef]) [(3, [], [4, 5, 10, 12, 13]), (4, [3], [5, 10, 12, 13]), (5, [3, 4], [10, 12, 13]), (8, [], [9, 10, 12, 13]), (9, [8], [10, 12, 13]), (10, [3, 4, 5, 8, 9], [12, 13]), (11, [], [12, 13]), (12, [3, 4, 5, 8, 9, 10, 11], [13]), (13, [3, 4, 5, 8, 9, 10, 11, 12], [])] () rfl (by kernel_rfl) (by kernel_rfl) F S.drew ?_ ?_ ?_ ?_ ?_
        · rintro ⟨⟩; rfl
        · rintro ⟨⟩; kernel_rfl
        ·
         intro D D' x h
         cases x
         simp only [h 13 (by decide)]
        ·
         refine ⟨?_, ?_⟩
         ·
          refine ⟨_, rfl, rfl, by kernel_rfl, ?_⟩
          rintro D ⟨⟩ a z S F
          refine ⟨by kernel_rfl, ?_⟩
          exact op_index _ 31 _ _ Acf I.free.length ccf nn 2 .i64 F rfl (by kernel_rfl) (by kernel_rfl) (by kernel_rfl) (by kernel_rfl) (by have h9 := get_lt hxg; (try simp only [List.length_set] at h9); omega) (row_some S 11 rfl (m := nn) (by have h9 := get_lt hxg; (try simp only [List.length_set] at h9); omega)) (⟨(), rfl, (SameB.refl _ _ rfl), S⟩)
         refine ⟨?_, ?_⟩
         ·
          refine ⟨_, rfl, rfl, by kernel_rfl, ?_⟩
          rintro D ⟨⟩ a z S F
          refine ⟨by kernel_rfl, ?_⟩
          exact op_indexArr _ 23 _ _ Acf (nn * 2) 2 1 1 .i64 F rfl (by kernel_rfl) (by kernel_rfl) (by kernel_rfl) (by kernel_rfl) (by decide) (row_some S 11 rfl (m := nn) (by have h9 := get_lt hxg; (try simp only [List.length_set] at h9); omega)) (⟨(), rfl, (SameB.refl _ _ rfl), S⟩)
         refine ⟨?_, ?_⟩
         ·
          refine ⟨_, rfl, rfl, by kernel_rfl, ?_⟩
          rintro D ⟨⟩ a z S F
          refine ⟨by kernel_rfl, ?_⟩
          exact op_load _ _ Acf (nn * 2 + 1) (.int .u64 xg.2) F rfl (by kernel_rfl) (by kernel_rfl) (cRec S 11 frC_len rfl 1 hxg rfl) (⟨(), rfl, (SameB.refl _ _ rfl), S⟩)
         refine ⟨?_, ?_⟩
         ·
          refine ⟨_, rfl, rfl, by kernel_rfl, ?_⟩
          rintro D ⟨⟩ a z S F
          refine ⟨by kernel_rfl, ?_⟩
          exact op_index _ 23 _ _ As A.length cs k 1 .i64 F rfl (by kernel_rfl) (by kernel_rfl) (by kernel_rfl) (by kernel_rfl) (get_lt hak) (recs_some hA0 (m := k) (get_lt hak)) (⟨(), rfl, (SameB.refl _ _ rfl), S⟩)
         refine ⟨?_, ?_⟩
         ·
          refine ⟨_, rfl, rfl, by kernel_rfl, ?_⟩
          rintro D ⟨⟩ a z S F
          refine ⟨by kernel_rfl, ?_⟩
          exact op_load _ _ As (k * 1) (.int .u64 av) F rfl (by kernel_rfl) (by kernel_rfl) (cOldG S 0 iC_len_u64 hA0 gA rfl 0 hak rfl) (⟨(), rfl, (SameB.refl _ _ rfl), S⟩)
         refine ⟨?_, ?_⟩
         ·
          refine ⟨_, rfl, rfl, by kernel_rfl, ?_⟩
          rintro D ⟨⟩ a z S F
          refine ⟨by kernel_rfl, ?_⟩
          exact op_pure F (v0 := .int .u64 (IntKind.wrap .u64 (xg.2 - av))) (v := .int .u64 (xg.2 - av)) (by kernel_rfl) (wr_u64 (by omega) (by omega)) ⟨(), rfl, (SameB.refl _ _ rfl), S⟩
         refine ⟨?_, ?_⟩
         ·
          refine ⟨_, rfl, rfl, by kernel_rfl, ?_⟩
          rintro D ⟨⟩ a z S F
          refine ⟨by kernel_rfl, ?_⟩
          exact op_index _ 31 _ _ Acf I.free.length ccf nn 2 .i64 F rfl (by kernel_rfl) (by kernel_rfl) (by kernel_rfl) (by kernel_rfl) (by have h9 := get_lt hxg; (try simp only [List.length_set] at h9); omega) (row_some S 11 rfl (m := nn) (by have h9 := get_lt hxg; (try simp only [List.length_set] at h9); omega)) (⟨(), rfl, (SameB.refl _ _ rfl), S⟩)
         refine ⟨?_, ?_⟩
         ·
          refine ⟨_, rfl, rfl, by kernel_rfl, ?_⟩
          rintro D ⟨⟩ a z S F
          refine ⟨by kernel_rfl, ?_⟩
          exact op_indexArr _ 23 _ _ Acf (nn * 2) 2 1 1 .i64 F rfl (by kernel_rfl) (by kernel_rfl) (by kernel_rfl) (by kernel_rfl) (by decide) (row_some S 11 rfl (m := nn) (by have h9 := get_lt hxg; (try simp only [List.length_set] at h9); omega)) (⟨(), rfl, (SameB.refl _ _ rfl), S⟩)
         refine ⟨?_, ?_⟩
         ·
          refine ⟨_, rfl, rfl, by kernel_rfl, ?_⟩
          rintro D ⟨⟩ a z S F
          refine ⟨by kernel_rfl, ?_⟩
          exact op_storeRec S 11 _ _ _ Acf nn 2 1 (.int .u64 (xg.2 - av)) ((xg.1, xg.2 - av) : Int × Int) F frC_len hxg rfl rfl (by kernel_rfl) (by kernel_rfl) (by kernel_rfl) (by kernel_rfl) (by kernel_rfl) (by kernel_rfl) (by kernel_rfl) fun z S => ⟨(), rfl, (SameB.refl _ _ rfl), S⟩
         trivial
        ·
         rintro ⟨⟩ a z F S
         have F := F.sub (l := [(0, .pointer (some ⟨b, 0, none⟩)), (1, .int .u64 cid), (2, .int .i64 (qa : Nat)), (4, .slice As A.length cs), (13, .pointer (some ⟨b5, 0, none⟩)), (14, .slice Acf I.free.length ccf), (16, .int .i64 (nn : Nat)), (17, .int .i64 1), (58, .slice Ar E.length cr), (59, .int .i64 (E.length : Nat)), (60, .int .i64 (k : Nat))]) ⟨by kernel_rfl, by kernel_rfl, by kernel_rfl, by kernel_rfl, by kernel_rfl, by kernel_rfl, by kernel_rfl, by kernel_rfl, by kernel_rfl, by kernel_rfl, by kernel_rfl, trivial⟩
         have S : Sat w z [rest w G, box b 61 [.slice Ae I.ends.length ce, .slice Af I.free.length cf, .map (some r), .slice Ah I.has.length ch], rEl Ae ce I.ends, rFl Af cf I.free, rUl Ah ch I.has, mapA r .u64 (ps.map entM) ck, bag (ps.flatMap payRows), box b4 66 [.int .i64 0, .slice none 0 0, .slice none 0 0, .slice none 0 0], rIl Ace cce E, rUl Aca cca A, box b5 66 [.int .i64 0, .slice Ace E.length cce, .slice Asd ((sidesL Lg).length) csd, .slice Aca A.length cca], rF Acf I.free.length ccf (Fq.set nn ((xg.1, xg.2 - av) : Int × Int)), rIl Asd csd (sidesL Lg)] := S
         refine then_n ?_
         refine s_reg ?_
         refine l_pure 1 (fun L => (123, .pointer (some ⟨b5, 2, none⟩)) :: L) F (by kernel_rfl) fun a F => ?_
         refine l_do F rfl rfl (op_load _ _ (some ⟨b5, 0, none⟩) 2 (.slice Asd ((sidesL Lg).length) csd) F rfl (by kernel_rfl) (by kernel_rfl) (cBox S 10 rfl (j := 2) rfl) (fun a F => ?_))
         refine l_pure 1 (fun L => (125, .int .i64 1) :: L) F (by kernel_rfl) fun a F => ?_
         refine l_do F rfl rfl (op_buildSlice S _ 1 _ 3 1 iC_i64 ([1] : List Int) F rfl (by kernel_rfl) (by kernel_rfl) (by kernel_rfl) (by unfold maxLen; omega) fun b27 z S a F => ?_)
         refine l_do F rfl rfl (op_append S 12 _ _ _ 3 (.int .i64 0) 1 8 (sidesL Lg) ([1] : List Int) iC_i64 (some ⟨b27, 0, none⟩) 1 F iC_len_i64 (fun _ => rfl) rfl rfl (by kernel_rfl) (by kernel_rfl) rfl rfl rfl (by kernel_rfl) (by kernel_rfl) (row_none (S.rowOf (i := 13) rfl)) (src_row (S.rowOf (i := 13) rfl)) (by first | omega | (simp <;> omega)) fun A28 c29 z S a F => ?_)
         refine l_pure 1 (fun L => (128, .pointer (some ⟨b5, 2, none⟩)) :: L) F (by kernel_rfl) fun a F => ?_
         refine l_do F rfl rfl (op_storeB S 10 _ _ _ b5 2 (.slice A28 (((sidesL Lg) ++ ([1] : List Int)).length) c29) F rfl rfl (by kernel_rfl) (by kernel_rfl) (by kernel_rfl) (by kernel_rfl) (by kernel_rfl) fun z S a F => ?_)
         refine l_then ?_
         refine wp_region_list ?_
         refine l_pure 3 (fun L => (131, .pointer (some ⟨b, 0, none⟩)) :: (130, .pointer (some ⟨b, 0, none⟩)) :: (129, .pointer (some ⟨b, 0, none⟩)) :: L) F (by kernel_rfl) fun a F => ?_
         refine l_do F rfl rfl (op_load _ _ (some ⟨b, 0, none⟩) 0 (.slice Ae I.ends.length ce) F rfl (by kernel_rfl) (by kernel_rfl) (cBox S 1 rfl (j := 0) rfl) (fun a F => ?_))
         refine l_pure 3 (fun L => (135, .int .i64 0) :: (134, .int .i64 1) :: (133, .int .i64 (nn : Nat)) :: L) F (by kernel_rfl) fun a F => ?_
         refine l_do F rfl rfl (op_index _ 63 _ _ Ae I.ends.length ce nn 2 .i64 F rfl (by kernel_rfl) (by kernel_rfl) (by kernel_rfl) (by kernel_rfl) (get_lt he) (row_some S 2 rfl (m := nn) (get_lt he)) (fun a F => ?_))
         refine l_do F rfl rfl (op_indexArr _ 3 _ _ Ae (nn * 2) 2 0 1 .i64 F rfl (by kernel_rfl) (by kernel_rfl) (by kernel_rfl) (by kernel_rfl) (by decide) (row_some S 2 rfl (m := nn) (get_lt he)) (fun a F => ?_))
         refine l_do F rfl rfl (op_load _ _ Ae (nn * 2) (.int .i64 (pa : Nat)) F rfl (by kernel_rfl) (by kernel_rfl) (cRec S 2 enC_len rfl 0 he rfl) (fun a F => ?_))
         refine l_pure 1 (fun L => (2, .int .i64 (pa : Nat)) :: L) F (by kernel_rfl) fun a F => ?_
         refine l_nil (inb_n ?_)
         refine then_n ?_
         refine wp_region_list ?_
         refine l_do F rfl rfl (op_pure F (v0 := .int .i64 (IntKind.wrap .i64 ((k : Nat) + 1))) (v := .int .i64 (k + 1 : Nat)) (by kernel_rfl) (wrn_i64 (by omega) (by omega) (by omega)) fun a F => ?_)
         refine l_pure 1 (fun L => (60, .int .i64 (k + 1 : Nat)) :: L) F (by kernel_rfl) fun a F => ?_
         refine l_then ?_
         have hsn : ((sidesL Lg) ++ ([1] : List Int)) = sidesL (Lg ++ [(⟨nn, 1, av⟩ : Leg)]) := by rw [sidesL_snoc]; rfl
         rw [hsn] at F S
         exact ⟨_, (by omega), k + 1, (Fq.set nn ((xg.1, xg.2 - av) : Int × Int)), (Lg ++ [(⟨nn, 1, av⟩ : Leg)]), (pa : Nat), A28, c29, rfl, (by omega), (by rw [edgesL_snoc, hE, List.take_add_one, hek]; rfl), (by rw [amsL_snoc, hA, List.take_add_one, hak]; rfl), (by rw [List.length_set]; exact hFl), (set_free_nn hFn (by omega) (by omega)), (by rw [hbf, beg_go (s := 1) hak hek hsd hpvn hxg (show ¬ frN xg 1 < av from hroom) he]; rfl), (by simp; omega), (by rw [sumF_set hxg]; (try dsimp only); omega), F.sub ⟨by kernel_rfl, by kernel_rfl, by kernel_rfl, by kernel_rfl, by kernel_rfl, by kernel_rfl, by kernel_rfl, by kernel_rfl, by kernel_rfl, trivial⟩, (S.pick [0, 1, 2, 3, 4, 5, 6, 7, 8, 9, 10, 11, 12] (by decide))⟩
       ·
        intro hcut20
        dsimp only [tailAt] at hcut20
        refine wp_seq ?_
        refine wp_block ?_
        refine s_reg ?_
        refine l_pure 3 (fun L => (72, .bool false) :: (74, .bool false) :: (73, .int .i64 0) :: L) F (by kernel_rfl) fun a F => ?_
        refine l_then ?_
        refine c_f F rfl ?_
        refine wp_seq ?_
        by_cases ht30 : (av : Int) = (0 : Int)
        ·
         skip
         refine region_gx (fun D => fun (_ : Unit) => [rest w G, box b 61 [.slice Ae I.ends.length ce, .slice Af I.free.length cf, .map (some r), .slice Ah I.has.length ch], rEl Ae ce I.ends, rFl Af cf I.free, rUl Ah ch I.has, mapA r .u64 (ps.map entM) ck, bag (ps.flatMap payRows), box b4 66 [.int .i64 0, .slice none 0 0, .slice none 0 0, .slice none 0 0], rIl Ace cce E, rUl Aca cca A, box b5 66 [.int .i64 0, .slice Ace E.length cce, .slice Asd ((sidesL Lg).length) csd, .slice Aca A.length cca], rF Acf I.free.length ccf Fq, rIl Asd csd (sidesL Lg)]) (fun (_ : Unit) => [.slice As A.length cs, .int .i64 (k : Nat), ptrA As (k * 1), .int .u64 av, .bool true, .bool true, undef, undef, undef, undef, undef, undef, undef, undef, undef, undef, undef, undef, undef, undef, .bool true, .bool true]) [(2, [], [3, 4]), (3, [2], [4]), (4, [2, 3], [])] () rfl (by kernel_rfl) (by kernel_rfl) F S.drew ?_ ?_ ?_ ?_ ?_
         · rintro ⟨⟩; rfl
         · rintro ⟨⟩; kernel_rfl
         ·
          intro D D' x h
          cases x
          rfl
         ·
          refine ⟨?_, ?_⟩
          ·
           refine ⟨_, rfl, rfl, by kernel_rfl, ?_⟩
           rintro D ⟨⟩ a z S F
           refine ⟨by kernel_rfl, ?_⟩
           exact op_index _ 23 _ _ As A.length cs k 1 .i64 F rfl (by kernel_rfl) (by kernel_rfl) (by kernel_rfl) (by kernel_rfl) (get_lt hak) (recs_some hA0 (m := k) (get_lt hak)) (⟨(), rfl, (SameB.refl _ _ rfl), S⟩)
          refine ⟨?_, ?_⟩
          ·
           refine ⟨_, rfl, rfl, by kernel_rfl, ?_⟩
           rintro D ⟨⟩ a z S F
           refine ⟨by kernel_rfl, ?_⟩
           exact op_load _ _ As (k * 1) (.int .u64 av) F rfl (by kernel_rfl) (by kernel_rfl) (cOldG S 0 iC_len_u64 hA0 gA rfl 0 hak rfl) (⟨(), rfl, (SameB.refl _ _ rfl), S⟩)
          refine ⟨?_, ?_⟩
          ·
           refine ⟨_, rfl, rfl, by kernel_rfl, ?_⟩
           rintro D ⟨⟩ a z S F
           refine ⟨by kernel_rfl, ?_⟩
           exact op_pure F (v0 := .bool ((av : Int) == (0 : Int))) (v := .bool true) (by kernel_rfl) (eqlT ht30) ⟨(), rfl, (SameB.refl _ _ rfl), S⟩
          trivial
         ·
          rintro ⟨⟩ a z F S
          have F := F.sub (l := [(0, .pointer (some ⟨b, 0, none⟩)), (1, .int .u64 cid), (2, .int .i64 (qa : Nat)), (4, .slice As A.length cs), (13, .pointer (some ⟨b5, 0, none⟩)), (14, .slice Acf I.free.length ccf), (15, .int .i64 (k : Nat)), (16, .int .i64 (nn : Nat)), (17, .int .i64 1), (58, .slice Ar E.length cr), (59, .int .i64 (E.length : Nat)), (60, .int .i64 (k : Nat)), (76, .bool true)]) ⟨by kernel_rfl, by kernel_rfl, by kernel_rfl, by kernel_rfl, by kernel_rfl, by kernel_rfl, by kernel_rfl, by kernel_rfl, by kernel_rfl, by kernel_rfl, by kernel_rfl, by kernel_rfl, by kernel_rfl, trivial⟩
          have S : Sat w z [rest w G, box b 61 [.slice Ae I.ends.length ce, .slice Af I.free.length cf, .map (some r), .slice Ah I.has.length ch], rEl Ae ce I.ends, rFl Af cf I.free, rUl Ah ch I.has, mapA r .u64 (ps.map entM) ck, bag (ps.flatMap payRows), box b4 66 [.int .i64 0, .slice none 0 0, .slice none 0 0, .slice none 0 0], rIl Ace cce E, rUl Aca cca A, box b5 66 [.int .i64 0, .slice Ace E.length cce, .slice Asd ((sidesL Lg).length) csd, .slice Aca A.length cca], rF Acf I.free.length ccf Fq, rIl Asd csd (sidesL Lg)] := S
          refine then_n ?_
          refine c_t F rfl ?_
          refine s_reg ?_
          refine l_pure 1 (fun L => (10, .int .i64 1) :: L) F (by kernel_rfl) fun a F => ?_
          refine l_then ?_
          refine wp_ret ?_
          refine inb_r (then_r (inb_r (then_r (then_r (inb_r (then_r (?_)))))))
          exact fin F [.tmp 10] [.int .i64 1] rfl ⟨by kernel_rfl, trivial⟩ (.int .i64 1) rfl ⟨by rw [beg_err (by omega) hf (r := (1, Fq, Lg ++ [])) (by rw [hbf, beg_amt hek hak hsd (.inl ht30)]; rfl) (show (1 : Int) ≠ 0 from by decide)], by rw [beg_err (by omega) hf (r := (1, Fq, Lg ++ [])) (by rw [hbf, beg_amt hek hak hsd (.inl ht30)]; rfl) (show (1 : Int) ≠ 0 from by decide)]; exact (id_shut hps (by simp) (by simp) (by simp) (S.pick [0, 1, 2, 3, 4, 5, 6] (by decide)))⟩
        ·
         skip
         by_cases ht31 : (0 : Int) < ((k : Nat) : Int)
         ·
          skip
          obtain ⟨ap, hap⟩ : ∃ ap, A[k - 1]? = some ap := ⟨_, List.getElem?_eq_getElem (by omega)⟩
          by_cases ht32 : (ap : Int) < (av : Int)
          ·
           skip
           refine region_gx (fun D => fun (_ : Unit) => [rest w G, box b 61 [.slice Ae I.ends.length ce, .slice Af I.free.length cf, .map (some r), .slice Ah I.has.length ch], rEl Ae ce I.ends, rFl Af cf I.free, rUl Ah ch I.has, mapA r .u64 (ps.map entM) ck, bag (ps.flatMap payRows), box b4 66 [.int .i64 0, .slice none 0 0, .slice none 0 0, .slice none 0 0], rIl Ace cce E, rUl Aca cca A, box b5 66 [.int .i64 0, .slice Ace E.length cce, .slice Asd ((sidesL Lg).length) csd, .slice Aca A.length cca], rF Acf I.free.length ccf Fq, rIl Asd csd (sidesL Lg)]) (fun (_ : Unit) => [.slice As A.length cs, .int .i64 (k : Nat), ptrA As (k * 1), .int .u64 av, .bool false, .bool false, .int .i64 (k : Nat), .bool true, .bool true, .slice As A.length cs, .int .i64 (k : Nat), ptrA As (k * 1), .int .u64 av, .slice As A.length cs, .int .i64 (k : Nat), .int .i64 (k - 1 : Nat), ptrA As ((k - 1) * 1), .int .u64 ap, .bool true, .bool true, .bool true, .bool true]) [(2, [], [3, 4, 7, 11, 12, 15, 16, 17, 18]), (3, [2], [4, 7, 11, 12, 15, 16, 17, 18]), (4, [2, 3], [7, 11, 12, 15, 16, 17, 18]), (7, [2, 3, 4], [11, 12, 15, 16, 17, 18]), (11, [2, 3, 4, 7], [12, 18]), (12, [2, 3, 4, 7, 11], [18]), (15, [2, 3, 4, 7], [16, 17, 18]), (16, [2, 3, 4, 7, 15], [17, 18]), (17, [2, 3, 4, 7, 15, 16], [18]), (18, [2, 3, 4, 7, 11, 12, 15, 16, 17], [])] () rfl (by kernel_rfl) (by kernel_rfl) F S.drew ?_ ?_ ?_ ?_ ?_
           · rintro ⟨⟩; rfl
           · rintro ⟨⟩; kernel_rfl
           ·
            intro D D' x h
            cases x
            rfl
           ·
            refine ⟨?_, ?_⟩
            ·
             refine ⟨_, rfl, rfl, by kernel_rfl, ?_⟩
             rintro D ⟨⟩ a z S F
             refine ⟨by kernel_rfl, ?_⟩
             exact op_index _ 23 _ _ As A.length cs k 1 .i64 F rfl (by kernel_rfl) (by kernel_rfl) (by kernel_rfl) (by kernel_rfl) (get_lt hak) (recs_some hA0 (m := k) (get_lt hak)) (⟨(), rfl, (SameB.refl _ _ rfl), S⟩)
            refine ⟨?_, ?_⟩
            ·
             refine ⟨_, rfl, rfl, by kernel_rfl, ?_⟩
             rintro D ⟨⟩ a z S F
             refine ⟨by kernel_rfl, ?_⟩
             exact op_load _ _ As (k * 1) (.int .u64 av) F rfl (by kernel_rfl) (by kernel_rfl) (cOldG S 0 iC_len_u64 hA0 gA rfl 0 hak rfl) (⟨(), rfl, (SameB.refl _ _ rfl), S⟩)
            refine ⟨?_, ?_⟩
            ·
             refine ⟨_, rfl, rfl, by kernel_rfl, ?_⟩
             rintro D ⟨⟩ a z S F
             refine ⟨by kernel_rfl, ?_⟩
             exact op_pure F (v0 := .bool ((av : Int) == (0 : Int))) (v := .bool false) (by kernel_rfl) (eqlF ht30) ⟨(), rfl, (SameB.refl _ _ rfl), S⟩
            refine ⟨?_, ?_⟩
            ·
             refine ⟨_, rfl, rfl, by kernel_rfl, ?_⟩
             rintro D ⟨⟩ a z S F
             refine ⟨by kernel_rfl, ?_⟩
             exact op_pure F (v0 := .bool (decide (((k : Nat) : Int) > (0 : Int)))) (v := .bool true) (by kernel_rfl) (gtrT ht31) ⟨(), rfl, (SameB.refl _ _ rfl), S⟩
            refine ⟨?_, ?_⟩
            ·
             refine ⟨_, rfl, rfl, by kernel_rfl, ?_⟩
             rintro D ⟨⟩ a z S F
             refine ⟨by kernel_rfl, ?_⟩
             exact op_index _ 23 _ _ As A.length cs k 1 .i64 F rfl (by kernel_rfl) (by kernel_rfl) (by kernel_rfl) (by kernel_rfl) (get_lt hak) (recs_some hA0 (m := k) (get_lt hak)) (⟨(), rfl, (SameB.refl _ _ rfl), S⟩)
            refine ⟨?_, ?_⟩
            ·
             refine ⟨_, rfl, rfl, by kernel_rfl, ?_⟩
             rintro D ⟨⟩ a z S F
             refine ⟨by kernel_rfl, ?_⟩
             exact op_load _ _ As (k * 1) (.int .u64 av) F rfl (by kernel_rfl) (by kernel_rfl) (cOldG S 0 iC_len_u64 hA0 gA rfl 0 hak rfl) (⟨(), rfl, (SameB.refl _ _ rfl), S⟩)
            refine ⟨?_, ?_⟩
            ·
             refine ⟨_, rfl, rfl, by kernel_rfl, ?_⟩
             rintro D ⟨⟩ a z S F
             refine ⟨by kernel_rfl, ?_⟩
             exact op_pure F (v0 := .int .i64 (IntKind.wrap .i64 ((k : Nat) - 1))) (v := .int .i64 (k - 1 : Nat)) (by kernel_rfl) (wrn_i64 (by omega) (by omega) (by omega)) ⟨(), rfl, (SameB.refl _ _ rfl), S⟩
            refine ⟨?_, ?_⟩
            ·
             refine ⟨_, rfl, rfl, by kernel_rfl, ?_⟩
             rintro D ⟨⟩ a z S F
             refine ⟨by kernel_rfl, ?_⟩
             exact op_index _ 23 _ _ As A.length cs (k - 1) 1 .i64 F rfl (by kernel_rfl) (by kernel_rfl) (by kernel_rfl) (by kernel_rfl) (get_lt hap) (recs_some hA0 (m := k - 1) (get_lt hap)) (⟨(), rfl, (SameB.refl _ _ rfl), S⟩)
            refine ⟨?_, ?_⟩
            ·
             refine ⟨_, rfl, rfl, by kernel_rfl, ?_⟩
             rintro D ⟨⟩ a z S F
             refine ⟨by kernel_rfl, ?_⟩
             exact op_load _ _ As ((k - 1) * 1) (.int .u64 ap) F rfl (by kernel_rfl) (by kernel_rfl) (cOldG S 0 iC_len_u64 hA0 gA rfl 0 hap rfl) (⟨(), rfl, (SameB.refl _ _ rfl), S⟩)
            refine ⟨?_, ?_⟩
            ·
             refine ⟨_, rfl, rfl, by kernel_rfl, ?_⟩
             rintro D ⟨⟩ a z S F
             refine ⟨by kernel_rfl, ?_⟩
             exact op_pure F (v0 := .bool (decide ((av : Int) > (ap : Int)))) (v := .bool true) (by kernel_rfl) (gtrT ht32) ⟨(), rfl, (SameB.refl _ _ rfl), S⟩
            trivial
           ·
            rintro ⟨⟩ a z F S
            have F := F.sub (l := [(0, .pointer (some ⟨b, 0, none⟩)), (1, .int .u64 cid), (2, .int .i64 (qa : Nat)), (4, .slice As A.length cs), (13, .pointer (some ⟨b5, 0, none⟩)), (14, .slice Acf I.free.length ccf), (15, .int .i64 (k : Nat)), (16, .int .i64 (nn : Nat)), (17, .int .i64 1), (58, .slice Ar E.length cr), (59, .int .i64 (E.length : Nat)), (60, .int .i64 (k : Nat)), (76, .bool true)]) ⟨by kernel_rfl, by kernel_rfl, by kernel_rfl, by kernel_rfl, by kernel_rfl, by kernel_rfl, by kernel_rfl, by kernel_rfl, by kernel_rfl, by kernel_rfl, by kernel_rfl, by kernel_rfl, by kernel_rfl, trivial⟩
            have S : Sat w z [rest w G, box b 61 [.slice Ae I.ends.length ce, .slice Af I.free.length cf, .map (some r), .slice Ah I.has.length ch], rEl Ae ce I.ends, rFl Af cf I.free, rUl Ah ch I.has, mapA r .u64 (ps.map entM) ck, bag (ps.flatMap payRows), box b4 66 [.int .i64 0, .slice none 0 0, .slice none 0 0, .slice none 0 0], rIl Ace cce E, rUl Aca cca A, box b5 66 [.int .i64 0, .slice Ace E.length cce, .slice Asd ((sidesL Lg).length) csd, .slice Aca A.length cca], rF Acf I.free.length ccf Fq, rIl Asd csd (sidesL Lg)] := S
            refine then_n ?_
            refine c_t F rfl ?_
            refine s_reg ?_
            refine l_pure 1 (fun L => (10, .int .i64 1) :: L) F (by kernel_rfl) fun a F => ?_
            refine l_then ?_
            refine wp_ret ?_
            refine inb_r (then_r (inb_r (then_r (then_r (inb_r (then_r (?_)))))))
            exact fin F [.tmp 10] [.int .i64 1] rfl ⟨by kernel_rfl, trivial⟩ (.int .i64 1) rfl ⟨by rw [beg_err (by omega) hf (r := (1, Fq, Lg ++ [])) (by rw [hbf, beg_amt hek hak hsd (.inr (pv_yes (by omega) hap ht32))]; rfl) (show (1 : Int) ≠ 0 from by decide)], by rw [beg_err (by omega) hf (r := (1, Fq, Lg ++ [])) (by rw [hbf, beg_amt hek hak hsd (.inr (pv_yes (by omega) hap ht32))]; rfl) (show (1 : Int) ≠ 0 from by decide)]; exact (id_shut hps (by simp) (by simp) (by simp) (S.pick [0, 1, 2, 3, 4, 5, 6] (by decide)))⟩
          ·
           skip
           refine region_gx (fun D => fun (_ : Unit) => [rest w G, box b 61 [.slice Ae I.ends.length ce, .slice Af I.free.length cf, .map (some r), .slice Ah I.has.length ch], rEl Ae ce I.ends, rFl Af cf I.free, rUl Ah ch I.has, mapA r .u64 (ps.map entM) ck, bag (ps.flatMap payRows), box b4 66 [.int .i64 0, .slice none 0 0, .slice none 0 0, .slice none 0 0], rIl Ace cce E, rUl Aca cca A, box b5 66 [.int .i64 0, .slice Ace E.length cce, .slice Asd ((sidesL Lg).length) csd, .slice Aca A.length cca], rF Acf I.free.length ccf Fq, rIl Asd csd (sidesL Lg)]) (fun (_ : Unit) => [.slice As A.length cs, .int .i64 (k : Nat), ptrA As (k * 1), .int .u64 av, .bool false, .bool false, .int .i64 (k : Nat), .bool true, .bool true, .slice As A.length cs, .int .i64 (k : Nat), ptrA As (k * 1), .int .u64 av, .slice As A.length cs, .int .i64 (k : Nat), .int .i64 (k - 1 : Nat), ptrA As ((k - 1) * 1), .int .u64 ap, .bool false, .bool false, .bool false, .bool false]) [(2, [], [3, 4, 7, 11, 12, 15, 16, 17, 18]), (3, [2], [4, 7, 11, 12, 15, 16, 17, 18]), (4, [2, 3], [7, 11, 12, 15, 16, 17, 18]), (7, [2, 3, 4], [11, 12, 15, 16, 17, 18]), (11, [2, 3, 4, 7], [12, 18]), (12, [2, 3, 4, 7, 11], [18]), (15, [2, 3, 4, 7], [16, 17, 18]), (16, [2, 3, 4, 7, 15], [17, 18]), (17, [2, 3, 4, 7, 15, 16], [18]), (18, [2, 3, 4, 7, 11, 12, 15, 16, 17], [])] () rfl (by kernel_rfl) (by kernel_rfl) F S.drew ?_ ?_ ?_ ?_ ?_
           · rintro ⟨⟩; rfl
           · rintro ⟨⟩; kernel_rfl
           ·
            intro D D' x h
            cases x
            rfl
           ·
            refine ⟨?_, ?_⟩
            ·
             refine ⟨_, rfl, rfl, by kernel_rfl, ?_⟩
             rintro D ⟨⟩ a z S F
             refine ⟨by kernel_rfl, ?_⟩
             exact op_index _ 23 _ _ As A.length cs k 1 .i64 F rfl (by kernel_rfl) (by kernel_rfl) (by kernel_rfl) (by kernel_rfl) (get_lt hak) (recs_some hA0 (m := k) (get_lt hak)) (⟨(), rfl, (SameB.refl _ _ rfl), S⟩)
            refine ⟨?_, ?_⟩
            ·
             refine ⟨_, rfl, rfl, by kernel_rfl, ?_⟩
             rintro D ⟨⟩ a z S F
             refine ⟨by kernel_rfl, ?_⟩
             exact op_load _ _ As (k * 1) (.int .u64 av) F rfl (by kernel_rfl) (by kernel_rfl) (cOldG S 0 iC_len_u64 hA0 gA rfl 0 hak rfl) (⟨(), rfl, (SameB.refl _ _ rfl), S⟩)
            refine ⟨?_, ?_⟩
            ·
             refine ⟨_, rfl, rfl, by kernel_rfl, ?_⟩
             rintro D ⟨⟩ a z S F
             refine ⟨by kernel_rfl, ?_⟩
             exact op_pure F (v0 := .bool ((av : Int) == (0 : Int))) (v := .bool false) (by kernel_rfl) (eqlF ht30) ⟨(), rfl, (SameB.refl _ _ rfl), S⟩
            refine ⟨?_, ?_⟩
            ·
             refine ⟨_, rfl, rfl, by kernel_rfl, ?_⟩
             rintro D ⟨⟩ a z S F
             refine ⟨by kernel_rfl, ?_⟩
             exact op_pure F (v0 := .bool (decide (((k : Nat) : Int) > (0 : Int)))) (v := .bool true) (by kernel_rfl) (gtrT ht31) ⟨(), rfl, (SameB.refl _ _ rfl), S⟩
            refine ⟨?_, ?_⟩
            ·
             refine ⟨_, rfl, rfl, by kernel_rfl, ?_⟩
             rintro D ⟨⟩ a z S F
             refine ⟨by kernel_rfl, ?_⟩
             exact op_index _ 23 _ _ As A.length cs k 1 .i64 F rfl (by kernel_rfl) (by kernel_rfl) (by kernel_rfl) (by kernel_rfl) (get_lt hak) (recs_some hA0 (m := k) (get_lt hak)) (⟨(), rfl, (SameB.refl _ _ rfl), S⟩)
            refine ⟨?_, ?_⟩
            ·
             refine ⟨_, rfl, rfl, by kernel_rfl, ?_⟩
             rintro D ⟨⟩ a z S F
             refine ⟨by kernel_rfl, ?_⟩
             exact op_load _ _ As (k * 1) (.int .u64 av) F rfl (by kernel_rfl) (by kernel_rfl) (cOldG S 0 iC_len_u64 hA0 gA rfl 0 hak rfl) (⟨(), rfl, (SameB.refl _ _ rfl), S⟩)
            refine ⟨?_, ?_⟩
            ·
             refine ⟨_, rfl, rfl, by kernel_rfl, ?_⟩
             rintro D ⟨⟩ a z S F
             refine ⟨by kernel_rfl, ?_⟩
             exact op_pure F (v0 := .int .i64 (IntKind.wrap .i64 ((k : Nat) - 1))) (v := .int .i64 (k - 1 : Nat)) (by kernel_rfl) (wrn_i64 (by omega) (by omega) (by omega)) ⟨(), rfl, (SameB.refl _ _ rfl), S⟩
            refine ⟨?_, ?_⟩
            ·
             refine ⟨_, rfl, rfl, by kernel_rfl, ?_⟩
             rintro D ⟨⟩ a z S F
             refine ⟨by kernel_rfl, ?_⟩
             exact op_index _ 23 _ _ As A.length cs (k - 1) 1 .i64 F rfl (by kernel_rfl) (by kernel_rfl) (by kernel_rfl) (by kernel_rfl) (get_lt hap) (recs_some hA0 (m := k - 1) (get_lt hap)) (⟨(), rfl, (SameB.refl _ _ rfl), S⟩)
            refine ⟨?_, ?_⟩
            ·
             refine ⟨_, rfl, rfl, by kernel_rfl, ?_⟩
             rintro D ⟨⟩ a z S F
             refine ⟨by kernel_rfl, ?_⟩
             exact op_load _ _ As ((k - 1) * 1) (.int .u64 ap) F rfl (by kernel_rfl) (by kernel_rfl) (cOldG S 0 iC_len_u64 hA0 gA rfl 0 hap rfl) (⟨(), rfl, (SameB.refl _ _ rfl), S⟩)
            refine ⟨?_, ?_⟩
            ·
             refine ⟨_, rfl, rfl, by kernel_rfl, ?_⟩
             rintro D ⟨⟩ a z S F
             refine ⟨by kernel_rfl, ?_⟩
             exact op_pure F (v0 := .bool (decide ((av : Int) > (ap : Int)))) (v := .bool false) (by kernel_rfl) (gtrF ht32) ⟨(), rfl, (SameB.refl _ _ rfl), S⟩
            trivial
           ·
            rintro ⟨⟩ a z F S
            have F := F.sub (l := [(0, .pointer (some ⟨b, 0, none⟩)), (1, .int .u64 cid), (2, .int .i64 (qa : Nat)), (4, .slice As A.length cs), (13, .pointer (some ⟨b5, 0, none⟩)), (14, .slice Acf I.free.length ccf), (15, .int .i64 (k : Nat)), (16, .int .i64 (nn : Nat)), (17, .int .i64 1), (58, .slice Ar E.length cr), (59, .int .i64 (E.length : Nat)), (60, .int .i64 (k : Nat)), (76, .bool false)]) ⟨by kernel_rfl, by kernel_rfl, by kernel_rfl, by kernel_rfl, by kernel_rfl, by kernel_rfl, by kernel_rfl, by kernel_rfl, by kernel_rfl, by kernel_rfl, by kernel_rfl, by kernel_rfl, by kernel_rfl, trivial⟩
            have S : Sat w z [rest w G, box b 61 [.slice Ae I.ends.length ce, .slice Af I.free.length cf, .map (some r), .slice Ah I.has.length ch], rEl Ae ce I.ends, rFl Af cf I.free, rUl Ah ch I.has, mapA r .u64 (ps.map entM) ck, bag (ps.flatMap payRows), box b4 66 [.int .i64 0, .slice none 0 0, .slice none 0 0, .slice none 0 0], rIl Ace cce E, rUl Aca cca A, box b5 66 [.int .i64 0, .slice Ace E.length cce, .slice Asd ((sidesL Lg).length) csd, .slice Aca A.length cca], rF Acf I.free.length ccf Fq, rIl Asd csd (sidesL Lg)] := S
            refine then_n ?_
            refine c_f F rfl ?_
            refine wp_seq ?_
            by_cases ht33 : (xg.2 : Int) < (av : Int)
            ·
             skip
             refine region_gx (fun D => fun (_ : Unit) => [rest w G, box b 61 [.slice Ae I.ends.length ce, .slice Af I.free.length cf, .map (some r), .slice Ah I.has.length ch], rEl Ae ce I.ends, rFl Af cf I.free, rUl Ah ch I.has, mapA r .u64 (ps.map entM) ck, bag (ps.flatMap payRows), box b4 66 [.int .i64 0, .slice none 0 0, .slice none 0 0, .slice none 0 0], rIl Ace cce E, rUl Aca cca A, box b5 66 [.int .i64 0, .slice Ace E.length cce, .slice Asd ((sidesL Lg).length) csd, .slice Aca A.length cca], rF Acf I.free.length ccf Fq, rIl Asd csd (sidesL Lg)]) (fun (_ : Unit) => [.slice As A.length cs, .int .i64 (k : Nat), ptrA As (k * 1), .int .u64 av, .slice Acf I.free.length ccf, .int .i64 (nn : Nat), .int .i64 1, ptrA Acf (nn * 2), ptrA Acf (nn * 2 + 1), .int .u64 xg.2, .bool true, .bool true]) [(2, [], [3, 10]), (3, [2], [10]), (7, [], [8, 9, 10]), (8, [7], [9, 10]), (9, [7, 8], [10]), (10, [2, 3, 7, 8, 9], [])] () rfl (by kernel_rfl) (by kernel_rfl) F S.drew ?_ ?_ ?_ ?_ ?_
             · rintro ⟨⟩; rfl
             · rintro ⟨⟩; kernel_rfl
             ·
              intro D D' x h
              cases x
              rfl
             ·
              refine ⟨?_, ?_⟩
              ·
               refine ⟨_, rfl, rfl, by kernel_rfl, ?_⟩
               rintro D ⟨⟩ a z S F
               refine ⟨by kernel_rfl, ?_⟩
               exact op_index _ 23 _ _ As A.length cs k 1 .i64 F rfl (by kernel_rfl) (by kernel_rfl) (by kernel_rfl) (by kernel_rfl) (get_lt hak) (recs_some hA0 (m := k) (get_lt hak)) (⟨(), rfl, (SameB.refl _ _ rfl), S⟩)
              refine ⟨?_, ?_⟩
              ·
               refine ⟨_, rfl, rfl, by kernel_rfl, ?_⟩
               rintro D ⟨⟩ a z S F
               refine ⟨by kernel_rfl, ?_⟩
               exact op_load _ _ As (k * 1) (.int .u64 av) F rfl (by kernel_rfl) (by kernel_rfl) (cOldG S 0 iC_len_u64 hA0 gA rfl 0 hak rfl) (⟨(), rfl, (SameB.refl _ _ rfl), S⟩)
              refine ⟨?_, ?_⟩
              ·
               refine ⟨_, rfl, rfl, by kernel_rfl, ?_⟩
               rintro D ⟨⟩ a z S F
               refine ⟨by kernel_rfl, ?_⟩
               exact op_index _ 31 _ _ Acf I.free.length ccf nn 2 .i64 F rfl (by kernel_rfl) (by kernel_rfl) (by kernel_rfl) (by kernel_rfl) (by have h9 := get_lt hxg; (try simp only [List.length_set] at h9); omega) (row_some S 11 rfl (m := nn) (by have h9 := get_lt hxg; (try simp only [List.length_set] at h9); omega)) (⟨(), rfl, (SameB.refl _ _ rfl), S⟩)
              refine ⟨?_, ?_⟩
              ·
               refine ⟨_, rfl, rfl, by kernel_rfl, ?_⟩
               rintro D ⟨⟩ a z S F
               refine ⟨by kernel_rfl, ?_⟩
               exact op_indexArr _ 23 _ _ Acf (nn * 2) 2 1 1 .i64 F rfl (by kernel_rfl) (by kernel_rfl) (by kernel_rfl) (by kernel_rfl) (by decide) (row_some S 11 rfl (m := nn) (by have h9 := get_lt hxg; (try simp only [List.length_set] at h9); omega)) (⟨(), rfl, (SameB.refl _ _ rfl), S⟩)
              refine ⟨?_, ?_⟩
              ·
               refine ⟨_, rfl, rfl, by kernel_rfl, ?_⟩
               rintro D ⟨⟩ a z S F
               refine ⟨by kernel_rfl, ?_⟩
               exact op_load _ _ Acf (nn * 2 + 1) (.int .u64 xg.2) F rfl (by kernel_rfl) (by kernel_rfl) (cRec S 11 frC_len rfl 1 hxg rfl) (⟨(), rfl, (SameB.refl _ _ rfl), S⟩)
              refine ⟨?_, ?_⟩
              ·
               refine ⟨_, rfl, rfl, by kernel_rfl, ?_⟩
               rintro D ⟨⟩ a z S F
               refine ⟨by kernel_rfl, ?_⟩
               exact op_pure F (v0 := .bool (decide ((av : Int) > (xg.2 : Int)))) (v := .bool true) (by kernel_rfl) (gtrT ht33) ⟨(), rfl, (SameB.refl _ _ rfl), S⟩
              trivial
             ·
              rintro ⟨⟩ a z F S
              have F := F.sub (l := [(0, .pointer (some ⟨b, 0, none⟩)), (1, .int .u64 cid), (2, .int .i64 (qa : Nat)), (4, .slice As A.length cs), (13, .pointer (some ⟨b5, 0, none⟩)), (14, .slice Acf I.free.length ccf), (15, .int .i64 (k : Nat)), (16, .int .i64 (nn : Nat)), (17, .int .i64 1), (58, .slice Ar E.length cr), (59, .int .i64 (E.length : Nat)), (60, .int .i64 (k : Nat)), (98, .bool true)]) ⟨by kernel_rfl, by kernel_rfl, by kernel_rfl, by kernel_rfl, by kernel_rfl, by kernel_rfl, by kernel_rfl, by kernel_rfl, by kernel_rfl, by kernel_rfl, by kernel_rfl, by kernel_rfl, by kernel_rfl, trivial⟩
              have S : Sat w z [rest w G, box b 61 [.slice Ae I.ends.length ce, .slice Af I.free.length cf, .map (some r), .slice Ah I.has.length ch], rEl Ae ce I.ends, rFl Af cf I.free, rUl Ah ch I.has, mapA r .u64 (ps.map entM) ck, bag (ps.flatMap payRows), box b4 66 [.int .i64 0, .slice none 0 0, .slice none 0 0, .slice none 0 0], rIl Ace cce E, rUl Aca cca A, box b5 66 [.int .i64 0, .slice Ace E.length cce, .slice Asd ((sidesL Lg).length) csd, .slice Aca A.length cca], rF Acf I.free.length ccf Fq, rIl Asd csd (sidesL Lg)] := S
              refine then_n ?_
              refine c_t F rfl ?_
              refine s_reg ?_
              refine l_pure 1 (fun L => (10, .int .i64 28) :: L) F (by kernel_rfl) fun a F => ?_
              refine l_then ?_
              refine wp_ret ?_
              refine inb_r (then_r (inb_r (then_r (then_r (inb_r (then_r (?_)))))))
              exact fin F [.tmp 10] [.int .i64 28] rfl ⟨by kernel_rfl, trivial⟩ (.int .i64 28) rfl ⟨by rw [beg_err (by omega) hf (r := (28, Fq, Lg ++ [])) (by rw [hbf, beg_room (s := 1) hak hek hsd (fun h9 => h9.elim ht30 (pv_no (.inr ⟨_, hap, ht32⟩))) hxg (show frN xg 1 < av from ht33)]; rfl) (show (28 : Int) ≠ 0 from by decide)], by rw [beg_err (by omega) hf (r := (28, Fq, Lg ++ [])) (by rw [hbf, beg_room (s := 1) hak hek hsd (fun h9 => h9.elim ht30 (pv_no (.inr ⟨_, hap, ht32⟩))) hxg (show frN xg 1 < av from ht33)]; rfl) (show (28 : Int) ≠ 0 from by decide)]; exact (id_shut hps (by simp) (by simp) (by simp) (S.pick [0, 1, 2, 3, 4, 5, 6] (by decide)))⟩
            ·
             skip
             refine region_gx (fun D => fun (_ : Unit) => [rest w G, box b 61 [.slice Ae I.ends.length ce, .slice Af I.free.length cf, .map (some r), .slice Ah I.has.length ch], rEl Ae ce I.ends, rFl Af cf I.free, rUl Ah ch I.has, mapA r .u64 (ps.map entM) ck, bag (ps.flatMap payRows), box b4 66 [.int .i64 0, .slice none 0 0, .slice none 0 0, .slice none 0 0], rIl Ace cce E, rUl Aca cca A, box b5 66 [.int .i64 0, .slice Ace E.length cce, .slice Asd ((sidesL Lg).length) csd, .slice Aca A.length cca], rF Acf I.free.length ccf Fq, rIl Asd csd (sidesL Lg)]) (fun (_ : Unit) => [.slice As A.length cs, .int .i64 (k : Nat), ptrA As (k * 1), .int .u64 av, .slice Acf I.free.length ccf, .int .i64 (nn : Nat), .int .i64 1, ptrA Acf (nn * 2), ptrA Acf (nn * 2 + 1), .int .u64 xg.2, .bool false, .bool false]) [(2, [], [3, 10]), (3, [2], [10]), (7, [], [8, 9, 10]), (8, [7], [9, 10]), (9, [7, 8], [10]), (10, [2, 3, 7, 8, 9], [])] () rfl (by kernel_rfl) (by kernel_rfl) F S.drew ?_ ?_ ?_ ?_ ?_
             · rintro ⟨⟩; rfl
             · rintro ⟨⟩; kernel_rfl
             ·
              intro D D' x h
              cases x
              rfl
             ·
              refine ⟨?_, ?_⟩
              ·
               refine ⟨_, rfl, rfl, by kernel_rfl, ?_⟩
               rintro D ⟨⟩ a z S F
               refine ⟨by kernel_rfl, ?_⟩
               exact op_index _ 23 _ _ As A.length cs k 1 .i64 F rfl (by kernel_rfl) (by kernel_rfl) (by kernel_rfl) (by kernel_rfl) (get_lt hak) (recs_some hA0 (m := k) (get_lt hak)) (⟨(), rfl, (SameB.refl _ _ rfl), S⟩)
              refine ⟨?_, ?_⟩
              ·
               refine ⟨_, rfl, rfl, by kernel_rfl, ?_⟩
               rintro D ⟨⟩ a z S F
               refine ⟨by kernel_rfl, ?_⟩
               exact op_load _ _ As (k * 1) (.int .u64 av) F rfl (by kernel_rfl) (by kernel_rfl) (cOldG S 0 iC_len_u64 hA0 gA rfl 0 hak rfl) (⟨(), rfl, (SameB.refl _ _ rfl), S⟩)
              refine ⟨?_, ?_⟩
              ·
               refine ⟨_, rfl, rfl, by kernel_rfl, ?_⟩
               rintro D ⟨⟩ a z S F
               refine ⟨by kernel_rfl, ?_⟩
               exact op_index _ 31 _ _ Acf I.free.length ccf nn 2 .i64 F rfl (by kernel_rfl) (by kernel_rfl) (by kernel_rfl) (by kernel_rfl) (by have h9 := get_lt hxg; (try simp only [List.length_set] at h9); omega) (row_some S 11 rfl (m := nn) (by have h9 := get_lt hxg; (try simp only [List.length_set] at h9); omega)) (⟨(), rfl, (SameB.refl _ _ rfl), S⟩)
              refine ⟨?_, ?_⟩
              ·
               refine ⟨_, rfl, rfl, by kernel_rfl, ?_⟩
               rintro D ⟨⟩ a z S F
               refine ⟨by kernel_rfl, ?_⟩
               exact op_indexArr _ 23 _ _ Acf (nn * 2) 2 1 1 .i64 F rfl (by kernel_rfl) (by kernel_rfl) (by kernel_rfl) (by kernel_rfl) (by decide) (row_some S 11 rfl (m := nn) (by have h9 := get_lt hxg; (try simp only [List.length_set] at h9); omega)) (⟨(), rfl, (SameB.refl _ _ rfl), S⟩)
              refine ⟨?_, ?_⟩
              ·
               refine ⟨_, rfl, rfl, by kernel_rfl, ?_⟩
               rintro D ⟨⟩ a z S F
               refine ⟨by kernel_rfl, ?_⟩
               exact op_load _ _ Acf (nn * 2 + 1) (.int .u64 xg.2) F rfl (by kernel_rfl) (by kernel_rfl) (cRec S 11 frC_len rfl 1 hxg rfl) (⟨(), rfl, (SameB.refl _ _ rfl), S⟩)
              refine ⟨?_, ?_⟩
              ·
               refine ⟨_, rfl, rfl, by kernel_rfl, ?_⟩
               rintro D ⟨⟩ a z S F
               refine ⟨by kernel_rfl, ?_⟩
               exact op_pure F (v0 := .bool (decide ((av : Int) > (xg.2 : Int)))) (v := .bool false) (by kernel_rfl) (gtrF ht33) ⟨(), rfl, (SameB.refl _ _ rfl), S⟩
              trivial
             ·
              rintro ⟨⟩ a z F S
              have F := F.sub (l := [(0, .pointer (some ⟨b, 0, none⟩)), (1, .int .u64 cid), (2, .int .i64 (qa : Nat)), (4, .slice As A.length cs), (13, .pointer (some ⟨b5, 0, none⟩)), (14, .slice Acf I.free.length ccf), (15, .int .i64 (k : Nat)), (16, .int .i64 (nn : Nat)), (17, .int .i64 1), (58, .slice Ar E.length cr), (59, .int .i64 (E.length : Nat)), (60, .int .i64 (k : Nat)), (98, .bool false)]) ⟨by kernel_rfl, by kernel_rfl, by kernel_rfl, by kernel_rfl, by kernel_rfl, by kernel_rfl, by kernel_rfl, by kernel_rfl, by kernel_rfl, by kernel_rfl, by kernel_rfl, by kernel_rfl, by kernel_rfl, trivial⟩
              have S : Sat w z [rest w G, box b 61 [.slice Ae I.ends.length ce, .slice Af I.free.length cf, .map (some r), .slice Ah I.has.length ch], rEl Ae ce I.ends, rFl Af cf I.free, rUl Ah ch I.has, mapA r .u64 (ps.map entM) ck, bag (ps.flatMap payRows), box b4 66 [.int .i64 0, .slice none 0 0, .slice none 0 0, .slice none 0 0], rIl Ace cce E, rUl Aca cca A, box b5 66 [.int .i64 0, .slice Ace E.length cce, .slice Asd ((sidesL Lg).length) csd, .slice Aca A.length cca], rF Acf I.free.length ccf Fq, rIl Asd csd (sidesL Lg)] := S
              refine then_n ?_
              refine c_f F rfl ?_
              refine wp_skip ?_
              refine inb_n ?_
              refine then_n ?_
              exact hcut20 _ _ ⟨(fun h9 => h9.elim ht30 (pv_no (.inr ⟨_, hap, ht32⟩))), ht33, F.sub ⟨by kernel_rfl, by kernel_rfl, by kernel_rfl, by kernel_rfl, by kernel_rfl, by kernel_rfl, by kernel_rfl, by kernel_rfl, by kernel_rfl, by kernel_rfl, by kernel_rfl, by kernel_rfl, trivial⟩, S⟩
         ·
          skip
          refine region_gx (fun D => fun (_ : Unit) => [rest w G, box b 61 [.slice Ae I.ends.length ce, .slice Af I.free.length cf, .map (some r), .slice Ah I.has.length ch], rEl Ae ce I.ends, rFl Af cf I.free, rUl Ah ch I.has, mapA r .u64 (ps.map entM) ck, bag (ps.flatMap payRows), box b4 66 [.int .i64 0, .slice none 0 0, .slice none 0 0, .slice none 0 0], rIl Ace cce E, rUl Aca cca A, box b5 66 [.int .i64 0, .slice Ace E.length cce, .slice Asd ((sidesL Lg).length) csd, .slice Aca A.length cca], rF Acf I.free.length ccf Fq, rIl Asd csd (sidesL Lg)]) (fun (_ : Unit) => [.slice As A.length cs, .int .i64 (k : Nat), ptrA As (k * 1), .int .u64 av, .bool false, .bool false, .int .i64 (k : Nat), .bool false, .bool false, undef, undef, undef, undef, undef, undef, undef, undef, undef, undef, .bool false, .bool false, .bool false]) [(2, [], [3, 4, 7]), (3, [2], [4, 7]), (4, [2, 3], [7]), (7, [2, 3, 4], [])] () rfl (by kernel_rfl) (by kernel_rfl) F S.drew ?_ ?_ ?_ ?_ ?_
          · rintro ⟨⟩; rfl
          · rintro ⟨⟩; kernel_rfl
          ·
           intro D D' x h
           cases x
           rfl
          ·
           refine ⟨?_, ?_⟩
           ·
            refine ⟨_, rfl, rfl, by kernel_rfl, ?_⟩
            rintro D ⟨⟩ a z S F
            refine ⟨by kernel_rfl, ?_⟩
            exact op_index _ 23 _ _ As A.length cs k 1 .i64 F rfl (by kernel_rfl) (by kernel_rfl) (by kernel_rfl) (by kernel_rfl) (get_lt hak) (recs_some hA0 (m := k) (get_lt hak)) (⟨(), rfl, (SameB.refl _ _ rfl), S⟩)
           refine ⟨?_, ?_⟩
           ·
            refine ⟨_, rfl, rfl, by kernel_rfl, ?_⟩
            rintro D ⟨⟩ a z S F
            refine ⟨by kernel_rfl, ?_⟩
            exact op_load _ _ As (k * 1) (.int .u64 av) F rfl (by kernel_rfl) (by kernel_rfl) (cOldG S 0 iC_len_u64 hA0 gA rfl 0 hak rfl) (⟨(), rfl, (SameB.refl _ _ rfl), S⟩)
           refine ⟨?_, ?_⟩
           ·
            refine ⟨_, rfl, rfl, by kernel_rfl, ?_⟩
            rintro D ⟨⟩ a z S F
            refine ⟨by kernel_rfl, ?_⟩
            exact op_pure F (v0 := .bool ((av : Int) == (0 : Int))) (v := .bool false) (by kernel_rfl) (eqlF ht30) ⟨(), rfl, (SameB.refl _ _ rfl), S⟩
           refine ⟨?_, ?_⟩
           ·
            refine ⟨_, rfl, rfl, by kernel_rfl, ?_⟩
            rintro D ⟨⟩ a z S F
            refine ⟨by kernel_rfl, ?_⟩
            exact op_pure F (v0 := .bool (decide (((k : Nat) : Int) > (0 : Int)))) (v := .bool false) (by kernel_rfl) (gtrF ht31) ⟨(), rfl, (SameB.refl _ _ rfl), S⟩
           trivial
          ·
           rintro ⟨⟩ a z F S
           have F := F.sub (l := [(0, .pointer (some ⟨b, 0, none⟩)), (1, .int .u64 cid), (2, .int .i64 (qa : Nat)), (4, .slice As A.length cs), (13, .pointer (some ⟨b5, 0, none⟩)), (14, .slice Acf I.free.length ccf), (15, .int .i64 (k : Nat)), (16, .int .i64 (nn : Nat)), (17, .int .i64 1), (58, .slice Ar E.length cr), (59, .int .i64 (E.length : Nat)), (60, .int .i64 (k : Nat)), (76, .bool false)]) ⟨by kernel_rfl, by kernel_rfl, by kernel_rfl, by kernel_rfl, by kernel_rfl, by kernel_rfl, by kernel_rfl, by kernel_rfl, by kernel_rfl, by kernel_rfl, by kernel_rfl, by kernel_rfl, by kernel_rfl, trivial⟩
           have S : Sat w z [rest w G, box b 61 [.slice Ae I.ends.length ce, .slice Af I.free.length cf, .map (some r), .slice Ah I.has.length ch], rEl Ae ce I.ends, rFl Af cf I.free, rUl Ah ch I.has, mapA r .u64 (ps.map entM) ck, bag (ps.flatMap payRows), box b4 66 [.int .i64 0, .slice none 0 0, .slice none 0 0, .slice none 0 0], rIl Ace cce E, rUl Aca cca A, box b5 66 [.int .i64 0, .slice Ace E.length cce, .slice Asd ((sidesL Lg).length) csd, .slice Aca A.length cca], rF Acf I.free.length ccf Fq, rIl Asd csd (sidesL Lg)] := S
           refine then_n ?_
           refine c_f F rfl ?_
           refine wp_seq ?_
           by_cases ht34 : (xg.2 : Int) < (av : Int)
           ·
            skip
            refine region_gx (fun D => fun (_ : Unit) => [rest w G, box b 61 [.slice Ae I.ends.length ce, .slice Af I.free.length cf, .map (some r), .slice Ah I.has.length ch], rEl Ae ce I.ends, rFl Af cf I.free, rUl Ah ch I.has, mapA r .u64 (ps.map entM) ck, bag (ps.flatMap payRows), box b4 66 [.int .i64 0, .slice none 0 0, .slice none 0 0, .slice none 0 0], rIl Ace cce E, rUl Aca cca A, box b5 66 [.int .i64 0, .slice Ace E.length cce, .slice Asd ((sidesL Lg).length) csd, .slice Aca A.length cca], rF Acf I.free.length ccf Fq, rIl Asd csd (sidesL Lg)]) (fun (_ : Unit) => [.slice As A.length cs, .int .i64 (k : Nat), ptrA As (k * 1), .int .u64 av, .slice Acf I.free.length ccf, .int .i64 (nn : Nat), .int .i64 1, ptrA Acf (nn * 2), ptrA Acf (nn * 2 + 1), .int .u64 xg.2, .bool true, .bool true]) [(2, [], [3, 10]), (3, [2], [10]), (7, [], [8, 9, 10]), (8, [7], [9, 10]), (9, [7, 8], [10]), (10, [2, 3, 7, 8, 9], [])] () rfl (by kernel_rfl) (by kernel_rfl) F S.drew ?_ ?_ ?_ ?_ ?_
            · rintro ⟨⟩; rfl
            · rintro ⟨⟩; kernel_rfl
            ·
             intro D D' x h
             cases x
             rfl
            ·
             refine ⟨?_, ?_⟩
             ·
              refine ⟨_, rfl, rfl, by kernel_rfl, ?_⟩
              rintro D ⟨⟩ a z S F
              refine ⟨by kernel_rfl, ?_⟩
              exact op_index _ 23 _ _ As A.length cs k 1 .i64 F rfl (by kernel_rfl) (by kernel_rfl) (by kernel_rfl) (by kernel_rfl) (get_lt hak) (recs_some hA0 (m := k) (get_lt hak)) (⟨(), rfl, (SameB.refl _ _ rfl), S⟩)
             refine ⟨?_, ?_⟩
             ·
              refine ⟨_, rfl, rfl, by kernel_rfl, ?_⟩
              rintro D ⟨⟩ a z S F
              refine ⟨by kernel_rfl, ?_⟩
              exact op_load _ _ As (k * 1) (.int .u64 av) F rfl (by kernel_rfl) (by kernel_rfl) (cOldG S 0 iC_len_u64 hA0 gA rfl 0 hak rfl) (⟨(), rfl, (SameB.refl _ _ rfl), S⟩)
             refine ⟨?_, ?_⟩
             ·
              refine ⟨_, rfl, rfl, by kernel_rfl, ?_⟩
              rintro D ⟨⟩ a z S F
              refine ⟨by kernel_rfl, ?_⟩
              exact op_index _ 31 _ _ Acf I.free.length ccf nn 2 .i64 F rfl (by kernel_rfl) (by kernel_rfl) (by kernel_rfl) (by kernel_rfl) (by have h9 := get_lt hxg; (try simp only [List.length_set] at h9); omega) (row_some S 11 rfl (m := nn) (by have h9 := get_lt hxg; (try simp only [List.length_set] at h9); omega)) (⟨(), rfl, (SameB.refl _ _ rfl), S⟩)
             refine ⟨?_, ?_⟩
             ·
              refine ⟨_, rfl, rfl, by kernel_rfl, ?_⟩
              rintro D ⟨⟩ a z S F
              refine ⟨by kernel_rfl, ?_⟩
              exact op_indexArr _ 23 _ _ Acf (nn * 2) 2 1 1 .i64 F rfl (by kernel_rfl) (by kernel_rfl) (by kernel_rfl) (by kernel_rfl) (by decide) (row_some S 11 rfl (m := nn) (by have h9 := get_lt hxg; (try simp only [List.length_set] at h9); omega)) (⟨(), rfl, (SameB.refl _ _ rfl), S⟩)
             refine ⟨?_, ?_⟩
             ·
              refine ⟨_, rfl, rfl, by kernel_rfl, ?_⟩
              rintro D ⟨⟩ a z S F
              refine ⟨by kernel_rfl, ?_⟩
              exact op_load _ _ Acf (nn * 2 + 1) (.int .u64 xg.2) F rfl (by kernel_rfl) (by kernel_rfl) (cRec S 11 frC_len rfl 1 hxg rfl) (⟨(), rfl, (SameB.refl _ _ rfl), S⟩)
             refine ⟨?_, ?_⟩
             ·
              refine ⟨_, rfl, rfl, by kernel_rfl, ?_⟩
              rintro D ⟨⟩ a z S F
              refine ⟨by kernel_rfl, ?_⟩
              exact op_pure F (v0 := .bool (decide ((av : Int) > (xg.2 : Int)))) (v := .bool true) (by kernel_rfl) (gtrT ht34) ⟨(), rfl, (SameB.refl _ _ rfl), S⟩
             trivial
            ·
             rintro ⟨⟩ a z F S
             have F := F.sub (l := [(0, .pointer (some ⟨b, 0, none⟩)), (1, .int .u64 cid), (2, .int .i64 (qa : Nat)), (4, .slice As A.length cs), (13, .pointer (some ⟨b5, 0, none⟩)), (14, .slice Acf I.free.length ccf), (15, .int .i64 (k : Nat)), (16, .int .i64 (nn : Nat)), (17, .int .i64 1), (58, .slice Ar E.length cr), (59, .int .i64 (E.length : Nat)), (60, .int .i64 (k : Nat)), (98, .bool true)]) ⟨by kernel_rfl, by kernel_rfl, by kernel_rfl, by kernel_rfl, by kernel_rfl, by kernel_rfl, by kernel_rfl, by kernel_rfl, by kernel_rfl, by kernel_rfl, by kernel_rfl, by kernel_rfl, by kernel_rfl, trivial⟩
             have S : Sat w z [rest w G, box b 61 [.slice Ae I.ends.length ce, .slice Af I.free.length cf, .map (some r), .slice Ah I.has.length ch], rEl Ae ce I.ends, rFl Af cf I.free, rUl Ah ch I.has, mapA r .u64 (ps.map entM) ck, bag (ps.flatMap payRows), box b4 66 [.int .i64 0, .slice none 0 0, .slice none 0 0, .slice none 0 0], rIl Ace cce E, rUl Aca cca A, box b5 66 [.int .i64 0, .slice Ace E.length cce, .slice Asd ((sidesL Lg).length) csd, .slice Aca A.length cca], rF Acf I.free.length ccf Fq, rIl Asd csd (sidesL Lg)] := S
             refine then_n ?_
             refine c_t F rfl ?_
             refine s_reg ?_
             refine l_pure 1 (fun L => (10, .int .i64 28) :: L) F (by kernel_rfl) fun a F => ?_
             refine l_then ?_
             refine wp_ret ?_
             refine inb_r (then_r (inb_r (then_r (then_r (inb_r (then_r (?_)))))))
             exact fin F [.tmp 10] [.int .i64 28] rfl ⟨by kernel_rfl, trivial⟩ (.int .i64 28) rfl ⟨by rw [beg_err (by omega) hf (r := (28, Fq, Lg ++ [])) (by rw [hbf, beg_room (s := 1) hak hek hsd (fun h9 => h9.elim ht30 (pv_no (.inl (by omega)))) hxg (show frN xg 1 < av from ht34)]; rfl) (show (28 : Int) ≠ 0 from by decide)], by rw [beg_err (by omega) hf (r := (28, Fq, Lg ++ [])) (by rw [hbf, beg_room (s := 1) hak hek hsd (fun h9 => h9.elim ht30 (pv_no (.inl (by omega)))) hxg (show frN xg 1 < av from ht34)]; rfl) (show (28 : Int) ≠ 0 from by decide)]; exact (id_shut hps (by simp) (by simp) (by simp) (S.pick [0, 1, 2, 3, 4, 5, 6] (by decide)))⟩
           ·
            skip
            refine region_gx (fun D => fun (_ : Unit) => [rest w G, box b 61 [.slice Ae I.ends.length ce, .slice Af I.free.length cf, .map (some r), .slice Ah I.has.length ch], rEl Ae ce I.ends, rFl Af cf I.free, rUl Ah ch I.has, mapA r .u64 (ps.map entM) ck, bag (ps.flatMap payRows), box b4 66 [.int .i64 0, .slice none 0 0, .slice none 0 0, .slice none 0 0], rIl Ace cce E, rUl Aca cca A, box b5 66 [.int .i64 0, .slice Ace E.length cce, .slice Asd ((sidesL Lg).length) csd, .slice Aca A.length cca], rF Acf I.free.length ccf Fq, rIl Asd csd (sidesL Lg)]) (fun (_ : Unit) => [.slice As A.length cs, .int .i64 (k : Nat), ptrA As (k * 1), .int .u64 av, .slice Acf I.free.length ccf, .int .i64 (nn : Nat), .int .i64 1, ptrA Acf (nn * 2), ptrA Acf (nn * 2 + 1), .int .u64 xg.2, .bool false, .bool false]) [(2, [], [3, 10]), (3, [2], [10]), (7, [], [8, 9, 10]), (8, [7], [9, 10]), (9, [7, 8], [10]), (10, [2, 3, 7, 8, 9], [])] () rfl (by kernel_rfl) (by kernel_rfl) F S.drew ?_ ?_ ?_ ?_ ?_
            · rintro ⟨⟩; rfl
            · rintro ⟨⟩; kernel_rfl
            ·
             intro D D' x h
             cases x
             rfl
            ·
             refine ⟨?_, ?_⟩
             ·
              refine ⟨_, rfl, rfl, by kernel_rfl, ?_⟩
              rintro D ⟨⟩ a z S F
              refine ⟨by kernel_rfl, ?_⟩
              exact op_index _ 23 _ _ As A.length cs k 1 .i64 F rfl (by kernel_rfl) (by kernel_rfl) (by kernel_rfl) (by kernel_rfl) (get_lt hak) (recs_some hA0 (m := k) (get_lt hak)) (⟨(), rfl, (SameB.refl _ _ rfl), S⟩)
             refine ⟨?_, ?_⟩
             ·
              refine ⟨_, rfl, rfl, by kernel_rfl, ?_⟩
              rintro D ⟨⟩ a z S F
              refine ⟨by kernel_rfl, ?_⟩
              exact op_load _ _ As (k * 1) (.int .u64 av) F rfl (by kernel_rfl) (by kernel_rfl) (cOldG S 0 iC_len_u64 hA0 gA rfl 0 hak rfl) (⟨(), rfl, (SameB.refl _ _ rfl), S⟩)
             refine ⟨?_, ?_⟩
             ·
              refine ⟨_, rfl, rfl, by kernel_rfl, ?_⟩
              rintro D ⟨⟩ a z S F
              refine ⟨by kernel_rfl, ?_⟩
              exact op_index _ 31 _ _ Acf I.free.length ccf nn 2 .i64 F rfl (by kernel_rfl) (by kernel_rfl) (by kernel_rfl) (by kernel_rfl) (by have h9 := get_lt hxg; (try simp only [List.length_set] at h9); omega) (row_some S 11 rfl (m := nn) (by have h9 := get_lt hxg; (try simp only [List.length_set] at h9); omega)) (⟨(), rfl, (SameB.refl _ _ rfl), S⟩)
             refine ⟨?_, ?_⟩
             ·
              refine ⟨_, rfl, rfl, by kernel_rfl, ?_⟩
              rintro D ⟨⟩ a z S F
              refine ⟨by kernel_rfl, ?_⟩
              exact op_indexArr _ 23 _ _ Acf (nn * 2) 2 1 1 .i64 F rfl (by kernel_rfl) (by kernel_rfl) (by kernel_rfl) (by kernel_rfl) (by decide) (row_some S 11 rfl (m := nn) (by have h9 := get_lt hxg; (try simp only [List.length_set] at h9); omega)) (⟨(), rfl, (SameB.refl _ _ rfl), S⟩)
             refine ⟨?_, ?_⟩
             ·
              refine ⟨_, rfl, rfl, by kernel_rfl, ?_⟩
              rintro D ⟨⟩ a z S F
              refine ⟨by kernel_rfl, ?_⟩
              exact op_load _ _ Acf (nn * 2 + 1) (.int .u64 xg.2) F rfl (by kernel_rfl) (by kernel_rfl) (cRec S 11 frC_len rfl 1 hxg rfl) (⟨(), rfl, (SameB.refl _ _ rfl), S⟩)
             refine ⟨?_, ?_⟩
             ·
              refine ⟨_, rfl, rfl, by kernel_rfl, ?_⟩
              rintro D ⟨⟩ a z S F
              refine ⟨by kernel_rfl, ?_⟩
              exact op_pure F (v0 := .bool (decide ((av : Int) > (xg.2 : Int)))) (v := .bool false) (by kernel_rfl) (gtrF ht34) ⟨(), rfl, (SameB.refl _ _ rfl), S⟩
             trivial
            ·
             rintro ⟨⟩ a z F S
             have F := F.sub (l := [(0, .pointer (some ⟨b, 0, none⟩)), (1, .int .u64 cid), (2, .int .i64 (qa : Nat)), (4, .slice As A.length cs), (13, .pointer (some ⟨b5, 0, none⟩)), (14, .slice Acf I.free.length ccf), (15, .int .i64 (k : Nat)), (16, .int .i64 (nn : Nat)), (17, .int .i64 1), (58, .slice Ar E.length cr), (59, .int .i64 (E.length : Nat)), (60, .int .i64 (k : Nat)), (98, .bool false)]) ⟨by kernel_rfl, by kernel_rfl, by kernel_rfl, by kernel_rfl, by kernel_rfl, by kernel_rfl, by kernel_rfl, by kernel_rfl, by kernel_rfl, by kernel_rfl, by kernel_rfl, by kernel_rfl, by kernel_rfl, trivial⟩
             have S : Sat w z [rest w G, box b 61 [.slice Ae I.ends.length ce, .slice Af I.free.length cf, .map (some r), .slice Ah I.has.length ch], rEl Ae ce I.ends, rFl Af cf I.free, rUl Ah ch I.has, mapA r .u64 (ps.map entM) ck, bag (ps.flatMap payRows), box b4 66 [.int .i64 0, .slice none 0 0, .slice none 0 0, .slice none 0 0], rIl Ace cce E, rUl Aca cca A, box b5 66 [.int .i64 0, .slice Ace E.length cce, .slice Asd ((sidesL Lg).length) csd, .slice Aca A.length cca], rF Acf I.free.length ccf Fq, rIl Asd csd (sidesL Lg)] := S
             refine then_n ?_
             refine c_f F rfl ?_
             refine wp_skip ?_
             refine inb_n ?_
             refine then_n ?_
             exact hcut20 _ _ ⟨(fun h9 => h9.elim ht30 (pv_no (.inl (by omega)))), ht34, F.sub ⟨by kernel_rfl, by kernel_rfl, by kernel_rfl, by kernel_rfl, by kernel_rfl, by kernel_rfl, by kernel_rfl, by kernel_rfl, by kernel_rfl, by kernel_rfl, by kernel_rfl, by kernel_rfl, trivial⟩, S⟩
      ·
       skip
       obtain ⟨hpl, hql, hpq9⟩ := ok.en _ (List.mem_of_getElem? he)
       dsimp only at hpl hql hpq9
       have hnn := (List.getElem?_eq_some_iff.1 he).1
       obtain ⟨xg, hxg⟩ : ∃ xg, Fq[nn]? = some xg := ⟨_, List.getElem?_eq_getElem (by omega)⟩
       have hxn := hFn _ (List.mem_of_getElem? hxg)
       have hxs := sumF_one hFn hxg
       obtain ⟨G9, g9, hin9, hlt9, k9⟩ := S.frameB [1, 2] (by decide) rfl
       refine l_do F rfl rfl (op_fn F (by kernel_rfl) (side24_at hsd _ G9 b Ae ce Af I.free.length cf r Ah I.has.length ch g9) ?_)
       rintro e z9 ⟨rfl, g⟩
       have S : Sat w z9 [rest w G, box b 61 [.slice Ae I.ends.length ce, .slice Af I.free.length cf, .map (some r), .slice Ah I.has.length ch], rEl Ae ce I.ends, rFl Af cf I.free, rUl Ah ch I.has, mapA r .u64 (ps.map entM) ck, bag (ps.flatMap payRows), box b4 66 [.int .i64 0, .slice none 0 0, .slice none 0 0, .slice none 0 0], rIl Ace cce E, rUl Aca cca A, box b5 66 [.int .i64 0, .slice Ace E.length cce, .slice Asd ((sidesL Lg).length) csd, .slice Aca A.length cca], rF Acf I.free.length ccf Fq, rIl Asd csd (sidesL Lg)] := k9 z9 [box b 61 [.slice Ae I.ends.length ce, .slice Af I.free.length cf, .map (some r), .slice Ah I.has.length ch], rEl Ae ce I.ends] rfl g
       clear g g9 k9 hin9 hlt9
       refine ⟨_, rfl, ?_⟩
       intro a F
       refine l_pure 5 (fun L => (18, .int .i64 1) :: (17, .int .i64 0) :: (71, .int .i64 1) :: (70, .int .i64 0) :: (65, .tuple #[.int .i64 0, .int .i64 1]) :: L) F (by kernel_rfl) fun a F => ?_
       refine l_then ?_
       refine wp_seq ?_
       refine wp_block ?_
       refine s_reg ?_
       refine l_pure 3 (fun L => (72, .bool true) :: (74, .bool true) :: (73, .int .i64 1) :: L) F (by kernel_rfl) fun a F => ?_
       refine l_then ?_
       refine c_t F rfl ?_
       refine s_reg ?_
       refine l_pure 2 (fun L => (10, .int .i64 1) :: (75, .int .i64 1) :: L) F (by kernel_rfl) fun a F => ?_
       refine l_then ?_
       refine wp_ret ?_
       refine inb_r (then_r (inb_r (then_r (then_r (inb_r (then_r (?_)))))))
       exact fin F [.tmp 10] [.int .i64 1] rfl ⟨by kernel_rfl, trivial⟩ (.int .i64 1) rfl ⟨by rw [beg_err (by omega) hf (r := (1, Fq, Lg ++ [])) (by rw [hbf, beg_side hek hak hsd (by decide)]; rfl) (show (1 : Int) ≠ 0 from by decide)], by rw [beg_err (by omega) hf (r := (1, Fq, Lg ++ [])) (by rw [hbf, beg_side hek hak hsd (by decide)]; rfl) (show (1 : Int) ≠ 0 from by decide)]; exact (id_shut hps (by simp) (by simp) (by simp) (S.pick [0, 1, 2, 3, 4, 5, 6] (by decide)))⟩
     ·
      skip
      have hk : k = E.length := by omega
      have hkA : k = A.length := by omega
      rw [hk, List.take_length] at hE
      rw [hkA, List.take_length] at hA
      rw [hk, List.drop_length] at hbf
      rw [beg_done] at hbf
      clear hLl
      subst hE
      subst hA
      have hng : ¬ ((edgesL Lg).length ≠ (amsL Lg).length ∨ (edgesL Lg).length < 1 ∨ 7 < (edgesL Lg).length) := by omega
      refine l_do F rfl rfl (op_pure F (v0 := .bool (decide (((k : Nat) : Int) < (((edgesL Lg).length : Nat) : Int)))) (v := .bool false) (by kernel_rfl) (lssF ht14) fun a F => ?_)
      refine l_then ?_
      refine wp_seq ?_
      refine c_f F rfl ?_
      refine wp_exit ?_
      refine then_x ?_
      refine then_x ?_
      refine inb_x ?_
      refine then_n ?_
      refine wp_seq ?_
      refine region_gx (fun D => fun (_ : Unit) => [rest w G, bif D 10 then box b 61 [.slice Ae I.ends.length ce, .slice Acf I.free.length ccf, .map (some r), .slice Ah I.has.length ch] else box b 61 [.slice Ae I.ends.length ce, .slice Af I.free.length cf, .map (some r), .slice Ah I.has.length ch], rEl Ae ce I.ends, rFl Af cf I.free, rUl Ah ch I.has, bif D 13 then mapA r .u64 ((ps.map entM) ++ [((cid, .agg #[.int .i64 0, .slice Ace ((edgesL Lg).length) cce, .slice Asd ((sidesL Lg).length) csd, .slice Aca ((amsL Lg).length) cca], ck) : Ent)]) (ck + 1) else (bif D 11 then mapA r .u64 ((ps.map entM) ++ [((cid, .agg #[.int .i64 0, .slice none 0 0, .slice none 0 0, .slice none 0 0], ck) : Ent)]) (ck + 1) else mapA r .u64 (ps.map entM) ck), bag (ps.flatMap payRows), box b4 66 [.int .i64 0, .slice none 0 0, .slice none 0 0, .slice none 0 0], rIl Ace cce (edgesL Lg), rUl Aca cca (amsL Lg), box b5 66 [.int .i64 0, .slice Ace ((edgesL Lg).length) cce, .slice Asd ((sidesL Lg).length) csd, .slice Aca ((amsL Lg).length) cca], rF Acf I.free.length ccf Fq, rIl Asd csd (sidesL Lg)]) (fun (_ : Unit) => [.pointer (some ⟨b, 0, none⟩), .pointer (some ⟨b, 0, none⟩), .pointer (some ⟨b, 0, none⟩), .pointer (some ⟨b, 2, none⟩), .map (some r), .int .u64 cid, .slice Acf I.free.length ccf, .agg #[.int .i64 0, .slice Ace ((edgesL Lg).length) cce, .slice Asd ((sidesL Lg).length) csd, .slice Aca ((amsL Lg).length) cca], .pointer (some ⟨b, 0, none⟩), .pointer (some ⟨b, 1, none⟩), undef, .tuple #[.agg #[.int .i64 0, .slice none 0 0, .slice none 0 0, .slice none 0 0], .int .i64 (ck : Nat)], .int .i64 (ck : Nat), undef]) [(4, [], [10, 11, 13]), (7, [], [13]), (10, [4], [11, 13]), (11, [4, 10], [13]), (13, [4, 7, 10, 11], [])] () rfl (by kernel_rfl) (by kernel_rfl) F S.drew ?_ ?_ ?_ ?_ ?_
      · rintro ⟨⟩; rfl
      · rintro ⟨⟩; kernel_rfl
      ·
       intro D D' x h
       cases x
       simp only [h 10 (by decide), h 11 (by decide), h 13 (by decide)]
      ·
       refine ⟨?_, ?_⟩
       ·
        refine ⟨_, rfl, rfl, by kernel_rfl, ?_⟩
        rintro D ⟨⟩ a z S F
        refine ⟨by kernel_rfl, ?_⟩
        exact op_load _ _ (some ⟨b, 0, none⟩) 2 (.map (some r)) F rfl (by kernel_rfl) (by kernel_rfl) (cBox S 1 rfl (j := 2) rfl) (⟨(), rfl, (SameB.refl _ _ rfl), S⟩)
       refine ⟨?_, ?_⟩
       ·
        refine ⟨_, rfl, rfl, by kernel_rfl, ?_⟩
        rintro D ⟨⟩ a z S F
        refine ⟨by kernel_rfl, ?_⟩
        exact op_loadK _ _ (some ⟨b5, 0, none⟩) 0 [.int .i64 0, .slice Ace ((edgesL Lg).length) cce, .slice Asd ((sidesL Lg).length) csd, .slice Aca ((amsL Lg).length) cca] F rfl (by kernel_rfl) (by kernel_rfl) (by kernel_rfl) (by simp) (cBoxK S 10 rfl 0 (by kernel_rfl)) (⟨(), rfl, (SameB.refl _ _ rfl), S⟩)
       refine ⟨?_, ?_⟩
       ·
        refine ⟨_, rfl, rfl, by kernel_rfl, ?_⟩
        rintro D ⟨⟩ a z S F
        refine ⟨by kernel_rfl, ?_⟩
        exact op_storeB S 1 _ _ _ b 1 (.slice Acf I.free.length ccf) F rfl rfl (by kernel_rfl) (by kernel_rfl) (by kernel_rfl) (by kernel_rfl) (by kernel_rfl) fun z S => ⟨(), rfl, (SameB.refl _ _ rfl), S⟩
       refine ⟨?_, ?_⟩
       ·
        refine ⟨_, rfl, rfl, by kernel_rfl, ?_⟩
        rintro D ⟨⟩ a z S F
        refine ⟨by kernel_rfl, ?_⟩
        exact op_mapEntry S 5 _ 23 66 _ _ (.agg #[.int .i64 0, .slice none 0 0, .slice none 0 0, .slice none 0 0]) .u64 .u64 cid F rfl rfl (by kernel_rfl) (by kernel_rfl) (by kernel_rfl) (by kernel_rfl) (by kernel_rfl) hg fun z S => ⟨(), rfl, (SameB.refl _ _ rfl), S⟩
       refine ⟨?_, ?_⟩
       ·
        refine ⟨_, rfl, rfl, by kernel_rfl, ?_⟩
        rintro D ⟨⟩ a z S F
        refine ⟨by kernel_rfl, ?_⟩
        exact op_entryStore S 5 _ _ _ _ cid (.agg #[.int .i64 0, .slice Ace ((edgesL Lg).length) cce, .slice Asd ((sidesL Lg).length) csd, .slice Aca ((amsL Lg).length) cca]) ck F rfl rfl (by kernel_rfl) (by kernel_rfl) (by kernel_rfl) (fun e he => Nat.ne_of_lt (ent_old hps e he)) fun z S => ⟨(), rfl, (SameB.refl _ _ rfl), S⟩
       trivial
      ·
       rintro ⟨⟩ a z F S
       have F := F.sub (l := []) trivial
       have S : Sat w z [rest w G, box b 61 [.slice Ae I.ends.length ce, .slice Acf I.free.length ccf, .map (some r), .slice Ah I.has.length ch], rEl Ae ce I.ends, rFl Af cf I.free, rUl Ah ch I.has, mapA r .u64 ((ps.map entM) ++ [((cid, .agg #[.int .i64 0, .slice Ace ((edgesL Lg).length) cce, .slice Asd ((sidesL Lg).length) csd, .slice Aca ((amsL Lg).length) cca], ck) : Ent)]) (ck + 1), bag (ps.flatMap payRows), box b4 66 [.int .i64 0, .slice none 0 0, .slice none 0 0, .slice none 0 0], rIl Ace cce (edgesL Lg), rUl Aca cca (amsL Lg), box b5 66 [.int .i64 0, .slice Ace ((edgesL Lg).length) cce, .slice Asd ((sidesL Lg).length) csd, .slice Aca ((amsL Lg).length) cca], rF Acf I.free.length ccf Fq, rIl Asd csd (sidesL Lg)] := S
       refine then_n ?_
       refine s_reg ?_
       refine l_pure 1 (fun L => (10, .int .i64 0) :: L) F (by kernel_rfl) fun a F => ?_
       refine l_then ?_
       refine wp_ret ?_
       have hmm : (ps.map entM) ++ [((cid, .agg #[.int .i64 0, .slice Ace ((edgesL Lg).length) cce, .slice Asd ((sidesL Lg).length) csd, .slice Aca ((amsL Lg).length) cca], ck) : Ent)] = (ps ++ [(⟨Ace, cce, Asd, csd, Aca, cca, ck, ⟨cid, 0, Lg⟩⟩ : PayM)]).map entM := by rw [List.map_append]; rfl
       rw [hmm] at S
       have S := bag_pay S (⟨Ace, cce, Asd, csd, Aca, cca, ck, ⟨cid, 0, Lg⟩⟩ : PayM) 6 8 12 9 rfl rfl rfl rfl (by decide)
       have S : Sat w z [rest w G, box b 61 [.slice Ae I.ends.length ce, .slice Acf I.free.length ccf, .map (some r), .slice Ah I.has.length ch], rEl Ae ce I.ends, rFl Af cf I.free, rUl Ah ch I.has, mapA r .u64 ((ps ++ [(⟨Ace, cce, Asd, csd, Aca, cca, ck, ⟨cid, 0, Lg⟩⟩ : PayM)]).map entM) (ck + 1), bag ((ps ++ [(⟨Ace, cce, Asd, csd, Aca, cca, ck, ⟨cid, 0, Lg⟩⟩ : PayM)]).flatMap payRows), box b4 66 [.int .i64 0, .slice none 0 0, .slice none 0 0, .slice none 0 0], emp, emp, box b5 66 [.int .i64 0, .slice Ace ((edgesL Lg).length) cce, .slice Asd ((sidesL Lg).length) csd, .slice Aca ((amsL Lg).length) cca], rF Acf I.free.length ccf Fq, emp] := S
       exact fin F [.tmp 10] [.int .i64 0] rfl ⟨by kernel_rfl, trivial⟩ (.int .i64 0) rfl ⟨by rw [beg_ok hng hf hbf], by rw [beg_ok hng hf hbf]; exact (id_shut (psok_snoc hps (⟨Ace, cce, Asd, csd, Aca, cca, ck, ⟨cid, 0, Lg⟩⟩ : PayM) rfl) (by first | rfl | omega | (simp; omega)) (by first | rfl | omega | (simp; omega)) (by first | rfl | omega | (simp; omega)) (S.pick [0, 1, 2, 11, 4, 5, 6] (by decide)))⟩
    ·
     skip
     have hfn := hf
     refine l_do F rfl rfl (op_lookup S 5 _ 23 66 _ _ true (.agg #[.int .i64 0, .slice none 0 0, .slice none 0 0, .slice none 0 0]) .u64 .u64 cid (.tuple #[.agg #[.int .i64 mp.p.state, .slice mp.A1 ((edgesL mp.p.legs).length) mp.c1, .slice mp.A2 ((sidesL mp.p.legs).length) mp.c2, .slice mp.A3 ((amsL mp.p.legs).length) mp.c3], .bool true]) F rfl rfl (by kernel_rfl) (by kernel_rfl) (by kernel_rfl) (by kernel_rfl) (by kernel_rfl) (by rw [hg]; rfl) (fun a F => ?_))
     refine l_pure 3 (fun L => (46, .bool true) :: (45, .agg #[.int .i64 mp.p.state, .slice mp.A1 ((edgesL mp.p.legs).length) mp.c1, .slice mp.A2 ((sidesL mp.p.legs).length) mp.c2, .slice mp.A3 ((amsL mp.p.legs).length) mp.c3]) :: (38, .tuple #[.agg #[.int .i64 mp.p.state, .slice mp.A1 ((edgesL mp.p.legs).length) mp.c1, .slice mp.A2 ((sidesL mp.p.legs).length) mp.c2, .slice mp.A3 ((amsL mp.p.legs).length) mp.c3], .bool true]) :: L) F (by kernel_rfl) fun a F => ?_
     refine l_do F rfl rfl (op_alloc S _ (.agg #[.int .i64 0, .slice none 0 0, .slice none 0 0, .slice none 0 0]) rfl (by kernel_rfl) fun b35 z S a F => ?_)
     refine l_do F rfl rfl (op_storeB S 7 _ _ _ b35 0 (.agg #[.int .i64 mp.p.state, .slice mp.A1 ((edgesL mp.p.legs).length) mp.c1, .slice mp.A2 ((sidesL mp.p.legs).length) mp.c2, .slice mp.A3 ((amsL mp.p.legs).length) mp.c3]) F rfl rfl (by kernel_rfl) (by kernel_rfl) (by kernel_rfl) (by kernel_rfl) (by kernel_rfl) fun z S a F => ?_)
     refine l_pure 1 (fun L => (12, .bool true) :: L) F (by kernel_rfl) fun a F => ?_
     refine l_then ?_
     refine s_reg ?_
     refine l_pure 1 (fun L => (47, .bool true) :: L) F (by kernel_rfl) fun a F => ?_
     refine l_then ?_
     refine c_t F rfl ?_
     refine s_reg ?_
     refine l_pure 1 (fun L => (10, .int .i64 7) :: L) F (by kernel_rfl) fun a F => ?_
     refine l_then ?_
     refine wp_ret ?_
     refine then_r (?_)
     exact fin F [.tmp 10] [.int .i64 7] rfl ⟨by kernel_rfl, trivial⟩ (.int .i64 7) rfl ⟨by rw [beg_twice (by omega) (by rw [hfn]; simp)], by rw [beg_twice (by omega) (by rw [hfn]; simp)]; exact (id_shut hps (by simp) (by simp) (by simp) (S.pick [0, 1, 2, 3, 4, 5, 6] (by decide)))⟩
 ·
  skip
  refine l_do F rfl rfl (op_pure F (v0 := .bool (((E.length : Nat) : Int) != ((A.length : Nat) : Int))) (v := .bool true) (by kernel_rfl) (neqT ht1) fun a F => ?_)
  refine l_pure 11 (fun L => (22, .bool true) :: (37, .bool true) :: (36, undef) :: (35, undef) :: (34, undef) :: (33, .bool true) :: (32, .bool true) :: (31, undef) :: (30, undef) :: (29, undef) :: (28, .bool true) :: L) F (by kernel_rfl) fun a F => ?_
  refine l_then ?_
  refine c_t F rfl ?_
  refine s_reg ?_
  refine l_pure 1 (fun L => (10, .int .i64 1) :: L) F (by kernel_rfl) fun a F => ?_
  refine l_then ?_
  refine wp_ret ?_
  refine inb_r (then_r (?_))
  exact fin F [.tmp 10] [.int .i64 1] rfl ⟨by kernel_rfl, trivial⟩ (.int .i64 1) rfl ⟨by rw [beg_arg (by omega)], by rw [beg_arg (by omega)]; exact (id_shut hps (by simp) (by simp) (by simp) (S.pick [0, 1, 2, 3, 4, 5, 6] (by decide)))⟩
end Go.Proofs.Ytecgpkjigbhneaa
