/- Walks over the document's logbook: Compact, Open. -/
import Derived.Test.YtidcdfilfccigaaRlh17
namespace Go.Proofs.Ytidcdfilfccigaa
set_option linter.unusedVariables false
set_option linter.unusedSimpArgs false
set_option linter.unnecessarySimpa false
open Go Go.RowKit

set_option maxRecDepth 100000 in
set_option maxHeartbeats 4000000 in
theorem rcomp0_at (w : World) (G : Nat → Prop) (b m0 m1 : Nat) (lif : Nat) (LL : List NV) (ded : Int) (sd0 sd1 : Sd) (N : Int) (in0 : sd0.In N) (in1 : sd1.In N) (hN : N ≤ 1000000) (hri : Rises LL) (hct : LL.length ≤ 900000) (hlif : lif < 4294967296) (hnm : ∀ x ∈ LL, x.1.length ≤ 255) (hvl : ∀ x ∈ LL, x.2.length ≤ 262144) (hS : Sat w w [rlA b m0 m1 ⟨0, lif, LL, ded⟩, rsA m0 sd0, rsA m1 sd1, rest w G]) : Calls Try.prog 27 #[pt b 0] w fun e w' => e = .returned (.int .i64 (compT ⟨⟨0, lif, LL, ded⟩, sd0, sd1⟩).1) ∧ Sat w w' [rlA b m0 m1 (compT ⟨⟨0, lif, LL, ded⟩, sd0, sd1⟩).2.lb, rsA m0 (compT ⟨⟨0, lif, LL, ded⟩, sd0, sd1⟩).2.s0, rsA m1 (compT ⟨⟨0, lif, LL, ded⟩, sd0, sd1⟩).2.s1, rest w G] := by
 refine enter 103 Try.func27 rfl rfl rfl fun a F => ?_
 obtain ⟨Al, cl, S⟩ := rl_open hS
 have S : Sat w w [rest w G, rsA m0 sd0, rsA m1 sd1, box b 91 [pt m0 0, pt m1 0, .int .i64 0, .int .u32 (lif : Nat), .slice Al LL.length cl, .int .i64 ded], row 100 2 (.slice Al LL.length cl) LL.length (LL.flatMap nvC)] := S
 have hb5 := be4_len (lif + 1)
 have hnm1 := prP_len (lif := lif) hnm hvl
 have hal := allP_len (lif := lif + 1) hnm hvl
 refine s_reg ?_
 refine l_pk 1 (fun L => (2, .int .i64 0) :: L) F fun a F => ?_
 refine l_then ?_
 refine wp_seq ?_
 refine s_reg ?_
 refine l_pk 3 (fun L => (9, pt b 5) :: (8, pt b 0) :: (7, pt b 0) :: L) F fun a F => ?_
 refine l_do F rfl rfl (op_ldk (some ⟨b, 0, none⟩) 5 (.int .i64 ded) F rfl (cBox S 3 rfl (j := 5) rfl) (fun a F => ?_))
 by_cases ht1 : (ded : Int) = (0 : Int)
 ·
  refine l_do F rfl rfl (op_pk F (v0 := .bool ((ded : Int) != (0 : Int))) (v := .bool false) (neqF ht1) fun a F => ?_)
  refine l_then ?_
  refine c_f F rfl ?_
  refine wp_skip ?_
  refine then_n ?_
  refine wp_seq ?_
  refine s_reg ?_
  refine l_pk 3 (fun L => (18, pt b 3) :: (17, pt b 0) :: (16, pt b 0) :: L) F fun a F => ?_
  refine l_do F rfl rfl (op_ldk (some ⟨b, 0, none⟩) 3 (.int .u32 (lif : Nat)) F rfl (cBox S 3 rfl (j := 3) rfl) (fun a F => ?_))
  by_cases ht2 : ((lif : Nat) : Int) = (4294967295 : Int)
  ·
   refine l_do F rfl rfl (op_pk F (v0 := .bool (((lif : Nat) : Int) == (4294967295 : Int))) (v := .bool true) (eqlT ht2) fun a F => ?_)
   refine l_then ?_
   refine c_t F rfl ?_
   refine s_reg ?_
   refine l_pk 1 (fun L => (2, .int .i64 8) :: L) F fun a F => ?_
   refine l_then ?_
   refine wp_ret ?_
   refine then_r (?_)
   exact fin F [.tmp 2] [.int .i64 8] rfl ⟨by kernel_rfl, trivial⟩ (.int .i64 8) rfl ⟨by rw [comp_last ht1 (by omega)], by rw [comp_last ht1 (by omega)]; exact (rl_shut rfl rfl (S.pick [0, 1, 2, 3, 4] (by decide)))⟩
  refine l_do F rfl rfl (op_pk F (v0 := .bool (((lif : Nat) : Int) == (4294967295 : Int))) (v := .bool false) (eqlF ht2) fun a F => ?_)
  refine l_then ?_
  refine c_f F rfl ?_
  refine wp_skip ?_
  refine then_n ?_
  refine s_reg ?_
  refine l_pk 3 (fun L => (23, pt b 3) :: (22, pt b 0) :: (21, pt b 0) :: L) F fun a F => ?_
  refine l_do F rfl rfl (op_ldk (some ⟨b, 0, none⟩) 3 (.int .u32 (lif : Nat)) F rfl (cBox S 3 rfl (j := 3) rfl) (fun a F => ?_))
  refine l_do F rfl rfl (op_pk F (v0 := .int .u64 (IntKind.wrap .u64 (lif : Nat))) (v := .int .u64 (lif : Nat)) (wr_u64 (by omega) (by omega)) fun a F => ?_)
  refine l_do F rfl rfl (op_pk F (v0 := .int .u64 (IntKind.wrap .u64 ((lif : Nat) + 1))) (v := .int .u64 (lif + 1 : Nat)) (wrn_u64 (by omega) (by omega) (by omega)) fun a F => ?_)
  refine l_do F rfl rfl (op_fn F (by kernel_rfl) (num17 _ (lif + 1) (by omega)) ?_)
  rintro e z ⟨An, cn, rfl, g⟩
  have S := S.pushThings g
  refine ⟨_, rfl, ?_⟩
  intro a F
  refine l_do F rfl rfl (op_tostr (Recs.ofRow (S.rowOf (i := 5) rfl) (by first | omega | decide | (simp only [List.length_cons, List.length_nil]; omega))) _ 5 _ _ F rfl (by kernel_rfl) (by kernel_rfl) (by kernel_rfl) (by kernel_rfl) (fun a F => ?_))
  refine l_do F rfl rfl (op_fn F (by kernel_rfl) (rrec_any _ 1 [] (be4 (lif + 1)) (by first | omega | (simp only [List.length_nil]; omega)) (by first | omega | (simp only [List.length_nil]; omega))) ?_)
  rintro e z ⟨Ar1, cr1, rfl, g⟩
  have S := S.pushThings g
  refine ⟨_, rfl, ?_⟩
  intro a F
  refine l_pk 1 (fun L => (3, .slice Ar1 ((recP 1 [] (be4 (lif + 1))).length) cr1) :: L) F fun a F => ?_
  refine l_then ?_
  refine wp_seq ?_
  refine s_reg ?_
  refine l_pk 1 (fun L => (4, .int .i64 0) :: L) F fun a F => ?_
  refine l_then ?_
  refine wp_block ?_
  rw [prP_zero lif LL] at S F
  refine wp_loop_m (fun m a z => ∃ (jj : Nat) (Ap : Option Addr) (cp : Nat), m = LL.length - jj ∧ (jj ≤ LL.length) ∧ Fr a 103 [(0, pt b 0), (3, .slice Ap ((prP lif LL jj).length) cp), (4, .int .i64 (jj : Nat))] ∧ Sat w z [rest w G, rsA m0 sd0, rsA m1 sd1, box b 91 [pt m0 0, pt m1 0, .int .i64 0, .int .u32 (lif : Nat), .slice Al LL.length cl, .int .i64 ded], row 100 2 (.slice Al LL.length cl) LL.length (LL.flatMap nvC), row 5 1 (.slice An ((be4 (lif + 1)).length) cn) ((be4 (lif + 1)).length) ((be4 (lif + 1)).flatMap yC), row 5 1 (.slice Ap ((prP lif LL jj).length) cp) ((prP lif LL jj).length) ((prP lif LL jj).flatMap yC)]) _ ⟨0, Ar1, cr1, rfl, Nat.zero_le _, F.subk, (S.pick [0, 1, 2, 3, 4, 5, 6] (by decide))⟩ ?_
  rintro m a z ⟨jj, Ap, cp, hm, hf3, F, S⟩
  have hjl := hf3
  refine wp_seq ?_
  refine s_reg ?_
  refine l_pk 4 (fun L => (33, pt b 4) :: (32, pt b 0) :: (31, pt b 0) :: (30, .int .i64 (jj : Nat)) :: L) F fun a F => ?_
  refine l_do F rfl rfl (op_ldk (some ⟨b, 0, none⟩) 4 (.slice Al LL.length cl) F rfl (cBox S 3 rfl (j := 4) rfl) (fun a F => ?_))
  refine l_pk 1 (fun L => (35, .int .i64 (LL.length : Nat)) :: L) F fun a F => ?_
  by_cases ht4 : ((jj : Nat) : Int) < ((LL.length : Nat) : Int)
  ·
   obtain ⟨y, hy⟩ : ∃ y, LL[jj]? = some y := ⟨_, List.getElem?_eq_getElem (by omega)⟩
   have hyl := recP_len 2 y.1 y.2
   have hy1 := hnm y (List.mem_of_getElem? hy)
   have hy2 := hvl y (List.mem_of_getElem? hy)
   have hpj := hnm1 jj
   refine l_do F rfl rfl (op_pk F (v0 := .bool (decide (((jj : Nat) : Int) < ((LL.length : Nat) : Int)))) (v := .bool true) (lssT ht4) fun a F => ?_)
   refine l_then ?_
   refine c_t F rfl ?_
   refine wp_skip ?_
   refine then_n ?_
   refine wp_seq ?_
   refine wp_block ?_
   have S := S.pushEmp
   refine region_gx (fun D => fun ((Ar2, cr2, A5, c6) : Option Addr × Nat × Option Addr × Nat) => [rest w G, rsA m0 sd0, rsA m1 sd1, box b 91 [pt m0 0, pt m1 0, .int .i64 0, .int .u32 (lif : Nat), .slice Al LL.length cl, .int .i64 ded], row 100 2 (.slice Al LL.length cl) LL.length (LL.flatMap nvC), row 5 1 (.slice An ((be4 (lif + 1)).length) cn) ((be4 (lif + 1)).length) ((be4 (lif + 1)).flatMap yC), bif D 18 then row 5 1 (.slice A5 (((prP lif LL jj) ++ (recP 2 y.1 y.2)).length) c6) (((prP lif LL jj) ++ (recP 2 y.1 y.2)).length) (((prP lif LL jj) ++ (recP 2 y.1 y.2)).flatMap yC) else row 5 1 (.slice Ap ((prP lif LL jj).length) cp) ((prP lif LL jj).length) ((prP lif LL jj).flatMap yC), bif D 17 then row 5 1 (.slice Ar2 ((recP 2 y.1 y.2).length) cr2) ((recP 2 y.1 y.2).length) ((recP 2 y.1 y.2).flatMap yC) else emp]) (fun ((Ar2, cr2, A5, c6) : Option Addr × Nat × Option Addr × Nat) => [.slice Ap ((prP lif LL jj).length) cp, pt b 0, pt b 0, pt b 4, .slice Al LL.length cl, .int .i64 (jj : Nat), ptrA Al (jj * 2), ptrA Al (jj * 2), strV y.1, pt b 0, pt b 0, pt b 4, .slice Al LL.length cl, .int .i64 (jj : Nat), ptrA Al (jj * 2), ptrA Al (jj * 2 + 1), strV y.2, .slice Ar2 ((recP 2 y.1 y.2).length) cr2, .slice A5 (((prP lif LL jj) ++ (recP 2 y.1 y.2)).length) c6, .slice A5 (((prP lif LL jj) ++ (recP 2 y.1 y.2)).length) c6]) [(4, [], [6, 7, 8, 17, 18]), (6, [4], [7, 8, 17, 18]), (7, [4, 6], [8, 17, 18]), (8, [4, 6, 7], [17, 18]), (12, [], [14, 15, 16, 17, 18]), (14, [12], [15, 16, 17, 18]), (15, [12, 14], [16, 17, 18]), (16, [12, 14, 15], [17, 18]), (17, [4, 6, 7, 8, 12, 14, 15, 16], [18]), (18, [4, 6, 7, 8, 12, 14, 15, 16, 17], [])] (none, 0, none, 0) rfl (by kernel_rfl) (by kernel_rfl) F S.drew ?_ ?_ ?_ ?_ ?_
   · rintro ⟨Ar2, cr2, A5, c6⟩; rfl
   ·
    rintro ⟨Ar2, cr2, A5, c6⟩
    refine Eq.trans (b := [some (.slice Ap ((prP lif LL jj).length) cp), some (pt b 0), some (pt b 0), some (pt b 4), none, some (.int .i64 (jj : Nat)), none, none, none, some (pt b 0), some (pt b 0), some (pt b 4), none, some (.int .i64 (jj : Nat)), none, none, none, none, none, some (.slice A5 (((prP lif LL jj) ++ (recP 2 y.1 y.2)).length) c6)]) ?_ ?_ <;> kernel_rfl
   ·
    intro D D' x h
    obtain ⟨Ar2, cr2, A5, c6⟩ := x
    simp only [h 17 (by decide), h 18 (by decide)]
   ·
    refine ⟨?_, ?_⟩
    ·
     refine ⟨_, rfl, rfl, by kernel_rfl, ?_⟩
     rintro D ⟨Ar2, cr2, A5, c6⟩ a z S F
     refine ⟨by kernel_rfl, ?_⟩
     exact op_ldk (some ⟨b, 0, none⟩) 4 (.slice Al LL.length cl) F rfl (cBox S 3 rfl (j := 4) rfl) (⟨(Ar2, cr2, A5, c6), rfl, (SameB.refl _ _ rfl), S⟩)
    refine ⟨?_, ?_⟩
    ·
     refine ⟨_, rfl, rfl, by kernel_rfl, ?_⟩
     rintro D ⟨Ar2, cr2, A5, c6⟩ a z S F
     refine ⟨by kernel_rfl, ?_⟩
     exact op_index _ 100 _ _ Al LL.length cl jj 2 .i64 F rfl (by kernel_rfl) (by kernel_rfl) (by kernel_rfl) (by kernel_rfl) (get_lt hy) (row_some S 4 rfl (m := jj) (get_lt hy)) (⟨(Ar2, cr2, A5, c6), rfl, (SameB.refl _ _ rfl), S⟩)
    refine ⟨?_, ?_⟩
    ·
     refine ⟨_, rfl, rfl, by kernel_rfl, ?_⟩
     rintro D ⟨Ar2, cr2, A5, c6⟩ a z S F
     refine ⟨by kernel_rfl, ?_⟩
     exact op_field _ _ _ Al (jj * 2) 0 F rfl (by kernel_rfl) (by kernel_rfl) (row_some S 4 rfl (m := jj) (get_lt hy)) (⟨(Ar2, cr2, A5, c6), rfl, (SameB.refl _ _ rfl), S⟩)
    refine ⟨?_, ?_⟩
    ·
     refine ⟨_, rfl, rfl, by kernel_rfl, ?_⟩
     rintro D ⟨Ar2, cr2, A5, c6⟩ a z S F
     refine ⟨by kernel_rfl, ?_⟩
     exact op_ldk Al (jj * 2) (strV y.1) F rfl (cRec S 4 nvC_len rfl 0 hy rfl) (⟨(Ar2, cr2, A5, c6), rfl, (SameB.refl _ _ rfl), S⟩)
    refine ⟨?_, ?_⟩
    ·
     refine ⟨_, rfl, rfl, by kernel_rfl, ?_⟩
     rintro D ⟨Ar2, cr2, A5, c6⟩ a z S F
     refine ⟨by kernel_rfl, ?_⟩
     exact op_ldk (some ⟨b, 0, none⟩) 4 (.slice Al LL.length cl) F rfl (cBox S 3 rfl (j := 4) rfl) (⟨(Ar2, cr2, A5, c6), rfl, (SameB.refl _ _ rfl), S⟩)
    refine ⟨?_, ?_⟩
    ·
     refine ⟨_, rfl, rfl, by kernel_rfl, ?_⟩
     rintro D ⟨Ar2, cr2, A5, c6⟩ a z S F
     refine ⟨by kernel_rfl, ?_⟩
     exact op_index _ 100 _ _ Al LL.length cl jj 2 .i64 F rfl (by kernel_rfl) (by kernel_rfl) (by kernel_rfl) (by kernel_rfl) (get_lt hy) (row_some S 4 rfl (m := jj) (get_lt hy)) (⟨(Ar2, cr2, A5, c6), rfl, (SameB.refl _ _ rfl), S⟩)
    refine ⟨?_, ?_⟩
    ·
     refine ⟨_, rfl, rfl, by kernel_rfl, ?_⟩
     rintro D ⟨Ar2, cr2, A5, c6⟩ a z S F
     refine ⟨by kernel_rfl, ?_⟩
     exact op_field _ _ _ Al (jj * 2) 1 F rfl (by kernel_rfl) (by kernel_rfl) (row_some S 4 rfl (m := jj) (get_lt hy)) (⟨(Ar2, cr2, A5, c6), rfl, (SameB.refl _ _ rfl), S⟩)
    refine ⟨?_, ?_⟩
    ·
     refine ⟨_, rfl, rfl, by kernel_rfl, ?_⟩
     rintro D ⟨Ar2, cr2, A5, c6⟩ a z S F
     refine ⟨by kernel_rfl, ?_⟩
     exact op_ldk Al (jj * 2 + 1) (strV y.2) F rfl (cRec S 4 nvC_len rfl 1 hy rfl) (⟨(Ar2, cr2, A5, c6), rfl, (SameB.refl _ _ rfl), S⟩)
    refine ⟨?_, ?_⟩
    ·
     refine ⟨_, rfl, rfl, by kernel_rfl, ?_⟩
     rintro D ⟨Ar2, cr2, A5, c6⟩ a z S F
     refine ⟨by kernel_rfl, ?_⟩
     refine op_fn F (by kernel_rfl) (rrec_any _ 2 y.1 y.2 (by first | omega | (simp only [List.length_nil]; omega)) (by first | omega | (simp only [List.length_nil]; omega))) ?_
     rintro e z ⟨y7, y8, rfl, g⟩
     have S := S.fillThing 7 rfl g
     exact ⟨_, rfl, (y7, y8, A5, c6), rfl, ⟨rfl, rfl, rfl, rfl, rfl, rfl, rfl, rfl, rfl, rfl, rfl, rfl, rfl, rfl, rfl, rfl, rfl, trivial, trivial, trivial, trivial⟩, S⟩
    refine ⟨?_, ?_⟩
    ·
     refine ⟨_, rfl, rfl, by kernel_rfl, ?_⟩
     rintro D ⟨Ar2, cr2, A5, c6⟩ a z S F
     refine ⟨by kernel_rfl, ?_⟩
     exact op_append S 6 _ _ _ 5 (.int .u8 0) 1 1 (prP lif LL jj) (recP 2 y.1 y.2) yC Ar2 cr2 F yC_len (fun _ => rfl) rfl rfl (by kernel_rfl) (by kernel_rfl) rfl rfl rfl (by kernel_rfl) (by kernel_rfl) (row_none (S.rowOf (i := 7) rfl)) (src_row (S.rowOf (i := 7) rfl)) (by first | omega | (simp <;> omega)) fun y9 y10 z S => ⟨(Ar2, cr2, y9, y10), rfl, ⟨rfl, rfl, rfl, rfl, rfl, rfl, rfl, rfl, rfl, rfl, rfl, rfl, rfl, rfl, rfl, rfl, rfl, rfl, trivial, trivial, trivial⟩, S⟩
    trivial
   rintro ⟨Ar2, cr2, A5, c6⟩ a z F S
   have F := F.subk (l := [(0, pt b 0), (3, .slice A5 (((prP lif LL jj) ++ (recP 2 y.1 y.2)).length) c6), (4, .int .i64 (jj : Nat))])
   have S : Sat w z [rest w G, rsA m0 sd0, rsA m1 sd1, box b 91 [pt m0 0, pt m1 0, .int .i64 0, .int .u32 (lif : Nat), .slice Al LL.length cl, .int .i64 ded], row 100 2 (.slice Al LL.length cl) LL.length (LL.flatMap nvC), row 5 1 (.slice An ((be4 (lif + 1)).length) cn) ((be4 (lif + 1)).length) ((be4 (lif + 1)).flatMap yC), row 5 1 (.slice A5 (((prP lif LL jj) ++ (recP 2 y.1 y.2)).length) c6) (((prP lif LL jj) ++ (recP 2 y.1 y.2)).length) (((prP lif LL jj) ++ (recP 2 y.1 y.2)).flatMap yC), row 5 1 (.slice Ar2 ((recP 2 y.1 y.2).length) cr2) ((recP 2 y.1 y.2).length) ((recP 2 y.1 y.2).flatMap yC)] := S
   refine inb_n ?_
   refine then_n ?_
   refine wp_region_list ?_
   refine l_pk 1 (fun L => (37, .int .i64 (jj : Nat)) :: L) F fun a F => ?_
   refine l_do F rfl rfl (op_pk F (v0 := .int .i64 (IntKind.wrap .i64 ((jj : Nat) + 1))) (v := .int .i64 (jj + 1 : Nat)) (wrn_i64 (by omega) (by omega) (by omega)) fun a F => ?_)
   refine l_pk 1 (fun L => (4, .int .i64 (jj + 1 : Nat)) :: L) F fun a F => ?_
   refine l_then ?_
   have ex := prP_succ (lif := lif) hy
   rw [ex] at S
   exact ⟨_, (by omega), (jj + 1), A5, c6, rfl, (by omega), F.sub ⟨by kernel_rfl, (by rw [← ex]; kernel_rfl), by kernel_rfl, trivial⟩, (S.pick [0, 1, 2, 3, 4, 5, 6] (by decide))⟩
  have hje : jj = LL.length := by omega
  have hpj := hnm1 jj
  have h4l := recP_len 4 [] []
  rw [List.length_nil] at h4l
  refine l_do F rfl rfl (op_pk F (v0 := .bool (decide (((jj : Nat) : Int) < ((LL.length : Nat) : Int)))) (v := .bool false) (lssF ht4) fun a F => ?_)
  refine l_then ?_
  refine c_f F rfl ?_
  refine wp_exit ?_
  refine then_x ?_
  refine then_x ?_
  refine inb_x ?_
  refine then_n ?_
  refine s_reg ?_
  refine l_pk 1 (fun L => (58, .slice Ap ((prP lif LL jj).length) cp) :: L) F fun a F => ?_
  refine l_do F rfl rfl (op_fn F (by kernel_rfl) (rrec_any _ 4 [] [] (by first | omega | (simp only [List.length_nil]; omega)) (by first | omega | (simp only [List.length_nil]; omega))) ?_)
  rintro e z ⟨Ar4, cr4, rfl, g⟩
  have S := S.pushThings g
  refine ⟨_, rfl, ?_⟩
  intro a F
  refine l_do F rfl rfl (op_append S 6 _ _ _ 5 (.int .u8 0) 1 1 (prP lif LL jj) (recP 4 [] []) yC Ar4 cr4 F yC_len (fun _ => rfl) rfl rfl (by kernel_rfl) (by kernel_rfl) rfl rfl rfl (by kernel_rfl) (by kernel_rfl) (row_none (S.rowOf (i := 7) rfl)) (src_row (S.rowOf (i := 7) rfl)) (by first | omega | (simp <;> omega)) fun A11 c12 z S a F => ?_)
  refine l_pk 1 (fun L => (3, .slice A11 (((prP lif LL jj) ++ (recP 4 [] [])).length) c12) :: L) F fun a F => ?_
  refine l_then ?_
  refine wp_seq ?_
  refine region_gx (fun D => fun (_ : Unit) => [rest w G, rsA m0 sd0, rsA m1 sd1, box b 91 [pt m0 0, pt m1 0, .int .i64 0, .int .u32 (lif : Nat), .slice Al LL.length cl, .int .i64 ded], row 100 2 (.slice Al LL.length cl) LL.length (LL.flatMap nvC), row 5 1 (.slice An ((be4 (lif + 1)).length) cn) ((be4 (lif + 1)).length) ((be4 (lif + 1)).flatMap yC), row 5 1 (.slice A11 (((prP lif LL jj) ++ (recP 4 [] [])).length) c12) (((prP lif LL jj) ++ (recP 4 [] [])).length) (((prP lif LL jj) ++ (recP 4 [] [])).flatMap yC), row 5 1 (.slice Ar4 ((recP 4 [] []).length) cr4) ((recP 4 [] []).length) ((recP 4 [] []).flatMap yC)]) (fun (_ : Unit) => [pt b 0, pt b 0, pt b 0, pt b 2, .int .i64 0, .int .i64 1, pt b 0, pt b 0, pt b 1, pt m1 0, pt m1 0]) [(4, [], [9]), (9, [4], [])] () rfl (by kernel_rfl) (by kernel_rfl) F S.drew ?_ ?_ ?_ ?_ ?_
  · rintro ⟨⟩; rfl
  · rintro ⟨⟩; kernel_rfl
  ·
   intro D D' x h
   cases x
   rfl
  ·
   refine ⟨?_, ?_⟩
   ·
    refine ⟨_, rfl, rfl, by kernel_rfl, ?_⟩
    rintro D ⟨⟩ a z S F
    refine ⟨by kernel_rfl, ?_⟩
    exact op_ldk (some ⟨b, 0, none⟩) 2 (.int .i64 0) F rfl (cBox S 3 rfl (j := 2) rfl) (⟨(), rfl, (SameB.refl _ _ rfl), S⟩)
   refine ⟨?_, ?_⟩
   ·
    refine ⟨_, rfl, rfl, by kernel_rfl, ?_⟩
    rintro D ⟨⟩ a z S F
    refine ⟨by kernel_rfl, ?_⟩
    exact op_ldk (some ⟨b, 0, none⟩) 1 (pt m1 0) F rfl (cBox S 3 rfl (j := 1) rfl) (⟨(), rfl, (SameB.refl _ _ rfl), S⟩)
   trivial
  rintro ⟨⟩ a z F S
  have F := F.subk (l := [(0, pt b 0), (3, .slice A11 (((prP lif LL jj) ++ (recP 4 [] [])).length) c12), (5, pt m1 0)])
  have S : Sat w z [rest w G, rsA m0 sd0, rsA m1 sd1, box b 91 [pt m0 0, pt m1 0, .int .i64 0, .int .u32 (lif : Nat), .slice Al LL.length cl, .int .i64 ded], row 100 2 (.slice Al LL.length cl) LL.length (LL.flatMap nvC), row 5 1 (.slice An ((be4 (lif + 1)).length) cn) ((be4 (lif + 1)).length) ((be4 (lif + 1)).flatMap yC), row 5 1 (.slice A11 (((prP lif LL jj) ++ (recP 4 [] [])).length) c12) (((prP lif LL jj) ++ (recP 4 [] [])).length) (((prP lif LL jj) ++ (recP 4 [] [])).flatMap yC), row 5 1 (.slice Ar4 ((recP 4 [] []).length) cr4) ((recP 4 [] []).length) ((recP 4 [] []).flatMap yC)] := S
  rw [prP_end hje] at S F
  refine then_n ?_
  refine s_reg ?_
  refine l_pk 1 (fun L => (71, pt m1 0) :: L) F fun a F => ?_
  refine l_do F rfl rfl (op_fn F (by kernel_rfl) (rerase_at S (i := 2) rfl (in1) (by omega)) ?_)
  rintro e z ⟨rfl, S⟩
  refine ⟨_, rfl, ?_⟩
  intro a F
  refine l_pk 1 (fun L => (6, .int .i64 sd1.stepE) :: L) F fun a F => ?_
  refine l_then ?_
  refine wp_seq ?_
  refine s_reg ?_
  refine l_pk 1 (fun L => (73, .int .i64 sd1.stepE) :: L) F fun a F => ?_
  by_cases ht13 : (sd1.stepE : Int) = (0 : Int)
  ·
   refine l_do F rfl rfl (op_pk F (v0 := .bool ((sd1.stepE : Int) == (0 : Int))) (v := .bool true) (eqlT ht13) fun a F => ?_)
   refine l_then ?_
   refine c_t F rfl ?_
   refine wp_region_list ?_
   refine l_pk 2 (fun L => (76, .slice A11 ((allP (lif + 1) LL).length) c12) :: (75, pt m1 0) :: L) F fun a F => ?_
   refine l_do F rfl rfl (op_fn F (by kernel_rfl) (rapp_at S (i := 2) rfl ((in1).ers) (by omega) (allP (lif + 1) LL) A11 c12 (Recs.ofRow (S.rowOf (i := 6) rfl) (by first | omega | decide | (simp only [List.length_cons, List.length_nil]; omega))) (away_row (j := 6) rfl (by decide))) ?_)
   rintro e z ⟨rfl, S⟩
   refine ⟨_, rfl, ?_⟩
   intro a F
   refine l_pk 1 (fun L => (6, .int .i64 (sd1.ers.appE (allP (lif + 1) LL).length)) :: L) F fun a F => ?_
   refine l_then ?_
   refine wp_seq ?_
   refine s_reg ?_
   refine l_pk 1 (fun L => (78, .int .i64 (sd1.ers.appE (allP (lif + 1) LL).length)) :: L) F fun a F => ?_
   by_cases ht14 : (sd1.ers.appE (allP (lif + 1) LL).length : Int) = (0 : Int)
   ·
    refine l_do F rfl rfl (op_pk F (v0 := .bool ((sd1.ers.appE (allP (lif + 1) LL).length : Int) == (0 : Int))) (v := .bool true) (eqlT ht14) fun a F => ?_)
    refine l_then ?_
    refine c_t F rfl ?_
    refine wp_region_list ?_
    refine l_pk 1 (fun L => (80, pt m1 0) :: L) F fun a F => ?_
    refine l_do F rfl rfl (op_fn F (by kernel_rfl) (rsync_at S (i := 2) rfl (((in1).ers).app _) (by omega)) ?_)
    rintro e z ⟨rfl, S⟩
    refine ⟨_, rfl, ?_⟩
    intro a F
    refine l_pk 1 (fun L => (6, .int .i64 ((sd1.ers.app (allP (lif + 1) LL)).stepE)) :: L) F fun a F => ?_
    refine l_then ?_
    refine wp_seq ?_
    refine s_reg ?_
    refine l_pk 1 (fun L => (82, .int .i64 ((sd1.ers.app (allP (lif + 1) LL)).stepE)) :: L) F fun a F => ?_
    by_cases ht15 : ((sd1.ers.app (allP (lif + 1) LL)).stepE : Int) = (0 : Int)
    ·
     refine l_do F rfl rfl (op_pk F (v0 := .bool (((sd1.ers.app (allP (lif + 1) LL)).stepE : Int) != (0 : Int))) (v := .bool false) (neqF ht15) fun a F => ?_)
     refine l_then ?_
     refine c_f F rfl ?_
     refine wp_skip ?_
     refine then_n ?_
     refine s_reg ?_
     refine l_pk 4 (fun L => (90, pt b 2) :: (89, pt b 0) :: (88, pt b 0) :: (87, pt b 0) :: L) F fun a F => ?_
     refine l_do F rfl rfl (op_ldk (some ⟨b, 0, none⟩) 2 (.int .i64 0) F rfl (cBox S 3 rfl (j := 2) rfl) (fun a F => ?_))
     refine l_pk 3 (fun L => (94, pt b 2) :: (93, pt b 0) :: (92, .int .i64 1) :: L) F fun a F => ?_
     refine l_do F rfl rfl (op_storeB S 3 _ _ _ b 2 (.int .i64 1) F rfl rfl (by kernel_rfl) (by kernel_rfl) (by kernel_rfl) (by kernel_rfl) (by kernel_rfl) fun z S a F => ?_)
     refine l_then ?_
     refine s_reg ?_
     refine l_pk 4 (fun L => (98, pt b 3) :: (97, pt b 0) :: (96, pt b 0) :: (95, pt b 0) :: L) F fun a F => ?_
     refine l_do F rfl rfl (op_ldk (some ⟨b, 0, none⟩) 3 (.int .u32 (lif : Nat)) F rfl (cBox S 3 rfl (j := 3) rfl) (fun a F => ?_))
     refine l_do F rfl rfl (op_pk F (v0 := .int .u32 (IntKind.wrap .u32 ((lif : Nat) + 1))) (v := .int .u32 (lif + 1 : Nat)) (wrn_u32 (by omega) (by omega) (by omega)) fun a F => ?_)
     refine l_pk 2 (fun L => (102, pt b 3) :: (101, pt b 0) :: L) F fun a F => ?_
     refine l_do F rfl rfl (op_storeB S 3 _ _ _ b 3 (.int .u32 (lif + 1 : Nat)) F rfl rfl (by kernel_rfl) (by kernel_rfl) (by kernel_rfl) (by kernel_rfl) (by kernel_rfl) fun z S a F => ?_)
     refine l_then ?_
     refine s_reg ?_
     refine l_pk 1 (fun L => (2, .int .i64 0) :: L) F fun a F => ?_
     refine l_then ?_
     refine wp_ret ?_
     exact fin F [.tmp 2] [.int .i64 0] rfl ⟨by kernel_rfl, trivial⟩ (.int .i64 0) rfl ⟨by rw [comp_ok0 ht1 (by omega) ht13 ht14 ht15], by rw [comp_ok0 ht1 (by omega) ht13 ht14 ht15]; exact (rl_shut rfl rfl (S.pick [0, 1, 2, 3, 4] (by decide)))⟩
    refine l_do F rfl rfl (op_pk F (v0 := .bool (((sd1.ers.app (allP (lif + 1) LL)).stepE : Int) != (0 : Int))) (v := .bool true) (neqT ht15) fun a F => ?_)
    refine l_then ?_
    refine c_t F rfl ?_
    refine s_reg ?_
    refine l_pk 2 (fun L => (85, .int .i64 ((sd1.ers.app (allP (lif + 1) LL)).stepE)) :: (84, pt b 0) :: L) F fun a F => ?_
    obtain ⟨G9, g9, hin9, hlt9, k9⟩ := S.frameB [3] (by decide) rfl
    refine l_do F rfl rfl (op_fn F (by kernel_rfl) (rfail_any _ G9 b (pt m0 0) (pt m1 0) (.int .i64 0) (.int .u32 (lif : Nat)) (.slice Al LL.length cl) ded ((sd1.ers.app (allP (lif + 1) LL)).stepE) g9) ?_)
    rintro e z9 ⟨rfl, g⟩
    have S : Sat w z9 [rest w G, rsA m0 sd0, rsA m1 (sd1.ers.app (allP (lif + 1) LL)).syn, box b 91 [pt m0 0, pt m1 0, .int .i64 0, .int .u32 (lif : Nat), .slice Al LL.length cl, .int .i64 (failD ded ((sd1.ers.app (allP (lif + 1) LL)).stepE))], row 100 2 (.slice Al LL.length cl) LL.length (LL.flatMap nvC), row 5 1 (.slice An ((be4 (lif + 1)).length) cn) ((be4 (lif + 1)).length) ((be4 (lif + 1)).flatMap yC), row 5 1 (.slice A11 ((allP (lif + 1) LL).length) c12) ((allP (lif + 1) LL).length) ((allP (lif + 1) LL).flatMap yC), row 5 1 (.slice Ar4 ((recP 4 [] []).length) cr4) ((recP 4 [] []).length) ((recP 4 [] []).flatMap yC)] := k9 z9 [box b 91 [pt m0 0, pt m1 0, .int .i64 0, .int .u32 (lif : Nat), .slice Al LL.length cl, .int .i64 (failD ded ((sd1.ers.app (allP (lif + 1) LL)).stepE))]] rfl g
    clear g g9 k9 hin9 hlt9
    refine ⟨_, rfl, ?_⟩
    intro a F
    refine l_pk 1 (fun L => (2, .int .i64 ((sd1.ers.app (allP (lif + 1) LL)).stepE)) :: L) F fun a F => ?_
    refine l_then ?_
    refine wp_ret ?_
    refine then_r (?_)
    exact fin F [.tmp 2] [.int .i64 ((sd1.ers.app (allP (lif + 1) LL)).stepE)] rfl ⟨by kernel_rfl, trivial⟩ (.int .i64 ((sd1.ers.app (allP (lif + 1) LL)).stepE)) rfl ⟨by rw [comp_s0 ht1 (by omega) ht13 ht14 ht15], by rw [comp_s0 ht1 (by omega) ht13 ht14 ht15]; exact (rl_shut rfl rfl (S.pick [0, 1, 2, 3, 4] (by decide)))⟩
   refine l_do F rfl rfl (op_pk F (v0 := .bool ((sd1.ers.appE (allP (lif + 1) LL).length : Int) == (0 : Int))) (v := .bool false) (eqlF ht14) fun a F => ?_)
   refine l_then ?_
   refine c_f F rfl ?_
   refine wp_skip ?_
   refine then_n ?_
   refine wp_seq ?_
   refine s_reg ?_
   refine l_pk 1 (fun L => (82, .int .i64 (sd1.ers.appE (allP (lif + 1) LL).length)) :: L) F fun a F => ?_
   refine l_do F rfl rfl (op_pk F (v0 := .bool ((sd1.ers.appE (allP (lif + 1) LL).length : Int) != (0 : Int))) (v := .bool true) (neqT ht14) fun a F => ?_)
   refine l_then ?_
   refine c_t F rfl ?_
   refine s_reg ?_
   refine l_pk 2 (fun L => (85, .int .i64 (sd1.ers.appE (allP (lif + 1) LL).length)) :: (84, pt b 0) :: L) F fun a F => ?_
   obtain ⟨G9, g9, hin9, hlt9, k9⟩ := S.frameB [3] (by decide) rfl
   refine l_do F rfl rfl (op_fn F (by kernel_rfl) (rfail_any _ G9 b (pt m0 0) (pt m1 0) (.int .i64 0) (.int .u32 (lif : Nat)) (.slice Al LL.length cl) ded (sd1.ers.appE (allP (lif + 1) LL).length) g9) ?_)
   rintro e z9 ⟨rfl, g⟩
   have S : Sat w z9 [rest w G, rsA m0 sd0, rsA m1 (sd1.ers.app (allP (lif + 1) LL)), box b 91 [pt m0 0, pt m1 0, .int .i64 0, .int .u32 (lif : Nat), .slice Al LL.length cl, .int .i64 (failD ded (sd1.ers.appE (allP (lif + 1) LL).length))], row 100 2 (.slice Al LL.length cl) LL.length (LL.flatMap nvC), row 5 1 (.slice An ((be4 (lif + 1)).length) cn) ((be4 (lif + 1)).length) ((be4 (lif + 1)).flatMap yC), row 5 1 (.slice A11 ((allP (lif + 1) LL).length) c12) ((allP (lif + 1) LL).length) ((allP (lif + 1) LL).flatMap yC), row 5 1 (.slice Ar4 ((recP 4 [] []).length) cr4) ((recP 4 [] []).length) ((recP 4 [] []).flatMap yC)] := k9 z9 [box b 91 [pt m0 0, pt m1 0, .int .i64 0, .int .u32 (lif : Nat), .slice Al LL.length cl, .int .i64 (failD ded (sd1.ers.appE (allP (lif + 1) LL).length))]] rfl g
   clear g g9 k9 hin9 hlt9
   refine ⟨_, rfl, ?_⟩
   intro a F
   refine l_pk 1 (fun L => (2, .int .i64 (sd1.ers.appE (allP (lif + 1) LL).length)) :: L) F fun a F => ?_
   refine l_then ?_
   refine wp_ret ?_
   refine then_r (?_)
   exact fin F [.tmp 2] [.int .i64 (sd1.ers.appE (allP (lif + 1) LL).length)] rfl ⟨by kernel_rfl, trivial⟩ (.int .i64 (sd1.ers.appE (allP (lif + 1) LL).length)) rfl ⟨by rw [comp_a0 ht1 (by omega) ht13 ht14], by rw [comp_a0 ht1 (by omega) ht13 ht14]; exact (rl_shut rfl rfl (S.pick [0, 1, 2, 3, 4] (by decide)))⟩
  refine l_do F rfl rfl (op_pk F (v0 := .bool ((sd1.stepE : Int) == (0 : Int))) (v := .bool false) (eqlF ht13) fun a F => ?_)
  refine l_then ?_
  refine c_f F rfl ?_
  refine wp_skip ?_
  refine then_n ?_
  refine wp_seq ?_
  refine s_reg ?_
  refine l_pk 1 (fun L => (78, .int .i64 sd1.stepE) :: L) F fun a F => ?_
  refine l_do F rfl rfl (op_pk F (v0 := .bool ((sd1.stepE : Int) == (0 : Int))) (v := .bool false) (eqlF ht13) fun a F => ?_)
  refine l_then ?_
  refine c_f F rfl ?_
  refine wp_skip ?_
  refine then_n ?_
  refine wp_seq ?_
  refine s_reg ?_
  refine l_pk 1 (fun L => (82, .int .i64 sd1.stepE) :: L) F fun a F => ?_
  refine l_do F rfl rfl (op_pk F (v0 := .bool ((sd1.stepE : Int) != (0 : Int))) (v := .bool true) (neqT ht13) fun a F => ?_)
  refine l_then ?_
  refine c_t F rfl ?_
  refine s_reg ?_
  refine l_pk 2 (fun L => (85, .int .i64 sd1.stepE) :: (84, pt b 0) :: L) F fun a F => ?_
  obtain ⟨G9, g9, hin9, hlt9, k9⟩ := S.frameB [3] (by decide) rfl
  refine l_do F rfl rfl (op_fn F (by kernel_rfl) (rfail_any _ G9 b (pt m0 0) (pt m1 0) (.int .i64 0) (.int .u32 (lif : Nat)) (.slice Al LL.length cl) ded sd1.stepE g9) ?_)
  rintro e z9 ⟨rfl, g⟩
  have S : Sat w z9 [rest w G, rsA m0 sd0, rsA m1 sd1.ers, box b 91 [pt m0 0, pt m1 0, .int .i64 0, .int .u32 (lif : Nat), .slice Al LL.length cl, .int .i64 (failD ded sd1.stepE)], row 100 2 (.slice Al LL.length cl) LL.length (LL.flatMap nvC), row 5 1 (.slice An ((be4 (lif + 1)).length) cn) ((be4 (lif + 1)).length) ((be4 (lif + 1)).flatMap yC), row 5 1 (.slice A11 ((allP (lif + 1) LL).length) c12) ((allP (lif + 1) LL).length) ((allP (lif + 1) LL).flatMap yC), row 5 1 (.slice Ar4 ((recP 4 [] []).length) cr4) ((recP 4 [] []).length) ((recP 4 [] []).flatMap yC)] := k9 z9 [box b 91 [pt m0 0, pt m1 0, .int .i64 0, .int .u32 (lif : Nat), .slice Al LL.length cl, .int .i64 (failD ded sd1.stepE)]] rfl g
  clear g g9 k9 hin9 hlt9
  refine ⟨_, rfl, ?_⟩
  intro a F
  refine l_pk 1 (fun L => (2, .int .i64 sd1.stepE) :: L) F fun a F => ?_
  refine l_then ?_
  refine wp_ret ?_
  refine then_r (?_)
  exact fin F [.tmp 2] [.int .i64 sd1.stepE] rfl ⟨by kernel_rfl, trivial⟩ (.int .i64 sd1.stepE) rfl ⟨by rw [comp_e0 ht1 (by omega) ht13], by rw [comp_e0 ht1 (by omega) ht13]; exact (rl_shut rfl rfl (S.pick [0, 1, 2, 3, 4] (by decide)))⟩
 refine l_do F rfl rfl (op_pk F (v0 := .bool ((ded : Int) != (0 : Int))) (v := .bool true) (neqT ht1) fun a F => ?_)
 refine l_then ?_
 refine c_t F rfl ?_
 refine s_reg ?_
 refine l_pk 3 (fun L => (14, pt b 5) :: (13, pt b 0) :: (12, pt b 0) :: L) F fun a F => ?_
 refine l_do F rfl rfl (op_ldk (some ⟨b, 0, none⟩) 5 (.int .i64 ded) F rfl (cBox S 3 rfl (j := 5) rfl) (fun a F => ?_))
 refine l_pk 1 (fun L => (2, .int .i64 ded) :: L) F fun a F => ?_
 refine l_then ?_
 refine wp_ret ?_
 refine then_r (?_)
 exact fin F [.tmp 2] [.int .i64 ded] rfl ⟨by kernel_rfl, trivial⟩ (.int .i64 ded) rfl ⟨by rw [comp_dead ht1], by rw [comp_dead ht1]; exact (rl_shut rfl rfl (S.pick [0, 1, 2, 3, 4] (by decide)))⟩
set_option maxRecDepth 100000 in
set_option maxHeartbeats 4000000 in
theorem rcomp1_at (w : World) (G : Nat → Prop) (b m0 m1 : Nat) (lif : Nat) (LL : List NV) (ded : Int) (sd0 sd1 : Sd) (N : Int) (in0 : sd0.In N) (in1 : sd1.In N) (hN : N ≤ 1000000) (hri : Rises LL) (hct : LL.length ≤ 900000) (hlif : lif < 4294967296) (hnm : ∀ x ∈ LL, x.1.length ≤ 255) (hvl : ∀ x ∈ LL, x.2.length ≤ 262144) (hS : Sat w w [rlA b m0 m1 ⟨1, lif, LL, ded⟩, rsA m0 sd0, rsA m1 sd1, rest w G]) : Calls Try.prog 27 #[pt b 0] w fun e w' => e = .returned (.int .i64 (compT ⟨⟨1, lif, LL, ded⟩, sd0, sd1⟩).1) ∧ Sat w w' [rlA b m0 m1 (compT ⟨⟨1, lif, LL, ded⟩, sd0, sd1⟩).2.lb, rsA m0 (compT ⟨⟨1, lif, LL, ded⟩, sd0, sd1⟩).2.s0, rsA m1 (compT ⟨⟨1, lif, LL, ded⟩, sd0, sd1⟩).2.s1, rest w G] := by
 refine enter 103 Try.func27 rfl rfl rfl fun a F => ?_
 obtain ⟨Al, cl, S⟩ := rl_open hS
 have S : Sat w w [rest w G, rsA m0 sd0, rsA m1 sd1, box b 91 [pt m0 0, pt m1 0, .int .i64 1, .int .u32 (lif : Nat), .slice Al LL.length cl, .int .i64 ded], row 100 2 (.slice Al LL.length cl) LL.length (LL.flatMap nvC)] := S
 have hb5 := be4_len (lif + 1)
 have hnm1 := prP_len (lif := lif) hnm hvl
 have hal := allP_len (lif := lif + 1) hnm hvl
 refine s_reg ?_
 refine l_pk 1 (fun L => (2, .int .i64 0) :: L) F fun a F => ?_
 refine l_then ?_
 refine wp_seq ?_
 refine s_reg ?_
 refine l_pk 3 (fun L => (9, pt b 5) :: (8, pt b 0) :: (7, pt b 0) :: L) F fun a F => ?_
 refine l_do F rfl rfl (op_ldk (some ⟨b, 0, none⟩) 5 (.int .i64 ded) F rfl (cBox S 3 rfl (j := 5) rfl) (fun a F => ?_))
 by_cases ht1 : (ded : Int) = (0 : Int)
 ·
  refine l_do F rfl rfl (op_pk F (v0 := .bool ((ded : Int) != (0 : Int))) (v := .bool false) (neqF ht1) fun a F => ?_)
  refine l_then ?_
  refine c_f F rfl ?_
  refine wp_skip ?_
  refine then_n ?_
  refine wp_seq ?_
  refine s_reg ?_
  refine l_pk 3 (fun L => (18, pt b 3) :: (17, pt b 0) :: (16, pt b 0) :: L) F fun a F => ?_
  refine l_do F rfl rfl (op_ldk (some ⟨b, 0, none⟩) 3 (.int .u32 (lif : Nat)) F rfl (cBox S 3 rfl (j := 3) rfl) (fun a F => ?_))
  by_cases ht2 : ((lif : Nat) : Int) = (4294967295 : Int)
  ·
   refine l_do F rfl rfl (op_pk F (v0 := .bool (((lif : Nat) : Int) == (4294967295 : Int))) (v := .bool true) (eqlT ht2) fun a F => ?_)
   refine l_then ?_
   refine c_t F rfl ?_
   refine s_reg ?_
   refine l_pk 1 (fun L => (2, .int .i64 8) :: L) F fun a F => ?_
   refine l_then ?_
   refine wp_ret ?_
   refine then_r (?_)
   exact fin F [.tmp 2] [.int .i64 8] rfl ⟨by kernel_rfl, trivial⟩ (.int .i64 8) rfl ⟨by rw [comp_last ht1 (by omega)], by rw [comp_last ht1 (by omega)]; exact (rl_shut rfl rfl (S.pick [0, 1, 2, 3, 4] (by decide)))⟩
  refine l_do F rfl rfl (op_pk F (v0 := .bool (((lif : Nat) : Int) == (4294967295 : Int))) (v := .bool false) (eqlF ht2) fun a F => ?_)
  refine l_then ?_
  refine c_f F rfl ?_
  refine wp_skip ?_
  refine then_n ?_
  refine s_reg ?_
  refine l_pk 3 (fun L => (23, pt b 3) :: (22, pt b 0) :: (21, pt b 0) :: L) F fun a F => ?_
  refine l_do F rfl rfl (op_ldk (some ⟨b, 0, none⟩) 3 (.int .u32 (lif : Nat)) F rfl (cBox S 3 rfl (j := 3) rfl) (fun a F => ?_))
  refine l_do F rfl rfl (op_pk F (v0 := .int .u64 (IntKind.wrap .u64 (lif : Nat))) (v := .int .u64 (lif : Nat)) (wr_u64 (by omega) (by omega)) fun a F => ?_)
  refine l_do F rfl rfl (op_pk F (v0 := .int .u64 (IntKind.wrap .u64 ((lif : Nat) + 1))) (v := .int .u64 (lif + 1 : Nat)) (wrn_u64 (by omega) (by omega) (by omega)) fun a F => ?_)
  refine l_do F rfl rfl (op_fn F (by kernel_rfl) (num17 _ (lif + 1) (by omega)) ?_)
  rintro e z ⟨An, cn, rfl, g⟩
  have S := S.pushThings g
  refine ⟨_, rfl, ?_⟩
  intro a F
  refine l_do F rfl rfl (op_tostr (Recs.ofRow (S.rowOf (i := 5) rfl) (by first | omega | decide | (simp only [List.length_cons, List.length_nil]; omega))) _ 5 _ _ F rfl (by kernel_rfl) (by kernel_rfl) (by kernel_rfl) (by kernel_rfl) (fun a F => ?_))
  refine l_do F rfl rfl (op_fn F (by kernel_rfl) (rrec_any _ 1 [] (be4 (lif + 1)) (by first | omega | (simp only [List.length_nil]; omega)) (by first | omega | (simp only [List.length_nil]; omega))) ?_)
  rintro e z ⟨Ar1, cr1, rfl, g⟩
  have S := S.pushThings g
  refine ⟨_, rfl, ?_⟩
  intro a F
  refine l_pk 1 (fun L => (3, .slice Ar1 ((recP 1 [] (be4 (lif + 1))).length) cr1) :: L) F fun a F => ?_
  refine l_then ?_
  refine wp_seq ?_
  refine s_reg ?_
  refine l_pk 1 (fun L => (4, .int .i64 0) :: L) F fun a F => ?_
  refine l_then ?_
  refine wp_block ?_
  rw [prP_zero lif LL] at S F
  refine wp_loop_m (fun m a z => ∃ (jj : Nat) (Ap : Option Addr) (cp : Nat), m = LL.length - jj ∧ (jj ≤ LL.length) ∧ Fr a 103 [(0, pt b 0), (3, .slice Ap ((prP lif LL jj).length) cp), (4, .int .i64 (jj : Nat))] ∧ Sat w z [rest w G, rsA m0 sd0, rsA m1 sd1, box b 91 [pt m0 0, pt m1 0, .int .i64 1, .int .u32 (lif : Nat), .slice Al LL.length cl, .int .i64 ded], row 100 2 (.slice Al LL.length cl) LL.length (LL.flatMap nvC), row 5 1 (.slice An ((be4 (lif + 1)).length) cn) ((be4 (lif + 1)).length) ((be4 (lif + 1)).flatMap yC), row 5 1 (.slice Ap ((prP lif LL jj).length) cp) ((prP lif LL jj).length) ((prP lif LL jj).flatMap yC)]) _ ⟨0, Ar1, cr1, rfl, Nat.zero_le _, F.subk, (S.pick [0, 1, 2, 3, 4, 5, 6] (by decide))⟩ ?_
  rintro m a z ⟨jj, Ap, cp, hm, hf3, F, S⟩
  have hjl := hf3
  refine wp_seq ?_
  refine s_reg ?_
  refine l_pk 4 (fun L => (33, pt b 4) :: (32, pt b 0) :: (31, pt b 0) :: (30, .int .i64 (jj : Nat)) :: L) F fun a F => ?_
  refine l_do F rfl rfl (op_ldk (some ⟨b, 0, none⟩) 4 (.slice Al LL.length cl) F rfl (cBox S 3 rfl (j := 4) rfl) (fun a F => ?_))
  refine l_pk 1 (fun L => (35, .int .i64 (LL.length : Nat)) :: L) F fun a F => ?_
  by_cases ht4 : ((jj : Nat) : Int) < ((LL.length : Nat) : Int)
  ·
   obtain ⟨y, hy⟩ : ∃ y, LL[jj]? = some y := ⟨_, List.getElem?_eq_getElem (by omega)⟩
   have hyl := recP_len 2 y.1 y.2
   have hy1 := hnm y (List.mem_of_getElem? hy)
   have hy2 := hvl y (List.mem_of_getElem? hy)
   have hpj := hnm1 jj
   refine l_do F rfl rfl (op_pk F (v0 := .bool (decide (((jj : Nat) : Int) < ((LL.length : Nat) : Int)))) (v := .bool true) (lssT ht4) fun a F => ?_)
   refine l_then ?_
   refine c_t F rfl ?_
   refine wp_skip ?_
   refine then_n ?_
   refine wp_seq ?_
   refine wp_block ?_
   have S := S.pushEmp
   refine region_gx (fun D => fun ((Ar2, cr2, A5, c6) : Option Addr × Nat × Option Addr × Nat) => [rest w G, rsA m0 sd0, rsA m1 sd1, box b 91 [pt m0 0, pt m1 0, .int .i64 1, .int .u32 (lif : Nat), .slice Al LL.length cl, .int .i64 ded], row 100 2 (.slice Al LL.length cl) LL.length (LL.flatMap nvC), row 5 1 (.slice An ((be4 (lif + 1)).length) cn) ((be4 (lif + 1)).length) ((be4 (lif + 1)).flatMap yC), bif D 18 then row 5 1 (.slice A5 (((prP lif LL jj) ++ (recP 2 y.1 y.2)).length) c6) (((prP lif LL jj) ++ (recP 2 y.1 y.2)).length) (((prP lif LL jj) ++ (recP 2 y.1 y.2)).flatMap yC) else row 5 1 (.slice Ap ((prP lif LL jj).length) cp) ((prP lif LL jj).length) ((prP lif LL jj).flatMap yC), bif D 17 then row 5 1 (.slice Ar2 ((recP 2 y.1 y.2).length) cr2) ((recP 2 y.1 y.2).length) ((recP 2 y.1 y.2).flatMap yC) else emp]) (fun ((Ar2, cr2, A5, c6) : Option Addr × Nat × Option Addr × Nat) => [.slice Ap ((prP lif LL jj).length) cp, pt b 0, pt b 0, pt b 4, .slice Al LL.length cl, .int .i64 (jj : Nat), ptrA Al (jj * 2), ptrA Al (jj * 2), strV y.1, pt b 0, pt b 0, pt b 4, .slice Al LL.length cl, .int .i64 (jj : Nat), ptrA Al (jj * 2), ptrA Al (jj * 2 + 1), strV y.2, .slice Ar2 ((recP 2 y.1 y.2).length) cr2, .slice A5 (((prP lif LL jj) ++ (recP 2 y.1 y.2)).length) c6, .slice A5 (((prP lif LL jj) ++ (recP 2 y.1 y.2)).length) c6]) [(4, [], [6, 7, 8, 17, 18]), (6, [4], [7, 8, 17, 18]), (7, [4, 6], [8, 17, 18]), (8, [4, 6, 7], [17, 18]), (12, [], [14, 15, 16, 17, 18]), (14, [12], [15, 16, 17, 18]), (15, [12, 14], [16, 17, 18]), (16, [12, 14, 15], [17, 18]), (17, [4, 6, 7, 8, 12, 14, 15, 16], [18]), (18, [4, 6, 7, 8, 12, 14, 15, 16, 17], [])] (none, 0, none, 0) rfl (by kernel_rfl) (by kernel_rfl) F S.drew ?_ ?_ ?_ ?_ ?_
   · rintro ⟨Ar2, cr2, A5, c6⟩; rfl
   ·
    rintro ⟨Ar2, cr2, A5, c6⟩
    refine Eq.trans (b := [some (.slice Ap ((prP lif LL jj).length) cp), some (pt b 0), some (pt b 0), some (pt b 4), none, some (.int .i64 (jj : Nat)), none, none, none, some (pt b 0), some (pt b 0), some (pt b 4), none, some (.int .i64 (jj : Nat)), none, none, none, none, none, some (.slice A5 (((prP lif LL jj) ++ (recP 2 y.1 y.2)).length) c6)]) ?_ ?_ <;> kernel_rfl
   ·
    intro D D' x h
    obtain ⟨Ar2, cr2, A5, c6⟩ := x
    simp only [h 17 (by decide), h 18 (by decide)]
   ·
    refine ⟨?_, ?_⟩
    ·
     refine ⟨_, rfl, rfl, by kernel_rfl, ?_⟩
     rintro D ⟨Ar2, cr2, A5, c6⟩ a z S F
     refine ⟨by kernel_rfl, ?_⟩
     exact op_ldk (some ⟨b, 0, none⟩) 4 (.slice Al LL.length cl) F rfl (cBox S 3 rfl (j := 4) rfl) (⟨(Ar2, cr2, A5, c6), rfl, (SameB.refl _ _ rfl), S⟩)
    refine ⟨?_, ?_⟩
    ·
     refine ⟨_, rfl, rfl, by kernel_rfl, ?_⟩
     rintro D ⟨Ar2, cr2, A5, c6⟩ a z S F
     refine ⟨by kernel_rfl, ?_⟩
     exact op_index _ 100 _ _ Al LL.length cl jj 2 .i64 F rfl (by kernel_rfl) (by kernel_rfl) (by kernel_rfl) (by kernel_rfl) (get_lt hy) (row_some S 4 rfl (m := jj) (get_lt hy)) (⟨(Ar2, cr2, A5, c6), rfl, (SameB.refl _ _ rfl), S⟩)
    refine ⟨?_, ?_⟩
    ·
     refine ⟨_, rfl, rfl, by kernel_rfl, ?_⟩
     rintro D ⟨Ar2, cr2, A5, c6⟩ a z S F
     refine ⟨by kernel_rfl, ?_⟩
     exact op_field _ _ _ Al (jj * 2) 0 F rfl (by kernel_rfl) (by kernel_rfl) (row_some S 4 rfl (m := jj) (get_lt hy)) (⟨(Ar2, cr2, A5, c6), rfl, (SameB.refl _ _ rfl), S⟩)
    refine ⟨?_, ?_⟩
    ·
     refine ⟨_, rfl, rfl, by kernel_rfl, ?_⟩
     rintro D ⟨Ar2, cr2, A5, c6⟩ a z S F
     refine ⟨by kernel_rfl, ?_⟩
     exact op_ldk Al (jj * 2) (strV y.1) F rfl (cRec S 4 nvC_len rfl 0 hy rfl) (⟨(Ar2, cr2, A5, c6), rfl, (SameB.refl _ _ rfl), S⟩)
    refine ⟨?_, ?_⟩
    ·
     refine ⟨_, rfl, rfl, by kernel_rfl, ?_⟩
     rintro D ⟨Ar2, cr2, A5, c6⟩ a z S F
     refine ⟨by kernel_rfl, ?_⟩
     exact op_ldk (some ⟨b, 0, none⟩) 4 (.slice Al LL.length cl) F rfl (cBox S 3 rfl (j := 4) rfl) (⟨(Ar2, cr2, A5, c6), rfl, (SameB.refl _ _ rfl), S⟩)
    refine ⟨?_, ?_⟩
    ·
     refine ⟨_, rfl, rfl, by kernel_rfl, ?_⟩
     rintro D ⟨Ar2, cr2, A5, c6⟩ a z S F
     refine ⟨by kernel_rfl, ?_⟩
     exact op_index _ 100 _ _ Al LL.length cl jj 2 .i64 F rfl (by kernel_rfl) (by kernel_rfl) (by kernel_rfl) (by kernel_rfl) (get_lt hy) (row_some S 4 rfl (m := jj) (get_lt hy)) (⟨(Ar2, cr2, A5, c6), rfl, (SameB.refl _ _ rfl), S⟩)
    refine ⟨?_, ?_⟩
    ·
     refine ⟨_, rfl, rfl, by kernel_rfl, ?_⟩
     rintro D ⟨Ar2, cr2, A5, c6⟩ a z S F
     refine ⟨by kernel_rfl, ?_⟩
     exact op_field _ _ _ Al (jj * 2) 1 F rfl (by kernel_rfl) (by kernel_rfl) (row_some S 4 rfl (m := jj) (get_lt hy)) (⟨(Ar2, cr2, A5, c6), rfl, (SameB.refl _ _ rfl), S⟩)
    refine ⟨?_, ?_⟩
    ·
     refine ⟨_, rfl, rfl, by kernel_rfl, ?_⟩
     rintro D ⟨Ar2, cr2, A5, c6⟩ a z S F
     refine ⟨by kernel_rfl, ?_⟩
     exact op_ldk Al (jj * 2 + 1) (strV y.2) F rfl (cRec S 4 nvC_len rfl 1 hy rfl) (⟨(Ar2, cr2, A5, c6), rfl, (SameB.refl _ _ rfl), S⟩)
    refine ⟨?_, ?_⟩
    ·
     refine ⟨_, rfl, rfl, by kernel_rfl, ?_⟩
     rintro D ⟨Ar2, cr2, A5, c6⟩ a z S F
     refine ⟨by kernel_rfl, ?_⟩
     refine op_fn F (by kernel_rfl) (rrec_any _ 2 y.1 y.2 (by first | omega | (simp only [List.length_nil]; omega)) (by first | omega | (simp only [List.length_nil]; omega))) ?_
     rintro e z ⟨y7, y8, rfl, g⟩
     have S := S.fillThing 7 rfl g
     exact ⟨_, rfl, (y7, y8, A5, c6), rfl, ⟨rfl, rfl, rfl, rfl, rfl, rfl, rfl, rfl, rfl, rfl, rfl, rfl, rfl, rfl, rfl, rfl, rfl, trivial, trivial, trivial, trivial⟩, S⟩
    refine ⟨?_, ?_⟩
    ·
     refine ⟨_, rfl, rfl, by kernel_rfl, ?_⟩
     rintro D ⟨Ar2, cr2, A5, c6⟩ a z S F
     refine ⟨by kernel_rfl, ?_⟩
     exact op_append S 6 _ _ _ 5 (.int .u8 0) 1 1 (prP lif LL jj) (recP 2 y.1 y.2) yC Ar2 cr2 F yC_len (fun _ => rfl) rfl rfl (by kernel_rfl) (by kernel_rfl) rfl rfl rfl (by kernel_rfl) (by kernel_rfl) (row_none (S.rowOf (i := 7) rfl)) (src_row (S.rowOf (i := 7) rfl)) (by first | omega | (simp <;> omega)) fun y9 y10 z S => ⟨(Ar2, cr2, y9, y10), rfl, ⟨rfl, rfl, rfl, rfl, rfl, rfl, rfl, rfl, rfl, rfl, rfl, rfl, rfl, rfl, rfl, rfl, rfl, rfl, trivial, trivial, trivial⟩, S⟩
    trivial
   rintro ⟨Ar2, cr2, A5, c6⟩ a z F S
   have F := F.subk (l := [(0, pt b 0), (3, .slice A5 (((prP lif LL jj) ++ (recP 2 y.1 y.2)).length) c6), (4, .int .i64 (jj : Nat))])
   have S : Sat w z [rest w G, rsA m0 sd0, rsA m1 sd1, box b 91 [pt m0 0, pt m1 0, .int .i64 1, .int .u32 (lif : Nat), .slice Al LL.length cl, .int .i64 ded], row 100 2 (.slice Al LL.length cl) LL.length (LL.flatMap nvC), row 5 1 (.slice An ((be4 (lif + 1)).length) cn) ((be4 (lif + 1)).length) ((be4 (lif + 1)).flatMap yC), row 5 1 (.slice A5 (((prP lif LL jj) ++ (recP 2 y.1 y.2)).length) c6) (((prP lif LL jj) ++ (recP 2 y.1 y.2)).length) (((prP lif LL jj) ++ (recP 2 y.1 y.2)).flatMap yC), row 5 1 (.slice Ar2 ((recP 2 y.1 y.2).length) cr2) ((recP 2 y.1 y.2).length) ((recP 2 y.1 y.2).flatMap yC)] := S
   refine inb_n ?_
   refine then_n ?_
   refine wp_region_list ?_
   refine l_pk 1 (fun L => (37, .int .i64 (jj : Nat)) :: L) F fun a F => ?_
   refine l_do F rfl rfl (op_pk F (v0 := .int .i64 (IntKind.wrap .i64 ((jj : Nat) + 1))) (v := .int .i64 (jj + 1 : Nat)) (wrn_i64 (by omega) (by omega) (by omega)) fun a F => ?_)
   refine l_pk 1 (fun L => (4, .int .i64 (jj + 1 : Nat)) :: L) F fun a F => ?_
   refine l_then ?_
   have ex := prP_succ (lif := lif) hy
   rw [ex] at S
   exact ⟨_, (by omega), (jj + 1), A5, c6, rfl, (by omega), F.sub ⟨by kernel_rfl, (by rw [← ex]; kernel_rfl), by kernel_rfl, trivial⟩, (S.pick [0, 1, 2, 3, 4, 5, 6] (by decide))⟩
  have hje : jj = LL.length := by omega
  have hpj := hnm1 jj
  have h4l := recP_len 4 [] []
  rw [List.length_nil] at h4l
  refine l_do F rfl rfl (op_pk F (v0 := .bool (decide (((jj : Nat) : Int) < ((LL.length : Nat) : Int)))) (v := .bool false) (lssF ht4) fun a F => ?_)
  refine l_then ?_
  refine c_f F rfl ?_
  refine wp_exit ?_
  refine then_x ?_
  refine then_x ?_
  refine inb_x ?_
  refine then_n ?_
  refine s_reg ?_
  refine l_pk 1 (fun L => (58, .slice Ap ((prP lif LL jj).length) cp) :: L) F fun a F => ?_
  refine l_do F rfl rfl (op_fn F (by kernel_rfl) (rrec_any _ 4 [] [] (by first | omega | (simp only [List.length_nil]; omega)) (by first | omega | (simp only [List.length_nil]; omega))) ?_)
  rintro e z ⟨Ar4, cr4, rfl, g⟩
  have S := S.pushThings g
  refine ⟨_, rfl, ?_⟩
  intro a F
  refine l_do F rfl rfl (op_append S 6 _ _ _ 5 (.int .u8 0) 1 1 (prP lif LL jj) (recP 4 [] []) yC Ar4 cr4 F yC_len (fun _ => rfl) rfl rfl (by kernel_rfl) (by kernel_rfl) rfl rfl rfl (by kernel_rfl) (by kernel_rfl) (row_none (S.rowOf (i := 7) rfl)) (src_row (S.rowOf (i := 7) rfl)) (by first | omega | (simp <;> omega)) fun A11 c12 z S a F => ?_)
  refine l_pk 1 (fun L => (3, .slice A11 (((prP lif LL jj) ++ (recP 4 [] [])).length) c12) :: L) F fun a F => ?_
  refine l_then ?_
  refine wp_seq ?_
  refine region_gx (fun D => fun (_ : Unit) => [rest w G, rsA m0 sd0, rsA m1 sd1, box b 91 [pt m0 0, pt m1 0, .int .i64 1, .int .u32 (lif : Nat), .slice Al LL.length cl, .int .i64 ded], row 100 2 (.slice Al LL.length cl) LL.length (LL.flatMap nvC), row 5 1 (.slice An ((be4 (lif + 1)).length) cn) ((be4 (lif + 1)).length) ((be4 (lif + 1)).flatMap yC), row 5 1 (.slice A11 (((prP lif LL jj) ++ (recP 4 [] [])).length) c12) (((prP lif LL jj) ++ (recP 4 [] [])).length) (((prP lif LL jj) ++ (recP 4 [] [])).flatMap yC), row 5 1 (.slice Ar4 ((recP 4 [] []).length) cr4) ((recP 4 [] []).length) ((recP 4 [] []).flatMap yC)]) (fun (_ : Unit) => [pt b 0, pt b 0, pt b 0, pt b 2, .int .i64 1, .int .i64 0, pt b 0, pt b 0, pt b 0, pt m0 0, pt m0 0]) [(4, [], [9]), (9, [4], [])] () rfl (by kernel_rfl) (by kernel_rfl) F S.drew ?_ ?_ ?_ ?_ ?_
  · rintro ⟨⟩; rfl
  · rintro ⟨⟩; kernel_rfl
  ·
   intro D D' x h
   cases x
   rfl
  ·
   refine ⟨?_, ?_⟩
   ·
    refine ⟨_, rfl, rfl, by kernel_rfl, ?_⟩
    rintro D ⟨⟩ a z S F
    refine ⟨by kernel_rfl, ?_⟩
    exact op_ldk (some ⟨b, 0, none⟩) 2 (.int .i64 1) F rfl (cBox S 3 rfl (j := 2) rfl) (⟨(), rfl, (SameB.refl _ _ rfl), S⟩)
   refine ⟨?_, ?_⟩
   ·
    refine ⟨_, rfl, rfl, by kernel_rfl, ?_⟩
    rintro D ⟨⟩ a z S F
    refine ⟨by kernel_rfl, ?_⟩
    exact op_ldk (some ⟨b, 0, none⟩) 0 (pt m0 0) F rfl (cBox S 3 rfl (j := 0) rfl) (⟨(), rfl, (SameB.refl _ _ rfl), S⟩)
   trivial
  rintro ⟨⟩ a z F S
  have F := F.subk (l := [(0, pt b 0), (3, .slice A11 (((prP lif LL jj) ++ (recP 4 [] [])).length) c12), (5, pt m0 0)])
  have S : Sat w z [rest w G, rsA m0 sd0, rsA m1 sd1, box b 91 [pt m0 0, pt m1 0, .int .i64 1, .int .u32 (lif : Nat), .slice Al LL.length cl, .int .i64 ded], row 100 2 (.slice Al LL.length cl) LL.length (LL.flatMap nvC), row 5 1 (.slice An ((be4 (lif + 1)).length) cn) ((be4 (lif + 1)).length) ((be4 (lif + 1)).flatMap yC), row 5 1 (.slice A11 (((prP lif LL jj) ++ (recP 4 [] [])).length) c12) (((prP lif LL jj) ++ (recP 4 [] [])).length) (((prP lif LL jj) ++ (recP 4 [] [])).flatMap yC), row 5 1 (.slice Ar4 ((recP 4 [] []).length) cr4) ((recP 4 [] []).length) ((recP 4 [] []).flatMap yC)] := S
  rw [prP_end hje] at S F
  refine then_n ?_
  refine s_reg ?_
  refine l_pk 1 (fun L => (71, pt m0 0) :: L) F fun a F => ?_
  refine l_do F rfl rfl (op_fn F (by kernel_rfl) (rerase_at S (i := 1) rfl (in0) (by omega)) ?_)
  rintro e z ⟨rfl, S⟩
  refine ⟨_, rfl, ?_⟩
  intro a F
  refine l_pk 1 (fun L => (6, .int .i64 sd0.stepE) :: L) F fun a F => ?_
  refine l_then ?_
  refine wp_seq ?_
  refine s_reg ?_
  refine l_pk 1 (fun L => (73, .int .i64 sd0.stepE) :: L) F fun a F => ?_
  by_cases ht13 : (sd0.stepE : Int) = (0 : Int)
  ·
   refine l_do F rfl rfl (op_pk F (v0 := .bool ((sd0.stepE : Int) == (0 : Int))) (v := .bool true) (eqlT ht13) fun a F => ?_)
   refine l_then ?_
   refine c_t F rfl ?_
   refine wp_region_list ?_
   refine l_pk 2 (fun L => (76, .slice A11 ((allP (lif + 1) LL).length) c12) :: (75, pt m0 0) :: L) F fun a F => ?_
   refine l_do F rfl rfl (op_fn F (by kernel_rfl) (rapp_at S (i := 1) rfl ((in0).ers) (by omega) (allP (lif + 1) LL) A11 c12 (Recs.ofRow (S.rowOf (i := 6) rfl) (by first | omega | decide | (simp only [List.length_cons, List.length_nil]; omega))) (away_row (j := 6) rfl (by decide))) ?_)
   rintro e z ⟨rfl, S⟩
   refine ⟨_, rfl, ?_⟩
   intro a F
   refine l_pk 1 (fun L => (6, .int .i64 (sd0.ers.appE (allP (lif + 1) LL).length)) :: L) F fun a F => ?_
   refine l_then ?_
   refine wp_seq ?_
   refine s_reg ?_
   refine l_pk 1 (fun L => (78, .int .i64 (sd0.ers.appE (allP (lif + 1) LL).length)) :: L) F fun a F => ?_
   by_cases ht14 : (sd0.ers.appE (allP (lif + 1) LL).length : Int) = (0 : Int)
   ·
    refine l_do F rfl rfl (op_pk F (v0 := .bool ((sd0.ers.appE (allP (lif + 1) LL).length : Int) == (0 : Int))) (v := .bool true) (eqlT ht14) fun a F => ?_)
    refine l_then ?_
    refine c_t F rfl ?_
    refine wp_region_list ?_
    refine l_pk 1 (fun L => (80, pt m0 0) :: L) F fun a F => ?_
    refine l_do F rfl rfl (op_fn F (by kernel_rfl) (rsync_at S (i := 1) rfl (((in0).ers).app _) (by omega)) ?_)
    rintro e z ⟨rfl, S⟩
    refine ⟨_, rfl, ?_⟩
    intro a F
    refine l_pk 1 (fun L => (6, .int .i64 ((sd0.ers.app (allP (lif + 1) LL)).stepE)) :: L) F fun a F => ?_
    refine l_then ?_
    refine wp_seq ?_
    refine s_reg ?_
    refine l_pk 1 (fun L => (82, .int .i64 ((sd0.ers.app (allP (lif + 1) LL)).stepE)) :: L) F fun a F => ?_
    by_cases ht15 : ((sd0.ers.app (allP (lif + 1) LL)).stepE : Int) = (0 : Int)
    ·
     refine l_do F rfl rfl (op_pk F (v0 := .bool (((sd0.ers.app (allP (lif + 1) LL)).stepE : Int) != (0 : Int))) (v := .bool false) (neqF ht15) fun a F => ?_)
     refine l_then ?_
     refine c_f F rfl ?_
     refine wp_skip ?_
     refine then_n ?_
     refine s_reg ?_
     refine l_pk 4 (fun L => (90, pt b 2) :: (89, pt b 0) :: (88, pt b 0) :: (87, pt b 0) :: L) F fun a F => ?_
     refine l_do F rfl rfl (op_ldk (some ⟨b, 0, none⟩) 2 (.int .i64 1) F rfl (cBox S 3 rfl (j := 2) rfl) (fun a F => ?_))
     refine l_pk 3 (fun L => (94, pt b 2) :: (93, pt b 0) :: (92, .int .i64 0) :: L) F fun a F => ?_
     refine l_do F rfl rfl (op_storeB S 3 _ _ _ b 2 (.int .i64 0) F rfl rfl (by kernel_rfl) (by kernel_rfl) (by kernel_rfl) (by kernel_rfl) (by kernel_rfl) fun z S a F => ?_)
     refine l_then ?_
     refine s_reg ?_
     refine l_pk 4 (fun L => (98, pt b 3) :: (97, pt b 0) :: (96, pt b 0) :: (95, pt b 0) :: L) F fun a F => ?_
     refine l_do F rfl rfl (op_ldk (some ⟨b, 0, none⟩) 3 (.int .u32 (lif : Nat)) F rfl (cBox S 3 rfl (j := 3) rfl) (fun a F => ?_))
     refine l_do F rfl rfl (op_pk F (v0 := .int .u32 (IntKind.wrap .u32 ((lif : Nat) + 1))) (v := .int .u32 (lif + 1 : Nat)) (wrn_u32 (by omega) (by omega) (by omega)) fun a F => ?_)
     refine l_pk 2 (fun L => (102, pt b 3) :: (101, pt b 0) :: L) F fun a F => ?_
     refine l_do F rfl rfl (op_storeB S 3 _ _ _ b 3 (.int .u32 (lif + 1 : Nat)) F rfl rfl (by kernel_rfl) (by kernel_rfl) (by kernel_rfl) (by kernel_rfl) (by kernel_rfl) fun z S a F => ?_)
     refine l_then ?_
     refine s_reg ?_
     refine l_pk 1 (fun L => (2, .int .i64 0) :: L) F fun a F => ?_
     refine l_then ?_
     refine wp_ret ?_
     exact fin F [.tmp 2] [.int .i64 0] rfl ⟨by kernel_rfl, trivial⟩ (.int .i64 0) rfl ⟨by rw [comp_ok1 ht1 (by omega) ht13 ht14 ht15], by rw [comp_ok1 ht1 (by omega) ht13 ht14 ht15]; exact (rl_shut rfl rfl (S.pick [0, 1, 2, 3, 4] (by decide)))⟩
    refine l_do F rfl rfl (op_pk F (v0 := .bool (((sd0.ers.app (allP (lif + 1) LL)).stepE : Int) != (0 : Int))) (v := .bool true) (neqT ht15) fun a F => ?_)
    refine l_then ?_
    refine c_t F rfl ?_
    refine s_reg ?_
    refine l_pk 2 (fun L => (85, .int .i64 ((sd0.ers.app (allP (lif + 1) LL)).stepE)) :: (84, pt b 0) :: L) F fun a F => ?_
    obtain ⟨G9, g9, hin9, hlt9, k9⟩ := S.frameB [3] (by decide) rfl
    refine l_do F rfl rfl (op_fn F (by kernel_rfl) (rfail_any _ G9 b (pt m0 0) (pt m1 0) (.int .i64 1) (.int .u32 (lif : Nat)) (.slice Al LL.length cl) ded ((sd0.ers.app (allP (lif + 1) LL)).stepE) g9) ?_)
    rintro e z9 ⟨rfl, g⟩
    have S : Sat w z9 [rest w G, rsA m0 (sd0.ers.app (allP (lif + 1) LL)).syn, rsA m1 sd1, box b 91 [pt m0 0, pt m1 0, .int .i64 1, .int .u32 (lif : Nat), .slice Al LL.length cl, .int .i64 (failD ded ((sd0.ers.app (allP (lif + 1) LL)).stepE))], row 100 2 (.slice Al LL.length cl) LL.length (LL.flatMap nvC), row 5 1 (.slice An ((be4 (lif + 1)).length) cn) ((be4 (lif + 1)).length) ((be4 (lif + 1)).flatMap yC), row 5 1 (.slice A11 ((allP (lif + 1) LL).length) c12) ((allP (lif + 1) LL).length) ((allP (lif + 1) LL).flatMap yC), row 5 1 (.slice Ar4 ((recP 4 [] []).length) cr4) ((recP 4 [] []).length) ((recP 4 [] []).flatMap yC)] := k9 z9 [box b 91 [pt m0 0, pt m1 0, .int .i64 1, .int .u32 (lif : Nat), .slice Al LL.length cl, .int .i64 (failD ded ((sd0.ers.app (allP (lif + 1) LL)).stepE))]] rfl g
    clear g g9 k9 hin9 hlt9
    refine ⟨_, rfl, ?_⟩
    intro a F
    refine l_pk 1 (fun L => (2, .int .i64 ((sd0.ers.app (allP (lif + 1) LL)).stepE)) :: L) F fun a F => ?_
    refine l_then ?_
    refine wp_ret ?_
    refine then_r (?_)
    exact fin F [.tmp 2] [.int .i64 ((sd0.ers.app (allP (lif + 1) LL)).stepE)] rfl ⟨by kernel_rfl, trivial⟩ (.int .i64 ((sd0.ers.app (allP (lif + 1) LL)).stepE)) rfl ⟨by rw [comp_s1 ht1 (by omega) ht13 ht14 ht15], by rw [comp_s1 ht1 (by omega) ht13 ht14 ht15]; exact (rl_shut rfl rfl (S.pick [0, 1, 2, 3, 4] (by decide)))⟩
   refine l_do F rfl rfl (op_pk F (v0 := .bool ((sd0.ers.appE (allP (lif + 1) LL).length : Int) == (0 : Int))) (v := .bool false) (eqlF ht14) fun a F => ?_)
   refine l_then ?_
   refine c_f F rfl ?_
   refine wp_skip ?_
   refine then_n ?_
   refine wp_seq ?_
   refine s_reg ?_
   refine l_pk 1 (fun L => (82, .int .i64 (sd0.ers.appE (allP (lif + 1) LL).length)) :: L) F fun a F => ?_
   refine l_do F rfl rfl (op_pk F (v0 := .bool ((sd0.ers.appE (allP (lif + 1) LL).length : Int) != (0 : Int))) (v := .bool true) (neqT ht14) fun a F => ?_)
   refine l_then ?_
   refine c_t F rfl ?_
   refine s_reg ?_
   refine l_pk 2 (fun L => (85, .int .i64 (sd0.ers.appE (allP (lif + 1) LL).length)) :: (84, pt b 0) :: L) F fun a F => ?_
   obtain ⟨G9, g9, hin9, hlt9, k9⟩ := S.frameB [3] (by decide) rfl
   refine l_do F rfl rfl (op_fn F (by kernel_rfl) (rfail_any _ G9 b (pt m0 0) (pt m1 0) (.int .i64 1) (.int .u32 (lif : Nat)) (.slice Al LL.length cl) ded (sd0.ers.appE (allP (lif + 1) LL).length) g9) ?_)
   rintro e z9 ⟨rfl, g⟩
   have S : Sat w z9 [rest w G, rsA m0 (sd0.ers.app (allP (lif + 1) LL)), rsA m1 sd1, box b 91 [pt m0 0, pt m1 0, .int .i64 1, .int .u32 (lif : Nat), .slice Al LL.length cl, .int .i64 (failD ded (sd0.ers.appE (allP (lif + 1) LL).length))], row 100 2 (.slice Al LL.length cl) LL.length (LL.flatMap nvC), row 5 1 (.slice An ((be4 (lif + 1)).length) cn) ((be4 (lif + 1)).length) ((be4 (lif + 1)).flatMap yC), row 5 1 (.slice A11 ((allP (lif + 1) LL).length) c12) ((allP (lif + 1) LL).length) ((allP (lif + 1) LL).flatMap yC), row 5 1 (.slice Ar4 ((recP 4 [] []).length) cr4) ((recP 4 [] []).length) ((recP 4 [] []).flatMap yC)] := k9 z9 [box b 91 [pt m0 0, pt m1 0, .int .i64 1, .int .u32 (lif : Nat), .slice Al LL.length cl, .int .i64 (failD ded (sd0.ers.appE (allP (lif + 1) LL).length))]] rfl g
   clear g g9 k9 hin9 hlt9
   refine ⟨_, rfl, ?_⟩
   intro a F
   refine l_pk 1 (fun L => (2, .int .i64 (sd0.ers.appE (allP (lif + 1) LL).length)) :: L) F fun a F => ?_
   refine l_then ?_
   refine wp_ret ?_
   refine then_r (?_)
   exact fin F [.tmp 2] [.int .i64 (sd0.ers.appE (allP (lif + 1) LL).length)] rfl ⟨by kernel_rfl, trivial⟩ (.int .i64 (sd0.ers.appE (allP (lif + 1) LL).length)) rfl ⟨by rw [comp_a1 ht1 (by omega) ht13 ht14], by rw [comp_a1 ht1 (by omega) ht13 ht14]; exact (rl_shut rfl rfl (S.pick [0, 1, 2, 3, 4] (by decide)))⟩
  refine l_do F rfl rfl (op_pk F (v0 := .bool ((sd0.stepE : Int) == (0 : Int))) (v := .bool false) (eqlF ht13) fun a F => ?_)
  refine l_then ?_
  refine c_f F rfl ?_
  refine wp_skip ?_
  refine then_n ?_
  refine wp_seq ?_
  refine s_reg ?_
  refine l_pk 1 (fun L => (78, .int .i64 sd0.stepE) :: L) F fun a F => ?_
  refine l_do F rfl rfl (op_pk F (v0 := .bool ((sd0.stepE : Int) == (0 : Int))) (v := .bool false) (eqlF ht13) fun a F => ?_)
  refine l_then ?_
  refine c_f F rfl ?_
  refine wp_skip ?_
  refine then_n ?_
  refine wp_seq ?_
  refine s_reg ?_
  refine l_pk 1 (fun L => (82, .int .i64 sd0.stepE) :: L) F fun a F => ?_
  refine l_do F rfl rfl (op_pk F (v0 := .bool ((sd0.stepE : Int) != (0 : Int))) (v := .bool true) (neqT ht13) fun a F => ?_)
  refine l_then ?_
  refine c_t F rfl ?_
  refine s_reg ?_
  refine l_pk 2 (fun L => (85, .int .i64 sd0.stepE) :: (84, pt b 0) :: L) F fun a F => ?_
  obtain ⟨G9, g9, hin9, hlt9, k9⟩ := S.frameB [3] (by decide) rfl
  refine l_do F rfl rfl (op_fn F (by kernel_rfl) (rfail_any _ G9 b (pt m0 0) (pt m1 0) (.int .i64 1) (.int .u32 (lif : Nat)) (.slice Al LL.length cl) ded sd0.stepE g9) ?_)
  rintro e z9 ⟨rfl, g⟩
  have S : Sat w z9 [rest w G, rsA m0 sd0.ers, rsA m1 sd1, box b 91 [pt m0 0, pt m1 0, .int .i64 1, .int .u32 (lif : Nat), .slice Al LL.length cl, .int .i64 (failD ded sd0.stepE)], row 100 2 (.slice Al LL.length cl) LL.length (LL.flatMap nvC), row 5 1 (.slice An ((be4 (lif + 1)).length) cn) ((be4 (lif + 1)).length) ((be4 (lif + 1)).flatMap yC), row 5 1 (.slice A11 ((allP (lif + 1) LL).length) c12) ((allP (lif + 1) LL).length) ((allP (lif + 1) LL).flatMap yC), row 5 1 (.slice Ar4 ((recP 4 [] []).length) cr4) ((recP 4 [] []).length) ((recP 4 [] []).flatMap yC)] := k9 z9 [box b 91 [pt m0 0, pt m1 0, .int .i64 1, .int .u32 (lif : Nat), .slice Al LL.length cl, .int .i64 (failD ded sd0.stepE)]] rfl g
  clear g g9 k9 hin9 hlt9
  refine ⟨_, rfl, ?_⟩
  intro a F
  refine l_pk 1 (fun L => (2, .int .i64 sd0.stepE) :: L) F fun a F => ?_
  refine l_then ?_
  refine wp_ret ?_
  refine then_r (?_)
  exact fin F [.tmp 2] [.int .i64 sd0.stepE] rfl ⟨by kernel_rfl, trivial⟩ (.int .i64 sd0.stepE) rfl ⟨by rw [comp_e1 ht1 (by omega) ht13], by rw [comp_e1 ht1 (by omega) ht13]; exact (rl_shut rfl rfl (S.pick [0, 1, 2, 3, 4] (by decide)))⟩
 refine l_do F rfl rfl (op_pk F (v0 := .bool ((ded : Int) != (0 : Int))) (v := .bool true) (neqT ht1) fun a F => ?_)
 refine l_then ?_
 refine c_t F rfl ?_
 refine s_reg ?_
 refine l_pk 3 (fun L => (14, pt b 5) :: (13, pt b 0) :: (12, pt b 0) :: L) F fun a F => ?_
 refine l_do F rfl rfl (op_ldk (some ⟨b, 0, none⟩) 5 (.int .i64 ded) F rfl (cBox S 3 rfl (j := 5) rfl) (fun a F => ?_))
 refine l_pk 1 (fun L => (2, .int .i64 ded) :: L) F fun a F => ?_
 refine l_then ?_
 refine wp_ret ?_
 refine then_r (?_)
 exact fin F [.tmp 2] [.int .i64 ded] rfl ⟨by kernel_rfl, trivial⟩ (.int .i64 ded) rfl ⟨by rw [comp_dead ht1], by rw [comp_dead ht1]; exact (rl_shut rfl rfl (S.pick [0, 1, 2, 3, 4] (by decide)))⟩
section
variable {w : World} {G : Nat → Prop} {b m0 m1 : Nat} {x : Lg}
theorem rcomp_any (N : Int) (in0 : x.s0.In N) (in1 : x.s1.In N) (hN : N ≤ 1000000) (ok : LbOk x.lb 900000) (hS : Sat w w [rlA b m0 m1 x.lb, rsA m0 x.s0, rsA m1 x.s1, rest w G]) :
    Calls Try.prog 27 #[pt b 0] w fun e w' => e = .returned (.int .i64 (compT x).1) ∧ Sat w w' [rlA b m0 m1 (compT x).2.lb, rsA m0 (compT x).2.s0, rsA m1 (compT x).2.s1, rest w G] := by
  obtain ⟨⟨on, lif, LL, ded⟩, sd0, sd1⟩ := x
  obtain ⟨hon, hlif, hri, hnm, hvl, hct⟩ := ok
  rcases (show on = 0 ∨ on = 1 from by simp at hon; omega) with rfl | rfl
  · exact rcomp0_at w G b m0 m1 lif LL ded sd0 sd1 N in0 in1 hN hri hct hlif hnm hvl hS
  · exact rcomp1_at w G b m0 m1 lif LL ded sd0 sd1 N in0 in1 hN hri hct hlif hnm hvl hS
theorem rput_at (N : Int) (in0 : x.s0.In N) (in1 : x.s1.In N) (hN : N ≤ 1000000) (ok : LbOk x.lb 900000) (nm V : Bs) (hS : Sat w w [rlA b m0 m1 x.lb, rsA m0 x.s0, rsA m1 x.s1, rest w G]) :
    Calls Try.prog 24 #[pt b 0, strV nm, strV V] w fun e w' => e = .returned (.int .i64 (putT x nm V).1) ∧ Sat w w' [rlA b m0 m1 (putT x nm V).2.lb, rsA m0 (putT x nm V).2.s0, rsA m1 (putT x nm V).2.s1, rest w G] := by
  obtain ⟨⟨on, lif, LL, ded⟩, sd0, sd1⟩ := x
  obtain ⟨hon, hlif, hri, hnm, hvl, hct⟩ := ok
  rcases (show on = 0 ∨ on = 1 from by simp at hon; omega) with rfl | rfl
  · exact rput0_at w G b m0 m1 lif LL ded sd0 sd1 N in0 in1 hN hri hct nm V hS
  · exact rput1_at w G b m0 m1 lif LL ded sd0 sd1 N in0 in1 hN hri hct nm V hS
theorem rdrop_at (N : Int) (in0 : x.s0.In N) (in1 : x.s1.In N) (hN : N ≤ 1000000) (ok : LbOk x.lb 900000) (nm : Bs) (hnl : nm.length ≤ 1000000) (hS : Sat w w [rlA b m0 m1 x.lb, rsA m0 x.s0, rsA m1 x.s1, rest w G]) :
    Calls Try.prog 25 #[pt b 0, strV nm] w fun e w' => e = .returned (.int .i64 (dropT x nm).1) ∧ Sat w w' [rlA b m0 m1 (dropT x nm).2.lb, rsA m0 (dropT x nm).2.s0, rsA m1 (dropT x nm).2.s1, rest w G] := by
  obtain ⟨⟨on, lif, LL, ded⟩, sd0, sd1⟩ := x
  obtain ⟨hon, hlif, hri, hnm, hvl, hct⟩ := ok
  rcases (show on = 0 ∨ on = 1 from by simp at hon; omega) with rfl | rfl
  · exact rdrop0_at w G b m0 m1 lif LL ded sd0 sd1 N in0 in1 hN hri hct nm hnl hS
  · exact rdrop1_at w G b m0 m1 lif LL ded sd0 sd1 N in0 in1 hN hri hct nm hnl hS
theorem rsync_lg (N : Int) (in0 : x.s0.In N) (in1 : x.s1.In N) (hN : N ≤ 1000000) (ok : LbOk x.lb 900000) (hS : Sat w w [rlA b m0 m1 x.lb, rsA m0 x.s0, rsA m1 x.s1, rest w G]) :
    Calls Try.prog 26 #[pt b 0] w fun e w' => e = .returned (.int .i64 (syncT x).1) ∧ Sat w w' [rlA b m0 m1 (syncT x).2.lb, rsA m0 (syncT x).2.s0, rsA m1 (syncT x).2.s1, rest w G] := by
  obtain ⟨⟨on, lif, LL, ded⟩, sd0, sd1⟩ := x
  obtain ⟨hon, hlif, hri, hnm, hvl, hct⟩ := ok
  rcases (show on = 0 ∨ on = 1 from by simp at hon; omega) with rfl | rfl
  · exact rsync0_at w G b m0 m1 lif LL ded sd0 sd1 N in0 in1 hN hri hct hS
  · exact rsync1_at w G b m0 m1 lif LL ded sd0 sd1 N in0 in1 hN hri hct hS
end
set_option maxRecDepth 100000 in
set_option maxHeartbeats 4000000 in
theorem ropen_up (w : World) (G : Nat → Prop) (m0 m1 : Nat) (sd0 sd1 : Sd) (N : Int) (in0 : sd0.In N) (in1 : sd1.In N) (hN : N ≤ 1000000) (hd0 : sd0.down = false) (hd1 : sd1.down = false) (hS : Sat w w [rsA m0 sd0, rsA m1 sd1, rest w G]) : Calls Try.prog 23 #[pt m0 0, pt m1 0] w fun e w' => ((openT sd0 sd1).1 = 0 ∧ ∃ b, e = .returned (.tuple #[pt b 0, .int .i64 0]) ∧ Sat w w' [star2 (rsA m0 (openT sd0 sd1).2.s0) (rlA b m0 m1 (openT sd0 sd1).2.lb), rsA m1 (openT sd0 sd1).2.s1, rest w G]) ∨ (¬ (openT sd0 sd1).1 = 0 ∧ e = .returned (.tuple #[.pointer none, .int .i64 (openT sd0 sd1).1]) ∧ Sat w w' [rsA m0 (openT sd0 sd1).2.s0, rsA m1 (openT sd0 sd1).2.s1, rest w G]) := by
 refine enter 69 Try.func23 rfl rfl rfl fun a F => ?_
 have S : Sat w w [rest w G, rsA m0 sd0, rsA m1 sd1] := hS.pick [2, 0, 1] (by decide)
 obtain ⟨li0, se0, L0, ht0⟩ : ∃ x y z, tellP sd0.rd = (x, y, z) := ⟨_, _, _, rfl⟩
 obtain ⟨li1, se1, L1, ht1⟩ : ∃ x y z, tellP sd1.rd = (x, y, z) := ⟨_, _, _, rfl⟩
 refine s_reg ?_
 refine l_pk 2 (fun L => (5, .int .i64 0) :: (4, .pointer none) :: L) F fun a F => ?_
 refine l_then ?_
 refine s_reg ?_
 refine l_pk 4 (fun L => (17, .agg #[pt m0 0, pt m1 0, .int .i64 1, .int .u32 0, .slice none 0 0, .int .i64 0]) :: (16, .agg #[pt m0 0, pt m1 0]) :: (15, pt m1 0) :: (14, pt m0 0) :: L) F fun a F => ?_
 refine l_do F rfl rfl (op_box S _ _ (.agg #[pt m0 0, pt m1 0, .int .i64 1, .int .u32 0, .slice none 0 0, .int .i64 0]) F rfl (by kernel_rfl) fun b1 z S a F => ?_)
 refine l_pk 1 (fun L => (6, pt b1 0) :: L) F fun a F => ?_
 refine l_then ?_
 refine wp_seq ?_
 refine s_reg ?_
 refine l_pk 1 (fun L => (7, .int .i64 0) :: L) F fun a F => ?_
 refine l_then ?_
 refine wp_block ?_
 refine wp_loop_rounds 3 (rnd ?_)
 refine wp_seq ?_
 refine s_reg ?_
 refine l_pk 2 (fun L => (20, .bool true) :: (19, .int .i64 0) :: L) F fun a F => ?_
 refine l_then ?_
 refine c_t F rfl ?_
 refine wp_skip ?_
 refine then_n ?_
 refine wp_seq ?_
 refine wp_block ?_
 refine s_reg ?_
 refine l_pk 5 (fun L => (28, pt b1 0) :: (27, pt b1 0) :: (26, pt b1 0) :: (25, .int .i64 0) :: (24, pt b1 0) :: L) F fun a F => ?_
 refine l_do F rfl rfl (op_ldk (some ⟨b1, 0, none⟩) 0 (pt m0 0) F rfl (cBox S 3 rfl (j := 0) rfl) (fun a F => ?_))
 refine l_do F rfl rfl (op_fn F (by kernel_rfl) (rread_at S (i := 1) rfl in0 (by omega) hd0) ?_)
 rintro e z ⟨Aw0, cw0, rfl, S⟩
 have hrl0 := rd_len in0
 have hcw0 := own_cap (S.rowOf (i := 4) rfl)
 refine ⟨_, rfl, ?_⟩
 intro a F
 refine l_pk 5 (fun L => (9, .int .i64 0) :: (8, .slice Aw0 sd0.rd.length cw0) :: (32, .int .i64 0) :: (31, .slice Aw0 sd0.rd.length cw0) :: (23, .tuple #[.slice Aw0 sd0.rd.length cw0, .int .i64 0]) :: L) F fun a F => ?_
 refine l_then ?_
 refine wp_seq ?_
 refine s_reg ?_
 refine l_pk 2 (fun L => (34, .bool false) :: (33, .int .i64 0) :: L) F fun a F => ?_
 refine l_then ?_
 refine c_f F rfl ?_
 refine wp_skip ?_
 refine then_n ?_
 refine s_reg ?_
 refine l_pk 1 (fun L => (37, .slice Aw0 sd0.rd.length cw0) :: L) F fun a F => ?_
 refine l_do F rfl rfl (op_fn F (by kernel_rfl) ((by have h9 := rtell_any _ Aw0 cw0 sd0.rd (Recs.ofRow (S.rowOf (i := 4) rfl) (by first | omega | decide | (simp only [List.length_cons, List.length_nil]; omega))) hcw0 (by omega); rw [ht0] at h9; exact h9)) ?_)
 rintro e z ⟨At0, ct0, rfl, g⟩
 have S := S.pushThings g
 refine ⟨_, rfl, ?_⟩
 intro a F
 refine l_pk 7 (fun L => (12, .slice At0 L0.length ct0) :: (11, .bool se0) :: (10, .int .u32 (li0 : Nat)) :: (41, .slice At0 L0.length ct0) :: (40, .bool se0) :: (39, .int .u32 (li0 : Nat)) :: (36, .tuple #[.int .u32 (li0 : Nat), .bool se0, .slice At0 L0.length ct0]) :: L) F fun a F => ?_
 refine l_then ?_
 refine s_reg ?_
 refine l_pk 2 (fun L => (43, .bool se0) :: (42, .bool se0) :: L) F fun a F => ?_
 cases se0 with
 | false =>
  skip
  refine l_pk 7 (fun L => (50, .bool false) :: (49, undef) :: (48, undef) :: (47, undef) :: (46, undef) :: (45, undef) :: (44, undef) :: L) F fun a F => ?_
  refine l_then ?_
  refine c_f F rfl ?_
  refine wp_skip ?_
  refine inb_n ?_
  refine then_n ?_
  refine wp_region_list ?_
  refine l_pk 3 (fun L => (7, .int .i64 1) :: (22, .int .i64 1) :: (21, .int .i64 0) :: L) F fun a F => ?_
  refine l_then ?_
  refine rnd ?_
  refine wp_seq ?_
  refine s_reg ?_
  refine l_pk 2 (fun L => (20, .bool true) :: (19, .int .i64 1) :: L) F fun a F => ?_
  refine l_then ?_
  refine c_t F rfl ?_
  refine wp_skip ?_
  refine then_n ?_
  refine wp_seq ?_
  refine wp_block ?_
  refine s_reg ?_
  refine l_pk 5 (fun L => (28, pt b1 1) :: (27, pt b1 0) :: (26, pt b1 0) :: (25, .int .i64 1) :: (24, pt b1 0) :: L) F fun a F => ?_
  refine l_do F rfl rfl (op_ldk (some ⟨b1, 0, none⟩) 1 (pt m1 0) F rfl (cBox S 3 rfl (j := 1) rfl) (fun a F => ?_))
  refine l_do F rfl rfl (op_fn F (by kernel_rfl) (rread_at S (i := 2) rfl in1 (by omega) hd1) ?_)
  rintro e z ⟨Aw1, cw1, rfl, S⟩
  have hrl1 := rd_len in1
  have hcw1 := own_cap (S.rowOf (i := 6) rfl)
  refine ⟨_, rfl, ?_⟩
  intro a F
  refine l_pk 5 (fun L => (9, .int .i64 0) :: (8, .slice Aw1 sd1.rd.length cw1) :: (32, .int .i64 0) :: (31, .slice Aw1 sd1.rd.length cw1) :: (23, .tuple #[.slice Aw1 sd1.rd.length cw1, .int .i64 0]) :: L) F fun a F => ?_
  refine l_then ?_
  refine wp_seq ?_
  refine s_reg ?_
  refine l_pk 2 (fun L => (34, .bool false) :: (33, .int .i64 0) :: L) F fun a F => ?_
  refine l_then ?_
  refine c_f F rfl ?_
  refine wp_skip ?_
  refine then_n ?_
  refine s_reg ?_
  refine l_pk 1 (fun L => (37, .slice Aw1 sd1.rd.length cw1) :: L) F fun a F => ?_
  refine l_do F rfl rfl (op_fn F (by kernel_rfl) ((by have h9 := rtell_any _ Aw1 cw1 sd1.rd (Recs.ofRow (S.rowOf (i := 6) rfl) (by first | omega | decide | (simp only [List.length_cons, List.length_nil]; omega))) hcw1 (by omega); rw [ht1] at h9; exact h9)) ?_)
  rintro e z ⟨At1, ct1, rfl, g⟩
  have S := S.pushThings g
  refine ⟨_, rfl, ?_⟩
  intro a F
  refine l_pk 7 (fun L => (12, .slice At1 L1.length ct1) :: (11, .bool se1) :: (10, .int .u32 (li1 : Nat)) :: (41, .slice At1 L1.length ct1) :: (40, .bool se1) :: (39, .int .u32 (li1 : Nat)) :: (36, .tuple #[.int .u32 (li1 : Nat), .bool se1, .slice At1 L1.length ct1]) :: L) F fun a F => ?_
  refine l_then ?_
  refine s_reg ?_
  refine l_pk 2 (fun L => (43, .bool se1) :: (42, .bool se1) :: L) F fun a F => ?_
  cases se1 with
  | false =>
   skip
   refine l_pk 7 (fun L => (50, .bool false) :: (49, undef) :: (48, undef) :: (47, undef) :: (46, undef) :: (45, undef) :: (44, undef) :: L) F fun a F => ?_
   refine l_then ?_
   refine c_f F rfl ?_
   refine wp_skip ?_
   refine inb_n ?_
   refine then_n ?_
   refine wp_region_list ?_
   refine l_pk 3 (fun L => (7, .int .i64 2) :: (22, .int .i64 2) :: (21, .int .i64 1) :: L) F fun a F => ?_
   refine l_then ?_
   refine rnd ?_
   refine wp_seq ?_
   refine s_reg ?_
   refine l_pk 2 (fun L => (20, .bool false) :: (19, .int .i64 2) :: L) F fun a F => ?_
   refine l_then ?_
   refine c_f F rfl ?_
   refine wp_exit ?_
   refine then_x ?_
   refine then_x ?_
   refine inb_x ?_
   refine then_n ?_
   refine s_reg ?_
   refine l_pk 1 (fun L => (63, pt b1 0) :: L) F fun a F => ?_
   have hp0 := pick_un (lb := lb0) (i := 0) (life := li0) (L := L0)
   have hp1 := pick_un (lb := lb0) (i := 1) (life := li1) (L := L1)
   have hfo : foundT sd0 sd1 = ⟨1, 0, [], 0⟩ := by unfold foundT; rw [ht0, ht1, hp0, hp1]; rfl
   have hfk := (found_ok in0 in1).up (m := 900000) (by decide)
   rw [hfo] at hfk
   have hox : openT sd0 sd1 = compT (⟨⟨1, 0, [], 0⟩, sd0, sd1⟩ : Lg) := by unfold openT; rw [hfo]
   have S := S.nilRow 100 2
   have S : Sat w z ([rest w G, rsA m0 sd0, rsA m1 sd1] ++ [rlBox b1 m0 m1 1 0 none ([] : List NV).length 0 0, row 100 2 (.slice none ([] : List NV).length 0) ([] : List NV).length (([] : List NV).flatMap nvC)]) := S.pick [0, 1, 2, 3, 8] (by decide)
   have S := rl_shutL S
   have S : Sat w z [rest w G, rsA m0 sd0, rsA m1 sd1, rlA b1 m0 m1 ⟨1, 0, [], 0⟩] := S
   obtain ⟨G9, g9, hin9, hlt9, k9⟩ := S.frameB [3, 1, 2] (by decide) rfl
   refine l_do F rfl rfl (op_fn F (by kernel_rfl) (rcomp_any (x := (⟨⟨1, 0, [], 0⟩, sd0, sd1⟩ : Lg)) N in0 in1 hN hfk g9) ?_)
   rintro e z9 ⟨rfl, g⟩
   have S : Sat w z9 [rest w G, rsA m0 (compT (⟨⟨1, 0, [], 0⟩, sd0, sd1⟩ : Lg)).2.s0, rsA m1 (compT (⟨⟨1, 0, [], 0⟩, sd0, sd1⟩ : Lg)).2.s1, rlA b1 m0 m1 (compT (⟨⟨1, 0, [], 0⟩, sd0, sd1⟩ : Lg)).2.lb] := k9 z9 [rlA b1 m0 m1 (compT (⟨⟨1, 0, [], 0⟩, sd0, sd1⟩ : Lg)).2.lb, rsA m0 (compT (⟨⟨1, 0, [], 0⟩, sd0, sd1⟩ : Lg)).2.s0, rsA m1 (compT (⟨⟨1, 0, [], 0⟩, sd0, sd1⟩ : Lg)).2.s1] rfl g
   clear g g9 k9 hin9 hlt9
   refine ⟨_, rfl, ?_⟩
   intro a F
   refine l_pk 1 (fun L => (13, .int .i64 ((compT (⟨⟨1, 0, [], 0⟩, sd0, sd1⟩ : Lg)).1)) :: L) F fun a F => ?_
   refine l_then ?_
   refine wp_seq ?_
   refine s_reg ?_
   refine l_pk 1 (fun L => (65, .int .i64 ((compT (⟨⟨1, 0, [], 0⟩, sd0, sd1⟩ : Lg)).1)) :: L) F fun a F => ?_
   by_cases ht2 : ((compT (⟨⟨1, 0, [], 0⟩, sd0, sd1⟩ : Lg)).1 : Int) = (0 : Int)
   ·
    refine l_do F rfl rfl (op_pk F (v0 := .bool (((compT (⟨⟨1, 0, [], 0⟩, sd0, sd1⟩ : Lg)).1 : Int) != (0 : Int))) (v := .bool false) (neqF ht2) fun a F => ?_)
    refine l_then ?_
    refine c_f F rfl ?_
    refine wp_skip ?_
    refine then_n ?_
    refine s_reg ?_
    refine l_pk 3 (fun L => (5, .int .i64 0) :: (4, pt b1 0) :: (68, pt b1 0) :: L) F fun a F => ?_
    refine l_then ?_
    refine wp_ret ?_
    exact fin F [.tmp 4, .tmp 5] [pt b1 0, .int .i64 0] rfl ⟨by kernel_rfl, by kernel_rfl, trivial⟩ (.tuple #[pt b1 0, .int .i64 0]) rfl (by rw [hox]; exact .inl ⟨ht2, b1, rfl, (S.join (i := 1) (j := 3) rfl rfl (by decide)).pick [1, 2, 0] (by decide)⟩)
   refine l_do F rfl rfl (op_pk F (v0 := .bool (((compT (⟨⟨1, 0, [], 0⟩, sd0, sd1⟩ : Lg)).1 : Int) != (0 : Int))) (v := .bool true) (neqT ht2) fun a F => ?_)
   refine l_then ?_
   refine c_t F rfl ?_
   refine s_reg ?_
   refine l_pk 3 (fun L => (5, .int .i64 ((compT (⟨⟨1, 0, [], 0⟩, sd0, sd1⟩ : Lg)).1)) :: (4, .pointer none) :: (67, .int .i64 ((compT (⟨⟨1, 0, [], 0⟩, sd0, sd1⟩ : Lg)).1)) :: L) F fun a F => ?_
   refine l_then ?_
   refine wp_ret ?_
   refine then_r (?_)
   exact fin F [.tmp 4, .tmp 5] [.pointer none, .int .i64 ((compT (⟨⟨1, 0, [], 0⟩, sd0, sd1⟩ : Lg)).1)] rfl ⟨by kernel_rfl, by kernel_rfl, trivial⟩ (.tuple #[.pointer none, .int .i64 ((compT (⟨⟨1, 0, [], 0⟩, sd0, sd1⟩ : Lg)).1)]) rfl (by rw [hox]; exact .inr ⟨ht2, rfl, S.pick [1, 2, 0] (by decide)⟩)
  | true =>
   skip
   refine l_pk 4 (fun L => (47, pt b1 3) :: (46, pt b1 0) :: (45, pt b1 0) :: (44, .int .u32 (li1 : Nat)) :: L) F fun a F => ?_
   refine l_do F rfl rfl (op_ldk (some ⟨b1, 0, none⟩) 3 (.int .u32 0) F rfl (cBox S 3 rfl (j := 3) rfl) (fun a F => ?_))
   by_cases ht3 : (0 : Int) < ((li1 : Nat) : Int)
   ·
    refine l_do F rfl rfl (op_pk F (v0 := .bool (decide (((li1 : Nat) : Int) > (0 : Int)))) (v := .bool true) (gtrT ht3) fun a F => ?_)
    refine l_pk 1 (fun L => (50, .bool true) :: L) F fun a F => ?_
    refine l_then ?_
    refine c_t F rfl ?_
    refine s_reg ?_
    refine l_pk 4 (fun L => (54, pt b1 2) :: (53, pt b1 0) :: (52, .int .i64 1) :: (51, pt b1 0) :: L) F fun a F => ?_
    refine l_do F rfl rfl (op_storeB S 3 _ _ _ b1 2 (.int .i64 1) F rfl rfl (by kernel_rfl) (by kernel_rfl) (by kernel_rfl) (by kernel_rfl) (by kernel_rfl) fun z S a F => ?_)
    refine l_then ?_
    refine s_reg ?_
    refine l_pk 4 (fun L => (58, pt b1 3) :: (57, pt b1 0) :: (56, .int .u32 (li1 : Nat)) :: (55, pt b1 0) :: L) F fun a F => ?_
    refine l_do F rfl rfl (op_storeB S 3 _ _ _ b1 3 (.int .u32 (li1 : Nat)) F rfl rfl (by kernel_rfl) (by kernel_rfl) (by kernel_rfl) (by kernel_rfl) (by kernel_rfl) fun z S a F => ?_)
    refine l_then ?_
    refine wp_region_list ?_
    refine l_pk 4 (fun L => (62, pt b1 4) :: (61, pt b1 0) :: (60, .slice At1 L1.length ct1) :: (59, pt b1 0) :: L) F fun a F => ?_
    refine l_do F rfl rfl (op_storeB S 3 _ _ _ b1 4 (.slice At1 L1.length ct1) F rfl rfl (by kernel_rfl) (by kernel_rfl) (by kernel_rfl) (by kernel_rfl) (by kernel_rfl) fun z S a F => ?_)
    refine l_nil (inb_n ?_)
    refine then_n ?_
    refine wp_region_list ?_
    refine l_pk 3 (fun L => (7, .int .i64 2) :: (22, .int .i64 2) :: (21, .int .i64 1) :: L) F fun a F => ?_
    refine l_then ?_
    refine rnd ?_
    refine wp_seq ?_
    refine s_reg ?_
    refine l_pk 2 (fun L => (20, .bool false) :: (19, .int .i64 2) :: L) F fun a F => ?_
    refine l_then ?_
    refine c_f F rfl ?_
    refine wp_exit ?_
    refine then_x ?_
    refine then_x ?_
    refine inb_x ?_
    refine then_n ?_
    refine s_reg ?_
    refine l_pk 1 (fun L => (63, pt b1 0) :: L) F fun a F => ?_
    have hp0 := pick_un (lb := lb0) (i := 0) (life := li0) (L := L0)
    have hp1 := pick_yes (lb := lb0) (i := 1) (L := L1) ht3
    have hfo : foundT sd0 sd1 = ⟨1, li1, L1, 0⟩ := by unfold foundT; rw [ht0, ht1, hp0, hp1]
    have hfk := (found_ok in0 in1).up (m := 900000) (by decide)
    rw [hfo] at hfk
    have hox : openT sd0 sd1 = compT (⟨⟨1, li1, L1, 0⟩, sd0, sd1⟩ : Lg) := by unfold openT; rw [hfo]
    have S : Sat w z ([rest w G, rsA m0 sd0, rsA m1 sd1] ++ [rlBox b1 m0 m1 1 li1 At1 (L1 : List NV).length ct1 0, row 100 2 (.slice At1 (L1 : List NV).length ct1) (L1 : List NV).length ((L1 : List NV).flatMap nvC)]) := S.pick [0, 1, 2, 3, 7] (by decide)
    have S := rl_shutL S
    have S : Sat w z [rest w G, rsA m0 sd0, rsA m1 sd1, rlA b1 m0 m1 ⟨1, li1, L1, 0⟩] := S
    obtain ⟨G9, g9, hin9, hlt9, k9⟩ := S.frameB [3, 1, 2] (by decide) rfl
    refine l_do F rfl rfl (op_fn F (by kernel_rfl) (rcomp_any (x := (⟨⟨1, li1, L1, 0⟩, sd0, sd1⟩ : Lg)) N in0 in1 hN hfk g9) ?_)
    rintro e z9 ⟨rfl, g⟩
    have S : Sat w z9 [rest w G, rsA m0 (compT (⟨⟨1, li1, L1, 0⟩, sd0, sd1⟩ : Lg)).2.s0, rsA m1 (compT (⟨⟨1, li1, L1, 0⟩, sd0, sd1⟩ : Lg)).2.s1, rlA b1 m0 m1 (compT (⟨⟨1, li1, L1, 0⟩, sd0, sd1⟩ : Lg)).2.lb] := k9 z9 [rlA b1 m0 m1 (compT (⟨⟨1, li1, L1, 0⟩, sd0, sd1⟩ : Lg)).2.lb, rsA m0 (compT (⟨⟨1, li1, L1, 0⟩, sd0, sd1⟩ : Lg)).2.s0, rsA m1 (compT (⟨⟨1, li1, L1, 0⟩, sd0, sd1⟩ : Lg)).2.s1] rfl g
    clear g g9 k9 hin9 hlt9
    refine ⟨_, rfl, ?_⟩
    intro a F
    refine l_pk 1 (fun L => (13, .int .i64 ((compT (⟨⟨1, li1, L1, 0⟩, sd0, sd1⟩ : Lg)).1)) :: L) F fun a F => ?_
    refine l_then ?_
    refine wp_seq ?_
    refine s_reg ?_
    refine l_pk 1 (fun L => (65, .int .i64 ((compT (⟨⟨1, li1, L1, 0⟩, sd0, sd1⟩ : Lg)).1)) :: L) F fun a F => ?_
    by_cases ht4 : ((compT (⟨⟨1, li1, L1, 0⟩, sd0, sd1⟩ : Lg)).1 : Int) = (0 : Int)
    ·
     refine l_do F rfl rfl (op_pk F (v0 := .bool (((compT (⟨⟨1, li1, L1, 0⟩, sd0, sd1⟩ : Lg)).1 : Int) != (0 : Int))) (v := .bool false) (neqF ht4) fun a F => ?_)
     refine l_then ?_
     refine c_f F rfl ?_
     refine wp_skip ?_
     refine then_n ?_
     refine s_reg ?_
     refine l_pk 3 (fun L => (5, .int .i64 0) :: (4, pt b1 0) :: (68, pt b1 0) :: L) F fun a F => ?_
     refine l_then ?_
     refine wp_ret ?_
     exact fin F [.tmp 4, .tmp 5] [pt b1 0, .int .i64 0] rfl ⟨by kernel_rfl, by kernel_rfl, trivial⟩ (.tuple #[pt b1 0, .int .i64 0]) rfl (by rw [hox]; exact .inl ⟨ht4, b1, rfl, (S.join (i := 1) (j := 3) rfl rfl (by decide)).pick [1, 2, 0] (by decide)⟩)
    refine l_do F rfl rfl (op_pk F (v0 := .bool (((compT (⟨⟨1, li1, L1, 0⟩, sd0, sd1⟩ : Lg)).1 : Int) != (0 : Int))) (v := .bool true) (neqT ht4) fun a F => ?_)
    refine l_then ?_
    refine c_t F rfl ?_
    refine s_reg ?_
    refine l_pk 3 (fun L => (5, .int .i64 ((compT (⟨⟨1, li1, L1, 0⟩, sd0, sd1⟩ : Lg)).1)) :: (4, .pointer none) :: (67, .int .i64 ((compT (⟨⟨1, li1, L1, 0⟩, sd0, sd1⟩ : Lg)).1)) :: L) F fun a F => ?_
    refine l_then ?_
    refine wp_ret ?_
    refine then_r (?_)
    exact fin F [.tmp 4, .tmp 5] [.pointer none, .int .i64 ((compT (⟨⟨1, li1, L1, 0⟩, sd0, sd1⟩ : Lg)).1)] rfl ⟨by kernel_rfl, by kernel_rfl, trivial⟩ (.tuple #[.pointer none, .int .i64 ((compT (⟨⟨1, li1, L1, 0⟩, sd0, sd1⟩ : Lg)).1)]) rfl (by rw [hox]; exact .inr ⟨ht4, rfl, S.pick [1, 2, 0] (by decide)⟩)
   refine l_do F rfl rfl (op_pk F (v0 := .bool (decide (((li1 : Nat) : Int) > (0 : Int)))) (v := .bool false) (gtrF ht3) fun a F => ?_)
   refine l_pk 1 (fun L => (50, .bool false) :: L) F fun a F => ?_
   refine l_then ?_
   refine c_f F rfl ?_
   refine wp_skip ?_
   refine inb_n ?_
   refine then_n ?_
   refine wp_region_list ?_
   refine l_pk 3 (fun L => (7, .int .i64 2) :: (22, .int .i64 2) :: (21, .int .i64 1) :: L) F fun a F => ?_
   refine l_then ?_
   refine rnd ?_
   refine wp_seq ?_
   refine s_reg ?_
   refine l_pk 2 (fun L => (20, .bool false) :: (19, .int .i64 2) :: L) F fun a F => ?_
   refine l_then ?_
   refine c_f F rfl ?_
   refine wp_exit ?_
   refine then_x ?_
   refine then_x ?_
   refine inb_x ?_
   refine then_n ?_
   refine s_reg ?_
   refine l_pk 1 (fun L => (63, pt b1 0) :: L) F fun a F => ?_
   have hp0 := pick_un (lb := lb0) (i := 0) (life := li0) (L := L0)
   have hp1 := pick_no (lb := lb0) (i := 1) (L := L1) ht3
   have hfo : foundT sd0 sd1 = ⟨1, 0, [], 0⟩ := by unfold foundT; rw [ht0, ht1, hp0, hp1]; rfl
   have hfk := (found_ok in0 in1).up (m := 900000) (by decide)
   rw [hfo] at hfk
   have hox : openT sd0 sd1 = compT (⟨⟨1, 0, [], 0⟩, sd0, sd1⟩ : Lg) := by unfold openT; rw [hfo]
   have S := S.nilRow 100 2
   have S : Sat w z ([rest w G, rsA m0 sd0, rsA m1 sd1] ++ [rlBox b1 m0 m1 1 0 none ([] : List NV).length 0 0, row 100 2 (.slice none ([] : List NV).length 0) ([] : List NV).length (([] : List NV).flatMap nvC)]) := S.pick [0, 1, 2, 3, 8] (by decide)
   have S := rl_shutL S
   have S : Sat w z [rest w G, rsA m0 sd0, rsA m1 sd1, rlA b1 m0 m1 ⟨1, 0, [], 0⟩] := S
   obtain ⟨G9, g9, hin9, hlt9, k9⟩ := S.frameB [3, 1, 2] (by decide) rfl
   refine l_do F rfl rfl (op_fn F (by kernel_rfl) (rcomp_any (x := (⟨⟨1, 0, [], 0⟩, sd0, sd1⟩ : Lg)) N in0 in1 hN hfk g9) ?_)
   rintro e z9 ⟨rfl, g⟩
   have S : Sat w z9 [rest w G, rsA m0 (compT (⟨⟨1, 0, [], 0⟩, sd0, sd1⟩ : Lg)).2.s0, rsA m1 (compT (⟨⟨1, 0, [], 0⟩, sd0, sd1⟩ : Lg)).2.s1, rlA b1 m0 m1 (compT (⟨⟨1, 0, [], 0⟩, sd0, sd1⟩ : Lg)).2.lb] := k9 z9 [rlA b1 m0 m1 (compT (⟨⟨1, 0, [], 0⟩, sd0, sd1⟩ : Lg)).2.lb, rsA m0 (compT (⟨⟨1, 0, [], 0⟩, sd0, sd1⟩ : Lg)).2.s0, rsA m1 (compT (⟨⟨1, 0, [], 0⟩, sd0, sd1⟩ : Lg)).2.s1] rfl g
   clear g g9 k9 hin9 hlt9
   refine ⟨_, rfl, ?_⟩
   intro a F
   refine l_pk 1 (fun L => (13, .int .i64 ((compT (⟨⟨1, 0, [], 0⟩, sd0, sd1⟩ : Lg)).1)) :: L) F fun a F => ?_
   refine l_then ?_
   refine wp_seq ?_
   refine s_reg ?_
   refine l_pk 1 (fun L => (65, .int .i64 ((compT (⟨⟨1, 0, [], 0⟩, sd0, sd1⟩ : Lg)).1)) :: L) F fun a F => ?_
   by_cases ht5 : ((compT (⟨⟨1, 0, [], 0⟩, sd0, sd1⟩ : Lg)).1 : Int) = (0 : Int)
   ·
    refine l_do F rfl rfl (op_pk F (v0 := .bool (((compT (⟨⟨1, 0, [], 0⟩, sd0, sd1⟩ : Lg)).1 : Int) != (0 : Int))) (v := .bool false) (neqF ht5) fun a F => ?_)
    refine l_then ?_
    refine c_f F rfl ?_
    refine wp_skip ?_
    refine then_n ?_
    refine s_reg ?_
    refine l_pk 3 (fun L => (5, .int .i64 0) :: (4, pt b1 0) :: (68, pt b1 0) :: L) F fun a F => ?_
    refine l_then ?_
    refine wp_ret ?_
    exact fin F [.tmp 4, .tmp 5] [pt b1 0, .int .i64 0] rfl ⟨by kernel_rfl, by kernel_rfl, trivial⟩ (.tuple #[pt b1 0, .int .i64 0]) rfl (by rw [hox]; exact .inl ⟨ht5, b1, rfl, (S.join (i := 1) (j := 3) rfl rfl (by decide)).pick [1, 2, 0] (by decide)⟩)
   refine l_do F rfl rfl (op_pk F (v0 := .bool (((compT (⟨⟨1, 0, [], 0⟩, sd0, sd1⟩ : Lg)).1 : Int) != (0 : Int))) (v := .bool true) (neqT ht5) fun a F => ?_)
   refine l_then ?_
   refine c_t F rfl ?_
   refine s_reg ?_
   refine l_pk 3 (fun L => (5, .int .i64 ((compT (⟨⟨1, 0, [], 0⟩, sd0, sd1⟩ : Lg)).1)) :: (4, .pointer none) :: (67, .int .i64 ((compT (⟨⟨1, 0, [], 0⟩, sd0, sd1⟩ : Lg)).1)) :: L) F fun a F => ?_
   refine l_then ?_
   refine wp_ret ?_
   refine then_r (?_)
   exact fin F [.tmp 4, .tmp 5] [.pointer none, .int .i64 ((compT (⟨⟨1, 0, [], 0⟩, sd0, sd1⟩ : Lg)).1)] rfl ⟨by kernel_rfl, by kernel_rfl, trivial⟩ (.tuple #[.pointer none, .int .i64 ((compT (⟨⟨1, 0, [], 0⟩, sd0, sd1⟩ : Lg)).1)]) rfl (by rw [hox]; exact .inr ⟨ht5, rfl, S.pick [1, 2, 0] (by decide)⟩)
 | true =>
  skip
  refine l_pk 4 (fun L => (47, pt b1 3) :: (46, pt b1 0) :: (45, pt b1 0) :: (44, .int .u32 (li0 : Nat)) :: L) F fun a F => ?_
  refine l_do F rfl rfl (op_ldk (some ⟨b1, 0, none⟩) 3 (.int .u32 0) F rfl (cBox S 3 rfl (j := 3) rfl) (fun a F => ?_))
  by_cases ht6 : (0 : Int) < ((li0 : Nat) : Int)
  ·
   refine l_do F rfl rfl (op_pk F (v0 := .bool (decide (((li0 : Nat) : Int) > (0 : Int)))) (v := .bool true) (gtrT ht6) fun a F => ?_)
   refine l_pk 1 (fun L => (50, .bool true) :: L) F fun a F => ?_
   refine l_then ?_
   refine c_t F rfl ?_
   refine s_reg ?_
   refine l_pk 4 (fun L => (54, pt b1 2) :: (53, pt b1 0) :: (52, .int .i64 0) :: (51, pt b1 0) :: L) F fun a F => ?_
   refine l_do F rfl rfl (op_storeB S 3 _ _ _ b1 2 (.int .i64 0) F rfl rfl (by kernel_rfl) (by kernel_rfl) (by kernel_rfl) (by kernel_rfl) (by kernel_rfl) fun z S a F => ?_)
   refine l_then ?_
   refine s_reg ?_
   refine l_pk 4 (fun L => (58, pt b1 3) :: (57, pt b1 0) :: (56, .int .u32 (li0 : Nat)) :: (55, pt b1 0) :: L) F fun a F => ?_
   refine l_do F rfl rfl (op_storeB S 3 _ _ _ b1 3 (.int .u32 (li0 : Nat)) F rfl rfl (by kernel_rfl) (by kernel_rfl) (by kernel_rfl) (by kernel_rfl) (by kernel_rfl) fun z S a F => ?_)
   refine l_then ?_
   refine wp_region_list ?_
   refine l_pk 4 (fun L => (62, pt b1 4) :: (61, pt b1 0) :: (60, .slice At0 L0.length ct0) :: (59, pt b1 0) :: L) F fun a F => ?_
   refine l_do F rfl rfl (op_storeB S 3 _ _ _ b1 4 (.slice At0 L0.length ct0) F rfl rfl (by kernel_rfl) (by kernel_rfl) (by kernel_rfl) (by kernel_rfl) (by kernel_rfl) fun z S a F => ?_)
   refine l_nil (inb_n ?_)
   refine then_n ?_
   refine wp_region_list ?_
   refine l_pk 3 (fun L => (7, .int .i64 1) :: (22, .int .i64 1) :: (21, .int .i64 0) :: L) F fun a F => ?_
   refine l_then ?_
   refine rnd ?_
   refine wp_seq ?_
   refine s_reg ?_
   refine l_pk 2 (fun L => (20, .bool true) :: (19, .int .i64 1) :: L) F fun a F => ?_
   refine l_then ?_
   refine c_t F rfl ?_
   refine wp_skip ?_
   refine then_n ?_
   refine wp_seq ?_
   refine wp_block ?_
   refine s_reg ?_
   refine l_pk 5 (fun L => (28, pt b1 1) :: (27, pt b1 0) :: (26, pt b1 0) :: (25, .int .i64 1) :: (24, pt b1 0) :: L) F fun a F => ?_
   refine l_do F rfl rfl (op_ldk (some ⟨b1, 0, none⟩) 1 (pt m1 0) F rfl (cBox S 3 rfl (j := 1) rfl) (fun a F => ?_))
   refine l_do F rfl rfl (op_fn F (by kernel_rfl) (rread_at S (i := 2) rfl in1 (by omega) hd1) ?_)
   rintro e z ⟨Aw1, cw1, rfl, S⟩
   have hrl1 := rd_len in1
   have hcw1 := own_cap (S.rowOf (i := 6) rfl)
   refine ⟨_, rfl, ?_⟩
   intro a F
   refine l_pk 5 (fun L => (9, .int .i64 0) :: (8, .slice Aw1 sd1.rd.length cw1) :: (32, .int .i64 0) :: (31, .slice Aw1 sd1.rd.length cw1) :: (23, .tuple #[.slice Aw1 sd1.rd.length cw1, .int .i64 0]) :: L) F fun a F => ?_
   refine l_then ?_
   refine wp_seq ?_
   refine s_reg ?_
   refine l_pk 2 (fun L => (34, .bool false) :: (33, .int .i64 0) :: L) F fun a F => ?_
   refine l_then ?_
   refine c_f F rfl ?_
   refine wp_skip ?_
   refine then_n ?_
   refine s_reg ?_
   refine l_pk 1 (fun L => (37, .slice Aw1 sd1.rd.length cw1) :: L) F fun a F => ?_
   refine l_do F rfl rfl (op_fn F (by kernel_rfl) ((by have h9 := rtell_any _ Aw1 cw1 sd1.rd (Recs.ofRow (S.rowOf (i := 6) rfl) (by first | omega | decide | (simp only [List.length_cons, List.length_nil]; omega))) hcw1 (by omega); rw [ht1] at h9; exact h9)) ?_)
   rintro e z ⟨At1, ct1, rfl, g⟩
   have S := S.pushThings g
   refine ⟨_, rfl, ?_⟩
   intro a F
   refine l_pk 7 (fun L => (12, .slice At1 L1.length ct1) :: (11, .bool se1) :: (10, .int .u32 (li1 : Nat)) :: (41, .slice At1 L1.length ct1) :: (40, .bool se1) :: (39, .int .u32 (li1 : Nat)) :: (36, .tuple #[.int .u32 (li1 : Nat), .bool se1, .slice At1 L1.length ct1]) :: L) F fun a F => ?_
   refine l_then ?_
   refine s_reg ?_
   refine l_pk 2 (fun L => (43, .bool se1) :: (42, .bool se1) :: L) F fun a F => ?_
   cases se1 with
   | false =>
    skip
    refine l_pk 7 (fun L => (50, .bool false) :: (49, undef) :: (48, undef) :: (47, undef) :: (46, undef) :: (45, undef) :: (44, undef) :: L) F fun a F => ?_
    refine l_then ?_
    refine c_f F rfl ?_
    refine wp_skip ?_
    refine inb_n ?_
    refine then_n ?_
    refine wp_region_list ?_
    refine l_pk 3 (fun L => (7, .int .i64 2) :: (22, .int .i64 2) :: (21, .int .i64 1) :: L) F fun a F => ?_
    refine l_then ?_
    refine rnd ?_
    refine wp_seq ?_
    refine s_reg ?_
    refine l_pk 2 (fun L => (20, .bool false) :: (19, .int .i64 2) :: L) F fun a F => ?_
    refine l_then ?_
    refine c_f F rfl ?_
    refine wp_exit ?_
    refine then_x ?_
    refine then_x ?_
    refine inb_x ?_
    refine then_n ?_
    refine s_reg ?_
    refine l_pk 1 (fun L => (63, pt b1 0) :: L) F fun a F => ?_
    have hp0 := pick_yes (lb := lb0) (i := 0) (L := L0) ht6
    have hp1 := pick_un (lb := (⟨0, li0, L0, 0⟩ : Lb)) (i := 1) (life := li1) (L := L1)
    have hfo : foundT sd0 sd1 = ⟨0, li0, L0, 0⟩ := by unfold foundT; rw [ht0, ht1, hp0, hp1]
    have hfk := (found_ok in0 in1).up (m := 900000) (by decide)
    rw [hfo] at hfk
    have hox : openT sd0 sd1 = compT (⟨⟨0, li0, L0, 0⟩, sd0, sd1⟩ : Lg) := by unfold openT; rw [hfo]
    have S : Sat w z ([rest w G, rsA m0 sd0, rsA m1 sd1] ++ [rlBox b1 m0 m1 0 li0 At0 (L0 : List NV).length ct0 0, row 100 2 (.slice At0 (L0 : List NV).length ct0) (L0 : List NV).length ((L0 : List NV).flatMap nvC)]) := S.pick [0, 1, 2, 3, 5] (by decide)
    have S := rl_shutL S
    have S : Sat w z [rest w G, rsA m0 sd0, rsA m1 sd1, rlA b1 m0 m1 ⟨0, li0, L0, 0⟩] := S
    obtain ⟨G9, g9, hin9, hlt9, k9⟩ := S.frameB [3, 1, 2] (by decide) rfl
    refine l_do F rfl rfl (op_fn F (by kernel_rfl) (rcomp_any (x := (⟨⟨0, li0, L0, 0⟩, sd0, sd1⟩ : Lg)) N in0 in1 hN hfk g9) ?_)
    rintro e z9 ⟨rfl, g⟩
    have S : Sat w z9 [rest w G, rsA m0 (compT (⟨⟨0, li0, L0, 0⟩, sd0, sd1⟩ : Lg)).2.s0, rsA m1 (compT (⟨⟨0, li0, L0, 0⟩, sd0, sd1⟩ : Lg)).2.s1, rlA b1 m0 m1 (compT (⟨⟨0, li0, L0, 0⟩, sd0, sd1⟩ : Lg)).2.lb] := k9 z9 [rlA b1 m0 m1 (compT (⟨⟨0, li0, L0, 0⟩, sd0, sd1⟩ : Lg)).2.lb, rsA m0 (compT (⟨⟨0, li0, L0, 0⟩, sd0, sd1⟩ : Lg)).2.s0, rsA m1 (compT (⟨⟨0, li0, L0, 0⟩, sd0, sd1⟩ : Lg)).2.s1] rfl g
    clear g g9 k9 hin9 hlt9
    refine ⟨_, rfl, ?_⟩
    intro a F
    refine l_pk 1 (fun L => (13, .int .i64 ((compT (⟨⟨0, li0, L0, 0⟩, sd0, sd1⟩ : Lg)).1)) :: L) F fun a F => ?_
    refine l_then ?_
    refine wp_seq ?_
    refine s_reg ?_
    refine l_pk 1 (fun L => (65, .int .i64 ((compT (⟨⟨0, li0, L0, 0⟩, sd0, sd1⟩ : Lg)).1)) :: L) F fun a F => ?_
    by_cases ht7 : ((compT (⟨⟨0, li0, L0, 0⟩, sd0, sd1⟩ : Lg)).1 : Int) = (0 : Int)
    ·
     refine l_do F rfl rfl (op_pk F (v0 := .bool (((compT (⟨⟨0, li0, L0, 0⟩, sd0, sd1⟩ : Lg)).1 : Int) != (0 : Int))) (v := .bool false) (neqF ht7) fun a F => ?_)
     refine l_then ?_
     refine c_f F rfl ?_
     refine wp_skip ?_
     refine then_n ?_
     refine s_reg ?_
     refine l_pk 3 (fun L => (5, .int .i64 0) :: (4, pt b1 0) :: (68, pt b1 0) :: L) F fun a F => ?_
     refine l_then ?_
     refine wp_ret ?_
     exact fin F [.tmp 4, .tmp 5] [pt b1 0, .int .i64 0] rfl ⟨by kernel_rfl, by kernel_rfl, trivial⟩ (.tuple #[pt b1 0, .int .i64 0]) rfl (by rw [hox]; exact .inl ⟨ht7, b1, rfl, (S.join (i := 1) (j := 3) rfl rfl (by decide)).pick [1, 2, 0] (by decide)⟩)
    refine l_do F rfl rfl (op_pk F (v0 := .bool (((compT (⟨⟨0, li0, L0, 0⟩, sd0, sd1⟩ : Lg)).1 : Int) != (0 : Int))) (v := .bool true) (neqT ht7) fun a F => ?_)
    refine l_then ?_
    refine c_t F rfl ?_
    refine s_reg ?_
    refine l_pk 3 (fun L => (5, .int .i64 ((compT (⟨⟨0, li0, L0, 0⟩, sd0, sd1⟩ : Lg)).1)) :: (4, .pointer none) :: (67, .int .i64 ((compT (⟨⟨0, li0, L0, 0⟩, sd0, sd1⟩ : Lg)).1)) :: L) F fun a F => ?_
    refine l_then ?_
    refine wp_ret ?_
    refine then_r (?_)
    exact fin F [.tmp 4, .tmp 5] [.pointer none, .int .i64 ((compT (⟨⟨0, li0, L0, 0⟩, sd0, sd1⟩ : Lg)).1)] rfl ⟨by kernel_rfl, by kernel_rfl, trivial⟩ (.tuple #[.pointer none, .int .i64 ((compT (⟨⟨0, li0, L0, 0⟩, sd0, sd1⟩ : Lg)).1)]) rfl (by rw [hox]; exact .inr ⟨ht7, rfl, S.pick [1, 2, 0] (by decide)⟩)
   | true =>
    skip
    refine l_pk 4 (fun L => (47, pt b1 3) :: (46, pt b1 0) :: (45, pt b1 0) :: (44, .int .u32 (li1 : Nat)) :: L) F fun a F => ?_
    refine l_do F rfl rfl (op_ldk (some ⟨b1, 0, none⟩) 3 (.int .u32 (li0 : Nat)) F rfl (cBox S 3 rfl (j := 3) rfl) (fun a F => ?_))
    by_cases ht8 : ((li0 : Nat) : Int) < ((li1 : Nat) : Int)
    ·
     refine l_do F rfl rfl (op_pk F (v0 := .bool (decide (((li1 : Nat) : Int) > ((li0 : Nat) : Int)))) (v := .bool true) (gtrT ht8) fun a F => ?_)
     refine l_pk 1 (fun L => (50, .bool true) :: L) F fun a F => ?_
     refine l_then ?_
     refine c_t F rfl ?_
     refine s_reg ?_
     refine l_pk 4 (fun L => (54, pt b1 2) :: (53, pt b1 0) :: (52, .int .i64 1) :: (51, pt b1 0) :: L) F fun a F => ?_
     refine l_do F rfl rfl (op_storeB S 3 _ _ _ b1 2 (.int .i64 1) F rfl rfl (by kernel_rfl) (by kernel_rfl) (by kernel_rfl) (by kernel_rfl) (by kernel_rfl) fun z S a F => ?_)
     refine l_then ?_
     refine s_reg ?_
     refine l_pk 4 (fun L => (58, pt b1 3) :: (57, pt b1 0) :: (56, .int .u32 (li1 : Nat)) :: (55, pt b1 0) :: L) F fun a F => ?_
     refine l_do F rfl rfl (op_storeB S 3 _ _ _ b1 3 (.int .u32 (li1 : Nat)) F rfl rfl (by kernel_rfl) (by kernel_rfl) (by kernel_rfl) (by kernel_rfl) (by kernel_rfl) fun z S a F => ?_)
     refine l_then ?_
     refine wp_region_list ?_
     refine l_pk 4 (fun L => (62, pt b1 4) :: (61, pt b1 0) :: (60, .slice At1 L1.length ct1) :: (59, pt b1 0) :: L) F fun a F => ?_
     refine l_do F rfl rfl (op_storeB S 3 _ _ _ b1 4 (.slice At1 L1.length ct1) F rfl rfl (by kernel_rfl) (by kernel_rfl) (by kernel_rfl) (by kernel_rfl) (by kernel_rfl) fun z S a F => ?_)
     refine l_nil (inb_n ?_)
     refine then_n ?_
     refine wp_region_list ?_
     refine l_pk 3 (fun L => (7, .int .i64 2) :: (22, .int .i64 2) :: (21, .int .i64 1) :: L) F fun a F => ?_
     refine l_then ?_
     refine rnd ?_
     refine wp_seq ?_
     refine s_reg ?_
     refine l_pk 2 (fun L => (20, .bool false) :: (19, .int .i64 2) :: L) F fun a F => ?_
     refine l_then ?_
     refine c_f F rfl ?_
     refine wp_exit ?_
     refine then_x ?_
     refine then_x ?_
     refine inb_x ?_
     refine then_n ?_
     refine s_reg ?_
     refine l_pk 1 (fun L => (63, pt b1 0) :: L) F fun a F => ?_
     have hp0 := pick_yes (lb := lb0) (i := 0) (L := L0) ht6
     have hp1 := pick_yes (lb := (⟨0, li0, L0, 0⟩ : Lb)) (i := 1) (L := L1) ht8
     have hfo : foundT sd0 sd1 = ⟨1, li1, L1, 0⟩ := by unfold foundT; rw [ht0, ht1, hp0, hp1]
     have hfk := (found_ok in0 in1).up (m := 900000) (by decide)
     rw [hfo] at hfk
     have hox : openT sd0 sd1 = compT (⟨⟨1, li1, L1, 0⟩, sd0, sd1⟩ : Lg) := by unfold openT; rw [hfo]
     have S : Sat w z ([rest w G, rsA m0 sd0, rsA m1 sd1] ++ [rlBox b1 m0 m1 1 li1 At1 (L1 : List NV).length ct1 0, row 100 2 (.slice At1 (L1 : List NV).length ct1) (L1 : List NV).length ((L1 : List NV).flatMap nvC)]) := S.pick [0, 1, 2, 3, 7] (by decide)
     have S := rl_shutL S
     have S : Sat w z [rest w G, rsA m0 sd0, rsA m1 sd1, rlA b1 m0 m1 ⟨1, li1, L1, 0⟩] := S
     obtain ⟨G9, g9, hin9, hlt9, k9⟩ := S.frameB [3, 1, 2] (by decide) rfl
     refine l_do F rfl rfl (op_fn F (by kernel_rfl) (rcomp_any (x := (⟨⟨1, li1, L1, 0⟩, sd0, sd1⟩ : Lg)) N in0 in1 hN hfk g9) ?_)
     rintro e z9 ⟨rfl, g⟩
     have S : Sat w z9 [rest w G, rsA m0 (compT (⟨⟨1, li1, L1, 0⟩, sd0, sd1⟩ : Lg)).2.s0, rsA m1 (compT (⟨⟨1, li1, L1, 0⟩, sd0, sd1⟩ : Lg)).2.s1, rlA b1 m0 m1 (compT (⟨⟨1, li1, L1, 0⟩, sd0, sd1⟩ : Lg)).2.lb] := k9 z9 [rlA b1 m0 m1 (compT (⟨⟨1, li1, L1, 0⟩, sd0, sd1⟩ : Lg)).2.lb, rsA m0 (compT (⟨⟨1, li1, L1, 0⟩, sd0, sd1⟩ : Lg)).2.s0, rsA m1 (compT (⟨⟨1, li1, L1, 0⟩, sd0, sd1⟩ : Lg)).2.s1] rfl g
     clear g g9 k9 hin9 hlt9
     refine ⟨_, rfl, ?_⟩
     intro a F
     refine l_pk 1 (fun L => (13, .int .i64 ((compT (⟨⟨1, li1, L1, 0⟩, sd0, sd1⟩ : Lg)).1)) :: L) F fun a F => ?_
     refine l_then ?_
     refine wp_seq ?_
     refine s_reg ?_
     refine l_pk 1 (fun L => (65, .int .i64 ((compT (⟨⟨1, li1, L1, 0⟩, sd0, sd1⟩ : Lg)).1)) :: L) F fun a F => ?_
     by_cases ht9 : ((compT (⟨⟨1, li1, L1, 0⟩, sd0, sd1⟩ : Lg)).1 : Int) = (0 : Int)
     ·
      refine l_do F rfl rfl (op_pk F (v0 := .bool (((compT (⟨⟨1, li1, L1, 0⟩, sd0, sd1⟩ : Lg)).1 : Int) != (0 : Int))) (v := .bool false) (neqF ht9) fun a F => ?_)
      refine l_then ?_
      refine c_f F rfl ?_
      refine wp_skip ?_
      refine then_n ?_
      refine s_reg ?_
      refine l_pk 3 (fun L => (5, .int .i64 0) :: (4, pt b1 0) :: (68, pt b1 0) :: L) F fun a F => ?_
      refine l_then ?_
      refine wp_ret ?_
      exact fin F [.tmp 4, .tmp 5] [pt b1 0, .int .i64 0] rfl ⟨by kernel_rfl, by kernel_rfl, trivial⟩ (.tuple #[pt b1 0, .int .i64 0]) rfl (by rw [hox]; exact .inl ⟨ht9, b1, rfl, (S.join (i := 1) (j := 3) rfl rfl (by decide)).pick [1, 2, 0] (by decide)⟩)
     refine l_do F rfl rfl (op_pk F (v0 := .bool (((compT (⟨⟨1, li1, L1, 0⟩, sd0, sd1⟩ : Lg)).1 : Int) != (0 : Int))) (v := .bool true) (neqT ht9) fun a F => ?_)
     refine l_then ?_
     refine c_t F rfl ?_
     refine s_reg ?_
     refine l_pk 3 (fun L => (5, .int .i64 ((compT (⟨⟨1, li1, L1, 0⟩, sd0, sd1⟩ : Lg)).1)) :: (4, .pointer none) :: (67, .int .i64 ((compT (⟨⟨1, li1, L1, 0⟩, sd0, sd1⟩ : Lg)).1)) :: L) F fun a F => ?_
     refine l_then ?_
     refine wp_ret ?_
     refine then_r (?_)
     exact fin F [.tmp 4, .tmp 5] [.pointer none, .int .i64 ((compT (⟨⟨1, li1, L1, 0⟩, sd0, sd1⟩ : Lg)).1)] rfl ⟨by kernel_rfl, by kernel_rfl, trivial⟩ (.tuple #[.pointer none, .int .i64 ((compT (⟨⟨1, li1, L1, 0⟩, sd0, sd1⟩ : Lg)).1)]) rfl (by rw [hox]; exact .inr ⟨ht9, rfl, S.pick [1, 2, 0] (by decide)⟩)
    refine l_do F rfl rfl (op_pk F (v0 := .bool (decide (((li1 : Nat) : Int) > ((li0 : Nat) : Int)))) (v := .bool false) (gtrF ht8) fun a F => ?_)
    refine l_pk 1 (fun L => (50, .bool false) :: L) F fun a F => ?_
    refine l_then ?_
    refine c_f F rfl ?_
    refine wp_skip ?_
    refine inb_n ?_
    refine then_n ?_
    refine wp_region_list ?_
    refine l_pk 3 (fun L => (7, .int .i64 2) :: (22, .int .i64 2) :: (21, .int .i64 1) :: L) F fun a F => ?_
    refine l_then ?_
    refine rnd ?_
    refine wp_seq ?_
    refine s_reg ?_
    refine l_pk 2 (fun L => (20, .bool false) :: (19, .int .i64 2) :: L) F fun a F => ?_
    refine l_then ?_
    refine c_f F rfl ?_
    refine wp_exit ?_
    refine then_x ?_
    refine then_x ?_
    refine inb_x ?_
    refine then_n ?_
    refine s_reg ?_
    refine l_pk 1 (fun L => (63, pt b1 0) :: L) F fun a F => ?_
    have hp0 := pick_yes (lb := lb0) (i := 0) (L := L0) ht6
    have hp1 := pick_no (lb := (⟨0, li0, L0, 0⟩ : Lb)) (i := 1) (L := L1) ht8
    have hfo : foundT sd0 sd1 = ⟨0, li0, L0, 0⟩ := by unfold foundT; rw [ht0, ht1, hp0, hp1]
    have hfk := (found_ok in0 in1).up (m := 900000) (by decide)
    rw [hfo] at hfk
    have hox : openT sd0 sd1 = compT (⟨⟨0, li0, L0, 0⟩, sd0, sd1⟩ : Lg) := by unfold openT; rw [hfo]
    have S : Sat w z ([rest w G, rsA m0 sd0, rsA m1 sd1] ++ [rlBox b1 m0 m1 0 li0 At0 (L0 : List NV).length ct0 0, row 100 2 (.slice At0 (L0 : List NV).length ct0) (L0 : List NV).length ((L0 : List NV).flatMap nvC)]) := S.pick [0, 1, 2, 3, 5] (by decide)
    have S := rl_shutL S
    have S : Sat w z [rest w G, rsA m0 sd0, rsA m1 sd1, rlA b1 m0 m1 ⟨0, li0, L0, 0⟩] := S
    obtain ⟨G9, g9, hin9, hlt9, k9⟩ := S.frameB [3, 1, 2] (by decide) rfl
    refine l_do F rfl rfl (op_fn F (by kernel_rfl) (rcomp_any (x := (⟨⟨0, li0, L0, 0⟩, sd0, sd1⟩ : Lg)) N in0 in1 hN hfk g9) ?_)
    rintro e z9 ⟨rfl, g⟩
    have S : Sat w z9 [rest w G, rsA m0 (compT (⟨⟨0, li0, L0, 0⟩, sd0, sd1⟩ : Lg)).2.s0, rsA m1 (compT (⟨⟨0, li0, L0, 0⟩, sd0, sd1⟩ : Lg)).2.s1, rlA b1 m0 m1 (compT (⟨⟨0, li0, L0, 0⟩, sd0, sd1⟩ : Lg)).2.lb] := k9 z9 [rlA b1 m0 m1 (compT (⟨⟨0, li0, L0, 0⟩, sd0, sd1⟩ : Lg)).2.lb, rsA m0 (compT (⟨⟨0, li0, L0, 0⟩, sd0, sd1⟩ : Lg)).2.s0, rsA m1 (compT (⟨⟨0, li0, L0, 0⟩, sd0, sd1⟩ : Lg)).2.s1] rfl g
    clear g g9 k9 hin9 hlt9
    refine ⟨_, rfl, ?_⟩
    intro a F
    refine l_pk 1 (fun L => (13, .int .i64 ((compT (⟨⟨0, li0, L0, 0⟩, sd0, sd1⟩ : Lg)).1)) :: L) F fun a F => ?_
    refine l_then ?_
    refine wp_seq ?_
    refine s_reg ?_
    refine l_pk 1 (fun L => (65, .int .i64 ((compT (⟨⟨0, li0, L0, 0⟩, sd0, sd1⟩ : Lg)).1)) :: L) F fun a F => ?_
    by_cases ht10 : ((compT (⟨⟨0, li0, L0, 0⟩, sd0, sd1⟩ : Lg)).1 : Int) = (0 : Int)
    ·
     refine l_do F rfl rfl (op_pk F (v0 := .bool (((compT (⟨⟨0, li0, L0, 0⟩, sd0, sd1⟩ : Lg)).1 : Int) != (0 : Int))) (v := .bool false) (neqF ht10) fun a F => ?_)
     refine l_then ?_
     refine c_f F rfl ?_
     refine wp_skip ?_
     refine then_n ?_
     refine s_reg ?_
     refine l_pk 3 (fun L => (5, .int .i64 0) :: (4, pt b1 0) :: (68, pt b1 0) :: L) F fun a F => ?_
     refine l_then ?_
     refine wp_ret ?_
     exact fin F [.tmp 4, .tmp 5] [pt b1 0, .int .i64 0] rfl ⟨by kernel_rfl, by kernel_rfl, trivial⟩ (.tuple #[pt b1 0, .int .i64 0]) rfl (by rw [hox]; exact .inl ⟨ht10, b1, rfl, (S.join (i := 1) (j := 3) rfl rfl (by decide)).pick [1, 2, 0] (by decide)⟩)
    refine l_do F rfl rfl (op_pk F (v0 := .bool (((compT (⟨⟨0, li0, L0, 0⟩, sd0, sd1⟩ : Lg)).1 : Int) != (0 : Int))) (v := .bool true) (neqT ht10) fun a F => ?_)
    refine l_then ?_
    refine c_t F rfl ?_
    refine s_reg ?_
    refine l_pk 3 (fun L => (5, .int .i64 ((compT (⟨⟨0, li0, L0, 0⟩, sd0, sd1⟩ : Lg)).1)) :: (4, .pointer none) :: (67, .int .i64 ((compT (⟨⟨0, li0, L0, 0⟩, sd0, sd1⟩ : Lg)).1)) :: L) F fun a F => ?_
    refine l_then ?_
    refine wp_ret ?_
    refine then_r (?_)
    exact fin F [.tmp 4, .tmp 5] [.pointer none, .int .i64 ((compT (⟨⟨0, li0, L0, 0⟩, sd0, sd1⟩ : Lg)).1)] rfl ⟨by kernel_rfl, by kernel_rfl, trivial⟩ (.tuple #[.pointer none, .int .i64 ((compT (⟨⟨0, li0, L0, 0⟩, sd0, sd1⟩ : Lg)).1)]) rfl (by rw [hox]; exact .inr ⟨ht10, rfl, S.pick [1, 2, 0] (by decide)⟩)
  refine l_do F rfl rfl (op_pk F (v0 := .bool (decide (((li0 : Nat) : Int) > (0 : Int)))) (v := .bool false) (gtrF ht6) fun a F => ?_)
  refine l_pk 1 (fun L => (50, .bool false) :: L) F fun a F => ?_
  refine l_then ?_
  refine c_f F rfl ?_
  refine wp_skip ?_
  refine inb_n ?_
  refine then_n ?_
  refine wp_region_list ?_
  refine l_pk 3 (fun L => (7, .int .i64 1) :: (22, .int .i64 1) :: (21, .int .i64 0) :: L) F fun a F => ?_
  refine l_then ?_
  refine rnd ?_
  refine wp_seq ?_
  refine s_reg ?_
  refine l_pk 2 (fun L => (20, .bool true) :: (19, .int .i64 1) :: L) F fun a F => ?_
  refine l_then ?_
  refine c_t F rfl ?_
  refine wp_skip ?_
  refine then_n ?_
  refine wp_seq ?_
  refine wp_block ?_
  refine s_reg ?_
  refine l_pk 5 (fun L => (28, pt b1 1) :: (27, pt b1 0) :: (26, pt b1 0) :: (25, .int .i64 1) :: (24, pt b1 0) :: L) F fun a F => ?_
  refine l_do F rfl rfl (op_ldk (some ⟨b1, 0, none⟩) 1 (pt m1 0) F rfl (cBox S 3 rfl (j := 1) rfl) (fun a F => ?_))
  refine l_do F rfl rfl (op_fn F (by kernel_rfl) (rread_at S (i := 2) rfl in1 (by omega) hd1) ?_)
  rintro e z ⟨Aw1, cw1, rfl, S⟩
  have hrl1 := rd_len in1
  have hcw1 := own_cap (S.rowOf (i := 6) rfl)
  refine ⟨_, rfl, ?_⟩
  intro a F
  refine l_pk 5 (fun L => (9, .int .i64 0) :: (8, .slice Aw1 sd1.rd.length cw1) :: (32, .int .i64 0) :: (31, .slice Aw1 sd1.rd.length cw1) :: (23, .tuple #[.slice Aw1 sd1.rd.length cw1, .int .i64 0]) :: L) F fun a F => ?_
  refine l_then ?_
  refine wp_seq ?_
  refine s_reg ?_
  refine l_pk 2 (fun L => (34, .bool false) :: (33, .int .i64 0) :: L) F fun a F => ?_
  refine l_then ?_
  refine c_f F rfl ?_
  refine wp_skip ?_
  refine then_n ?_
  refine s_reg ?_
  refine l_pk 1 (fun L => (37, .slice Aw1 sd1.rd.length cw1) :: L) F fun a F => ?_
  refine l_do F rfl rfl (op_fn F (by kernel_rfl) ((by have h9 := rtell_any _ Aw1 cw1 sd1.rd (Recs.ofRow (S.rowOf (i := 6) rfl) (by first | omega | decide | (simp only [List.length_cons, List.length_nil]; omega))) hcw1 (by omega); rw [ht1] at h9; exact h9)) ?_)
  rintro e z ⟨At1, ct1, rfl, g⟩
  have S := S.pushThings g
  refine ⟨_, rfl, ?_⟩
  intro a F
  refine l_pk 7 (fun L => (12, .slice At1 L1.length ct1) :: (11, .bool se1) :: (10, .int .u32 (li1 : Nat)) :: (41, .slice At1 L1.length ct1) :: (40, .bool se1) :: (39, .int .u32 (li1 : Nat)) :: (36, .tuple #[.int .u32 (li1 : Nat), .bool se1, .slice At1 L1.length ct1]) :: L) F fun a F => ?_
  refine l_then ?_
  refine s_reg ?_
  refine l_pk 2 (fun L => (43, .bool se1) :: (42, .bool se1) :: L) F fun a F => ?_
  cases se1 with
  | false =>
   skip
   refine l_pk 7 (fun L => (50, .bool false) :: (49, undef) :: (48, undef) :: (47, undef) :: (46, undef) :: (45, undef) :: (44, undef) :: L) F fun a F => ?_
   refine l_then ?_
   refine c_f F rfl ?_
   refine wp_skip ?_
   refine inb_n ?_
   refine then_n ?_
   refine wp_region_list ?_
   refine l_pk 3 (fun L => (7, .int .i64 2) :: (22, .int .i64 2) :: (21, .int .i64 1) :: L) F fun a F => ?_
   refine l_then ?_
   refine rnd ?_
   refine wp_seq ?_
   refine s_reg ?_
   refine l_pk 2 (fun L => (20, .bool false) :: (19, .int .i64 2) :: L) F fun a F => ?_
   refine l_then ?_
   refine c_f F rfl ?_
   refine wp_exit ?_
   refine then_x ?_
   refine then_x ?_
   refine inb_x ?_
   refine then_n ?_
   refine s_reg ?_
   refine l_pk 1 (fun L => (63, pt b1 0) :: L) F fun a F => ?_
   have hp0 := pick_no (lb := lb0) (i := 0) (L := L0) ht6
   have hp1 := pick_un (lb := lb0) (i := 1) (life := li1) (L := L1)
   have hfo : foundT sd0 sd1 = ⟨1, 0, [], 0⟩ := by unfold foundT; rw [ht0, ht1, hp0, hp1]; rfl
   have hfk := (found_ok in0 in1).up (m := 900000) (by decide)
   rw [hfo] at hfk
   have hox : openT sd0 sd1 = compT (⟨⟨1, 0, [], 0⟩, sd0, sd1⟩ : Lg) := by unfold openT; rw [hfo]
   have S := S.nilRow 100 2
   have S : Sat w z ([rest w G, rsA m0 sd0, rsA m1 sd1] ++ [rlBox b1 m0 m1 1 0 none ([] : List NV).length 0 0, row 100 2 (.slice none ([] : List NV).length 0) ([] : List NV).length (([] : List NV).flatMap nvC)]) := S.pick [0, 1, 2, 3, 8] (by decide)
   have S := rl_shutL S
   have S : Sat w z [rest w G, rsA m0 sd0, rsA m1 sd1, rlA b1 m0 m1 ⟨1, 0, [], 0⟩] := S
   obtain ⟨G9, g9, hin9, hlt9, k9⟩ := S.frameB [3, 1, 2] (by decide) rfl
   refine l_do F rfl rfl (op_fn F (by kernel_rfl) (rcomp_any (x := (⟨⟨1, 0, [], 0⟩, sd0, sd1⟩ : Lg)) N in0 in1 hN hfk g9) ?_)
   rintro e z9 ⟨rfl, g⟩
   have S : Sat w z9 [rest w G, rsA m0 (compT (⟨⟨1, 0, [], 0⟩, sd0, sd1⟩ : Lg)).2.s0, rsA m1 (compT (⟨⟨1, 0, [], 0⟩, sd0, sd1⟩ : Lg)).2.s1, rlA b1 m0 m1 (compT (⟨⟨1, 0, [], 0⟩, sd0, sd1⟩ : Lg)).2.lb] := k9 z9 [rlA b1 m0 m1 (compT (⟨⟨1, 0, [], 0⟩, sd0, sd1⟩ : Lg)).2.lb, rsA m0 (compT (⟨⟨1, 0, [], 0⟩, sd0, sd1⟩ : Lg)).2.s0, rsA m1 (compT (⟨⟨1, 0, [], 0⟩, sd0, sd1⟩ : Lg)).2.s1] rfl g
   clear g g9 k9 hin9 hlt9
   refine ⟨_, rfl, ?_⟩
   intro a F
   refine l_pk 1 (fun L => (13, .int .i64 ((compT (⟨⟨1, 0, [], 0⟩, sd0, sd1⟩ : Lg)).1)) :: L) F fun a F => ?_
   refine l_then ?_
   refine wp_seq ?_
   refine s_reg ?_
   refine l_pk 1 (fun L => (65, .int .i64 ((compT (⟨⟨1, 0, [], 0⟩, sd0, sd1⟩ : Lg)).1)) :: L) F fun a F => ?_
   by_cases ht11 : ((compT (⟨⟨1, 0, [], 0⟩, sd0, sd1⟩ : Lg)).1 : Int) = (0 : Int)
   ·
    refine l_do F rfl rfl (op_pk F (v0 := .bool (((compT (⟨⟨1, 0, [], 0⟩, sd0, sd1⟩ : Lg)).1 : Int) != (0 : Int))) (v := .bool false) (neqF ht11) fun a F => ?_)
    refine l_then ?_
    refine c_f F rfl ?_
    refine wp_skip ?_
    refine then_n ?_
    refine s_reg ?_
    refine l_pk 3 (fun L => (5, .int .i64 0) :: (4, pt b1 0) :: (68, pt b1 0) :: L) F fun a F => ?_
    refine l_then ?_
    refine wp_ret ?_
    exact fin F [.tmp 4, .tmp 5] [pt b1 0, .int .i64 0] rfl ⟨by kernel_rfl, by kernel_rfl, trivial⟩ (.tuple #[pt b1 0, .int .i64 0]) rfl (by rw [hox]; exact .inl ⟨ht11, b1, rfl, (S.join (i := 1) (j := 3) rfl rfl (by decide)).pick [1, 2, 0] (by decide)⟩)
   refine l_do F rfl rfl (op_pk F (v0 := .bool (((compT (⟨⟨1, 0, [], 0⟩, sd0, sd1⟩ : Lg)).1 : Int) != (0 : Int))) (v := .bool true) (neqT ht11) fun a F => ?_)
   refine l_then ?_
   refine c_t F rfl ?_
   refine s_reg ?_
   refine l_pk 3 (fun L => (5, .int .i64 ((compT (⟨⟨1, 0, [], 0⟩, sd0, sd1⟩ : Lg)).1)) :: (4, .pointer none) :: (67, .int .i64 ((compT (⟨⟨1, 0, [], 0⟩, sd0, sd1⟩ : Lg)).1)) :: L) F fun a F => ?_
   refine l_then ?_
   refine wp_ret ?_
   refine then_r (?_)
   exact fin F [.tmp 4, .tmp 5] [.pointer none, .int .i64 ((compT (⟨⟨1, 0, [], 0⟩, sd0, sd1⟩ : Lg)).1)] rfl ⟨by kernel_rfl, by kernel_rfl, trivial⟩ (.tuple #[.pointer none, .int .i64 ((compT (⟨⟨1, 0, [], 0⟩, sd0, sd1⟩ : Lg)).1)]) rfl (by rw [hox]; exact .inr ⟨ht11, rfl, S.pick [1, 2, 0] (by decide)⟩)
  | true =>
   skip
   refine l_pk 4 (fun L => (47, pt b1 3) :: (46, pt b1 0) :: (45, pt b1 0) :: (44, .int .u32 (li1 : Nat)) :: L) F fun a F => ?_
   refine l_do F rfl rfl (op_ldk (some ⟨b1, 0, none⟩) 3 (.int .u32 0) F rfl (cBox S 3 rfl (j := 3) rfl) (fun a F => ?_))
   by_cases ht12 : (0 : Int) < ((li1 : Nat) : Int)
   ·
    refine l_do F rfl rfl (op_pk F (v0 := .bool (decide (((li1 : Nat) : Int) > (0 : Int)))) (v := .bool true) (gtrT ht12) fun a F => ?_)
    refine l_pk 1 (fun L => (50, .bool true) :: L) F fun a F => ?_
    refine l_then ?_
    refine c_t F rfl ?_
    refine s_reg ?_
    refine l_pk 4 (fun L => (54, pt b1 2) :: (53, pt b1 0) :: (52, .int .i64 1) :: (51, pt b1 0) :: L) F fun a F => ?_
    refine l_do F rfl rfl (op_storeB S 3 _ _ _ b1 2 (.int .i64 1) F rfl rfl (by kernel_rfl) (by kernel_rfl) (by kernel_rfl) (by kernel_rfl) (by kernel_rfl) fun z S a F => ?_)
    refine l_then ?_
    refine s_reg ?_
    refine l_pk 4 (fun L => (58, pt b1 3) :: (57, pt b1 0) :: (56, .int .u32 (li1 : Nat)) :: (55, pt b1 0) :: L) F fun a F => ?_
    refine l_do F rfl rfl (op_storeB S 3 _ _ _ b1 3 (.int .u32 (li1 : Nat)) F rfl rfl (by kernel_rfl) (by kernel_rfl) (by kernel_rfl) (by kernel_rfl) (by kernel_rfl) fun z S a F => ?_)
    refine l_then ?_
    refine wp_region_list ?_
    refine l_pk 4 (fun L => (62, pt b1 4) :: (61, pt b1 0) :: (60, .slice At1 L1.length ct1) :: (59, pt b1 0) :: L) F fun a F => ?_
    refine l_do F rfl rfl (op_storeB S 3 _ _ _ b1 4 (.slice At1 L1.length ct1) F rfl rfl (by kernel_rfl) (by kernel_rfl) (by kernel_rfl) (by kernel_rfl) (by kernel_rfl) fun z S a F => ?_)
    refine l_nil (inb_n ?_)
    refine then_n ?_
    refine wp_region_list ?_
    refine l_pk 3 (fun L => (7, .int .i64 2) :: (22, .int .i64 2) :: (21, .int .i64 1) :: L) F fun a F => ?_
    refine l_then ?_
    refine rnd ?_
    refine wp_seq ?_
    refine s_reg ?_
    refine l_pk 2 (fun L => (20, .bool false) :: (19, .int .i64 2) :: L) F fun a F => ?_
    refine l_then ?_
    refine c_f F rfl ?_
    refine wp_exit ?_
    refine then_x ?_
    refine then_x ?_
    refine inb_x ?_
    refine then_n ?_
    refine s_reg ?_
    refine l_pk 1 (fun L => (63, pt b1 0) :: L) F fun a F => ?_
    have hp0 := pick_no (lb := lb0) (i := 0) (L := L0) ht6
    have hp1 := pick_yes (lb := lb0) (i := 1) (L := L1) ht12
    have hfo : foundT sd0 sd1 = ⟨1, li1, L1, 0⟩ := by unfold foundT; rw [ht0, ht1, hp0, hp1]
    have hfk := (found_ok in0 in1).up (m := 900000) (by decide)
    rw [hfo] at hfk
    have hox : openT sd0 sd1 = compT (⟨⟨1, li1, L1, 0⟩, sd0, sd1⟩ : Lg) := by unfold openT; rw [hfo]
    have S : Sat w z ([rest w G, rsA m0 sd0, rsA m1 sd1] ++ [rlBox b1 m0 m1 1 li1 At1 (L1 : List NV).length ct1 0, row 100 2 (.slice At1 (L1 : List NV).length ct1) (L1 : List NV).length ((L1 : List NV).flatMap nvC)]) := S.pick [0, 1, 2, 3, 7] (by decide)
    have S := rl_shutL S
    have S : Sat w z [rest w G, rsA m0 sd0, rsA m1 sd1, rlA b1 m0 m1 ⟨1, li1, L1, 0⟩] := S
    obtain ⟨G9, g9, hin9, hlt9, k9⟩ := S.frameB [3, 1, 2] (by decide) rfl
    refine l_do F rfl rfl (op_fn F (by kernel_rfl) (rcomp_any (x := (⟨⟨1, li1, L1, 0⟩, sd0, sd1⟩ : Lg)) N in0 in1 hN hfk g9) ?_)
    rintro e z9 ⟨rfl, g⟩
    have S : Sat w z9 [rest w G, rsA m0 (compT (⟨⟨1, li1, L1, 0⟩, sd0, sd1⟩ : Lg)).2.s0, rsA m1 (compT (⟨⟨1, li1, L1, 0⟩, sd0, sd1⟩ : Lg)).2.s1, rlA b1 m0 m1 (compT (⟨⟨1, li1, L1, 0⟩, sd0, sd1⟩ : Lg)).2.lb] := k9 z9 [rlA b1 m0 m1 (compT (⟨⟨1, li1, L1, 0⟩, sd0, sd1⟩ : Lg)).2.lb, rsA m0 (compT (⟨⟨1, li1, L1, 0⟩, sd0, sd1⟩ : Lg)).2.s0, rsA m1 (compT (⟨⟨1, li1, L1, 0⟩, sd0, sd1⟩ : Lg)).2.s1] rfl g
    clear g g9 k9 hin9 hlt9
    refine ⟨_, rfl, ?_⟩
    intro a F
    refine l_pk 1 (fun L => (13, .int .i64 ((compT (⟨⟨1, li1, L1, 0⟩, sd0, sd1⟩ : Lg)).1)) :: L) F fun a F => ?_
    refine l_then ?_
    refine wp_seq ?_
    refine s_reg ?_
    refine l_pk 1 (fun L => (65, .int .i64 ((compT (⟨⟨1, li1, L1, 0⟩, sd0, sd1⟩ : Lg)).1)) :: L) F fun a F => ?_
    by_cases ht13 : ((compT (⟨⟨1, li1, L1, 0⟩, sd0, sd1⟩ : Lg)).1 : Int) = (0 : Int)
    ·
     refine l_do F rfl rfl (op_pk F (v0 := .bool (((compT (⟨⟨1, li1, L1, 0⟩, sd0, sd1⟩ : Lg)).1 : Int) != (0 : Int))) (v := .bool false) (neqF ht13) fun a F => ?_)
     refine l_then ?_
     refine c_f F rfl ?_
     refine wp_skip ?_
     refine then_n ?_
     refine s_reg ?_
     refine l_pk 3 (fun L => (5, .int .i64 0) :: (4, pt b1 0) :: (68, pt b1 0) :: L) F fun a F => ?_
     refine l_then ?_
     refine wp_ret ?_
     exact fin F [.tmp 4, .tmp 5] [pt b1 0, .int .i64 0] rfl ⟨by kernel_rfl, by kernel_rfl, trivial⟩ (.tuple #[pt b1 0, .int .i64 0]) rfl (by rw [hox]; exact .inl ⟨ht13, b1, rfl, (S.join (i := 1) (j := 3) rfl rfl (by decide)).pick [1, 2, 0] (by decide)⟩)
    refine l_do F rfl rfl (op_pk F (v0 := .bool (((compT (⟨⟨1, li1, L1, 0⟩, sd0, sd1⟩ : Lg)).1 : Int) != (0 : Int))) (v := .bool true) (neqT ht13) fun a F => ?_)
    refine l_then ?_
    refine c_t F rfl ?_
    refine s_reg ?_
    refine l_pk 3 (fun L => (5, .int .i64 ((compT (⟨⟨1, li1, L1, 0⟩, sd0, sd1⟩ : Lg)).1)) :: (4, .pointer none) :: (67, .int .i64 ((compT (⟨⟨1, li1, L1, 0⟩, sd0, sd1⟩ : Lg)).1)) :: L) F fun a F => ?_
    refine l_then ?_
    refine wp_ret ?_
    refine then_r (?_)
    exact fin F [.tmp 4, .tmp 5] [.pointer none, .int .i64 ((compT (⟨⟨1, li1, L1, 0⟩, sd0, sd1⟩ : Lg)).1)] rfl ⟨by kernel_rfl, by kernel_rfl, trivial⟩ (.tuple #[.pointer none, .int .i64 ((compT (⟨⟨1, li1, L1, 0⟩, sd0, sd1⟩ : Lg)).1)]) rfl (by rw [hox]; exact .inr ⟨ht13, rfl, S.pick [1, 2, 0] (by decide)⟩)
   refine l_do F rfl rfl (op_pk F (v0 := .bool (decide (((li1 : Nat) : Int) > (0 : Int)))) (v := .bool false) (gtrF ht12) fun a F => ?_)
   refine l_pk 1 (fun L => (50, .bool false) :: L) F fun a F => ?_
   refine l_then ?_
   refine c_f F rfl ?_
   refine wp_skip ?_
   refine inb_n ?_
   refine then_n ?_
   refine wp_region_list ?_
   refine l_pk 3 (fun L => (7, .int .i64 2) :: (22, .int .i64 2) :: (21, .int .i64 1) :: L) F fun a F => ?_
   refine l_then ?_
   refine rnd ?_
   refine wp_seq ?_
   refine s_reg ?_
   refine l_pk 2 (fun L => (20, .bool false) :: (19, .int .i64 2) :: L) F fun a F => ?_
   refine l_then ?_
   refine c_f F rfl ?_
   refine wp_exit ?_
   refine then_x ?_
   refine then_x ?_
   refine inb_x ?_
   refine then_n ?_
   refine s_reg ?_
   refine l_pk 1 (fun L => (63, pt b1 0) :: L) F fun a F => ?_
   have hp0 := pick_no (lb := lb0) (i := 0) (L := L0) ht6
   have hp1 := pick_no (lb := lb0) (i := 1) (L := L1) ht12
   have hfo : foundT sd0 sd1 = ⟨1, 0, [], 0⟩ := by unfold foundT; rw [ht0, ht1, hp0, hp1]; rfl
   have hfk := (found_ok in0 in1).up (m := 900000) (by decide)
   rw [hfo] at hfk
   have hox : openT sd0 sd1 = compT (⟨⟨1, 0, [], 0⟩, sd0, sd1⟩ : Lg) := by unfold openT; rw [hfo]
   have S := S.nilRow 100 2
   have S : Sat w z ([rest w G, rsA m0 sd0, rsA m1 sd1] ++ [rlBox b1 m0 m1 1 0 none ([] : List NV).length 0 0, row 100 2 (.slice none ([] : List NV).length 0) ([] : List NV).length (([] : List NV).flatMap nvC)]) := S.pick [0, 1, 2, 3, 8] (by decide)
   have S := rl_shutL S
   have S : Sat w z [rest w G, rsA m0 sd0, rsA m1 sd1, rlA b1 m0 m1 ⟨1, 0, [], 0⟩] := S
   obtain ⟨G9, g9, hin9, hlt9, k9⟩ := S.frameB [3, 1, 2] (by decide) rfl
   refine l_do F rfl rfl (op_fn F (by kernel_rfl) (rcomp_any (x := (⟨⟨1, 0, [], 0⟩, sd0, sd1⟩ : Lg)) N in0 in1 hN hfk g9) ?_)
   rintro e z9 ⟨rfl, g⟩
   have S : Sat w z9 [rest w G, rsA m0 (compT (⟨⟨1, 0, [], 0⟩, sd0, sd1⟩ : Lg)).2.s0, rsA m1 (compT (⟨⟨1, 0, [], 0⟩, sd0, sd1⟩ : Lg)).2.s1, rlA b1 m0 m1 (compT (⟨⟨1, 0, [], 0⟩, sd0, sd1⟩ : Lg)).2.lb] := k9 z9 [rlA b1 m0 m1 (compT (⟨⟨1, 0, [], 0⟩, sd0, sd1⟩ : Lg)).2.lb, rsA m0 (compT (⟨⟨1, 0, [], 0⟩, sd0, sd1⟩ : Lg)).2.s0, rsA m1 (compT (⟨⟨1, 0, [], 0⟩, sd0, sd1⟩ : Lg)).2.s1] rfl g
   clear g g9 k9 hin9 hlt9
   refine ⟨_, rfl, ?_⟩
   intro a F
   refine l_pk 1 (fun L => (13, .int .i64 ((compT (⟨⟨1, 0, [], 0⟩, sd0, sd1⟩ : Lg)).1)) :: L) F fun a F => ?_
   refine l_then ?_
   refine wp_seq ?_
   refine s_reg ?_
   refine l_pk 1 (fun L => (65, .int .i64 ((compT (⟨⟨1, 0, [], 0⟩, sd0, sd1⟩ : Lg)).1)) :: L) F fun a F => ?_
   by_cases ht14 : ((compT (⟨⟨1, 0, [], 0⟩, sd0, sd1⟩ : Lg)).1 : Int) = (0 : Int)
   ·
    refine l_do F rfl rfl (op_pk F (v0 := .bool (((compT (⟨⟨1, 0, [], 0⟩, sd0, sd1⟩ : Lg)).1 : Int) != (0 : Int))) (v := .bool false) (neqF ht14) fun a F => ?_)
    refine l_then ?_
    refine c_f F rfl ?_
    refine wp_skip ?_
    refine then_n ?_
    refine s_reg ?_
    refine l_pk 3 (fun L => (5, .int .i64 0) :: (4, pt b1 0) :: (68, pt b1 0) :: L) F fun a F => ?_
    refine l_then ?_
    refine wp_ret ?_
    exact fin F [.tmp 4, .tmp 5] [pt b1 0, .int .i64 0] rfl ⟨by kernel_rfl, by kernel_rfl, trivial⟩ (.tuple #[pt b1 0, .int .i64 0]) rfl (by rw [hox]; exact .inl ⟨ht14, b1, rfl, (S.join (i := 1) (j := 3) rfl rfl (by decide)).pick [1, 2, 0] (by decide)⟩)
   refine l_do F rfl rfl (op_pk F (v0 := .bool (((compT (⟨⟨1, 0, [], 0⟩, sd0, sd1⟩ : Lg)).1 : Int) != (0 : Int))) (v := .bool true) (neqT ht14) fun a F => ?_)
   refine l_then ?_
   refine c_t F rfl ?_
   refine s_reg ?_
   refine l_pk 3 (fun L => (5, .int .i64 ((compT (⟨⟨1, 0, [], 0⟩, sd0, sd1⟩ : Lg)).1)) :: (4, .pointer none) :: (67, .int .i64 ((compT (⟨⟨1, 0, [], 0⟩, sd0, sd1⟩ : Lg)).1)) :: L) F fun a F => ?_
   refine l_then ?_
   refine wp_ret ?_
   refine then_r (?_)
   exact fin F [.tmp 4, .tmp 5] [.pointer none, .int .i64 ((compT (⟨⟨1, 0, [], 0⟩, sd0, sd1⟩ : Lg)).1)] rfl ⟨by kernel_rfl, by kernel_rfl, trivial⟩ (.tuple #[.pointer none, .int .i64 ((compT (⟨⟨1, 0, [], 0⟩, sd0, sd1⟩ : Lg)).1)]) rfl (by rw [hox]; exact .inr ⟨ht14, rfl, S.pick [1, 2, 0] (by decide)⟩)
end Go.Proofs.Ytidcdfilfccigaa
