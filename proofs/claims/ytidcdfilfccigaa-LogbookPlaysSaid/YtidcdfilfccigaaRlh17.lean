/- Walks over the document's logbook: Put, Drop, Sync, Compact, Open. -/
import Derived.Test.YtidcdfilfccigaaRlg17
namespace Go.Proofs.Ytidcdfilfccigaa
set_option linter.unusedVariables false
set_option linter.unusedSimpArgs false
set_option linter.unnecessarySimpa false
open Go Go.RowKit

set_option maxRecDepth 100000 in
set_option maxHeartbeats 4000000 in
theorem rfail_any (w : World) (G : Nat → Prop) (b : Nat) (c0 c1 c2 c3 c4 : Value) (ded er : Int) (hS : Sat w w [box b 91 [c0, c1, c2, c3, c4, .int .i64 ded], rest w G]) : Calls Try.prog 50 #[pt b 0, .int .i64 er] w fun e w' => e = .returned (.int .i64 er) ∧ Sat w w' [box b 91 [c0, c1, c2, c3, c4, .int .i64 (failD ded er)], rest w G] := by
 refine enter 12 Try.func50 rfl rfl rfl fun a F => ?_
 have S : Sat w w [rest w G, box b 91 [c0, c1, c2, c3, c4, .int .i64 ded]] := hS.pick [1, 0] (by decide)
 refine s_reg ?_
 refine l_pk 1 (fun L => (4, .int .i64 0) :: L) F fun a F => ?_
 refine l_then ?_
 refine wp_seq ?_
 refine s_reg ?_
 refine l_pk 1 (fun L => (5, .int .i64 er) :: L) F fun a F => ?_
 by_cases ht1 : (er : Int) = (0 : Int)
 ·
  refine l_do F rfl rfl (op_pk F (v0 := .bool ((er : Int) != (0 : Int))) (v := .bool false) (neqF ht1) fun a F => ?_)
  refine l_then ?_
  refine c_f F rfl ?_
  refine wp_skip ?_
  refine then_n ?_
  refine s_reg ?_
  refine l_pk 2 (fun L => (4, .int .i64 er) :: (11, .int .i64 er) :: L) F fun a F => ?_
  refine l_then ?_
  refine wp_ret ?_
  exact fin F [.tmp 4] [.int .i64 er] rfl ⟨by kernel_rfl, trivial⟩ (.int .i64 er) rfl ⟨rfl, by rw [show failD ded er = ded from if_pos ht1]; exact S.pick [1, 0] (by decide)⟩
 refine l_do F rfl rfl (op_pk F (v0 := .bool ((er : Int) != (0 : Int))) (v := .bool true) (neqT ht1) fun a F => ?_)
 refine l_then ?_
 refine c_t F rfl ?_
 refine wp_region_list ?_
 refine l_pk 4 (fun L => (10, pt b 5) :: (9, pt b 0) :: (8, .int .i64 er) :: (7, pt b 0) :: L) F fun a F => ?_
 refine l_do F rfl rfl (op_storeB S 1 _ _ _ b 5 (.int .i64 er) F rfl rfl (by kernel_rfl) (by kernel_rfl) (by kernel_rfl) (by kernel_rfl) (by kernel_rfl) fun z S a F => ?_)
 refine l_then ?_
 refine s_reg ?_
 refine l_pk 2 (fun L => (4, .int .i64 er) :: (11, .int .i64 er) :: L) F fun a F => ?_
 refine l_then ?_
 refine wp_ret ?_
 exact fin F [.tmp 4] [.int .i64 er] rfl ⟨by kernel_rfl, trivial⟩ (.int .i64 er) rfl ⟨rfl, by rw [show failD ded er = er from if_neg ht1]; exact S.pick [1, 0] (by decide)⟩
set_option maxRecDepth 100000 in
set_option maxHeartbeats 4000000 in
theorem rput0_at (w : World) (G : Nat → Prop) (b m0 m1 : Nat) (lif : Nat) (LL : List NV) (ded : Int) (sd0 sd1 : Sd) (N : Int) (in0 : sd0.In N) (in1 : sd1.In N) (hN : N ≤ 1000000) (hri : Rises LL) (hct : LL.length ≤ 900000) (nm V : Bs) (hS : Sat w w [rlA b m0 m1 ⟨0, lif, LL, ded⟩, rsA m0 sd0, rsA m1 sd1, rest w G]) : Calls Try.prog 24 #[pt b 0, strV nm, strV V] w fun e w' => e = .returned (.int .i64 (putT ⟨⟨0, lif, LL, ded⟩, sd0, sd1⟩ nm V).1) ∧ Sat w w' [rlA b m0 m1 (putT ⟨⟨0, lif, LL, ded⟩, sd0, sd1⟩ nm V).2.lb, rsA m0 (putT ⟨⟨0, lif, LL, ded⟩, sd0, sd1⟩ nm V).2.s0, rsA m1 (putT ⟨⟨0, lif, LL, ded⟩, sd0, sd1⟩ nm V).2.s1, rest w G] := by
 refine enter 54 Try.func24 rfl rfl rfl fun a F => ?_
 obtain ⟨Al, cl, S⟩ := rl_open hS
 have S : Sat w w [rest w G, rsA m0 sd0, rsA m1 sd1, box b 91 [pt m0 0, pt m1 0, .int .i64 0, .int .u32 (lif : Nat), .slice Al LL.length cl, .int .i64 ded], row 100 2 (.slice Al LL.length cl) LL.length (LL.flatMap nvC)] := S
 have hrp := recP_len 2 nm V
 refine s_reg ?_
 refine l_pk 1 (fun L => (6, .int .i64 0) :: L) F fun a F => ?_
 refine l_then ?_
 refine wp_seq ?_
 refine s_reg ?_
 refine l_pk 3 (fun L => (10, pt b 5) :: (9, pt b 0) :: (8, pt b 0) :: L) F fun a F => ?_
 refine l_do F rfl rfl (op_ldk (some ⟨b, 0, none⟩) 5 (.int .i64 ded) F rfl (cBox S 3 rfl (j := 5) rfl) (fun a F => ?_))
 by_cases ht1 : (ded : Int) = (0 : Int)
 ·
  refine l_do F rfl rfl (op_pk F (v0 := .bool ((ded : Int) != (0 : Int))) (v := .bool false) (neqF ht1) fun a F => ?_)
  refine l_then ?_
  refine c_f F rfl ?_
  refine wp_skip ?_
  refine then_n ?_
  refine wp_seq ?_
  refine s_reg ?_
  refine l_pk 1 (fun L => (17, strV nm) :: L) F fun a F => ?_
  refine l_do F rfl rfl (op_strlen _ _ nm F rfl (by kernel_rfl) (by kernel_rfl) (fun a F => ?_))
  by_cases ht2 : (255 : Int) < ((nm.length : Nat) : Int)
  ·
   refine l_do F rfl rfl (op_pk F (v0 := .bool (decide (((nm.length : Nat) : Int) > (255 : Int)))) (v := .bool true) (gtrT ht2) fun a F => ?_)
   refine l_pk 5 (fun L => (24, .bool true) :: (23, undef) :: (22, undef) :: (21, undef) :: (20, .bool true) :: L) F fun a F => ?_
   refine l_then ?_
   refine c_t F rfl ?_
   refine s_reg ?_
   refine l_pk 1 (fun L => (6, .int .i64 8) :: L) F fun a F => ?_
   refine l_then ?_
   refine wp_ret ?_
   refine then_r (?_)
   exact fin F [.tmp 6] [.int .i64 8] rfl ⟨by kernel_rfl, trivial⟩ (.int .i64 8) rfl ⟨by rw [put_big ht1 (by omega)], by rw [put_big ht1 (by omega)]; exact (rl_shut rfl rfl (S.pick [0, 1, 2, 3, 4] (by decide)))⟩
  refine l_do F rfl rfl (op_pk F (v0 := .bool (decide (((nm.length : Nat) : Int) > (255 : Int)))) (v := .bool false) (gtrF ht2) fun a F => ?_)
  refine l_pk 2 (fun L => (21, strV V) :: (20, .bool false) :: L) F fun a F => ?_
  refine l_do F rfl rfl (op_strlen _ _ V F rfl (by kernel_rfl) (by kernel_rfl) (fun a F => ?_))
  by_cases ht3 : (4096 : Int) < ((V.length : Nat) : Int)
  ·
   refine l_do F rfl rfl (op_pk F (v0 := .bool (decide (((V.length : Nat) : Int) > (4096 : Int)))) (v := .bool true) (gtrT ht3) fun a F => ?_)
   refine l_pk 1 (fun L => (24, .bool true) :: L) F fun a F => ?_
   refine l_then ?_
   refine c_t F rfl ?_
   refine s_reg ?_
   refine l_pk 1 (fun L => (6, .int .i64 8) :: L) F fun a F => ?_
   refine l_then ?_
   refine wp_ret ?_
   refine then_r (?_)
   exact fin F [.tmp 6] [.int .i64 8] rfl ⟨by kernel_rfl, trivial⟩ (.int .i64 8) rfl ⟨by rw [put_big ht1 (by omega)], by rw [put_big ht1 (by omega)]; exact (rl_shut rfl rfl (S.pick [0, 1, 2, 3, 4] (by decide)))⟩
  refine l_do F rfl rfl (op_pk F (v0 := .bool (decide (((V.length : Nat) : Int) > (4096 : Int)))) (v := .bool false) (gtrF ht3) fun a F => ?_)
  refine l_pk 1 (fun L => (24, .bool false) :: L) F fun a F => ?_
  refine l_then ?_
  refine c_f F rfl ?_
  refine wp_skip ?_
  refine then_n ?_
  refine wp_seq ?_
  have S := S.pushEmp
  refine region_gx (fun D => fun ((Ar2, cr2) : Option Addr × Nat) => [rest w G, bif D 12 then rsA m0 (sd0.app (recP 2 nm V)) else rsA m0 sd0, rsA m1 sd1, box b 91 [pt m0 0, pt m1 0, .int .i64 0, .int .u32 (lif : Nat), .slice Al LL.length cl, .int .i64 ded], row 100 2 (.slice Al LL.length cl) LL.length (LL.flatMap nvC), bif D 11 then row 5 1 (.slice Ar2 ((recP 2 nm V).length) cr2) ((recP 2 nm V).length) ((recP 2 nm V).flatMap yC) else emp]) (fun ((Ar2, cr2) : Option Addr × Nat) => [pt b 0, pt b 0, pt b 0, pt b 2, .int .i64 0, pt b 0, pt b 0, pt b 0, pt m0 0, strV nm, strV V, .slice Ar2 ((recP 2 nm V).length) cr2, .int .i64 (sd0.appE (recP 2 nm V).length), .int .i64 (sd0.appE (recP 2 nm V).length)]) [(4, [], [8, 12]), (8, [4], [12]), (11, [], [12]), (12, [4, 8, 11], [])] (none, 0) rfl (by kernel_rfl) (by kernel_rfl) F S.drew ?_ ?_ ?_ ?_ ?_
  · rintro ⟨Ar2, cr2⟩; rfl
  ·
   rintro ⟨Ar2, cr2⟩
   refine Eq.trans (b := [some (pt b 0), some (pt b 0), some (pt b 0), some (pt b 2), none, some (pt b 0), some (pt b 0), some (pt b 0), none, some (strV nm), some (strV V), none, none, some (.int .i64 (sd0.appE (recP 2 nm V).length))]) ?_ ?_ <;> kernel_rfl
  ·
   intro D D' x h
   obtain ⟨Ar2, cr2⟩ := x
   simp only [h 11 (by decide), h 12 (by decide)]
  ·
   refine ⟨?_, ?_⟩
   ·
    refine ⟨_, rfl, rfl, by kernel_rfl, ?_⟩
    rintro D ⟨Ar2, cr2⟩ a z S F
    refine ⟨by kernel_rfl, ?_⟩
    exact op_ldk (some ⟨b, 0, none⟩) 2 (.int .i64 0) F rfl (cBox S 3 rfl (j := 2) rfl) (⟨(Ar2, cr2), rfl, (SameB.refl _ _ rfl), S⟩)
   refine ⟨?_, ?_⟩
   ·
    refine ⟨_, rfl, rfl, by kernel_rfl, ?_⟩
    rintro D ⟨Ar2, cr2⟩ a z S F
    refine ⟨by kernel_rfl, ?_⟩
    exact op_ldk (some ⟨b, 0, none⟩) 0 (pt m0 0) F rfl (cBox S 3 rfl (j := 0) rfl) (⟨(Ar2, cr2), rfl, (SameB.refl _ _ rfl), S⟩)
   refine ⟨?_, ?_⟩
   ·
    refine ⟨_, rfl, rfl, by kernel_rfl, ?_⟩
    rintro D ⟨Ar2, cr2⟩ a z S F
    refine ⟨by kernel_rfl, ?_⟩
    refine op_fn F (by kernel_rfl) (rrec_any _ 2 nm V (by first | omega | (simp only [List.length_nil]; omega)) (by first | omega | (simp only [List.length_nil]; omega))) ?_
    rintro e z ⟨y4, y5, rfl, g⟩
    have S := S.fillThing 5 rfl g
    exact ⟨_, rfl, (y4, y5), rfl, ⟨rfl, rfl, rfl, rfl, rfl, rfl, rfl, rfl, rfl, rfl, rfl, trivial, trivial, trivial, trivial⟩, S⟩
   refine ⟨?_, ?_⟩
   ·
    refine ⟨_, rfl, rfl, by kernel_rfl, ?_⟩
    rintro D ⟨Ar2, cr2⟩ a z S F
    refine ⟨by kernel_rfl, ?_⟩
    refine op_fn F (by kernel_rfl) (rapp_at S (i := 1) rfl (in0) (by omega) (recP 2 nm V) Ar2 cr2 (Recs.ofRow (S.rowOf (i := 5) rfl) (by first | omega | decide | (simp only [List.length_cons, List.length_nil]; omega))) (away_row (j := 5) rfl (by decide))) ?_
    rintro e z ⟨rfl, S⟩
    exact ⟨_, rfl, (Ar2, cr2), rfl, (SameB.refl _ _ rfl), S⟩
   trivial
  rintro ⟨Ar2, cr2⟩ a z F S
  have F := F.subk (l := [(0, pt b 0), (1, strV nm), (2, strV V), (7, .int .i64 (sd0.appE (recP 2 nm V).length))])
  have S : Sat w z [rest w G, rsA m0 (sd0.app (recP 2 nm V)), rsA m1 sd1, box b 91 [pt m0 0, pt m1 0, .int .i64 0, .int .u32 (lif : Nat), .slice Al LL.length cl, .int .i64 ded], row 100 2 (.slice Al LL.length cl) LL.length (LL.flatMap nvC), row 5 1 (.slice Ar2 ((recP 2 nm V).length) cr2) ((recP 2 nm V).length) ((recP 2 nm V).flatMap yC)] := S
  refine then_n ?_
  refine wp_seq ?_
  refine s_reg ?_
  refine l_pk 1 (fun L => (38, .int .i64 (sd0.appE (recP 2 nm V).length)) :: L) F fun a F => ?_
  by_cases ht6 : (sd0.appE (recP 2 nm V).length : Int) = (0 : Int)
  ·
   refine l_do F rfl rfl (op_pk F (v0 := .bool ((sd0.appE (recP 2 nm V).length : Int) == (0 : Int))) (v := .bool true) (eqlT ht6) fun a F => ?_)
   refine l_then ?_
   refine c_t F rfl ?_
   refine wp_region_list ?_
   refine l_pk 4 (fun L => (43, pt b 4) :: (42, pt b 0) :: (41, pt b 0) :: (40, pt b 0) :: L) F fun a F => ?_
   refine l_do F rfl rfl (op_ldk (some ⟨b, 0, none⟩) 4 (.slice Al LL.length cl) F rfl (cBox S 3 rfl (j := 4) rfl) (fun a F => ?_))
   refine l_pk 3 (fun L => (47, .agg #[strV nm, strV V]) :: (46, strV V) :: (45, strV nm) :: L) F fun a F => ?_
   refine l_do F rfl rfl (op_fn F (by kernel_rfl) (rput_any _ Al cl LL (Recs.ofRow (S.rowOf (i := 4) rfl) (by first | omega | decide | (simp only [List.length_cons, List.length_nil]; omega))) (by omega) hri nm V) ?_)
   rintro e z ⟨Ap, cp, rfl, g⟩
   have S := S.pushThings g
   refine ⟨_, rfl, ?_⟩
   intro a F
   refine l_pk 2 (fun L => (50, pt b 4) :: (49, pt b 0) :: L) F fun a F => ?_
   refine l_do F rfl rfl (op_storeB S 3 _ _ _ b 4 (.slice Ap ((putN LL (nm, V)).length) cp) F rfl rfl (by kernel_rfl) (by kernel_rfl) (by kernel_rfl) (by kernel_rfl) (by kernel_rfl) fun z S a F => ?_)
   refine l_then ?_
   refine s_reg ?_
   refine l_pk 2 (fun L => (52, .int .i64 (sd0.appE (recP 2 nm V).length)) :: (51, pt b 0) :: L) F fun a F => ?_
   obtain ⟨G9, g9, hin9, hlt9, k9⟩ := S.frameB [3] (by decide) rfl
   refine l_do F rfl rfl (op_fn F (by kernel_rfl) (rfail_any _ G9 b (pt m0 0) (pt m1 0) (.int .i64 0) (.int .u32 (lif : Nat)) (.slice Ap ((putN LL (nm, V)).length) cp) ded (sd0.appE (recP 2 nm V).length) g9) ?_)
   rintro e z9 ⟨rfl, g⟩
   have S : Sat w z9 [rest w G, rsA m0 (sd0.app (recP 2 nm V)), rsA m1 sd1, box b 91 [pt m0 0, pt m1 0, .int .i64 0, .int .u32 (lif : Nat), .slice Ap ((putN LL (nm, V)).length) cp, .int .i64 (failD ded (sd0.appE (recP 2 nm V).length))], row 100 2 (.slice Al LL.length cl) LL.length (LL.flatMap nvC), row 5 1 (.slice Ar2 ((recP 2 nm V).length) cr2) ((recP 2 nm V).length) ((recP 2 nm V).flatMap yC), row 100 2 (.slice Ap ((putN LL (nm, V)).length) cp) ((putN LL (nm, V)).length) ((putN LL (nm, V)).flatMap nvC)] := k9 z9 [box b 91 [pt m0 0, pt m1 0, .int .i64 0, .int .u32 (lif : Nat), .slice Ap ((putN LL (nm, V)).length) cp, .int .i64 (failD ded (sd0.appE (recP 2 nm V).length))]] rfl g
   clear g g9 k9 hin9 hlt9
   refine ⟨_, rfl, ?_⟩
   intro a F
   refine l_pk 1 (fun L => (6, .int .i64 (sd0.appE (recP 2 nm V).length)) :: L) F fun a F => ?_
   refine l_then ?_
   refine wp_ret ?_
   have hp9 := put_ok0 (lif := lif) (LL := LL) (sd0 := sd0) (sd1 := sd1) (n := nm) (v := V) ht1 (by omega) (by omega) ht6
   exact fin F [.tmp 6] [.int .i64 (sd0.appE (recP 2 nm V).length)] rfl ⟨by kernel_rfl, trivial⟩ (.int .i64 (sd0.appE (recP 2 nm V).length)) rfl ⟨by rw [hp9]; exact congrArg (fun x => Ending.returned (Value.int .i64 x)) ht6, by rw [hp9]; exact (rl_shut rfl rfl (S.pick [0, 1, 2, 3, 6] (by decide)))⟩
  refine l_do F rfl rfl (op_pk F (v0 := .bool ((sd0.appE (recP 2 nm V).length : Int) == (0 : Int))) (v := .bool false) (eqlF ht6) fun a F => ?_)
  refine l_then ?_
  refine c_f F rfl ?_
  refine wp_skip ?_
  refine then_n ?_
  refine s_reg ?_
  refine l_pk 2 (fun L => (52, .int .i64 (sd0.appE (recP 2 nm V).length)) :: (51, pt b 0) :: L) F fun a F => ?_
  obtain ⟨G9, g9, hin9, hlt9, k9⟩ := S.frameB [3] (by decide) rfl
  refine l_do F rfl rfl (op_fn F (by kernel_rfl) (rfail_any _ G9 b (pt m0 0) (pt m1 0) (.int .i64 0) (.int .u32 (lif : Nat)) (.slice Al LL.length cl) ded (sd0.appE (recP 2 nm V).length) g9) ?_)
  rintro e z9 ⟨rfl, g⟩
  have S : Sat w z9 [rest w G, rsA m0 (sd0.app (recP 2 nm V)), rsA m1 sd1, box b 91 [pt m0 0, pt m1 0, .int .i64 0, .int .u32 (lif : Nat), .slice Al LL.length cl, .int .i64 (failD ded (sd0.appE (recP 2 nm V).length))], row 100 2 (.slice Al LL.length cl) LL.length (LL.flatMap nvC), row 5 1 (.slice Ar2 ((recP 2 nm V).length) cr2) ((recP 2 nm V).length) ((recP 2 nm V).flatMap yC)] := k9 z9 [box b 91 [pt m0 0, pt m1 0, .int .i64 0, .int .u32 (lif : Nat), .slice Al LL.length cl, .int .i64 (failD ded (sd0.appE (recP 2 nm V).length))]] rfl g
  clear g g9 k9 hin9 hlt9
  refine ⟨_, rfl, ?_⟩
  intro a F
  refine l_pk 1 (fun L => (6, .int .i64 (sd0.appE (recP 2 nm V).length)) :: L) F fun a F => ?_
  refine l_then ?_
  refine wp_ret ?_
  exact fin F [.tmp 6] [.int .i64 (sd0.appE (recP 2 nm V).length)] rfl ⟨by kernel_rfl, trivial⟩ (.int .i64 (sd0.appE (recP 2 nm V).length)) rfl ⟨by rw [put_er0 ht1 (by omega) (by omega) ht6], by rw [put_er0 ht1 (by omega) (by omega) ht6]; exact (rl_shut rfl rfl (S.pick [0, 1, 2, 3, 4] (by decide)))⟩
 refine l_do F rfl rfl (op_pk F (v0 := .bool ((ded : Int) != (0 : Int))) (v := .bool true) (neqT ht1) fun a F => ?_)
 refine l_then ?_
 refine c_t F rfl ?_
 refine s_reg ?_
 refine l_pk 3 (fun L => (15, pt b 5) :: (14, pt b 0) :: (13, pt b 0) :: L) F fun a F => ?_
 refine l_do F rfl rfl (op_ldk (some ⟨b, 0, none⟩) 5 (.int .i64 ded) F rfl (cBox S 3 rfl (j := 5) rfl) (fun a F => ?_))
 refine l_pk 1 (fun L => (6, .int .i64 ded) :: L) F fun a F => ?_
 refine l_then ?_
 refine wp_ret ?_
 refine then_r (?_)
 exact fin F [.tmp 6] [.int .i64 ded] rfl ⟨by kernel_rfl, trivial⟩ (.int .i64 ded) rfl ⟨by rw [put_dead ht1], by rw [put_dead ht1]; exact (rl_shut rfl rfl (S.pick [0, 1, 2, 3, 4] (by decide)))⟩
set_option maxRecDepth 100000 in
set_option maxHeartbeats 4000000 in
theorem rdrop0_at (w : World) (G : Nat → Prop) (b m0 m1 : Nat) (lif : Nat) (LL : List NV) (ded : Int) (sd0 sd1 : Sd) (N : Int) (in0 : sd0.In N) (in1 : sd1.In N) (hN : N ≤ 1000000) (hri : Rises LL) (hct : LL.length ≤ 900000) (nm : Bs) (hnl : nm.length ≤ 1000000) (hS : Sat w w [rlA b m0 m1 ⟨0, lif, LL, ded⟩, rsA m0 sd0, rsA m1 sd1, rest w G]) : Calls Try.prog 25 #[pt b 0, strV nm] w fun e w' => e = .returned (.int .i64 (dropT ⟨⟨0, lif, LL, ded⟩, sd0, sd1⟩ nm).1) ∧ Sat w w' [rlA b m0 m1 (dropT ⟨⟨0, lif, LL, ded⟩, sd0, sd1⟩ nm).2.lb, rsA m0 (dropT ⟨⟨0, lif, LL, ded⟩, sd0, sd1⟩ nm).2.s0, rsA m1 (dropT ⟨⟨0, lif, LL, ded⟩, sd0, sd1⟩ nm).2.s1, rest w G] := by
 refine enter 54 Try.func25 rfl rfl rfl fun a F => ?_
 obtain ⟨Al, cl, S⟩ := rl_open hS
 have S : Sat w w [rest w G, rsA m0 sd0, rsA m1 sd1, box b 91 [pt m0 0, pt m1 0, .int .i64 0, .int .u32 (lif : Nat), .slice Al LL.length cl, .int .i64 ded], row 100 2 (.slice Al LL.length cl) LL.length (LL.flatMap nvC)] := S
 have hrp := recP_len 3 nm []
 rw [List.length_nil] at hrp
 refine s_reg ?_
 refine l_pk 1 (fun L => (4, .int .i64 0) :: L) F fun a F => ?_
 refine l_then ?_
 refine wp_seq ?_
 refine s_reg ?_
 refine l_pk 3 (fun L => (10, pt b 5) :: (9, pt b 0) :: (8, pt b 0) :: L) F fun a F => ?_
 refine l_do F rfl rfl (op_ldk (some ⟨b, 0, none⟩) 5 (.int .i64 ded) F rfl (cBox S 3 rfl (j := 5) rfl) (fun a F => ?_))
 by_cases ht1 : (ded : Int) = (0 : Int)
 ·
  refine l_do F rfl rfl (op_pk F (v0 := .bool ((ded : Int) != (0 : Int))) (v := .bool false) (neqF ht1) fun a F => ?_)
  refine l_then ?_
  refine c_f F rfl ?_
  refine wp_skip ?_
  refine then_n ?_
  refine s_reg ?_
  refine l_pk 3 (fun L => (20, pt b 4) :: (19, pt b 0) :: (18, pt b 0) :: L) F fun a F => ?_
  refine l_do F rfl rfl (op_ldk (some ⟨b, 0, none⟩) 4 (.slice Al LL.length cl) F rfl (cBox S 3 rfl (j := 4) rfl) (fun a F => ?_))
  refine l_pk 1 (fun L => (22, strV nm) :: L) F fun a F => ?_
  rcases getN_cases LL nm with hgn | ⟨vv, hgs⟩
  ·
   refine l_do F rfl rfl (op_fn F (by kernel_rfl) ((by have h9 := rfind_any _ Al cl LL (Recs.ofRow (S.rowOf (i := 4) rfl) (by first | omega | decide | (simp only [List.length_cons, List.length_nil]; omega))) (by omega) nm; rw [hgn] at h9; exact h9)) ?_)
   rintro e z ⟨rfl, hb⟩
   have S := S.grow hb
   refine ⟨_, rfl, ?_⟩
   intro a F
   refine l_pk 5 (fun L => (6, .bool false) :: (5, strV ([] : Bs)) :: (25, .bool false) :: (24, strV ([] : Bs)) :: (17, .tuple #[strV ([] : Bs), .bool false]) :: L) F fun a F => ?_
   refine l_then ?_
   refine wp_seq ?_
   refine s_reg ?_
   refine l_pk 2 (fun L => (27, .bool true) :: (26, .bool false) :: L) F fun a F => ?_
   refine l_then ?_
   refine c_t F rfl ?_
   refine s_reg ?_
   refine l_pk 1 (fun L => (4, .int .i64 6) :: L) F fun a F => ?_
   refine l_then ?_
   refine wp_ret ?_
   refine then_r (?_)
   exact fin F [.tmp 4] [.int .i64 6] rfl ⟨by kernel_rfl, trivial⟩ (.int .i64 6) rfl ⟨by rw [drop_none ht1 hgn], by rw [drop_none ht1 hgn]; exact (rl_shut rfl rfl (S.pick [0, 1, 2, 3, 4] (by decide)))⟩
  refine l_do F rfl rfl (op_fn F (by kernel_rfl) ((by have h9 := rfind_any _ Al cl LL (Recs.ofRow (S.rowOf (i := 4) rfl) (by first | omega | decide | (simp only [List.length_cons, List.length_nil]; omega))) (by omega) nm; rw [hgs] at h9; exact h9)) ?_)
  rintro e z ⟨rfl, hb⟩
  have S := S.grow hb
  refine ⟨_, rfl, ?_⟩
  intro a F
  refine l_pk 5 (fun L => (6, .bool true) :: (5, strV vv) :: (25, .bool true) :: (24, strV vv) :: (17, .tuple #[strV vv, .bool true]) :: L) F fun a F => ?_
  refine l_then ?_
  refine wp_seq ?_
  refine s_reg ?_
  refine l_pk 2 (fun L => (27, .bool false) :: (26, .bool true) :: L) F fun a F => ?_
  refine l_then ?_
  refine c_f F rfl ?_
  refine wp_skip ?_
  refine then_n ?_
  refine wp_seq ?_
  have S := S.pushEmp
  refine region_gx (fun D => fun ((Ar3, cr3) : Option Addr × Nat) => [rest w G, bif D 11 then rsA m0 (sd0.app (recP 3 nm [])) else rsA m0 sd0, rsA m1 sd1, box b 91 [pt m0 0, pt m1 0, .int .i64 0, .int .u32 (lif : Nat), .slice Al LL.length cl, .int .i64 ded], row 100 2 (.slice Al LL.length cl) LL.length (LL.flatMap nvC), bif D 10 then row 5 1 (.slice Ar3 ((recP 3 nm []).length) cr3) ((recP 3 nm []).length) ((recP 3 nm []).flatMap yC) else emp]) (fun ((Ar3, cr3) : Option Addr × Nat) => [pt b 0, pt b 0, pt b 0, pt b 2, .int .i64 0, pt b 0, pt b 0, pt b 0, pt m0 0, strV nm, .slice Ar3 ((recP 3 nm []).length) cr3, .int .i64 (sd0.appE (recP 3 nm []).length), .int .i64 (sd0.appE (recP 3 nm []).length)]) [(4, [], [8, 11]), (8, [4], [11]), (10, [], [11]), (11, [4, 8, 10], [])] (none, 0) rfl (by kernel_rfl) (by kernel_rfl) F S.drew ?_ ?_ ?_ ?_ ?_
  · rintro ⟨Ar3, cr3⟩; rfl
  ·
   rintro ⟨Ar3, cr3⟩
   refine Eq.trans (b := [some (pt b 0), some (pt b 0), some (pt b 0), some (pt b 2), none, some (pt b 0), some (pt b 0), some (pt b 0), none, some (strV nm), none, none, some (.int .i64 (sd0.appE (recP 3 nm []).length))]) ?_ ?_ <;> kernel_rfl
  ·
   intro D D' x h
   obtain ⟨Ar3, cr3⟩ := x
   simp only [h 10 (by decide), h 11 (by decide)]
  ·
   refine ⟨?_, ?_⟩
   ·
    refine ⟨_, rfl, rfl, by kernel_rfl, ?_⟩
    rintro D ⟨Ar3, cr3⟩ a z S F
    refine ⟨by kernel_rfl, ?_⟩
    exact op_ldk (some ⟨b, 0, none⟩) 2 (.int .i64 0) F rfl (cBox S 3 rfl (j := 2) rfl) (⟨(Ar3, cr3), rfl, (SameB.refl _ _ rfl), S⟩)
   refine ⟨?_, ?_⟩
   ·
    refine ⟨_, rfl, rfl, by kernel_rfl, ?_⟩
    rintro D ⟨Ar3, cr3⟩ a z S F
    refine ⟨by kernel_rfl, ?_⟩
    exact op_ldk (some ⟨b, 0, none⟩) 0 (pt m0 0) F rfl (cBox S 3 rfl (j := 0) rfl) (⟨(Ar3, cr3), rfl, (SameB.refl _ _ rfl), S⟩)
   refine ⟨?_, ?_⟩
   ·
    refine ⟨_, rfl, rfl, by kernel_rfl, ?_⟩
    rintro D ⟨Ar3, cr3⟩ a z S F
    refine ⟨by kernel_rfl, ?_⟩
    refine op_fn F (by kernel_rfl) (rrec_any _ 3 nm [] (by first | omega | (simp only [List.length_nil]; omega)) (by first | omega | (simp only [List.length_nil]; omega))) ?_
    rintro e z ⟨y2, y3, rfl, g⟩
    have S := S.fillThing 5 rfl g
    exact ⟨_, rfl, (y2, y3), rfl, ⟨rfl, rfl, rfl, rfl, rfl, rfl, rfl, rfl, rfl, rfl, trivial, trivial, trivial, trivial⟩, S⟩
   refine ⟨?_, ?_⟩
   ·
    refine ⟨_, rfl, rfl, by kernel_rfl, ?_⟩
    rintro D ⟨Ar3, cr3⟩ a z S F
    refine ⟨by kernel_rfl, ?_⟩
    refine op_fn F (by kernel_rfl) (rapp_at S (i := 1) rfl (in0) (by omega) (recP 3 nm []) Ar3 cr3 (Recs.ofRow (S.rowOf (i := 5) rfl) (by first | omega | decide | (simp only [List.length_cons, List.length_nil]; omega))) (away_row (j := 5) rfl (by decide))) ?_
    rintro e z ⟨rfl, S⟩
    exact ⟨_, rfl, (Ar3, cr3), rfl, (SameB.refl _ _ rfl), S⟩
   trivial
  rintro ⟨Ar3, cr3⟩ a z F S
  have F := F.subk (l := [(0, pt b 0), (1, strV nm), (7, .int .i64 (sd0.appE (recP 3 nm []).length))])
  have S : Sat w z [rest w G, rsA m0 (sd0.app (recP 3 nm [])), rsA m1 sd1, box b 91 [pt m0 0, pt m1 0, .int .i64 0, .int .u32 (lif : Nat), .slice Al LL.length cl, .int .i64 ded], row 100 2 (.slice Al LL.length cl) LL.length (LL.flatMap nvC), row 5 1 (.slice Ar3 ((recP 3 nm []).length) cr3) ((recP 3 nm []).length) ((recP 3 nm []).flatMap yC)] := S
  refine then_n ?_
  refine wp_seq ?_
  refine s_reg ?_
  refine l_pk 1 (fun L => (40, .int .i64 (sd0.appE (recP 3 nm []).length)) :: L) F fun a F => ?_
  by_cases ht4 : (sd0.appE (recP 3 nm []).length : Int) = (0 : Int)
  ·
   refine l_do F rfl rfl (op_pk F (v0 := .bool ((sd0.appE (recP 3 nm []).length : Int) == (0 : Int))) (v := .bool true) (eqlT ht4) fun a F => ?_)
   refine l_then ?_
   refine c_t F rfl ?_
   refine wp_region_list ?_
   refine l_pk 4 (fun L => (45, pt b 4) :: (44, pt b 0) :: (43, pt b 0) :: (42, pt b 0) :: L) F fun a F => ?_
   refine l_do F rfl rfl (op_ldk (some ⟨b, 0, none⟩) 4 (.slice Al LL.length cl) F rfl (cBox S 3 rfl (j := 4) rfl) (fun a F => ?_))
   refine l_pk 1 (fun L => (47, strV nm) :: L) F fun a F => ?_
   refine l_do F rfl rfl (op_fn F (by kernel_rfl) (rdrop_any _ Al cl LL (Recs.ofRow (S.rowOf (i := 4) rfl) (by first | omega | decide | (simp only [List.length_cons, List.length_nil]; omega))) (by omega) nm) ?_)
   rintro e z ⟨Ap, cp, rfl, g⟩
   have S := S.pushThings g
   refine ⟨_, rfl, ?_⟩
   intro a F
   refine l_pk 2 (fun L => (50, pt b 4) :: (49, pt b 0) :: L) F fun a F => ?_
   refine l_do F rfl rfl (op_storeB S 3 _ _ _ b 4 (.slice Ap ((delN LL nm).length) cp) F rfl rfl (by kernel_rfl) (by kernel_rfl) (by kernel_rfl) (by kernel_rfl) (by kernel_rfl) fun z S a F => ?_)
   refine l_then ?_
   refine s_reg ?_
   refine l_pk 2 (fun L => (52, .int .i64 (sd0.appE (recP 3 nm []).length)) :: (51, pt b 0) :: L) F fun a F => ?_
   obtain ⟨G9, g9, hin9, hlt9, k9⟩ := S.frameB [3] (by decide) rfl
   refine l_do F rfl rfl (op_fn F (by kernel_rfl) (rfail_any _ G9 b (pt m0 0) (pt m1 0) (.int .i64 0) (.int .u32 (lif : Nat)) (.slice Ap ((delN LL nm).length) cp) ded (sd0.appE (recP 3 nm []).length) g9) ?_)
   rintro e z9 ⟨rfl, g⟩
   have S : Sat w z9 [rest w G, rsA m0 (sd0.app (recP 3 nm [])), rsA m1 sd1, box b 91 [pt m0 0, pt m1 0, .int .i64 0, .int .u32 (lif : Nat), .slice Ap ((delN LL nm).length) cp, .int .i64 (failD ded (sd0.appE (recP 3 nm []).length))], row 100 2 (.slice Al LL.length cl) LL.length (LL.flatMap nvC), row 5 1 (.slice Ar3 ((recP 3 nm []).length) cr3) ((recP 3 nm []).length) ((recP 3 nm []).flatMap yC), row 100 2 (.slice Ap ((delN LL nm).length) cp) ((delN LL nm).length) ((delN LL nm).flatMap nvC)] := k9 z9 [box b 91 [pt m0 0, pt m1 0, .int .i64 0, .int .u32 (lif : Nat), .slice Ap ((delN LL nm).length) cp, .int .i64 (failD ded (sd0.appE (recP 3 nm []).length))]] rfl g
   clear g g9 k9 hin9 hlt9
   refine ⟨_, rfl, ?_⟩
   intro a F
   refine l_pk 1 (fun L => (4, .int .i64 (sd0.appE (recP 3 nm []).length)) :: L) F fun a F => ?_
   refine l_then ?_
   refine wp_ret ?_
   have hp9 := drop_ok0 (lif := lif) (sd0 := sd0) (sd1 := sd1) ht1 hgs ht4
   exact fin F [.tmp 4] [.int .i64 (sd0.appE (recP 3 nm []).length)] rfl ⟨by kernel_rfl, trivial⟩ (.int .i64 (sd0.appE (recP 3 nm []).length)) rfl ⟨by rw [hp9]; exact congrArg (fun x => Ending.returned (Value.int .i64 x)) ht4, by rw [hp9]; exact (rl_shut rfl rfl (S.pick [0, 1, 2, 3, 6] (by decide)))⟩
  refine l_do F rfl rfl (op_pk F (v0 := .bool ((sd0.appE (recP 3 nm []).length : Int) == (0 : Int))) (v := .bool false) (eqlF ht4) fun a F => ?_)
  refine l_then ?_
  refine c_f F rfl ?_
  refine wp_skip ?_
  refine then_n ?_
  refine s_reg ?_
  refine l_pk 2 (fun L => (52, .int .i64 (sd0.appE (recP 3 nm []).length)) :: (51, pt b 0) :: L) F fun a F => ?_
  obtain ⟨G9, g9, hin9, hlt9, k9⟩ := S.frameB [3] (by decide) rfl
  refine l_do F rfl rfl (op_fn F (by kernel_rfl) (rfail_any _ G9 b (pt m0 0) (pt m1 0) (.int .i64 0) (.int .u32 (lif : Nat)) (.slice Al LL.length cl) ded (sd0.appE (recP 3 nm []).length) g9) ?_)
  rintro e z9 ⟨rfl, g⟩
  have S : Sat w z9 [rest w G, rsA m0 (sd0.app (recP 3 nm [])), rsA m1 sd1, box b 91 [pt m0 0, pt m1 0, .int .i64 0, .int .u32 (lif : Nat), .slice Al LL.length cl, .int .i64 (failD ded (sd0.appE (recP 3 nm []).length))], row 100 2 (.slice Al LL.length cl) LL.length (LL.flatMap nvC), row 5 1 (.slice Ar3 ((recP 3 nm []).length) cr3) ((recP 3 nm []).length) ((recP 3 nm []).flatMap yC)] := k9 z9 [box b 91 [pt m0 0, pt m1 0, .int .i64 0, .int .u32 (lif : Nat), .slice Al LL.length cl, .int .i64 (failD ded (sd0.appE (recP 3 nm []).length))]] rfl g
  clear g g9 k9 hin9 hlt9
  refine ⟨_, rfl, ?_⟩
  intro a F
  refine l_pk 1 (fun L => (4, .int .i64 (sd0.appE (recP 3 nm []).length)) :: L) F fun a F => ?_
  refine l_then ?_
  refine wp_ret ?_
  exact fin F [.tmp 4] [.int .i64 (sd0.appE (recP 3 nm []).length)] rfl ⟨by kernel_rfl, trivial⟩ (.int .i64 (sd0.appE (recP 3 nm []).length)) rfl ⟨by rw [drop_er0 ht1 hgs ht4], by rw [drop_er0 ht1 hgs ht4]; exact (rl_shut rfl rfl (S.pick [0, 1, 2, 3, 4] (by decide)))⟩
 refine l_do F rfl rfl (op_pk F (v0 := .bool ((ded : Int) != (0 : Int))) (v := .bool true) (neqT ht1) fun a F => ?_)
 refine l_then ?_
 refine c_t F rfl ?_
 refine s_reg ?_
 refine l_pk 3 (fun L => (15, pt b 5) :: (14, pt b 0) :: (13, pt b 0) :: L) F fun a F => ?_
 refine l_do F rfl rfl (op_ldk (some ⟨b, 0, none⟩) 5 (.int .i64 ded) F rfl (cBox S 3 rfl (j := 5) rfl) (fun a F => ?_))
 refine l_pk 1 (fun L => (4, .int .i64 ded) :: L) F fun a F => ?_
 refine l_then ?_
 refine wp_ret ?_
 refine then_r (?_)
 exact fin F [.tmp 4] [.int .i64 ded] rfl ⟨by kernel_rfl, trivial⟩ (.int .i64 ded) rfl ⟨by rw [drop_dead ht1], by rw [drop_dead ht1]; exact (rl_shut rfl rfl (S.pick [0, 1, 2, 3, 4] (by decide)))⟩
set_option maxRecDepth 100000 in
set_option maxHeartbeats 4000000 in
theorem rsync0_at (w : World) (G : Nat → Prop) (b m0 m1 : Nat) (lif : Nat) (LL : List NV) (ded : Int) (sd0 sd1 : Sd) (N : Int) (in0 : sd0.In N) (in1 : sd1.In N) (hN : N ≤ 1000000) (hri : Rises LL) (hct : LL.length ≤ 900000) (hS : Sat w w [rlA b m0 m1 ⟨0, lif, LL, ded⟩, rsA m0 sd0, rsA m1 sd1, rest w G]) : Calls Try.prog 26 #[pt b 0] w fun e w' => e = .returned (.int .i64 (syncT ⟨⟨0, lif, LL, ded⟩, sd0, sd1⟩).1) ∧ Sat w w' [rlA b m0 m1 (syncT ⟨⟨0, lif, LL, ded⟩, sd0, sd1⟩).2.lb, rsA m0 (syncT ⟨⟨0, lif, LL, ded⟩, sd0, sd1⟩).2.s0, rsA m1 (syncT ⟨⟨0, lif, LL, ded⟩, sd0, sd1⟩).2.s1, rest w G] := by
 refine enter 24 Try.func26 rfl rfl rfl fun a F => ?_
 obtain ⟨Al, cl, S⟩ := rl_open hS
 have S : Sat w w [rest w G, rsA m0 sd0, rsA m1 sd1, box b 91 [pt m0 0, pt m1 0, .int .i64 0, .int .u32 (lif : Nat), .slice Al LL.length cl, .int .i64 ded], row 100 2 (.slice Al LL.length cl) LL.length (LL.flatMap nvC)] := S
 refine s_reg ?_
 refine l_pk 1 (fun L => (2, .int .i64 0) :: L) F fun a F => ?_
 refine l_then ?_
 refine wp_seq ?_
 refine s_reg ?_
 refine l_pk 3 (fun L => (5, pt b 5) :: (4, pt b 0) :: (3, pt b 0) :: L) F fun a F => ?_
 refine l_do F rfl rfl (op_ldk (some ⟨b, 0, none⟩) 5 (.int .i64 ded) F rfl (cBox S 3 rfl (j := 5) rfl) (fun a F => ?_))
 by_cases ht1 : (ded : Int) = (0 : Int)
 ·
  refine l_do F rfl rfl (op_pk F (v0 := .bool ((ded : Int) != (0 : Int))) (v := .bool false) (neqF ht1) fun a F => ?_)
  refine l_then ?_
  refine c_f F rfl ?_
  refine wp_skip ?_
  refine then_n ?_
  refine wp_seq ?_
  refine region_gx (fun D => fun (_ : Unit) => [rest w G, bif D 10 then rsA m0 sd0.syn else rsA m0 sd0, rsA m1 sd1, bif D 11 then box b 91 [pt m0 0, pt m1 0, .int .i64 0, .int .u32 (lif : Nat), .slice Al LL.length cl, .int .i64 (failD ded sd0.stepE)] else box b 91 [pt m0 0, pt m1 0, .int .i64 0, .int .u32 (lif : Nat), .slice Al LL.length cl, .int .i64 ded], row 100 2 (.slice Al LL.length cl) LL.length (LL.flatMap nvC)]) (fun (_ : Unit) => [pt b 0, pt b 0, pt b 0, pt b 0, pt b 2, .int .i64 0, pt b 0, pt b 0, pt b 0, pt m0 0, .int .i64 sd0.stepE, .int .i64 sd0.stepE, .int .i64 sd0.stepE]) [(5, [], [9, 10, 11]), (9, [5], [10, 11]), (10, [5, 9], [11]), (11, [5, 9, 10], [])] () rfl (by kernel_rfl) (by kernel_rfl) F S.drew ?_ ?_ ?_ ?_ ?_
  · rintro ⟨⟩; rfl
  ·
   rintro ⟨⟩
   refine Eq.trans (b := [some (pt b 0), some (pt b 0), some (pt b 0), some (pt b 0), some (pt b 2), none, some (pt b 0), some (pt b 0), some (pt b 0), none, none, none, some (.int .i64 sd0.stepE)]) ?_ ?_ <;> kernel_rfl
  ·
   intro D D' x h
   cases x
   simp only [h 10 (by decide), h 11 (by decide)]
  ·
   refine ⟨?_, ?_⟩
   ·
    refine ⟨_, rfl, rfl, by kernel_rfl, ?_⟩
    rintro D ⟨⟩ a z S F
    refine ⟨by kernel_rfl, ?_⟩
    exact op_ldk (some ⟨b, 0, none⟩) 2 (.int .i64 0) F rfl (cBox S 3 rfl (j := 2) rfl) (⟨(), rfl, (SameB.refl _ _ rfl), S⟩)
   refine ⟨?_, ?_⟩
   ·
    refine ⟨_, rfl, rfl, by kernel_rfl, ?_⟩
    rintro D ⟨⟩ a z S F
    refine ⟨by kernel_rfl, ?_⟩
    exact op_ldk (some ⟨b, 0, none⟩) 0 (pt m0 0) F rfl (cBox S 3 rfl (j := 0) rfl) (⟨(), rfl, (SameB.refl _ _ rfl), S⟩)
   refine ⟨?_, ?_⟩
   ·
    refine ⟨_, rfl, rfl, by kernel_rfl, ?_⟩
    rintro D ⟨⟩ a z S F
    refine ⟨by kernel_rfl, ?_⟩
    refine op_fn F (by kernel_rfl) (rsync_at S (i := 1) rfl (in0) (by omega)) ?_
    rintro e z ⟨rfl, S⟩
    exact ⟨_, rfl, (), rfl, (SameB.refl _ _ rfl), S⟩
   refine ⟨?_, ?_⟩
   ·
    refine ⟨_, rfl, rfl, by kernel_rfl, ?_⟩
    rintro D ⟨⟩ a z S F
    refine ⟨by kernel_rfl, ?_⟩
    have S : Sat w z [rest w G, rsA m0 sd0.syn, rsA m1 sd1, box b 91 [pt m0 0, pt m1 0, .int .i64 0, .int .u32 (lif : Nat), .slice Al LL.length cl, .int .i64 ded], row 100 2 (.slice Al LL.length cl) LL.length (LL.flatMap nvC)] := S
    obtain ⟨G9, g9, hin9, hlt9, k9⟩ := S.frameB [3] (by decide) rfl
    refine op_fn F (by kernel_rfl) (rfail_any _ G9 b (pt m0 0) (pt m1 0) (.int .i64 0) (.int .u32 (lif : Nat)) (.slice Al LL.length cl) ded sd0.stepE g9) ?_
    rintro e z9 ⟨rfl, g⟩
    have S : Sat w z9 [rest w G, rsA m0 sd0.syn, rsA m1 sd1, box b 91 [pt m0 0, pt m1 0, .int .i64 0, .int .u32 (lif : Nat), .slice Al LL.length cl, .int .i64 (failD ded sd0.stepE)], row 100 2 (.slice Al LL.length cl) LL.length (LL.flatMap nvC)] := k9 z9 [box b 91 [pt m0 0, pt m1 0, .int .i64 0, .int .u32 (lif : Nat), .slice Al LL.length cl, .int .i64 (failD ded sd0.stepE)]] rfl g
    clear g g9 k9 hin9 hlt9
    exact ⟨_, rfl, (), rfl, (SameB.refl _ _ rfl), S⟩
   trivial
  rintro ⟨⟩ a z F S
  have F := F.subk (l := [(2, .int .i64 sd0.stepE)])
  have S : Sat w z [rest w G, rsA m0 sd0.syn, rsA m1 sd1, box b 91 [pt m0 0, pt m1 0, .int .i64 0, .int .u32 (lif : Nat), .slice Al LL.length cl, .int .i64 (failD ded sd0.stepE)], row 100 2 (.slice Al LL.length cl) LL.length (LL.flatMap nvC)] := S
  refine then_n ?_
  refine wp_ret ?_
  exact fin F [.tmp 2] [.int .i64 sd0.stepE] rfl ⟨by kernel_rfl, trivial⟩ (.int .i64 sd0.stepE) rfl ⟨by rw [sync_go0 ht1], by rw [sync_go0 ht1]; exact (rl_shut rfl rfl (S.pick [0, 1, 2, 3, 4] (by decide)))⟩
 refine l_do F rfl rfl (op_pk F (v0 := .bool ((ded : Int) != (0 : Int))) (v := .bool true) (neqT ht1) fun a F => ?_)
 refine l_then ?_
 refine c_t F rfl ?_
 refine s_reg ?_
 refine l_pk 3 (fun L => (10, pt b 5) :: (9, pt b 0) :: (8, pt b 0) :: L) F fun a F => ?_
 refine l_do F rfl rfl (op_ldk (some ⟨b, 0, none⟩) 5 (.int .i64 ded) F rfl (cBox S 3 rfl (j := 5) rfl) (fun a F => ?_))
 refine l_pk 1 (fun L => (2, .int .i64 ded) :: L) F fun a F => ?_
 refine l_then ?_
 refine wp_ret ?_
 refine then_r (?_)
 exact fin F [.tmp 2] [.int .i64 ded] rfl ⟨by kernel_rfl, trivial⟩ (.int .i64 ded) rfl ⟨by rw [sync_dead ht1], by rw [sync_dead ht1]; exact (rl_shut rfl rfl (S.pick [0, 1, 2, 3, 4] (by decide)))⟩
set_option maxRecDepth 100000 in
set_option maxHeartbeats 4000000 in
theorem rput1_at (w : World) (G : Nat → Prop) (b m0 m1 : Nat) (lif : Nat) (LL : List NV) (ded : Int) (sd0 sd1 : Sd) (N : Int) (in0 : sd0.In N) (in1 : sd1.In N) (hN : N ≤ 1000000) (hri : Rises LL) (hct : LL.length ≤ 900000) (nm V : Bs) (hS : Sat w w [rlA b m0 m1 ⟨1, lif, LL, ded⟩, rsA m0 sd0, rsA m1 sd1, rest w G]) : Calls Try.prog 24 #[pt b 0, strV nm, strV V] w fun e w' => e = .returned (.int .i64 (putT ⟨⟨1, lif, LL, ded⟩, sd0, sd1⟩ nm V).1) ∧ Sat w w' [rlA b m0 m1 (putT ⟨⟨1, lif, LL, ded⟩, sd0, sd1⟩ nm V).2.lb, rsA m0 (putT ⟨⟨1, lif, LL, ded⟩, sd0, sd1⟩ nm V).2.s0, rsA m1 (putT ⟨⟨1, lif, LL, ded⟩, sd0, sd1⟩ nm V).2.s1, rest w G] := by
 refine enter 54 Try.func24 rfl rfl rfl fun a F => ?_
 obtain ⟨Al, cl, S⟩ := rl_open hS
 have S : Sat w w [rest w G, rsA m0 sd0, rsA m1 sd1, box b 91 [pt m0 0, pt m1 0, .int .i64 1, .int .u32 (lif : Nat), .slice Al LL.length cl, .int .i64 ded], row 100 2 (.slice Al LL.length cl) LL.length (LL.flatMap nvC)] := S
 have hrp := recP_len 2 nm V
 refine s_reg ?_
 refine l_pk 1 (fun L => (6, .int .i64 0) :: L) F fun a F => ?_
 refine l_then ?_
 refine wp_seq ?_
 refine s_reg ?_
 refine l_pk 3 (fun L => (10, pt b 5) :: (9, pt b 0) :: (8, pt b 0) :: L) F fun a F => ?_
 refine l_do F rfl rfl (op_ldk (some ⟨b, 0, none⟩) 5 (.int .i64 ded) F rfl (cBox S 3 rfl (j := 5) rfl) (fun a F => ?_))
 by_cases ht1 : (ded : Int) = (0 : Int)
 ·
  refine l_do F rfl rfl (op_pk F (v0 := .bool ((ded : Int) != (0 : Int))) (v := .bool false) (neqF ht1) fun a F => ?_)
  refine l_then ?_
  refine c_f F rfl ?_
  refine wp_skip ?_
  refine then_n ?_
  refine wp_seq ?_
  refine s_reg ?_
  refine l_pk 1 (fun L => (17, strV nm) :: L) F fun a F => ?_
  refine l_do F rfl rfl (op_strlen _ _ nm F rfl (by kernel_rfl) (by kernel_rfl) (fun a F => ?_))
  by_cases ht2 : (255 : Int) < ((nm.length : Nat) : Int)
  ·
   refine l_do F rfl rfl (op_pk F (v0 := .bool (decide (((nm.length : Nat) : Int) > (255 : Int)))) (v := .bool true) (gtrT ht2) fun a F => ?_)
   refine l_pk 5 (fun L => (24, .bool true) :: (23, undef) :: (22, undef) :: (21, undef) :: (20, .bool true) :: L) F fun a F => ?_
   refine l_then ?_
   refine c_t F rfl ?_
   refine s_reg ?_
   refine l_pk 1 (fun L => (6, .int .i64 8) :: L) F fun a F => ?_
   refine l_then ?_
   refine wp_ret ?_
   refine then_r (?_)
   exact fin F [.tmp 6] [.int .i64 8] rfl ⟨by kernel_rfl, trivial⟩ (.int .i64 8) rfl ⟨by rw [put_big ht1 (by omega)], by rw [put_big ht1 (by omega)]; exact (rl_shut rfl rfl (S.pick [0, 1, 2, 3, 4] (by decide)))⟩
  refine l_do F rfl rfl (op_pk F (v0 := .bool (decide (((nm.length : Nat) : Int) > (255 : Int)))) (v := .bool false) (gtrF ht2) fun a F => ?_)
  refine l_pk 2 (fun L => (21, strV V) :: (20, .bool false) :: L) F fun a F => ?_
  refine l_do F rfl rfl (op_strlen _ _ V F rfl (by kernel_rfl) (by kernel_rfl) (fun a F => ?_))
  by_cases ht3 : (4096 : Int) < ((V.length : Nat) : Int)
  ·
   refine l_do F rfl rfl (op_pk F (v0 := .bool (decide (((V.length : Nat) : Int) > (4096 : Int)))) (v := .bool true) (gtrT ht3) fun a F => ?_)
   refine l_pk 1 (fun L => (24, .bool true) :: L) F fun a F => ?_
   refine l_then ?_
   refine c_t F rfl ?_
   refine s_reg ?_
   refine l_pk 1 (fun L => (6, .int .i64 8) :: L) F fun a F => ?_
   refine l_then ?_
   refine wp_ret ?_
   refine then_r (?_)
   exact fin F [.tmp 6] [.int .i64 8] rfl ⟨by kernel_rfl, trivial⟩ (.int .i64 8) rfl ⟨by rw [put_big ht1 (by omega)], by rw [put_big ht1 (by omega)]; exact (rl_shut rfl rfl (S.pick [0, 1, 2, 3, 4] (by decide)))⟩
  refine l_do F rfl rfl (op_pk F (v0 := .bool (decide (((V.length : Nat) : Int) > (4096 : Int)))) (v := .bool false) (gtrF ht3) fun a F => ?_)
  refine l_pk 1 (fun L => (24, .bool false) :: L) F fun a F => ?_
  refine l_then ?_
  refine c_f F rfl ?_
  refine wp_skip ?_
  refine then_n ?_
  refine wp_seq ?_
  have S := S.pushEmp
  refine region_gx (fun D => fun ((Ar2, cr2) : Option Addr × Nat) => [rest w G, rsA m0 sd0, bif D 12 then rsA m1 (sd1.app (recP 2 nm V)) else rsA m1 sd1, box b 91 [pt m0 0, pt m1 0, .int .i64 1, .int .u32 (lif : Nat), .slice Al LL.length cl, .int .i64 ded], row 100 2 (.slice Al LL.length cl) LL.length (LL.flatMap nvC), bif D 11 then row 5 1 (.slice Ar2 ((recP 2 nm V).length) cr2) ((recP 2 nm V).length) ((recP 2 nm V).flatMap yC) else emp]) (fun ((Ar2, cr2) : Option Addr × Nat) => [pt b 0, pt b 0, pt b 0, pt b 2, .int .i64 1, pt b 0, pt b 0, pt b 1, pt m1 0, strV nm, strV V, .slice Ar2 ((recP 2 nm V).length) cr2, .int .i64 (sd1.appE (recP 2 nm V).length), .int .i64 (sd1.appE (recP 2 nm V).length)]) [(4, [], [8, 12]), (8, [4], [12]), (11, [], [12]), (12, [4, 8, 11], [])] (none, 0) rfl (by kernel_rfl) (by kernel_rfl) F S.drew ?_ ?_ ?_ ?_ ?_
  · rintro ⟨Ar2, cr2⟩; rfl
  ·
   rintro ⟨Ar2, cr2⟩
   refine Eq.trans (b := [some (pt b 0), some (pt b 0), some (pt b 0), some (pt b 2), none, some (pt b 0), some (pt b 0), some (pt b 1), none, some (strV nm), some (strV V), none, none, some (.int .i64 (sd1.appE (recP 2 nm V).length))]) ?_ ?_ <;> kernel_rfl
  ·
   intro D D' x h
   obtain ⟨Ar2, cr2⟩ := x
   simp only [h 11 (by decide), h 12 (by decide)]
  ·
   refine ⟨?_, ?_⟩
   ·
    refine ⟨_, rfl, rfl, by kernel_rfl, ?_⟩
    rintro D ⟨Ar2, cr2⟩ a z S F
    refine ⟨by kernel_rfl, ?_⟩
    exact op_ldk (some ⟨b, 0, none⟩) 2 (.int .i64 1) F rfl (cBox S 3 rfl (j := 2) rfl) (⟨(Ar2, cr2), rfl, (SameB.refl _ _ rfl), S⟩)
   refine ⟨?_, ?_⟩
   ·
    refine ⟨_, rfl, rfl, by kernel_rfl, ?_⟩
    rintro D ⟨Ar2, cr2⟩ a z S F
    refine ⟨by kernel_rfl, ?_⟩
    exact op_ldk (some ⟨b, 0, none⟩) 1 (pt m1 0) F rfl (cBox S 3 rfl (j := 1) rfl) (⟨(Ar2, cr2), rfl, (SameB.refl _ _ rfl), S⟩)
   refine ⟨?_, ?_⟩
   ·
    refine ⟨_, rfl, rfl, by kernel_rfl, ?_⟩
    rintro D ⟨Ar2, cr2⟩ a z S F
    refine ⟨by kernel_rfl, ?_⟩
    refine op_fn F (by kernel_rfl) (rrec_any _ 2 nm V (by first | omega | (simp only [List.length_nil]; omega)) (by first | omega | (simp only [List.length_nil]; omega))) ?_
    rintro e z ⟨y4, y5, rfl, g⟩
    have S := S.fillThing 5 rfl g
    exact ⟨_, rfl, (y4, y5), rfl, ⟨rfl, rfl, rfl, rfl, rfl, rfl, rfl, rfl, rfl, rfl, rfl, trivial, trivial, trivial, trivial⟩, S⟩
   refine ⟨?_, ?_⟩
   ·
    refine ⟨_, rfl, rfl, by kernel_rfl, ?_⟩
    rintro D ⟨Ar2, cr2⟩ a z S F
    refine ⟨by kernel_rfl, ?_⟩
    refine op_fn F (by kernel_rfl) (rapp_at S (i := 2) rfl (in1) (by omega) (recP 2 nm V) Ar2 cr2 (Recs.ofRow (S.rowOf (i := 5) rfl) (by first | omega | decide | (simp only [List.length_cons, List.length_nil]; omega))) (away_row (j := 5) rfl (by decide))) ?_
    rintro e z ⟨rfl, S⟩
    exact ⟨_, rfl, (Ar2, cr2), rfl, (SameB.refl _ _ rfl), S⟩
   trivial
  rintro ⟨Ar2, cr2⟩ a z F S
  have F := F.subk (l := [(0, pt b 0), (1, strV nm), (2, strV V), (7, .int .i64 (sd1.appE (recP 2 nm V).length))])
  have S : Sat w z [rest w G, rsA m0 sd0, rsA m1 (sd1.app (recP 2 nm V)), box b 91 [pt m0 0, pt m1 0, .int .i64 1, .int .u32 (lif : Nat), .slice Al LL.length cl, .int .i64 ded], row 100 2 (.slice Al LL.length cl) LL.length (LL.flatMap nvC), row 5 1 (.slice Ar2 ((recP 2 nm V).length) cr2) ((recP 2 nm V).length) ((recP 2 nm V).flatMap yC)] := S
  refine then_n ?_
  refine wp_seq ?_
  refine s_reg ?_
  refine l_pk 1 (fun L => (38, .int .i64 (sd1.appE (recP 2 nm V).length)) :: L) F fun a F => ?_
  by_cases ht6 : (sd1.appE (recP 2 nm V).length : Int) = (0 : Int)
  ·
   refine l_do F rfl rfl (op_pk F (v0 := .bool ((sd1.appE (recP 2 nm V).length : Int) == (0 : Int))) (v := .bool true) (eqlT ht6) fun a F => ?_)
   refine l_then ?_
   refine c_t F rfl ?_
   refine wp_region_list ?_
   refine l_pk 4 (fun L => (43, pt b 4) :: (42, pt b 0) :: (41, pt b 0) :: (40, pt b 0) :: L) F fun a F => ?_
   refine l_do F rfl rfl (op_ldk (some ⟨b, 0, none⟩) 4 (.slice Al LL.length cl) F rfl (cBox S 3 rfl (j := 4) rfl) (fun a F => ?_))
   refine l_pk 3 (fun L => (47, .agg #[strV nm, strV V]) :: (46, strV V) :: (45, strV nm) :: L) F fun a F => ?_
   refine l_do F rfl rfl (op_fn F (by kernel_rfl) (rput_any _ Al cl LL (Recs.ofRow (S.rowOf (i := 4) rfl) (by first | omega | decide | (simp only [List.length_cons, List.length_nil]; omega))) (by omega) hri nm V) ?_)
   rintro e z ⟨Ap, cp, rfl, g⟩
   have S := S.pushThings g
   refine ⟨_, rfl, ?_⟩
   intro a F
   refine l_pk 2 (fun L => (50, pt b 4) :: (49, pt b 0) :: L) F fun a F => ?_
   refine l_do F rfl rfl (op_storeB S 3 _ _ _ b 4 (.slice Ap ((putN LL (nm, V)).length) cp) F rfl rfl (by kernel_rfl) (by kernel_rfl) (by kernel_rfl) (by kernel_rfl) (by kernel_rfl) fun z S a F => ?_)
   refine l_then ?_
   refine s_reg ?_
   refine l_pk 2 (fun L => (52, .int .i64 (sd1.appE (recP 2 nm V).length)) :: (51, pt b 0) :: L) F fun a F => ?_
   obtain ⟨G9, g9, hin9, hlt9, k9⟩ := S.frameB [3] (by decide) rfl
   refine l_do F rfl rfl (op_fn F (by kernel_rfl) (rfail_any _ G9 b (pt m0 0) (pt m1 0) (.int .i64 1) (.int .u32 (lif : Nat)) (.slice Ap ((putN LL (nm, V)).length) cp) ded (sd1.appE (recP 2 nm V).length) g9) ?_)
   rintro e z9 ⟨rfl, g⟩
   have S : Sat w z9 [rest w G, rsA m0 sd0, rsA m1 (sd1.app (recP 2 nm V)), box b 91 [pt m0 0, pt m1 0, .int .i64 1, .int .u32 (lif : Nat), .slice Ap ((putN LL (nm, V)).length) cp, .int .i64 (failD ded (sd1.appE (recP 2 nm V).length))], row 100 2 (.slice Al LL.length cl) LL.length (LL.flatMap nvC), row 5 1 (.slice Ar2 ((recP 2 nm V).length) cr2) ((recP 2 nm V).length) ((recP 2 nm V).flatMap yC), row 100 2 (.slice Ap ((putN LL (nm, V)).length) cp) ((putN LL (nm, V)).length) ((putN LL (nm, V)).flatMap nvC)] := k9 z9 [box b 91 [pt m0 0, pt m1 0, .int .i64 1, .int .u32 (lif : Nat), .slice Ap ((putN LL (nm, V)).length) cp, .int .i64 (failD ded (sd1.appE (recP 2 nm V).length))]] rfl g
   clear g g9 k9 hin9 hlt9
   refine ⟨_, rfl, ?_⟩
   intro a F
   refine l_pk 1 (fun L => (6, .int .i64 (sd1.appE (recP 2 nm V).length)) :: L) F fun a F => ?_
   refine l_then ?_
   refine wp_ret ?_
   have hp9 := put_ok1 (lif := lif) (LL := LL) (sd0 := sd0) (sd1 := sd1) (n := nm) (v := V) ht1 (by omega) (by omega) ht6
   exact fin F [.tmp 6] [.int .i64 (sd1.appE (recP 2 nm V).length)] rfl ⟨by kernel_rfl, trivial⟩ (.int .i64 (sd1.appE (recP 2 nm V).length)) rfl ⟨by rw [hp9]; exact congrArg (fun x => Ending.returned (Value.int .i64 x)) ht6, by rw [hp9]; exact (rl_shut rfl rfl (S.pick [0, 1, 2, 3, 6] (by decide)))⟩
  refine l_do F rfl rfl (op_pk F (v0 := .bool ((sd1.appE (recP 2 nm V).length : Int) == (0 : Int))) (v := .bool false) (eqlF ht6) fun a F => ?_)
  refine l_then ?_
  refine c_f F rfl ?_
  refine wp_skip ?_
  refine then_n ?_
  refine s_reg ?_
  refine l_pk 2 (fun L => (52, .int .i64 (sd1.appE (recP 2 nm V).length)) :: (51, pt b 0) :: L) F fun a F => ?_
  obtain ⟨G9, g9, hin9, hlt9, k9⟩ := S.frameB [3] (by decide) rfl
  refine l_do F rfl rfl (op_fn F (by kernel_rfl) (rfail_any _ G9 b (pt m0 0) (pt m1 0) (.int .i64 1) (.int .u32 (lif : Nat)) (.slice Al LL.length cl) ded (sd1.appE (recP 2 nm V).length) g9) ?_)
  rintro e z9 ⟨rfl, g⟩
  have S : Sat w z9 [rest w G, rsA m0 sd0, rsA m1 (sd1.app (recP 2 nm V)), box b 91 [pt m0 0, pt m1 0, .int .i64 1, .int .u32 (lif : Nat), .slice Al LL.length cl, .int .i64 (failD ded (sd1.appE (recP 2 nm V).length))], row 100 2 (.slice Al LL.length cl) LL.length (LL.flatMap nvC), row 5 1 (.slice Ar2 ((recP 2 nm V).length) cr2) ((recP 2 nm V).length) ((recP 2 nm V).flatMap yC)] := k9 z9 [box b 91 [pt m0 0, pt m1 0, .int .i64 1, .int .u32 (lif : Nat), .slice Al LL.length cl, .int .i64 (failD ded (sd1.appE (recP 2 nm V).length))]] rfl g
  clear g g9 k9 hin9 hlt9
  refine ⟨_, rfl, ?_⟩
  intro a F
  refine l_pk 1 (fun L => (6, .int .i64 (sd1.appE (recP 2 nm V).length)) :: L) F fun a F => ?_
  refine l_then ?_
  refine wp_ret ?_
  exact fin F [.tmp 6] [.int .i64 (sd1.appE (recP 2 nm V).length)] rfl ⟨by kernel_rfl, trivial⟩ (.int .i64 (sd1.appE (recP 2 nm V).length)) rfl ⟨by rw [put_er1 ht1 (by omega) (by omega) ht6], by rw [put_er1 ht1 (by omega) (by omega) ht6]; exact (rl_shut rfl rfl (S.pick [0, 1, 2, 3, 4] (by decide)))⟩
 refine l_do F rfl rfl (op_pk F (v0 := .bool ((ded : Int) != (0 : Int))) (v := .bool true) (neqT ht1) fun a F => ?_)
 refine l_then ?_
 refine c_t F rfl ?_
 refine s_reg ?_
 refine l_pk 3 (fun L => (15, pt b 5) :: (14, pt b 0) :: (13, pt b 0) :: L) F fun a F => ?_
 refine l_do F rfl rfl (op_ldk (some ⟨b, 0, none⟩) 5 (.int .i64 ded) F rfl (cBox S 3 rfl (j := 5) rfl) (fun a F => ?_))
 refine l_pk 1 (fun L => (6, .int .i64 ded) :: L) F fun a F => ?_
 refine l_then ?_
 refine wp_ret ?_
 refine then_r (?_)
 exact fin F [.tmp 6] [.int .i64 ded] rfl ⟨by kernel_rfl, trivial⟩ (.int .i64 ded) rfl ⟨by rw [put_dead ht1], by rw [put_dead ht1]; exact (rl_shut rfl rfl (S.pick [0, 1, 2, 3, 4] (by decide)))⟩
set_option maxRecDepth 100000 in
set_option maxHeartbeats 4000000 in
theorem rdrop1_at (w : World) (G : Nat → Prop) (b m0 m1 : Nat) (lif : Nat) (LL : List NV) (ded : Int) (sd0 sd1 : Sd) (N : Int) (in0 : sd0.In N) (in1 : sd1.In N) (hN : N ≤ 1000000) (hri : Rises LL) (hct : LL.length ≤ 900000) (nm : Bs) (hnl : nm.length ≤ 1000000) (hS : Sat w w [rlA b m0 m1 ⟨1, lif, LL, ded⟩, rsA m0 sd0, rsA m1 sd1, rest w G]) : Calls Try.prog 25 #[pt b 0, strV nm] w fun e w' => e = .returned (.int .i64 (dropT ⟨⟨1, lif, LL, ded⟩, sd0, sd1⟩ nm).1) ∧ Sat w w' [rlA b m0 m1 (dropT ⟨⟨1, lif, LL, ded⟩, sd0, sd1⟩ nm).2.lb, rsA m0 (dropT ⟨⟨1, lif, LL, ded⟩, sd0, sd1⟩ nm).2.s0, rsA m1 (dropT ⟨⟨1, lif, LL, ded⟩, sd0, sd1⟩ nm).2.s1, rest w G] := by
 refine enter 54 Try.func25 rfl rfl rfl fun a F => ?_
 obtain ⟨Al, cl, S⟩ := rl_open hS
 have S : Sat w w [rest w G, rsA m0 sd0, rsA m1 sd1, box b 91 [pt m0 0, pt m1 0, .int .i64 1, .int .u32 (lif : Nat), .slice Al LL.length cl, .int .i64 ded], row 100 2 (.slice Al LL.length cl) LL.length (LL.flatMap nvC)] := S
 have hrp := recP_len 3 nm []
 rw [List.length_nil] at hrp
 refine s_reg ?_
 refine l_pk 1 (fun L => (4, .int .i64 0) :: L) F fun a F => ?_
 refine l_then ?_
 refine wp_seq ?_
 refine s_reg ?_
 refine l_pk 3 (fun L => (10, pt b 5) :: (9, pt b 0) :: (8, pt b 0) :: L) F fun a F => ?_
 refine l_do F rfl rfl (op_ldk (some ⟨b, 0, none⟩) 5 (.int .i64 ded) F rfl (cBox S 3 rfl (j := 5) rfl) (fun a F => ?_))
 by_cases ht1 : (ded : Int) = (0 : Int)
 ·
  refine l_do F rfl rfl (op_pk F (v0 := .bool ((ded : Int) != (0 : Int))) (v := .bool false) (neqF ht1) fun a F => ?_)
  refine l_then ?_
  refine c_f F rfl ?_
  refine wp_skip ?_
  refine then_n ?_
  refine s_reg ?_
  refine l_pk 3 (fun L => (20, pt b 4) :: (19, pt b 0) :: (18, pt b 0) :: L) F fun a F => ?_
  refine l_do F rfl rfl (op_ldk (some ⟨b, 0, none⟩) 4 (.slice Al LL.length cl) F rfl (cBox S 3 rfl (j := 4) rfl) (fun a F => ?_))
  refine l_pk 1 (fun L => (22, strV nm) :: L) F fun a F => ?_
  rcases getN_cases LL nm with hgn | ⟨vv, hgs⟩
  ·
   refine l_do F rfl rfl (op_fn F (by kernel_rfl) ((by have h9 := rfind_any _ Al cl LL (Recs.ofRow (S.rowOf (i := 4) rfl) (by first | omega | decide | (simp only [List.length_cons, List.length_nil]; omega))) (by omega) nm; rw [hgn] at h9; exact h9)) ?_)
   rintro e z ⟨rfl, hb⟩
   have S := S.grow hb
   refine ⟨_, rfl, ?_⟩
   intro a F
   refine l_pk 5 (fun L => (6, .bool false) :: (5, strV ([] : Bs)) :: (25, .bool false) :: (24, strV ([] : Bs)) :: (17, .tuple #[strV ([] : Bs), .bool false]) :: L) F fun a F => ?_
   refine l_then ?_
   refine wp_seq ?_
   refine s_reg ?_
   refine l_pk 2 (fun L => (27, .bool true) :: (26, .bool false) :: L) F fun a F => ?_
   refine l_then ?_
   refine c_t F rfl ?_
   refine s_reg ?_
   refine l_pk 1 (fun L => (4, .int .i64 6) :: L) F fun a F => ?_
   refine l_then ?_
   refine wp_ret ?_
   refine then_r (?_)
   exact fin F [.tmp 4] [.int .i64 6] rfl ⟨by kernel_rfl, trivial⟩ (.int .i64 6) rfl ⟨by rw [drop_none ht1 hgn], by rw [drop_none ht1 hgn]; exact (rl_shut rfl rfl (S.pick [0, 1, 2, 3, 4] (by decide)))⟩
  refine l_do F rfl rfl (op_fn F (by kernel_rfl) ((by have h9 := rfind_any _ Al cl LL (Recs.ofRow (S.rowOf (i := 4) rfl) (by first | omega | decide | (simp only [List.length_cons, List.length_nil]; omega))) (by omega) nm; rw [hgs] at h9; exact h9)) ?_)
  rintro e z ⟨rfl, hb⟩
  have S := S.grow hb
  refine ⟨_, rfl, ?_⟩
  intro a F
  refine l_pk 5 (fun L => (6, .bool true) :: (5, strV vv) :: (25, .bool true) :: (24, strV vv) :: (17, .tuple #[strV vv, .bool true]) :: L) F fun a F => ?_
  refine l_then ?_
  refine wp_seq ?_
  refine s_reg ?_
  refine l_pk 2 (fun L => (27, .bool false) :: (26, .bool true) :: L) F fun a F => ?_
  refine l_then ?_
  refine c_f F rfl ?_
  refine wp_skip ?_
  refine then_n ?_
  refine wp_seq ?_
  have S := S.pushEmp
  refine region_gx (fun D => fun ((Ar3, cr3) : Option Addr × Nat) => [rest w G, rsA m0 sd0, bif D 11 then rsA m1 (sd1.app (recP 3 nm [])) else rsA m1 sd1, box b 91 [pt m0 0, pt m1 0, .int .i64 1, .int .u32 (lif : Nat), .slice Al LL.length cl, .int .i64 ded], row 100 2 (.slice Al LL.length cl) LL.length (LL.flatMap nvC), bif D 10 then row 5 1 (.slice Ar3 ((recP 3 nm []).length) cr3) ((recP 3 nm []).length) ((recP 3 nm []).flatMap yC) else emp]) (fun ((Ar3, cr3) : Option Addr × Nat) => [pt b 0, pt b 0, pt b 0, pt b 2, .int .i64 1, pt b 0, pt b 0, pt b 1, pt m1 0, strV nm, .slice Ar3 ((recP 3 nm []).length) cr3, .int .i64 (sd1.appE (recP 3 nm []).length), .int .i64 (sd1.appE (recP 3 nm []).length)]) [(4, [], [8, 11]), (8, [4], [11]), (10, [], [11]), (11, [4, 8, 10], [])] (none, 0) rfl (by kernel_rfl) (by kernel_rfl) F S.drew ?_ ?_ ?_ ?_ ?_
  · rintro ⟨Ar3, cr3⟩; rfl
  ·
   rintro ⟨Ar3, cr3⟩
   refine Eq.trans (b := [some (pt b 0), some (pt b 0), some (pt b 0), some (pt b 2), none, some (pt b 0), some (pt b 0), some (pt b 1), none, some (strV nm), none, none, some (.int .i64 (sd1.appE (recP 3 nm []).length))]) ?_ ?_ <;> kernel_rfl
  ·
   intro D D' x h
   obtain ⟨Ar3, cr3⟩ := x
   simp only [h 10 (by decide), h 11 (by decide)]
  ·
   refine ⟨?_, ?_⟩
   ·
    refine ⟨_, rfl, rfl, by kernel_rfl, ?_⟩
    rintro D ⟨Ar3, cr3⟩ a z S F
    refine ⟨by kernel_rfl, ?_⟩
    exact op_ldk (some ⟨b, 0, none⟩) 2 (.int .i64 1) F rfl (cBox S 3 rfl (j := 2) rfl) (⟨(Ar3, cr3), rfl, (SameB.refl _ _ rfl), S⟩)
   refine ⟨?_, ?_⟩
   ·
    refine ⟨_, rfl, rfl, by kernel_rfl, ?_⟩
    rintro D ⟨Ar3, cr3⟩ a z S F
    refine ⟨by kernel_rfl, ?_⟩
    exact op_ldk (some ⟨b, 0, none⟩) 1 (pt m1 0) F rfl (cBox S 3 rfl (j := 1) rfl) (⟨(Ar3, cr3), rfl, (SameB.refl _ _ rfl), S⟩)
   refine ⟨?_, ?_⟩
   ·
    refine ⟨_, rfl, rfl, by kernel_rfl, ?_⟩
    rintro D ⟨Ar3, cr3⟩ a z S F
    refine ⟨by kernel_rfl, ?_⟩
    refine op_fn F (by kernel_rfl) (rrec_any _ 3 nm [] (by first | omega | (simp only [List.length_nil]; omega)) (by first | omega | (simp only [List.length_nil]; omega))) ?_
    rintro e z ⟨y2, y3, rfl, g⟩
    have S := S.fillThing 5 rfl g
    exact ⟨_, rfl, (y2, y3), rfl, ⟨rfl, rfl, rfl, rfl, rfl, rfl, rfl, rfl, rfl, rfl, trivial, trivial, trivial, trivial⟩, S⟩
   refine ⟨?_, ?_⟩
   ·
    refine ⟨_, rfl, rfl, by kernel_rfl, ?_⟩
    rintro D ⟨Ar3, cr3⟩ a z S F
    refine ⟨by kernel_rfl, ?_⟩
    refine op_fn F (by kernel_rfl) (rapp_at S (i := 2) rfl (in1) (by omega) (recP 3 nm []) Ar3 cr3 (Recs.ofRow (S.rowOf (i := 5) rfl) (by first | omega | decide | (simp only [List.length_cons, List.length_nil]; omega))) (away_row (j := 5) rfl (by decide))) ?_
    rintro e z ⟨rfl, S⟩
    exact ⟨_, rfl, (Ar3, cr3), rfl, (SameB.refl _ _ rfl), S⟩
   trivial
  rintro ⟨Ar3, cr3⟩ a z F S
  have F := F.subk (l := [(0, pt b 0), (1, strV nm), (7, .int .i64 (sd1.appE (recP 3 nm []).length))])
  have S : Sat w z [rest w G, rsA m0 sd0, rsA m1 (sd1.app (recP 3 nm [])), box b 91 [pt m0 0, pt m1 0, .int .i64 1, .int .u32 (lif : Nat), .slice Al LL.length cl, .int .i64 ded], row 100 2 (.slice Al LL.length cl) LL.length (LL.flatMap nvC), row 5 1 (.slice Ar3 ((recP 3 nm []).length) cr3) ((recP 3 nm []).length) ((recP 3 nm []).flatMap yC)] := S
  refine then_n ?_
  refine wp_seq ?_
  refine s_reg ?_
  refine l_pk 1 (fun L => (40, .int .i64 (sd1.appE (recP 3 nm []).length)) :: L) F fun a F => ?_
  by_cases ht4 : (sd1.appE (recP 3 nm []).length : Int) = (0 : Int)
  ·
   refine l_do F rfl rfl (op_pk F (v0 := .bool ((sd1.appE (recP 3 nm []).length : Int) == (0 : Int))) (v := .bool true) (eqlT ht4) fun a F => ?_)
   refine l_then ?_
   refine c_t F rfl ?_
   refine wp_region_list ?_
   refine l_pk 4 (fun L => (45, pt b 4) :: (44, pt b 0) :: (43, pt b 0) :: (42, pt b 0) :: L) F fun a F => ?_
   refine l_do F rfl rfl (op_ldk (some ⟨b, 0, none⟩) 4 (.slice Al LL.length cl) F rfl (cBox S 3 rfl (j := 4) rfl) (fun a F => ?_))
   refine l_pk 1 (fun L => (47, strV nm) :: L) F fun a F => ?_
   refine l_do F rfl rfl (op_fn F (by kernel_rfl) (rdrop_any _ Al cl LL (Recs.ofRow (S.rowOf (i := 4) rfl) (by first | omega | decide | (simp only [List.length_cons, List.length_nil]; omega))) (by omega) nm) ?_)
   rintro e z ⟨Ap, cp, rfl, g⟩
   have S := S.pushThings g
   refine ⟨_, rfl, ?_⟩
   intro a F
   refine l_pk 2 (fun L => (50, pt b 4) :: (49, pt b 0) :: L) F fun a F => ?_
   refine l_do F rfl rfl (op_storeB S 3 _ _ _ b 4 (.slice Ap ((delN LL nm).length) cp) F rfl rfl (by kernel_rfl) (by kernel_rfl) (by kernel_rfl) (by kernel_rfl) (by kernel_rfl) fun z S a F => ?_)
   refine l_then ?_
   refine s_reg ?_
   refine l_pk 2 (fun L => (52, .int .i64 (sd1.appE (recP 3 nm []).length)) :: (51, pt b 0) :: L) F fun a F => ?_
   obtain ⟨G9, g9, hin9, hlt9, k9⟩ := S.frameB [3] (by decide) rfl
   refine l_do F rfl rfl (op_fn F (by kernel_rfl) (rfail_any _ G9 b (pt m0 0) (pt m1 0) (.int .i64 1) (.int .u32 (lif : Nat)) (.slice Ap ((delN LL nm).length) cp) ded (sd1.appE (recP 3 nm []).length) g9) ?_)
   rintro e z9 ⟨rfl, g⟩
   have S : Sat w z9 [rest w G, rsA m0 sd0, rsA m1 (sd1.app (recP 3 nm [])), box b 91 [pt m0 0, pt m1 0, .int .i64 1, .int .u32 (lif : Nat), .slice Ap ((delN LL nm).length) cp, .int .i64 (failD ded (sd1.appE (recP 3 nm []).length))], row 100 2 (.slice Al LL.length cl) LL.length (LL.flatMap nvC), row 5 1 (.slice Ar3 ((recP 3 nm []).length) cr3) ((recP 3 nm []).length) ((recP 3 nm []).flatMap yC), row 100 2 (.slice Ap ((delN LL nm).length) cp) ((delN LL nm).length) ((delN LL nm).flatMap nvC)] := k9 z9 [box b 91 [pt m0 0, pt m1 0, .int .i64 1, .int .u32 (lif : Nat), .slice Ap ((delN LL nm).length) cp, .int .i64 (failD ded (sd1.appE (recP 3 nm []).length))]] rfl g
   clear g g9 k9 hin9 hlt9
   refine ⟨_, rfl, ?_⟩
   intro a F
   refine l_pk 1 (fun L => (4, .int .i64 (sd1.appE (recP 3 nm []).length)) :: L) F fun a F => ?_
   refine l_then ?_
   refine wp_ret ?_
   have hp9 := drop_ok1 (lif := lif) (sd0 := sd0) (sd1 := sd1) ht1 hgs ht4
   exact fin F [.tmp 4] [.int .i64 (sd1.appE (recP 3 nm []).length)] rfl ⟨by kernel_rfl, trivial⟩ (.int .i64 (sd1.appE (recP 3 nm []).length)) rfl ⟨by rw [hp9]; exact congrArg (fun x => Ending.returned (Value.int .i64 x)) ht4, by rw [hp9]; exact (rl_shut rfl rfl (S.pick [0, 1, 2, 3, 6] (by decide)))⟩
  refine l_do F rfl rfl (op_pk F (v0 := .bool ((sd1.appE (recP 3 nm []).length : Int) == (0 : Int))) (v := .bool false) (eqlF ht4) fun a F => ?_)
  refine l_then ?_
  refine c_f F rfl ?_
  refine wp_skip ?_
  refine then_n ?_
  refine s_reg ?_
  refine l_pk 2 (fun L => (52, .int .i64 (sd1.appE (recP 3 nm []).length)) :: (51, pt b 0) :: L) F fun a F => ?_
  obtain ⟨G9, g9, hin9, hlt9, k9⟩ := S.frameB [3] (by decide) rfl
  refine l_do F rfl rfl (op_fn F (by kernel_rfl) (rfail_any _ G9 b (pt m0 0) (pt m1 0) (.int .i64 1) (.int .u32 (lif : Nat)) (.slice Al LL.length cl) ded (sd1.appE (recP 3 nm []).length) g9) ?_)
  rintro e z9 ⟨rfl, g⟩
  have S : Sat w z9 [rest w G, rsA m0 sd0, rsA m1 (sd1.app (recP 3 nm [])), box b 91 [pt m0 0, pt m1 0, .int .i64 1, .int .u32 (lif : Nat), .slice Al LL.length cl, .int .i64 (failD ded (sd1.appE (recP 3 nm []).length))], row 100 2 (.slice Al LL.length cl) LL.length (LL.flatMap nvC), row 5 1 (.slice Ar3 ((recP 3 nm []).length) cr3) ((recP 3 nm []).length) ((recP 3 nm []).flatMap yC)] := k9 z9 [box b 91 [pt m0 0, pt m1 0, .int .i64 1, .int .u32 (lif : Nat), .slice Al LL.length cl, .int .i64 (failD ded (sd1.appE (recP 3 nm []).length))]] rfl g
  clear g g9 k9 hin9 hlt9
  refine ⟨_, rfl, ?_⟩
  intro a F
  refine l_pk 1 (fun L => (4, .int .i64 (sd1.appE (recP 3 nm []).length)) :: L) F fun a F => ?_
  refine l_then ?_
  refine wp_ret ?_
  exact fin F [.tmp 4] [.int .i64 (sd1.appE (recP 3 nm []).length)] rfl ⟨by kernel_rfl, trivial⟩ (.int .i64 (sd1.appE (recP 3 nm []).length)) rfl ⟨by rw [drop_er1 ht1 hgs ht4], by rw [drop_er1 ht1 hgs ht4]; exact (rl_shut rfl rfl (S.pick [0, 1, 2, 3, 4] (by decide)))⟩
 refine l_do F rfl rfl (op_pk F (v0 := .bool ((ded : Int) != (0 : Int))) (v := .bool true) (neqT ht1) fun a F => ?_)
 refine l_then ?_
 refine c_t F rfl ?_
 refine s_reg ?_
 refine l_pk 3 (fun L => (15, pt b 5) :: (14, pt b 0) :: (13, pt b 0) :: L) F fun a F => ?_
 refine l_do F rfl rfl (op_ldk (some ⟨b, 0, none⟩) 5 (.int .i64 ded) F rfl (cBox S 3 rfl (j := 5) rfl) (fun a F => ?_))
 refine l_pk 1 (fun L => (4, .int .i64 ded) :: L) F fun a F => ?_
 refine l_then ?_
 refine wp_ret ?_
 refine then_r (?_)
 exact fin F [.tmp 4] [.int .i64 ded] rfl ⟨by kernel_rfl, trivial⟩ (.int .i64 ded) rfl ⟨by rw [drop_dead ht1], by rw [drop_dead ht1]; exact (rl_shut rfl rfl (S.pick [0, 1, 2, 3, 4] (by decide)))⟩
set_option maxRecDepth 100000 in
set_option maxHeartbeats 4000000 in
theorem rsync1_at (w : World) (G : Nat → Prop) (b m0 m1 : Nat) (lif : Nat) (LL : List NV) (ded : Int) (sd0 sd1 : Sd) (N : Int) (in0 : sd0.In N) (in1 : sd1.In N) (hN : N ≤ 1000000) (hri : Rises LL) (hct : LL.length ≤ 900000) (hS : Sat w w [rlA b m0 m1 ⟨1, lif, LL, ded⟩, rsA m0 sd0, rsA m1 sd1, rest w G]) : Calls Try.prog 26 #[pt b 0] w fun e w' => e = .returned (.int .i64 (syncT ⟨⟨1, lif, LL, ded⟩, sd0, sd1⟩).1) ∧ Sat w w' [rlA b m0 m1 (syncT ⟨⟨1, lif, LL, ded⟩, sd0, sd1⟩).2.lb, rsA m0 (syncT ⟨⟨1, lif, LL, ded⟩, sd0, sd1⟩).2.s0, rsA m1 (syncT ⟨⟨1, lif, LL, ded⟩, sd0, sd1⟩).2.s1, rest w G] := by
 refine enter 24 Try.func26 rfl rfl rfl fun a F => ?_
 obtain ⟨Al, cl, S⟩ := rl_open hS
 have S : Sat w w [rest w G, rsA m0 sd0, rsA m1 sd1, box b 91 [pt m0 0, pt m1 0, .int .i64 1, .int .u32 (lif : Nat), .slice Al LL.length cl, .int .i64 ded], row 100 2 (.slice Al LL.length cl) LL.length (LL.flatMap nvC)] := S
 refine s_reg ?_
 refine l_pk 1 (fun L => (2, .int .i64 0) :: L) F fun a F => ?_
 refine l_then ?_
 refine wp_seq ?_
 refine s_reg ?_
 refine l_pk 3 (fun L => (5, pt b 5) :: (4, pt b 0) :: (3, pt b 0) :: L) F fun a F => ?_
 refine l_do F rfl rfl (op_ldk (some ⟨b, 0, none⟩) 5 (.int .i64 ded) F rfl (cBox S 3 rfl (j := 5) rfl) (fun a F => ?_))
 by_cases ht1 : (ded : Int) = (0 : Int)
 ·
  refine l_do F rfl rfl (op_pk F (v0 := .bool ((ded : Int) != (0 : Int))) (v := .bool false) (neqF ht1) fun a F => ?_)
  refine l_then ?_
  refine c_f F rfl ?_
  refine wp_skip ?_
  refine then_n ?_
  refine wp_seq ?_
  refine region_gx (fun D => fun (_ : Unit) => [rest w G, rsA m0 sd0, bif D 10 then rsA m1 sd1.syn else rsA m1 sd1, bif D 11 then box b 91 [pt m0 0, pt m1 0, .int .i64 1, .int .u32 (lif : Nat), .slice Al LL.length cl, .int .i64 (failD ded sd1.stepE)] else box b 91 [pt m0 0, pt m1 0, .int .i64 1, .int .u32 (lif : Nat), .slice Al LL.length cl, .int .i64 ded], row 100 2 (.slice Al LL.length cl) LL.length (LL.flatMap nvC)]) (fun (_ : Unit) => [pt b 0, pt b 0, pt b 0, pt b 0, pt b 2, .int .i64 1, pt b 0, pt b 0, pt b 1, pt m1 0, .int .i64 sd1.stepE, .int .i64 sd1.stepE, .int .i64 sd1.stepE]) [(5, [], [9, 10, 11]), (9, [5], [10, 11]), (10, [5, 9], [11]), (11, [5, 9, 10], [])] () rfl (by kernel_rfl) (by kernel_rfl) F S.drew ?_ ?_ ?_ ?_ ?_
  · rintro ⟨⟩; rfl
  ·
   rintro ⟨⟩
   refine Eq.trans (b := [some (pt b 0), some (pt b 0), some (pt b 0), some (pt b 0), some (pt b 2), none, some (pt b 0), some (pt b 0), some (pt b 1), none, none, none, some (.int .i64 sd1.stepE)]) ?_ ?_ <;> kernel_rfl
  ·
   intro D D' x h
   cases x
   simp only [h 10 (by decide), h 11 (by decide)]
  ·
   refine ⟨?_, ?_⟩
   ·
    refine ⟨_, rfl, rfl, by kernel_rfl, ?_⟩
    rintro D ⟨⟩ a z S F
    refine ⟨by kernel_rfl, ?_⟩
    exact op_ldk (some ⟨b, 0, none⟩) 2 (.int .i64 1) F rfl (cBox S 3 rfl (j := 2) rfl) (⟨(), rfl, (SameB.refl _ _ rfl), S⟩)
   refine ⟨?_, ?_⟩
   ·
    refine ⟨_, rfl, rfl, by kernel_rfl, ?_⟩
    rintro D ⟨⟩ a z S F
    refine ⟨by kernel_rfl, ?_⟩
    exact op_ldk (some ⟨b, 0, none⟩) 1 (pt m1 0) F rfl (cBox S 3 rfl (j := 1) rfl) (⟨(), rfl, (SameB.refl _ _ rfl), S⟩)
   refine ⟨?_, ?_⟩
   ·
    refine ⟨_, rfl, rfl, by kernel_rfl, ?_⟩
    rintro D ⟨⟩ a z S F
    refine ⟨by kernel_rfl, ?_⟩
    refine op_fn F (by kernel_rfl) (rsync_at S (i := 2) rfl (in1) (by omega)) ?_
    rintro e z ⟨rfl, S⟩
    exact ⟨_, rfl, (), rfl, (SameB.refl _ _ rfl), S⟩
   refine ⟨?_, ?_⟩
   ·
    refine ⟨_, rfl, rfl, by kernel_rfl, ?_⟩
    rintro D ⟨⟩ a z S F
    refine ⟨by kernel_rfl, ?_⟩
    have S : Sat w z [rest w G, rsA m0 sd0, rsA m1 sd1.syn, box b 91 [pt m0 0, pt m1 0, .int .i64 1, .int .u32 (lif : Nat), .slice Al LL.length cl, .int .i64 ded], row 100 2 (.slice Al LL.length cl) LL.length (LL.flatMap nvC)] := S
    obtain ⟨G9, g9, hin9, hlt9, k9⟩ := S.frameB [3] (by decide) rfl
    refine op_fn F (by kernel_rfl) (rfail_any _ G9 b (pt m0 0) (pt m1 0) (.int .i64 1) (.int .u32 (lif : Nat)) (.slice Al LL.length cl) ded sd1.stepE g9) ?_
    rintro e z9 ⟨rfl, g⟩
    have S : Sat w z9 [rest w G, rsA m0 sd0, rsA m1 sd1.syn, box b 91 [pt m0 0, pt m1 0, .int .i64 1, .int .u32 (lif : Nat), .slice Al LL.length cl, .int .i64 (failD ded sd1.stepE)], row 100 2 (.slice Al LL.length cl) LL.length (LL.flatMap nvC)] := k9 z9 [box b 91 [pt m0 0, pt m1 0, .int .i64 1, .int .u32 (lif : Nat), .slice Al LL.length cl, .int .i64 (failD ded sd1.stepE)]] rfl g
    clear g g9 k9 hin9 hlt9
    exact ⟨_, rfl, (), rfl, (SameB.refl _ _ rfl), S⟩
   trivial
  rintro ⟨⟩ a z F S
  have F := F.subk (l := [(2, .int .i64 sd1.stepE)])
  have S : Sat w z [rest w G, rsA m0 sd0, rsA m1 sd1.syn, box b 91 [pt m0 0, pt m1 0, .int .i64 1, .int .u32 (lif : Nat), .slice Al LL.length cl, .int .i64 (failD ded sd1.stepE)], row 100 2 (.slice Al LL.length cl) LL.length (LL.flatMap nvC)] := S
  refine then_n ?_
  refine wp_ret ?_
  exact fin F [.tmp 2] [.int .i64 sd1.stepE] rfl ⟨by kernel_rfl, trivial⟩ (.int .i64 sd1.stepE) rfl ⟨by rw [sync_go1 ht1], by rw [sync_go1 ht1]; exact (rl_shut rfl rfl (S.pick [0, 1, 2, 3, 4] (by decide)))⟩
 refine l_do F rfl rfl (op_pk F (v0 := .bool ((ded : Int) != (0 : Int))) (v := .bool true) (neqT ht1) fun a F => ?_)
 refine l_then ?_
 refine c_t F rfl ?_
 refine s_reg ?_
 refine l_pk 3 (fun L => (10, pt b 5) :: (9, pt b 0) :: (8, pt b 0) :: L) F fun a F => ?_
 refine l_do F rfl rfl (op_ldk (some ⟨b, 0, none⟩) 5 (.int .i64 ded) F rfl (cBox S 3 rfl (j := 5) rfl) (fun a F => ?_))
 refine l_pk 1 (fun L => (2, .int .i64 ded) :: L) F fun a F => ?_
 refine l_then ?_
 refine wp_ret ?_
 refine then_r (?_)
 exact fin F [.tmp 2] [.int .i64 ded] rfl ⟨by kernel_rfl, trivial⟩ (.int .i64 ded) rfl ⟨by rw [sync_dead ht1], by rw [sync_dead ht1]; exact (rl_shut rfl rfl (S.pick [0, 1, 2, 3, 4] (by decide)))⟩
end Go.Proofs.Ytidcdfilfccigaa
