/- Walks over the program's logbook: Put, Drop, Sync, Get, Names. -/
import Derived.Test.YtidcdfilfccigaaLgA17
namespace Go.Proofs.Ytidcdfilfccigaa
set_option linter.unusedVariables false
set_option linter.unusedSimpArgs false
set_option linter.unnecessarySimpa false
open Go Go.RowKit

theorem getN_cases (L : List NV) (n : Bs) : getN L n = none ∨ ∃ v, getN L n = some v := by cases getN L n with | none => exact .inl rfl | some v => exact .inr ⟨v, rfl⟩
theorem recs_nil {w : World} : Recs 1 yC w none 0 [] := ⟨fun _ => ⟨rfl, rfl⟩, nofun, by simp⟩
theorem clone_mk (w : World) (A : Option Addr) (c : Nat) (X : Bs) (hR : Recs 1 yC w A c X) : Calls Try.prog 35 #[.slice A X.length c] w fun e w' => ∃ A' c', e = .returned (.slice A' X.length c') ∧ Sat w w' [rest w (· < w.heap.size), row 5 1 (.slice A' X.length c') X.length (X.flatMap yC)] :=
  clone_at (Sat.pushRest w) A c X hR
set_option maxRecDepth 100000 in
set_option maxHeartbeats 4000000 in
theorem lput0_any (w : World) (G : Nat → Prop) (b g0 g1 : Nat) (lif : Nat) (LL : List NV) (ded : Int) (sd0 sd1 : Sd) (N : Int) (in0 : sd0.In N) (in1 : sd1.In N) (hN : N ≤ 1000000) (hct : LL.length ≤ 900000) (nm : Bs) (Av : Option Addr) (cv : Nat) (V : Bs) (hV : Recs 1 yC w Av cv V) (hin : InG G Av (V.flatMap yC)) (hS : Sat w w [lgA b g0 g1 ⟨0, lif, LL, ded⟩, sdA g0 sd0, sdA g1 sd1, rest w G]) : Calls Try.prog 10 #[pt b 0, strV nm, .slice Av V.length cv] w fun e w' => e = .returned (.int .i64 (putT ⟨⟨0, lif, LL, ded⟩, sd0, sd1⟩ nm V).1) ∧ Sat w w' [lgA b g0 g1 (putT ⟨⟨0, lif, LL, ded⟩, sd0, sd1⟩ nm V).2.lb, sdA g0 (putT ⟨⟨0, lif, LL, ded⟩, sd0, sd1⟩ nm V).2.s0, sdA g1 (putT ⟨⟨0, lif, LL, ded⟩, sd0, sd1⟩ nm V).2.s1, rest w G] := by
 refine enter 37 Try.func10 rfl rfl rfl fun a F => ?_
 obtain ⟨r, ck, es, rs, hok, S⟩ := lg_open hS
 have S : Sat w w [rest w G, sdA g0 sd0, sdA g1 sd1, box b 70 [pt g0 0, pt g1 0, .int .i64 0, .int .u32 (lif : Nat), .map (some r), .int .i64 ded], smapA r (es.map LEnt.e) ck, bag rs] := S
 have hrp := recP_len 2 nm V
 dsimp only at hok
 refine s_reg ?_
 refine l_pk 1 (fun L => (6, .int .i64 0) :: L) F fun a F => ?_
 refine l_then ?_
 refine wp_seq ?_
 refine s_reg ?_
 refine l_pk 1 (fun L => (9, pt b 0) :: L) F fun a F => ?_
 obtain ⟨G9, g9, hin9, hlt9, k9⟩ := S.frameB [3] (by decide) rfl
 refine l_do F rfl rfl (op_fn F (by kernel_rfl) (lup_any _ G9 b (pt g0 0) (pt g1 0) (.int .i64 0) (.int .u32 (lif : Nat)) (.map (some r)) ded g9) ?_)
 rintro e z9 ⟨rfl, g⟩
 have S : Sat w z9 [rest w G, sdA g0 sd0, sdA g1 sd1, box b 70 [pt g0 0, pt g1 0, .int .i64 0, .int .u32 (lif : Nat), .map (some r), .int .i64 ded], smapA r (es.map LEnt.e) ck, bag rs] := k9 z9 [box b 70 [pt g0 0, pt g1 0, .int .i64 0, .int .u32 (lif : Nat), .map (some r), .int .i64 ded]] rfl g
 clear g g9 k9 hin9 hlt9
 refine ⟨_, rfl, ?_⟩
 intro a F
 refine l_pk 1 (fun L => (7, .int .i64 ded) :: L) F fun a F => ?_
 refine l_then ?_
 refine s_reg ?_
 refine l_pk 1 (fun L => (11, .int .i64 ded) :: L) F fun a F => ?_
 by_cases ht1 : (ded : Int) = (0 : Int)
 ·
  refine l_do F rfl rfl (op_pk F (v0 := .bool ((ded : Int) != (0 : Int))) (v := .bool false) (neqF ht1) fun a F => ?_)
  refine l_then ?_
  refine c_f F rfl ?_
  refine wp_skip ?_
  refine then_n ?_
  refine wp_seq ?_
  refine s_reg ?_
  refine l_pk 1 (fun L => (14, strV nm) :: L) F fun a F => ?_
  refine l_do F rfl rfl (op_strlen _ _ nm F rfl (by kernel_rfl) (by kernel_rfl) (fun a F => ?_))
  by_cases ht2 : (255 : Int) < ((nm.length : Nat) : Int)
  ·
   refine l_do F rfl rfl (op_pk F (v0 := .bool (decide (((nm.length : Nat) : Int) > (255 : Int)))) (v := .bool true) (gtrT ht2) fun a F => ?_)
   refine l_pk 5 (fun L => (21, .bool true) :: (20, undef) :: (19, undef) :: (18, undef) :: (17, .bool true) :: L) F fun a F => ?_
   refine l_then ?_
   refine c_t F rfl ?_
   refine s_reg ?_
   refine l_pk 1 (fun L => (6, .int .i64 8) :: L) F fun a F => ?_
   refine l_then ?_
   refine wp_ret ?_
   refine then_r (?_)
   exact fin F [.tmp 6] [.int .i64 8] rfl ⟨by kernel_rfl, trivial⟩ (.int .i64 8) rfl ⟨by rw [put_big ht1 (by omega)], by rw [put_big ht1 (by omega)]; exact (lg_shut hok (S.pick [0, 1, 2, 3, 4, 5] (by decide)))⟩
  refine l_do F rfl rfl (op_pk F (v0 := .bool (decide (((nm.length : Nat) : Int) > (255 : Int)))) (v := .bool false) (gtrF ht2) fun a F => ?_)
  refine l_pk 3 (fun L => (19, .int .i64 (V.length : Nat)) :: (18, .slice Av V.length cv) :: (17, .bool false) :: L) F fun a F => ?_
  by_cases ht3 : (4096 : Int) < ((V.length : Nat) : Int)
  ·
   refine l_do F rfl rfl (op_pk F (v0 := .bool (decide (((V.length : Nat) : Int) > (4096 : Int)))) (v := .bool true) (gtrT ht3) fun a F => ?_)
   refine l_pk 1 (fun L => (21, .bool true) :: L) F fun a F => ?_
   refine l_then ?_
   refine c_t F rfl ?_
   refine s_reg ?_
   refine l_pk 1 (fun L => (6, .int .i64 8) :: L) F fun a F => ?_
   refine l_then ?_
   refine wp_ret ?_
   refine then_r (?_)
   exact fin F [.tmp 6] [.int .i64 8] rfl ⟨by kernel_rfl, trivial⟩ (.int .i64 8) rfl ⟨by rw [put_big ht1 (by omega)], by rw [put_big ht1 (by omega)]; exact (lg_shut hok (S.pick [0, 1, 2, 3, 4, 5] (by decide)))⟩
  refine l_do F rfl rfl (op_pk F (v0 := .bool (decide (((V.length : Nat) : Int) > (4096 : Int)))) (v := .bool false) (gtrF ht3) fun a F => ?_)
  refine l_pk 1 (fun L => (21, .bool false) :: L) F fun a F => ?_
  refine l_then ?_
  refine c_f F rfl ?_
  refine wp_skip ?_
  refine then_n ?_
  refine wp_seq ?_
  refine s_reg ?_
  refine l_pk 3 (fun L => (24, .slice Av V.length cv) :: (23, strV nm) :: (22, pt b 0) :: L) F fun a F => ?_
  refine l_do F rfl rfl (op_fn F (by kernel_rfl) (record_any _ 2 nm (by first | omega | (simp only [List.length_nil]; omega)) Av cv V (hV.mono (src_rest S (i := 0) rfl hV.src hin)) (by first | omega | (simp [be4] <;> omega))) ?_)
  rintro e z ⟨Ar, cr, rfl, g⟩
  have S := S.pushThings g
  refine ⟨_, rfl, ?_⟩
  intro a F
  obtain ⟨G9, g9, hin9, hlt9, k9⟩ := S.frameB [3, 1] (by decide) rfl
  refine l_do F rfl rfl (op_fn F (by kernel_rfl) (lwrite0 _ G9 b g0 g1 (.int .u32 (lif : Nat)) (.map (some r)) ded sd0 N in0 hN Ar cr (recP 2 nm V) (Recs.ofRow (S.rowOf (i := 6) rfl) (by omega)) (InG.row S hin9 6 (by decide) rfl) g9) ?_)
  rintro e z9 ⟨rfl, g⟩
  have S : Sat w z9 [rest w G, sdA g0 (sd0.app (recP 2 nm V)), sdA g1 sd1, box b 70 [pt g0 0, pt g1 0, .int .i64 0, .int .u32 (lif : Nat), .map (some r), .int .i64 (failD ded (sd0.appE (recP 2 nm V).length))], smapA r (es.map LEnt.e) ck, bag rs, row 5 1 (.slice Ar ((recP 2 nm V).length) cr) ((recP 2 nm V).length) ((recP 2 nm V).flatMap yC)] := k9 z9 [box b 70 [pt g0 0, pt g1 0, .int .i64 0, .int .u32 (lif : Nat), .map (some r), .int .i64 (failD ded (sd0.appE (recP 2 nm V).length))], sdA g0 (sd0.app (recP 2 nm V))] rfl g
  clear g g9 k9 hin9 hlt9
  refine ⟨_, rfl, ?_⟩
  intro a F
  refine l_pk 1 (fun L => (8, .int .i64 (sd0.appE (recP 2 nm V).length)) :: L) F fun a F => ?_
  refine l_then ?_
  refine s_reg ?_
  refine l_pk 1 (fun L => (27, .int .i64 (sd0.appE (recP 2 nm V).length)) :: L) F fun a F => ?_
  by_cases ht4 : (sd0.appE (recP 2 nm V).length : Int) = (0 : Int)
  ·
   refine l_do F rfl rfl (op_pk F (v0 := .bool ((sd0.appE (recP 2 nm V).length : Int) != (0 : Int))) (v := .bool false) (neqF ht4) fun a F => ?_)
   refine l_then ?_
   refine c_f F rfl ?_
   refine wp_skip ?_
   refine then_n ?_
   refine wp_seq ?_
   have S := S.pushEmp
   refine region_gx (fun D => fun ((Ac, cc) : Option Addr × Nat) => [rest w G, sdA g0 (sd0.app (recP 2 nm V)), sdA g1 sd1, box b 70 [pt g0 0, pt g1 0, .int .i64 0, .int .u32 (lif : Nat), .map (some r), .int .i64 (failD ded (sd0.appE (recP 2 nm V).length))], bif D 7 then smapA r (putS (es.map LEnt.e) nm (.slice Ac V.length cc) ck) (putSC (es.map LEnt.e) nm ck) else smapA r (es.map LEnt.e) ck, bag rs, row 5 1 (.slice Ar ((recP 2 nm V).length) cr) ((recP 2 nm V).length) ((recP 2 nm V).flatMap yC), bif D 6 then row 5 1 (.slice Ac V.length cc) V.length (V.flatMap yC) else emp]) (fun ((Ac, cc) : Option Addr × Nat) => [pt b 0, pt b 0, pt b 4, .map (some r), strV nm, .slice Av V.length cv, .slice Ac V.length cc, undef]) [(3, [], [7]), (6, [], [7]), (7, [3, 6], [])] (none, 0) rfl (by kernel_rfl) (by kernel_rfl) F S.drew ?_ ?_ ?_ ?_ ?_
   · rintro ⟨Ac, cc⟩; rfl
   · rintro ⟨Ac, cc⟩; kernel_rfl
   ·
    intro D D' x h
    obtain ⟨Ac, cc⟩ := x
    simp only [h 6 (by decide), h 7 (by decide)]
   ·
    refine ⟨?_, ?_⟩
    ·
     refine ⟨_, rfl, rfl, by kernel_rfl, ?_⟩
     rintro D ⟨Ac, cc⟩ a z S F
     refine ⟨by kernel_rfl, ?_⟩
     exact op_ldk (some ⟨b, 0, none⟩) 4 (.map (some r)) F rfl (cBox S 3 rfl (j := 4) rfl) (⟨(Ac, cc), rfl, (SameB.refl _ _ rfl), S⟩)
    refine ⟨?_, ?_⟩
    ·
     refine ⟨_, rfl, rfl, by kernel_rfl, ?_⟩
     rintro D ⟨Ac, cc⟩ a z S F
     refine ⟨by kernel_rfl, ?_⟩
     refine op_fn F (by kernel_rfl) (clone_mk _ Av cv V (hV.mono (src_rest S (i := 0) rfl hV.src hin))) ?_
     rintro e z ⟨y5, y6, rfl, g⟩
     have S := S.fillThing 7 rfl g
     exact ⟨_, rfl, (y5, y6), rfl, ⟨rfl, rfl, rfl, rfl, rfl, rfl, trivial, trivial, trivial⟩, S⟩
    refine ⟨?_, ?_⟩
    ·
     refine ⟨_, rfl, rfl, by kernel_rfl, ?_⟩
     rintro D ⟨Ac, cc⟩ a z S F
     refine ⟨by kernel_rfl, ?_⟩
     exact op_smapUpdate S 4 _ 9 36 _ _ _ nm (.slice Ac V.length cc) F rfl rfl (by kernel_rfl) (by kernel_rfl) (by kernel_rfl) (by kernel_rfl) (by kernel_rfl) fun z S => ⟨(Ac, cc), rfl, (SameB.refl _ _ rfl), S⟩
    trivial
   rintro ⟨Ac, cc⟩ a z F S
   have F := F.sub (l := []) trivial
   have S : Sat w z [rest w G, sdA g0 (sd0.app (recP 2 nm V)), sdA g1 sd1, box b 70 [pt g0 0, pt g1 0, .int .i64 0, .int .u32 (lif : Nat), .map (some r), .int .i64 (failD ded (sd0.appE (recP 2 nm V).length))], smapA r (putS (es.map LEnt.e) nm (.slice Ac V.length cc) ck) (putSC (es.map LEnt.e) nm ck), bag rs, row 5 1 (.slice Ar ((recP 2 nm V).length) cr) ((recP 2 nm V).length) ((recP 2 nm V).flatMap yC), row 5 1 (.slice Ac V.length cc) V.length (V.flatMap yC)] := S
   refine then_n ?_
   refine s_reg ?_
   refine l_pk 1 (fun L => (6, .int .i64 0) :: L) F fun a F => ?_
   refine l_then ?_
   refine wp_ret ?_
   obtain ⟨es', hes, hok'⟩ := has_put hok nm V Ac cc (by omega) (by omega)
   rw [hes] at S
   have S := S.bagAdd 5 7 rfl rfl rfl
   exact fin F [.tmp 6] [.int .i64 0] rfl ⟨by kernel_rfl, trivial⟩ (.int .i64 0) rfl ⟨by rw [put_ok0 ht1 (by omega) (by omega) ht4], by rw [put_ok0 ht1 (by omega) (by omega) ht4]; exact (lg_shut hok' (S.pick [0, 1, 2, 3, 4, 5] (by decide)))⟩
  refine l_do F rfl rfl (op_pk F (v0 := .bool ((sd0.appE (recP 2 nm V).length : Int) != (0 : Int))) (v := .bool true) (neqT ht4) fun a F => ?_)
  refine l_then ?_
  refine c_t F rfl ?_
  refine s_reg ?_
  refine l_pk 2 (fun L => (6, .int .i64 (sd0.appE (recP 2 nm V).length)) :: (29, .int .i64 (sd0.appE (recP 2 nm V).length)) :: L) F fun a F => ?_
  refine l_then ?_
  refine wp_ret ?_
  refine then_r (?_)
  exact fin F [.tmp 6] [.int .i64 (sd0.appE (recP 2 nm V).length)] rfl ⟨by kernel_rfl, trivial⟩ (.int .i64 (sd0.appE (recP 2 nm V).length)) rfl ⟨by rw [put_er0 ht1 (by omega) (by omega) ht4], by rw [put_er0 ht1 (by omega) (by omega) ht4]; exact (lg_shut hok (S.pick [0, 1, 2, 3, 4, 5] (by decide)))⟩
 refine l_do F rfl rfl (op_pk F (v0 := .bool ((ded : Int) != (0 : Int))) (v := .bool true) (neqT ht1) fun a F => ?_)
 refine l_then ?_
 refine c_t F rfl ?_
 refine s_reg ?_
 refine l_pk 2 (fun L => (6, .int .i64 ded) :: (13, .int .i64 ded) :: L) F fun a F => ?_
 refine l_then ?_
 refine wp_ret ?_
 refine then_r (?_)
 exact fin F [.tmp 6] [.int .i64 ded] rfl ⟨by kernel_rfl, trivial⟩ (.int .i64 ded) rfl ⟨by rw [put_dead ht1], by rw [put_dead ht1]; exact (lg_shut hok (S.pick [0, 1, 2, 3, 4, 5] (by decide)))⟩
set_option maxRecDepth 100000 in
set_option maxHeartbeats 4000000 in
theorem ldrop0_any (w : World) (G : Nat → Prop) (b g0 g1 : Nat) (lif : Nat) (LL : List NV) (ded : Int) (sd0 sd1 : Sd) (N : Int) (in0 : sd0.In N) (in1 : sd1.In N) (hN : N ≤ 1000000) (nm : Bs) (hnl : nm.length ≤ 1000000) (hS : Sat w w [lgA b g0 g1 ⟨0, lif, LL, ded⟩, sdA g0 sd0, sdA g1 sd1, rest w G]) : Calls Try.prog 11 #[pt b 0, strV nm] w fun e w' => e = .returned (.int .i64 (dropT ⟨⟨0, lif, LL, ded⟩, sd0, sd1⟩ nm).1) ∧ Sat w w' [lgA b g0 g1 (dropT ⟨⟨0, lif, LL, ded⟩, sd0, sd1⟩ nm).2.lb, sdA g0 (dropT ⟨⟨0, lif, LL, ded⟩, sd0, sd1⟩ nm).2.s0, sdA g1 (dropT ⟨⟨0, lif, LL, ded⟩, sd0, sd1⟩ nm).2.s1, rest w G] := by
 refine enter 37 Try.func11 rfl rfl rfl fun a F => ?_
 obtain ⟨r, ck, es, rs, hok, S⟩ := lg_open hS
 have S : Sat w w [rest w G, sdA g0 sd0, sdA g1 sd1, box b 70 [pt g0 0, pt g1 0, .int .i64 0, .int .u32 (lif : Nat), .map (some r), .int .i64 ded], smapA r (es.map LEnt.e) ck, bag rs] := S
 have hrp := recP_len 3 nm []
 rw [List.length_nil] at hrp
 dsimp only at hok
 refine s_reg ?_
 refine l_pk 1 (fun L => (4, .int .i64 0) :: L) F fun a F => ?_
 refine l_then ?_
 refine wp_seq ?_
 refine s_reg ?_
 refine l_pk 1 (fun L => (9, pt b 0) :: L) F fun a F => ?_
 obtain ⟨G9, g9, hin9, hlt9, k9⟩ := S.frameB [3] (by decide) rfl
 refine l_do F rfl rfl (op_fn F (by kernel_rfl) (lup_any _ G9 b (pt g0 0) (pt g1 0) (.int .i64 0) (.int .u32 (lif : Nat)) (.map (some r)) ded g9) ?_)
 rintro e z9 ⟨rfl, g⟩
 have S : Sat w z9 [rest w G, sdA g0 sd0, sdA g1 sd1, box b 70 [pt g0 0, pt g1 0, .int .i64 0, .int .u32 (lif : Nat), .map (some r), .int .i64 ded], smapA r (es.map LEnt.e) ck, bag rs] := k9 z9 [box b 70 [pt g0 0, pt g1 0, .int .i64 0, .int .u32 (lif : Nat), .map (some r), .int .i64 ded]] rfl g
 clear g g9 k9 hin9 hlt9
 refine ⟨_, rfl, ?_⟩
 intro a F
 refine l_pk 1 (fun L => (5, .int .i64 ded) :: L) F fun a F => ?_
 refine l_then ?_
 refine s_reg ?_
 refine l_pk 1 (fun L => (11, .int .i64 ded) :: L) F fun a F => ?_
 by_cases ht1 : (ded : Int) = (0 : Int)
 ·
  refine l_do F rfl rfl (op_pk F (v0 := .bool ((ded : Int) != (0 : Int))) (v := .bool false) (neqF ht1) fun a F => ?_)
  refine l_then ?_
  refine c_f F rfl ?_
  refine wp_skip ?_
  refine then_n ?_
  refine wp_seq ?_
  refine s_reg ?_
  refine l_pk 3 (fun L => (17, pt b 4) :: (16, pt b 0) :: (15, pt b 0) :: L) F fun a F => ?_
  refine l_do F rfl rfl (op_ldk (some ⟨b, 0, none⟩) 4 (.map (some r)) F rfl (cBox S 3 rfl (j := 4) rfl) (fun a F => ?_))
  refine l_pk 1 (fun L => (19, strV nm) :: L) F fun a F => ?_
  rcases getN_cases LL nm with hgn | ⟨vv, hgs⟩
  ·
   refine l_do F rfl rfl (op_slookup S 4 _ 9 36 _ _ true (.slice none 0 0) nm (.tuple #[.slice none 0 0, .bool false]) F rfl rfl (by kernel_rfl) (by kernel_rfl) (by kernel_rfl) (by kernel_rfl) (by kernel_rfl) (by rw [has_none hok hgn]; rfl) (fun a F => ?_))
   refine l_pk 5 (fun L => (7, .bool false) :: (6, .slice none 0 0) :: (22, .bool false) :: (21, .slice none 0 0) :: (14, .tuple #[.slice none 0 0, .bool false]) :: L) F fun a F => ?_
   refine l_then ?_
   refine s_reg ?_
   refine l_pk 2 (fun L => (24, .bool true) :: (23, .bool false) :: L) F fun a F => ?_
   refine l_then ?_
   refine c_t F rfl ?_
   refine s_reg ?_
   refine l_pk 1 (fun L => (4, .int .i64 6) :: L) F fun a F => ?_
   refine l_then ?_
   refine wp_ret ?_
   refine then_r (?_)
   exact fin F [.tmp 4] [.int .i64 6] rfl ⟨by kernel_rfl, trivial⟩ (.int .i64 6) rfl ⟨by rw [drop_none ht1 hgn], by rw [drop_none ht1 hgn]; exact (lg_shut hok (S.pick [0, 1, 2, 3, 4, 5] (by decide)))⟩
  obtain ⟨Ag, cg, hgt, hgr⟩ := has_some hok hgs
  refine l_do F rfl rfl (op_slookup S 4 _ 9 36 _ _ true (.slice none 0 0) nm (.tuple #[.slice Ag vv.length cg, .bool true]) F rfl rfl (by kernel_rfl) (by kernel_rfl) (by kernel_rfl) (by kernel_rfl) (by kernel_rfl) (by rw [hgt]; rfl) (fun a F => ?_))
  refine l_pk 5 (fun L => (7, .bool true) :: (6, .slice Ag vv.length cg) :: (22, .bool true) :: (21, .slice Ag vv.length cg) :: (14, .tuple #[.slice Ag vv.length cg, .bool true]) :: L) F fun a F => ?_
  refine l_then ?_
  refine s_reg ?_
  refine l_pk 2 (fun L => (24, .bool false) :: (23, .bool true) :: L) F fun a F => ?_
  refine l_then ?_
  refine c_f F rfl ?_
  refine wp_skip ?_
  refine then_n ?_
  refine wp_seq ?_
  refine s_reg ?_
  refine l_pk 2 (fun L => (26, strV nm) :: (25, pt b 0) :: L) F fun a F => ?_
  refine l_do F rfl rfl (op_fn F (by kernel_rfl) (record_any _ 3 nm (by first | omega | (simp only [List.length_nil]; omega)) none 0 [] recs_nil (by first | omega | (simp [be4] <;> omega))) ?_)
  rintro e z ⟨Ar, cr, rfl, g⟩
  have S := S.pushThings g
  refine ⟨_, rfl, ?_⟩
  intro a F
  obtain ⟨G9, g9, hin9, hlt9, k9⟩ := S.frameB [3, 1] (by decide) rfl
  refine l_do F rfl rfl (op_fn F (by kernel_rfl) (lwrite0 _ G9 b g0 g1 (.int .u32 (lif : Nat)) (.map (some r)) ded sd0 N in0 hN Ar cr (recP 3 nm []) (Recs.ofRow (S.rowOf (i := 6) rfl) (by omega)) (InG.row S hin9 6 (by decide) rfl) g9) ?_)
  rintro e z9 ⟨rfl, g⟩
  have S : Sat w z9 [rest w G, sdA g0 (sd0.app (recP 3 nm [])), sdA g1 sd1, box b 70 [pt g0 0, pt g1 0, .int .i64 0, .int .u32 (lif : Nat), .map (some r), .int .i64 (failD ded (sd0.appE (recP 3 nm []).length))], smapA r (es.map LEnt.e) ck, bag rs, row 5 1 (.slice Ar ((recP 3 nm []).length) cr) ((recP 3 nm []).length) ((recP 3 nm []).flatMap yC)] := k9 z9 [box b 70 [pt g0 0, pt g1 0, .int .i64 0, .int .u32 (lif : Nat), .map (some r), .int .i64 (failD ded (sd0.appE (recP 3 nm []).length))], sdA g0 (sd0.app (recP 3 nm []))] rfl g
  clear g g9 k9 hin9 hlt9
  refine ⟨_, rfl, ?_⟩
  intro a F
  refine l_pk 1 (fun L => (8, .int .i64 (sd0.appE (recP 3 nm []).length)) :: L) F fun a F => ?_
  refine l_then ?_
  refine s_reg ?_
  refine l_pk 1 (fun L => (29, .int .i64 (sd0.appE (recP 3 nm []).length)) :: L) F fun a F => ?_
  by_cases ht2 : (sd0.appE (recP 3 nm []).length : Int) = (0 : Int)
  ·
   refine l_do F rfl rfl (op_pk F (v0 := .bool ((sd0.appE (recP 3 nm []).length : Int) != (0 : Int))) (v := .bool false) (neqF ht2) fun a F => ?_)
   refine l_then ?_
   refine c_f F rfl ?_
   refine wp_skip ?_
   refine then_n ?_
   refine s_reg ?_
   refine l_pk 3 (fun L => (34, pt b 4) :: (33, pt b 0) :: (32, pt b 0) :: L) F fun a F => ?_
   refine l_do F rfl rfl (op_ldk (some ⟨b, 0, none⟩) 4 (.map (some r)) F rfl (cBox S 3 rfl (j := 4) rfl) (fun a F => ?_))
   refine l_pk 1 (fun L => (36, strV nm) :: L) F fun a F => ?_
   refine l_do F rfl rfl (op_sdelete S 4 _ _ 9 36 _ _ nm F rfl rfl (by kernel_rfl) (by kernel_rfl) (by kernel_rfl) (by kernel_rfl) fun z S a F => ?_)
   refine l_then ?_
   refine s_reg ?_
   refine l_pk 1 (fun L => (4, .int .i64 0) :: L) F fun a F => ?_
   refine l_then ?_
   refine wp_ret ?_
   obtain ⟨es', hes, hok'⟩ := has_del hok nm
   rw [hes] at S
   exact fin F [.tmp 4] [.int .i64 0] rfl ⟨by kernel_rfl, trivial⟩ (.int .i64 0) rfl ⟨by rw [drop_ok0 ht1 hgs ht2], by rw [drop_ok0 ht1 hgs ht2]; exact (lg_shut hok' (S.pick [0, 1, 2, 3, 4, 5] (by decide)))⟩
  refine l_do F rfl rfl (op_pk F (v0 := .bool ((sd0.appE (recP 3 nm []).length : Int) != (0 : Int))) (v := .bool true) (neqT ht2) fun a F => ?_)
  refine l_then ?_
  refine c_t F rfl ?_
  refine s_reg ?_
  refine l_pk 2 (fun L => (4, .int .i64 (sd0.appE (recP 3 nm []).length)) :: (31, .int .i64 (sd0.appE (recP 3 nm []).length)) :: L) F fun a F => ?_
  refine l_then ?_
  refine wp_ret ?_
  refine then_r (?_)
  exact fin F [.tmp 4] [.int .i64 (sd0.appE (recP 3 nm []).length)] rfl ⟨by kernel_rfl, trivial⟩ (.int .i64 (sd0.appE (recP 3 nm []).length)) rfl ⟨by rw [drop_er0 ht1 hgs ht2], by rw [drop_er0 ht1 hgs ht2]; exact (lg_shut hok (S.pick [0, 1, 2, 3, 4, 5] (by decide)))⟩
 refine l_do F rfl rfl (op_pk F (v0 := .bool ((ded : Int) != (0 : Int))) (v := .bool true) (neqT ht1) fun a F => ?_)
 refine l_then ?_
 refine c_t F rfl ?_
 refine s_reg ?_
 refine l_pk 2 (fun L => (4, .int .i64 ded) :: (13, .int .i64 ded) :: L) F fun a F => ?_
 refine l_then ?_
 refine wp_ret ?_
 refine then_r (?_)
 exact fin F [.tmp 4] [.int .i64 ded] rfl ⟨by kernel_rfl, trivial⟩ (.int .i64 ded) rfl ⟨by rw [drop_dead ht1], by rw [drop_dead ht1]; exact (lg_shut hok (S.pick [0, 1, 2, 3, 4, 5] (by decide)))⟩
set_option maxRecDepth 100000 in
set_option maxHeartbeats 4000000 in
theorem lsync0_any (w : World) (G : Nat → Prop) (b g0 g1 : Nat) (lif : Nat) (LL : List NV) (ded : Int) (sd0 sd1 : Sd) (N : Int) (in0 : sd0.In N) (in1 : sd1.In N) (hN : N ≤ 1000000) (hS : Sat w w [lgA b g0 g1 ⟨0, lif, LL, ded⟩, sdA g0 sd0, sdA g1 sd1, rest w G]) : Calls Try.prog 12 #[pt b 0] w fun e w' => e = .returned (.int .i64 (syncT ⟨⟨0, lif, LL, ded⟩, sd0, sd1⟩).1) ∧ Sat w w' [lgA b g0 g1 (syncT ⟨⟨0, lif, LL, ded⟩, sd0, sd1⟩).2.lb, sdA g0 (syncT ⟨⟨0, lif, LL, ded⟩, sd0, sd1⟩).2.s0, sdA g1 (syncT ⟨⟨0, lif, LL, ded⟩, sd0, sd1⟩).2.s1, rest w G] := by
 refine enter 21 Try.func12 rfl rfl rfl fun a F => ?_
 obtain ⟨r, ck, es, rs, hok, S⟩ := lg_open hS
 have S : Sat w w [rest w G, sdA g0 sd0, sdA g1 sd1, box b 70 [pt g0 0, pt g1 0, .int .i64 0, .int .u32 (lif : Nat), .map (some r), .int .i64 ded], smapA r (es.map LEnt.e) ck, bag rs] := S
 refine s_reg ?_
 refine l_pk 1 (fun L => (2, .int .i64 0) :: L) F fun a F => ?_
 refine l_then ?_
 refine wp_seq ?_
 refine s_reg ?_
 refine l_pk 1 (fun L => (4, pt b 0) :: L) F fun a F => ?_
 obtain ⟨G9, g9, hin9, hlt9, k9⟩ := S.frameB [3] (by decide) rfl
 refine l_do F rfl rfl (op_fn F (by kernel_rfl) (lup_any _ G9 b (pt g0 0) (pt g1 0) (.int .i64 0) (.int .u32 (lif : Nat)) (.map (some r)) ded g9) ?_)
 rintro e z9 ⟨rfl, g⟩
 have S : Sat w z9 [rest w G, sdA g0 sd0, sdA g1 sd1, box b 70 [pt g0 0, pt g1 0, .int .i64 0, .int .u32 (lif : Nat), .map (some r), .int .i64 ded], smapA r (es.map LEnt.e) ck, bag rs] := k9 z9 [box b 70 [pt g0 0, pt g1 0, .int .i64 0, .int .u32 (lif : Nat), .map (some r), .int .i64 ded]] rfl g
 clear g g9 k9 hin9 hlt9
 refine ⟨_, rfl, ?_⟩
 intro a F
 refine l_pk 1 (fun L => (3, .int .i64 ded) :: L) F fun a F => ?_
 refine l_then ?_
 refine s_reg ?_
 refine l_pk 1 (fun L => (6, .int .i64 ded) :: L) F fun a F => ?_
 by_cases ht1 : (ded : Int) = (0 : Int)
 ·
  refine l_do F rfl rfl (op_pk F (v0 := .bool ((ded : Int) != (0 : Int))) (v := .bool false) (neqF ht1) fun a F => ?_)
  refine l_then ?_
  refine c_f F rfl ?_
  refine wp_skip ?_
  refine then_n ?_
  refine wp_seq ?_
  refine region_gx (fun D => fun (_ : Unit) => [rest w G, bif D 10 then sdA g0 sd0.syn else sdA g0 sd0, sdA g1 sd1, bif D 11 then box b 70 [pt g0 0, pt g1 0, .int .i64 0, .int .u32 (lif : Nat), .map (some r), .int .i64 (failD ded sd0.stepE)] else box b 70 [pt g0 0, pt g1 0, .int .i64 0, .int .u32 (lif : Nat), .map (some r), .int .i64 ded], smapA r (es.map LEnt.e) ck, bag rs]) (fun (_ : Unit) => [pt b 0, pt b 0, pt b 0, pt b 0, pt b 2, .int .i64 0, pt b 0, pt b 0, pt b 0, pt g0 0, .int .i64 sd0.stepE, .int .i64 sd0.stepE, .int .i64 sd0.stepE]) [(5, [], [9, 10, 11]), (9, [5], [10, 11]), (10, [5, 9], [11]), (11, [5, 9, 10], [])] () rfl (by kernel_rfl) (by kernel_rfl) F S.drew ?_ ?_ ?_ ?_ ?_
  · rintro ⟨⟩; rfl
  · rintro ⟨⟩; kernel_rfl
  ·
   intro D D' x h
   cases x
   simp only [h 10 (by decide), h 11 (by decide)]
  ·
   refine ⟨?_, ?_⟩
   ·
    refine ⟨_, rfl, rfl, by kernel_rfl, ?_⟩
    rintro D ⟨⟩ a z S F
    refine ⟨by kernel_rfl, ?_⟩
    exact op_ldk (some ⟨b, 0, none⟩) 2 (.int .i64 0) F rfl (cBox S 3 rfl (j := 2) rfl) (⟨(), rfl, (SameB.refl _ _ rfl), S⟩)
   refine ⟨?_, ?_⟩
   ·
    refine ⟨_, rfl, rfl, by kernel_rfl, ?_⟩
    rintro D ⟨⟩ a z S F
    refine ⟨by kernel_rfl, ?_⟩
    exact op_ldk (some ⟨b, 0, none⟩) 0 (pt g0 0) F rfl (cBox S 3 rfl (j := 0) rfl) (⟨(), rfl, (SameB.refl _ _ rfl), S⟩)
   refine ⟨?_, ?_⟩
   ·
    refine ⟨_, rfl, rfl, by kernel_rfl, ?_⟩
    rintro D ⟨⟩ a z S F
    refine ⟨by kernel_rfl, ?_⟩
    refine op_fn F (by kernel_rfl) (ssync_at S (i := 1) rfl (in0) (by omega)) ?_
    rintro e z ⟨rfl, S⟩
    exact ⟨_, rfl, (), rfl, (SameB.refl _ _ rfl), S⟩
   refine ⟨?_, ?_⟩
   ·
    refine ⟨_, rfl, rfl, by kernel_rfl, ?_⟩
    rintro D ⟨⟩ a z S F
    refine ⟨by kernel_rfl, ?_⟩
    have S : Sat w z [rest w G, sdA g0 sd0.syn, sdA g1 sd1, box b 70 [pt g0 0, pt g1 0, .int .i64 0, .int .u32 (lif : Nat), .map (some r), .int .i64 ded], smapA r (es.map LEnt.e) ck, bag rs] := S
    obtain ⟨G9, g9, hin9, hlt9, k9⟩ := S.frameB [3] (by decide) rfl
    refine op_fn F (by kernel_rfl) (lfail_any _ G9 b (pt g0 0) (pt g1 0) (.int .i64 0) (.int .u32 (lif : Nat)) (.map (some r)) ded g9 sd0.stepE) ?_
    rintro e z9 ⟨rfl, g⟩
    have S : Sat w z9 [rest w G, sdA g0 sd0.syn, sdA g1 sd1, box b 70 [pt g0 0, pt g1 0, .int .i64 0, .int .u32 (lif : Nat), .map (some r), .int .i64 (failD ded sd0.stepE)], smapA r (es.map LEnt.e) ck, bag rs] := k9 z9 [box b 70 [pt g0 0, pt g1 0, .int .i64 0, .int .u32 (lif : Nat), .map (some r), .int .i64 (failD ded sd0.stepE)]] rfl g
    clear g g9 k9 hin9 hlt9
    exact ⟨_, rfl, (), rfl, (SameB.refl _ _ rfl), S⟩
   trivial
  rintro ⟨⟩ a z F S
  have F := F.subk (l := [(2, .int .i64 sd0.stepE)])
  have S : Sat w z [rest w G, sdA g0 sd0.syn, sdA g1 sd1, box b 70 [pt g0 0, pt g1 0, .int .i64 0, .int .u32 (lif : Nat), .map (some r), .int .i64 (failD ded sd0.stepE)], smapA r (es.map LEnt.e) ck, bag rs] := S
  refine then_n ?_
  refine wp_ret ?_
  exact fin F [.tmp 2] [.int .i64 sd0.stepE] rfl ⟨by kernel_rfl, trivial⟩ (.int .i64 sd0.stepE) rfl ⟨by rw [sync_go0 ht1], by rw [sync_go0 ht1]; exact (lg_shut hok (S.pick [0, 1, 2, 3, 4, 5] (by decide)))⟩
 refine l_do F rfl rfl (op_pk F (v0 := .bool ((ded : Int) != (0 : Int))) (v := .bool true) (neqT ht1) fun a F => ?_)
 refine l_then ?_
 refine c_t F rfl ?_
 refine s_reg ?_
 refine l_pk 2 (fun L => (2, .int .i64 ded) :: (8, .int .i64 ded) :: L) F fun a F => ?_
 refine l_then ?_
 refine wp_ret ?_
 refine then_r (?_)
 exact fin F [.tmp 2] [.int .i64 ded] rfl ⟨by kernel_rfl, trivial⟩ (.int .i64 ded) rfl ⟨by rw [sync_dead ht1], by rw [sync_dead ht1]; exact (lg_shut hok (S.pick [0, 1, 2, 3, 4, 5] (by decide)))⟩
set_option maxRecDepth 100000 in
set_option maxHeartbeats 4000000 in
theorem lput1_any (w : World) (G : Nat → Prop) (b g0 g1 : Nat) (lif : Nat) (LL : List NV) (ded : Int) (sd0 sd1 : Sd) (N : Int) (in0 : sd0.In N) (in1 : sd1.In N) (hN : N ≤ 1000000) (hct : LL.length ≤ 900000) (nm : Bs) (Av : Option Addr) (cv : Nat) (V : Bs) (hV : Recs 1 yC w Av cv V) (hin : InG G Av (V.flatMap yC)) (hS : Sat w w [lgA b g0 g1 ⟨1, lif, LL, ded⟩, sdA g0 sd0, sdA g1 sd1, rest w G]) : Calls Try.prog 10 #[pt b 0, strV nm, .slice Av V.length cv] w fun e w' => e = .returned (.int .i64 (putT ⟨⟨1, lif, LL, ded⟩, sd0, sd1⟩ nm V).1) ∧ Sat w w' [lgA b g0 g1 (putT ⟨⟨1, lif, LL, ded⟩, sd0, sd1⟩ nm V).2.lb, sdA g0 (putT ⟨⟨1, lif, LL, ded⟩, sd0, sd1⟩ nm V).2.s0, sdA g1 (putT ⟨⟨1, lif, LL, ded⟩, sd0, sd1⟩ nm V).2.s1, rest w G] := by
 refine enter 37 Try.func10 rfl rfl rfl fun a F => ?_
 obtain ⟨r, ck, es, rs, hok, S⟩ := lg_open hS
 have S : Sat w w [rest w G, sdA g0 sd0, sdA g1 sd1, box b 70 [pt g0 0, pt g1 0, .int .i64 1, .int .u32 (lif : Nat), .map (some r), .int .i64 ded], smapA r (es.map LEnt.e) ck, bag rs] := S
 have hrp := recP_len 2 nm V
 dsimp only at hok
 refine s_reg ?_
 refine l_pk 1 (fun L => (6, .int .i64 0) :: L) F fun a F => ?_
 refine l_then ?_
 refine wp_seq ?_
 refine s_reg ?_
 refine l_pk 1 (fun L => (9, pt b 0) :: L) F fun a F => ?_
 obtain ⟨G9, g9, hin9, hlt9, k9⟩ := S.frameB [3] (by decide) rfl
 refine l_do F rfl rfl (op_fn F (by kernel_rfl) (lup_any _ G9 b (pt g0 0) (pt g1 0) (.int .i64 1) (.int .u32 (lif : Nat)) (.map (some r)) ded g9) ?_)
 rintro e z9 ⟨rfl, g⟩
 have S : Sat w z9 [rest w G, sdA g0 sd0, sdA g1 sd1, box b 70 [pt g0 0, pt g1 0, .int .i64 1, .int .u32 (lif : Nat), .map (some r), .int .i64 ded], smapA r (es.map LEnt.e) ck, bag rs] := k9 z9 [box b 70 [pt g0 0, pt g1 0, .int .i64 1, .int .u32 (lif : Nat), .map (some r), .int .i64 ded]] rfl g
 clear g g9 k9 hin9 hlt9
 refine ⟨_, rfl, ?_⟩
 intro a F
 refine l_pk 1 (fun L => (7, .int .i64 ded) :: L) F fun a F => ?_
 refine l_then ?_
 refine s_reg ?_
 refine l_pk 1 (fun L => (11, .int .i64 ded) :: L) F fun a F => ?_
 by_cases ht1 : (ded : Int) = (0 : Int)
 ·
  refine l_do F rfl rfl (op_pk F (v0 := .bool ((ded : Int) != (0 : Int))) (v := .bool false) (neqF ht1) fun a F => ?_)
  refine l_then ?_
  refine c_f F rfl ?_
  refine wp_skip ?_
  refine then_n ?_
  refine wp_seq ?_
  refine s_reg ?_
  refine l_pk 1 (fun L => (14, strV nm) :: L) F fun a F => ?_
  refine l_do F rfl rfl (op_strlen _ _ nm F rfl (by kernel_rfl) (by kernel_rfl) (fun a F => ?_))
  by_cases ht2 : (255 : Int) < ((nm.length : Nat) : Int)
  ·
   refine l_do F rfl rfl (op_pk F (v0 := .bool (decide (((nm.length : Nat) : Int) > (255 : Int)))) (v := .bool true) (gtrT ht2) fun a F => ?_)
   refine l_pk 5 (fun L => (21, .bool true) :: (20, undef) :: (19, undef) :: (18, undef) :: (17, .bool true) :: L) F fun a F => ?_
   refine l_then ?_
   refine c_t F rfl ?_
   refine s_reg ?_
   refine l_pk 1 (fun L => (6, .int .i64 8) :: L) F fun a F => ?_
   refine l_then ?_
   refine wp_ret ?_
   refine then_r (?_)
   exact fin F [.tmp 6] [.int .i64 8] rfl ⟨by kernel_rfl, trivial⟩ (.int .i64 8) rfl ⟨by rw [put_big ht1 (by omega)], by rw [put_big ht1 (by omega)]; exact (lg_shut hok (S.pick [0, 1, 2, 3, 4, 5] (by decide)))⟩
  refine l_do F rfl rfl (op_pk F (v0 := .bool (decide (((nm.length : Nat) : Int) > (255 : Int)))) (v := .bool false) (gtrF ht2) fun a F => ?_)
  refine l_pk 3 (fun L => (19, .int .i64 (V.length : Nat)) :: (18, .slice Av V.length cv) :: (17, .bool false) :: L) F fun a F => ?_
  by_cases ht3 : (4096 : Int) < ((V.length : Nat) : Int)
  ·
   refine l_do F rfl rfl (op_pk F (v0 := .bool (decide (((V.length : Nat) : Int) > (4096 : Int)))) (v := .bool true) (gtrT ht3) fun a F => ?_)
   refine l_pk 1 (fun L => (21, .bool true) :: L) F fun a F => ?_
   refine l_then ?_
   refine c_t F rfl ?_
   refine s_reg ?_
   refine l_pk 1 (fun L => (6, .int .i64 8) :: L) F fun a F => ?_
   refine l_then ?_
   refine wp_ret ?_
   refine then_r (?_)
   exact fin F [.tmp 6] [.int .i64 8] rfl ⟨by kernel_rfl, trivial⟩ (.int .i64 8) rfl ⟨by rw [put_big ht1 (by omega)], by rw [put_big ht1 (by omega)]; exact (lg_shut hok (S.pick [0, 1, 2, 3, 4, 5] (by decide)))⟩
  refine l_do F rfl rfl (op_pk F (v0 := .bool (decide (((V.length : Nat) : Int) > (4096 : Int)))) (v := .bool false) (gtrF ht3) fun a F => ?_)
  refine l_pk 1 (fun L => (21, .bool false) :: L) F fun a F => ?_
  refine l_then ?_
  refine c_f F rfl ?_
  refine wp_skip ?_
  refine then_n ?_
  refine wp_seq ?_
  refine s_reg ?_
  refine l_pk 3 (fun L => (24, .slice Av V.length cv) :: (23, strV nm) :: (22, pt b 0) :: L) F fun a F => ?_
  refine l_do F rfl rfl (op_fn F (by kernel_rfl) (record_any _ 2 nm (by first | omega | (simp only [List.length_nil]; omega)) Av cv V (hV.mono (src_rest S (i := 0) rfl hV.src hin)) (by first | omega | (simp [be4] <;> omega))) ?_)
  rintro e z ⟨Ar, cr, rfl, g⟩
  have S := S.pushThings g
  refine ⟨_, rfl, ?_⟩
  intro a F
  obtain ⟨G9, g9, hin9, hlt9, k9⟩ := S.frameB [3, 2] (by decide) rfl
  refine l_do F rfl rfl (op_fn F (by kernel_rfl) (lwrite1 _ G9 b g0 g1 (.int .u32 (lif : Nat)) (.map (some r)) ded sd1 N in1 hN Ar cr (recP 2 nm V) (Recs.ofRow (S.rowOf (i := 6) rfl) (by omega)) (InG.row S hin9 6 (by decide) rfl) g9) ?_)
  rintro e z9 ⟨rfl, g⟩
  have S : Sat w z9 [rest w G, sdA g0 sd0, sdA g1 (sd1.app (recP 2 nm V)), box b 70 [pt g0 0, pt g1 0, .int .i64 1, .int .u32 (lif : Nat), .map (some r), .int .i64 (failD ded (sd1.appE (recP 2 nm V).length))], smapA r (es.map LEnt.e) ck, bag rs, row 5 1 (.slice Ar ((recP 2 nm V).length) cr) ((recP 2 nm V).length) ((recP 2 nm V).flatMap yC)] := k9 z9 [box b 70 [pt g0 0, pt g1 0, .int .i64 1, .int .u32 (lif : Nat), .map (some r), .int .i64 (failD ded (sd1.appE (recP 2 nm V).length))], sdA g1 (sd1.app (recP 2 nm V))] rfl g
  clear g g9 k9 hin9 hlt9
  refine ⟨_, rfl, ?_⟩
  intro a F
  refine l_pk 1 (fun L => (8, .int .i64 (sd1.appE (recP 2 nm V).length)) :: L) F fun a F => ?_
  refine l_then ?_
  refine s_reg ?_
  refine l_pk 1 (fun L => (27, .int .i64 (sd1.appE (recP 2 nm V).length)) :: L) F fun a F => ?_
  by_cases ht4 : (sd1.appE (recP 2 nm V).length : Int) = (0 : Int)
  ·
   refine l_do F rfl rfl (op_pk F (v0 := .bool ((sd1.appE (recP 2 nm V).length : Int) != (0 : Int))) (v := .bool false) (neqF ht4) fun a F => ?_)
   refine l_then ?_
   refine c_f F rfl ?_
   refine wp_skip ?_
   refine then_n ?_
   refine wp_seq ?_
   have S := S.pushEmp
   refine region_gx (fun D => fun ((Ac, cc) : Option Addr × Nat) => [rest w G, sdA g0 sd0, sdA g1 (sd1.app (recP 2 nm V)), box b 70 [pt g0 0, pt g1 0, .int .i64 1, .int .u32 (lif : Nat), .map (some r), .int .i64 (failD ded (sd1.appE (recP 2 nm V).length))], bif D 7 then smapA r (putS (es.map LEnt.e) nm (.slice Ac V.length cc) ck) (putSC (es.map LEnt.e) nm ck) else smapA r (es.map LEnt.e) ck, bag rs, row 5 1 (.slice Ar ((recP 2 nm V).length) cr) ((recP 2 nm V).length) ((recP 2 nm V).flatMap yC), bif D 6 then row 5 1 (.slice Ac V.length cc) V.length (V.flatMap yC) else emp]) (fun ((Ac, cc) : Option Addr × Nat) => [pt b 0, pt b 0, pt b 4, .map (some r), strV nm, .slice Av V.length cv, .slice Ac V.length cc, undef]) [(3, [], [7]), (6, [], [7]), (7, [3, 6], [])] (none, 0) rfl (by kernel_rfl) (by kernel_rfl) F S.drew ?_ ?_ ?_ ?_ ?_
   · rintro ⟨Ac, cc⟩; rfl
   · rintro ⟨Ac, cc⟩; kernel_rfl
   ·
    intro D D' x h
    obtain ⟨Ac, cc⟩ := x
    simp only [h 6 (by decide), h 7 (by decide)]
   ·
    refine ⟨?_, ?_⟩
    ·
     refine ⟨_, rfl, rfl, by kernel_rfl, ?_⟩
     rintro D ⟨Ac, cc⟩ a z S F
     refine ⟨by kernel_rfl, ?_⟩
     exact op_ldk (some ⟨b, 0, none⟩) 4 (.map (some r)) F rfl (cBox S 3 rfl (j := 4) rfl) (⟨(Ac, cc), rfl, (SameB.refl _ _ rfl), S⟩)
    refine ⟨?_, ?_⟩
    ·
     refine ⟨_, rfl, rfl, by kernel_rfl, ?_⟩
     rintro D ⟨Ac, cc⟩ a z S F
     refine ⟨by kernel_rfl, ?_⟩
     refine op_fn F (by kernel_rfl) (clone_mk _ Av cv V (hV.mono (src_rest S (i := 0) rfl hV.src hin))) ?_
     rintro e z ⟨y5, y6, rfl, g⟩
     have S := S.fillThing 7 rfl g
     exact ⟨_, rfl, (y5, y6), rfl, ⟨rfl, rfl, rfl, rfl, rfl, rfl, trivial, trivial, trivial⟩, S⟩
    refine ⟨?_, ?_⟩
    ·
     refine ⟨_, rfl, rfl, by kernel_rfl, ?_⟩
     rintro D ⟨Ac, cc⟩ a z S F
     refine ⟨by kernel_rfl, ?_⟩
     exact op_smapUpdate S 4 _ 9 36 _ _ _ nm (.slice Ac V.length cc) F rfl rfl (by kernel_rfl) (by kernel_rfl) (by kernel_rfl) (by kernel_rfl) (by kernel_rfl) fun z S => ⟨(Ac, cc), rfl, (SameB.refl _ _ rfl), S⟩
    trivial
   rintro ⟨Ac, cc⟩ a z F S
   have F := F.sub (l := []) trivial
   have S : Sat w z [rest w G, sdA g0 sd0, sdA g1 (sd1.app (recP 2 nm V)), box b 70 [pt g0 0, pt g1 0, .int .i64 1, .int .u32 (lif : Nat), .map (some r), .int .i64 (failD ded (sd1.appE (recP 2 nm V).length))], smapA r (putS (es.map LEnt.e) nm (.slice Ac V.length cc) ck) (putSC (es.map LEnt.e) nm ck), bag rs, row 5 1 (.slice Ar ((recP 2 nm V).length) cr) ((recP 2 nm V).length) ((recP 2 nm V).flatMap yC), row 5 1 (.slice Ac V.length cc) V.length (V.flatMap yC)] := S
   refine then_n ?_
   refine s_reg ?_
   refine l_pk 1 (fun L => (6, .int .i64 0) :: L) F fun a F => ?_
   refine l_then ?_
   refine wp_ret ?_
   obtain ⟨es', hes, hok'⟩ := has_put hok nm V Ac cc (by omega) (by omega)
   rw [hes] at S
   have S := S.bagAdd 5 7 rfl rfl rfl
   exact fin F [.tmp 6] [.int .i64 0] rfl ⟨by kernel_rfl, trivial⟩ (.int .i64 0) rfl ⟨by rw [put_ok1 ht1 (by omega) (by omega) ht4], by rw [put_ok1 ht1 (by omega) (by omega) ht4]; exact (lg_shut hok' (S.pick [0, 1, 2, 3, 4, 5] (by decide)))⟩
  refine l_do F rfl rfl (op_pk F (v0 := .bool ((sd1.appE (recP 2 nm V).length : Int) != (0 : Int))) (v := .bool true) (neqT ht4) fun a F => ?_)
  refine l_then ?_
  refine c_t F rfl ?_
  refine s_reg ?_
  refine l_pk 2 (fun L => (6, .int .i64 (sd1.appE (recP 2 nm V).length)) :: (29, .int .i64 (sd1.appE (recP 2 nm V).length)) :: L) F fun a F => ?_
  refine l_then ?_
  refine wp_ret ?_
  refine then_r (?_)
  exact fin F [.tmp 6] [.int .i64 (sd1.appE (recP 2 nm V).length)] rfl ⟨by kernel_rfl, trivial⟩ (.int .i64 (sd1.appE (recP 2 nm V).length)) rfl ⟨by rw [put_er1 ht1 (by omega) (by omega) ht4], by rw [put_er1 ht1 (by omega) (by omega) ht4]; exact (lg_shut hok (S.pick [0, 1, 2, 3, 4, 5] (by decide)))⟩
 refine l_do F rfl rfl (op_pk F (v0 := .bool ((ded : Int) != (0 : Int))) (v := .bool true) (neqT ht1) fun a F => ?_)
 refine l_then ?_
 refine c_t F rfl ?_
 refine s_reg ?_
 refine l_pk 2 (fun L => (6, .int .i64 ded) :: (13, .int .i64 ded) :: L) F fun a F => ?_
 refine l_then ?_
 refine wp_ret ?_
 refine then_r (?_)
 exact fin F [.tmp 6] [.int .i64 ded] rfl ⟨by kernel_rfl, trivial⟩ (.int .i64 ded) rfl ⟨by rw [put_dead ht1], by rw [put_dead ht1]; exact (lg_shut hok (S.pick [0, 1, 2, 3, 4, 5] (by decide)))⟩
set_option maxRecDepth 100000 in
set_option maxHeartbeats 4000000 in
theorem ldrop1_any (w : World) (G : Nat → Prop) (b g0 g1 : Nat) (lif : Nat) (LL : List NV) (ded : Int) (sd0 sd1 : Sd) (N : Int) (in0 : sd0.In N) (in1 : sd1.In N) (hN : N ≤ 1000000) (nm : Bs) (hnl : nm.length ≤ 1000000) (hS : Sat w w [lgA b g0 g1 ⟨1, lif, LL, ded⟩, sdA g0 sd0, sdA g1 sd1, rest w G]) : Calls Try.prog 11 #[pt b 0, strV nm] w fun e w' => e = .returned (.int .i64 (dropT ⟨⟨1, lif, LL, ded⟩, sd0, sd1⟩ nm).1) ∧ Sat w w' [lgA b g0 g1 (dropT ⟨⟨1, lif, LL, ded⟩, sd0, sd1⟩ nm).2.lb, sdA g0 (dropT ⟨⟨1, lif, LL, ded⟩, sd0, sd1⟩ nm).2.s0, sdA g1 (dropT ⟨⟨1, lif, LL, ded⟩, sd0, sd1⟩ nm).2.s1, rest w G] := by
 refine enter 37 Try.func11 rfl rfl rfl fun a F => ?_
 obtain ⟨r, ck, es, rs, hok, S⟩ := lg_open hS
 have S : Sat w w [rest w G, sdA g0 sd0, sdA g1 sd1, box b 70 [pt g0 0, pt g1 0, .int .i64 1, .int .u32 (lif : Nat), .map (some r), .int .i64 ded], smapA r (es.map LEnt.e) ck, bag rs] := S
 have hrp := recP_len 3 nm []
 rw [List.length_nil] at hrp
 dsimp only at hok
 refine s_reg ?_
 refine l_pk 1 (fun L => (4, .int .i64 0) :: L) F fun a F => ?_
 refine l_then ?_
 refine wp_seq ?_
 refine s_reg ?_
 refine l_pk 1 (fun L => (9, pt b 0) :: L) F fun a F => ?_
 obtain ⟨G9, g9, hin9, hlt9, k9⟩ := S.frameB [3] (by decide) rfl
 refine l_do F rfl rfl (op_fn F (by kernel_rfl) (lup_any _ G9 b (pt g0 0) (pt g1 0) (.int .i64 1) (.int .u32 (lif : Nat)) (.map (some r)) ded g9) ?_)
 rintro e z9 ⟨rfl, g⟩
 have S : Sat w z9 [rest w G, sdA g0 sd0, sdA g1 sd1, box b 70 [pt g0 0, pt g1 0, .int .i64 1, .int .u32 (lif : Nat), .map (some r), .int .i64 ded], smapA r (es.map LEnt.e) ck, bag rs] := k9 z9 [box b 70 [pt g0 0, pt g1 0, .int .i64 1, .int .u32 (lif : Nat), .map (some r), .int .i64 ded]] rfl g
 clear g g9 k9 hin9 hlt9
 refine ⟨_, rfl, ?_⟩
 intro a F
 refine l_pk 1 (fun L => (5, .int .i64 ded) :: L) F fun a F => ?_
 refine l_then ?_
 refine s_reg ?_
 refine l_pk 1 (fun L => (11, .int .i64 ded) :: L) F fun a F => ?_
 by_cases ht1 : (ded : Int) = (0 : Int)
 ·
  refine l_do F rfl rfl (op_pk F (v0 := .bool ((ded : Int) != (0 : Int))) (v := .bool false) (neqF ht1) fun a F => ?_)
  refine l_then ?_
  refine c_f F rfl ?_
  refine wp_skip ?_
  refine then_n ?_
  refine wp_seq ?_
  refine s_reg ?_
  refine l_pk 3 (fun L => (17, pt b 4) :: (16, pt b 0) :: (15, pt b 0) :: L) F fun a F => ?_
  refine l_do F rfl rfl (op_ldk (some ⟨b, 0, none⟩) 4 (.map (some r)) F rfl (cBox S 3 rfl (j := 4) rfl) (fun a F => ?_))
  refine l_pk 1 (fun L => (19, strV nm) :: L) F fun a F => ?_
  rcases getN_cases LL nm with hgn | ⟨vv, hgs⟩
  ·
   refine l_do F rfl rfl (op_slookup S 4 _ 9 36 _ _ true (.slice none 0 0) nm (.tuple #[.slice none 0 0, .bool false]) F rfl rfl (by kernel_rfl) (by kernel_rfl) (by kernel_rfl) (by kernel_rfl) (by kernel_rfl) (by rw [has_none hok hgn]; rfl) (fun a F => ?_))
   refine l_pk 5 (fun L => (7, .bool false) :: (6, .slice none 0 0) :: (22, .bool false) :: (21, .slice none 0 0) :: (14, .tuple #[.slice none 0 0, .bool false]) :: L) F fun a F => ?_
   refine l_then ?_
   refine s_reg ?_
   refine l_pk 2 (fun L => (24, .bool true) :: (23, .bool false) :: L) F fun a F => ?_
   refine l_then ?_
   refine c_t F rfl ?_
   refine s_reg ?_
   refine l_pk 1 (fun L => (4, .int .i64 6) :: L) F fun a F => ?_
   refine l_then ?_
   refine wp_ret ?_
   refine then_r (?_)
   exact fin F [.tmp 4] [.int .i64 6] rfl ⟨by kernel_rfl, trivial⟩ (.int .i64 6) rfl ⟨by rw [drop_none ht1 hgn], by rw [drop_none ht1 hgn]; exact (lg_shut hok (S.pick [0, 1, 2, 3, 4, 5] (by decide)))⟩
  obtain ⟨Ag, cg, hgt, hgr⟩ := has_some hok hgs
  refine l_do F rfl rfl (op_slookup S 4 _ 9 36 _ _ true (.slice none 0 0) nm (.tuple #[.slice Ag vv.length cg, .bool true]) F rfl rfl (by kernel_rfl) (by kernel_rfl) (by kernel_rfl) (by kernel_rfl) (by kernel_rfl) (by rw [hgt]; rfl) (fun a F => ?_))
  refine l_pk 5 (fun L => (7, .bool true) :: (6, .slice Ag vv.length cg) :: (22, .bool true) :: (21, .slice Ag vv.length cg) :: (14, .tuple #[.slice Ag vv.length cg, .bool true]) :: L) F fun a F => ?_
  refine l_then ?_
  refine s_reg ?_
  refine l_pk 2 (fun L => (24, .bool false) :: (23, .bool true) :: L) F fun a F => ?_
  refine l_then ?_
  refine c_f F rfl ?_
  refine wp_skip ?_
  refine then_n ?_
  refine wp_seq ?_
  refine s_reg ?_
  refine l_pk 2 (fun L => (26, strV nm) :: (25, pt b 0) :: L) F fun a F => ?_
  refine l_do F rfl rfl (op_fn F (by kernel_rfl) (record_any _ 3 nm (by first | omega | (simp only [List.length_nil]; omega)) none 0 [] recs_nil (by first | omega | (simp [be4] <;> omega))) ?_)
  rintro e z ⟨Ar, cr, rfl, g⟩
  have S := S.pushThings g
  refine ⟨_, rfl, ?_⟩
  intro a F
  obtain ⟨G9, g9, hin9, hlt9, k9⟩ := S.frameB [3, 2] (by decide) rfl
  refine l_do F rfl rfl (op_fn F (by kernel_rfl) (lwrite1 _ G9 b g0 g1 (.int .u32 (lif : Nat)) (.map (some r)) ded sd1 N in1 hN Ar cr (recP 3 nm []) (Recs.ofRow (S.rowOf (i := 6) rfl) (by omega)) (InG.row S hin9 6 (by decide) rfl) g9) ?_)
  rintro e z9 ⟨rfl, g⟩
  have S : Sat w z9 [rest w G, sdA g0 sd0, sdA g1 (sd1.app (recP 3 nm [])), box b 70 [pt g0 0, pt g1 0, .int .i64 1, .int .u32 (lif : Nat), .map (some r), .int .i64 (failD ded (sd1.appE (recP 3 nm []).length))], smapA r (es.map LEnt.e) ck, bag rs, row 5 1 (.slice Ar ((recP 3 nm []).length) cr) ((recP 3 nm []).length) ((recP 3 nm []).flatMap yC)] := k9 z9 [box b 70 [pt g0 0, pt g1 0, .int .i64 1, .int .u32 (lif : Nat), .map (some r), .int .i64 (failD ded (sd1.appE (recP 3 nm []).length))], sdA g1 (sd1.app (recP 3 nm []))] rfl g
  clear g g9 k9 hin9 hlt9
  refine ⟨_, rfl, ?_⟩
  intro a F
  refine l_pk 1 (fun L => (8, .int .i64 (sd1.appE (recP 3 nm []).length)) :: L) F fun a F => ?_
  refine l_then ?_
  refine s_reg ?_
  refine l_pk 1 (fun L => (29, .int .i64 (sd1.appE (recP 3 nm []).length)) :: L) F fun a F => ?_
  by_cases ht2 : (sd1.appE (recP 3 nm []).length : Int) = (0 : Int)
  ·
   refine l_do F rfl rfl (op_pk F (v0 := .bool ((sd1.appE (recP 3 nm []).length : Int) != (0 : Int))) (v := .bool false) (neqF ht2) fun a F => ?_)
   refine l_then ?_
   refine c_f F rfl ?_
   refine wp_skip ?_
   refine then_n ?_
   refine s_reg ?_
   refine l_pk 3 (fun L => (34, pt b 4) :: (33, pt b 0) :: (32, pt b 0) :: L) F fun a F => ?_
   refine l_do F rfl rfl (op_ldk (some ⟨b, 0, none⟩) 4 (.map (some r)) F rfl (cBox S 3 rfl (j := 4) rfl) (fun a F => ?_))
   refine l_pk 1 (fun L => (36, strV nm) :: L) F fun a F => ?_
   refine l_do F rfl rfl (op_sdelete S 4 _ _ 9 36 _ _ nm F rfl rfl (by kernel_rfl) (by kernel_rfl) (by kernel_rfl) (by kernel_rfl) fun z S a F => ?_)
   refine l_then ?_
   refine s_reg ?_
   refine l_pk 1 (fun L => (4, .int .i64 0) :: L) F fun a F => ?_
   refine l_then ?_
   refine wp_ret ?_
   obtain ⟨es', hes, hok'⟩ := has_del hok nm
   rw [hes] at S
   exact fin F [.tmp 4] [.int .i64 0] rfl ⟨by kernel_rfl, trivial⟩ (.int .i64 0) rfl ⟨by rw [drop_ok1 ht1 hgs ht2], by rw [drop_ok1 ht1 hgs ht2]; exact (lg_shut hok' (S.pick [0, 1, 2, 3, 4, 5] (by decide)))⟩
  refine l_do F rfl rfl (op_pk F (v0 := .bool ((sd1.appE (recP 3 nm []).length : Int) != (0 : Int))) (v := .bool true) (neqT ht2) fun a F => ?_)
  refine l_then ?_
  refine c_t F rfl ?_
  refine s_reg ?_
  refine l_pk 2 (fun L => (4, .int .i64 (sd1.appE (recP 3 nm []).length)) :: (31, .int .i64 (sd1.appE (recP 3 nm []).length)) :: L) F fun a F => ?_
  refine l_then ?_
  refine wp_ret ?_
  refine then_r (?_)
  exact fin F [.tmp 4] [.int .i64 (sd1.appE (recP 3 nm []).length)] rfl ⟨by kernel_rfl, trivial⟩ (.int .i64 (sd1.appE (recP 3 nm []).length)) rfl ⟨by rw [drop_er1 ht1 hgs ht2], by rw [drop_er1 ht1 hgs ht2]; exact (lg_shut hok (S.pick [0, 1, 2, 3, 4, 5] (by decide)))⟩
 refine l_do F rfl rfl (op_pk F (v0 := .bool ((ded : Int) != (0 : Int))) (v := .bool true) (neqT ht1) fun a F => ?_)
 refine l_then ?_
 refine c_t F rfl ?_
 refine s_reg ?_
 refine l_pk 2 (fun L => (4, .int .i64 ded) :: (13, .int .i64 ded) :: L) F fun a F => ?_
 refine l_then ?_
 refine wp_ret ?_
 refine then_r (?_)
 exact fin F [.tmp 4] [.int .i64 ded] rfl ⟨by kernel_rfl, trivial⟩ (.int .i64 ded) rfl ⟨by rw [drop_dead ht1], by rw [drop_dead ht1]; exact (lg_shut hok (S.pick [0, 1, 2, 3, 4, 5] (by decide)))⟩
set_option maxRecDepth 100000 in
set_option maxHeartbeats 4000000 in
theorem lsync1_any (w : World) (G : Nat → Prop) (b g0 g1 : Nat) (lif : Nat) (LL : List NV) (ded : Int) (sd0 sd1 : Sd) (N : Int) (in0 : sd0.In N) (in1 : sd1.In N) (hN : N ≤ 1000000) (hS : Sat w w [lgA b g0 g1 ⟨1, lif, LL, ded⟩, sdA g0 sd0, sdA g1 sd1, rest w G]) : Calls Try.prog 12 #[pt b 0] w fun e w' => e = .returned (.int .i64 (syncT ⟨⟨1, lif, LL, ded⟩, sd0, sd1⟩).1) ∧ Sat w w' [lgA b g0 g1 (syncT ⟨⟨1, lif, LL, ded⟩, sd0, sd1⟩).2.lb, sdA g0 (syncT ⟨⟨1, lif, LL, ded⟩, sd0, sd1⟩).2.s0, sdA g1 (syncT ⟨⟨1, lif, LL, ded⟩, sd0, sd1⟩).2.s1, rest w G] := by
 refine enter 21 Try.func12 rfl rfl rfl fun a F => ?_
 obtain ⟨r, ck, es, rs, hok, S⟩ := lg_open hS
 have S : Sat w w [rest w G, sdA g0 sd0, sdA g1 sd1, box b 70 [pt g0 0, pt g1 0, .int .i64 1, .int .u32 (lif : Nat), .map (some r), .int .i64 ded], smapA r (es.map LEnt.e) ck, bag rs] := S
 refine s_reg ?_
 refine l_pk 1 (fun L => (2, .int .i64 0) :: L) F fun a F => ?_
 refine l_then ?_
 refine wp_seq ?_
 refine s_reg ?_
 refine l_pk 1 (fun L => (4, pt b 0) :: L) F fun a F => ?_
 obtain ⟨G9, g9, hin9, hlt9, k9⟩ := S.frameB [3] (by decide) rfl
 refine l_do F rfl rfl (op_fn F (by kernel_rfl) (lup_any _ G9 b (pt g0 0) (pt g1 0) (.int .i64 1) (.int .u32 (lif : Nat)) (.map (some r)) ded g9) ?_)
 rintro e z9 ⟨rfl, g⟩
 have S : Sat w z9 [rest w G, sdA g0 sd0, sdA g1 sd1, box b 70 [pt g0 0, pt g1 0, .int .i64 1, .int .u32 (lif : Nat), .map (some r), .int .i64 ded], smapA r (es.map LEnt.e) ck, bag rs] := k9 z9 [box b 70 [pt g0 0, pt g1 0, .int .i64 1, .int .u32 (lif : Nat), .map (some r), .int .i64 ded]] rfl g
 clear g g9 k9 hin9 hlt9
 refine ⟨_, rfl, ?_⟩
 intro a F
 refine l_pk 1 (fun L => (3, .int .i64 ded) :: L) F fun a F => ?_
 refine l_then ?_
 refine s_reg ?_
 refine l_pk 1 (fun L => (6, .int .i64 ded) :: L) F fun a F => ?_
 by_cases ht1 : (ded : Int) = (0 : Int)
 ·
  refine l_do F rfl rfl (op_pk F (v0 := .bool ((ded : Int) != (0 : Int))) (v := .bool false) (neqF ht1) fun a F => ?_)
  refine l_then ?_
  refine c_f F rfl ?_
  refine wp_skip ?_
  refine then_n ?_
  refine wp_seq ?_
  refine region_gx (fun D => fun (_ : Unit) => [rest w G, sdA g0 sd0, bif D 10 then sdA g1 sd1.syn else sdA g1 sd1, bif D 11 then box b 70 [pt g0 0, pt g1 0, .int .i64 1, .int .u32 (lif : Nat), .map (some r), .int .i64 (failD ded sd1.stepE)] else box b 70 [pt g0 0, pt g1 0, .int .i64 1, .int .u32 (lif : Nat), .map (some r), .int .i64 ded], smapA r (es.map LEnt.e) ck, bag rs]) (fun (_ : Unit) => [pt b 0, pt b 0, pt b 0, pt b 0, pt b 2, .int .i64 1, pt b 0, pt b 0, pt b 1, pt g1 0, .int .i64 sd1.stepE, .int .i64 sd1.stepE, .int .i64 sd1.stepE]) [(5, [], [9, 10, 11]), (9, [5], [10, 11]), (10, [5, 9], [11]), (11, [5, 9, 10], [])] () rfl (by kernel_rfl) (by kernel_rfl) F S.drew ?_ ?_ ?_ ?_ ?_
  · rintro ⟨⟩; rfl
  · rintro ⟨⟩; kernel_rfl
  ·
   intro D D' x h
   cases x
   simp only [h 10 (by decide), h 11 (by decide)]
  ·
   refine ⟨?_, ?_⟩
   ·
    refine ⟨_, rfl, rfl, by kernel_rfl, ?_⟩
    rintro D ⟨⟩ a z S F
    refine ⟨by kernel_rfl, ?_⟩
    exact op_ldk (some ⟨b, 0, none⟩) 2 (.int .i64 1) F rfl (cBox S 3 rfl (j := 2) rfl) (⟨(), rfl, (SameB.refl _ _ rfl), S⟩)
   refine ⟨?_, ?_⟩
   ·
    refine ⟨_, rfl, rfl, by kernel_rfl, ?_⟩
    rintro D ⟨⟩ a z S F
    refine ⟨by kernel_rfl, ?_⟩
    exact op_ldk (some ⟨b, 0, none⟩) 1 (pt g1 0) F rfl (cBox S 3 rfl (j := 1) rfl) (⟨(), rfl, (SameB.refl _ _ rfl), S⟩)
   refine ⟨?_, ?_⟩
   ·
    refine ⟨_, rfl, rfl, by kernel_rfl, ?_⟩
    rintro D ⟨⟩ a z S F
    refine ⟨by kernel_rfl, ?_⟩
    refine op_fn F (by kernel_rfl) (ssync_at S (i := 2) rfl (in1) (by omega)) ?_
    rintro e z ⟨rfl, S⟩
    exact ⟨_, rfl, (), rfl, (SameB.refl _ _ rfl), S⟩
   refine ⟨?_, ?_⟩
   ·
    refine ⟨_, rfl, rfl, by kernel_rfl, ?_⟩
    rintro D ⟨⟩ a z S F
    refine ⟨by kernel_rfl, ?_⟩
    have S : Sat w z [rest w G, sdA g0 sd0, sdA g1 sd1.syn, box b 70 [pt g0 0, pt g1 0, .int .i64 1, .int .u32 (lif : Nat), .map (some r), .int .i64 ded], smapA r (es.map LEnt.e) ck, bag rs] := S
    obtain ⟨G9, g9, hin9, hlt9, k9⟩ := S.frameB [3] (by decide) rfl
    refine op_fn F (by kernel_rfl) (lfail_any _ G9 b (pt g0 0) (pt g1 0) (.int .i64 1) (.int .u32 (lif : Nat)) (.map (some r)) ded g9 sd1.stepE) ?_
    rintro e z9 ⟨rfl, g⟩
    have S : Sat w z9 [rest w G, sdA g0 sd0, sdA g1 sd1.syn, box b 70 [pt g0 0, pt g1 0, .int .i64 1, .int .u32 (lif : Nat), .map (some r), .int .i64 (failD ded sd1.stepE)], smapA r (es.map LEnt.e) ck, bag rs] := k9 z9 [box b 70 [pt g0 0, pt g1 0, .int .i64 1, .int .u32 (lif : Nat), .map (some r), .int .i64 (failD ded sd1.stepE)]] rfl g
    clear g g9 k9 hin9 hlt9
    exact ⟨_, rfl, (), rfl, (SameB.refl _ _ rfl), S⟩
   trivial
  rintro ⟨⟩ a z F S
  have F := F.subk (l := [(2, .int .i64 sd1.stepE)])
  have S : Sat w z [rest w G, sdA g0 sd0, sdA g1 sd1.syn, box b 70 [pt g0 0, pt g1 0, .int .i64 1, .int .u32 (lif : Nat), .map (some r), .int .i64 (failD ded sd1.stepE)], smapA r (es.map LEnt.e) ck, bag rs] := S
  refine then_n ?_
  refine wp_ret ?_
  exact fin F [.tmp 2] [.int .i64 sd1.stepE] rfl ⟨by kernel_rfl, trivial⟩ (.int .i64 sd1.stepE) rfl ⟨by rw [sync_go1 ht1], by rw [sync_go1 ht1]; exact (lg_shut hok (S.pick [0, 1, 2, 3, 4, 5] (by decide)))⟩
 refine l_do F rfl rfl (op_pk F (v0 := .bool ((ded : Int) != (0 : Int))) (v := .bool true) (neqT ht1) fun a F => ?_)
 refine l_then ?_
 refine c_t F rfl ?_
 refine s_reg ?_
 refine l_pk 2 (fun L => (2, .int .i64 ded) :: (8, .int .i64 ded) :: L) F fun a F => ?_
 refine l_then ?_
 refine wp_ret ?_
 refine then_r (?_)
 exact fin F [.tmp 2] [.int .i64 ded] rfl ⟨by kernel_rfl, trivial⟩ (.int .i64 ded) rfl ⟨by rw [sync_dead ht1], by rw [sync_dead ht1]; exact (lg_shut hok (S.pick [0, 1, 2, 3, 4, 5] (by decide)))⟩
end Go.Proofs.Ytidcdfilfccigaa
