/- Walks over the program's logbook: its small steps. -/
import Derived.Test.YtidcdfilfccigaaLgP
namespace Go.Proofs.Ytidcdfilfccigaa
set_option linter.unusedVariables false
set_option linter.unusedSimpArgs false
set_option linter.unnecessarySimpa false
open Go Go.RowKit

theorem ints_ne {X : Bs} (h : ints X ≠ []) : X.flatMap yC ≠ [] := fun e => h (by cases X with
  | nil => rfl
  | cons a X => rw [List.flatMap_cons] at e; cases e)
set_option maxRecDepth 100000 in
set_option maxHeartbeats 4000000 in
theorem lup_any (w : World) (G : Nat → Prop) (b : Nat) (c0 c1 c2 c3 c4 : Value) (ded : Int) (hS : Sat w w [box b 70 [c0, c1, c2, c3, c4, .int .i64 ded], rest w G]) : Calls Try.prog 32 #[pt b 0] w fun e w' => e = .returned (.int .i64 ded) ∧ Sat w w' [box b 70 [c0, c1, c2, c3, c4, .int .i64 ded], rest w G] := by
 refine enter 9 Try.func32 rfl rfl rfl fun a F => ?_
 have S : Sat w w [rest w G, box b 70 [c0, c1, c2, c3, c4, .int .i64 ded]] := hS.pick [1, 0] (by decide)
 refine s_reg ?_
 refine l_pk 1 (fun L => (2, .int .i64 0) :: L) F fun a F => ?_
 refine l_then ?_
 refine wp_seq ?_
 refine s_reg ?_
 refine l_pk 2 (fun L => (4, .bool false) :: (3, pt b 0) :: L) F fun a F => ?_
 refine l_then ?_
 refine c_f F rfl ?_
 refine wp_skip ?_
 refine then_n ?_
 refine s_reg ?_
 refine l_pk 3 (fun L => (7, pt b 5) :: (6, pt b 0) :: (5, pt b 0) :: L) F fun a F => ?_
 refine l_do F rfl rfl (op_ldk (some ⟨b, 0, none⟩) 5 (.int .i64 ded) F rfl (cBox S 1 rfl (j := 5) rfl) (fun a F => ?_))
 refine l_pk 1 (fun L => (2, .int .i64 ded) :: L) F fun a F => ?_
 refine l_then ?_
 refine wp_ret ?_
 exact fin F [.tmp 2] [.int .i64 ded] rfl ⟨by kernel_rfl, trivial⟩ (.int .i64 ded) rfl ⟨rfl, S.pick [1, 0] (by decide)⟩
set_option maxRecDepth 100000 in
set_option maxHeartbeats 4000000 in
theorem lfail_any (w : World) (G : Nat → Prop) (b : Nat) (c0 c1 c2 c3 c4 : Value) (ded : Int) (hS : Sat w w [box b 70 [c0, c1, c2, c3, c4, .int .i64 ded], rest w G]) (er : Int) : Calls Try.prog 36 #[pt b 0, .int .i64 er] w fun e w' => e = .returned (.int .i64 er) ∧ Sat w w' [box b 70 [c0, c1, c2, c3, c4, .int .i64 (failD ded er)], rest w G] := by
 refine enter 12 Try.func36 rfl rfl rfl fun a F => ?_
 have S : Sat w w [rest w G, box b 70 [c0, c1, c2, c3, c4, .int .i64 ded]] := hS.pick [1, 0] (by decide)
 refine s_reg ?_
 refine l_pk 1 (fun L => (4, .int .i64 0) :: L) F fun a F => ?_
 refine l_then ?_
 refine wp_seq ?_
 refine s_reg ?_
 refine l_pk 1 (fun L => (5, .int .i64 er) :: L) F fun a F => ?_
 by_cases ht1 : (er : Int) = (0 : Int)
 ·
  refine l_do F rfl rfl (op_pk F (v0 := .bool ((er : Int) != (0 : Int))) (v := .bool false) (neqF ht1) fun a F => ?_)
  refine l_then ?_
  refine c_f F rfl ?_
  refine wp_skip ?_
  refine then_n ?_
  refine s_reg ?_
  refine l_pk 2 (fun L => (4, .int .i64 er) :: (11, .int .i64 er) :: L) F fun a F => ?_
  refine l_then ?_
  refine wp_ret ?_
  exact fin F [.tmp 4] [.int .i64 er] rfl ⟨by kernel_rfl, trivial⟩ (.int .i64 er) rfl ⟨rfl, by rw [show failD ded er = ded from if_pos ht1]; exact S.pick [1, 0] (by decide)⟩
 refine l_do F rfl rfl (op_pk F (v0 := .bool ((er : Int) != (0 : Int))) (v := .bool true) (neqT ht1) fun a F => ?_)
 refine l_then ?_
 refine c_t F rfl ?_
 refine wp_region_list ?_
 refine l_pk 4 (fun L => (10, pt b 5) :: (9, pt b 0) :: (8, .int .i64 er) :: (7, pt b 0) :: L) F fun a F => ?_
 refine l_do F rfl rfl (op_storeB S 1 _ _ _ b 5 (.int .i64 er) F rfl rfl (by kernel_rfl) (by kernel_rfl) (by kernel_rfl) (by kernel_rfl) (by kernel_rfl) fun z S a F => ?_)
 refine l_then ?_
 refine s_reg ?_
 refine l_pk 2 (fun L => (4, .int .i64 er) :: (11, .int .i64 er) :: L) F fun a F => ?_
 refine l_then ?_
 refine wp_ret ?_
 exact fin F [.tmp 4] [.int .i64 er] rfl ⟨by kernel_rfl, trivial⟩ (.int .i64 er) rfl ⟨rfl, by rw [show failD ded er = er from if_neg ht1]; exact S.pick [1, 0] (by decide)⟩
set_option maxRecDepth 100000 in
set_option maxHeartbeats 4000000 in
theorem lwrite0 (w : World) (G : Nat → Prop) (b g0 g1 : Nat) (c3 c4 : Value) (ded : Int) (sd0 : Sd) (N : Int) (in0 : sd0.In N) (hN : N ≤ 1000000) (Ap : Option Addr) (cp : Nat) (X : Bs) (hX : Recs 1 yC w Ap cp X) (hin : InG G Ap (X.flatMap yC)) (hS : Sat w w [box b 70 [pt g0 0, pt g1 0, .int .i64 0, c3, c4, .int .i64 ded], sdA g0 sd0, rest w G]) : Calls Try.prog 33 #[pt b 0, .slice Ap X.length cp] w fun e w' => e = .returned (.int .i64 (sd0.appE X.length)) ∧ Sat w w' [box b 70 [pt g0 0, pt g1 0, .int .i64 0, c3, c4, .int .i64 (failD ded (sd0.appE X.length))], sdA g0 (sd0.app X), rest w G] := by
 refine enter 18 Try.func33 rfl rfl rfl fun a F => ?_
 have S : Sat w w [rest w G, box b 70 [pt g0 0, pt g1 0, .int .i64 0, c3, c4, .int .i64 ded], sdA g0 sd0] := hS.pick [2, 0, 1] (by decide)
 refine s_reg ?_
 refine l_pk 1 (fun L => (4, .int .i64 0) :: L) F fun a F => ?_
 refine l_then ?_
 refine wp_seq ?_
 refine region_gx (fun D => fun (_ : Unit) => [rest w G, bif D 12 then box b 70 [pt g0 0, pt g1 0, .int .i64 0, c3, c4, .int .i64 (failD ded (sd0.appE X.length))] else box b 70 [pt g0 0, pt g1 0, .int .i64 0, c3, c4, .int .i64 ded], bif D 11 then sdA g0 (sd0.app X) else sdA g0 sd0]) (fun (_ : Unit) => [pt b 0, pt b 0, pt b 0, pt b 0, pt b 2, .int .i64 0, pt b 0, pt b 0, pt b 0, pt g0 0, .slice Ap X.length cp, .int .i64 (sd0.appE X.length), .int .i64 (sd0.appE X.length), .int .i64 (sd0.appE X.length)]) [(5, [], [9, 11, 12]), (9, [5], [11, 12]), (11, [5, 9], [12]), (12, [5, 9, 11], [])] () rfl (by kernel_rfl) (by kernel_rfl) F S.drew ?_ ?_ ?_ ?_ ?_
 · rintro ⟨⟩; rfl
 · rintro ⟨⟩; kernel_rfl
 ·
  intro D D' x h
  cases x
  simp only [h 11 (by decide), h 12 (by decide)]
 ·
  refine ⟨?_, ?_⟩
  ·
   refine ⟨_, rfl, rfl, by kernel_rfl, ?_⟩
   rintro D ⟨⟩ a z S F
   refine ⟨by kernel_rfl, ?_⟩
   exact op_ldk (some ⟨b, 0, none⟩) 2 (.int .i64 0) F rfl (cBox S 1 rfl (j := 2) rfl) (⟨(), rfl, (SameB.refl _ _ rfl), S⟩)
  refine ⟨?_, ?_⟩
  ·
   refine ⟨_, rfl, rfl, by kernel_rfl, ?_⟩
   rintro D ⟨⟩ a z S F
   refine ⟨by kernel_rfl, ?_⟩
   exact op_ldk (some ⟨b, 0, none⟩) 0 (pt g0 0) F rfl (cBox S 1 rfl (j := 0) rfl) (⟨(), rfl, (SameB.refl _ _ rfl), S⟩)
  refine ⟨?_, ?_⟩
  ·
   refine ⟨_, rfl, rfl, by kernel_rfl, ?_⟩
   rintro D ⟨⟩ a z S F
   refine ⟨by kernel_rfl, ?_⟩
   refine op_fn F (by kernel_rfl) (sapp_at S (i := 2) rfl (in0) (by omega) X Ap cp (hX.mono (src_rest S (i := 0) rfl hX.src hin)) (away_rest (j := 0) rfl (by decide) hin ints_ne)) ?_
   rintro e z ⟨rfl, S⟩
   exact ⟨_, rfl, (), rfl, (SameB.refl _ _ rfl), S⟩
  refine ⟨?_, ?_⟩
  ·
   refine ⟨_, rfl, rfl, by kernel_rfl, ?_⟩
   rintro D ⟨⟩ a z S F
   refine ⟨by kernel_rfl, ?_⟩
   have S : Sat w z [rest w G, box b 70 [pt g0 0, pt g1 0, .int .i64 0, c3, c4, .int .i64 ded], sdA g0 (sd0.app X)] := S
   obtain ⟨G9, g9, hin9, hlt9, k9⟩ := S.frameB [1] (by decide) rfl
   refine op_fn F (by kernel_rfl) (lfail_any _ G9 b (pt g0 0) (pt g1 0) (.int .i64 0) (c3) (c4) ded g9 (sd0.appE X.length)) ?_
   rintro e z9 ⟨rfl, g⟩
   have S : Sat w z9 [rest w G, box b 70 [pt g0 0, pt g1 0, .int .i64 0, c3, c4, .int .i64 (failD ded (sd0.appE X.length))], sdA g0 (sd0.app X)] := k9 z9 [box b 70 [pt g0 0, pt g1 0, .int .i64 0, c3, c4, .int .i64 (failD ded (sd0.appE X.length))]] rfl g
   clear g g9 k9 hin9 hlt9
   exact ⟨_, rfl, (), rfl, (SameB.refl _ _ rfl), S⟩
  trivial
 rintro ⟨⟩ a z F S
 have F := F.subk (l := [(4, .int .i64 (sd0.appE X.length))])
 have S : Sat w z [rest w G, box b 70 [pt g0 0, pt g1 0, .int .i64 0, c3, c4, .int .i64 (failD ded (sd0.appE X.length))], sdA g0 (sd0.app X)] := S
 refine then_n ?_
 refine wp_ret ?_
 exact fin F [.tmp 4] [.int .i64 (sd0.appE X.length)] rfl ⟨by kernel_rfl, trivial⟩ (.int .i64 (sd0.appE X.length)) rfl ⟨rfl, S.pick [1, 2, 0] (by decide)⟩
set_option maxRecDepth 100000 in
set_option maxHeartbeats 4000000 in
theorem lwrite1 (w : World) (G : Nat → Prop) (b g0 g1 : Nat) (c3 c4 : Value) (ded : Int) (sd1 : Sd) (N : Int) (in1 : sd1.In N) (hN : N ≤ 1000000) (Ap : Option Addr) (cp : Nat) (X : Bs) (hX : Recs 1 yC w Ap cp X) (hin : InG G Ap (X.flatMap yC)) (hS : Sat w w [box b 70 [pt g0 0, pt g1 0, .int .i64 1, c3, c4, .int .i64 ded], sdA g1 sd1, rest w G]) : Calls Try.prog 33 #[pt b 0, .slice Ap X.length cp] w fun e w' => e = .returned (.int .i64 (sd1.appE X.length)) ∧ Sat w w' [box b 70 [pt g0 0, pt g1 0, .int .i64 1, c3, c4, .int .i64 (failD ded (sd1.appE X.length))], sdA g1 (sd1.app X), rest w G] := by
 refine enter 18 Try.func33 rfl rfl rfl fun a F => ?_
 have S : Sat w w [rest w G, box b 70 [pt g0 0, pt g1 0, .int .i64 1, c3, c4, .int .i64 ded], sdA g1 sd1] := hS.pick [2, 0, 1] (by decide)
 refine s_reg ?_
 refine l_pk 1 (fun L => (4, .int .i64 0) :: L) F fun a F => ?_
 refine l_then ?_
 refine wp_seq ?_
 refine region_gx (fun D => fun (_ : Unit) => [rest w G, bif D 12 then box b 70 [pt g0 0, pt g1 0, .int .i64 1, c3, c4, .int .i64 (failD ded (sd1.appE X.length))] else box b 70 [pt g0 0, pt g1 0, .int .i64 1, c3, c4, .int .i64 ded], bif D 11 then sdA g1 (sd1.app X) else sdA g1 sd1]) (fun (_ : Unit) => [pt b 0, pt b 0, pt b 0, pt b 0, pt b 2, .int .i64 1, pt b 0, pt b 0, pt b 1, pt g1 0, .slice Ap X.length cp, .int .i64 (sd1.appE X.length), .int .i64 (sd1.appE X.length), .int .i64 (sd1.appE X.length)]) [(5, [], [9, 11, 12]), (9, [5], [11, 12]), (11, [5, 9], [12]), (12, [5, 9, 11], [])] () rfl (by kernel_rfl) (by kernel_rfl) F S.drew ?_ ?_ ?_ ?_ ?_
 · rintro ⟨⟩; rfl
 · rintro ⟨⟩; kernel_rfl
 ·
  intro D D' x h
  cases x
  simp only [h 11 (by decide), h 12 (by decide)]
 ·
  refine ⟨?_, ?_⟩
  ·
   refine ⟨_, rfl, rfl, by kernel_rfl, ?_⟩
   rintro D ⟨⟩ a z S F
   refine ⟨by kernel_rfl, ?_⟩
   exact op_ldk (some ⟨b, 0, none⟩) 2 (.int .i64 1) F rfl (cBox S 1 rfl (j := 2) rfl) (⟨(), rfl, (SameB.refl _ _ rfl), S⟩)
  refine ⟨?_, ?_⟩
  ·
   refine ⟨_, rfl, rfl, by kernel_rfl, ?_⟩
   rintro D ⟨⟩ a z S F
   refine ⟨by kernel_rfl, ?_⟩
   exact op_ldk (some ⟨b, 0, none⟩) 1 (pt g1 0) F rfl (cBox S 1 rfl (j := 1) rfl) (⟨(), rfl, (SameB.refl _ _ rfl), S⟩)
  refine ⟨?_, ?_⟩
  ·
   refine ⟨_, rfl, rfl, by kernel_rfl, ?_⟩
   rintro D ⟨⟩ a z S F
   refine ⟨by kernel_rfl, ?_⟩
   refine op_fn F (by kernel_rfl) (sapp_at S (i := 2) rfl (in1) (by omega) X Ap cp (hX.mono (src_rest S (i := 0) rfl hX.src hin)) (away_rest (j := 0) rfl (by decide) hin ints_ne)) ?_
   rintro e z ⟨rfl, S⟩
   exact ⟨_, rfl, (), rfl, (SameB.refl _ _ rfl), S⟩
  refine ⟨?_, ?_⟩
  ·
   refine ⟨_, rfl, rfl, by kernel_rfl, ?_⟩
   rintro D ⟨⟩ a z S F
   refine ⟨by kernel_rfl, ?_⟩
   have S : Sat w z [rest w G, box b 70 [pt g0 0, pt g1 0, .int .i64 1, c3, c4, .int .i64 ded], sdA g1 (sd1.app X)] := S
   obtain ⟨G9, g9, hin9, hlt9, k9⟩ := S.frameB [1] (by decide) rfl
   refine op_fn F (by kernel_rfl) (lfail_any _ G9 b (pt g0 0) (pt g1 0) (.int .i64 1) (c3) (c4) ded g9 (sd1.appE X.length)) ?_
   rintro e z9 ⟨rfl, g⟩
   have S : Sat w z9 [rest w G, box b 70 [pt g0 0, pt g1 0, .int .i64 1, c3, c4, .int .i64 (failD ded (sd1.appE X.length))], sdA g1 (sd1.app X)] := k9 z9 [box b 70 [pt g0 0, pt g1 0, .int .i64 1, c3, c4, .int .i64 (failD ded (sd1.appE X.length))]] rfl g
   clear g g9 k9 hin9 hlt9
   exact ⟨_, rfl, (), rfl, (SameB.refl _ _ rfl), S⟩
  trivial
 rintro ⟨⟩ a z F S
 have F := F.subk (l := [(4, .int .i64 (sd1.appE X.length))])
 have S : Sat w z [rest w G, box b 70 [pt g0 0, pt g1 0, .int .i64 1, c3, c4, .int .i64 (failD ded (sd1.appE X.length))], sdA g1 (sd1.app X)] := S
 refine then_n ?_
 refine wp_ret ?_
 exact fin F [.tmp 4] [.int .i64 (sd1.appE X.length)] rfl ⟨by kernel_rfl, trivial⟩ (.int .i64 (sd1.appE X.length)) rfl ⟨rfl, S.pick [1, 2, 0] (by decide)⟩
end Go.Proofs.Ytidcdfilfccigaa
