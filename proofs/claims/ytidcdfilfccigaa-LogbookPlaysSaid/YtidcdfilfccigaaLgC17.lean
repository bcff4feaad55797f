/- Walks over the program's logbook: Get, Names, Life, Dead; on nil. -/
import Derived.Test.YtidcdfilfccigaaLgB17
namespace Go.Proofs.Ytidcdfilfccigaa
set_option linter.unusedVariables false
set_option linter.unusedSimpArgs false
set_option linter.unnecessarySimpa false
open Go Go.RowKit

section
variable {w0 w w1 : World} {G : Nat → Prop} {b g0 g1 : Nat}
theorem lg_shut2 {R : Asn} {L : List NV} {on life r ck : Nat} {dead : Int} {es : List LEnt} {rs : List RowD} (hp : HasOk ⟨ck, es, rs⟩ L) (h : Sat w0 w [rest w1 G, lgBox b g0 g1 on life r dead, smapA r (es.map LEnt.e) ck, bag rs, R]) : Sat w0 w [star2 (lgA b g0 g1 ⟨on, life, L, dead⟩) R, rest w1 G] := by
  have h1 := Sat.shutTold (p := fun m : Nat × HasM => HasOk m.2 (Lb.mk on life L dead).L) (f := fun m => [lgBox b g0 g1 on life m.1 dead, smapA m.1 (m.2.es.map LEnt.e) m.2.ck, bag m.2.rs]) [rest w1 G, R] (r, (⟨ck, es, rs⟩ : HasM)) hp (h.pick [0, 4, 1, 2, 3] (by decide))
  exact ((h1.join (i := 2) (j := 1) rfl rfl (by decide)).pick [2, 0] (by decide))
end
set_option maxRecDepth 100000 in
set_option maxHeartbeats 4000000 in
theorem lget_any (w : World) (G : Nat → Prop) (b g0 g1 : Nat) (on lif : Nat) (LL : List NV) (ded : Int) (nm : Bs) (hvs : ∀ v, getN LL nm = some v → v.length ≤ 1000000) (hS : Sat w w [lgA b g0 g1 ⟨on, lif, LL, ded⟩, rest w G]) : Calls Try.prog 16 #[pt b 0, strV nm] w fun e w' => ∃ A' c', e = .returned (.tuple #[.slice A' ((getN LL nm).getD []).length c', .bool (getN LL nm).isSome]) ∧ Sat w w' [star2 (lgA b g0 g1 ⟨on, lif, LL, ded⟩) (row 5 1 (.slice A' ((getN LL nm).getD []).length c') ((getN LL nm).getD []).length (((getN LL nm).getD []).flatMap yC)), rest w G] := by
 refine enter 22 Try.func16 rfl rfl rfl fun a F => ?_
 obtain ⟨r, ck, es, rs, hok, S⟩ := lg_open1 hS
 have S : Sat w w [rest w G, box b 70 [pt g0 0, pt g1 0, .int .i64 on, .int .u32 (lif : Nat), .map (some r), .int .i64 ded], smapA r (es.map LEnt.e) ck, bag rs] := S
 refine s_reg ?_
 refine l_pk 2 (fun L => (5, .bool false) :: (4, .slice none 0 0) :: L) F fun a F => ?_
 refine l_then ?_
 refine wp_seq ?_
 refine s_reg ?_
 refine l_pk 2 (fun L => (9, .bool false) :: (8, pt b 0) :: L) F fun a F => ?_
 refine l_then ?_
 refine c_f F rfl ?_
 refine wp_skip ?_
 refine then_n ?_
 refine s_reg ?_
 refine l_pk 3 (fun L => (13, pt b 4) :: (12, pt b 0) :: (11, pt b 0) :: L) F fun a F => ?_
 refine l_do F rfl rfl (op_ldk (some ⟨b, 0, none⟩) 4 (.map (some r)) F rfl (cBox S 1 rfl (j := 4) rfl) (fun a F => ?_))
 refine l_pk 1 (fun L => (15, strV nm) :: L) F fun a F => ?_
 rcases getN_cases LL nm with hgn | ⟨vv, hgs⟩
 ·
  refine l_do F rfl rfl (op_slookup S 2 _ 9 36 _ _ true (.slice none 0 0) nm (.tuple #[.slice none 0 0, .bool false]) F rfl rfl (by kernel_rfl) (by kernel_rfl) (by kernel_rfl) (by kernel_rfl) (by kernel_rfl) (by rw [has_none hok hgn]; rfl) (fun a F => ?_))
  refine l_pk 5 (fun L => (7, .bool false) :: (6, .slice none 0 0) :: (18, .bool false) :: (17, .slice none 0 0) :: (10, .tuple #[.slice none 0 0, .bool false]) :: L) F fun a F => ?_
  refine l_then ?_
  refine s_reg ?_
  refine l_pk 1 (fun L => (19, .slice none 0 0) :: L) F fun a F => ?_
  refine l_do F rfl rfl (op_fn F (by kernel_rfl) (clone_mk _ none 0 [] recs_nil) ?_)
  rintro e z ⟨Ac, cc, rfl, g⟩
  have S := S.pushThings g
  refine ⟨_, rfl, ?_⟩
  intro a F
  refine l_pk 3 (fun L => (5, .bool false) :: (4, .slice Ac 0 cc) :: (21, .bool false) :: L) F fun a F => ?_
  refine l_then ?_
  refine wp_ret ?_
  exact fin F [.tmp 4, .tmp 5] [.slice Ac 0 cc, .bool false] rfl ⟨by kernel_rfl, by kernel_rfl, trivial⟩ (.tuple #[.slice Ac 0 cc, .bool false]) rfl ⟨Ac, cc, by rw [hgn]; rfl, by rw [hgn]; exact lg_shut2 hok (S.pick [0, 1, 2, 3, 4] (by decide))⟩
 obtain ⟨Ag, cg, hgt, hgr⟩ := has_some hok hgs
 have hvl : vv.length ≤ 1000000 := hvs vv hgs
 refine l_do F rfl rfl (op_slookup S 2 _ 9 36 _ _ true (.slice none 0 0) nm (.tuple #[.slice Ag vv.length cg, .bool true]) F rfl rfl (by kernel_rfl) (by kernel_rfl) (by kernel_rfl) (by kernel_rfl) (by kernel_rfl) (by rw [hgt]; rfl) (fun a F => ?_))
 refine l_pk 5 (fun L => (7, .bool true) :: (6, .slice Ag vv.length cg) :: (18, .bool true) :: (17, .slice Ag vv.length cg) :: (10, .tuple #[.slice Ag vv.length cg, .bool true]) :: L) F fun a F => ?_
 refine l_then ?_
 refine s_reg ?_
 refine l_pk 1 (fun L => (19, .slice Ag vv.length cg) :: L) F fun a F => ?_
 refine l_do F rfl rfl (op_fn F (by kernel_rfl) (clone_mk _ Ag cg vv (bag_recs S (i := 3) rfl hgr hvl)) ?_)
 rintro e z ⟨Ac, cc, rfl, g⟩
 have S := S.pushThings g
 refine ⟨_, rfl, ?_⟩
 intro a F
 refine l_pk 3 (fun L => (5, .bool true) :: (4, .slice Ac vv.length cc) :: (21, .bool true) :: L) F fun a F => ?_
 refine l_then ?_
 refine wp_ret ?_
 exact fin F [.tmp 4, .tmp 5] [.slice Ac vv.length cc, .bool true] rfl ⟨by kernel_rfl, by kernel_rfl, trivial⟩ (.tuple #[.slice Ac vv.length cc, .bool true]) rfl ⟨Ac, cc, by rw [hgs]; rfl, by rw [hgs]; exact lg_shut2 hok (S.pick [0, 1, 2, 3, 4] (by decide))⟩
set_option maxRecDepth 100000 in
set_option maxHeartbeats 4000000 in
theorem lnames_any (w : World) (G : Nat → Prop) (b g0 g1 : Nat) (on lif : Nat) (LL : List NV) (ded : Int) (hri : Rises LL) (hS : Sat w w [lgA b g0 g1 ⟨on, lif, LL, ded⟩, rest w G]) : Calls Try.prog 15 #[pt b 0] w fun e w' => ∃ A' c', e = .returned (.slice A' (LL.map (·.1)).length c') ∧ Sat w w' [star2 (lgA b g0 g1 ⟨on, lif, LL, ded⟩) (row 9 1 (.slice A' (LL.map (·.1)).length c') (LL.map (·.1)).length ((LL.map (·.1)).flatMap sC)), rest w G] := by
 refine enter 11 Try.func15 rfl rfl rfl fun a F => ?_
 obtain ⟨r, ck, es, rs, hok, S⟩ := lg_open1 hS
 have S : Sat w w [rest w G, box b 70 [pt g0 0, pt g1 0, .int .i64 on, .int .u32 (lif : Nat), .map (some r), .int .i64 ded], smapA r (es.map LEnt.e) ck, bag rs] := S
 dsimp only at hok
 refine s_reg ?_
 refine l_pk 1 (fun L => (2, .slice none 0 0) :: L) F fun a F => ?_
 refine l_then ?_
 refine wp_seq ?_
 refine s_reg ?_
 refine l_pk 2 (fun L => (4, .bool false) :: (3, pt b 0) :: L) F fun a F => ?_
 refine l_then ?_
 refine c_f F rfl ?_
 refine wp_skip ?_
 refine then_n ?_
 refine s_reg ?_
 refine l_pk 3 (fun L => (7, pt b 4) :: (6, pt b 0) :: (5, pt b 0) :: L) F fun a F => ?_
 refine l_do F rfl rfl (op_ldk (some ⟨b, 0, none⟩) 4 (.map (some r)) F rfl (cBox S 1 rfl (j := 4) rfl) (fun a F => ?_))
 refine l_do F rfl rfl (op_fn F (by kernel_rfl) (mkeys_sat S r) ?_)
 rintro e z ⟨qk, rfl, S⟩
 refine ⟨_, rfl, ?_⟩
 intro a F
 refine l_do F rfl rfl (op_fn F (by kernel_rfl) (sorted_at S (i := 2) (j := 4) rfl rfl hok.ok (has_keys hok hri)) ?_)
 rintro e z ⟨Ak, cks, rfl, S⟩
 refine ⟨_, rfl, ?_⟩
 intro a F
 refine l_pk 1 (fun L => (2, .slice Ak ((LL.map (·.1)).length) cks) :: L) F fun a F => ?_
 refine l_then ?_
 refine wp_ret ?_
 exact fin F [.tmp 2] [.slice Ak ((LL.map (·.1)).length) cks] rfl ⟨by kernel_rfl, trivial⟩ (.slice Ak ((LL.map (·.1)).length) cks) rfl ⟨Ak, cks, rfl, lg_shut2 hok (S.pick [0, 1, 2, 3, 5] (by decide))⟩
set_option maxRecDepth 100000 in
set_option maxHeartbeats 4000000 in
theorem llife_any (w : World) (G : Nat → Prop) (b g0 g1 : Nat) (on lif : Nat) (LL : List NV) (ded : Int) (hS : Sat w w [lgA b g0 g1 ⟨on, lif, LL, ded⟩, rest w G]) : Calls Try.prog 14 #[pt b 0] w fun e w' => e = .returned (.int .u32 (lif : Nat)) ∧ Sat w w' [lgA b g0 g1 ⟨on, lif, LL, ded⟩, rest w G] := by
 refine enter 9 Try.func14 rfl rfl rfl fun a F => ?_
 obtain ⟨r, ck, es, rs, hok, S⟩ := lg_open1 hS
 have S : Sat w w [rest w G, box b 70 [pt g0 0, pt g1 0, .int .i64 on, .int .u32 (lif : Nat), .map (some r), .int .i64 ded], smapA r (es.map LEnt.e) ck, bag rs] := S
 refine s_reg ?_
 refine l_pk 1 (fun L => (2, .int .u32 0) :: L) F fun a F => ?_
 refine l_then ?_
 refine wp_seq ?_
 refine s_reg ?_
 refine l_pk 2 (fun L => (4, .bool false) :: (3, pt b 0) :: L) F fun a F => ?_
 refine l_then ?_
 refine c_f F rfl ?_
 refine wp_skip ?_
 refine then_n ?_
 refine s_reg ?_
 refine l_pk 3 (fun L => (7, pt b 3) :: (6, pt b 0) :: (5, pt b 0) :: L) F fun a F => ?_
 refine l_do F rfl rfl (op_ldk (some ⟨b, 0, none⟩) 3 (.int .u32 (lif : Nat)) F rfl (cBox S 1 rfl (j := 3) rfl) (fun a F => ?_))
 refine l_pk 1 (fun L => (2, .int .u32 (lif : Nat)) :: L) F fun a F => ?_
 refine l_then ?_
 refine wp_ret ?_
 exact fin F [.tmp 2] [.int .u32 (lif : Nat)] rfl ⟨by kernel_rfl, trivial⟩ (.int .u32 (lif : Nat)) rfl ⟨rfl, lg_shut1 hok (S.pick [0, 1, 2, 3] (by decide))⟩
set_option maxRecDepth 100000 in
set_option maxHeartbeats 4000000 in
theorem ldead_any (w : World) (G : Nat → Prop) (b g0 g1 : Nat) (on lif : Nat) (LL : List NV) (ded : Int) (hS : Sat w w [lgA b g0 g1 ⟨on, lif, LL, ded⟩, rest w G]) : Calls Try.prog 18 #[pt b 0] w fun e w' => e = .returned (.int .i64 ded) ∧ Sat w w' [lgA b g0 g1 ⟨on, lif, LL, ded⟩, rest w G] := by
 refine enter 5 Try.func18 rfl rfl rfl fun a F => ?_
 obtain ⟨r, ck, es, rs, hok, S⟩ := lg_open1 hS
 have S : Sat w w [rest w G, box b 70 [pt g0 0, pt g1 0, .int .i64 on, .int .u32 (lif : Nat), .map (some r), .int .i64 ded], smapA r (es.map LEnt.e) ck, bag rs] := S
 refine s_reg ?_
 refine l_pk 1 (fun L => (2, .int .i64 0) :: L) F fun a F => ?_
 refine l_then ?_
 refine s_reg ?_
 refine l_pk 1 (fun L => (3, pt b 0) :: L) F fun a F => ?_
 obtain ⟨G9, g9, hin9, hlt9, k9⟩ := S.frameB [1] (by decide) rfl
 refine l_do F rfl rfl (op_fn F (by kernel_rfl) (lup_any _ G9 b (pt g0 0) (pt g1 0) (.int .i64 on) (.int .u32 (lif : Nat)) (.map (some r)) ded g9) ?_)
 rintro e z9 ⟨rfl, g⟩
 have S : Sat w z9 [rest w G, box b 70 [pt g0 0, pt g1 0, .int .i64 on, .int .u32 (lif : Nat), .map (some r), .int .i64 ded], smapA r (es.map LEnt.e) ck, bag rs] := k9 z9 [box b 70 [pt g0 0, pt g1 0, .int .i64 on, .int .u32 (lif : Nat), .map (some r), .int .i64 ded]] rfl g
 clear g g9 k9 hin9 hlt9
 refine ⟨_, rfl, ?_⟩
 intro a F
 refine l_pk 1 (fun L => (2, .int .i64 ded) :: L) F fun a F => ?_
 refine l_then ?_
 refine wp_ret ?_
 exact fin F [.tmp 2] [.int .i64 ded] rfl ⟨by kernel_rfl, trivial⟩ (.int .i64 ded) rfl ⟨rfl, lg_shut1 hok (S.pick [0, 1, 2, 3] (by decide))⟩
section
variable {w : World} {G : Nat → Prop} {b g0 g1 : Nat} {x : Lg}
theorem lput_any (N : Int) (in0 : x.s0.In N) (in1 : x.s1.In N) (hN : N ≤ 1000000) (hon : x.lb.on ≤ 1) (hct : x.lb.L.length ≤ 900000) (nm : Bs) (Av : Option Addr) (cv : Nat) (V : Bs) (hV : Recs 1 yC w Av cv V) (hin : InG G Av (V.flatMap yC)) (hS : Sat w w [lgA b g0 g1 x.lb, sdA g0 x.s0, sdA g1 x.s1, rest w G]) :
    Calls Try.prog 10 #[pt b 0, strV nm, .slice Av V.length cv] w fun e w' => e = .returned (.int .i64 (putT x nm V).1) ∧ Sat w w' [lgA b g0 g1 (putT x nm V).2.lb, sdA g0 (putT x nm V).2.s0, sdA g1 (putT x nm V).2.s1, rest w G] := by
  obtain ⟨⟨on, lif, LL, ded⟩, sd0, sd1⟩ := x
  rcases (show on = 0 ∨ on = 1 from by simp at hon; omega) with rfl | rfl
  · exact lput0_any w G b g0 g1 lif LL ded sd0 sd1 N in0 in1 hN hct nm Av cv V hV hin hS
  · exact lput1_any w G b g0 g1 lif LL ded sd0 sd1 N in0 in1 hN hct nm Av cv V hV hin hS
theorem ldrop_any (N : Int) (in0 : x.s0.In N) (in1 : x.s1.In N) (hN : N ≤ 1000000) (hon : x.lb.on ≤ 1) (nm : Bs) (hnl : nm.length ≤ 1000000) (hS : Sat w w [lgA b g0 g1 x.lb, sdA g0 x.s0, sdA g1 x.s1, rest w G]) :
    Calls Try.prog 11 #[pt b 0, strV nm] w fun e w' => e = .returned (.int .i64 (dropT x nm).1) ∧ Sat w w' [lgA b g0 g1 (dropT x nm).2.lb, sdA g0 (dropT x nm).2.s0, sdA g1 (dropT x nm).2.s1, rest w G] := by
  obtain ⟨⟨on, lif, LL, ded⟩, sd0, sd1⟩ := x
  rcases (show on = 0 ∨ on = 1 from by simp at hon; omega) with rfl | rfl
  · exact ldrop0_any w G b g0 g1 lif LL ded sd0 sd1 N in0 in1 hN nm hnl hS
  · exact ldrop1_any w G b g0 g1 lif LL ded sd0 sd1 N in0 in1 hN nm hnl hS
theorem lsync_any (N : Int) (in0 : x.s0.In N) (in1 : x.s1.In N) (hN : N ≤ 1000000) (hon : x.lb.on ≤ 1) (hS : Sat w w [lgA b g0 g1 x.lb, sdA g0 x.s0, sdA g1 x.s1, rest w G]) :
    Calls Try.prog 12 #[pt b 0] w fun e w' => e = .returned (.int .i64 (syncT x).1) ∧ Sat w w' [lgA b g0 g1 (syncT x).2.lb, sdA g0 (syncT x).2.s0, sdA g1 (syncT x).2.s1, rest w G] := by
  obtain ⟨⟨on, lif, LL, ded⟩, sd0, sd1⟩ := x
  rcases (show on = 0 ∨ on = 1 from by simp at hon; omega) with rfl | rfl
  · exact lsync0_any w G b g0 g1 lif LL ded sd0 sd1 N in0 in1 hN hS
  · exact lsync1_any w G b g0 g1 lif LL ded sd0 sd1 N in0 in1 hN hS
end
end Go.Proofs.Ytidcdfilfccigaa
