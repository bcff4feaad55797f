/- Walk over the law's example. -/
import Derived.Test.YtidcdfilfccigaaLgQ17
import Derived.Test.YtidcdfilfccigaaGmark
namespace Go.Proofs.Ytidcdfilfccigaa
set_option linter.unusedVariables false
set_option linter.unusedSimpArgs false
set_option linter.unnecessarySimpa false
open Go Go.RowKit

section
variable {w0 w : World} {l : List Asn}
theorem InG.rd (S : Sat w0 w l) {is : List Nat} {G : Nat → Prop} (hin : ∀ (j : Nat) (B : Asn) (k : Nat), j ∉ is → l[j]? = some B → (∀ F, B.sat F w → F k) → G k) (j : Nat) (hj : j ∉ is) {c : Nat} {A : Option Addr} {X : Bs} (hi : l[j]? = some (rdA A c X)) : InG G A (X.flatMap yC) := fun ad ha hne => hin j _ _ hj hi fun F hF => hF.2.2.1 ad ha hne
end
section
variable {w : World} {G : Nat → Prop} {b g0 g1 : Nat}
theorem lget_at (lb : Lb) (nm : Bs) (hvs : ∀ v, getN lb.L nm = some v → v.length ≤ 1000000) (hS : Sat w w [lgA b g0 g1 lb, rest w G]) : Calls Try.prog 16 #[pt b 0, strV nm] w fun e w' => ∃ A' c', e = .returned (.tuple #[.slice A' ((getN lb.L nm).getD []).length c', .bool (getN lb.L nm).isSome]) ∧ Sat w w' [star2 (lgA b g0 g1 lb) (row 5 1 (.slice A' ((getN lb.L nm).getD []).length c') ((getN lb.L nm).getD []).length (((getN lb.L nm).getD []).flatMap yC)), rest w G] := by
  obtain ⟨on, lif, LL, ded⟩ := lb
  exact lget_any w G b g0 g1 on lif LL ded nm hvs hS
theorem lget_of {lb : Lb} {nm v : Bs} (hv : getN lb.L nm = some v) (hl : v.length ≤ 1000000) (hS : Sat w w [lgA b g0 g1 lb, rest w G]) : Calls Try.prog 16 #[pt b 0, strV nm] w fun e w' => ∃ A' c', e = .returned (.tuple #[.slice A' v.length c', .bool true]) ∧ Sat w w' [star2 (lgA b g0 g1 lb) (row 5 1 (.slice A' v.length c') v.length (v.flatMap yC)), rest w G] := by
  have h := lget_at lb nm (fun v' hv' => by rw [hv] at hv'; cases hv'; exact hl) hS
  rw [hv] at h
  exact h
theorem lget_no {lb : Lb} {nm : Bs} (hv : getN lb.L nm = none) (hS : Sat w w [lgA b g0 g1 lb, rest w G]) : Calls Try.prog 16 #[pt b 0, strV nm] w fun e w' => ∃ A' c', e = .returned (.tuple #[.slice A' 0 c', .bool false]) ∧ Sat w w' [star2 (lgA b g0 g1 lb) (row 5 1 (.slice A' 0 c') 0 (([] : Bs).flatMap yC)), rest w G] := by
  have h := lget_at lb nm (fun v' hv' => by rw [hv] at hv'; cases hv') hS
  rw [hv] at h
  exact h
theorem lnames_at {lb : Lb} (hri : Rises lb.L) (hS : Sat w w [lgA b g0 g1 lb, rest w G]) : Calls Try.prog 15 #[pt b 0] w fun e w' => ∃ A' c', e = .returned (.slice A' (nmsP lb.L).length c') ∧ Sat w w' [star2 (lgA b g0 g1 lb) (row 9 1 (.slice A' (nmsP lb.L).length c') (nmsP lb.L).length ((nmsP lb.L).flatMap sC)), rest w G] := by
  obtain ⟨on, lif, LL, ded⟩ := lb
  exact lnames_any w G b g0 g1 on lif LL ded hri hS
theorem llife_at (lb : Lb) (hS : Sat w w [lgA b g0 g1 lb, rest w G]) : Calls Try.prog 14 #[pt b 0] w fun e w' => e = .returned (.int .u32 (lb.life : Nat)) ∧ Sat w w' [lgA b g0 g1 lb, rest w G] := by
  obtain ⟨on, lif, LL, ded⟩ := lb
  exact llife_any w G b g0 g1 on lif LL ded hS
theorem ldead_at (lb : Lb) (hS : Sat w w [lgA b g0 g1 lb, rest w G]) : Calls Try.prog 18 #[pt b 0] w fun e w' => e = .returned (.int .i64 lb.dead) ∧ Sat w w' [lgA b g0 g1 lb, rest w G] := by
  obtain ⟨on, lif, LL, ded⟩ := lb
  exact ldead_any w G b g0 g1 on lif LL ded hS
end
/-- The example's logbook: opened, with a value put, opened anew. -/
def aw1 : Lg := (openT .new .new).2
def aw2 : Lg := (putT aw1 [120] [121]).2
def aw2s : Sd := aw2.s0.crs 0 0
def aw3 : Lg := (openT aw2s aw2.s1).2
theorem aw1_ok : (openT .new .new).1 = 0 := by kernel_rfl
theorem aw2_life : aw2.lb.life = 1 := by kernel_rfl
theorem aw2_ok : (putT aw1 [120] [121]).1 = 0 := by kernel_rfl
theorem aw2_dn : aw2s.down = false := by kernel_rfl
theorem aw2_dn1 : aw2.s1.down = false := by kernel_rfl
theorem aw3_ok : (openT aw2s aw2.s1).1 = 0 := by kernel_rfl
theorem aw3_life : aw3.lb.life = 2 := by kernel_rfl
theorem aw3_L : aw3.lb.L = [] := by kernel_rfl
theorem aw1_in : aw1.s0.In 3 ∧ aw1.s1.In 3 := open_in .new .new
theorem aw1_lb : LbOk aw1.lb 262144 := open_lb .new .new
theorem aw2_in : aw2.s0.In 4 ∧ aw2.s1.In 4 := put_in aw1_in.1 aw1_in.2 _ _
theorem aw2s_in : aw2s.In 4 := aw2_in.1.crs 0 0
set_option maxRecDepth 100000 in
set_option maxHeartbeats 4000000 in
theorem awake17 (w : World) : Calls Try.prog 17 #[] w fun e w' => e = .returned (.bool true) ∧ Below w.heap.size w w' := by
 refine enter 59 Try.func17 rfl rfl rfl fun a F => ?_
 have S := Sat.pushRest w
 refine s_reg ?_
 refine l_pk 1 (fun L => (0, .bool false) :: L) F fun a F => ?_
 refine l_then ?_
 refine s_reg ?_
 refine l_do F rfl rfl (op_fn F (by kernel_rfl) (snew_at S) ?_)
 rintro e z ⟨g0, rfl, S⟩
 refine ⟨_, rfl, ?_⟩
 intro a F
 refine l_do F rfl rfl (op_fn F (by kernel_rfl) (snew_at S) ?_)
 rintro e z ⟨g1, rfl, S⟩
 refine ⟨_, rfl, ?_⟩
 intro a F
 refine l_pk 2 (fun L => (2, pt g1 0) :: (1, pt g0 0) :: L) F fun a F => ?_
 refine l_then ?_
 refine s_reg ?_
 refine l_pk 2 (fun L => (14, pt g1 0) :: (13, pt g0 0) :: L) F fun a F => ?_
 obtain ⟨G9, g9, hin9, hlt9, k9⟩ := S.frameB [1, 2] (by decide) rfl
 refine l_do F rfl rfl (op_fn F (by kernel_rfl) (lopen_ok 3 (.mono .new (by decide)) (.mono .new (by decide)) (by decide) rfl rfl aw1_ok g9) ?_)
 rintro e z9 ⟨bl1, rfl, g⟩
 have S : Sat w z9 [rest w (· < w.heap.size), star2 (sdA g0 aw1.s0) (lgA bl1 g0 g1 aw1.lb), sdA g1 aw1.s1] := k9 z9 [star2 (sdA g0 aw1.s0) (lgA bl1 g0 g1 aw1.lb), sdA g1 aw1.s1] rfl g
 clear g g9 k9 hin9 hlt9
 have S := S.open2 (i := 1) rfl
 have S : Sat w z9 [rest w (· < w.heap.size), sdA g0 aw1.s0, sdA g1 aw1.s1, lgA bl1 g0 g1 aw1.lb] := S
 refine ⟨_, rfl, ?_⟩
 intro a F
 refine l_pk 5 (fun L => (4, .int .i64 0) :: (3, pt bl1 0) :: (17, .int .i64 0) :: (16, pt bl1 0) :: (12, .tuple #[pt bl1 0, .int .i64 0]) :: L) F fun a F => ?_
 refine l_then ?_
 refine s_reg ?_
 refine l_pk 1 (fun L => (18, pt bl1 0) :: L) F fun a F => ?_
 refine l_do F rfl rfl (op_buildSlice S _ 1 _ 5 1 yC ([(121 : UInt8)] : List UInt8) F rfl (by kernel_rfl) (by kernel_rfl) (by kernel_rfl) (by unfold maxLen; omega) fun b1 z S a F => ?_)
 refine l_do F rfl rfl (op_convMark S 4 _ 5 _ F rfl rfl rfl rfl (by kernel_rfl) (by kernel_rfl) (by kernel_rfl) fun z S a F => ?_)
 obtain ⟨G9, g9, hin9, hlt9, k9⟩ := S.frameB [3, 1, 2] (by decide) rfl
 refine l_do F rfl rfl (op_fn F (by kernel_rfl) (lput_any (x := aw1) 3 aw1_in.1 aw1_in.2 (by decide) aw1_lb.on (by have := aw1_lb.ct; omega) [120] (some ⟨b1, 0, none⟩) 1 [121] (S.rdOf (i := 4) rfl) (InG.rd S hin9 4 (by decide) rfl) g9) ?_)
 rintro e z9 ⟨rfl, g⟩
 have S : Sat w z9 [rest w (· < w.heap.size), sdA g0 aw2.s0, sdA g1 aw2.s1, lgA bl1 g0 g1 aw2.lb, rdA (some ⟨b1, 0, none⟩) 1 ([(121 : UInt8)] : List UInt8)] := k9 z9 [lgA bl1 g0 g1 aw2.lb, sdA g0 aw2.s0, sdA g1 aw2.s1] rfl g
 clear g g9 k9 hin9 hlt9
 refine ⟨_, rfl, ?_⟩
 intro a F
 refine l_pk 1 (fun L => (5, .int .i64 ((putT aw1 [120] [121]).1)) :: L) F fun a F => ?_
 refine l_then ?_
 refine s_reg ?_
 refine l_pk 1 (fun L => (22, pt g0 0) :: L) F fun a F => ?_
 refine l_do F rfl rfl (op_fn F (by kernel_rfl) (scrash_at S (i := 1) rfl aw2_in.1 (by decide) 0 0) ?_)
 rintro e z ⟨rfl, S⟩
 refine ⟨_, rfl, ?_⟩
 intro a F
 refine l_then ?_
 refine s_reg ?_
 refine l_pk 2 (fun L => (26, pt g1 0) :: (25, pt g0 0) :: L) F fun a F => ?_
 obtain ⟨G9, g9, hin9, hlt9, k9⟩ := S.frameB [1, 2] (by decide) rfl
 refine l_do F rfl rfl (op_fn F (by kernel_rfl) (lopen_ok 4 aw2s_in aw2_in.2 (by decide) aw2_dn aw2_dn1 aw3_ok g9) ?_)
 rintro e z9 ⟨bl2, rfl, g⟩
 have S : Sat w z9 [rest w (· < w.heap.size), star2 (sdA g0 aw3.s0) (lgA bl2 g0 g1 aw3.lb), sdA g1 aw3.s1, lgA bl1 g0 g1 aw2.lb, rdA (some ⟨b1, 0, none⟩) 1 ([(121 : UInt8)] : List UInt8)] := k9 z9 [star2 (sdA g0 aw3.s0) (lgA bl2 g0 g1 aw3.lb), sdA g1 aw3.s1] rfl g
 clear g g9 k9 hin9 hlt9
 have S := S.open2 (i := 1) rfl
 have S : Sat w z9 [rest w (· < w.heap.size), sdA g0 aw3.s0, sdA g1 aw3.s1, lgA bl1 g0 g1 aw2.lb, rdA (some ⟨b1, 0, none⟩) 1 ([(121 : UInt8)] : List UInt8), lgA bl2 g0 g1 aw3.lb] := S
 refine ⟨_, rfl, ?_⟩
 intro a F
 refine l_pk 5 (fun L => (7, .int .i64 0) :: (6, pt bl2 0) :: (29, .int .i64 0) :: (28, pt bl2 0) :: (24, .tuple #[pt bl2 0, .int .i64 0]) :: L) F fun a F => ?_
 refine l_then ?_
 refine s_reg ?_
 refine l_pk 1 (fun L => (31, pt bl2 0) :: L) F fun a F => ?_
 obtain ⟨G9, g9, hin9, hlt9, k9⟩ := S.frameB [5] (by decide) rfl
 refine l_do F rfl rfl (op_fn F (by kernel_rfl) (lget_no (nm := [120]) (by rw [aw3_L]; rfl) g9) ?_)
 rintro e z9 ⟨Ax, cx, rfl, g⟩
 have S : Sat w z9 [rest w (· < w.heap.size), sdA g0 aw3.s0, sdA g1 aw3.s1, lgA bl1 g0 g1 aw2.lb, rdA (some ⟨b1, 0, none⟩) 1 ([(121 : UInt8)] : List UInt8), star2 (lgA bl2 g0 g1 aw3.lb) (row 5 1 (.slice Ax 0 cx) 0 (([] : Bs).flatMap yC))] := k9 z9 [star2 (lgA bl2 g0 g1 aw3.lb) (row 5 1 (.slice Ax 0 cx) 0 (([] : Bs).flatMap yC))] rfl g
 clear g g9 k9 hin9 hlt9
 have S := S.open2 (i := 5) rfl
 have S : Sat w z9 [rest w (· < w.heap.size), sdA g0 aw3.s0, sdA g1 aw3.s1, lgA bl1 g0 g1 aw2.lb, rdA (some ⟨b1, 0, none⟩) 1 ([(121 : UInt8)] : List UInt8), lgA bl2 g0 g1 aw3.lb, row 5 1 (.slice Ax 0 cx) 0 (([] : Bs).flatMap yC)] := S
 refine ⟨_, rfl, ?_⟩
 intro a F
 refine l_pk 5 (fun L => (9, .bool false) :: (8, .slice Ax 0 cx) :: (34, .bool false) :: (33, .slice Ax 0 cx) :: (30, .tuple #[.slice Ax 0 cx, .bool false]) :: L) F fun a F => ?_
 refine l_then ?_
 refine s_reg ?_
 refine l_pk 4 (fun L => (38, .int .i64 ((putT aw1 [120] [121]).1)) :: (37, .bool true) :: (36, .bool true) :: (35, .int .i64 0) :: L) F fun a F => ?_
 refine l_do F rfl rfl (op_pk F (v0 := .bool (((putT aw1 [120] [121]).1 : Int) == (0 : Int))) (v := .bool true) (eqlT aw2_ok) fun a F => ?_)
 refine l_pk 11 (fun L => (50, pt bl1 0) :: (49, .bool true) :: (48, .bool true) :: (47, .bool true) :: (46, .bool false) :: (45, .bool true) :: (44, .bool true) :: (43, .bool true) :: (42, .int .i64 0) :: (41, .bool true) :: (40, .bool true) :: L) F fun a F => ?_
 obtain ⟨G9, g9, hin9, hlt9, k9⟩ := S.frameB [3] (by decide) rfl
 refine l_do F rfl rfl (op_fn F (by kernel_rfl) (llife_at _ g9) ?_)
 rintro e z9 ⟨rfl, g⟩
 have S : Sat w z9 [rest w (· < w.heap.size), sdA g0 aw3.s0, sdA g1 aw3.s1, lgA bl1 g0 g1 aw2.lb, rdA (some ⟨b1, 0, none⟩) 1 ([(121 : UInt8)] : List UInt8), lgA bl2 g0 g1 aw3.lb, row 5 1 (.slice Ax 0 cx) 0 (([] : Bs).flatMap yC)] := k9 z9 [lgA bl1 g0 g1 aw2.lb] rfl g
 clear g g9 k9 hin9 hlt9
 refine ⟨_, rfl, ?_⟩
 intro a F
 refine l_do F rfl rfl (op_pk F (v0 := .bool (((aw2.lb.life : Nat) : Int) == (1 : Int))) (v := .bool true) (eqlT (by rw [aw2_life]; rfl)) fun a F => ?_)
 refine l_pk 3 (fun L => (55, pt bl2 0) :: (54, .bool true) :: (53, .bool true) :: L) F fun a F => ?_
 obtain ⟨G9, g9, hin9, hlt9, k9⟩ := S.frameB [5] (by decide) rfl
 refine l_do F rfl rfl (op_fn F (by kernel_rfl) (llife_at _ g9) ?_)
 rintro e z9 ⟨rfl, g⟩
 have S : Sat w z9 [rest w (· < w.heap.size), sdA g0 aw3.s0, sdA g1 aw3.s1, lgA bl1 g0 g1 aw2.lb, rdA (some ⟨b1, 0, none⟩) 1 ([(121 : UInt8)] : List UInt8), lgA bl2 g0 g1 aw3.lb, row 5 1 (.slice Ax 0 cx) 0 (([] : Bs).flatMap yC)] := k9 z9 [lgA bl2 g0 g1 aw3.lb] rfl g
 clear g g9 k9 hin9 hlt9
 refine ⟨_, rfl, ?_⟩
 intro a F
 refine l_do F rfl rfl (op_pk F (v0 := .bool (((aw3.lb.life : Nat) : Int) == (2 : Int))) (v := .bool true) (eqlT (by rw [aw3_life]; rfl)) fun a F => ?_)
 refine l_pk 2 (fun L => (0, .bool true) :: (58, .bool true) :: L) F fun a F => ?_
 refine l_then ?_
 refine wp_ret ?_
 exact fin F [.tmp 0] [.bool true] rfl ⟨by kernel_rfl, trivial⟩ (.bool true) rfl ⟨rfl, S.below (i := 0) rfl⟩
end Go.Proofs.Ytidcdfilfccigaa
