/- Walk over the law's example. -/
import Derived.Test.YtidcdfilfccigaaLgQ17
import Derived.Test.YtidcdfilfccigaaGmark
namespace Go.Proofs.Ytidcdfilfccigaa
set_option linter.unusedVariables false
set_option linter.unusedSimpArgs false
set_option linter.unnecessarySimpa false
open Go Go.RowKit

section
variable {w0 w : World} {l : List Asn}
theorem InG.rd (S : Sat w0 w l) {is : List Nat} {G : Nat → Prop} (hin : ∀ (j : Nat) (B : Asn) (k : Nat), j ∉ is → l[j]? = some B → (∀ F, B.sat F w → F k) → G k) (j : Nat) (hj : j ∉ is) {c : Nat} {A : Option Addr} {X : Bs} (hi : l[j]? = some (rdA A c X)) : InG G A (X.flatMap yC) := fun ad ha hne => hin j _ _ hj hi fun F hF => hF.2.2.1 ad ha hne
end
section
variable {w : World} {G : Nat → Prop} {b g0 g1 : Nat}
theorem lget_at (lb : Lb) (nm : Bs) (hvs : ∀ v, getN lb.L nm = some v → v.length ≤ 1000000) (hS : Sat w w [lgA b g0 g1 lb, rest w G]) : Calls Try.prog 16 #[.pointer (some ⟨b, 0, none⟩), strV nm] w fun e w' => ∃ A' c', e = .returned (.tuple #[.slice A' ((getN lb.L nm).getD []).length c', .bool (getN lb.L nm).isSome]) ∧ Sat w w' [star2 (lgA b g0 g1 lb) (row 5 1 (.slice A' ((getN lb.L nm).getD []).length c') ((getN lb.L nm).getD []).length (((getN lb.L nm).getD []).flatMap yC)), rest w G] := by
  obtain ⟨on, lif, LL, ded⟩ := lb
  exact lget_any w G b g0 g1 on lif LL ded nm hvs hS
theorem lget_of {lb : Lb} {nm v : Bs} (hv : getN lb.L nm = some v) (hl : v.length ≤ 1000000) (hS : Sat w w [lgA b g0 g1 lb, rest w G]) : Calls Try.prog 16 #[.pointer (some ⟨b, 0, none⟩), strV nm] w fun e w' => ∃ A' c', e = .returned (.tuple #[.slice A' v.length c', .bool true]) ∧ Sat w w' [star2 (lgA b g0 g1 lb) (row 5 1 (.slice A' v.length c') v.length (v.flatMap yC)), rest w G] := by
  have h := lget_at lb nm (fun v' hv' => by rw [hv] at hv'; cases hv'; exact hl) hS
  rw [hv] at h
  exact h
theorem lget_no {lb : Lb} {nm : Bs} (hv : getN lb.L nm = none) (hS : Sat w w [lgA b g0 g1 lb, rest w G]) : Calls Try.prog 16 #[.pointer (some ⟨b, 0, none⟩), strV nm] w fun e w' => ∃ A' c', e = .returned (.tuple #[.slice A' 0 c', .bool false]) ∧ Sat w w' [star2 (lgA b g0 g1 lb) (row 5 1 (.slice A' 0 c') 0 (([] : Bs).flatMap yC)), rest w G] := by
  have h := lget_at lb nm (fun v' hv' => by rw [hv] at hv'; cases hv') hS
  rw [hv] at h
  exact h
theorem lnames_at {lb : Lb} (hri : Rises lb.L) (hS : Sat w w [lgA b g0 g1 lb, rest w G]) : Calls Try.prog 15 #[.pointer (some ⟨b, 0, none⟩)] w fun e w' => ∃ A' c', e = .returned (.slice A' (nmsP lb.L).length c') ∧ Sat w w' [star2 (lgA b g0 g1 lb) (row 9 1 (.slice A' (nmsP lb.L).length c') (nmsP lb.L).length ((nmsP lb.L).flatMap sC)), rest w G] := by
  obtain ⟨on, lif, LL, ded⟩ := lb
  exact lnames_any w G b g0 g1 on lif LL ded hri hS
theorem llife_at (lb : Lb) (hS : Sat w w [lgA b g0 g1 lb, rest w G]) : Calls Try.prog 14 #[.pointer (some ⟨b, 0, none⟩)] w fun e w' => e = .returned (.int .u32 (lb.life : Nat)) ∧ Sat w w' [lgA b g0 g1 lb, rest w G] := by
  obtain ⟨on, lif, LL, ded⟩ := lb
  exact llife_any w G b g0 g1 on lif LL ded hS
theorem ldead_at (lb : Lb) (hS : Sat w w [lgA b g0 g1 lb, rest w G]) : Calls Try.prog 18 #[.pointer (some ⟨b, 0, none⟩)] w fun e w' => e = .returned (.int .i64 lb.dead) ∧ Sat w w' [lgA b g0 g1 lb, rest w G] := by
  obtain ⟨on, lif, LL, ded⟩ := lb
  exact ldead_any w G b g0 g1 on lif LL ded hS
end
/-- The example's logbook: opened, with a value put, opened anew. -/
def aw1 : Lg := (openT .new .new).2
def aw2 : Lg := (putT aw1 [120] [121]).2
def aw2s : Sd := aw2.s0.crs 0 0
def aw3 : Lg := (openT aw2s aw2.s1).2
theorem aw1_ok : (openT .new .new).1 = 0 := by kernel_rfl
theorem aw1_life : aw1.lb.life = 1 := by kernel_rfl
theorem aw2_life : aw2.lb.life = 1 := by kernel_rfl
theorem aw1_L : aw1.lb.L = [] := by kernel_rfl
theorem aw2_ok : (putT aw1 [120] [121]).1 = 0 := by kernel_rfl
theorem aw2_dn : aw2s.down = false := by kernel_rfl
theorem aw2_dn1 : aw2.s1.down = false := by kernel_rfl
theorem aw3_ok : (openT aw2s aw2.s1).1 = 0 := by kernel_rfl
theorem aw3_life : aw3.lb.life = 2 := by kernel_rfl
theorem aw3_L : aw3.lb.L = [] := by kernel_rfl
theorem aw1_in : aw1.s0.In 3 ∧ aw1.s1.In 3 := open_in .new .new
theorem aw1_lb : LbOk aw1.lb 262144 := open_lb .new .new
theorem aw2_in : aw2.s0.In 4 ∧ aw2.s1.In 4 := put_in aw1_in.1 aw1_in.2 _ _
theorem aw2s_in : aw2s.In 4 := aw2_in.1.crs 0 0
set_option maxRecDepth 100000 in
set_option maxHeartbeats 4000000 in
theorem awake17 (w : World) : Calls Try.prog 17 #[] w fun e w' => e = .returned (.bool true) ∧ Below w.heap.size w w' := by
 refine enter 59 Try.func17 rfl rfl rfl fun a F => ?_
 have S := Sat.pushRest w
 refine s_reg ?_
 refine l_pure 1 (fun L => (0, .bool false) :: L) F (by kernel_rfl) fun a F => ?_
 refine l_then ?_
 refine s_reg ?_
 refine l_do F rfl rfl (op_fn F (by kernel_rfl) (snew_at S) ?_)
 rintro e z ⟨g0, rfl, S⟩
 refine ⟨_, rfl, ?_⟩
 intro a F
 refine l_do F rfl rfl (op_fn F (by kernel_rfl) (snew_at S) ?_)
 rintro e z ⟨g1, rfl, S⟩
 refine ⟨_, rfl, ?_⟩
 intro a F
 refine l_pure 2 (fun L => (2, .pointer (some ⟨g1, 0, none⟩)) :: (1, .pointer (some ⟨g0, 0, none⟩)) :: L) F (by kernel_rfl) fun a F => ?_
 refine l_then ?_
 refine s_reg ?_
 refine l_pure 2 (fun L => (14, .pointer (some ⟨g1, 0, none⟩)) :: (13, .pointer (some ⟨g0, 0, none⟩)) :: L) F (by kernel_rfl) fun a F => ?_
 obtain ⟨G9, g9, hin9, hlt9, k9⟩ := S.frameB [1, 2] (by decide) rfl
 refine l_do F rfl rfl (op_fn F (by kernel_rfl) (lopen_ok 3 (.mono .new (by decide)) (.mono .new (by decide)) (by decide) rfl rfl aw1_ok g9) ?_)
 rintro e z9 ⟨bl1, rfl, g⟩
 have S : Sat w z9 [rest w (· < w.heap.size), star2 (sdA g0 aw1.s0) (lgA bl1 g0 g1 aw1.lb), sdA g1 aw1.s1] := k9 z9 [star2 (sdA g0 aw1.s0) (lgA bl1 g0 g1 aw1.lb), sdA g1 aw1.s1] rfl g
 clear g g9 k9 hin9 hlt9
 have S := S.open2 (i := 1) rfl
 have S : Sat w z9 [rest w (· < w.heap.size), sdA g0 aw1.s0, sdA g1 aw1.s1, lgA bl1 g0 g1 aw1.lb] := S
 refine ⟨_, rfl, ?_⟩
 intro a F
 refine l_pure 5 (fun L => (4, .int .i64 0) :: (3, .pointer (some ⟨bl1, 0, none⟩)) :: (17, .int .i64 0) :: (16, .pointer (some ⟨bl1, 0, none⟩)) :: (12, .tuple #[.pointer (some ⟨bl1, 0, none⟩), .int .i64 0]) :: L) F (by kernel_rfl) fun a F => ?_
 refine l_then ?_
 refine s_reg ?_
 refine l_pure 1 (fun L => (18, .pointer (some ⟨bl1, 0, none⟩)) :: L) F (by kernel_rfl) fun a F => ?_
 refine l_do F rfl rfl (op_buildSlice S _ 1 _ 5 1 yC ([(121 : UInt8)] : List UInt8) F rfl (by kernel_rfl) (by kernel_rfl) (by kernel_rfl) (by unfold maxLen; omega) fun b1 z S a F => ?_)
 refine l_do F rfl rfl (op_convMark S 4 _ 5 _ F rfl rfl rfl rfl (by kernel_rfl) (by kernel_rfl) (by kernel_rfl) fun z S a F => ?_)
 obtain ⟨G9, g9, hin9, hlt9, k9⟩ := S.frameB [3, 1, 2] (by decide) rfl
 refine l_do F rfl rfl (op_fn F (by kernel_rfl) (lput_any (x := aw1) 3 aw1_in.1 aw1_in.2 (by decide) aw1_lb.on (by have := aw1_lb.ct; omega) [120] (some ⟨b1, 0, none⟩) 1 [121] (S.rdOf (i := 4) rfl) (InG.rd S hin9 4 (by decide) rfl) g9) ?_)
 rintro e z9 ⟨rfl, g⟩
 have S : Sat w z9 [rest w (· < w.heap.size), sdA g0 aw2.s0, sdA g1 aw2.s1, lgA bl1 g0 g1 aw2.lb, rdA (some ⟨b1, 0, none⟩) 1 ([(121 : UInt8)] : List UInt8)] := k9 z9 [lgA bl1 g0 g1 aw2.lb, sdA g0 aw2.s0, sdA g1 aw2.s1] rfl g
 clear g g9 k9 hin9 hlt9
 refine ⟨_, rfl, ?_⟩
 intro a F
 refine l_pure 1 (fun L => (5, .int .i64 ((putT aw1 [120] [121]).1)) :: L) F (by kernel_rfl) fun a F => ?_
 refine l_then ?_
 refine s_reg ?_
 refine l_pure 1 (fun L => (22, .pointer (some ⟨g0, 0, none⟩)) :: L) F (by kernel_rfl) fun a F => ?_
 refine l_do F rfl rfl (op_fn F (by kernel_rfl) (scrash_at S (i := 1) rfl aw2_in.1 (by decide) 0 0) ?_)
 rintro e z ⟨rfl, S⟩
 refine ⟨_, rfl, ?_⟩
 intro a F
 refine l_then ?_
 refine s_reg ?_
 refine l_pure 2 (fun L => (26, .pointer (some ⟨g1, 0, none⟩)) :: (25, .pointer (some ⟨g0, 0, none⟩)) :: L) F (by kernel_rfl) fun a F => ?_
 obtain ⟨G9, g9, hin9, hlt9, k9⟩ := S.frameB [1, 2] (by decide) rfl
 refine l_do F rfl rfl (op_fn F (by kernel_rfl) (lopen_ok 4 aw2s_in aw2_in.2 (by decide) aw2_dn aw2_dn1 aw3_ok g9) ?_)
 rintro e z9 ⟨bl2, rfl, g⟩
 have S : Sat w z9 [rest w (· < w.heap.size), star2 (sdA g0 aw3.s0) (lgA bl2 g0 g1 aw3.lb), sdA g1 aw3.s1, lgA bl1 g0 g1 aw2.lb, rdA (some ⟨b1, 0, none⟩) 1 ([(121 : UInt8)] : List UInt8)] := k9 z9 [star2 (sdA g0 aw3.s0) (lgA bl2 g0 g1 aw3.lb), sdA g1 aw3.s1] rfl g
 clear g g9 k9 hin9 hlt9
 have S := S.open2 (i := 1) rfl
 have S : Sat w z9 [rest w (· < w.heap.size), sdA g0 aw3.s0, sdA g1 aw3.s1, lgA bl1 g0 g1 aw2.lb, rdA (some ⟨b1, 0, none⟩) 1 ([(121 : UInt8)] : List UInt8), lgA bl2 g0 g1 aw3.lb] := S
 refine ⟨_, rfl, ?_⟩
 intro a F
 refine l_pure 5 (fun L => (7, .int .i64 0) :: (6, .pointer (some ⟨bl2, 0, none⟩)) :: (29, .int .i64 0) :: (28, .pointer (some ⟨bl2, 0, none⟩)) :: (24, .tuple #[.pointer (some ⟨bl2, 0, none⟩), .int .i64 0]) :: L) F (by kernel_rfl) fun a F => ?_
 refine l_then ?_
 refine s_reg ?_
 refine l_pure 1 (fun L => (31, .pointer (some ⟨bl2, 0, none⟩)) :: L) F (by kernel_rfl) fun a F => ?_
 obtain ⟨G9, g9, hin9, hlt9, k9⟩ := S.frameB [5] (by decide) rfl
 refine l_do F rfl rfl (op_fn F (by kernel_rfl) (lget_no (nm := [120]) (by rw [aw3_L]; rfl) g9) ?_)
 rintro e z9 ⟨Ax, cx, rfl, g⟩
 have S : Sat w z9 [rest w (· < w.heap.size), sdA g0 aw3.s0, sdA g1 aw3.s1, lgA bl1 g0 g1 aw2.lb, rdA (some ⟨b1, 0, none⟩) 1 ([(121 : UInt8)] : List UInt8), star2 (lgA bl2 g0 g1 aw3.lb) (row 5 1 (.slice Ax 0 cx) 0 (([] : Bs).flatMap yC))] := k9 z9 [star2 (lgA bl2 g0 g1 aw3.lb) (row 5 1 (.slice Ax 0 cx) 0 (([] : Bs).flatMap yC))] rfl g
 clear g g9 k9 hin9 hlt9
 have S := S.open2 (i := 5) rfl
 have S : Sat w z9 [rest w (· < w.heap.size), sdA g0 aw3.s0, sdA g1 aw3.s1, lgA bl1 g0 g1 aw2.lb, rdA (some ⟨b1, 0, none⟩) 1 ([(121 : UInt8)] : List UInt8), lgA bl2 g0 g1 aw3.lb, row 5 1 (.slice Ax 0 cx) 0 (([] : Bs).flatMap yC)] := S
 refine ⟨_, rfl, ?_⟩
 intro a F
 refine l_pure 5 (fun L => (9, .bool false) :: (8, .slice Ax 0 cx) :: (34, .bool false) :: (33, .slice Ax 0 cx) :: (30, .tuple #[.slice Ax 0 cx, .bool false]) :: L) F (by kernel_rfl) fun a F => ?_
 refine l_then ?_
 refine s_reg ?_
 refine l_pure 4 (fun L => (38, .int .i64 ((putT aw1 [120] [121]).1)) :: (37, .bool true) :: (36, .bool true) :: (35, .int .i64 0) :: L) F (by kernel_rfl) fun a F => ?_
 refine l_do F rfl rfl (op_pure F (v0 := .bool (((putT aw1 [120] [121]).1 : Int) == (0 : Int))) (v := .bool true) (by kernel_rfl) (eqlT aw2_ok) fun a F => ?_)
 refine l_pure 11 (fun L => (50, .pointer (some ⟨bl1, 0, none⟩)) :: (49, .bool true) :: (48, .bool true) :: (47, .bool true) :: (46, .bool false) :: (45, .bool true) :: (44, .bool true) :: (43, .bool true) :: (42, .int .i64 0) :: (41, .bool true) :: (40, .bool true) :: L) F (by kernel_rfl) fun a F => ?_
 obtain ⟨G9, g9, hin9, hlt9, k9⟩ := S.frameB [3] (by decide) rfl
 refine l_do F rfl rfl (op_fn F (by kernel_rfl) (llife_at _ g9) ?_)
 rintro e z9 ⟨rfl, g⟩
 have S : Sat w z9 [rest w (· < w.heap.size), sdA g0 aw3.s0, sdA g1 aw3.s1, lgA bl1 g0 g1 aw2.lb, rdA (some ⟨b1, 0, none⟩) 1 ([(121 : UInt8)] : List UInt8), lgA bl2 g0 g1 aw3.lb, row 5 1 (.slice Ax 0 cx) 0 (([] : Bs).flatMap yC)] := k9 z9 [lgA bl1 g0 g1 aw2.lb] rfl g
 clear g g9 k9 hin9 hlt9
 refine ⟨_, rfl, ?_⟩
 intro a F
 refine l_do F rfl rfl (op_pure F (v0 := .bool (((aw2.lb.life : Nat) : Int) == (1 : Int))) (v := .bool true) (by kernel_rfl) (eqlT (by rw [aw2_life]; rfl)) fun a F => ?_)
 refine l_pure 3 (fun L => (55, .pointer (some ⟨bl2, 0, none⟩)) :: (54, .bool true) :: (53, .bool true) :: L) F (by kernel_rfl) fun a F => ?_
 obtain ⟨G9, g9, hin9, hlt9, k9⟩ := S.frameB [5] (by decide) rfl
 refine l_do F rfl rfl (op_fn F (by kernel_rfl) (llife_at _ g9) ?_)
 rintro e z9 ⟨rfl, g⟩
 have S : Sat w z9 [rest w (· < w.heap.size), sdA g0 aw3.s0, sdA g1 aw3.s1, lgA bl1 g0 g1 aw2.lb, rdA (some ⟨b1, 0, none⟩) 1 ([(121 : UInt8)] : List UInt8), lgA bl2 g0 g1 aw3.lb, row 5 1 (.slice Ax 0 cx) 0 (([] : Bs).flatMap yC)] := k9 z9 [lgA bl2 g0 g1 aw3.lb] rfl g
 clear g g9 k9 hin9 hlt9
 refine ⟨_, rfl, ?_⟩
 intro a F
 refine l_do F rfl rfl (op_pure F (v0 := .bool (((aw3.lb.life : Nat) : Int) == (2 : Int))) (v := .bool true) (by kernel_rfl) (eqlT (by rw [aw3_life]; rfl)) fun a F => ?_)
 refine l_pure 2 (fun L => (0, .bool true) :: (58, .bool true) :: L) F (by kernel_rfl) fun a F => ?_
 refine l_then ?_
 refine wp_ret ?_
 exact fin F [.tmp 0] [.bool true] rfl ⟨by kernel_rfl, trivial⟩ (.bool true) rfl ⟨rfl, S.below (i := 0) rfl⟩
theorem app_ne8 (s : Sd) (n : Nat) : ¬ s.appE n = 8 := by
  unfold Sd.appE Sd.stepE
  split
  · decide
  · split
    · decide
    · split <;> decide
theorem put_8 {nm V : Bs} (h : (255 : Int) < (nm.length : Nat) ∨ (4096 : Int) < (V.length : Nat)) : (putT aw1 nm V).1 = 8 := by
  unfold putT
  rw [if_neg (by decide +kernel), if_pos (by omega)]
theorem put_n8 {nm V : Bs} (h : ¬ (255 : Int) < (nm.length : Nat)) (h2 : ¬ (4096 : Int) < (V.length : Nat)) : ¬ (putT aw1 nm V).1 = 8 := by
  unfold putT
  rw [if_neg (by decide +kernel), if_neg (by omega)]
  exact app_ne8 aw1.cur _
set_option maxRecDepth 100000 in
set_option maxHeartbeats 4000000 in
theorem nil17_law (w : World) (nm : Bs) (Av : Option Addr) (cv : Nat) (V : Bs) (hV : Recs 1 yC w Av cv V) : Calls Try.prog 4 #[strV nm, .slice Av V.length cv] w fun e w' => e = .returned (.bool true) ∧ Below w.heap.size w w' := by
 refine enter 106 Try.func4 rfl rfl rfl fun a F => ?_
 have S := Sat.pushRest w
 refine s_reg ?_
 refine l_pure 1 (fun L => (4, .bool false) :: L) F (by kernel_rfl) fun a F => ?_
 refine l_then ?_
 refine s_reg ?_
 refine l_pure 1 (fun L => (5, .pointer none) :: L) F (by kernel_rfl) fun a F => ?_
 refine l_then ?_
 refine s_reg ?_
 refine l_do F rfl rfl (op_fn F (by kernel_rfl) (snew_at S) ?_)
 rintro e z ⟨g0, rfl, S⟩
 refine ⟨_, rfl, ?_⟩
 intro a F
 refine l_do F rfl rfl (op_fn F (by kernel_rfl) (lopen_nil0 _ g0) ?_)
 rintro e z ⟨rfl, hb⟩
 have S := S.grow hb
 refine ⟨_, rfl, ?_⟩
 intro a F
 refine l_pure 5 (fun L => (7, .int .i64 2) :: (6, .pointer none) :: (19, .int .i64 2) :: (18, .pointer none) :: (15, .tuple #[.pointer none, .int .i64 2]) :: L) F (by kernel_rfl) fun a F => ?_
 refine l_then ?_
 refine s_reg ?_
 refine l_do F rfl rfl (op_fn F (by kernel_rfl) (snew_at S) ?_)
 rintro e z ⟨g1, rfl, S⟩
 refine ⟨_, rfl, ?_⟩
 intro a F
 obtain ⟨G9, g9, hin9, hlt9, k9⟩ := S.frameB [2] (by decide) rfl
 refine l_do F rfl rfl (op_fn F (by kernel_rfl) (lopen_nil1 _ G9 g1 Sd.new 3 (.mono .new (by decide)) (by decide) rfl g9) ?_)
 rintro e z9 ⟨rfl, g⟩
 have S : Sat w z9 [rest w (· < w.heap.size), sdA g0 Sd.new, sdA g1 Sd.new] := k9 z9 [sdA g1 Sd.new] rfl g
 clear g g9 k9 hin9 hlt9
 refine ⟨_, rfl, ?_⟩
 intro a F
 refine l_pure 5 (fun L => (9, .int .i64 2) :: (8, .pointer none) :: (24, .int .i64 2) :: (23, .pointer none) :: (20, .tuple #[.pointer none, .int .i64 2]) :: L) F (by kernel_rfl) fun a F => ?_
 refine l_then ?_
 refine s_reg ?_
 refine l_pure 2 (fun L => (27, strV nm) :: (26, .pointer none) :: L) F (by kernel_rfl) fun a F => ?_
 refine l_do F rfl rfl (op_fn F (by kernel_rfl) (lget_nil _ nm) ?_)
 rintro e z ⟨rfl, hb⟩
 have S := S.grow hb
 refine ⟨_, rfl, ?_⟩
 intro a F
 refine l_pure 5 (fun L => (11, .bool false) :: (10, .slice none 0 0) :: (30, .bool false) :: (29, .slice none 0 0) :: (25, .tuple #[.slice none 0 0, .bool false]) :: L) F (by kernel_rfl) fun a F => ?_
 refine l_then ?_
 refine s_reg ?_
 refine l_do F rfl rfl (op_fn F (by kernel_rfl) (snew_at S) ?_)
 rintro e z ⟨g2, rfl, S⟩
 refine ⟨_, rfl, ?_⟩
 intro a F
 refine l_do F rfl rfl (op_fn F (by kernel_rfl) (snew_at S) ?_)
 rintro e z ⟨g3, rfl, S⟩
 refine ⟨_, rfl, ?_⟩
 intro a F
 obtain ⟨G9, g9, hin9, hlt9, k9⟩ := S.frameB [3, 4] (by decide) rfl
 refine l_do F rfl rfl (op_fn F (by kernel_rfl) (lopen_ok 3 (.mono .new (by decide)) (.mono .new (by decide)) (by decide) rfl rfl aw1_ok g9) ?_)
 rintro e z9 ⟨bl1, rfl, g⟩
 have S : Sat w z9 [rest w (· < w.heap.size), sdA g0 Sd.new, sdA g1 Sd.new, star2 (sdA g2 aw1.s0) (lgA bl1 g2 g3 aw1.lb), sdA g3 aw1.s1] := k9 z9 [star2 (sdA g2 aw1.s0) (lgA bl1 g2 g3 aw1.lb), sdA g3 aw1.s1] rfl g
 clear g g9 k9 hin9 hlt9
 have S := S.open2 (i := 3) rfl
 have S : Sat w z9 [rest w (· < w.heap.size), sdA g0 Sd.new, sdA g1 Sd.new, sdA g2 aw1.s0, sdA g3 aw1.s1, lgA bl1 g2 g3 aw1.lb] := S
 refine ⟨_, rfl, ?_⟩
 intro a F
 refine l_pure 5 (fun L => (13, .int .i64 0) :: (12, .pointer (some ⟨bl1, 0, none⟩)) :: (36, .int .i64 0) :: (35, .pointer (some ⟨bl1, 0, none⟩)) :: (31, .tuple #[.pointer (some ⟨bl1, 0, none⟩), .int .i64 0]) :: L) F (by kernel_rfl) fun a F => ?_
 refine l_then ?_
 refine s_reg ?_
 refine l_pure 3 (fun L => (39, .slice Av V.length cv) :: (38, strV nm) :: (37, .pointer (some ⟨bl1, 0, none⟩)) :: L) F (by kernel_rfl) fun a F => ?_
 obtain ⟨G9, g9, hin9, hlt9, k9⟩ := S.frameB [5, 3, 4] (by decide) rfl
 refine l_do F rfl rfl (op_fn F (by kernel_rfl) (lput_any (x := aw1) 3 aw1_in.1 aw1_in.2 (by decide) aw1_lb.on (by have := aw1_lb.ct; omega) nm Av cv V (hV.mono (src_rest S (i := 0) rfl hV.src (src_lt hV.src))) (InG.rest hin9 0 (by decide) rfl (InG.all hV.src)) g9) ?_)
 rintro e z9 ⟨rfl, g⟩
 have S : Sat w z9 [rest w (· < w.heap.size), sdA g0 Sd.new, sdA g1 Sd.new, sdA g2 (putT aw1 nm V).2.s0, sdA g3 (putT aw1 nm V).2.s1, lgA bl1 g2 g3 (putT aw1 nm V).2.lb] := k9 z9 [lgA bl1 g2 g3 (putT aw1 nm V).2.lb, sdA g2 (putT aw1 nm V).2.s0, sdA g3 (putT aw1 nm V).2.s1] rfl g
 clear g g9 k9 hin9 hlt9
 refine ⟨_, rfl, ?_⟩
 intro a F
 refine l_pure 1 (fun L => (14, .int .i64 ((putT aw1 nm V).1)) :: L) F (by kernel_rfl) fun a F => ?_
 refine l_then ?_
 refine s_reg ?_
 refine l_do F rfl rfl (op_fn F (by kernel_rfl) (awake17 _) ?_)
 rintro e z ⟨rfl, hb⟩
 have S := S.grow hb
 refine ⟨_, rfl, ?_⟩
 intro a F
 refine l_pure 16 (fun L => (57, .slice Av V.length cv) :: (56, strV nm) :: (55, .pointer none) :: (54, .bool true) :: (53, .bool true) :: (52, .bool true) :: (51, .bool false) :: (50, .bool true) :: (49, .bool true) :: (48, .bool true) :: (47, .int .i64 2) :: (46, .bool true) :: (45, .bool true) :: (44, .bool true) :: (43, .int .i64 2) :: (42, .bool true) :: L) F (by kernel_rfl) fun a F => ?_
 refine l_do F rfl rfl (op_fn F (by kernel_rfl) (lput_nil _ nm Av V.length cv) ?_)
 rintro e z ⟨rfl, hb⟩
 have S := S.grow hb
 refine ⟨_, rfl, ?_⟩
 intro a F
 refine l_pure 5 (fun L => (63, strV nm) :: (62, .pointer none) :: (61, .bool true) :: (60, .bool true) :: (59, .bool true) :: L) F (by kernel_rfl) fun a F => ?_
 refine l_do F rfl rfl (op_fn F (by kernel_rfl) (ldrop_nil _ nm) ?_)
 rintro e z ⟨rfl, hb⟩
 have S := S.grow hb
 refine ⟨_, rfl, ?_⟩
 intro a F
 refine l_pure 4 (fun L => (68, .pointer none) :: (67, .bool true) :: (66, .bool true) :: (65, .bool true) :: L) F (by kernel_rfl) fun a F => ?_
 refine l_do F rfl rfl (op_fn F (by kernel_rfl) (lsync_nil _) ?_)
 rintro e z ⟨rfl, hb⟩
 have S := S.grow hb
 refine ⟨_, rfl, ?_⟩
 intro a F
 refine l_pure 4 (fun L => (73, .pointer none) :: (72, .bool true) :: (71, .bool true) :: (70, .bool true) :: L) F (by kernel_rfl) fun a F => ?_
 refine l_do F rfl rfl (op_fn F (by kernel_rfl) (lcompact_nil _) ?_)
 rintro e z ⟨rfl, hb⟩
 have S := S.grow hb
 refine ⟨_, rfl, ?_⟩
 intro a F
 refine l_pure 4 (fun L => (78, .pointer none) :: (77, .bool true) :: (76, .bool true) :: (75, .bool true) :: L) F (by kernel_rfl) fun a F => ?_
 refine l_do F rfl rfl (op_fn F (by kernel_rfl) (lnames_nil _) ?_)
 rintro e z ⟨rfl, hb⟩
 have S := S.grow hb
 refine ⟨_, rfl, ?_⟩
 intro a F
 refine l_pure 5 (fun L => (84, .pointer none) :: (83, .bool true) :: (82, .bool true) :: (81, .bool true) :: (80, .int .i64 0) :: L) F (by kernel_rfl) fun a F => ?_
 refine l_do F rfl rfl (op_fn F (by kernel_rfl) (llife_nil _) ?_)
 rintro e z ⟨rfl, hb⟩
 have S := S.grow hb
 refine ⟨_, rfl, ?_⟩
 intro a F
 refine l_pure 4 (fun L => (89, .pointer none) :: (88, .bool true) :: (87, .bool true) :: (86, .bool true) :: L) F (by kernel_rfl) fun a F => ?_
 refine l_do F rfl rfl (op_fn F (by kernel_rfl) (ldead_nil _) ?_)
 rintro e z ⟨rfl, hb⟩
 have S := S.grow hb
 refine ⟨_, rfl, ?_⟩
 intro a F
 refine l_pure 4 (fun L => (94, .int .i64 ((putT aw1 nm V).1)) :: (93, .bool true) :: (92, .bool true) :: (91, .bool true) :: L) F (by kernel_rfl) fun a F => ?_
 by_cases ht1 : (255 : Int) < ((nm.length : Nat) : Int)
 ·
  skip
  refine l_do F rfl rfl (op_pure F (v0 := .bool (((putT aw1 nm V).1 : Int) == (8 : Int))) (v := .bool true) (by kernel_rfl) (eqlT (put_8 (.inl ht1))) fun a F => ?_)
  refine l_pure 1 (fun L => (96, strV nm) :: L) F (by kernel_rfl) fun a F => ?_
  refine l_do F rfl rfl (op_strlen _ _ nm F rfl (by kernel_rfl) (by kernel_rfl) (fun a F => ?_))
  refine l_do F rfl rfl (op_pure F (v0 := .bool (decide (((nm.length : Nat) : Int) > (255 : Int)))) (v := .bool true) (by kernel_rfl) (gtrT ht1) fun a F => ?_)
  refine l_pure 8 (fun L => (4, .bool true) :: (105, .bool true) :: (104, .bool true) :: (103, .bool true) :: (102, undef) :: (101, undef) :: (100, undef) :: (99, .bool true) :: L) F (by kernel_rfl) fun a F => ?_
  refine l_then ?_
  refine wp_ret ?_
  exact fin F [.tmp 4] [.bool true] rfl ⟨by kernel_rfl, trivial⟩ (.bool true) rfl ⟨rfl, S.below (i := 0) rfl⟩
 ·
  skip
  by_cases ht2 : (4096 : Int) < ((V.length : Nat) : Int)
  ·
   skip
   refine l_do F rfl rfl (op_pure F (v0 := .bool (((putT aw1 nm V).1 : Int) == (8 : Int))) (v := .bool true) (by kernel_rfl) (eqlT (put_8 (.inr ht2))) fun a F => ?_)
   refine l_pure 1 (fun L => (96, strV nm) :: L) F (by kernel_rfl) fun a F => ?_
   refine l_do F rfl rfl (op_strlen _ _ nm F rfl (by kernel_rfl) (by kernel_rfl) (fun a F => ?_))
   refine l_do F rfl rfl (op_pure F (v0 := .bool (decide (((nm.length : Nat) : Int) > (255 : Int)))) (v := .bool false) (by kernel_rfl) (gtrF ht1) fun a F => ?_)
   refine l_pure 3 (fun L => (101, .int .i64 (V.length : Nat)) :: (100, .slice Av V.length cv) :: (99, .bool false) :: L) F (by kernel_rfl) fun a F => ?_
   refine l_do F rfl rfl (op_pure F (v0 := .bool (decide (((V.length : Nat) : Int) > (4096 : Int)))) (v := .bool true) (by kernel_rfl) (gtrT ht2) fun a F => ?_)
   refine l_pure 4 (fun L => (4, .bool true) :: (105, .bool true) :: (104, .bool true) :: (103, .bool true) :: L) F (by kernel_rfl) fun a F => ?_
   refine l_then ?_
   refine wp_ret ?_
   exact fin F [.tmp 4] [.bool true] rfl ⟨by kernel_rfl, trivial⟩ (.bool true) rfl ⟨rfl, S.below (i := 0) rfl⟩
  ·
   skip
   refine l_do F rfl rfl (op_pure F (v0 := .bool (((putT aw1 nm V).1 : Int) == (8 : Int))) (v := .bool false) (by kernel_rfl) (eqlF (put_n8 ht1 ht2)) fun a F => ?_)
   refine l_pure 1 (fun L => (96, strV nm) :: L) F (by kernel_rfl) fun a F => ?_
   refine l_do F rfl rfl (op_strlen _ _ nm F rfl (by kernel_rfl) (by kernel_rfl) (fun a F => ?_))
   refine l_do F rfl rfl (op_pure F (v0 := .bool (decide (((nm.length : Nat) : Int) > (255 : Int)))) (v := .bool false) (by kernel_rfl) (gtrF ht1) fun a F => ?_)
   refine l_pure 3 (fun L => (101, .int .i64 (V.length : Nat)) :: (100, .slice Av V.length cv) :: (99, .bool false) :: L) F (by kernel_rfl) fun a F => ?_
   refine l_do F rfl rfl (op_pure F (v0 := .bool (decide (((V.length : Nat) : Int) > (4096 : Int)))) (v := .bool false) (by kernel_rfl) (gtrF ht2) fun a F => ?_)
   refine l_pure 4 (fun L => (4, .bool true) :: (105, .bool true) :: (104, .bool true) :: (103, .bool false) :: L) F (by kernel_rfl) fun a F => ?_
   refine l_then ?_
   refine wp_ret ?_
   exact fin F [.tmp 4] [.bool true] rfl ⟨by kernel_rfl, trivial⟩ (.bool true) rfl ⟨rfl, S.below (i := 0) rfl⟩
end Go.Proofs.Ytidcdfilfccigaa
