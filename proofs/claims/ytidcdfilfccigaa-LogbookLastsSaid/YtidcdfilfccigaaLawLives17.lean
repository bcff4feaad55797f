/- Walk over the law LogbookLives. -/
import Derived.Test.YtidcdfilfccigaaAwk17
import Derived.Test.YtidcdfilfccigaaHas17
import Derived.Test.YtidcdfilfccigaaInw17
import Derived.Test.YtidcdfilfccigaaRead17
namespace Go.Proofs.Ytidcdfilfccigaa
set_option linter.unusedVariables false
set_option linter.unusedSimpArgs false
set_option linter.unnecessarySimpa false
open Go Go.RowKit

theorem inv_in {x : Lg} {may : List (List NV)} {i : Nat} (h : Inv x may i) : x.s0.In (3 * (i : Int) + 3) ∧ x.s1.In (3 * (i : Int) + 3) := by
  have hc := h.ci
  have ho := h.oi
  unfold Lg.cur at hc
  unfold Lg.oth at ho
  by_cases hx : x.lb.on = 0
  · rw [if_pos hx] at hc ho; exact ⟨hc, ho⟩
  · rw [if_neg hx] at hc ho; exact ⟨ho, hc⟩
theorem aw1_fine : Fine aw1 := ⟨⟨by kernel_rfl, by kernel_rfl⟩, ⟨by kernel_rfl, by kernel_rfl⟩, by kernel_rfl⟩
theorem aw1_inv : Inv aw1 [[]] 0 := by
  have e : aw1.lb = ⟨0, 1, [], 0⟩ := by
    have e1 : aw1.lb.on = 0 := by kernel_rfl
    have e2 : aw1.lb.dead = 0 := by kernel_rfl
    have e3 := aw1_life
    have e4 := aw1_L
    revert e1 e2 e3 e4
    cases aw1.lb
    rintro rfl rfl rfl rfl
    rfl
  unfold Inv
  rw [e]
  refine inv_new (k := 0) (by decide) ⟨Rises.nil, nofun, nofun, by decide⟩ (by decide) (by decide) (by decide) (by kernel_rfl) (by kernel_rfl) (cur_in aw1_in.1 aw1_in.2) (oth_in aw1_in.1 aw1_in.2) ?_
  intro k z hkz
  have e5 : aw1.oth.L = [] := by kernel_rfl
  have e6 : aw1.oth.S = [] := by kernel_rfl
  rw [e5] at hkz ⊢
  rw [e6]
  simp only [List.length_nil] at hkz
  have hz : z = 0 := by omega
  rw [hz]
  simp only [List.take_nil, List.nil_append, List.replicate_zero]
  decide
section
variable {w0 w : World} {l : List Asn}
theorem InG.sb (S : Sat w0 w l) {is : List Nat} {G : Nat → Prop} (hin : ∀ (j : Nat) (B : Asn) (k : Nat), j ∉ is → l[j]? = some B → (∀ F, B.sat F w → F k) → G k) (j : Nat) (hj : j ∉ is) {b c : Nat} {T : TypeId} {X : Bs} {xs : List Value} (hi : l[j]? = some (sbA b T X c)) : InG G (some ⟨b, 0, none⟩) xs := fun ad ha _ => hin j _ _ hj hi fun F hF => by
  cases ha
  exact hF.1 ▸ rfl
end
def fitsB (nm vl : Bs) : Bool := decide (nm.length ≤ 300) && decide (vl.length ≤ 5000)
theorem fits_t {nm vl : Bs} (h : fitsB nm vl = true) : nm.length ≤ 300 ∧ vl.length ≤ 5000 := by
  unfold fitsB at h
  rw [Bool.and_eq_true] at h
  exact ⟨of_decide_eq_true h.1, of_decide_eq_true h.2⟩
theorem fits_no1 {nm vl : Bs} (h : ¬ (nm.length : Int) ≤ 300) : fitsB nm vl = false := by unfold fitsB; rw [decide_eq_false (by omega)]; rfl
theorem fits_no2 {nm vl : Bs} (h : ¬ (vl.length : Int) ≤ 5000) : fitsB nm vl = false := by unfold fitsB; rw [decide_eq_false (p := vl.length ≤ 5000) (by omega), Bool.and_false]
theorem fits_yes {nm vl : Bs} (h : (nm.length : Int) ≤ 300) (h2 : (vl.length : Int) ≤ 5000) : fitsB nm vl = true := by unfold fitsB; rw [decide_eq_true (by omega), decide_eq_true (by omega)]; rfl
set_option maxRecDepth 100000 in
set_option maxHeartbeats 4000000 in
theorem fits17 (w : World) (o : OpV) : Calls Try.prog 9 #[.agg #[.int .i64 o.kind, strV o.nm, strV o.vl, .int .u8 (o.wh : Nat), .int .i64 o.n, .int .i64 o.k0, .int .i64 o.k1, .int .i64 o.z0, .int .i64 o.z1]] w fun e w' => e = .returned (.bool (fitsB o.nm o.vl)) ∧ Below w.heap.size w w' := by
 refine enter 13 Try.func9 rfl rfl rfl fun a F => ?_
 have S := Sat.pushRest w
 refine s_reg ?_
 refine l_do F rfl rfl (op_box S _ _ (.agg #[.int .i64 o.kind, strV o.nm, strV o.vl, .int .u8 (o.wh : Nat), .int .i64 o.n, .int .i64 o.k0, .int .i64 o.k1, .int .i64 o.z0, .int .i64 o.z1]) F rfl (by kernel_rfl) fun b1 z S a F => ?_)
 refine l_pure 1 (fun L => (2, .bool false) :: L) F (by kernel_rfl) fun a F => ?_
 refine l_then ?_
 refine s_reg ?_
 refine l_pure 1 (fun L => (3, .pointer (some ⟨b1, 1, none⟩)) :: L) F (by kernel_rfl) fun a F => ?_
 refine l_do F rfl rfl (op_load _ _ (some ⟨b1, 0, none⟩) 1 (strV o.nm) F rfl (by kernel_rfl) (by kernel_rfl) (cBox S 1 rfl (j := 1) rfl) (fun a F => ?_))
 refine l_do F rfl rfl (op_strlen _ _ o.nm F rfl (by kernel_rfl) (by kernel_rfl) (fun a F => ?_))
 by_cases ht2 : ((o.nm.length : Nat) : Int) ≤ (300 : Int)
 ·
  skip
  refine l_do F rfl rfl (op_pure F (v0 := .bool (decide (((o.nm.length : Nat) : Int) ≤ (300 : Int)))) (v := .bool true) (by kernel_rfl) (leqT ht2) fun a F => ?_)
  refine l_pure 2 (fun L => (8, .pointer (some ⟨b1, 2, none⟩)) :: (7, .bool true) :: L) F (by kernel_rfl) fun a F => ?_
  refine l_do F rfl rfl (op_load _ _ (some ⟨b1, 0, none⟩) 2 (strV o.vl) F rfl (by kernel_rfl) (by kernel_rfl) (cBox S 1 rfl (j := 2) rfl) (fun a F => ?_))
  refine l_do F rfl rfl (op_strlen _ _ o.vl F rfl (by kernel_rfl) (by kernel_rfl) (fun a F => ?_))
  by_cases ht3 : ((o.vl.length : Nat) : Int) ≤ (5000 : Int)
  ·
   skip
   refine l_do F rfl rfl (op_pure F (v0 := .bool (decide (((o.vl.length : Nat) : Int) ≤ (5000 : Int)))) (v := .bool true) (by kernel_rfl) (leqT ht3) fun a F => ?_)
   refine l_pure 2 (fun L => (2, .bool true) :: (12, .bool true) :: L) F (by kernel_rfl) fun a F => ?_
   refine l_then ?_
   refine wp_ret ?_
   exact fin F [.tmp 2] [.bool true] rfl ⟨by kernel_rfl, trivial⟩ (.bool true) rfl ⟨by rw [fits_yes ht2 ht3], S.below (i := 0) rfl⟩
  ·
   skip
   refine l_do F rfl rfl (op_pure F (v0 := .bool (decide (((o.vl.length : Nat) : Int) ≤ (5000 : Int)))) (v := .bool false) (by kernel_rfl) (leqF ht3) fun a F => ?_)
   refine l_pure 2 (fun L => (2, .bool false) :: (12, .bool false) :: L) F (by kernel_rfl) fun a F => ?_
   refine l_then ?_
   refine wp_ret ?_
   exact fin F [.tmp 2] [.bool false] rfl ⟨by kernel_rfl, trivial⟩ (.bool false) rfl ⟨by rw [fits_no2 ht3], S.below (i := 0) rfl⟩
 ·
  skip
  refine l_do F rfl rfl (op_pure F (v0 := .bool (decide (((o.nm.length : Nat) : Int) ≤ (300 : Int)))) (v := .bool false) (by kernel_rfl) (leqF ht2) fun a F => ?_)
  refine l_pure 7 (fun L => (2, .bool false) :: (12, .bool false) :: (11, undef) :: (10, undef) :: (9, undef) :: (8, undef) :: (7, .bool false) :: L) F (by kernel_rfl) fun a F => ?_
  refine l_then ?_
  refine wp_ret ?_
  exact fin F [.tmp 2] [.bool false] rfl ⟨by kernel_rfl, trivial⟩ (.bool false) rfl ⟨by rw [fits_no1 ht2], S.below (i := 0) rfl⟩
section
variable {x : Lg} {may : List (List NV)} {i : Nat} {n v : Bs}
theorem lives_put (hF : Fine x) (hI : Inv x may i) (hi : i ≤ 55) (n v : Bs) : ((putT x n v).1 = 0 ∧ (putT x n v).2.lb = ⟨x.lb.on, x.lb.life, putN x.lb.L (n, v), 0⟩ ∧ Fine (putT x n v).2 ∧ ∃ m, Inv (putT x n v).2 m (i + 1)) ∨ (¬ (putT x n v).1 = 0 ∧ (putT x n v).2 = x) := by
  by_cases h : 255 < n.length ∨ 4096 < v.length
  · obtain ⟨a, b⟩ := fine_big hF h
    exact .inr ⟨by rw [a]; decide, b⟩
  · obtain ⟨a, b, c⟩ := fine_put hF hI hi (n := n) (v := v) (by omega) (by omega)
    exact .inl ⟨a, b, c, _, (inv_put hI hi n v).1⟩
theorem del_no {L : List NV} {n : Bs} (h : getN L n = none) : delN L n = L := by
  unfold delN
  rw [List.filter_eq_self]
  intro y hy
  unfold getN at h
  rw [Option.map_eq_none_iff, List.find?_eq_none] at h
  have := h y hy
  simp only [Bool.not_eq_true] at this
  rw [this]; rfl
end
set_option maxRecDepth 100000 in
set_option maxHeartbeats 4000000 in
theorem lives17_law (w : World) (Ao : Option Addr) (co : Nat) (O : List OpV) (hO : Recs 9 opC w Ao co O) (hOk : ∀ o ∈ O, StOk o) : Calls Try.prog 3 #[.slice Ao O.length co] w fun e w' => e = .returned (.bool true) ∧ Below w.heap.size w w' := by
 refine enter 156 Try.func3 rfl rfl rfl fun a F => ?_
 have S := Sat.pushRest w
 refine s_reg ?_
 refine l_pure 1 (fun L => (2, .bool false) :: L) F (by kernel_rfl) fun a F => ?_
 refine l_then ?_
 refine s_reg ?_
 refine l_do F rfl rfl (op_fn F (by kernel_rfl) (snew_at S) ?_)
 rintro e z ⟨g0, rfl, S⟩
 refine ⟨_, rfl, ?_⟩
 intro a F
 refine l_do F rfl rfl (op_fn F (by kernel_rfl) (snew_at S) ?_)
 rintro e z ⟨g1, rfl, S⟩
 refine ⟨_, rfl, ?_⟩
 intro a F
 refine l_pure 2 (fun L => (4, .pointer (some ⟨g1, 0, none⟩)) :: (3, .pointer (some ⟨g0, 0, none⟩)) :: L) F (by kernel_rfl) fun a F => ?_
 refine l_then ?_
 refine s_reg ?_
 refine l_pure 2 (fun L => (23, .pointer (some ⟨g1, 0, none⟩)) :: (22, .pointer (some ⟨g0, 0, none⟩)) :: L) F (by kernel_rfl) fun a F => ?_
 obtain ⟨G9, g9, hin9, hlt9, k9⟩ := S.frameB [1, 2] (by decide) rfl
 refine l_do F rfl rfl (op_fn F (by kernel_rfl) (lopen_ok 3 (.mono .new (by decide)) (.mono .new (by decide)) (by decide) rfl rfl aw1_ok g9) ?_)
 rintro e z9 ⟨bl1, rfl, g⟩
 have S : Sat w z9 [rest w (· < w.heap.size), star2 (sdA g0 aw1.s0) (lgA bl1 g0 g1 aw1.lb), sdA g1 aw1.s1] := k9 z9 [star2 (sdA g0 aw1.s0) (lgA bl1 g0 g1 aw1.lb), sdA g1 aw1.s1] rfl g
 clear g g9 k9 hin9 hlt9
 have S := S.open2 (i := 1) rfl
 have S : Sat w z9 [rest w (· < w.heap.size), sdA g0 aw1.s0, sdA g1 aw1.s1, lgA bl1 g0 g1 aw1.lb] := S
 refine ⟨_, rfl, ?_⟩
 intro a F
 refine l_pure 5 (fun L => (6, .int .i64 0) :: (5, .pointer (some ⟨bl1, 0, none⟩)) :: (26, .int .i64 0) :: (25, .pointer (some ⟨bl1, 0, none⟩)) :: (21, .tuple #[.pointer (some ⟨bl1, 0, none⟩), .int .i64 0]) :: L) F (by kernel_rfl) fun a F => ?_
 refine l_then ?_
 refine wp_seq ?_
 refine s_reg ?_
 refine l_pure 6 (fun L => (32, .bool false) :: (31, .bool false) :: (30, .int .i64 0) :: (29, .bool false) :: (28, .bool false) :: (27, .pointer (some ⟨bl1, 0, none⟩)) :: L) F (by kernel_rfl) fun a F => ?_
 refine l_then ?_
 refine c_f F rfl ?_
 refine wp_skip ?_
 refine then_n ?_
 refine s_reg ?_
 refine l_do F rfl rfl (op_smakeMap S _ rfl fun r1 z S a F => ?_)
 refine l_pure 1 (fun L => (7, .map (some r1)) :: L) F (by kernel_rfl) fun a F => ?_
 refine l_then ?_
 refine s_reg ?_
 refine l_pure 1 (fun L => (8, .int .u32 1) :: L) F (by kernel_rfl) fun a F => ?_
 refine l_then ?_
 refine wp_seq ?_
 refine s_reg ?_
 refine l_pure 3 (fun L => (36, .int .i64 0) :: (35, .int .i64 (O.length : Nat)) :: (34, .slice Ao O.length co) :: L) F (by kernel_rfl) fun a F => ?_
 refine l_then ?_
 refine wp_block ?_
 refine wp_loop_m (fun m a z => ∃ (ii : Nat) (xx : Lg) (bb : Nat) (es : List LEnt) (ck : Nat), m = O.length - ii ∧ (ii ≤ O.length) ∧ (ii ≤ 40) ∧ (Fine xx) ∧ (∃ may, Inv xx may ii) ∧ (HasS es ck xx.lb.L) ∧ Fr a 156 [(3, .pointer (some ⟨g0, 0, none⟩)), (4, .pointer (some ⟨g1, 0, none⟩)), (5, .pointer (some ⟨bb, 0, none⟩)), (7, .map (some r1)), (8, .int .u32 (xx.lb.life : Nat)), (34, .slice Ao O.length co), (35, .int .i64 (O.length : Nat)), (36, .int .i64 (ii : Nat))] ∧ Sat w z [rest w (· < w.heap.size), sdA g0 xx.s0, sdA g1 xx.s1, lgA bb g0 g1 xx.lb, smapA r1 (es.map LEnt.e2) ck]) _ ⟨0, aw1, bl1, [], 0, rfl, Nat.zero_le _, (by decide), aw1_fine, ⟨_, aw1_inv⟩, (by rw [aw1_L]; exact has_nil2), F.sub ⟨by kernel_rfl, by kernel_rfl, by kernel_rfl, by kernel_rfl, by kernel_rfl, by kernel_rfl, by kernel_rfl, by kernel_rfl, trivial⟩, (S.pick [0, 1, 2, 3, 4] (by decide))⟩ ?_
 rintro m a z ⟨ii, xx, bb, es, ck, hm, hf2, hf3, hf4, hf5, hf6, F, S⟩
 obtain ⟨hil, hi40, hF, hI, hS⟩ := And.intro hf2 (And.intro hf3 (And.intro hf4 (And.intro hf5 hf6)))
 obtain ⟨may, hI⟩ := hI
 obtain ⟨hi0, hi1⟩ := inv_in hI
 have hlf := hI.lf
 have hon := hI.on
 have hgl := hI.gl.ct
 refine s_reg ?_
 by_cases ht7 : ((ii : Nat) : Int) < ((O.length : Nat) : Int)
 ·
  skip
  obtain ⟨o, ho⟩ : ∃ o, O[ii]? = some o := ⟨_, List.getElem?_eq_getElem (by omega)⟩
  have hok := hOk o (List.mem_of_getElem? ho)
  refine l_do F rfl rfl (op_pure F (v0 := .bool (decide (((ii : Nat) : Int) < ((O.length : Nat) : Int)))) (v := .bool true) (by kernel_rfl) (lssT ht7) fun a F => ?_)
  refine l_then ?_
  refine wp_seq ?_
  refine c_t F rfl ?_
  refine wp_skip ?_
  refine then_n ?_
  refine wp_seq ?_
  refine wp_block ?_
  refine s_reg ?_
  refine l_pure 1 (fun L => (38, .int .i64 (ii : Nat)) :: L) F (by kernel_rfl) fun a F => ?_
  refine l_do F rfl rfl (op_index _ 33 _ _ Ao O.length co ii 9 .i64 F rfl (by kernel_rfl) (by kernel_rfl) (by kernel_rfl) (by kernel_rfl) (get_lt ho) (recs_some hO (m := ii) (get_lt ho)) (fun a F => ?_))
  refine l_do F rfl rfl (op_loadK _ _ Ao (ii * 9) [.int .i64 o.kind, strV o.nm, strV o.vl, .int .u8 (o.wh : Nat), .int .i64 o.n, .int .i64 o.k0, .int .i64 o.k1, .int .i64 o.z0, .int .i64 o.z1] F rfl (by kernel_rfl) (by kernel_rfl) (by kernel_rfl) (by simp) (cOldK0 S 0 opC_len hO rfl ho (by kernel_rfl)) (fun a F => ?_))
  refine l_do F rfl rfl (op_alloc S _ (.agg #[.int .i64 0, strV ([] : Bs), strV ([] : Bs), .int .u8 0, .int .i64 0, .int .i64 0, .int .i64 0, .int .i64 0, .int .i64 0]) rfl (by kernel_rfl) fun b8 z S a F => ?_)
  refine l_pure 1 (fun L => (9, .int .i64 (ii : Nat)) :: L) F (by kernel_rfl) fun a F => ?_
  refine l_do F rfl rfl (op_storeB S 5 _ _ _ b8 0 (.agg #[.int .i64 o.kind, strV o.nm, strV o.vl, .int .u8 (o.wh : Nat), .int .i64 o.n, .int .i64 o.k0, .int .i64 o.k1, .int .i64 o.z0, .int .i64 o.z1]) F rfl rfl (by kernel_rfl) (by kernel_rfl) (by kernel_rfl) (by kernel_rfl) (by kernel_rfl) fun z S a F => ?_)
  refine l_then ?_
  refine wp_seq ?_
  refine s_reg ?_
  refine l_pure 1 (fun L => (41, .int .i64 (ii : Nat)) :: L) F (by kernel_rfl) fun a F => ?_
  by_cases ht9 : (40 : Int) ≤ ((ii : Nat) : Int)
  ·
   skip
   refine l_do F rfl rfl (op_pure F (v0 := .bool (decide (((ii : Nat) : Int) ≥ (40 : Int)))) (v := .bool true) (by kernel_rfl) (geqT ht9) fun a F => ?_)
   refine l_pure 5 (fun L => (47, .bool true) :: (46, undef) :: (45, undef) :: (44, undef) :: (43, .bool true) :: L) F (by kernel_rfl) fun a F => ?_
   refine l_then ?_
   refine c_t F rfl ?_
   refine wp_exit ?_
   refine then_x ?_
   refine inb_xo (by kernel_rfl) ?_
   refine then_x ?_
   refine then_x ?_
   refine inb_x ?_
   refine then_n ?_
   refine s_reg ?_
   refine l_do F rfl rfl (op_fn F (by kernel_rfl) (awake17 _) ?_)
   rintro e z ⟨rfl, hb⟩
   have S := S.grow hb
   refine ⟨_, rfl, ?_⟩
   intro a F
   refine l_pure 1 (fun L => (2, .bool true) :: L) F (by kernel_rfl) fun a F => ?_
   refine l_then ?_
   refine wp_ret ?_
   exact fin F [.tmp 2] [.bool true] rfl ⟨by kernel_rfl, trivial⟩ (.bool true) rfl ⟨rfl, S.below (i := 0) rfl⟩
  ·
   skip
   refine l_do F rfl rfl (op_pure F (v0 := .bool (decide (((ii : Nat) : Int) ≥ (40 : Int)))) (v := .bool false) (by kernel_rfl) (geqF ht9) fun a F => ?_)
   refine l_pure 1 (fun L => (43, .bool false) :: L) F (by kernel_rfl) fun a F => ?_
   refine l_do F rfl rfl (op_loadK _ _ (some ⟨b8, 0, none⟩) 0 [.int .i64 o.kind, strV o.nm, strV o.vl, .int .u8 (o.wh : Nat), .int .i64 o.n, .int .i64 o.k0, .int .i64 o.k1, .int .i64 o.z0, .int .i64 o.z1] F rfl (by kernel_rfl) (by kernel_rfl) (by kernel_rfl) (by simp) (cBoxK S 5 rfl 0 (by kernel_rfl)) (fun a F => ?_))
   cases hb10 : (fitsB o.nm o.vl) with
   | false =>
    refine l_do F rfl rfl (op_fn F (by kernel_rfl) (fits17 _ o) ?_)
    rintro e z ⟨rfl, hb⟩
    have S := S.grow hb
    refine ⟨_, rfl, ?_⟩
    rw [hb10]
    intro a F
    refine l_pure 2 (fun L => (47, .bool true) :: (46, .bool true) :: L) F (by kernel_rfl) fun a F => ?_
    refine l_then ?_
    refine c_t F rfl ?_
    refine wp_exit ?_
    refine then_x ?_
    refine inb_xo (by kernel_rfl) ?_
    refine then_x ?_
    refine then_x ?_
    refine inb_x ?_
    refine then_n ?_
    refine s_reg ?_
    refine l_do F rfl rfl (op_fn F (by kernel_rfl) (awake17 _) ?_)
    rintro e z ⟨rfl, hb⟩
    have S := S.grow hb
    refine ⟨_, rfl, ?_⟩
    intro a F
    refine l_pure 1 (fun L => (2, .bool true) :: L) F (by kernel_rfl) fun a F => ?_
    refine l_then ?_
    refine wp_ret ?_
    exact fin F [.tmp 2] [.bool true] rfl ⟨by kernel_rfl, trivial⟩ (.bool true) rfl ⟨rfl, S.below (i := 0) rfl⟩
   | true =>
    obtain ⟨hfn, hfv⟩ := fits_t hb10
    refine l_do F rfl rfl (op_fn F (by kernel_rfl) (fits17 _ o) ?_)
    rintro e z ⟨rfl, hb⟩
    have S := S.grow hb
    refine ⟨_, rfl, ?_⟩
    rw [hb10]
    intro a F
    refine l_pure 2 (fun L => (47, .bool false) :: (46, .bool false) :: L) F (by kernel_rfl) fun a F => ?_
    refine l_then ?_
    refine c_f F rfl ?_
    refine wp_skip ?_
    refine then_n ?_
    refine cutK 1 (fun a z => ∃ (yy : Lg) (bc : Nat) (es2 : List LEnt) (ck2 : Nat), (Fine yy) ∧ (∃ may, Inv yy may (ii + 1)) ∧ (HasS es2 ck2 yy.lb.L) ∧ Fr a 156 [(3, .pointer (some ⟨g0, 0, none⟩)), (4, .pointer (some ⟨g1, 0, none⟩)), (5, .pointer (some ⟨bc, 0, none⟩)), (7, .map (some r1)), (8, .int .u32 (yy.lb.life : Nat)), (34, .slice Ao O.length co), (35, .int .i64 (O.length : Nat)), (36, .int .i64 (ii : Nat))] ∧ Sat w z [rest w (· < w.heap.size), sdA g0 yy.s0, sdA g1 yy.s1, lgA bc g0 g1 yy.lb, smapA r1 (es2.map LEnt.e2) ck2]) ?_ ?_
    ·
     rintro a z ⟨yy, bc, es2, ck2, hf11, hf12, hf13, F, S⟩
     dsimp only [tailAt]
     obtain ⟨hF, hI, hS⟩ := And.intro hf11 (And.intro hf12 hf13)
     obtain ⟨may, hI⟩ := hI
     obtain ⟨hi0, hi1⟩ := inv_in hI
     have hlf := hI.lf
     have hon := hI.on
     have hgl := hI.gl.ct
     refine wp_seq ?_
     refine s_reg ?_
     refine l_pure 1 (fun L => (110, .pointer (some ⟨bc, 0, none⟩)) :: L) F (by kernel_rfl) fun a F => ?_
     obtain ⟨G9, g9, hin9, hlt9, k9⟩ := S.frameB [3] (by decide) rfl
     refine l_do F rfl rfl (op_fn F (by kernel_rfl) (llife_at _ g9) ?_)
     rintro e z9 ⟨rfl, g⟩
     have S : Sat w z9 [rest w (· < w.heap.size), sdA g0 yy.s0, sdA g1 yy.s1, lgA bc g0 g1 yy.lb, smapA r1 (es2.map LEnt.e2) ck2] := k9 z9 [lgA bc g0 g1 yy.lb] rfl g
     clear g g9 k9 hin9 hlt9
     refine ⟨_, rfl, ?_⟩
     intro a F
     refine l_pure 1 (fun L => (112, .int .u32 (yy.lb.life : Nat)) :: L) F (by kernel_rfl) fun a F => ?_
     refine l_do F rfl rfl (op_pure F (v0 := .bool (((yy.lb.life : Nat) : Int) != ((yy.lb.life : Nat) : Int))) (v := .bool false) (by kernel_rfl) (neqF rfl) fun a F => ?_)
     refine l_pure 2 (fun L => (115, .pointer (some ⟨bc, 0, none⟩)) :: (114, .bool false) :: L) F (by kernel_rfl) fun a F => ?_
     obtain ⟨G9, g9, hin9, hlt9, k9⟩ := S.frameB [3] (by decide) rfl
     refine l_do F rfl rfl (op_fn F (by kernel_rfl) (lnames_at hI.gl.ri g9) ?_)
     rintro e z9 ⟨Am0, cm0, rfl, g⟩
     have S : Sat w z9 [rest w (· < w.heap.size), sdA g0 yy.s0, sdA g1 yy.s1, star2 (lgA bc g0 g1 yy.lb) (row 9 1 (.slice Am0 ((nmsP yy.lb.L).length) cm0) ((nmsP yy.lb.L).length) ((nmsP yy.lb.L).flatMap sC)), smapA r1 (es2.map LEnt.e2) ck2] := k9 z9 [star2 (lgA bc g0 g1 yy.lb) (row 9 1 (.slice Am0 ((nmsP yy.lb.L).length) cm0) ((nmsP yy.lb.L).length) ((nmsP yy.lb.L).flatMap sC))] rfl g
     clear g g9 k9 hin9 hlt9
     have S := S.open2 (i := 3) rfl
     have S : Sat w z9 [rest w (· < w.heap.size), sdA g0 yy.s0, sdA g1 yy.s1, lgA bc g0 g1 yy.lb, smapA r1 (es2.map LEnt.e2) ck2, row 9 1 (.slice Am0 ((nmsP yy.lb.L).length) cm0) ((nmsP yy.lb.L).length) ((nmsP yy.lb.L).flatMap sC)] := S
     refine ⟨_, rfl, ?_⟩
     intro a F
     refine l_pure 2 (fun L => (118, .map (some r1)) :: (117, .int .i64 ((nmsP yy.lb.L).length : Nat)) :: L) F (by kernel_rfl) fun a F => ?_
     refine l_do F rfl rfl (op_slen S 4 _ 9 9 _ F rfl rfl (by kernel_rfl) (by kernel_rfl) (fun a F => ?_))
     refine l_do F rfl rfl (op_pure F (v0 := .bool ((((nmsP yy.lb.L).length : Nat) : Int) != (((es2.map LEnt.e2).length : Nat) : Int))) (v := .bool false) (by kernel_rfl) (neqF (by rw [nmsP_len, List.length_map, hS.len])) fun a F => ?_)
     refine l_pure 1 (fun L => (121, .bool false) :: L) F (by kernel_rfl) fun a F => ?_
     refine l_then ?_
     refine c_f F rfl ?_
     refine wp_skip ?_
     refine then_n ?_
     refine s_reg ?_
     refine l_pure 1 (fun L => (122, .pointer (some ⟨bc, 0, none⟩)) :: L) F (by kernel_rfl) fun a F => ?_
     obtain ⟨G9, g9, hin9, hlt9, k9⟩ := S.frameB [3] (by decide) rfl
     refine l_do F rfl rfl (op_fn F (by kernel_rfl) (lnames_at hI.gl.ri g9) ?_)
     rintro e z9 ⟨Am1, cm1, rfl, g⟩
     have S : Sat w z9 [rest w (· < w.heap.size), sdA g0 yy.s0, sdA g1 yy.s1, star2 (lgA bc g0 g1 yy.lb) (row 9 1 (.slice Am1 ((nmsP yy.lb.L).length) cm1) ((nmsP yy.lb.L).length) ((nmsP yy.lb.L).flatMap sC)), smapA r1 (es2.map LEnt.e2) ck2, row 9 1 (.slice Am0 ((nmsP yy.lb.L).length) cm0) ((nmsP yy.lb.L).length) ((nmsP yy.lb.L).flatMap sC)] := k9 z9 [star2 (lgA bc g0 g1 yy.lb) (row 9 1 (.slice Am1 ((nmsP yy.lb.L).length) cm1) ((nmsP yy.lb.L).length) ((nmsP yy.lb.L).flatMap sC))] rfl g
     clear g g9 k9 hin9 hlt9
     have S := S.open2 (i := 3) rfl
     have S : Sat w z9 [rest w (· < w.heap.size), sdA g0 yy.s0, sdA g1 yy.s1, lgA bc g0 g1 yy.lb, smapA r1 (es2.map LEnt.e2) ck2, row 9 1 (.slice Am0 ((nmsP yy.lb.L).length) cm0) ((nmsP yy.lb.L).length) ((nmsP yy.lb.L).flatMap sC), row 9 1 (.slice Am1 ((nmsP yy.lb.L).length) cm1) ((nmsP yy.lb.L).length) ((nmsP yy.lb.L).flatMap sC)] := S
     refine ⟨_, rfl, ?_⟩
     intro a F
     refine l_pure 2 (fun L => (125, .int .i64 0) :: (124, .int .i64 ((nmsP yy.lb.L).length : Nat)) :: L) F (by kernel_rfl) fun a F => ?_
     refine l_then ?_
     refine wp_block ?_
     refine wp_loop_m (fun m a z => ∃ (jj : Nat), m = yy.lb.L.length - jj ∧ (jj ≤ yy.lb.L.length) ∧ Fr a 156 [(3, .pointer (some ⟨g0, 0, none⟩)), (4, .pointer (some ⟨g1, 0, none⟩)), (5, .pointer (some ⟨bc, 0, none⟩)), (7, .map (some r1)), (8, .int .u32 (yy.lb.life : Nat)), (34, .slice Ao O.length co), (35, .int .i64 (O.length : Nat)), (36, .int .i64 (ii : Nat)), (123, .slice Am1 ((nmsP yy.lb.L).length) cm1), (124, .int .i64 ((nmsP yy.lb.L).length : Nat)), (125, .int .i64 (jj : Nat))] ∧ Sat w z [rest w (· < w.heap.size), sdA g0 yy.s0, sdA g1 yy.s1, lgA bc g0 g1 yy.lb, smapA r1 (es2.map LEnt.e2) ck2, row 9 1 (.slice Am0 ((nmsP yy.lb.L).length) cm0) ((nmsP yy.lb.L).length) ((nmsP yy.lb.L).flatMap sC), row 9 1 (.slice Am1 ((nmsP yy.lb.L).length) cm1) ((nmsP yy.lb.L).length) ((nmsP yy.lb.L).flatMap sC)]) _ ⟨0, rfl, Nat.zero_le _, F.sub ⟨by kernel_rfl, by kernel_rfl, by kernel_rfl, by kernel_rfl, by kernel_rfl, by kernel_rfl, by kernel_rfl, by kernel_rfl, by kernel_rfl, by kernel_rfl, by kernel_rfl, trivial⟩, S⟩ ?_
     rintro m a z ⟨jj, hm, hf14, F, S⟩
     have hjl := hf14
     have hlm9 := nmsP_len yy.lb.L
     refine s_reg ?_
     by_cases ht15 : ((jj : Nat) : Int) < (((nmsP yy.lb.L).length : Nat) : Int)
     ·
      skip
      have hlm := nmsP_len yy.lb.L
      obtain ⟨y, hy⟩ : ∃ y, yy.lb.L[jj]? = some y := ⟨_, List.getElem?_eq_getElem (by omega)⟩
      have hyv := hI.gl.vl y (List.mem_of_getElem? hy)
      refine l_do F rfl rfl (op_pure F (v0 := .bool (decide (((jj : Nat) : Int) < (((nmsP yy.lb.L).length : Nat) : Int)))) (v := .bool true) (by kernel_rfl) (lssT ht15) fun a F => ?_)
      refine l_then ?_
      refine wp_seq ?_
      refine c_t F rfl ?_
      refine wp_skip ?_
      refine then_n ?_
      refine wp_seq ?_
      refine wp_block ?_
      refine s_reg ?_
      refine l_do F rfl rfl (op_index _ 9 _ _ Am1 ((nmsP yy.lb.L).length) cm1 jj 1 .i64 F rfl (by kernel_rfl) (by kernel_rfl) (by kernel_rfl) (by kernel_rfl) (get_lt (names_at hy)) (row_some S 6 rfl (m := jj) (get_lt (names_at hy))) (fun a F => ?_))
      refine l_do F rfl rfl (op_load _ _ Am1 (jj * 1) (strV y.1) F rfl (by kernel_rfl) (by kernel_rfl) (cRec S 6 sC_len rfl 0 (names_at hy) rfl) (fun a F => ?_))
      refine l_pure 1 (fun L => (14, strV y.1) :: L) F (by kernel_rfl) fun a F => ?_
      refine l_then ?_
      refine s_reg ?_
      refine l_pure 2 (fun L => (131, strV y.1) :: (130, .pointer (some ⟨bc, 0, none⟩)) :: L) F (by kernel_rfl) fun a F => ?_
      obtain ⟨G9, g9, hin9, hlt9, k9⟩ := S.frameB [3] (by decide) rfl
      refine l_do F rfl rfl (op_fn F (by kernel_rfl) (lget_of (rises_at hI.gl.ri hy) (by omega) g9) ?_)
      rintro e z9 ⟨Ag0, cg0, rfl, g⟩
      have S : Sat w z9 [rest w (· < w.heap.size), sdA g0 yy.s0, sdA g1 yy.s1, star2 (lgA bc g0 g1 yy.lb) (row 5 1 (.slice Ag0 y.2.length cg0) y.2.length (y.2.flatMap yC)), smapA r1 (es2.map LEnt.e2) ck2, row 9 1 (.slice Am0 ((nmsP yy.lb.L).length) cm0) ((nmsP yy.lb.L).length) ((nmsP yy.lb.L).flatMap sC), row 9 1 (.slice Am1 ((nmsP yy.lb.L).length) cm1) ((nmsP yy.lb.L).length) ((nmsP yy.lb.L).flatMap sC)] := k9 z9 [star2 (lgA bc g0 g1 yy.lb) (row 5 1 (.slice Ag0 y.2.length cg0) y.2.length (y.2.flatMap yC))] rfl g
      clear g g9 k9 hin9 hlt9
      have S := S.open2 (i := 3) rfl
      have S : Sat w z9 [rest w (· < w.heap.size), sdA g0 yy.s0, sdA g1 yy.s1, lgA bc g0 g1 yy.lb, smapA r1 (es2.map LEnt.e2) ck2, row 9 1 (.slice Am0 ((nmsP yy.lb.L).length) cm0) ((nmsP yy.lb.L).length) ((nmsP yy.lb.L).flatMap sC), row 9 1 (.slice Am1 ((nmsP yy.lb.L).length) cm1) ((nmsP yy.lb.L).length) ((nmsP yy.lb.L).flatMap sC), row 5 1 (.slice Ag0 y.2.length cg0) y.2.length (y.2.flatMap yC)] := S
      refine ⟨_, rfl, ?_⟩
      intro a F
      refine l_pure 5 (fun L => (16, .bool true) :: (15, .slice Ag0 y.2.length cg0) :: (134, .bool true) :: (133, .slice Ag0 y.2.length cg0) :: (129, .tuple #[.slice Ag0 y.2.length cg0, .bool true]) :: L) F (by kernel_rfl) fun a F => ?_
      refine l_then ?_
      refine s_reg ?_
      refine l_pure 2 (fun L => (137, strV y.1) :: (136, .map (some r1)) :: L) F (by kernel_rfl) fun a F => ?_
      refine l_do F rfl rfl (op_slookup S 4 _ 9 9 _ _ true (strV ([] : Bs)) y.1 (.tuple #[strV y.2, .bool true]) F rfl rfl (by kernel_rfl) (by kernel_rfl) (by kernel_rfl) (by kernel_rfl) (by kernel_rfl) (by rw [has_some2 hS (rises_at hI.gl.ri hy)]; rfl) (fun a F => ?_))
      refine l_pure 5 (fun L => (18, .bool true) :: (17, strV y.2) :: (140, .bool true) :: (139, strV y.2) :: (135, .tuple #[strV y.2, .bool true]) :: L) F (by kernel_rfl) fun a F => ?_
      refine l_then ?_
      refine s_reg ?_
      refine l_pure 8 (fun L => (148, .slice Ag0 y.2.length cg0) :: (147, .bool false) :: (146, .bool false) :: (145, .bool false) :: (144, .bool true) :: (143, .bool false) :: (142, .bool false) :: (141, .bool true) :: L) F (by kernel_rfl) fun a F => ?_
      refine l_do F rfl rfl (op_tostr (Recs.ofRow (S.rowOf (i := 7) rfl) (by first | omega | decide)) _ 5 _ _ F rfl (by kernel_rfl) (by kernel_rfl) (by kernel_rfl) (by kernel_rfl) (fun a F => ?_))
      refine l_pure 1 (fun L => (150, strV y.2) :: L) F (by kernel_rfl) fun a F => ?_
      refine l_do F rfl rfl (op_sneq _ _ _ _ y.2 y.2 false F rfl (by kernel_rfl) (by kernel_rfl) (by rw [beq_iff_eq.2 rfl]; rfl) (fun a F => ?_))
      refine l_pure 1 (fun L => (152, .bool false) :: L) F (by kernel_rfl) fun a F => ?_
      refine l_then ?_
      refine c_f F rfl ?_
      refine wp_skip ?_
      refine inb_n ?_
      refine then_n ?_
      refine wp_region_list ?_
      refine l_do F rfl rfl (op_pure F (v0 := .int .i64 (IntKind.wrap .i64 ((jj : Nat) + 1))) (v := .int .i64 (jj + 1 : Nat)) (by kernel_rfl) (wrn_i64 (by omega) (by omega) (by omega)) fun a F => ?_)
      refine l_pure 1 (fun L => (125, .int .i64 (jj + 1 : Nat)) :: L) F (by kernel_rfl) fun a F => ?_
      refine l_then ?_
      exact ⟨_, (by omega), (jj + 1), rfl, (by omega), F.sub ⟨by kernel_rfl, by kernel_rfl, by kernel_rfl, by kernel_rfl, by kernel_rfl, by kernel_rfl, by kernel_rfl, by kernel_rfl, by kernel_rfl, by kernel_rfl, by kernel_rfl, trivial⟩, (S.pick [0, 1, 2, 3, 4, 5, 6] (by decide))⟩
     ·
      skip
      refine l_do F rfl rfl (op_pure F (v0 := .bool (decide (((jj : Nat) : Int) < (((nmsP yy.lb.L).length : Nat) : Int)))) (v := .bool false) (by kernel_rfl) (lssF ht15) fun a F => ?_)
      refine l_then ?_
      refine wp_seq ?_
      refine c_f F rfl ?_
      refine wp_exit ?_
      refine then_x ?_
      refine then_x ?_
      refine inb_x ?_
      refine inb_n ?_
      refine then_n ?_
      refine wp_region_list ?_
      refine l_do F rfl rfl (op_pure F (v0 := .int .i64 (IntKind.wrap .i64 ((ii : Nat) + 1))) (v := .int .i64 (ii + 1 : Nat)) (by kernel_rfl) (wrn_i64 (by omega) (by omega) (by omega)) fun a F => ?_)
      refine l_pure 1 (fun L => (36, .int .i64 (ii + 1 : Nat)) :: L) F (by kernel_rfl) fun a F => ?_
      refine l_then ?_
      exact ⟨_, (by omega), (ii + 1), yy, bc, es2, ck2, rfl, (by omega), (by omega), hF, ⟨_, hI⟩, hS, F.sub ⟨by kernel_rfl, by kernel_rfl, by kernel_rfl, by kernel_rfl, by kernel_rfl, by kernel_rfl, by kernel_rfl, by kernel_rfl, trivial⟩, (S.pick [0, 1, 2, 3, 4] (by decide))⟩
    ·
     intro hcut31
     dsimp only [tailAt] at hcut31
     refine wp_seq ?_
     refine s_reg ?_
     refine l_pure 1 (fun L => (48, .pointer (some ⟨b8, 0, none⟩)) :: L) F (by kernel_rfl) fun a F => ?_
     refine l_do F rfl rfl (op_load _ _ (some ⟨b8, 0, none⟩) 0 (.int .i64 o.kind) F rfl (by kernel_rfl) (by kernel_rfl) (cBox S 5 rfl (j := 0) rfl) (fun a F => ?_))
     refine l_then ?_
     refine wp_block ?_
     refine s_reg ?_
     by_cases ht16 : (o.kind : Int) = (0 : Int)
     ·
      skip
      refine l_do F rfl rfl (op_pure F (v0 := .bool ((o.kind : Int) == (0 : Int))) (v := .bool true) (by kernel_rfl) (eqlT ht16) fun a F => ?_)
      refine l_pure 1 (fun L => (64, .bool true) :: L) F (by kernel_rfl) fun a F => ?_
      refine l_then ?_
      refine c_t F rfl ?_
      refine s_reg ?_
      refine l_pure 2 (fun L => (67, .pointer (some ⟨b8, 1, none⟩)) :: (66, .pointer (some ⟨bb, 0, none⟩)) :: L) F (by kernel_rfl) fun a F => ?_
      refine l_do F rfl rfl (op_load _ _ (some ⟨b8, 0, none⟩) 1 (strV o.nm) F rfl (by kernel_rfl) (by kernel_rfl) (cBox S 5 rfl (j := 1) rfl) (fun a F => ?_))
      refine l_pure 1 (fun L => (69, .pointer (some ⟨b8, 2, none⟩)) :: L) F (by kernel_rfl) fun a F => ?_
      refine l_do F rfl rfl (op_load _ _ (some ⟨b8, 0, none⟩) 2 (strV o.vl) F rfl (by kernel_rfl) (by kernel_rfl) (cBox S 5 rfl (j := 2) rfl) (fun a F => ?_))
      refine l_do F rfl rfl (op_bytes S _ _ 5 _ o.vl F rfl (by kernel_rfl) (by kernel_rfl) (by kernel_rfl) (by kernel_rfl) fun b17 c18 z S a F => ?_)
      rcases lives_put hF hI (by omega) o.nm o.vl with ⟨hp1, hp2, hp3, hp4⟩ | ⟨hp1, hp2⟩
      ·
       skip
       obtain ⟨G9, g9, hin9, hlt9, k9⟩ := S.frameB [3, 1, 2] (by decide) rfl
       refine l_do F rfl rfl (op_fn F (by kernel_rfl) (lput_any (x := xx) (3 * (ii : Int) + 3) hi0 hi1 (by omega) hon (by omega) o.nm _ c18 o.vl (S.sbOf (i := 6) rfl (by omega)) (InG.sb S hin9 6 (by decide) rfl) g9) ?_)
       rintro e z9 ⟨rfl, g⟩
       have S : Sat w z9 [rest w (· < w.heap.size), sdA g0 (putT xx o.nm o.vl).2.s0, sdA g1 (putT xx o.nm o.vl).2.s1, lgA bb g0 g1 (putT xx o.nm o.vl).2.lb, smapA r1 (es.map LEnt.e2) ck, box b8 33 [.int .i64 o.kind, strV o.nm, strV o.vl, .int .u8 (o.wh : Nat), .int .i64 o.n, .int .i64 o.k0, .int .i64 o.k1, .int .i64 o.z0, .int .i64 o.z1], sbA b17 5 o.vl c18] := k9 z9 [lgA bb g0 g1 (putT xx o.nm o.vl).2.lb, sdA g0 (putT xx o.nm o.vl).2.s0, sdA g1 (putT xx o.nm o.vl).2.s1] rfl g
       clear g g9 k9 hin9 hlt9
       refine ⟨_, rfl, ?_⟩
       intro a F
       refine l_do F rfl rfl (op_pure F (v0 := .bool (((putT xx o.nm o.vl).1 : Int) == (0 : Int))) (v := .bool true) (by kernel_rfl) (eqlT hp1) fun a F => ?_)
       refine l_then ?_
       refine c_t F rfl ?_
       refine wp_region_list ?_
       refine l_pure 2 (fun L => (75, .pointer (some ⟨b8, 1, none⟩)) :: (74, .map (some r1)) :: L) F (by kernel_rfl) fun a F => ?_
       refine l_do F rfl rfl (op_load _ _ (some ⟨b8, 0, none⟩) 1 (strV o.nm) F rfl (by kernel_rfl) (by kernel_rfl) (cBox S 5 rfl (j := 1) rfl) (fun a F => ?_))
       refine l_pure 1 (fun L => (77, .pointer (some ⟨b8, 2, none⟩)) :: L) F (by kernel_rfl) fun a F => ?_
       refine l_do F rfl rfl (op_load _ _ (some ⟨b8, 0, none⟩) 2 (strV o.vl) F rfl (by kernel_rfl) (by kernel_rfl) (cBox S 5 rfl (j := 2) rfl) (fun a F => ?_))
       refine l_do F rfl rfl (op_smapUpdate S 4 _ 9 9 _ _ _ o.nm (strV o.vl) F rfl rfl (by kernel_rfl) (by kernel_rfl) (by kernel_rfl) (by kernel_rfl) (by kernel_rfl) fun z S a F => ?_)
       refine l_nil (inb_n ?_)
       refine then_n ?_
       obtain ⟨es', hes, hS'⟩ := has_put2 hS o.nm o.vl (by omega) (by omega)
       rw [hes] at S
       exact hcut31 _ _ ⟨(putT xx o.nm o.vl).2, bb, es', (putSC (es.map LEnt.e2) o.nm ck), hp3, hp4, (by rw [hp2]; exact hS'), F.sub ⟨by kernel_rfl, by kernel_rfl, by kernel_rfl, by kernel_rfl, (by rw [hp2]; kernel_rfl), by kernel_rfl, by kernel_rfl, by kernel_rfl, trivial⟩, (S.pick [0, 1, 2, 3, 4] (by decide))⟩
      ·
       skip
       obtain ⟨G9, g9, hin9, hlt9, k9⟩ := S.frameB [3, 1, 2] (by decide) rfl
       refine l_do F rfl rfl (op_fn F (by kernel_rfl) (lput_any (x := xx) (3 * (ii : Int) + 3) hi0 hi1 (by omega) hon (by omega) o.nm _ c18 o.vl (S.sbOf (i := 6) rfl (by omega)) (InG.sb S hin9 6 (by decide) rfl) g9) ?_)
       rintro e z9 ⟨rfl, g⟩
       have S : Sat w z9 [rest w (· < w.heap.size), sdA g0 (putT xx o.nm o.vl).2.s0, sdA g1 (putT xx o.nm o.vl).2.s1, lgA bb g0 g1 (putT xx o.nm o.vl).2.lb, smapA r1 (es.map LEnt.e2) ck, box b8 33 [.int .i64 o.kind, strV o.nm, strV o.vl, .int .u8 (o.wh : Nat), .int .i64 o.n, .int .i64 o.k0, .int .i64 o.k1, .int .i64 o.z0, .int .i64 o.z1], sbA b17 5 o.vl c18] := k9 z9 [lgA bb g0 g1 (putT xx o.nm o.vl).2.lb, sdA g0 (putT xx o.nm o.vl).2.s0, sdA g1 (putT xx o.nm o.vl).2.s1] rfl g
       clear g g9 k9 hin9 hlt9
       rw [hp2] at S
       refine ⟨_, rfl, ?_⟩
       intro a F
       refine l_do F rfl rfl (op_pure F (v0 := .bool (((putT xx o.nm o.vl).1 : Int) == (0 : Int))) (v := .bool false) (by kernel_rfl) (eqlF hp1) fun a F => ?_)
       refine l_then ?_
       refine c_f F rfl ?_
       refine wp_skip ?_
       refine inb_n ?_
       refine then_n ?_
       exact hcut31 _ _ ⟨xx, bb, es, ck, hF, ⟨_, InvT.up hI⟩, hS, F.sub ⟨by kernel_rfl, by kernel_rfl, by kernel_rfl, by kernel_rfl, by kernel_rfl, by kernel_rfl, by kernel_rfl, by kernel_rfl, trivial⟩, (S.pick [0, 1, 2, 3, 4] (by decide))⟩
     ·
      skip
      refine l_do F rfl rfl (op_pure F (v0 := .bool ((o.kind : Int) == (0 : Int))) (v := .bool false) (by kernel_rfl) (eqlF ht16) fun a F => ?_)
      refine l_pure 1 (fun L => (64, .bool false) :: L) F (by kernel_rfl) fun a F => ?_
      refine l_then ?_
      refine c_f F rfl ?_
      refine s_reg ?_
      by_cases ht19 : (o.kind : Int) = (1 : Int)
      ·
       skip
       refine l_do F rfl rfl (op_pure F (v0 := .bool ((o.kind : Int) == (1 : Int))) (v := .bool true) (by kernel_rfl) (eqlT ht19) fun a F => ?_)
       refine l_pure 1 (fun L => (79, .bool true) :: L) F (by kernel_rfl) fun a F => ?_
       refine l_then ?_
       refine c_t F rfl ?_
       refine s_reg ?_
       refine l_pure 2 (fun L => (83, .pointer (some ⟨b8, 1, none⟩)) :: (82, .map (some r1)) :: L) F (by kernel_rfl) fun a F => ?_
       refine l_do F rfl rfl (op_load _ _ (some ⟨b8, 0, none⟩) 1 (strV o.nm) F rfl (by kernel_rfl) (by kernel_rfl) (cBox S 5 rfl (j := 1) rfl) (fun a F => ?_))
       rcases getN_cases xx.lb.L o.nm with hgn | ⟨vv, hgs⟩
       ·
        skip
        refine l_do F rfl rfl (op_slookup S 4 _ 9 9 _ _ true (strV ([] : Bs)) o.nm (.tuple #[strV ([] : Bs), .bool false]) F rfl rfl (by kernel_rfl) (by kernel_rfl) (by kernel_rfl) (by kernel_rfl) (by kernel_rfl) (by rw [has_none2 hS hgn]; rfl) (fun a F => ?_))
        refine l_pure 5 (fun L => (12, .bool false) :: (11, strV ([] : Bs)) :: (87, .bool false) :: (86, strV ([] : Bs)) :: (81, .tuple #[strV ([] : Bs), .bool false]) :: L) F (by kernel_rfl) fun a F => ?_
        refine l_then ?_
        refine wp_seq ?_
        refine s_reg ?_
        refine l_pure 2 (fun L => (89, .pointer (some ⟨b8, 1, none⟩)) :: (88, .pointer (some ⟨bb, 0, none⟩)) :: L) F (by kernel_rfl) fun a F => ?_
        refine l_do F rfl rfl (op_load _ _ (some ⟨b8, 0, none⟩) 1 (strV o.nm) F rfl (by kernel_rfl) (by kernel_rfl) (cBox S 5 rfl (j := 1) rfl) (fun a F => ?_))
        obtain ⟨G9, g9, hin9, hlt9, k9⟩ := S.frameB [3, 1, 2] (by decide) rfl
        refine l_do F rfl rfl (op_fn F (by kernel_rfl) ((by have h9 := ldrop_any (x := xx) (3 * (ii : Int) + 3) hi0 hi1 (by omega) hon o.nm (by omega) g9; rw [(fine_none hF hgn).1, (fine_none hF hgn).2] at h9; exact h9)) ?_)
        rintro e z9 ⟨rfl, g⟩
        have S : Sat w z9 [rest w (· < w.heap.size), sdA g0 xx.s0, sdA g1 xx.s1, lgA bb g0 g1 xx.lb, smapA r1 (es.map LEnt.e2) ck, box b8 33 [.int .i64 o.kind, strV o.nm, strV o.vl, .int .u8 (o.wh : Nat), .int .i64 o.n, .int .i64 o.k0, .int .i64 o.k1, .int .i64 o.z0, .int .i64 o.z1]] := k9 z9 [lgA bb g0 g1 xx.lb, sdA g0 xx.s0, sdA g1 xx.s1] rfl g
        clear g g9 k9 hin9 hlt9
        refine ⟨_, rfl, ?_⟩
        intro a F
        refine l_pure 3 (fun L => (94, .bool false) :: (93, .bool false) :: (92, .bool false) :: L) F (by kernel_rfl) fun a F => ?_
        refine l_then ?_
        refine c_f F rfl ?_
        refine wp_skip ?_
        refine then_n ?_
        refine wp_region_list ?_
        refine l_pure 2 (fun L => (96, .pointer (some ⟨b8, 1, none⟩)) :: (95, .map (some r1)) :: L) F (by kernel_rfl) fun a F => ?_
        refine l_do F rfl rfl (op_load _ _ (some ⟨b8, 0, none⟩) 1 (strV o.nm) F rfl (by kernel_rfl) (by kernel_rfl) (cBox S 5 rfl (j := 1) rfl) (fun a F => ?_))
        refine l_do F rfl rfl (op_sdelete S 4 _ _ 9 9 _ _ o.nm F rfl rfl (by kernel_rfl) (by kernel_rfl) (by kernel_rfl) (by kernel_rfl) fun z S a F => ?_)
        refine l_nil (inb_n ?_)
        refine then_n ?_
        obtain ⟨es', hes, hS'⟩ := has_del2 hS o.nm
        rw [hes] at S
        rw [del_no hgn] at hS'
        exact hcut31 _ _ ⟨xx, bb, es', ck, hF, ⟨_, InvT.up hI⟩, hS', F.sub ⟨by kernel_rfl, by kernel_rfl, by kernel_rfl, by kernel_rfl, by kernel_rfl, by kernel_rfl, by kernel_rfl, by kernel_rfl, trivial⟩, (S.pick [0, 1, 2, 3, 4] (by decide))⟩
       ·
        skip
        refine l_do F rfl rfl (op_slookup S 4 _ 9 9 _ _ true (strV ([] : Bs)) o.nm (.tuple #[strV vv, .bool true]) F rfl rfl (by kernel_rfl) (by kernel_rfl) (by kernel_rfl) (by kernel_rfl) (by kernel_rfl) (by rw [has_some2 hS hgs]; rfl) (fun a F => ?_))
        refine l_pure 5 (fun L => (12, .bool true) :: (11, strV vv) :: (87, .bool true) :: (86, strV vv) :: (81, .tuple #[strV vv, .bool true]) :: L) F (by kernel_rfl) fun a F => ?_
        refine l_then ?_
        refine wp_seq ?_
        refine s_reg ?_
        refine l_pure 2 (fun L => (89, .pointer (some ⟨b8, 1, none⟩)) :: (88, .pointer (some ⟨bb, 0, none⟩)) :: L) F (by kernel_rfl) fun a F => ?_
        refine l_do F rfl rfl (op_load _ _ (some ⟨b8, 0, none⟩) 1 (strV o.nm) F rfl (by kernel_rfl) (by kernel_rfl) (cBox S 5 rfl (j := 1) rfl) (fun a F => ?_))
        obtain ⟨G9, g9, hin9, hlt9, k9⟩ := S.frameB [3, 1, 2] (by decide) rfl
        refine l_do F rfl rfl (op_fn F (by kernel_rfl) ((by have h9 := ldrop_any (x := xx) (3 * (ii : Int) + 3) hi0 hi1 (by omega) hon o.nm (by omega) g9; rw [(fine_drop hF hI (by omega) hgs).1] at h9; exact h9)) ?_)
        rintro e z9 ⟨rfl, g⟩
        have S : Sat w z9 [rest w (· < w.heap.size), sdA g0 (dropT xx o.nm).2.s0, sdA g1 (dropT xx o.nm).2.s1, lgA bb g0 g1 (dropT xx o.nm).2.lb, smapA r1 (es.map LEnt.e2) ck, box b8 33 [.int .i64 o.kind, strV o.nm, strV o.vl, .int .u8 (o.wh : Nat), .int .i64 o.n, .int .i64 o.k0, .int .i64 o.k1, .int .i64 o.z0, .int .i64 o.z1]] := k9 z9 [lgA bb g0 g1 (dropT xx o.nm).2.lb, sdA g0 (dropT xx o.nm).2.s0, sdA g1 (dropT xx o.nm).2.s1] rfl g
        clear g g9 k9 hin9 hlt9
        refine ⟨_, rfl, ?_⟩
        intro a F
        refine l_pure 3 (fun L => (94, .bool false) :: (93, .bool true) :: (92, .bool true) :: L) F (by kernel_rfl) fun a F => ?_
        refine l_then ?_
        refine c_f F rfl ?_
        refine wp_skip ?_
        refine then_n ?_
        refine wp_region_list ?_
        refine l_pure 2 (fun L => (96, .pointer (some ⟨b8, 1, none⟩)) :: (95, .map (some r1)) :: L) F (by kernel_rfl) fun a F => ?_
        refine l_do F rfl rfl (op_load _ _ (some ⟨b8, 0, none⟩) 1 (strV o.nm) F rfl (by kernel_rfl) (by kernel_rfl) (cBox S 5 rfl (j := 1) rfl) (fun a F => ?_))
        refine l_do F rfl rfl (op_sdelete S 4 _ _ 9 9 _ _ o.nm F rfl rfl (by kernel_rfl) (by kernel_rfl) (by kernel_rfl) (by kernel_rfl) fun z S a F => ?_)
        refine l_nil (inb_n ?_)
        refine then_n ?_
        obtain ⟨es', hes, hS'⟩ := has_del2 hS o.nm
        rw [hes] at S
        have hd9 := fine_drop hF hI (by omega) hgs
        exact hcut31 _ _ ⟨(dropT xx o.nm).2, bb, es', ck, hd9.2.2, ⟨_, inv_drop hI (by omega) o.nm⟩, (by rw [hd9.2.1]; exact hS'), F.sub ⟨by kernel_rfl, by kernel_rfl, by kernel_rfl, by kernel_rfl, (by rw [hd9.2.1]; kernel_rfl), by kernel_rfl, by kernel_rfl, by kernel_rfl, trivial⟩, (S.pick [0, 1, 2, 3, 4] (by decide))⟩
      ·
       skip
       refine l_do F rfl rfl (op_pure F (v0 := .bool ((o.kind : Int) == (1 : Int))) (v := .bool false) (by kernel_rfl) (eqlF ht19) fun a F => ?_)
       refine l_pure 1 (fun L => (79, .bool false) :: L) F (by kernel_rfl) fun a F => ?_
       refine l_then ?_
       refine c_f F rfl ?_
       refine s_reg ?_
       by_cases ht20 : (o.kind : Int) = (2 : Int)
       ·
        skip
        refine l_do F rfl rfl (op_pure F (v0 := .bool ((o.kind : Int) == (2 : Int))) (v := .bool true) (by kernel_rfl) (eqlT ht20) fun a F => ?_)
        refine l_pure 1 (fun L => (98, .bool true) :: L) F (by kernel_rfl) fun a F => ?_
        refine l_then ?_
        refine c_t F rfl ?_
        refine s_reg ?_
        refine l_pure 1 (fun L => (100, .pointer (some ⟨bb, 0, none⟩)) :: L) F (by kernel_rfl) fun a F => ?_
        obtain ⟨G9, g9, hin9, hlt9, k9⟩ := S.frameB [3, 1, 2] (by decide) rfl
        refine l_do F rfl rfl (op_fn F (by kernel_rfl) ((by have h9 := lsync_any (x := xx) (3 * (ii : Int) + 3) hi0 hi1 (by omega) hon g9; rw [(fine_sync hF).1] at h9; exact h9)) ?_)
        rintro e z9 ⟨rfl, g⟩
        have S : Sat w z9 [rest w (· < w.heap.size), sdA g0 (syncT xx).2.s0, sdA g1 (syncT xx).2.s1, lgA bb g0 g1 (syncT xx).2.lb, smapA r1 (es.map LEnt.e2) ck, box b8 33 [.int .i64 o.kind, strV o.nm, strV o.vl, .int .u8 (o.wh : Nat), .int .i64 o.n, .int .i64 o.k0, .int .i64 o.k1, .int .i64 o.z0, .int .i64 o.z1]] := k9 z9 [lgA bb g0 g1 (syncT xx).2.lb, sdA g0 (syncT xx).2.s0, sdA g1 (syncT xx).2.s1] rfl g
        clear g g9 k9 hin9 hlt9
        refine ⟨_, rfl, ?_⟩
        intro a F
        refine l_pure 1 (fun L => (102, .bool false) :: L) F (by kernel_rfl) fun a F => ?_
        refine l_then ?_
        refine c_f F rfl ?_
        refine wp_skip ?_
        refine inb_n ?_
        refine then_n ?_
        have hd9 := fine_sync hF
        exact hcut31 _ _ ⟨(syncT xx).2, bb, es, ck, hd9.2.2, ⟨_, inv_sync hI⟩, (by rw [hd9.2.1]; exact hS), F.sub ⟨by kernel_rfl, by kernel_rfl, by kernel_rfl, by kernel_rfl, (by rw [hd9.2.1]; kernel_rfl), by kernel_rfl, by kernel_rfl, by kernel_rfl, trivial⟩, (S.pick [0, 1, 2, 3, 4] (by decide))⟩
       ·
        skip
        refine l_do F rfl rfl (op_pure F (v0 := .bool ((o.kind : Int) == (2 : Int))) (v := .bool false) (by kernel_rfl) (eqlF ht20) fun a F => ?_)
        refine l_pure 1 (fun L => (98, .bool false) :: L) F (by kernel_rfl) fun a F => ?_
        refine l_then ?_
        refine c_f F rfl ?_
        refine s_reg ?_
        by_cases ht21 : (o.kind : Int) = (3 : Int)
        ·
         skip
         refine l_do F rfl rfl (op_pure F (v0 := .bool ((o.kind : Int) == (3 : Int))) (v := .bool true) (by kernel_rfl) (eqlT ht21) fun a F => ?_)
         refine l_pure 1 (fun L => (103, .bool true) :: L) F (by kernel_rfl) fun a F => ?_
         refine l_then ?_
         refine c_t F rfl ?_
         refine wp_seq ?_
         refine s_reg ?_
         refine l_pure 1 (fun L => (105, .pointer (some ⟨bb, 0, none⟩)) :: L) F (by kernel_rfl) fun a F => ?_
         obtain ⟨G9, g9, hin9, hlt9, k9⟩ := S.frameB [3, 1, 2] (by decide) rfl
         refine l_do F rfl rfl (op_fn F (by kernel_rfl) ((by have h9 := lcomp_any (x := xx) (3 * (ii : Int) + 3) hi0 hi1 (by omega) ((InvT.lbok hI (by omega)).up (by omega)) g9; rw [(fine_comp hF hI (by omega)).1] at h9; exact h9)) ?_)
         rintro e z9 ⟨rfl, g⟩
         have S : Sat w z9 [rest w (· < w.heap.size), sdA g0 (compT xx).2.s0, sdA g1 (compT xx).2.s1, lgA bb g0 g1 (compT xx).2.lb, smapA r1 (es.map LEnt.e2) ck, box b8 33 [.int .i64 o.kind, strV o.nm, strV o.vl, .int .u8 (o.wh : Nat), .int .i64 o.n, .int .i64 o.k0, .int .i64 o.k1, .int .i64 o.z0, .int .i64 o.z1]] := k9 z9 [lgA bb g0 g1 (compT xx).2.lb, sdA g0 (compT xx).2.s0, sdA g1 (compT xx).2.s1] rfl g
         clear g g9 k9 hin9 hlt9
         refine ⟨_, rfl, ?_⟩
         intro a F
         refine l_pure 1 (fun L => (107, .bool false) :: L) F (by kernel_rfl) fun a F => ?_
         refine l_then ?_
         refine c_f F rfl ?_
         refine wp_skip ?_
         refine then_n ?_
         refine wp_region_list ?_
         refine l_pure 1 (fun L => (108, .int .u32 (xx.lb.life : Nat)) :: L) F (by kernel_rfl) fun a F => ?_
         refine l_do F rfl rfl (op_pure F (v0 := .int .u32 (IntKind.wrap .u32 ((xx.lb.life : Nat) + 1))) (v := .int .u32 (xx.lb.life + 1 : Nat)) (by kernel_rfl) (wrn_u32 (by omega) (by omega) (by omega)) fun a F => ?_)
         refine l_pure 1 (fun L => (8, .int .u32 (xx.lb.life + 1 : Nat)) :: L) F (by kernel_rfl) fun a F => ?_
         refine l_nil (inb_n ?_)
         refine then_n ?_
         have hd9 := fine_comp hF hI (by omega)
         exact hcut31 _ _ ⟨(compT xx).2, bb, es, ck, hd9.2.2, ⟨_, inv_comp hI (by omega)⟩, (by rw [hd9.2.1]; exact hS), F.sub ⟨by kernel_rfl, by kernel_rfl, by kernel_rfl, by kernel_rfl, (by rw [hd9.2.1]; kernel_rfl), by kernel_rfl, by kernel_rfl, by kernel_rfl, trivial⟩, (S.pick [0, 1, 2, 3, 4] (by decide))⟩
        ·
         skip
         refine l_do F rfl rfl (op_pure F (v0 := .bool ((o.kind : Int) == (3 : Int))) (v := .bool false) (by kernel_rfl) (eqlF ht21) fun a F => ?_)
         refine l_pure 1 (fun L => (103, .bool false) :: L) F (by kernel_rfl) fun a F => ?_
         refine l_then ?_
         refine c_f F rfl ?_
         refine wp_seq ?_
         refine s_reg ?_
         refine l_pure 2 (fun L => (52, .pointer (some ⟨g1, 0, none⟩)) :: (51, .pointer (some ⟨g0, 0, none⟩)) :: L) F (by kernel_rfl) fun a F => ?_
         obtain ⟨G9, g9, hin9, hlt9, k9⟩ := S.frameB [1, 2] (by decide) rfl
         refine l_do F rfl rfl (op_fn F (by kernel_rfl) (lopen_ok (3 * (ii : Int) + 3) hi0 hi1 (by omega) hF.u0.d hF.u1.d (fine_open hF hI (by omega)).1 g9) ?_)
         rintro e z9 ⟨bl2, rfl, g⟩
         have S : Sat w z9 [rest w (· < w.heap.size), star2 (sdA g0 (openT xx.s0 xx.s1).2.s0) (lgA bl2 g0 g1 (openT xx.s0 xx.s1).2.lb), sdA g1 (openT xx.s0 xx.s1).2.s1, lgA bb g0 g1 xx.lb, smapA r1 (es.map LEnt.e2) ck, box b8 33 [.int .i64 o.kind, strV o.nm, strV o.vl, .int .u8 (o.wh : Nat), .int .i64 o.n, .int .i64 o.k0, .int .i64 o.k1, .int .i64 o.z0, .int .i64 o.z1]] := k9 z9 [star2 (sdA g0 (openT xx.s0 xx.s1).2.s0) (lgA bl2 g0 g1 (openT xx.s0 xx.s1).2.lb), sdA g1 (openT xx.s0 xx.s1).2.s1] rfl g
         clear g g9 k9 hin9 hlt9
         have S := S.open2 (i := 1) rfl
         have S : Sat w z9 [rest w (· < w.heap.size), sdA g0 (openT xx.s0 xx.s1).2.s0, sdA g1 (openT xx.s0 xx.s1).2.s1, lgA bb g0 g1 xx.lb, smapA r1 (es.map LEnt.e2) ck, box b8 33 [.int .i64 o.kind, strV o.nm, strV o.vl, .int .u8 (o.wh : Nat), .int .i64 o.n, .int .i64 o.k0, .int .i64 o.k1, .int .i64 o.z0, .int .i64 o.z1], lgA bl2 g0 g1 (openT xx.s0 xx.s1).2.lb] := S
         refine ⟨_, rfl, ?_⟩
         intro a F
         refine l_pure 5 (fun L => (6, .int .i64 0) :: (5, .pointer (some ⟨bl2, 0, none⟩)) :: (55, .int .i64 0) :: (54, .pointer (some ⟨bl2, 0, none⟩)) :: (50, .tuple #[.pointer (some ⟨bl2, 0, none⟩), .int .i64 0]) :: L) F (by kernel_rfl) fun a F => ?_
         refine l_then ?_
         refine s_reg ?_
         refine l_pure 6 (fun L => (61, .bool false) :: (60, .bool false) :: (59, .int .i64 0) :: (58, .bool false) :: (57, .bool false) :: (56, .pointer (some ⟨bl2, 0, none⟩)) :: L) F (by kernel_rfl) fun a F => ?_
         refine l_then ?_
         refine c_f F rfl ?_
         refine wp_skip ?_
         refine then_n ?_
         refine wp_region_list ?_
         refine l_pure 1 (fun L => (62, .int .u32 (xx.lb.life : Nat)) :: L) F (by kernel_rfl) fun a F => ?_
         refine l_do F rfl rfl (op_pure F (v0 := .int .u32 (IntKind.wrap .u32 ((xx.lb.life : Nat) + 1))) (v := .int .u32 (xx.lb.life + 1 : Nat)) (by kernel_rfl) (wrn_u32 (by omega) (by omega) (by omega)) fun a F => ?_)
         refine l_pure 1 (fun L => (8, .int .u32 (xx.lb.life + 1 : Nat)) :: L) F (by kernel_rfl) fun a F => ?_
         refine l_nil (inb_n ?_)
         refine then_n ?_
         have hd9 := fine_open hF hI (by omega)
         exact hcut31 _ _ ⟨(openT xx.s0 xx.s1).2, bl2, es, ck, hd9.2.2.1, ⟨_, hd9.2.2.2⟩, (by rw [hd9.2.1]; exact hS), F.sub ⟨by kernel_rfl, by kernel_rfl, by kernel_rfl, by kernel_rfl, (by rw [hd9.2.1]; kernel_rfl), by kernel_rfl, by kernel_rfl, by kernel_rfl, trivial⟩, (S.pick [0, 1, 2, 6, 4] (by decide))⟩
 ·
  skip
  refine l_do F rfl rfl (op_pure F (v0 := .bool (decide (((ii : Nat) : Int) < ((O.length : Nat) : Int)))) (v := .bool false) (by kernel_rfl) (lssF ht7) fun a F => ?_)
  refine l_then ?_
  refine wp_seq ?_
  refine c_f F rfl ?_
  refine wp_exit ?_
  refine then_x ?_
  refine then_x ?_
  refine inb_x ?_
  refine then_n ?_
  refine s_reg ?_
  refine l_do F rfl rfl (op_fn F (by kernel_rfl) (awake17 _) ?_)
  rintro e z ⟨rfl, hb⟩
  have S := S.grow hb
  refine ⟨_, rfl, ?_⟩
  intro a F
  refine l_pure 1 (fun L => (2, .bool true) :: L) F (by kernel_rfl) fun a F => ?_
  refine l_then ?_
  refine wp_ret ?_
  exact fin F [.tmp 2] [.bool true] rfl ⟨by kernel_rfl, trivial⟩ (.bool true) rfl ⟨rfl, S.below (i := 0) rfl⟩
end Go.Proofs.Ytidcdfilfccigaa
