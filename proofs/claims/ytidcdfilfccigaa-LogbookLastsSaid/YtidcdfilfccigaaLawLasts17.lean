/- Walk over the law LogbookLasts. -/
import Derived.Test.YtidcdfilfccigaaLawLives17
namespace Go.Proofs.Ytidcdfilfccigaa
set_option linter.unusedVariables false
set_option linter.unusedSimpArgs false
set_option linter.unnecessarySimpa false
open Go Go.RowKit

/-- All that a logbook has, as a text. -/
def shot1 (y : NV) : Bs := (([UInt8.ofNat y.1.length, UInt8.ofNat (y.2.length / 2 ^ 8), UInt8.ofNat y.2.length] : Bs) ++ y.1) ++ y.2
def shotP (L : List NV) : Bs := L.flatMap shot1
theorem shot1_len (y : NV) : (shot1 y).length = 3 + y.1.length + y.2.length := by unfold shot1; simp; omega
theorem shot_len {L : List NV} (h1 : ∀ x ∈ L, x.1.length ≤ 255) (h2 : ∀ x ∈ L, x.2.length ≤ 262144) : (shotP L).length ≤ 262402 * L.length := by
  unfold shotP
  induction L with
  | nil => simp
  | cons x L ih =>
    have h3 := h1 x (List.mem_cons_self ..)
    have h4 := h2 x (List.mem_cons_self ..)
    have h5 := ih (fun y hy => h1 y (List.mem_cons_of_mem _ hy)) (fun y hy => h2 y (List.mem_cons_of_mem _ hy))
    rw [List.flatMap_cons, List.length_append, shot1_len, List.length_cons]
    omega
theorem shot_take {L : List NV} (h1 : ∀ x ∈ L, x.1.length ≤ 255) (h2 : ∀ x ∈ L, x.2.length ≤ 262144) (j : Nat) : (shotP (L.take j)).length ≤ 262402 * L.length := by
  have h := shot_len (L := L.take j) (fun x hx => h1 x (List.mem_of_mem_take hx)) (fun x hx => h2 x (List.mem_of_mem_take hx))
  have h3 : (L.take j).length ≤ L.length := by rw [List.length_take]; omega
  have h4 : 262402 * (L.take j).length ≤ 262402 * L.length := Nat.mul_le_mul_left _ h3
  omega
theorem shot_succ {L : List NV} {j : Nat} {y : NV} (h : L[j]? = some y) : shotP (L.take j) ++ (((([UInt8.ofNat y.1.length, (UInt8.ofNat (y.2.length / 2 ^ 8)), (UInt8.ofNat y.2.length)] : Bs) ++ y.1)) ++ y.2) = shotP (L.take (j + 1)) := by
  have e : L.take (j + 1) = L.take j ++ [y] := by rw [List.take_add_one, h]; rfl
  unfold shotP
  rw [e, List.flatMap_append]
  simp [shot1]
theorem shot_end {L : List NV} {j : Nat} (h : j = L.length) : shotP (L.take j) = shotP L := by rw [h, List.take_length]
theorem shot_snoc (ms : List (List NV)) (L : List NV) : ms.map shotP ++ [shotP L] = (ms ++ [L]).map shotP := by simp
theorem take_mem {l : List Bs} {k : Nat} {z : Bs} (hz : l[k]? = some z) (w : Bs) : w ∈ l.take (k + 1) ↔ w ∈ l.take k ∨ w = z := by
  have e : l.take (k + 1) = l.take k ++ [z] := by rw [List.take_add_one, hz]; rfl
  rw [e]; simp
theorem wh_cases (n : Nat) : n % 2 = 0 ∨ n % 2 = 1 := by omega
section
variable {P : Program} {a : Act} {n : Nat} {L : List (Nat × Value)} {o : Oper} {w : World} {R : Value → World → Prop}
theorem op_rem (T T' : TypeId) (x y : Operand) (k : IntKind) (p q : Int) {v : Int} (F : Fr a n L) (ho : o.op = .binOp .rem T x y T') (hx : val? L x = some (.int k p)) (hy : val? L y = some (.int k q)) (hq : ¬ q = 0) (hv : p.tmod q = v) (hR : R (.int k v) w) : OpR P a w o R := by
  refine op_run (v := .int k v) (w' := w) ?_ hR
  unfold execOp
  simp only [ho, F.val hx, F.val hy]
  subst hv
  simp [eqGuard, binOp, Op.intDiv, hq]
end
set_option maxRecDepth 100000 in
set_option maxHeartbeats 4000000 in
theorem shot_any (w : World) (G : Nat → Prop) (b g0 g1 : Nat) (lb : Lb) (hri : Rises lb.L) (hnm : ∀ x ∈ lb.L, x.1.length ≤ 255) (hvl : ∀ x ∈ lb.L, x.2.length ≤ 262144) (hct : lb.L.length ≤ 900000) (hS : Sat w w [lgA b g0 g1 lb, rest w G]) : Calls Try.prog 19 #[.pointer (some ⟨b, 0, none⟩)] w fun e w' => e = .returned (strV (shotP lb.L)) ∧ Sat w w' [lgA b g0 g1 lb, rest w G] := by
 refine enter 42 Try.func19 rfl rfl rfl fun a F => ?_
 have S : Sat w w [rest w G, lgA b g0 g1 lb] := hS.pick [1, 0] (by decide)
 refine s_reg ?_
 refine l_pure 1 (fun L => (2, strV ([] : Bs)) :: L) F (by kernel_rfl) fun a F => ?_
 refine l_then ?_
 refine s_reg ?_
 refine l_pure 1 (fun L => (3, strV ([] : Bs)) :: L) F (by kernel_rfl) fun a F => ?_
 refine l_then ?_
 refine wp_seq ?_
 refine s_reg ?_
 refine l_pure 1 (fun L => (8, .pointer (some ⟨b, 0, none⟩)) :: L) F (by kernel_rfl) fun a F => ?_
 obtain ⟨G9, g9, hin9, hlt9, k9⟩ := S.frameB [1] (by decide) rfl
 refine l_do F rfl rfl (op_fn F (by kernel_rfl) (lnames_at hri g9) ?_)
 rintro e z9 ⟨Am, cm, rfl, g⟩
 have S : Sat w z9 [rest w G, star2 (lgA b g0 g1 lb) (row 9 1 (.slice Am ((nmsP lb.L).length) cm) ((nmsP lb.L).length) ((nmsP lb.L).flatMap sC))] := k9 z9 [star2 (lgA b g0 g1 lb) (row 9 1 (.slice Am ((nmsP lb.L).length) cm) ((nmsP lb.L).length) ((nmsP lb.L).flatMap sC))] rfl g
 clear g g9 k9 hin9 hlt9
 have S := S.open2 (i := 1) rfl
 have S : Sat w z9 [rest w G, lgA b g0 g1 lb, row 9 1 (.slice Am ((nmsP lb.L).length) cm) ((nmsP lb.L).length) ((nmsP lb.L).flatMap sC)] := S
 refine ⟨_, rfl, ?_⟩
 intro a F
 refine l_pure 2 (fun L => (11, .int .i64 0) :: (10, .int .i64 ((nmsP lb.L).length : Nat)) :: L) F (by kernel_rfl) fun a F => ?_
 refine l_then ?_
 refine wp_block ?_
 refine wp_loop_m (fun m a z => ∃ (jj : Nat), m = lb.L.length - jj ∧ (jj ≤ lb.L.length) ∧ Fr a 42 [(0, .pointer (some ⟨b, 0, none⟩)), (3, strV (shotP (lb.L.take jj))), (9, .slice Am ((nmsP lb.L).length) cm), (10, .int .i64 ((nmsP lb.L).length : Nat)), (11, .int .i64 (jj : Nat))] ∧ Sat w z [rest w G, lgA b g0 g1 lb, row 9 1 (.slice Am ((nmsP lb.L).length) cm) ((nmsP lb.L).length) ((nmsP lb.L).flatMap sC)]) _ ⟨0, rfl, Nat.zero_le _, F.sub ⟨by kernel_rfl, by kernel_rfl, by kernel_rfl, by kernel_rfl, by kernel_rfl, trivial⟩, S⟩ ?_
 rintro m a z ⟨jj, hm, hf1, F, S⟩
 have hjl := hf1
 have hlm := nmsP_len lb.L
 refine s_reg ?_
 by_cases ht2 : ((jj : Nat) : Int) < (((nmsP lb.L).length : Nat) : Int)
 ·
  skip
  obtain ⟨y, hy⟩ : ∃ y, lb.L[jj]? = some y := ⟨_, List.getElem?_eq_getElem (by omega)⟩
  have hyn := hnm y (List.mem_of_getElem? hy)
  have hyv := hvl y (List.mem_of_getElem? hy)
  have hsl := shot_take hnm hvl jj
  refine l_do F rfl rfl (op_pure F (v0 := .bool (decide (((jj : Nat) : Int) < (((nmsP lb.L).length : Nat) : Int)))) (v := .bool true) (by kernel_rfl) (lssT ht2) fun a F => ?_)
  refine l_then ?_
  refine wp_seq ?_
  refine c_t F rfl ?_
  refine wp_skip ?_
  refine then_n ?_
  refine wp_seq ?_
  refine wp_block ?_
  refine s_reg ?_
  refine l_do F rfl rfl (op_index _ 9 _ _ Am ((nmsP lb.L).length) cm jj 1 .i64 F rfl (by kernel_rfl) (by kernel_rfl) (by kernel_rfl) (by kernel_rfl) (get_lt (names_at hy)) (row_some S 2 rfl (m := jj) (get_lt (names_at hy))) (fun a F => ?_))
  refine l_do F rfl rfl (op_load _ _ Am (jj * 1) (strV y.1) F rfl (by kernel_rfl) (by kernel_rfl) (cRec S 2 sC_len rfl 0 (names_at hy) rfl) (fun a F => ?_))
  refine l_pure 1 (fun L => (5, strV y.1) :: L) F (by kernel_rfl) fun a F => ?_
  refine l_then ?_
  refine s_reg ?_
  refine l_pure 2 (fun L => (17, strV y.1) :: (16, .pointer (some ⟨b, 0, none⟩)) :: L) F (by kernel_rfl) fun a F => ?_
  obtain ⟨G9, g9, hin9, hlt9, k9⟩ := S.frameB [1] (by decide) rfl
  refine l_do F rfl rfl (op_fn F (by kernel_rfl) (lget_of (rises_at hri hy) (by omega) g9) ?_)
  rintro e z9 ⟨Ag, cg, rfl, g⟩
  have S : Sat w z9 [rest w G, star2 (lgA b g0 g1 lb) (row 5 1 (.slice Ag y.2.length cg) y.2.length (y.2.flatMap yC)), row 9 1 (.slice Am ((nmsP lb.L).length) cm) ((nmsP lb.L).length) ((nmsP lb.L).flatMap sC)] := k9 z9 [star2 (lgA b g0 g1 lb) (row 5 1 (.slice Ag y.2.length cg) y.2.length (y.2.flatMap yC))] rfl g
  clear g g9 k9 hin9 hlt9
  have S := S.open2 (i := 1) rfl
  have S : Sat w z9 [rest w G, lgA b g0 g1 lb, row 9 1 (.slice Am ((nmsP lb.L).length) cm) ((nmsP lb.L).length) ((nmsP lb.L).flatMap sC), row 5 1 (.slice Ag y.2.length cg) y.2.length (y.2.flatMap yC)] := S
  refine ⟨_, rfl, ?_⟩
  intro a F
  refine l_pure 5 (fun L => (7, .bool true) :: (6, .slice Ag y.2.length cg) :: (20, .bool true) :: (19, .slice Ag y.2.length cg) :: (15, .tuple #[.slice Ag y.2.length cg, .bool true]) :: L) F (by kernel_rfl) fun a F => ?_
  refine l_then ?_
  refine wp_region_list ?_
  refine l_pure 2 (fun L => (22, strV y.1) :: (21, strV (shotP (lb.L.take jj))) :: L) F (by kernel_rfl) fun a F => ?_
  refine l_do F rfl rfl (op_strlen _ _ y.1 F rfl (by kernel_rfl) (by kernel_rfl) (fun a F => ?_))
  refine l_do F rfl rfl (op_pure F (v0 := .int .u8 (IntKind.wrap .u8 (y.1.length : Nat))) (v := .int .u8 ((UInt8.ofNat y.1.length).toNat : Nat)) (by kernel_rfl) (congrArg (Value.int .u8) (byte_wrap _)) fun a F => ?_)
  refine l_pure 2 (fun L => (26, .int .i64 (y.2.length : Nat)) :: (25, .slice Ag y.2.length cg) :: L) F (by kernel_rfl) fun a F => ?_
  refine l_do F rfl rfl (op_shr _ _ _ _ .i64 .u64 y.2.length 8 F rfl (by kernel_rfl) (by kernel_rfl) (by decide) (fun a F => ?_))
  refine l_do F rfl rfl (op_pure F (v0 := .int .u8 (IntKind.wrap .u8 (y.2.length / 2 ^ 8 : Nat))) (v := .int .u8 ((UInt8.ofNat (y.2.length / 2 ^ 8)).toNat : Nat)) (by kernel_rfl) (congrArg (Value.int .u8) (byte_wrap _)) fun a F => ?_)
  refine l_pure 2 (fun L => (30, .int .i64 (y.2.length : Nat)) :: (29, .slice Ag y.2.length cg) :: L) F (by kernel_rfl) fun a F => ?_
  refine l_do F rfl rfl (op_pure F (v0 := .int .u8 (IntKind.wrap .u8 (y.2.length : Nat))) (v := .int .u8 ((UInt8.ofNat y.2.length).toNat : Nat)) (by kernel_rfl) (congrArg (Value.int .u8) (byte_wrap _)) fun a F => ?_)
  refine l_do F rfl rfl (op_buildSlice S _ 3 _ 5 1 yC ([(UInt8.ofNat y.1.length), (UInt8.ofNat (y.2.length / 2 ^ 8)), (UInt8.ofNat y.2.length)] : List UInt8) F rfl (by kernel_rfl) (by kernel_rfl) (by kernel_rfl) (by unfold maxLen; omega) fun b3 z S a F => ?_)
  refine l_do F rfl rfl (op_tostr (Recs.ofRow (L := ([(UInt8.ofNat y.1.length), (UInt8.ofNat (y.2.length / 2 ^ 8)), (UInt8.ofNat y.2.length)] : List UInt8)) (S.rowOf (i := 4) rfl) (by first | decide | (simp only [List.length_cons, List.length_nil]; omega))) _ 5 _ _ F rfl (by kernel_rfl) (by kernel_rfl) (by kernel_rfl) (by kernel_rfl) (fun a F => ?_))
  refine l_pure 1 (fun L => (34, strV y.1) :: L) F (by kernel_rfl) fun a F => ?_
  refine l_do F rfl rfl (op_sadd _ _ _ _ ([(UInt8.ofNat y.1.length), (UInt8.ofNat (y.2.length / 2 ^ 8)), (UInt8.ofNat y.2.length)] : List UInt8) y.1 F rfl (by kernel_rfl) (by kernel_rfl) (by first | omega | (simp only [List.length_append, List.length_cons, List.length_nil]; omega)) (fun a F => ?_))
  refine l_pure 1 (fun L => (36, .slice Ag y.2.length cg) :: L) F (by kernel_rfl) fun a F => ?_
  refine l_do F rfl rfl (op_tostr (Recs.ofRow (S.rowOf (i := 3) rfl) (by first | omega | decide | (simp only [List.length_cons, List.length_nil]; omega))) _ 5 _ _ F rfl (by kernel_rfl) (by kernel_rfl) (by kernel_rfl) (by kernel_rfl) (fun a F => ?_))
  refine l_do F rfl rfl (op_sadd _ _ _ _ (([(UInt8.ofNat y.1.length), (UInt8.ofNat (y.2.length / 2 ^ 8)), (UInt8.ofNat y.2.length)] : List UInt8) ++ y.1) y.2 F rfl (by kernel_rfl) (by kernel_rfl) (by first | omega | (simp only [List.length_append, List.length_cons, List.length_nil]; omega)) (fun a F => ?_))
  refine l_do F rfl rfl (op_sadd _ _ _ _ (shotP (lb.L.take jj)) ((([(UInt8.ofNat y.1.length), (UInt8.ofNat (y.2.length / 2 ^ 8)), (UInt8.ofNat y.2.length)] : List UInt8) ++ y.1) ++ y.2) F rfl (by kernel_rfl) (by kernel_rfl) (by first | omega | (simp only [List.length_append, List.length_cons, List.length_nil]; omega)) (fun a F => ?_))
  refine l_pure 1 (fun L => (3, strV ((shotP (lb.L.take jj)) ++ ((([(UInt8.ofNat y.1.length), (UInt8.ofNat (y.2.length / 2 ^ 8)), (UInt8.ofNat y.2.length)] : List UInt8) ++ y.1) ++ y.2))) :: L) F (by kernel_rfl) fun a F => ?_
  refine l_nil (inb_n ?_)
  refine then_n ?_
  refine wp_region_list ?_
  refine l_do F rfl rfl (op_pure F (v0 := .int .i64 (IntKind.wrap .i64 ((jj : Nat) + 1))) (v := .int .i64 (jj + 1 : Nat)) (by kernel_rfl) (wrn_i64 (by omega) (by omega) (by omega)) fun a F => ?_)
  refine l_pure 1 (fun L => (11, .int .i64 (jj + 1 : Nat)) :: L) F (by kernel_rfl) fun a F => ?_
  refine l_then ?_
  exact ⟨_, (by omega), (jj + 1), rfl, (by omega), F.sub ⟨by kernel_rfl, (by rw [← shot_succ hy]; kernel_rfl), by kernel_rfl, by kernel_rfl, by kernel_rfl, trivial⟩, (S.pick [0, 1, 2] (by decide))⟩
 ·
  skip
  have hje : jj = lb.L.length := by omega
  refine l_do F rfl rfl (op_pure F (v0 := .bool (decide (((jj : Nat) : Int) < (((nmsP lb.L).length : Nat) : Int)))) (v := .bool false) (by kernel_rfl) (lssF ht2) fun a F => ?_)
  refine l_then ?_
  refine wp_seq ?_
  refine c_f F rfl ?_
  refine wp_exit ?_
  refine then_x ?_
  refine then_x ?_
  refine inb_x ?_
  refine then_n ?_
  refine s_reg ?_
  refine l_pure 2 (fun L => (2, strV (shotP (lb.L.take jj))) :: (41, strV (shotP (lb.L.take jj))) :: L) F (by kernel_rfl) fun a F => ?_
  refine l_then ?_
  refine wp_ret ?_
  exact fin F [.tmp 2] [strV (shotP (lb.L.take jj))] rfl ⟨by kernel_rfl, trivial⟩ (strV (shotP (lb.L.take jj))) rfl ⟨by rw [shot_end hje], S.pick [1, 0] (by decide)⟩
set_option maxRecDepth 100000 in
set_option maxHeartbeats 4000000 in
theorem lasts17_law (w : World) (Ao : Option Addr) (co : Nat) (O : List OpV) (hO : Recs 9 opC w Ao co O) (hOk : ∀ o ∈ O, StOk o) : Calls Try.prog 5 #[.slice Ao O.length co] w fun e w' => e = .returned (.bool true) ∧ Below w.heap.size w w' := by
 refine enter 177 Try.func5 rfl rfl rfl fun a F => ?_
 have S := Sat.pushRest w
 refine s_reg ?_
 refine l_pure 1 (fun L => (2, .bool false) :: L) F (by kernel_rfl) fun a F => ?_
 refine l_then ?_
 refine s_reg ?_
 refine l_do F rfl rfl (op_fn F (by kernel_rfl) (snew_at S) ?_)
 rintro e z ⟨g0, rfl, S⟩
 refine ⟨_, rfl, ?_⟩
 intro a F
 refine l_do F rfl rfl (op_fn F (by kernel_rfl) (snew_at S) ?_)
 rintro e z ⟨g1, rfl, S⟩
 refine ⟨_, rfl, ?_⟩
 intro a F
 refine l_pure 1 (fun L => (20, .agg #[.pointer (some ⟨g0, 0, none⟩), .pointer (some ⟨g1, 0, none⟩)]) :: L) F (by kernel_rfl) fun a F => ?_
 refine l_do F rfl rfl (op_alloc S _ (.agg #[.pointer none, .pointer none]) rfl (by kernel_rfl) fun b1 z S a F => ?_)
 refine l_do F rfl rfl (op_storeB S 3 _ _ _ b1 0 (.agg #[.pointer (some ⟨g0, 0, none⟩), .pointer (some ⟨g1, 0, none⟩)]) F rfl rfl (by kernel_rfl) (by kernel_rfl) (by kernel_rfl) (by kernel_rfl) (by kernel_rfl) fun z S a F => ?_)
 refine l_then ?_
 refine s_reg ?_
 refine l_pure 1 (fun L => (22, .pointer (some ⟨b1, 0, none⟩)) :: L) F (by kernel_rfl) fun a F => ?_
 refine l_do F rfl rfl (op_load _ _ (some ⟨b1, 0, none⟩) 0 (.pointer (some ⟨g0, 0, none⟩)) F rfl (by kernel_rfl) (by kernel_rfl) (cBox S 3 rfl (j := 0) rfl) (fun a F => ?_))
 refine l_pure 1 (fun L => (24, .pointer (some ⟨b1, 1, none⟩)) :: L) F (by kernel_rfl) fun a F => ?_
 refine l_do F rfl rfl (op_load _ _ (some ⟨b1, 0, none⟩) 1 (.pointer (some ⟨g1, 0, none⟩)) F rfl (by kernel_rfl) (by kernel_rfl) (cBox S 3 rfl (j := 1) rfl) (fun a F => ?_))
 obtain ⟨G9, g9, hin9, hlt9, k9⟩ := S.frameB [1, 2] (by decide) rfl
 refine l_do F rfl rfl (op_fn F (by kernel_rfl) (lopen_ok 3 (.mono .new (by decide)) (.mono .new (by decide)) (by decide) rfl rfl aw1_ok g9) ?_)
 rintro e z9 ⟨bl1, rfl, g⟩
 have S : Sat w z9 [rest w (· < w.heap.size), star2 (sdA g0 aw1.s0) (lgA bl1 g0 g1 aw1.lb), sdA g1 aw1.s1, box b1 48 [.pointer (some ⟨g0, 0, none⟩), .pointer (some ⟨g1, 0, none⟩)]] := k9 z9 [star2 (sdA g0 aw1.s0) (lgA bl1 g0 g1 aw1.lb), sdA g1 aw1.s1] rfl g
 clear g g9 k9 hin9 hlt9
 have S := S.open2 (i := 1) rfl
 have S : Sat w z9 [rest w (· < w.heap.size), sdA g0 aw1.s0, sdA g1 aw1.s1, box b1 48 [.pointer (some ⟨g0, 0, none⟩), .pointer (some ⟨g1, 0, none⟩)], lgA bl1 g0 g1 aw1.lb] := S
 refine ⟨_, rfl, ?_⟩
 intro a F
 refine l_pure 5 (fun L => (5, .int .i64 0) :: (4, .pointer (some ⟨bl1, 0, none⟩)) :: (28, .int .i64 0) :: (27, .pointer (some ⟨bl1, 0, none⟩)) :: (21, .tuple #[.pointer (some ⟨bl1, 0, none⟩), .int .i64 0]) :: L) F (by kernel_rfl) fun a F => ?_
 refine l_then ?_
 refine wp_seq ?_
 refine s_reg ?_
 refine l_pure 7 (fun L => (35, .bool false) :: (34, .bool false) :: (33, .bool false) :: (32, .int .i64 0) :: (31, .bool false) :: (30, .bool false) :: (29, .pointer (some ⟨bl1, 0, none⟩)) :: L) F (by kernel_rfl) fun a F => ?_
 refine l_do F rfl rfl (op_fn F (by kernel_rfl) (awake17 _) ?_)
 rintro e z ⟨rfl, hb⟩
 have S := S.grow hb
 refine ⟨_, rfl, ?_⟩
 intro a F
 refine l_pure 2 (fun L => (38, .bool false) :: (37, .bool false) :: L) F (by kernel_rfl) fun a F => ?_
 refine l_then ?_
 refine c_f F rfl ?_
 refine wp_skip ?_
 refine then_n ?_
 refine s_reg ?_
 refine l_pure 1 (fun L => (39, .pointer (some ⟨bl1, 0, none⟩)) :: L) F (by kernel_rfl) fun a F => ?_
 obtain ⟨G9, g9, hin9, hlt9, k9⟩ := S.frameB [4] (by decide) rfl
 refine l_do F rfl rfl (op_fn F (by kernel_rfl) (shot_any _ G9 bl1 g0 g1 aw1.lb (InvT.lbok aw1_inv (by decide)).ri (InvT.lbok aw1_inv (by decide)).nm (InvT.lbok aw1_inv (by decide)).vl (by have h9 := (InvT.lbok aw1_inv (by decide)).ct; omega) g9) ?_)
 rintro e z9 ⟨rfl, g⟩
 have S : Sat w z9 [rest w (· < w.heap.size), sdA g0 aw1.s0, sdA g1 aw1.s1, box b1 48 [.pointer (some ⟨g0, 0, none⟩), .pointer (some ⟨g1, 0, none⟩)], lgA bl1 g0 g1 aw1.lb] := k9 z9 [lgA bl1 g0 g1 aw1.lb] rfl g
 clear g g9 k9 hin9 hlt9
 refine ⟨_, rfl, ?_⟩
 intro a F
 refine l_do F rfl rfl (op_buildSlice S _ 1 _ 9 1 sC ([shotP aw1.lb.L] : List Bs) F rfl (by kernel_rfl) (by kernel_rfl) (by kernel_rfl) (by unfold maxLen; omega) fun b2 z S a F => ?_)
 refine l_pure 1 (fun L => (6, .slice (some ⟨b2, 0, none⟩) 1 1) :: L) F (by kernel_rfl) fun a F => ?_
 refine l_then ?_
 refine wp_seq ?_
 refine s_reg ?_
 refine l_pure 3 (fun L => (44, .int .i64 0) :: (43, .int .i64 (O.length : Nat)) :: (42, .slice Ao O.length co) :: L) F (by kernel_rfl) fun a F => ?_
 refine l_then ?_
 refine wp_block ?_
 refine wp_loop_m (fun m a z => ∃ (ii : Nat) (xx : Lg) (bb : Nat) (ms : List (List NV)) (Am : Option Addr) (cm : Nat), m = O.length - ii ∧ (ii ≤ O.length) ∧ (ii ≤ 50) ∧ (Inv xx ms ii) ∧ (ms.length ≤ ii + 1) ∧ Fr a 177 [(3, .pointer (some ⟨b1, 0, none⟩)), (4, .pointer (some ⟨bb, 0, none⟩)), (6, .slice Am ((ms.map shotP).length) cm), (42, .slice Ao O.length co), (43, .int .i64 (O.length : Nat)), (44, .int .i64 (ii : Nat))] ∧ Sat w z [rest w (· < w.heap.size), box b1 48 [.pointer (some ⟨g0, 0, none⟩), .pointer (some ⟨g1, 0, none⟩)], sdA g0 xx.s0, sdA g1 xx.s1, lgA bb g0 g1 xx.lb, row 9 1 (.slice Am ((ms.map shotP).length) cm) ((ms.map shotP).length) ((ms.map shotP).flatMap sC)]) _ ⟨0, aw1, bl1, [aw1.lb.L], (some ⟨b2, 0, none⟩), 1, rfl, Nat.zero_le _, (by decide), (by rw [aw1_L]; exact aw1_inv), (by simp), F.sub ⟨by kernel_rfl, by kernel_rfl, by kernel_rfl, by kernel_rfl, by kernel_rfl, by kernel_rfl, trivial⟩, (S.pick [0, 3, 1, 2, 4, 5] (by decide))⟩ ?_
 rintro m a z ⟨ii, xx, bb, ms, Am, cm, hm, hf3, hf4, hf5, hf6, F, S⟩
 obtain ⟨hil, hi50, hI, hms⟩ := And.intro hf3 (And.intro hf4 (And.intro hf5 hf6))
 have hml : (ms.map shotP).length = ms.length := List.length_map _
 obtain ⟨hi0, hi1⟩ := inv_in hI
 have hlf := hI.lf
 have hon := hI.on
 have hgl := hI.gl.ct
 refine s_reg ?_
 by_cases ht7 : ((ii : Nat) : Int) < ((O.length : Nat) : Int)
 ·
  skip
  obtain ⟨o, ho⟩ : ∃ o, O[ii]? = some o := ⟨_, List.getElem?_eq_getElem (by omega)⟩
  have hok := hOk o (List.mem_of_getElem? ho)
  have hon1 := hok.n.2
  refine l_do F rfl rfl (op_pure F (v0 := .bool (decide (((ii : Nat) : Int) < ((O.length : Nat) : Int)))) (v := .bool true) (by kernel_rfl) (lssT ht7) fun a F => ?_)
  refine l_then ?_
  refine wp_seq ?_
  refine c_t F rfl ?_
  refine wp_skip ?_
  refine then_n ?_
  refine wp_seq ?_
  refine wp_block ?_
  refine s_reg ?_
  refine l_pure 1 (fun L => (46, .int .i64 (ii : Nat)) :: L) F (by kernel_rfl) fun a F => ?_
  refine l_do F rfl rfl (op_index _ 33 _ _ Ao O.length co ii 9 .i64 F rfl (by kernel_rfl) (by kernel_rfl) (by kernel_rfl) (by kernel_rfl) (get_lt ho) (recs_some hO (m := ii) (get_lt ho)) (fun a F => ?_))
  refine l_do F rfl rfl (op_loadK _ _ Ao (ii * 9) [.int .i64 o.kind, strV o.nm, strV o.vl, .int .u8 (o.wh : Nat), .int .i64 o.n, .int .i64 o.k0, .int .i64 o.k1, .int .i64 o.z0, .int .i64 o.z1] F rfl (by kernel_rfl) (by kernel_rfl) (by kernel_rfl) (by simp) (cOldK0 S 0 opC_len hO rfl ho (by kernel_rfl)) (fun a F => ?_))
  refine l_do F rfl rfl (op_alloc S _ (.agg #[.int .i64 0, strV ([] : Bs), strV ([] : Bs), .int .u8 0, .int .i64 0, .int .i64 0, .int .i64 0, .int .i64 0, .int .i64 0]) rfl (by kernel_rfl) fun b8 z S a F => ?_)
  refine l_pure 1 (fun L => (7, .int .i64 (ii : Nat)) :: L) F (by kernel_rfl) fun a F => ?_
  refine l_do F rfl rfl (op_storeB S 6 _ _ _ b8 0 (.agg #[.int .i64 o.kind, strV o.nm, strV o.vl, .int .u8 (o.wh : Nat), .int .i64 o.n, .int .i64 o.k0, .int .i64 o.k1, .int .i64 o.z0, .int .i64 o.z1]) F rfl rfl (by kernel_rfl) (by kernel_rfl) (by kernel_rfl) (by kernel_rfl) (by kernel_rfl) fun z S a F => ?_)
  refine l_then ?_
  refine wp_seq ?_
  refine s_reg ?_
  refine l_pure 1 (fun L => (49, .int .i64 (ii : Nat)) :: L) F (by kernel_rfl) fun a F => ?_
  by_cases ht9 : (50 : Int) ≤ ((ii : Nat) : Int)
  ·
   skip
   refine l_do F rfl rfl (op_pure F (v0 := .bool (decide (((ii : Nat) : Int) ≥ (50 : Int)))) (v := .bool true) (by kernel_rfl) (geqT ht9) fun a F => ?_)
   refine l_pure 5 (fun L => (55, .bool true) :: (54, undef) :: (53, undef) :: (52, undef) :: (51, .bool true) :: L) F (by kernel_rfl) fun a F => ?_
   refine l_then ?_
   refine c_t F rfl ?_
   refine wp_exit ?_
   refine then_x ?_
   refine inb_xo (by kernel_rfl) ?_
   refine then_x ?_
   refine then_x ?_
   refine inb_x ?_
   refine then_n ?_
   refine s_reg ?_
   refine l_pure 1 (fun L => (2, .bool true) :: L) F (by kernel_rfl) fun a F => ?_
   refine l_then ?_
   refine wp_ret ?_
   exact fin F [.tmp 2] [.bool true] rfl ⟨by kernel_rfl, trivial⟩ (.bool true) rfl ⟨rfl, S.below (i := 0) rfl⟩
  ·
   skip
   refine l_do F rfl rfl (op_pure F (v0 := .bool (decide (((ii : Nat) : Int) ≥ (50 : Int)))) (v := .bool false) (by kernel_rfl) (geqF ht9) fun a F => ?_)
   refine l_pure 1 (fun L => (51, .bool false) :: L) F (by kernel_rfl) fun a F => ?_
   refine l_do F rfl rfl (op_loadK _ _ (some ⟨b8, 0, none⟩) 0 [.int .i64 o.kind, strV o.nm, strV o.vl, .int .u8 (o.wh : Nat), .int .i64 o.n, .int .i64 o.k0, .int .i64 o.k1, .int .i64 o.z0, .int .i64 o.z1] F rfl (by kernel_rfl) (by kernel_rfl) (by kernel_rfl) (by simp) (cBoxK S 6 rfl 0 (by kernel_rfl)) (fun a F => ?_))
   cases hb10 : (fitsB o.nm o.vl) with
   | false =>
    refine l_do F rfl rfl (op_fn F (by kernel_rfl) (fits17 _ o) ?_)
    rintro e z ⟨rfl, hb⟩
    have S := S.grow hb
    refine ⟨_, rfl, ?_⟩
    rw [hb10]
    intro a F
    refine l_pure 2 (fun L => (55, .bool true) :: (54, .bool true) :: L) F (by kernel_rfl) fun a F => ?_
    refine l_then ?_
    refine c_t F rfl ?_
    refine wp_exit ?_
    refine then_x ?_
    refine inb_xo (by kernel_rfl) ?_
    refine then_x ?_
    refine then_x ?_
    refine inb_x ?_
    refine then_n ?_
    refine s_reg ?_
    refine l_pure 1 (fun L => (2, .bool true) :: L) F (by kernel_rfl) fun a F => ?_
    refine l_then ?_
    refine wp_ret ?_
    exact fin F [.tmp 2] [.bool true] rfl ⟨by kernel_rfl, trivial⟩ (.bool true) rfl ⟨rfl, S.below (i := 0) rfl⟩
   | true =>
    obtain ⟨hfn, hfv⟩ := fits_t hb10
    refine l_do F rfl rfl (op_fn F (by kernel_rfl) (fits17 _ o) ?_)
    rintro e z ⟨rfl, hb⟩
    have S := S.grow hb
    refine ⟨_, rfl, ?_⟩
    rw [hb10]
    intro a F
    refine l_pure 2 (fun L => (55, .bool false) :: (54, .bool false) :: L) F (by kernel_rfl) fun a F => ?_
    refine l_then ?_
    refine c_f F rfl ?_
    refine wp_skip ?_
    refine then_n ?_
    refine s_reg ?_
    refine l_pure 1 (fun L => (56, .pointer (some ⟨b8, 0, none⟩)) :: L) F (by kernel_rfl) fun a F => ?_
    refine l_do F rfl rfl (op_load _ _ (some ⟨b8, 0, none⟩) 0 (.int .i64 o.kind) F rfl (by kernel_rfl) (by kernel_rfl) (cBox S 6 rfl (j := 0) rfl) (fun a F => ?_))
    refine l_then ?_
    refine wp_block ?_
    refine s_reg ?_
    by_cases ht11 : (o.kind : Int) = (0 : Int)
    ·
     skip
     refine l_do F rfl rfl (op_pure F (v0 := .bool ((o.kind : Int) == (0 : Int))) (v := .bool true) (by kernel_rfl) (eqlT ht11) fun a F => ?_)
     refine l_pure 1 (fun L => (58, .bool true) :: L) F (by kernel_rfl) fun a F => ?_
     refine l_then ?_
     refine c_t F rfl ?_
     refine s_reg ?_
     refine l_pure 1 (fun L => (60, .pointer (some ⟨bb, 0, none⟩)) :: L) F (by kernel_rfl) fun a F => ?_
     obtain ⟨G9, g9, hin9, hlt9, k9⟩ := S.frameB [4] (by decide) rfl
     refine l_do F rfl rfl (op_fn F (by kernel_rfl) (shot_any _ G9 bb g0 g1 xx.lb (InvT.lbok hI (by omega)).ri (InvT.lbok hI (by omega)).nm (InvT.lbok hI (by omega)).vl (by have h9 := (InvT.lbok hI (by omega)).ct; omega) g9) ?_)
     rintro e z9 ⟨rfl, g⟩
     have S : Sat w z9 [rest w (· < w.heap.size), box b1 48 [.pointer (some ⟨g0, 0, none⟩), .pointer (some ⟨g1, 0, none⟩)], sdA g0 xx.s0, sdA g1 xx.s1, lgA bb g0 g1 xx.lb, row 9 1 (.slice Am ((ms.map shotP).length) cm) ((ms.map shotP).length) ((ms.map shotP).flatMap sC), box b8 33 [.int .i64 o.kind, strV o.nm, strV o.vl, .int .u8 (o.wh : Nat), .int .i64 o.n, .int .i64 o.k0, .int .i64 o.k1, .int .i64 o.z0, .int .i64 o.z1]] := k9 z9 [lgA bb g0 g1 xx.lb] rfl g
     clear g g9 k9 hin9 hlt9
     refine ⟨_, rfl, ?_⟩
     intro a F
     refine l_pure 1 (fun L => (9, strV (shotP xx.lb.L)) :: L) F (by kernel_rfl) fun a F => ?_
     refine l_then ?_
     refine s_reg ?_
     refine l_pure 2 (fun L => (63, .pointer (some ⟨b8, 1, none⟩)) :: (62, .pointer (some ⟨bb, 0, none⟩)) :: L) F (by kernel_rfl) fun a F => ?_
     refine l_do F rfl rfl (op_load _ _ (some ⟨b8, 0, none⟩) 1 (strV o.nm) F rfl (by kernel_rfl) (by kernel_rfl) (cBox S 6 rfl (j := 1) rfl) (fun a F => ?_))
     refine l_pure 1 (fun L => (65, .pointer (some ⟨b8, 2, none⟩)) :: L) F (by kernel_rfl) fun a F => ?_
     refine l_do F rfl rfl (op_load _ _ (some ⟨b8, 0, none⟩) 2 (strV o.vl) F rfl (by kernel_rfl) (by kernel_rfl) (cBox S 6 rfl (j := 2) rfl) (fun a F => ?_))
     refine l_do F rfl rfl (op_bytes S _ _ 5 _ o.vl F rfl (by kernel_rfl) (by kernel_rfl) (by kernel_rfl) (by kernel_rfl) fun b12 c13 z S a F => ?_)
     obtain ⟨G9, g9, hin9, hlt9, k9⟩ := S.frameB [4, 2, 3] (by decide) rfl
     refine l_do F rfl rfl (op_fn F (by kernel_rfl) (lput_any (x := xx) (3 * (ii : Int) + 3) hi0 hi1 (by omega) hon (by omega) o.nm _ c13 o.vl (S.sbOf (i := 7) rfl (by omega)) (InG.sb S hin9 7 (by decide) rfl) g9) ?_)
     rintro e z9 ⟨rfl, g⟩
     have S : Sat w z9 [rest w (· < w.heap.size), box b1 48 [.pointer (some ⟨g0, 0, none⟩), .pointer (some ⟨g1, 0, none⟩)], sdA g0 (putT xx o.nm o.vl).2.s0, sdA g1 (putT xx o.nm o.vl).2.s1, lgA bb g0 g1 (putT xx o.nm o.vl).2.lb, row 9 1 (.slice Am ((ms.map shotP).length) cm) ((ms.map shotP).length) ((ms.map shotP).flatMap sC), box b8 33 [.int .i64 o.kind, strV o.nm, strV o.vl, .int .u8 (o.wh : Nat), .int .i64 o.n, .int .i64 o.k0, .int .i64 o.k1, .int .i64 o.z0, .int .i64 o.z1], sbA b12 5 o.vl c13] := k9 z9 [lgA bb g0 g1 (putT xx o.nm o.vl).2.lb, sdA g0 (putT xx o.nm o.vl).2.s0, sdA g1 (putT xx o.nm o.vl).2.s1] rfl g
     clear g g9 k9 hin9 hlt9
     refine ⟨_, rfl, ?_⟩
     intro a F
     refine l_pure 1 (fun L => (10, .int .i64 ((putT xx o.nm o.vl).1)) :: L) F (by kernel_rfl) fun a F => ?_
     refine l_then ?_
     refine wp_seq ?_
     refine s_reg ?_
     refine l_pure 1 (fun L => (69, .int .i64 ((putT xx o.nm o.vl).1)) :: L) F (by kernel_rfl) fun a F => ?_
     by_cases ht14 : ((putT xx o.nm o.vl).1 : Int) = (0 : Int)
     ·
      skip
      refine l_do F rfl rfl (op_pure F (v0 := .bool (((putT xx o.nm o.vl).1 : Int) != (0 : Int))) (v := .bool false) (by kernel_rfl) (neqF ht14) fun a F => ?_)
      refine l_pure 6 (fun L => (76, .bool false) :: (75, undef) :: (74, undef) :: (73, undef) :: (72, undef) :: (71, .bool false) :: L) F (by kernel_rfl) fun a F => ?_
      refine l_then ?_
      refine c_f F rfl ?_
      refine wp_skip ?_
      refine then_n ?_
      refine wp_region_list ?_
      refine l_pure 2 (fun L => (78, .pointer (some ⟨bb, 0, none⟩)) :: (77, .slice Am ((ms.map shotP).length) cm) :: L) F (by kernel_rfl) fun a F => ?_
      obtain ⟨G9, g9, hin9, hlt9, k9⟩ := S.frameB [4] (by decide) rfl
      refine l_do F rfl rfl (op_fn F (by kernel_rfl) (shot_any _ G9 bb g0 g1 (putT xx o.nm o.vl).2.lb (InvT.lbok (inv_put hI (by omega) o.nm o.vl).1 (by omega)).ri (InvT.lbok (inv_put hI (by omega) o.nm o.vl).1 (by omega)).nm (InvT.lbok (inv_put hI (by omega) o.nm o.vl).1 (by omega)).vl (by have h9 := (InvT.lbok (inv_put hI (by omega) o.nm o.vl).1 (by omega)).ct; omega) g9) ?_)
      rintro e z9 ⟨rfl, g⟩
      have S : Sat w z9 [rest w (· < w.heap.size), box b1 48 [.pointer (some ⟨g0, 0, none⟩), .pointer (some ⟨g1, 0, none⟩)], sdA g0 (putT xx o.nm o.vl).2.s0, sdA g1 (putT xx o.nm o.vl).2.s1, lgA bb g0 g1 (putT xx o.nm o.vl).2.lb, row 9 1 (.slice Am ((ms.map shotP).length) cm) ((ms.map shotP).length) ((ms.map shotP).flatMap sC), box b8 33 [.int .i64 o.kind, strV o.nm, strV o.vl, .int .u8 (o.wh : Nat), .int .i64 o.n, .int .i64 o.k0, .int .i64 o.k1, .int .i64 o.z0, .int .i64 o.z1], sbA b12 5 o.vl c13] := k9 z9 [lgA bb g0 g1 (putT xx o.nm o.vl).2.lb] rfl g
      clear g g9 k9 hin9 hlt9
      refine ⟨_, rfl, ?_⟩
      intro a F
      refine l_do F rfl rfl (op_buildSlice S _ 1 _ 9 1 sC ([shotP (putT xx o.nm o.vl).2.lb.L] : List Bs) F rfl (by kernel_rfl) (by kernel_rfl) (by kernel_rfl) (by unfold maxLen; omega) fun b15 z S a F => ?_)
      refine l_do F rfl rfl (op_append S 5 _ _ _ 9 (strV ([] : Bs)) 1 16 (ms.map shotP) ([shotP (putT xx o.nm o.vl).2.lb.L] : List Bs) sC (some ⟨b15, 0, none⟩) 1 F sC_len (fun _ => rfl) rfl rfl (by kernel_rfl) (by kernel_rfl) rfl rfl rfl (by kernel_rfl) (by kernel_rfl) (row_none (S.rowOf (i := 8) rfl)) (src_row (S.rowOf (i := 8) rfl)) (by first | omega | (simp <;> omega)) fun A16 c17 z S a F => ?_)
      refine l_pure 1 (fun L => (6, .slice A16 (((ms.map shotP) ++ ([shotP (putT xx o.nm o.vl).2.lb.L] : List Bs)).length) c17) :: L) F (by kernel_rfl) fun a F => ?_
      refine l_nil (inb_n ?_)
      refine inb_n ?_
      refine then_n ?_
      refine wp_region_list ?_
      refine l_do F rfl rfl (op_pure F (v0 := .int .i64 (IntKind.wrap .i64 ((ii : Nat) + 1))) (v := .int .i64 (ii + 1 : Nat)) (by kernel_rfl) (wrn_i64 (by omega) (by omega) (by omega)) fun a F => ?_)
      refine l_pure 1 (fun L => (44, .int .i64 (ii + 1 : Nat)) :: L) F (by kernel_rfl) fun a F => ?_
      refine l_then ?_
      have e9 := shot_snoc ms (putT xx o.nm o.vl).2.lb.L
      rw [e9] at S
      exact ⟨_, (by omega), (ii + 1), (putT xx o.nm o.vl).2, bb, (ms ++ [(putT xx o.nm o.vl).2.lb.L]), A16, c17, rfl, (by omega), (by omega), (inv_put hI (by omega) o.nm o.vl).1, (by simp only [List.length_append, List.length_cons, List.length_nil]; omega), F.sub ⟨by kernel_rfl, by kernel_rfl, (by rw [← e9]; kernel_rfl), by kernel_rfl, by kernel_rfl, by kernel_rfl, trivial⟩, (S.pick [0, 1, 2, 3, 4, 5] (by decide))⟩
     ·
      skip
      refine l_do F rfl rfl (op_pure F (v0 := .bool (((putT xx o.nm o.vl).1 : Int) != (0 : Int))) (v := .bool true) (by kernel_rfl) (neqT ht14) fun a F => ?_)
      refine l_pure 2 (fun L => (72, .pointer (some ⟨bb, 0, none⟩)) :: (71, .bool true) :: L) F (by kernel_rfl) fun a F => ?_
      obtain ⟨G9, g9, hin9, hlt9, k9⟩ := S.frameB [4] (by decide) rfl
      refine l_do F rfl rfl (op_fn F (by kernel_rfl) (shot_any _ G9 bb g0 g1 (putT xx o.nm o.vl).2.lb (InvT.lbok (inv_put hI (by omega) o.nm o.vl).1 (by omega)).ri (InvT.lbok (inv_put hI (by omega) o.nm o.vl).1 (by omega)).nm (InvT.lbok (inv_put hI (by omega) o.nm o.vl).1 (by omega)).vl (by have h9 := (InvT.lbok (inv_put hI (by omega) o.nm o.vl).1 (by omega)).ct; omega) g9) ?_)
      rintro e z9 ⟨rfl, g⟩
      have S : Sat w z9 [rest w (· < w.heap.size), box b1 48 [.pointer (some ⟨g0, 0, none⟩), .pointer (some ⟨g1, 0, none⟩)], sdA g0 (putT xx o.nm o.vl).2.s0, sdA g1 (putT xx o.nm o.vl).2.s1, lgA bb g0 g1 (putT xx o.nm o.vl).2.lb, row 9 1 (.slice Am ((ms.map shotP).length) cm) ((ms.map shotP).length) ((ms.map shotP).flatMap sC), box b8 33 [.int .i64 o.kind, strV o.nm, strV o.vl, .int .u8 (o.wh : Nat), .int .i64 o.n, .int .i64 o.k0, .int .i64 o.k1, .int .i64 o.z0, .int .i64 o.z1], sbA b12 5 o.vl c13] := k9 z9 [lgA bb g0 g1 (putT xx o.nm o.vl).2.lb] rfl g
      clear g g9 k9 hin9 hlt9
      refine ⟨_, rfl, ?_⟩
      intro a F
      refine l_pure 1 (fun L => (74, strV (shotP xx.lb.L)) :: L) F (by kernel_rfl) fun a F => ?_
      refine l_do F rfl rfl (op_sneq _ _ _ _ (shotP (putT xx o.nm o.vl).2.lb.L) (shotP xx.lb.L) false F rfl (by kernel_rfl) (by kernel_rfl) (by rw [beq_iff_eq.2 (congrArg shotP ((inv_put hI (by omega) o.nm o.vl).2 ht14))]; rfl) (fun a F => ?_))
      refine l_pure 1 (fun L => (76, .bool false) :: L) F (by kernel_rfl) fun a F => ?_
      refine l_then ?_
      refine c_f F rfl ?_
      refine wp_skip ?_
      refine then_n ?_
      refine wp_region_list ?_
      refine l_pure 2 (fun L => (78, .pointer (some ⟨bb, 0, none⟩)) :: (77, .slice Am ((ms.map shotP).length) cm) :: L) F (by kernel_rfl) fun a F => ?_
      obtain ⟨G9, g9, hin9, hlt9, k9⟩ := S.frameB [4] (by decide) rfl
      refine l_do F rfl rfl (op_fn F (by kernel_rfl) (shot_any _ G9 bb g0 g1 (putT xx o.nm o.vl).2.lb (InvT.lbok (inv_put hI (by omega) o.nm o.vl).1 (by omega)).ri (InvT.lbok (inv_put hI (by omega) o.nm o.vl).1 (by omega)).nm (InvT.lbok (inv_put hI (by omega) o.nm o.vl).1 (by omega)).vl (by have h9 := (InvT.lbok (inv_put hI (by omega) o.nm o.vl).1 (by omega)).ct; omega) g9) ?_)
      rintro e z9 ⟨rfl, g⟩
      have S : Sat w z9 [rest w (· < w.heap.size), box b1 48 [.pointer (some ⟨g0, 0, none⟩), .pointer (some ⟨g1, 0, none⟩)], sdA g0 (putT xx o.nm o.vl).2.s0, sdA g1 (putT xx o.nm o.vl).2.s1, lgA bb g0 g1 (putT xx o.nm o.vl).2.lb, row 9 1 (.slice Am ((ms.map shotP).length) cm) ((ms.map shotP).length) ((ms.map shotP).flatMap sC), box b8 33 [.int .i64 o.kind, strV o.nm, strV o.vl, .int .u8 (o.wh : Nat), .int .i64 o.n, .int .i64 o.k0, .int .i64 o.k1, .int .i64 o.z0, .int .i64 o.z1], sbA b12 5 o.vl c13] := k9 z9 [lgA bb g0 g1 (putT xx o.nm o.vl).2.lb] rfl g
      clear g g9 k9 hin9 hlt9
      refine ⟨_, rfl, ?_⟩
      intro a F
      refine l_do F rfl rfl (op_buildSlice S _ 1 _ 9 1 sC ([shotP (putT xx o.nm o.vl).2.lb.L] : List Bs) F rfl (by kernel_rfl) (by kernel_rfl) (by kernel_rfl) (by unfold maxLen; omega) fun b18 z S a F => ?_)
      refine l_do F rfl rfl (op_append S 5 _ _ _ 9 (strV ([] : Bs)) 1 16 (ms.map shotP) ([shotP (putT xx o.nm o.vl).2.lb.L] : List Bs) sC (some ⟨b18, 0, none⟩) 1 F sC_len (fun _ => rfl) rfl rfl (by kernel_rfl) (by kernel_rfl) rfl rfl rfl (by kernel_rfl) (by kernel_rfl) (row_none (S.rowOf (i := 8) rfl)) (src_row (S.rowOf (i := 8) rfl)) (by first | omega | (simp <;> omega)) fun A19 c20 z S a F => ?_)
      refine l_pure 1 (fun L => (6, .slice A19 (((ms.map shotP) ++ ([shotP (putT xx o.nm o.vl).2.lb.L] : List Bs)).length) c20) :: L) F (by kernel_rfl) fun a F => ?_
      refine l_nil (inb_n ?_)
      refine inb_n ?_
      refine then_n ?_
      refine wp_region_list ?_
      refine l_do F rfl rfl (op_pure F (v0 := .int .i64 (IntKind.wrap .i64 ((ii : Nat) + 1))) (v := .int .i64 (ii + 1 : Nat)) (by kernel_rfl) (wrn_i64 (by omega) (by omega) (by omega)) fun a F => ?_)
      refine l_pure 1 (fun L => (44, .int .i64 (ii + 1 : Nat)) :: L) F (by kernel_rfl) fun a F => ?_
      refine l_then ?_
      have e9 := shot_snoc ms (putT xx o.nm o.vl).2.lb.L
      rw [e9] at S
      exact ⟨_, (by omega), (ii + 1), (putT xx o.nm o.vl).2, bb, (ms ++ [(putT xx o.nm o.vl).2.lb.L]), A19, c20, rfl, (by omega), (by omega), (inv_put hI (by omega) o.nm o.vl).1, (by simp only [List.length_append, List.length_cons, List.length_nil]; omega), F.sub ⟨by kernel_rfl, by kernel_rfl, (by rw [← e9]; kernel_rfl), by kernel_rfl, by kernel_rfl, by kernel_rfl, trivial⟩, (S.pick [0, 1, 2, 3, 4, 5] (by decide))⟩
    ·
     skip
     refine l_do F rfl rfl (op_pure F (v0 := .bool ((o.kind : Int) == (0 : Int))) (v := .bool false) (by kernel_rfl) (eqlF ht11) fun a F => ?_)
     refine l_pure 1 (fun L => (58, .bool false) :: L) F (by kernel_rfl) fun a F => ?_
     refine l_then ?_
     refine c_f F rfl ?_
     refine s_reg ?_
     by_cases ht21 : (o.kind : Int) = (1 : Int)
     ·
      skip
      refine l_do F rfl rfl (op_pure F (v0 := .bool ((o.kind : Int) == (1 : Int))) (v := .bool true) (by kernel_rfl) (eqlT ht21) fun a F => ?_)
      refine l_pure 1 (fun L => (82, .bool true) :: L) F (by kernel_rfl) fun a F => ?_
      refine l_then ?_
      refine c_t F rfl ?_
      refine s_reg ?_
      refine l_pure 2 (fun L => (85, .pointer (some ⟨b8, 1, none⟩)) :: (84, .pointer (some ⟨bb, 0, none⟩)) :: L) F (by kernel_rfl) fun a F => ?_
      refine l_do F rfl rfl (op_load _ _ (some ⟨b8, 0, none⟩) 1 (strV o.nm) F rfl (by kernel_rfl) (by kernel_rfl) (cBox S 6 rfl (j := 1) rfl) (fun a F => ?_))
      obtain ⟨G9, g9, hin9, hlt9, k9⟩ := S.frameB [4, 2, 3] (by decide) rfl
      refine l_do F rfl rfl (op_fn F (by kernel_rfl) (ldrop_any (x := xx) (3 * (ii : Int) + 3) hi0 hi1 (by omega) hon o.nm (by omega) g9) ?_)
      rintro e z9 ⟨rfl, g⟩
      have S : Sat w z9 [rest w (· < w.heap.size), box b1 48 [.pointer (some ⟨g0, 0, none⟩), .pointer (some ⟨g1, 0, none⟩)], sdA g0 (dropT xx o.nm).2.s0, sdA g1 (dropT xx o.nm).2.s1, lgA bb g0 g1 (dropT xx o.nm).2.lb, row 9 1 (.slice Am ((ms.map shotP).length) cm) ((ms.map shotP).length) ((ms.map shotP).flatMap sC), box b8 33 [.int .i64 o.kind, strV o.nm, strV o.vl, .int .u8 (o.wh : Nat), .int .i64 o.n, .int .i64 o.k0, .int .i64 o.k1, .int .i64 o.z0, .int .i64 o.z1]] := k9 z9 [lgA bb g0 g1 (dropT xx o.nm).2.lb, sdA g0 (dropT xx o.nm).2.s0, sdA g1 (dropT xx o.nm).2.s1] rfl g
      clear g g9 k9 hin9 hlt9
      refine ⟨_, rfl, ?_⟩
      intro a F
      refine l_then ?_
      refine wp_region_list ?_
      refine l_pure 2 (fun L => (89, .pointer (some ⟨bb, 0, none⟩)) :: (88, .slice Am ((ms.map shotP).length) cm) :: L) F (by kernel_rfl) fun a F => ?_
      obtain ⟨G9, g9, hin9, hlt9, k9⟩ := S.frameB [4] (by decide) rfl
      refine l_do F rfl rfl (op_fn F (by kernel_rfl) (shot_any _ G9 bb g0 g1 (dropT xx o.nm).2.lb (InvT.lbok (inv_drop hI (by omega) o.nm) (by omega)).ri (InvT.lbok (inv_drop hI (by omega) o.nm) (by omega)).nm (InvT.lbok (inv_drop hI (by omega) o.nm) (by omega)).vl (by have h9 := (InvT.lbok (inv_drop hI (by omega) o.nm) (by omega)).ct; omega) g9) ?_)
      rintro e z9 ⟨rfl, g⟩
      have S : Sat w z9 [rest w (· < w.heap.size), box b1 48 [.pointer (some ⟨g0, 0, none⟩), .pointer (some ⟨g1, 0, none⟩)], sdA g0 (dropT xx o.nm).2.s0, sdA g1 (dropT xx o.nm).2.s1, lgA bb g0 g1 (dropT xx o.nm).2.lb, row 9 1 (.slice Am ((ms.map shotP).length) cm) ((ms.map shotP).length) ((ms.map shotP).flatMap sC), box b8 33 [.int .i64 o.kind, strV o.nm, strV o.vl, .int .u8 (o.wh : Nat), .int .i64 o.n, .int .i64 o.k0, .int .i64 o.k1, .int .i64 o.z0, .int .i64 o.z1]] := k9 z9 [lgA bb g0 g1 (dropT xx o.nm).2.lb] rfl g
      clear g g9 k9 hin9 hlt9
      refine ⟨_, rfl, ?_⟩
      intro a F
      refine l_do F rfl rfl (op_buildSlice S _ 1 _ 9 1 sC ([shotP (dropT xx o.nm).2.lb.L] : List Bs) F rfl (by kernel_rfl) (by kernel_rfl) (by kernel_rfl) (by unfold maxLen; omega) fun b22 z S a F => ?_)
      refine l_do F rfl rfl (op_append S 5 _ _ _ 9 (strV ([] : Bs)) 1 16 (ms.map shotP) ([shotP (dropT xx o.nm).2.lb.L] : List Bs) sC (some ⟨b22, 0, none⟩) 1 F sC_len (fun _ => rfl) rfl rfl (by kernel_rfl) (by kernel_rfl) rfl rfl rfl (by kernel_rfl) (by kernel_rfl) (row_none (S.rowOf (i := 7) rfl)) (src_row (S.rowOf (i := 7) rfl)) (by first | omega | (simp <;> omega)) fun A23 c24 z S a F => ?_)
      refine l_pure 1 (fun L => (6, .slice A23 (((ms.map shotP) ++ ([shotP (dropT xx o.nm).2.lb.L] : List Bs)).length) c24) :: L) F (by kernel_rfl) fun a F => ?_
      refine l_nil (inb_n ?_)
      refine inb_n ?_
      refine then_n ?_
      refine wp_region_list ?_
      refine l_do F rfl rfl (op_pure F (v0 := .int .i64 (IntKind.wrap .i64 ((ii : Nat) + 1))) (v := .int .i64 (ii + 1 : Nat)) (by kernel_rfl) (wrn_i64 (by omega) (by omega) (by omega)) fun a F => ?_)
      refine l_pure 1 (fun L => (44, .int .i64 (ii + 1 : Nat)) :: L) F (by kernel_rfl) fun a F => ?_
      refine l_then ?_
      have e9 := shot_snoc ms (dropT xx o.nm).2.lb.L
      rw [e9] at S
      exact ⟨_, (by omega), (ii + 1), (dropT xx o.nm).2, bb, (ms ++ [(dropT xx o.nm).2.lb.L]), A23, c24, rfl, (by omega), (by omega), (inv_drop hI (by omega) o.nm), (by simp only [List.length_append, List.length_cons, List.length_nil]; omega), F.sub ⟨by kernel_rfl, by kernel_rfl, (by rw [← e9]; kernel_rfl), by kernel_rfl, by kernel_rfl, by kernel_rfl, trivial⟩, (S.pick [0, 1, 2, 3, 4, 5] (by decide))⟩
     ·
      skip
      refine l_do F rfl rfl (op_pure F (v0 := .bool ((o.kind : Int) == (1 : Int))) (v := .bool false) (by kernel_rfl) (eqlF ht21) fun a F => ?_)
      refine l_pure 1 (fun L => (82, .bool false) :: L) F (by kernel_rfl) fun a F => ?_
      refine l_then ?_
      refine c_f F rfl ?_
      refine s_reg ?_
      by_cases ht25 : (o.kind : Int) = (2 : Int)
      ·
       skip
       refine l_do F rfl rfl (op_pure F (v0 := .bool ((o.kind : Int) == (2 : Int))) (v := .bool true) (by kernel_rfl) (eqlT ht25) fun a F => ?_)
       refine l_pure 1 (fun L => (93, .bool true) :: L) F (by kernel_rfl) fun a F => ?_
       refine l_then ?_
       refine c_t F rfl ?_
       refine s_reg ?_
       refine l_pure 1 (fun L => (95, .pointer (some ⟨bb, 0, none⟩)) :: L) F (by kernel_rfl) fun a F => ?_
       obtain ⟨G9, g9, hin9, hlt9, k9⟩ := S.frameB [4, 2, 3] (by decide) rfl
       refine l_do F rfl rfl (op_fn F (by kernel_rfl) (lsync_any (x := xx) (3 * (ii : Int) + 3) hi0 hi1 (by omega) hon g9) ?_)
       rintro e z9 ⟨rfl, g⟩
       have S : Sat w z9 [rest w (· < w.heap.size), box b1 48 [.pointer (some ⟨g0, 0, none⟩), .pointer (some ⟨g1, 0, none⟩)], sdA g0 (syncT xx).2.s0, sdA g1 (syncT xx).2.s1, lgA bb g0 g1 (syncT xx).2.lb, row 9 1 (.slice Am ((ms.map shotP).length) cm) ((ms.map shotP).length) ((ms.map shotP).flatMap sC), box b8 33 [.int .i64 o.kind, strV o.nm, strV o.vl, .int .u8 (o.wh : Nat), .int .i64 o.n, .int .i64 o.k0, .int .i64 o.k1, .int .i64 o.z0, .int .i64 o.z1]] := k9 z9 [lgA bb g0 g1 (syncT xx).2.lb, sdA g0 (syncT xx).2.s0, sdA g1 (syncT xx).2.s1] rfl g
       clear g g9 k9 hin9 hlt9
       refine ⟨_, rfl, ?_⟩
       intro a F
       by_cases ht26 : ((syncT xx).1 : Int) = (0 : Int)
       ·
        skip
        refine l_do F rfl rfl (op_pure F (v0 := .bool (((syncT xx).1 : Int) == (0 : Int))) (v := .bool true) (by kernel_rfl) (eqlT ht26) fun a F => ?_)
        refine l_then ?_
        refine c_t F rfl ?_
        refine wp_region_list ?_
        refine l_pure 1 (fun L => (98, .pointer (some ⟨bb, 0, none⟩)) :: L) F (by kernel_rfl) fun a F => ?_
        obtain ⟨G9, g9, hin9, hlt9, k9⟩ := S.frameB [4] (by decide) rfl
        refine l_do F rfl rfl (op_fn F (by kernel_rfl) (shot_any _ G9 bb g0 g1 (syncT xx).2.lb (InvT.lbok (inv_sync hI) (by omega)).ri (InvT.lbok (inv_sync hI) (by omega)).nm (InvT.lbok (inv_sync hI) (by omega)).vl (by have h9 := (InvT.lbok (inv_sync hI) (by omega)).ct; omega) g9) ?_)
        rintro e z9 ⟨rfl, g⟩
        have S : Sat w z9 [rest w (· < w.heap.size), box b1 48 [.pointer (some ⟨g0, 0, none⟩), .pointer (some ⟨g1, 0, none⟩)], sdA g0 (syncT xx).2.s0, sdA g1 (syncT xx).2.s1, lgA bb g0 g1 (syncT xx).2.lb, row 9 1 (.slice Am ((ms.map shotP).length) cm) ((ms.map shotP).length) ((ms.map shotP).flatMap sC), box b8 33 [.int .i64 o.kind, strV o.nm, strV o.vl, .int .u8 (o.wh : Nat), .int .i64 o.n, .int .i64 o.k0, .int .i64 o.k1, .int .i64 o.z0, .int .i64 o.z1]] := k9 z9 [lgA bb g0 g1 (syncT xx).2.lb] rfl g
        clear g g9 k9 hin9 hlt9
        refine ⟨_, rfl, ?_⟩
        intro a F
        refine l_do F rfl rfl (op_buildSlice S _ 1 _ 9 1 sC ([shotP (syncT xx).2.lb.L] : List Bs) F rfl (by kernel_rfl) (by kernel_rfl) (by kernel_rfl) (by unfold maxLen; omega) fun b27 z S a F => ?_)
        refine l_pure 1 (fun L => (6, .slice (some ⟨b27, 0, none⟩) 1 1) :: L) F (by kernel_rfl) fun a F => ?_
        refine l_nil (inb_n ?_)
        refine inb_n ?_
        refine then_n ?_
        refine wp_region_list ?_
        refine l_do F rfl rfl (op_pure F (v0 := .int .i64 (IntKind.wrap .i64 ((ii : Nat) + 1))) (v := .int .i64 (ii + 1 : Nat)) (by kernel_rfl) (wrn_i64 (by omega) (by omega) (by omega)) fun a F => ?_)
        refine l_pure 1 (fun L => (44, .int .i64 (ii + 1 : Nat)) :: L) F (by kernel_rfl) fun a F => ?_
        refine l_then ?_
        exact ⟨_, (by omega), (ii + 1), (syncT xx).2, bb, [(syncT xx).2.lb.L], (some ⟨b27, 0, none⟩), 1, rfl, (by omega), (by omega), (by have h9 := inv_sync hI; rw [if_pos ht26] at h9; exact h9), (by simp only [List.length_append, List.length_cons, List.length_nil]; omega), F.sub ⟨by kernel_rfl, by kernel_rfl, by kernel_rfl, by kernel_rfl, by kernel_rfl, by kernel_rfl, trivial⟩, (S.pick [0, 1, 2, 3, 4, 7] (by decide))⟩
       ·
        skip
        refine l_do F rfl rfl (op_pure F (v0 := .bool (((syncT xx).1 : Int) == (0 : Int))) (v := .bool false) (by kernel_rfl) (eqlF ht26) fun a F => ?_)
        refine l_then ?_
        refine c_f F rfl ?_
        refine wp_skip ?_
        refine inb_n ?_
        refine inb_n ?_
        refine then_n ?_
        refine wp_region_list ?_
        refine l_do F rfl rfl (op_pure F (v0 := .int .i64 (IntKind.wrap .i64 ((ii : Nat) + 1))) (v := .int .i64 (ii + 1 : Nat)) (by kernel_rfl) (wrn_i64 (by omega) (by omega) (by omega)) fun a F => ?_)
        refine l_pure 1 (fun L => (44, .int .i64 (ii + 1 : Nat)) :: L) F (by kernel_rfl) fun a F => ?_
        refine l_then ?_
        exact ⟨_, (by omega), (ii + 1), (syncT xx).2, bb, ms, Am, cm, rfl, (by omega), (by omega), (by have h9 := inv_sync hI; rw [if_neg ht26] at h9; exact h9), (by omega), F.sub ⟨by kernel_rfl, by kernel_rfl, by kernel_rfl, by kernel_rfl, by kernel_rfl, by kernel_rfl, trivial⟩, (S.pick [0, 1, 2, 3, 4, 5] (by decide))⟩
      ·
       skip
       refine l_do F rfl rfl (op_pure F (v0 := .bool ((o.kind : Int) == (2 : Int))) (v := .bool false) (by kernel_rfl) (eqlF ht25) fun a F => ?_)
       refine l_pure 1 (fun L => (93, .bool false) :: L) F (by kernel_rfl) fun a F => ?_
       refine l_then ?_
       refine c_f F rfl ?_
       refine s_reg ?_
       by_cases ht28 : (o.kind : Int) = (3 : Int)
       ·
        skip
        refine l_do F rfl rfl (op_pure F (v0 := .bool ((o.kind : Int) == (3 : Int))) (v := .bool true) (by kernel_rfl) (eqlT ht28) fun a F => ?_)
        refine l_pure 1 (fun L => (101, .bool true) :: L) F (by kernel_rfl) fun a F => ?_
        refine l_then ?_
        refine c_t F rfl ?_
        refine s_reg ?_
        refine l_pure 1 (fun L => (103, .pointer (some ⟨bb, 0, none⟩)) :: L) F (by kernel_rfl) fun a F => ?_
        obtain ⟨G9, g9, hin9, hlt9, k9⟩ := S.frameB [4, 2, 3] (by decide) rfl
        refine l_do F rfl rfl (op_fn F (by kernel_rfl) (lcomp_any (x := xx) (3 * (ii : Int) + 3) hi0 hi1 (by omega) ((InvT.lbok hI (by omega)).up (by omega)) g9) ?_)
        rintro e z9 ⟨rfl, g⟩
        have S : Sat w z9 [rest w (· < w.heap.size), box b1 48 [.pointer (some ⟨g0, 0, none⟩), .pointer (some ⟨g1, 0, none⟩)], sdA g0 (compT xx).2.s0, sdA g1 (compT xx).2.s1, lgA bb g0 g1 (compT xx).2.lb, row 9 1 (.slice Am ((ms.map shotP).length) cm) ((ms.map shotP).length) ((ms.map shotP).flatMap sC), box b8 33 [.int .i64 o.kind, strV o.nm, strV o.vl, .int .u8 (o.wh : Nat), .int .i64 o.n, .int .i64 o.k0, .int .i64 o.k1, .int .i64 o.z0, .int .i64 o.z1]] := k9 z9 [lgA bb g0 g1 (compT xx).2.lb, sdA g0 (compT xx).2.s0, sdA g1 (compT xx).2.s1] rfl g
        clear g g9 k9 hin9 hlt9
        refine ⟨_, rfl, ?_⟩
        intro a F
        by_cases ht29 : ((compT xx).1 : Int) = (0 : Int)
        ·
         skip
         refine l_do F rfl rfl (op_pure F (v0 := .bool (((compT xx).1 : Int) == (0 : Int))) (v := .bool true) (by kernel_rfl) (eqlT ht29) fun a F => ?_)
         refine l_then ?_
         refine c_t F rfl ?_
         refine wp_region_list ?_
         refine l_pure 1 (fun L => (106, .pointer (some ⟨bb, 0, none⟩)) :: L) F (by kernel_rfl) fun a F => ?_
         obtain ⟨G9, g9, hin9, hlt9, k9⟩ := S.frameB [4] (by decide) rfl
         refine l_do F rfl rfl (op_fn F (by kernel_rfl) (shot_any _ G9 bb g0 g1 (compT xx).2.lb (InvT.lbok (inv_comp hI (by omega)) (by omega)).ri (InvT.lbok (inv_comp hI (by omega)) (by omega)).nm (InvT.lbok (inv_comp hI (by omega)) (by omega)).vl (by have h9 := (InvT.lbok (inv_comp hI (by omega)) (by omega)).ct; omega) g9) ?_)
         rintro e z9 ⟨rfl, g⟩
         have S : Sat w z9 [rest w (· < w.heap.size), box b1 48 [.pointer (some ⟨g0, 0, none⟩), .pointer (some ⟨g1, 0, none⟩)], sdA g0 (compT xx).2.s0, sdA g1 (compT xx).2.s1, lgA bb g0 g1 (compT xx).2.lb, row 9 1 (.slice Am ((ms.map shotP).length) cm) ((ms.map shotP).length) ((ms.map shotP).flatMap sC), box b8 33 [.int .i64 o.kind, strV o.nm, strV o.vl, .int .u8 (o.wh : Nat), .int .i64 o.n, .int .i64 o.k0, .int .i64 o.k1, .int .i64 o.z0, .int .i64 o.z1]] := k9 z9 [lgA bb g0 g1 (compT xx).2.lb] rfl g
         clear g g9 k9 hin9 hlt9
         refine ⟨_, rfl, ?_⟩
         intro a F
         refine l_do F rfl rfl (op_buildSlice S _ 1 _ 9 1 sC ([shotP (compT xx).2.lb.L] : List Bs) F rfl (by kernel_rfl) (by kernel_rfl) (by kernel_rfl) (by unfold maxLen; omega) fun b30 z S a F => ?_)
         refine l_pure 1 (fun L => (6, .slice (some ⟨b30, 0, none⟩) 1 1) :: L) F (by kernel_rfl) fun a F => ?_
         refine l_nil (inb_n ?_)
         refine inb_n ?_
         refine then_n ?_
         refine wp_region_list ?_
         refine l_do F rfl rfl (op_pure F (v0 := .int .i64 (IntKind.wrap .i64 ((ii : Nat) + 1))) (v := .int .i64 (ii + 1 : Nat)) (by kernel_rfl) (wrn_i64 (by omega) (by omega) (by omega)) fun a F => ?_)
         refine l_pure 1 (fun L => (44, .int .i64 (ii + 1 : Nat)) :: L) F (by kernel_rfl) fun a F => ?_
         refine l_then ?_
         exact ⟨_, (by omega), (ii + 1), (compT xx).2, bb, [(compT xx).2.lb.L], (some ⟨b30, 0, none⟩), 1, rfl, (by omega), (by omega), (by have h9 := inv_comp hI (by omega); rw [if_pos ht29] at h9; exact h9), (by simp only [List.length_append, List.length_cons, List.length_nil]; omega), F.sub ⟨by kernel_rfl, by kernel_rfl, by kernel_rfl, by kernel_rfl, by kernel_rfl, by kernel_rfl, trivial⟩, (S.pick [0, 1, 2, 3, 4, 7] (by decide))⟩
        ·
         skip
         refine l_do F rfl rfl (op_pure F (v0 := .bool (((compT xx).1 : Int) == (0 : Int))) (v := .bool false) (by kernel_rfl) (eqlF ht29) fun a F => ?_)
         refine l_then ?_
         refine c_f F rfl ?_
         refine wp_skip ?_
         refine inb_n ?_
         refine inb_n ?_
         refine then_n ?_
         refine wp_region_list ?_
         refine l_do F rfl rfl (op_pure F (v0 := .int .i64 (IntKind.wrap .i64 ((ii : Nat) + 1))) (v := .int .i64 (ii + 1 : Nat)) (by kernel_rfl) (wrn_i64 (by omega) (by omega) (by omega)) fun a F => ?_)
         refine l_pure 1 (fun L => (44, .int .i64 (ii + 1 : Nat)) :: L) F (by kernel_rfl) fun a F => ?_
         refine l_then ?_
         exact ⟨_, (by omega), (ii + 1), (compT xx).2, bb, ms, Am, cm, rfl, (by omega), (by omega), (by have h9 := inv_comp hI (by omega); rw [if_neg ht29] at h9; exact h9), (by omega), F.sub ⟨by kernel_rfl, by kernel_rfl, by kernel_rfl, by kernel_rfl, by kernel_rfl, by kernel_rfl, trivial⟩, (S.pick [0, 1, 2, 3, 4, 5] (by decide))⟩
       ·
        skip
        refine l_do F rfl rfl (op_pure F (v0 := .bool ((o.kind : Int) == (3 : Int))) (v := .bool false) (by kernel_rfl) (eqlF ht28) fun a F => ?_)
        refine l_pure 1 (fun L => (101, .bool false) :: L) F (by kernel_rfl) fun a F => ?_
        refine l_then ?_
        refine c_f F rfl ?_
        refine s_reg ?_
        by_cases ht31 : (o.kind : Int) = (4 : Int)
        ·
         skip
         refine l_do F rfl rfl (op_pure F (v0 := .bool ((o.kind : Int) == (4 : Int))) (v := .bool true) (by kernel_rfl) (eqlT ht31) fun a F => ?_)
         refine l_pure 1 (fun L => (109, .bool true) :: L) F (by kernel_rfl) fun a F => ?_
         refine l_then ?_
         refine c_t F rfl ?_
         rcases wh_cases o.wh with hw | hw
         ·
          skip
          refine region_gx (fun D => fun (_ : Unit) => [rest w (· < w.heap.size), box b1 48 [.pointer (some ⟨g0, 0, none⟩), .pointer (some ⟨g1, 0, none⟩)], bif D 7 then sdA g0 (xx.s0.fus o.n) else sdA g0 xx.s0, sdA g1 xx.s1, lgA bb g0 g1 xx.lb, row 9 1 (.slice Am ((ms.map shotP).length) cm) ((ms.map shotP).length) ((ms.map shotP).flatMap sC), box b8 33 [.int .i64 o.kind, strV o.nm, strV o.vl, .int .u8 (o.wh : Nat), .int .i64 o.n, .int .i64 o.k0, .int .i64 o.k1, .int .i64 o.z0, .int .i64 o.z1]]) (fun (_ : Unit) => [.pointer (some ⟨b8, 3, none⟩), .int .u8 (o.wh : Nat), .int .u8 0, .pointer (some ⟨b1, 0, none⟩), .pointer (some ⟨g0, 0, none⟩), .pointer (some ⟨b8, 4, none⟩), .int .i64 o.n, .int .i64 (upE xx.s0.down)]) [(1, [], [2, 4, 7]), (2, [1], [4, 7]), (4, [1, 2], [7]), (6, [], [7]), (7, [1, 2, 4, 6], [])] () rfl (by kernel_rfl) (by kernel_rfl) F S.drew ?_ ?_ ?_ ?_ ?_
          · rintro ⟨⟩; rfl
          · rintro ⟨⟩; kernel_rfl
          ·
           intro D D' x h
           cases x
           simp only [h 7 (by decide)]
          ·
           refine ⟨?_, ?_⟩
           ·
            refine ⟨_, rfl, rfl, by kernel_rfl, ?_⟩
            rintro D ⟨⟩ a z S F
            refine ⟨by kernel_rfl, ?_⟩
            exact op_load _ _ (some ⟨b8, 0, none⟩) 3 (.int .u8 (o.wh : Nat)) F rfl (by kernel_rfl) (by kernel_rfl) (cBox S 6 rfl (j := 3) rfl) (⟨(), rfl, (SameB.refl _ _ rfl), S⟩)
           refine ⟨?_, ?_⟩
           ·
            refine ⟨_, rfl, rfl, by kernel_rfl, ?_⟩
            rintro D ⟨⟩ a z S F
            refine ⟨by kernel_rfl, ?_⟩
            exact op_rem _ _ _ _ .u8 (o.wh : Nat) 2 F rfl (by kernel_rfl) (by kernel_rfl) (by omega) ((Int.tmod_eq_emod_of_nonneg (by omega)).trans (show ((o.wh : Nat) : Int) % 2 = 0 from by omega)) ⟨(), rfl, (SameB.refl _ _ rfl), S⟩
           refine ⟨?_, ?_⟩
           ·
            refine ⟨_, rfl, rfl, by kernel_rfl, ?_⟩
            rintro D ⟨⟩ a z S F
            refine ⟨by kernel_rfl, ?_⟩
            exact op_load _ _ (some ⟨b1, 0, none⟩) 0 (.pointer (some ⟨g0, 0, none⟩)) F rfl (by kernel_rfl) (by kernel_rfl) (cBox S 1 rfl (j := 0) rfl) (⟨(), rfl, (SameB.refl _ _ rfl), S⟩)
           refine ⟨?_, ?_⟩
           ·
            refine ⟨_, rfl, rfl, by kernel_rfl, ?_⟩
            rintro D ⟨⟩ a z S F
            refine ⟨by kernel_rfl, ?_⟩
            exact op_load _ _ (some ⟨b8, 0, none⟩) 4 (.int .i64 o.n) F rfl (by kernel_rfl) (by kernel_rfl) (cBox S 6 rfl (j := 4) rfl) (⟨(), rfl, (SameB.refl _ _ rfl), S⟩)
           refine ⟨?_, ?_⟩
           ·
            refine ⟨_, rfl, rfl, by kernel_rfl, ?_⟩
            rintro D ⟨⟩ a z S F
            refine ⟨by kernel_rfl, ?_⟩
            refine op_fn F (by kernel_rfl) (sfuse_at S (i := 2) rfl o.n) ?_
            rintro e z ⟨rfl, S⟩
            exact ⟨_, rfl, (), rfl, (SameB.refl _ _ rfl), S⟩
           trivial
          ·
           rintro ⟨⟩ a z F S
           have F := F.sub (l := [(3, .pointer (some ⟨b1, 0, none⟩)), (4, .pointer (some ⟨bb, 0, none⟩)), (6, .slice Am ((ms.map shotP).length) cm), (42, .slice Ao O.length co), (43, .int .i64 (O.length : Nat)), (44, .int .i64 (ii : Nat))]) ⟨by kernel_rfl, by kernel_rfl, by kernel_rfl, by kernel_rfl, by kernel_rfl, by kernel_rfl, trivial⟩
           have S : Sat w z [rest w (· < w.heap.size), box b1 48 [.pointer (some ⟨g0, 0, none⟩), .pointer (some ⟨g1, 0, none⟩)], sdA g0 (xx.s0.fus o.n), sdA g1 xx.s1, lgA bb g0 g1 xx.lb, row 9 1 (.slice Am ((ms.map shotP).length) cm) ((ms.map shotP).length) ((ms.map shotP).flatMap sC), box b8 33 [.int .i64 o.kind, strV o.nm, strV o.vl, .int .u8 (o.wh : Nat), .int .i64 o.n, .int .i64 o.k0, .int .i64 o.k1, .int .i64 o.z0, .int .i64 o.z1]] := S
           refine inb_n ?_
           refine inb_n ?_
           refine then_n ?_
           refine wp_region_list ?_
           refine l_do F rfl rfl (op_pure F (v0 := .int .i64 (IntKind.wrap .i64 ((ii : Nat) + 1))) (v := .int .i64 (ii + 1 : Nat)) (by kernel_rfl) (wrn_i64 (by omega) (by omega) (by omega)) fun a F => ?_)
           refine l_pure 1 (fun L => (44, .int .i64 (ii + 1 : Nat)) :: L) F (by kernel_rfl) fun a F => ?_
           refine l_then ?_
           exact ⟨_, (by omega), (ii + 1), (⟨xx.lb, xx.s0.fus o.n, xx.s1⟩ : Lg), bb, ms, Am, cm, rfl, (by omega), (by omega), (inv_fuse0 hI hon1), (by omega), F.sub ⟨by kernel_rfl, by kernel_rfl, by kernel_rfl, by kernel_rfl, by kernel_rfl, by kernel_rfl, trivial⟩, (S.pick [0, 1, 2, 3, 4, 5] (by decide))⟩
         ·
          skip
          refine region_gx (fun D => fun (_ : Unit) => [rest w (· < w.heap.size), box b1 48 [.pointer (some ⟨g0, 0, none⟩), .pointer (some ⟨g1, 0, none⟩)], sdA g0 xx.s0, bif D 7 then sdA g1 (xx.s1.fus o.n) else sdA g1 xx.s1, lgA bb g0 g1 xx.lb, row 9 1 (.slice Am ((ms.map shotP).length) cm) ((ms.map shotP).length) ((ms.map shotP).flatMap sC), box b8 33 [.int .i64 o.kind, strV o.nm, strV o.vl, .int .u8 (o.wh : Nat), .int .i64 o.n, .int .i64 o.k0, .int .i64 o.k1, .int .i64 o.z0, .int .i64 o.z1]]) (fun (_ : Unit) => [.pointer (some ⟨b8, 3, none⟩), .int .u8 (o.wh : Nat), .int .u8 1, .pointer (some ⟨b1, 1, none⟩), .pointer (some ⟨g1, 0, none⟩), .pointer (some ⟨b8, 4, none⟩), .int .i64 o.n, .int .i64 (upE xx.s1.down)]) [(1, [], [2, 4, 7]), (2, [1], [4, 7]), (4, [1, 2], [7]), (6, [], [7]), (7, [1, 2, 4, 6], [])] () rfl (by kernel_rfl) (by kernel_rfl) F S.drew ?_ ?_ ?_ ?_ ?_
          · rintro ⟨⟩; rfl
          · rintro ⟨⟩; kernel_rfl
          ·
           intro D D' x h
           cases x
           simp only [h 7 (by decide)]
          ·
           refine ⟨?_, ?_⟩
           ·
            refine ⟨_, rfl, rfl, by kernel_rfl, ?_⟩
            rintro D ⟨⟩ a z S F
            refine ⟨by kernel_rfl, ?_⟩
            exact op_load _ _ (some ⟨b8, 0, none⟩) 3 (.int .u8 (o.wh : Nat)) F rfl (by kernel_rfl) (by kernel_rfl) (cBox S 6 rfl (j := 3) rfl) (⟨(), rfl, (SameB.refl _ _ rfl), S⟩)
           refine ⟨?_, ?_⟩
           ·
            refine ⟨_, rfl, rfl, by kernel_rfl, ?_⟩
            rintro D ⟨⟩ a z S F
            refine ⟨by kernel_rfl, ?_⟩
            exact op_rem _ _ _ _ .u8 (o.wh : Nat) 2 F rfl (by kernel_rfl) (by kernel_rfl) (by omega) ((Int.tmod_eq_emod_of_nonneg (by omega)).trans (show ((o.wh : Nat) : Int) % 2 = 1 from by omega)) ⟨(), rfl, (SameB.refl _ _ rfl), S⟩
           refine ⟨?_, ?_⟩
           ·
            refine ⟨_, rfl, rfl, by kernel_rfl, ?_⟩
            rintro D ⟨⟩ a z S F
            refine ⟨by kernel_rfl, ?_⟩
            exact op_load _ _ (some ⟨b1, 0, none⟩) 1 (.pointer (some ⟨g1, 0, none⟩)) F rfl (by kernel_rfl) (by kernel_rfl) (cBox S 1 rfl (j := 1) rfl) (⟨(), rfl, (SameB.refl _ _ rfl), S⟩)
           refine ⟨?_, ?_⟩
           ·
            refine ⟨_, rfl, rfl, by kernel_rfl, ?_⟩
            rintro D ⟨⟩ a z S F
            refine ⟨by kernel_rfl, ?_⟩
            exact op_load _ _ (some ⟨b8, 0, none⟩) 4 (.int .i64 o.n) F rfl (by kernel_rfl) (by kernel_rfl) (cBox S 6 rfl (j := 4) rfl) (⟨(), rfl, (SameB.refl _ _ rfl), S⟩)
           refine ⟨?_, ?_⟩
           ·
            refine ⟨_, rfl, rfl, by kernel_rfl, ?_⟩
            rintro D ⟨⟩ a z S F
            refine ⟨by kernel_rfl, ?_⟩
            refine op_fn F (by kernel_rfl) (sfuse_at S (i := 3) rfl o.n) ?_
            rintro e z ⟨rfl, S⟩
            exact ⟨_, rfl, (), rfl, (SameB.refl _ _ rfl), S⟩
           trivial
          ·
           rintro ⟨⟩ a z F S
           have F := F.sub (l := [(3, .pointer (some ⟨b1, 0, none⟩)), (4, .pointer (some ⟨bb, 0, none⟩)), (6, .slice Am ((ms.map shotP).length) cm), (42, .slice Ao O.length co), (43, .int .i64 (O.length : Nat)), (44, .int .i64 (ii : Nat))]) ⟨by kernel_rfl, by kernel_rfl, by kernel_rfl, by kernel_rfl, by kernel_rfl, by kernel_rfl, trivial⟩
           have S : Sat w z [rest w (· < w.heap.size), box b1 48 [.pointer (some ⟨g0, 0, none⟩), .pointer (some ⟨g1, 0, none⟩)], sdA g0 xx.s0, sdA g1 (xx.s1.fus o.n), lgA bb g0 g1 xx.lb, row 9 1 (.slice Am ((ms.map shotP).length) cm) ((ms.map shotP).length) ((ms.map shotP).flatMap sC), box b8 33 [.int .i64 o.kind, strV o.nm, strV o.vl, .int .u8 (o.wh : Nat), .int .i64 o.n, .int .i64 o.k0, .int .i64 o.k1, .int .i64 o.z0, .int .i64 o.z1]] := S
           refine inb_n ?_
           refine inb_n ?_
           refine then_n ?_
           refine wp_region_list ?_
           refine l_do F rfl rfl (op_pure F (v0 := .int .i64 (IntKind.wrap .i64 ((ii : Nat) + 1))) (v := .int .i64 (ii + 1 : Nat)) (by kernel_rfl) (wrn_i64 (by omega) (by omega) (by omega)) fun a F => ?_)
           refine l_pure 1 (fun L => (44, .int .i64 (ii + 1 : Nat)) :: L) F (by kernel_rfl) fun a F => ?_
           refine l_then ?_
           exact ⟨_, (by omega), (ii + 1), (⟨xx.lb, xx.s0, xx.s1.fus o.n⟩ : Lg), bb, ms, Am, cm, rfl, (by omega), (by omega), (inv_fuse1 hI hon1), (by omega), F.sub ⟨by kernel_rfl, by kernel_rfl, by kernel_rfl, by kernel_rfl, by kernel_rfl, by kernel_rfl, trivial⟩, (S.pick [0, 1, 2, 3, 4, 5] (by decide))⟩
        ·
         skip
         refine l_do F rfl rfl (op_pure F (v0 := .bool ((o.kind : Int) == (4 : Int))) (v := .bool false) (by kernel_rfl) (eqlF ht31) fun a F => ?_)
         refine l_pure 1 (fun L => (109, .bool false) :: L) F (by kernel_rfl) fun a F => ?_
         refine l_then ?_
         refine c_f F rfl ?_
         refine s_reg ?_
         by_cases ht32 : (o.kind : Int) = (5 : Int)
         ·
          skip
          refine l_do F rfl rfl (op_pure F (v0 := .bool ((o.kind : Int) == (5 : Int))) (v := .bool true) (by kernel_rfl) (eqlT ht32) fun a F => ?_)
          refine l_pure 1 (fun L => (119, .bool true) :: L) F (by kernel_rfl) fun a F => ?_
          refine l_then ?_
          refine c_t F rfl ?_
          refine wp_seq ?_
          refine s_reg ?_
          refine l_pure 1 (fun L => (121, .int .i64 0) :: L) F (by kernel_rfl) fun a F => ?_
          refine l_then ?_
          refine wp_block ?_
          refine wp_loop_rounds 3 (rnd ?_)
          refine s_reg ?_
          refine l_pure 1 (fun L => (122, .bool true) :: L) F (by kernel_rfl) fun a F => ?_
          refine l_then ?_
          refine wp_seq ?_
          refine c_t F rfl ?_
          refine wp_skip ?_
          refine then_n ?_
          refine wp_seq ?_
          refine wp_block ?_
          refine s_reg ?_
          refine l_pure 2 (fun L => (11, .int .i64 0) :: (123, .int .i64 0) :: L) F (by kernel_rfl) fun a F => ?_
          refine l_then ?_
          refine region_gx (fun D => fun (_ : Unit) => [rest w (· < w.heap.size), box b1 48 [.pointer (some ⟨g0, 0, none⟩), .pointer (some ⟨g1, 0, none⟩)], bif D 11 then sdA g0 (xx.s0.crs o.k0 o.z0) else sdA g0 xx.s0, sdA g1 xx.s1, lgA bb g0 g1 xx.lb, row 9 1 (.slice Am ((ms.map shotP).length) cm) ((ms.map shotP).length) ((ms.map shotP).flatMap sC), box b8 33 [.int .i64 o.kind, strV o.nm, strV o.vl, .int .u8 (o.wh : Nat), .int .i64 o.n, .int .i64 o.k0, .int .i64 o.k1, .int .i64 o.z0, .int .i64 o.z1]]) (fun (_ : Unit) => [.int .i64 0, .pointer (some ⟨b1, 0, none⟩), .pointer (some ⟨g0, 0, none⟩), .int .i64 0, .pointer (some ⟨b8, 5, none⟩), .pointer (some ⟨b8, 5, none⟩), .int .i64 o.k0, .int .i64 0, .pointer (some ⟨b8, 7, none⟩), .pointer (some ⟨b8, 7, none⟩), .int .i64 o.z0, .int .i64 0]) [(2, [], [11]), (6, [], [11]), (10, [], [11]), (11, [2, 6, 10], [])] () rfl (by kernel_rfl) (by kernel_rfl) F S.drew ?_ ?_ ?_ ?_ ?_
          · rintro ⟨⟩; rfl
          · rintro ⟨⟩; kernel_rfl
          ·
           intro D D' x h
           cases x
           simp only [h 11 (by decide)]
          ·
           refine ⟨?_, ?_⟩
           ·
            refine ⟨_, rfl, rfl, by kernel_rfl, ?_⟩
            rintro D ⟨⟩ a z S F
            refine ⟨by kernel_rfl, ?_⟩
            exact op_load _ _ (some ⟨b1, 0, none⟩) 0 (.pointer (some ⟨g0, 0, none⟩)) F rfl (by kernel_rfl) (by kernel_rfl) (cBox S 1 rfl (j := 0) rfl) (⟨(), rfl, (SameB.refl _ _ rfl), S⟩)
           refine ⟨?_, ?_⟩
           ·
            refine ⟨_, rfl, rfl, by kernel_rfl, ?_⟩
            rintro D ⟨⟩ a z S F
            refine ⟨by kernel_rfl, ?_⟩
            exact op_load _ _ (some ⟨b8, 0, none⟩) 5 (.int .i64 o.k0) F rfl (by kernel_rfl) (by kernel_rfl) (cBox S 6 rfl (j := 5) rfl) (⟨(), rfl, (SameB.refl _ _ rfl), S⟩)
           refine ⟨?_, ?_⟩
           ·
            refine ⟨_, rfl, rfl, by kernel_rfl, ?_⟩
            rintro D ⟨⟩ a z S F
            refine ⟨by kernel_rfl, ?_⟩
            exact op_load _ _ (some ⟨b8, 0, none⟩) 7 (.int .i64 o.z0) F rfl (by kernel_rfl) (by kernel_rfl) (cBox S 6 rfl (j := 7) rfl) (⟨(), rfl, (SameB.refl _ _ rfl), S⟩)
           refine ⟨?_, ?_⟩
           ·
            refine ⟨_, rfl, rfl, by kernel_rfl, ?_⟩
            rintro D ⟨⟩ a z S F
            refine ⟨by kernel_rfl, ?_⟩
            refine op_fn F (by kernel_rfl) (scrash_at S (i := 2) rfl hi0 (by omega) o.k0 o.z0) ?_
            rintro e z ⟨rfl, S⟩
            exact ⟨_, rfl, (), rfl, (SameB.refl _ _ rfl), S⟩
           trivial
          ·
           rintro ⟨⟩ a z F S
           have F := F.sub (l := [(3, .pointer (some ⟨b1, 0, none⟩)), (4, .pointer (some ⟨bb, 0, none⟩)), (6, .slice Am ((ms.map shotP).length) cm), (8, .pointer (some ⟨b8, 0, none⟩)), (42, .slice Ao O.length co), (43, .int .i64 (O.length : Nat)), (44, .int .i64 (ii : Nat)), (121, .int .i64 0)]) ⟨by kernel_rfl, by kernel_rfl, by kernel_rfl, by kernel_rfl, by kernel_rfl, by kernel_rfl, by kernel_rfl, by kernel_rfl, trivial⟩
           have S : Sat w z [rest w (· < w.heap.size), box b1 48 [.pointer (some ⟨g0, 0, none⟩), .pointer (some ⟨g1, 0, none⟩)], sdA g0 (xx.s0.crs o.k0 o.z0), sdA g1 xx.s1, lgA bb g0 g1 xx.lb, row 9 1 (.slice Am ((ms.map shotP).length) cm) ((ms.map shotP).length) ((ms.map shotP).flatMap sC), box b8 33 [.int .i64 o.kind, strV o.nm, strV o.vl, .int .u8 (o.wh : Nat), .int .i64 o.n, .int .i64 o.k0, .int .i64 o.k1, .int .i64 o.z0, .int .i64 o.z1]] := S
           refine inb_n ?_
           refine then_n ?_
           refine wp_region_list ?_
           refine l_pure 2 (fun L => (121, .int .i64 1) :: (136, .int .i64 1) :: L) F (by kernel_rfl) fun a F => ?_
           refine l_then ?_
           refine rnd ?_
           refine s_reg ?_
           refine l_pure 1 (fun L => (122, .bool true) :: L) F (by kernel_rfl) fun a F => ?_
           refine l_then ?_
           refine wp_seq ?_
           refine c_t F rfl ?_
           refine wp_skip ?_
           refine then_n ?_
           refine wp_seq ?_
           refine wp_block ?_
           refine s_reg ?_
           refine l_pure 2 (fun L => (11, .int .i64 1) :: (123, .int .i64 1) :: L) F (by kernel_rfl) fun a F => ?_
           refine l_then ?_
           refine region_gx (fun D => fun (_ : Unit) => [rest w (· < w.heap.size), box b1 48 [.pointer (some ⟨g0, 0, none⟩), .pointer (some ⟨g1, 0, none⟩)], sdA g0 (xx.s0.crs o.k0 o.z0), bif D 11 then sdA g1 (xx.s1.crs o.k1 o.z1) else sdA g1 xx.s1, lgA bb g0 g1 xx.lb, row 9 1 (.slice Am ((ms.map shotP).length) cm) ((ms.map shotP).length) ((ms.map shotP).flatMap sC), box b8 33 [.int .i64 o.kind, strV o.nm, strV o.vl, .int .u8 (o.wh : Nat), .int .i64 o.n, .int .i64 o.k0, .int .i64 o.k1, .int .i64 o.z0, .int .i64 o.z1]]) (fun (_ : Unit) => [.int .i64 1, .pointer (some ⟨b1, 1, none⟩), .pointer (some ⟨g1, 0, none⟩), .int .i64 1, .pointer (some ⟨b8, 5, none⟩), .pointer (some ⟨b8, 6, none⟩), .int .i64 o.k1, .int .i64 1, .pointer (some ⟨b8, 7, none⟩), .pointer (some ⟨b8, 8, none⟩), .int .i64 o.z1, .int .i64 0]) [(2, [], [11]), (6, [], [11]), (10, [], [11]), (11, [2, 6, 10], [])] () rfl (by kernel_rfl) (by kernel_rfl) F S.drew ?_ ?_ ?_ ?_ ?_
           · rintro ⟨⟩; rfl
           · rintro ⟨⟩; kernel_rfl
           ·
            intro D D' x h
            cases x
            simp only [h 11 (by decide)]
           ·
            refine ⟨?_, ?_⟩
            ·
             refine ⟨_, rfl, rfl, by kernel_rfl, ?_⟩
             rintro D ⟨⟩ a z S F
             refine ⟨by kernel_rfl, ?_⟩
             exact op_load _ _ (some ⟨b1, 0, none⟩) 1 (.pointer (some ⟨g1, 0, none⟩)) F rfl (by kernel_rfl) (by kernel_rfl) (cBox S 1 rfl (j := 1) rfl) (⟨(), rfl, (SameB.refl _ _ rfl), S⟩)
            refine ⟨?_, ?_⟩
            ·
             refine ⟨_, rfl, rfl, by kernel_rfl, ?_⟩
             rintro D ⟨⟩ a z S F
             refine ⟨by kernel_rfl, ?_⟩
             exact op_load _ _ (some ⟨b8, 0, none⟩) 6 (.int .i64 o.k1) F rfl (by kernel_rfl) (by kernel_rfl) (cBox S 6 rfl (j := 6) rfl) (⟨(), rfl, (SameB.refl _ _ rfl), S⟩)
            refine ⟨?_, ?_⟩
            ·
             refine ⟨_, rfl, rfl, by kernel_rfl, ?_⟩
             rintro D ⟨⟩ a z S F
             refine ⟨by kernel_rfl, ?_⟩
             exact op_load _ _ (some ⟨b8, 0, none⟩) 8 (.int .i64 o.z1) F rfl (by kernel_rfl) (by kernel_rfl) (cBox S 6 rfl (j := 8) rfl) (⟨(), rfl, (SameB.refl _ _ rfl), S⟩)
            refine ⟨?_, ?_⟩
            ·
             refine ⟨_, rfl, rfl, by kernel_rfl, ?_⟩
             rintro D ⟨⟩ a z S F
             refine ⟨by kernel_rfl, ?_⟩
             refine op_fn F (by kernel_rfl) (scrash_at S (i := 3) rfl hi1 (by omega) o.k1 o.z1) ?_
             rintro e z ⟨rfl, S⟩
             exact ⟨_, rfl, (), rfl, (SameB.refl _ _ rfl), S⟩
            trivial
           ·
            rintro ⟨⟩ a z F S
            have F := F.sub (l := [(3, .pointer (some ⟨b1, 0, none⟩)), (4, .pointer (some ⟨bb, 0, none⟩)), (6, .slice Am ((ms.map shotP).length) cm), (8, .pointer (some ⟨b8, 0, none⟩)), (42, .slice Ao O.length co), (43, .int .i64 (O.length : Nat)), (44, .int .i64 (ii : Nat)), (121, .int .i64 1)]) ⟨by kernel_rfl, by kernel_rfl, by kernel_rfl, by kernel_rfl, by kernel_rfl, by kernel_rfl, by kernel_rfl, by kernel_rfl, trivial⟩
            have S : Sat w z [rest w (· < w.heap.size), box b1 48 [.pointer (some ⟨g0, 0, none⟩), .pointer (some ⟨g1, 0, none⟩)], sdA g0 (xx.s0.crs o.k0 o.z0), sdA g1 (xx.s1.crs o.k1 o.z1), lgA bb g0 g1 xx.lb, row 9 1 (.slice Am ((ms.map shotP).length) cm) ((ms.map shotP).length) ((ms.map shotP).flatMap sC), box b8 33 [.int .i64 o.kind, strV o.nm, strV o.vl, .int .u8 (o.wh : Nat), .int .i64 o.n, .int .i64 o.k0, .int .i64 o.k1, .int .i64 o.z0, .int .i64 o.z1]] := S
            refine inb_n ?_
            refine then_n ?_
            refine wp_region_list ?_
            refine l_pure 2 (fun L => (121, .int .i64 2) :: (136, .int .i64 2) :: L) F (by kernel_rfl) fun a F => ?_
            refine l_then ?_
            refine rnd ?_
            refine s_reg ?_
            refine l_pure 1 (fun L => (122, .bool false) :: L) F (by kernel_rfl) fun a F => ?_
            refine l_then ?_
            refine wp_seq ?_
            refine c_f F rfl ?_
            refine wp_exit ?_
            refine then_x ?_
            refine then_x ?_
            refine inb_x ?_
            refine then_n ?_
            refine s_reg ?_
            refine l_pure 1 (fun L => (138, .pointer (some ⟨b1, 0, none⟩)) :: L) F (by kernel_rfl) fun a F => ?_
            refine l_do F rfl rfl (op_load _ _ (some ⟨b1, 0, none⟩) 0 (.pointer (some ⟨g0, 0, none⟩)) F rfl (by kernel_rfl) (by kernel_rfl) (cBox S 1 rfl (j := 0) rfl) (fun a F => ?_))
            refine l_pure 1 (fun L => (140, .pointer (some ⟨b1, 1, none⟩)) :: L) F (by kernel_rfl) fun a F => ?_
            refine l_do F rfl rfl (op_load _ _ (some ⟨b1, 0, none⟩) 1 (.pointer (some ⟨g1, 0, none⟩)) F rfl (by kernel_rfl) (by kernel_rfl) (cBox S 1 rfl (j := 1) rfl) (fun a F => ?_))
            obtain ⟨hc1, ⟨Mc, hMc, hc2⟩, hc3, hc4⟩ := inv_crash hI (by omega) o.k0 o.z0 o.k1 o.z1
            obtain ⟨G9, g9, hin9, hlt9, k9⟩ := S.frameB [2, 3] (by decide) rfl
            refine l_do F rfl rfl (op_fn F (by kernel_rfl) (lopen_ok (3 * (ii : Int) + 3) (hi0.crs _ _) (hi1.crs _ _) (by omega) rfl rfl (inv_crash hI (by omega) o.k0 o.z0 o.k1 o.z1).1 g9) ?_)
            rintro e z9 ⟨bl2, rfl, g⟩
            have S : Sat w z9 [rest w (· < w.heap.size), box b1 48 [.pointer (some ⟨g0, 0, none⟩), .pointer (some ⟨g1, 0, none⟩)], star2 (sdA g0 (openT (xx.s0.crs o.k0 o.z0) (xx.s1.crs o.k1 o.z1)).2.s0) (lgA bl2 g0 g1 (openT (xx.s0.crs o.k0 o.z0) (xx.s1.crs o.k1 o.z1)).2.lb), sdA g1 (openT (xx.s0.crs o.k0 o.z0) (xx.s1.crs o.k1 o.z1)).2.s1, lgA bb g0 g1 xx.lb, row 9 1 (.slice Am ((ms.map shotP).length) cm) ((ms.map shotP).length) ((ms.map shotP).flatMap sC), box b8 33 [.int .i64 o.kind, strV o.nm, strV o.vl, .int .u8 (o.wh : Nat), .int .i64 o.n, .int .i64 o.k0, .int .i64 o.k1, .int .i64 o.z0, .int .i64 o.z1]] := k9 z9 [star2 (sdA g0 (openT (xx.s0.crs o.k0 o.z0) (xx.s1.crs o.k1 o.z1)).2.s0) (lgA bl2 g0 g1 (openT (xx.s0.crs o.k0 o.z0) (xx.s1.crs o.k1 o.z1)).2.lb), sdA g1 (openT (xx.s0.crs o.k0 o.z0) (xx.s1.crs o.k1 o.z1)).2.s1] rfl g
            clear g g9 k9 hin9 hlt9
            have S := S.open2 (i := 2) rfl
            have S : Sat w z9 [rest w (· < w.heap.size), box b1 48 [.pointer (some ⟨g0, 0, none⟩), .pointer (some ⟨g1, 0, none⟩)], sdA g0 (openT (xx.s0.crs o.k0 o.z0) (xx.s1.crs o.k1 o.z1)).2.s0, sdA g1 (openT (xx.s0.crs o.k0 o.z0) (xx.s1.crs o.k1 o.z1)).2.s1, lgA bb g0 g1 xx.lb, row 9 1 (.slice Am ((ms.map shotP).length) cm) ((ms.map shotP).length) ((ms.map shotP).flatMap sC), box b8 33 [.int .i64 o.kind, strV o.nm, strV o.vl, .int .u8 (o.wh : Nat), .int .i64 o.n, .int .i64 o.k0, .int .i64 o.k1, .int .i64 o.z0, .int .i64 o.z1], lgA bl2 g0 g1 (openT (xx.s0.crs o.k0 o.z0) (xx.s1.crs o.k1 o.z1)).2.lb] := S
            refine ⟨_, rfl, ?_⟩
            intro a F
            refine l_pure 5 (fun L => (13, .int .i64 0) :: (12, .pointer (some ⟨bl2, 0, none⟩)) :: (144, .int .i64 0) :: (143, .pointer (some ⟨bl2, 0, none⟩)) :: (137, .tuple #[.pointer (some ⟨bl2, 0, none⟩), .int .i64 0]) :: L) F (by kernel_rfl) fun a F => ?_
            refine l_then ?_
            refine wp_seq ?_
            refine s_reg ?_
            refine l_pure 6 (fun L => (150, .bool false) :: (149, .bool false) :: (148, .int .i64 0) :: (147, .bool false) :: (146, .bool false) :: (145, .pointer (some ⟨bl2, 0, none⟩)) :: L) F (by kernel_rfl) fun a F => ?_
            refine l_then ?_
            refine c_f F rfl ?_
            refine wp_skip ?_
            refine then_n ?_
            refine s_reg ?_
            refine l_pure 1 (fun L => (151, .pointer (some ⟨bl2, 0, none⟩)) :: L) F (by kernel_rfl) fun a F => ?_
            obtain ⟨G9, g9, hin9, hlt9, k9⟩ := S.frameB [7] (by decide) rfl
            refine l_do F rfl rfl (op_fn F (by kernel_rfl) (shot_any _ G9 bl2 g0 g1 (openT (xx.s0.crs o.k0 o.z0) (xx.s1.crs o.k1 o.z1)).2.lb (InvT.lbok hc4 (by omega)).ri (InvT.lbok hc4 (by omega)).nm (InvT.lbok hc4 (by omega)).vl (by have h9 := (InvT.lbok hc4 (by omega)).ct; omega) g9) ?_)
            rintro e z9 ⟨rfl, g⟩
            have S : Sat w z9 [rest w (· < w.heap.size), box b1 48 [.pointer (some ⟨g0, 0, none⟩), .pointer (some ⟨g1, 0, none⟩)], sdA g0 (openT (xx.s0.crs o.k0 o.z0) (xx.s1.crs o.k1 o.z1)).2.s0, sdA g1 (openT (xx.s0.crs o.k0 o.z0) (xx.s1.crs o.k1 o.z1)).2.s1, lgA bb g0 g1 xx.lb, row 9 1 (.slice Am ((ms.map shotP).length) cm) ((ms.map shotP).length) ((ms.map shotP).flatMap sC), box b8 33 [.int .i64 o.kind, strV o.nm, strV o.vl, .int .u8 (o.wh : Nat), .int .i64 o.n, .int .i64 o.k0, .int .i64 o.k1, .int .i64 o.z0, .int .i64 o.z1], lgA bl2 g0 g1 (openT (xx.s0.crs o.k0 o.z0) (xx.s1.crs o.k1 o.z1)).2.lb] := k9 z9 [lgA bl2 g0 g1 (openT (xx.s0.crs o.k0 o.z0) (xx.s1.crs o.k1 o.z1)).2.lb] rfl g
            clear g g9 k9 hin9 hlt9
            refine ⟨_, rfl, ?_⟩
            intro a F
            refine l_pure 2 (fun L => (15, .bool false) :: (14, strV (shotP (openT (xx.s0.crs o.k0 o.z0) (xx.s1.crs o.k1 o.z1)).2.lb.L)) :: L) F (by kernel_rfl) fun a F => ?_
            refine l_then ?_
            refine wp_seq ?_
            refine s_reg ?_
            refine l_pure 3 (fun L => (155, .int .i64 0) :: (154, .int .i64 ((ms.map shotP).length : Nat)) :: (153, .slice Am ((ms.map shotP).length) cm) :: L) F (by kernel_rfl) fun a F => ?_
            refine l_then ?_
            refine wp_block ?_
            refine wp_loop_m (fun m a z => ∃ (kk : Nat) (okv : Bool), m = (ms.map shotP).length - kk ∧ (kk ≤ (ms.map shotP).length) ∧ (okv = true ↔ shotP (openT (xx.s0.crs o.k0 o.z0) (xx.s1.crs o.k1 o.z1)).2.lb.L ∈ (ms.map shotP).take kk) ∧ Fr a 177 [(3, .pointer (some ⟨b1, 0, none⟩)), (4, .pointer (some ⟨bb, 0, none⟩)), (6, .slice Am ((ms.map shotP).length) cm), (12, .pointer (some ⟨bl2, 0, none⟩)), (14, strV (shotP (openT (xx.s0.crs o.k0 o.z0) (xx.s1.crs o.k1 o.z1)).2.lb.L)), (15, .bool okv), (42, .slice Ao O.length co), (43, .int .i64 (O.length : Nat)), (44, .int .i64 (ii : Nat)), (153, .slice Am ((ms.map shotP).length) cm), (154, .int .i64 ((ms.map shotP).length : Nat)), (155, .int .i64 (kk : Nat))] ∧ Sat w z [rest w (· < w.heap.size), box b1 48 [.pointer (some ⟨g0, 0, none⟩), .pointer (some ⟨g1, 0, none⟩)], sdA g0 (openT (xx.s0.crs o.k0 o.z0) (xx.s1.crs o.k1 o.z1)).2.s0, sdA g1 (openT (xx.s0.crs o.k0 o.z0) (xx.s1.crs o.k1 o.z1)).2.s1, lgA bb g0 g1 xx.lb, row 9 1 (.slice Am ((ms.map shotP).length) cm) ((ms.map shotP).length) ((ms.map shotP).flatMap sC), box b8 33 [.int .i64 o.kind, strV o.nm, strV o.vl, .int .u8 (o.wh : Nat), .int .i64 o.n, .int .i64 o.k0, .int .i64 o.k1, .int .i64 o.z0, .int .i64 o.z1], lgA bl2 g0 g1 (openT (xx.s0.crs o.k0 o.z0) (xx.s1.crs o.k1 o.z1)).2.lb]) _ ⟨0, false, rfl, Nat.zero_le _, (by simp), F.sub ⟨by kernel_rfl, by kernel_rfl, by kernel_rfl, by kernel_rfl, by kernel_rfl, by kernel_rfl, by kernel_rfl, by kernel_rfl, by kernel_rfl, by kernel_rfl, by kernel_rfl, by kernel_rfl, trivial⟩, S⟩ ?_
            rintro m a z ⟨kk, okv, hm, hf33, hf34, F, S⟩
            obtain ⟨hkl, hkv⟩ := And.intro hf33 hf34
            refine s_reg ?_
            by_cases ht35 : ((kk : Nat) : Int) < (((ms.map shotP).length : Nat) : Int)
            ·
             skip
             obtain ⟨zz, hzz⟩ : ∃ zz, (ms.map shotP)[kk]? = some zz := ⟨_, List.getElem?_eq_getElem (by omega)⟩
             refine l_do F rfl rfl (op_pure F (v0 := .bool (decide (((kk : Nat) : Int) < (((ms.map shotP).length : Nat) : Int)))) (v := .bool true) (by kernel_rfl) (lssT ht35) fun a F => ?_)
             refine l_then ?_
             refine wp_seq ?_
             refine c_t F rfl ?_
             refine wp_skip ?_
             refine then_n ?_
             refine wp_seq ?_
             refine wp_block ?_
             refine s_reg ?_
             refine l_do F rfl rfl (op_index _ 9 _ _ Am ((ms.map shotP).length) cm kk 1 .i64 F rfl (by kernel_rfl) (by kernel_rfl) (by kernel_rfl) (by kernel_rfl) (get_lt hzz) (row_some S 5 rfl (m := kk) (get_lt hzz)) (fun a F => ?_))
             refine l_do F rfl rfl (op_load _ _ Am (kk * 1) (strV zz) F rfl (by kernel_rfl) (by kernel_rfl) (cRec S 5 sC_len rfl 0 hzz rfl) (fun a F => ?_))
             refine l_pure 1 (fun L => (17, strV zz) :: L) F (by kernel_rfl) fun a F => ?_
             refine l_then ?_
             refine wp_region_list ?_
             refine l_pure 2 (fun L => (160, .bool okv) :: (159, .bool okv) :: L) F (by kernel_rfl) fun a F => ?_
             cases okv with
             | false =>
              skip
              refine l_pure 2 (fun L => (162, strV (shotP (openT (xx.s0.crs o.k0 o.z0) (xx.s1.crs o.k1 o.z1)).2.lb.L)) :: (161, strV zz) :: L) F (by kernel_rfl) fun a F => ?_
              by_cases ht36 : zz = shotP (openT (xx.s0.crs o.k0 o.z0) (xx.s1.crs o.k1 o.z1)).2.lb.L
              ·
               skip
               refine l_do F rfl rfl (op_seql _ _ _ _ zz (shotP (openT (xx.s0.crs o.k0 o.z0) (xx.s1.crs o.k1 o.z1)).2.lb.L) true F rfl (by kernel_rfl) (by kernel_rfl) (beq_iff_eq.2 ht36) (fun a F => ?_))
               refine l_pure 2 (fun L => (15, .bool true) :: (164, .bool true) :: L) F (by kernel_rfl) fun a F => ?_
               refine l_nil (inb_n ?_)
               refine then_n ?_
               refine wp_region_list ?_
               refine l_do F rfl rfl (op_pure F (v0 := .int .i64 (IntKind.wrap .i64 ((kk : Nat) + 1))) (v := .int .i64 (kk + 1 : Nat)) (by kernel_rfl) (wrn_i64 (by omega) (by omega) (by omega)) fun a F => ?_)
               refine l_pure 1 (fun L => (155, .int .i64 (kk + 1 : Nat)) :: L) F (by kernel_rfl) fun a F => ?_
               refine l_then ?_
               exact ⟨_, (by omega), (kk + 1), true, rfl, (by omega), (by rw [take_mem hzz]; exact ⟨fun _ => .inr ht36.symm, fun _ => rfl⟩), F.sub ⟨by kernel_rfl, by kernel_rfl, by kernel_rfl, by kernel_rfl, by kernel_rfl, by kernel_rfl, by kernel_rfl, by kernel_rfl, by kernel_rfl, by kernel_rfl, by kernel_rfl, by kernel_rfl, trivial⟩, S⟩
              ·
               skip
               refine l_do F rfl rfl (op_seql _ _ _ _ zz (shotP (openT (xx.s0.crs o.k0 o.z0) (xx.s1.crs o.k1 o.z1)).2.lb.L) false F rfl (by kernel_rfl) (by kernel_rfl) (beq_eq_false_iff_ne.2 ht36) (fun a F => ?_))
               refine l_pure 2 (fun L => (15, .bool false) :: (164, .bool false) :: L) F (by kernel_rfl) fun a F => ?_
               refine l_nil (inb_n ?_)
               refine then_n ?_
               refine wp_region_list ?_
               refine l_do F rfl rfl (op_pure F (v0 := .int .i64 (IntKind.wrap .i64 ((kk : Nat) + 1))) (v := .int .i64 (kk + 1 : Nat)) (by kernel_rfl) (wrn_i64 (by omega) (by omega) (by omega)) fun a F => ?_)
               refine l_pure 1 (fun L => (155, .int .i64 (kk + 1 : Nat)) :: L) F (by kernel_rfl) fun a F => ?_
               refine l_then ?_
               exact ⟨_, (by omega), (kk + 1), false, rfl, (by omega), (by rw [take_mem hzz]; exact ⟨nofun, fun h9 => h9.elim (fun h8 => hkv.2 h8) (fun h8 => absurd h8.symm ht36)⟩), F.sub ⟨by kernel_rfl, by kernel_rfl, by kernel_rfl, by kernel_rfl, by kernel_rfl, by kernel_rfl, by kernel_rfl, by kernel_rfl, by kernel_rfl, by kernel_rfl, by kernel_rfl, by kernel_rfl, trivial⟩, S⟩
             | true =>
              skip
              refine l_pure 5 (fun L => (15, .bool true) :: (164, .bool true) :: (163, undef) :: (162, undef) :: (161, undef) :: L) F (by kernel_rfl) fun a F => ?_
              refine l_nil (inb_n ?_)
              refine then_n ?_
              refine wp_region_list ?_
              refine l_do F rfl rfl (op_pure F (v0 := .int .i64 (IntKind.wrap .i64 ((kk : Nat) + 1))) (v := .int .i64 (kk + 1 : Nat)) (by kernel_rfl) (wrn_i64 (by omega) (by omega) (by omega)) fun a F => ?_)
              refine l_pure 1 (fun L => (155, .int .i64 (kk + 1 : Nat)) :: L) F (by kernel_rfl) fun a F => ?_
              refine l_then ?_
              exact ⟨_, (by omega), (kk + 1), true, rfl, (by omega), (by rw [take_mem hzz]; exact ⟨fun _ => .inl (hkv.1 rfl), fun _ => rfl⟩), F.sub ⟨by kernel_rfl, by kernel_rfl, by kernel_rfl, by kernel_rfl, by kernel_rfl, by kernel_rfl, by kernel_rfl, by kernel_rfl, by kernel_rfl, by kernel_rfl, by kernel_rfl, by kernel_rfl, trivial⟩, S⟩
            ·
             skip
             have hall9 : (ms.map shotP).take kk = ms.map shotP := List.take_of_length_le (by omega)
             have hok9 : okv = true := hkv.2 (by rw [hall9, hc2]; exact List.mem_map.2 ⟨Mc, hMc, rfl⟩)
             subst hok9
             refine l_do F rfl rfl (op_pure F (v0 := .bool (decide (((kk : Nat) : Int) < (((ms.map shotP).length : Nat) : Int)))) (v := .bool false) (by kernel_rfl) (lssF ht35) fun a F => ?_)
             refine l_then ?_
             refine wp_seq ?_
             refine c_f F rfl ?_
             refine wp_exit ?_
             refine then_x ?_
             refine then_x ?_
             refine inb_x ?_
             refine then_n ?_
             refine wp_seq ?_
             refine s_reg ?_
             refine l_pure 4 (fun L => (169, .pointer (some ⟨bl2, 0, none⟩)) :: (168, .bool false) :: (167, .bool false) :: (166, .bool true) :: L) F (by kernel_rfl) fun a F => ?_
             obtain ⟨G9, g9, hin9, hlt9, k9⟩ := S.frameB [7] (by decide) rfl
             refine l_do F rfl rfl (op_fn F (by kernel_rfl) (llife_at _ g9) ?_)
             rintro e z9 ⟨rfl, g⟩
             have S : Sat w z9 [rest w (· < w.heap.size), box b1 48 [.pointer (some ⟨g0, 0, none⟩), .pointer (some ⟨g1, 0, none⟩)], sdA g0 (openT (xx.s0.crs o.k0 o.z0) (xx.s1.crs o.k1 o.z1)).2.s0, sdA g1 (openT (xx.s0.crs o.k0 o.z0) (xx.s1.crs o.k1 o.z1)).2.s1, lgA bb g0 g1 xx.lb, row 9 1 (.slice Am ((ms.map shotP).length) cm) ((ms.map shotP).length) ((ms.map shotP).flatMap sC), box b8 33 [.int .i64 o.kind, strV o.nm, strV o.vl, .int .u8 (o.wh : Nat), .int .i64 o.n, .int .i64 o.k0, .int .i64 o.k1, .int .i64 o.z0, .int .i64 o.z1], lgA bl2 g0 g1 (openT (xx.s0.crs o.k0 o.z0) (xx.s1.crs o.k1 o.z1)).2.lb] := k9 z9 [lgA bl2 g0 g1 (openT (xx.s0.crs o.k0 o.z0) (xx.s1.crs o.k1 o.z1)).2.lb] rfl g
             clear g g9 k9 hin9 hlt9
             refine ⟨_, rfl, ?_⟩
             intro a F
             refine l_do F rfl rfl (op_pure F (v0 := .bool (decide ((((openT (xx.s0.crs o.k0 o.z0) (xx.s1.crs o.k1 o.z1)).2.lb.life : Nat) : Int) ≤ (0 : Int)))) (v := .bool false) (by kernel_rfl) (leqF (by omega)) fun a F => ?_)
             refine l_pure 1 (fun L => (172, .bool false) :: L) F (by kernel_rfl) fun a F => ?_
             refine l_then ?_
             refine c_f F rfl ?_
             refine wp_skip ?_
             refine then_n ?_
             refine wp_region_list ?_
             refine l_pure 2 (fun L => (174, strV (shotP (openT (xx.s0.crs o.k0 o.z0) (xx.s1.crs o.k1 o.z1)).2.lb.L)) :: (173, .pointer (some ⟨bl2, 0, none⟩)) :: L) F (by kernel_rfl) fun a F => ?_
             refine l_do F rfl rfl (op_buildSlice S _ 1 _ 9 1 sC ([shotP (openT (xx.s0.crs o.k0 o.z0) (xx.s1.crs o.k1 o.z1)).2.lb.L] : List Bs) F rfl (by kernel_rfl) (by kernel_rfl) (by kernel_rfl) (by unfold maxLen; omega) fun b37 z S a F => ?_)
             refine l_pure 2 (fun L => (6, .slice (some ⟨b37, 0, none⟩) 1 1) :: (4, .pointer (some ⟨bl2, 0, none⟩)) :: L) F (by kernel_rfl) fun a F => ?_
             refine l_nil (inb_n ?_)
             refine inb_n ?_
             refine then_n ?_
             refine wp_region_list ?_
             refine l_do F rfl rfl (op_pure F (v0 := .int .i64 (IntKind.wrap .i64 ((ii : Nat) + 1))) (v := .int .i64 (ii + 1 : Nat)) (by kernel_rfl) (wrn_i64 (by omega) (by omega) (by omega)) fun a F => ?_)
             refine l_pure 1 (fun L => (44, .int .i64 (ii + 1 : Nat)) :: L) F (by kernel_rfl) fun a F => ?_
             refine l_then ?_
             exact ⟨_, (by omega), (ii + 1), (openT (xx.s0.crs o.k0 o.z0) (xx.s1.crs o.k1 o.z1)).2, bl2, [(openT (xx.s0.crs o.k0 o.z0) (xx.s1.crs o.k1 o.z1)).2.lb.L], (some ⟨b37, 0, none⟩), 1, rfl, (by omega), (by omega), hc4, (by simp only [List.length_append, List.length_cons, List.length_nil]; omega), F.sub ⟨by kernel_rfl, by kernel_rfl, by kernel_rfl, by kernel_rfl, by kernel_rfl, by kernel_rfl, trivial⟩, (S.pick [0, 1, 2, 3, 7, 8] (by decide))⟩
         ·
          skip
          refine l_do F rfl rfl (op_pure F (v0 := .bool ((o.kind : Int) == (5 : Int))) (v := .bool false) (by kernel_rfl) (eqlF ht32) fun a F => ?_)
          refine l_pure 1 (fun L => (119, .bool false) :: L) F (by kernel_rfl) fun a F => ?_
          refine l_then ?_
          refine c_f F rfl ?_
          refine wp_skip ?_
          refine inb_n ?_
          refine inb_n ?_
          refine then_n ?_
          refine wp_region_list ?_
          refine l_do F rfl rfl (op_pure F (v0 := .int .i64 (IntKind.wrap .i64 ((ii : Nat) + 1))) (v := .int .i64 (ii + 1 : Nat)) (by kernel_rfl) (wrn_i64 (by omega) (by omega) (by omega)) fun a F => ?_)
          refine l_pure 1 (fun L => (44, .int .i64 (ii + 1 : Nat)) :: L) F (by kernel_rfl) fun a F => ?_
          refine l_then ?_
          exact ⟨_, (by omega), (ii + 1), xx, bb, ms, Am, cm, rfl, (by omega), (by omega), (InvT.up hI), (by omega), F.sub ⟨by kernel_rfl, by kernel_rfl, by kernel_rfl, by kernel_rfl, by kernel_rfl, by kernel_rfl, trivial⟩, (S.pick [0, 1, 2, 3, 4, 5] (by decide))⟩
 ·
  skip
  refine l_do F rfl rfl (op_pure F (v0 := .bool (decide (((ii : Nat) : Int) < ((O.length : Nat) : Int)))) (v := .bool false) (by kernel_rfl) (lssF ht7) fun a F => ?_)
  refine l_then ?_
  refine wp_seq ?_
  refine c_f F rfl ?_
  refine wp_exit ?_
  refine then_x ?_
  refine then_x ?_
  refine inb_x ?_
  refine then_n ?_
  refine s_reg ?_
  refine l_pure 1 (fun L => (2, .bool true) :: L) F (by kernel_rfl) fun a F => ?_
  refine l_then ?_
  refine wp_ret ?_
  exact fin F [.tmp 2] [.bool true] rfl ⟨by kernel_rfl, trivial⟩ (.bool true) rfl ⟨rfl, S.below (i := 0) rfl⟩
end Go.Proofs.Ytidcdfilfccigaa
