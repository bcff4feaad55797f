/- Walks over the program's octets: numbers taken. -/
import Derived.Test.YtidcdfilfccigaaRec17
namespace Go.Proofs.Ytidcdfilfccigaa
set_option linter.unusedVariables false
set_option linter.unusedSimpArgs false
set_option linter.unnecessarySimpa false
open Go Go.RowKit

section
variable {P : Program} {a : Act} {n : Nat} {L : List (Nat × Value)} {o : Oper} {w : World} {R : Value → World → Prop}
/-- A byte behind a number. -/
theorem op_or8 (T T' : TypeId) (x y : Operand) (v : Nat) (b : UInt8) (hv : v * 256 < 18446744073709551616) (F : Fr a n L) (ho : o.op = .binOp .or T x y T') (hx : val? L x = some (.int .u64 ((v * 256 : Nat) : Int))) (hy : val? L y = some (.int .u64 (b.toNat : Nat))) (hR : R (.int .u64 ((v * 256 + b.toNat : Nat) : Int)) w) : OpR P a w o R := by
  refine op_run (v := .int .u64 ((v * 256 + b.toNat : Nat) : Int)) (w' := w) ?_ hR
  have hb : b.toNat < 2 ^ 8 := b.toNat_lt
  have h1 : (BitVec.ofInt 64 ((v * 256 : Nat) : Int) ||| BitVec.ofInt 64 ((b.toNat : Nat) : Int)).toNat = v * 256 + b.toNat := by
    rw [BitVec.ofInt_natCast, BitVec.ofInt_natCast, BitVec.toNat_or, BitVec.toNat_ofNat, BitVec.toNat_ofNat, Nat.mod_eq_of_lt (show v * 256 < 2 ^ 64 by omega), Nat.mod_eq_of_lt (show b.toNat < 2 ^ 64 by omega)]
    have h2 := Nat.two_pow_add_eq_or_of_lt hb v
    rw [show v * 256 = 2 ^ 8 * v by omega]
    exact h2.symm
  have h3 : IntKind.wrap .u64 ((v * 256 + b.toNat : Nat) : Int) = ((v * 256 + b.toNat : Nat) : Int) := by
    rw [IntKind.wrap_u64, Int.emod_eq_of_lt (Int.natCast_nonneg _) (by omega)]
  have h4 : Op.intBits .or .u64 ((v * 256 : Nat) : Int) ((b.toNat : Nat) : Int) = pure (.int .u64 ((v * 256 + b.toNat : Nat) : Int)) := by
    show pure (Value.int .u64 (IntKind.wrap .u64 ((BitVec.ofInt 64 ((v * 256 : Nat) : Int) ||| BitVec.ofInt 64 ((b.toNat : Nat) : Int)).toNat : Int))) = _
    rw [h1, h3]
  unfold execOp
  simp only [ho, F.val hx, F.val hy]
  simp [eqGuard, binOp, h4, -Int.natCast_mul, -Int.natCast_add]
theorem op_shl8 (T T' : TypeId) (x y : Operand) (v : Nat) (hv : v * 256 < 18446744073709551616) (F : Fr a n L) (ho : o.op = .binOp .shl T x y T') (hx : val? L x = some (.int .u64 (v : Nat))) (hy : val? L y = some (.int .u64 8)) (hR : R (.int .u64 ((v * 256 : Nat) : Int)) w) : OpR P a w o R := by
  refine op_run (v := .int .u64 ((v * 256 : Nat) : Int)) (w' := w) ?_ hR
  have h3 : IntKind.wrap .u64 (((v : Nat) : Int) * 2 ^ 8) = ((v * 256 : Nat) : Int) := by
    rw [IntKind.wrap_u64, Int.emod_eq_of_lt (by omega) (by omega)]
    omega
  have h4 : Op.shift .shl .u64 ((v : Nat) : Int) .u64 8 = pure (.int .u64 ((v * 256 : Nat) : Int)) := by
    show pure (Value.int .u64 (IntKind.wrap .u64 (((v : Nat) : Int) * 2 ^ 8))) = _
    rw [h3]
  unfold execOp
  simp only [ho, F.val hx, F.val hy]
  simp [eqGuard, binOp, h4, -Int.natCast_mul, -Int.natCast_add]
end
set_option maxRecDepth 100000 in
set_option maxHeartbeats 4000000 in
theorem of_any (w : World) (Ax : Option Addr) (cx : Nat) (X : Bs) (hX : Recs 1 yC w Ax cx X) (hl : X.length ≤ 1000000) : Calls Try.prog 62 #[.slice Ax X.length cx] w fun e w' => ∃ b A' c', e = .returned (pt b 0) ∧ Sat w w' [rest w (· < w.heap.size), box b 118 [.slice A' X.length c', .int .i64 0], row 5 1 (.slice A' X.length c') X.length (X.flatMap yC)] := by
 refine enter 8 Try.func62 rfl rfl rfl fun a F => ?_
 have S := Sat.pushRest w
 refine s_reg ?_
 refine l_pk 1 (fun L => (2, .pointer none) :: L) F fun a F => ?_
 refine l_then ?_
 refine s_reg ?_
 refine l_do F rfl rfl (op_buildSlice S _ 0 _ 5 1 yC ([] : List UInt8) F rfl (by kernel_rfl) (by kernel_rfl) (by kernel_rfl) (by unfold maxLen; omega) fun b1 z S a F => ?_)
 refine l_pk 1 (fun L => (4, .slice Ax X.length cx) :: L) F fun a F => ?_
 refine l_do F rfl rfl (op_append S 1 _ _ _ 5 (.int .u8 0) 1 1 ([] : List UInt8) X yC Ax cx F yC_len (fun _ => rfl) rfl rfl (by kernel_rfl) (by kernel_rfl) rfl rfl rfl (by kernel_rfl) (by kernel_rfl) hX.none_ (src_rest S (i := 0) rfl hX.src (src_lt hX.src)) (by first | omega | (simp <;> omega)) fun A2 c3 z S a F => ?_)
 refine l_pk 1 (fun L => (6, .agg #[.slice A2 ((([] : List UInt8) ++ X).length) c3, .int .i64 0]) :: L) F fun a F => ?_
 refine l_do F rfl rfl (op_box S _ _ (.agg #[.slice A2 ((([] : List UInt8) ++ X).length) c3, .int .i64 0]) F rfl (by kernel_rfl) fun b4 z S a F => ?_)
 refine l_pk 1 (fun L => (2, pt b4 0) :: L) F fun a F => ?_
 refine l_then ?_
 refine wp_ret ?_
 exact fin F [.tmp 2] [pt b4 0] rfl ⟨by kernel_rfl, trivial⟩ (pt b4 0) rfl ⟨b4, A2, c3, rfl, S.pick [0, 2, 1] (by decide)⟩
theorem of_any2 (w : World) (Ax : Option Addr) (cx : Nat) (X : Bs) (hX : Recs 1 yC w Ax cx X) (hl : X.length ≤ 1000000) {n : Nat} (hn : X.length = n) : Calls Try.prog 62 #[.slice Ax n cx] w fun e w' => ∃ b A' c', e = .returned (pt b 0) ∧ Sat w w' [rest w (· < w.heap.size), box b 118 [.slice A' n c', .int .i64 0], row 5 1 (.slice A' n c') n (X.flatMap yC)] := by
  subst hn
  exact of_any w Ax cx X hX hl
set_option maxRecDepth 100000 in
set_option maxHeartbeats 4000000 in
theorem ibad_any (w : World) (G : Nat → Prop) (b : Nat) (Ax : Option Addr) (cx : Nat) (hcx : 4 ≤ cx) (x0 x1 x2 x3 : UInt8) (hS : Sat w w [box b 118 [.slice Ax 4 cx, .int .i64 0], row 5 1 (.slice Ax 4 cx) 4 ([x0, x1, x2, x3].flatMap yC), rest w G]) : Calls Try.prog 86 #[pt b 0] w fun e w' => e = .returned (.int .i64 0) ∧ Sat w w' [box b 118 [.slice Ax 4 cx, .int .i64 0], row 5 1 (.slice Ax 4 cx) 4 ([x0, x1, x2, x3].flatMap yC), rest w G] := by
 refine enter 9 Try.func86 rfl rfl rfl fun a F => ?_
 have S : Sat w w [rest w G, box b 118 [.slice Ax 4 cx, .int .i64 0], row 5 1 (.slice Ax 4 cx) 4 ([x0, x1, x2, x3].flatMap yC)] := hS.pick [2, 0, 1] (by decide)
 refine s_reg ?_
 refine l_pk 1 (fun L => (2, .int .i64 0) :: L) F fun a F => ?_
 refine l_then ?_
 refine wp_seq ?_
 refine s_reg ?_
 refine l_pk 2 (fun L => (4, .bool false) :: (3, pt b 0) :: L) F fun a F => ?_
 refine l_then ?_
 refine c_f F rfl ?_
 refine wp_skip ?_
 refine then_n ?_
 refine s_reg ?_
 refine l_pk 3 (fun L => (7, pt b 1) :: (6, pt b 0) :: (5, pt b 0) :: L) F fun a F => ?_
 refine l_do F rfl rfl (op_ldk (some ⟨b, 0, none⟩) 1 (.int .i64 0) F rfl (cBox S 1 rfl (j := 1) rfl) (fun a F => ?_))
 refine l_pk 1 (fun L => (2, .int .i64 0) :: L) F fun a F => ?_
 refine l_then ?_
 refine wp_ret ?_
 exact fin F [.tmp 2] [.int .i64 0] rfl ⟨by kernel_rfl, trivial⟩ (.int .i64 0) rfl ⟨rfl, S.pick [1, 2, 0] (by decide)⟩
set_option maxRecDepth 100000 in
set_option maxHeartbeats 4000000 in
theorem icut_any (w : World) (G : Nat → Prop) (b : Nat) (Ax : Option Addr) (cx : Nat) (hcx : 4 ≤ cx) (x0 x1 x2 x3 : UInt8) (hS : Sat w w [box b 118 [.slice Ax 4 cx, .int .i64 0], row 5 1 (.slice Ax 4 cx) 4 ([x0, x1, x2, x3].flatMap yC), rest w G]) : Calls Try.prog 74 #[pt b 0, .int .i64 4] w fun e w' => e = .returned (.slice Ax 4 cx) ∧ Sat w w' [box b 118 [.slice (subA Ax cx 4 1) (4 - 4) (cx - 4), .int .i64 0], row 5 1 (.slice Ax 4 cx) 4 ([x0, x1, x2, x3].flatMap yC), rest w G] := by
 refine enter 34 Try.func74 rfl rfl rfl fun a F => ?_
 have S : Sat w w [rest w G, box b 118 [.slice Ax 4 cx, .int .i64 0], row 5 1 (.slice Ax 4 cx) 4 ([x0, x1, x2, x3].flatMap yC)] := hS.pick [2, 0, 1] (by decide)
 refine s_reg ?_
 refine l_pk 1 (fun L => (4, .slice none 0 0) :: L) F fun a F => ?_
 refine l_then ?_
 refine wp_seq ?_
 refine s_reg ?_
 refine l_pk 1 (fun L => (6, pt b 0) :: L) F fun a F => ?_
 obtain ⟨G9, g9, hin9, hlt9, k9⟩ := S.frameB [1, 2] (by decide) rfl
 refine l_do F rfl rfl (op_fn F (by kernel_rfl) (ibad_any _ G9 b Ax cx hcx x0 x1 x2 x3 g9) ?_)
 rintro e z9 ⟨rfl, g⟩
 have S : Sat w z9 [rest w G, box b 118 [.slice Ax 4 cx, .int .i64 0], row 5 1 (.slice Ax 4 cx) 4 ([x0, x1, x2, x3].flatMap yC)] := k9 z9 [box b 118 [.slice Ax 4 cx, .int .i64 0], row 5 1 (.slice Ax 4 cx) 4 ([x0, x1, x2, x3].flatMap yC)] rfl g
 clear g g9 k9 hin9 hlt9
 refine ⟨_, rfl, ?_⟩
 intro a F
 refine l_pk 1 (fun L => (8, .bool false) :: L) F fun a F => ?_
 refine l_then ?_
 refine c_f F rfl ?_
 refine wp_skip ?_
 refine then_n ?_
 refine wp_seq ?_
 refine s_reg ?_
 refine l_pk 4 (fun L => (12, pt b 0) :: (11, pt b 0) :: (10, pt b 0) :: (9, .int .i64 4) :: L) F fun a F => ?_
 refine l_do F rfl rfl (op_ldk (some ⟨b, 0, none⟩) 0 (.slice Ax 4 cx) F rfl (cBox S 1 rfl (j := 0) rfl) (fun a F => ?_))
 refine l_pk 2 (fun L => (15, .bool false) :: (14, .int .i64 4) :: L) F fun a F => ?_
 refine l_then ?_
 refine c_f F rfl ?_
 refine wp_skip ?_
 refine then_n ?_
 refine s_reg ?_
 refine l_pk 3 (fun L => (20, pt b 0) :: (19, pt b 0) :: (18, pt b 0) :: L) F fun a F => ?_
 refine l_do F rfl rfl (op_ldk (some ⟨b, 0, none⟩) 0 (.slice Ax 4 cx) F rfl (cBox S 1 rfl (j := 0) rfl) (fun a F => ?_))
 refine l_pk 1 (fun L => (22, .int .i64 4) :: L) F fun a F => ?_
 refine l_do F rfl rfl (op_sliceH _ 5 _ _ Ax 4 cx 4 1 .i64 F rfl (by kernel_rfl) (by kernel_rfl) (by kernel_rfl) (by kernel_rfl) hcx (fun a F => ?_))
 refine l_pk 1 (fun L => (5, .slice Ax 4 cx) :: L) F fun a F => ?_
 refine l_then ?_
 refine s_reg ?_
 refine l_pk 4 (fun L => (27, pt b 0) :: (26, pt b 0) :: (25, pt b 0) :: (24, pt b 0) :: L) F fun a F => ?_
 refine l_do F rfl rfl (op_ldk (some ⟨b, 0, none⟩) 0 (.slice Ax 4 cx) F rfl (cBox S 1 rfl (j := 0) rfl) (fun a F => ?_))
 refine l_pk 1 (fun L => (29, .int .i64 4) :: L) F fun a F => ?_
 refine l_do F rfl rfl (op_sliceN _ 5 _ _ Ax 4 cx 4 1 .i64 F rfl (by kernel_rfl) (by kernel_rfl) (by kernel_rfl) (by kernel_rfl) (by omega) (fun a F => ?_))
 refine l_pk 2 (fun L => (32, pt b 0) :: (31, pt b 0) :: L) F fun a F => ?_
 refine l_do F rfl rfl (op_storeB S 1 _ _ _ b 0 (.slice (subA Ax cx 4 1) (4 - 4) (cx - 4)) F rfl rfl (by kernel_rfl) (by kernel_rfl) (by kernel_rfl) (by kernel_rfl) (by kernel_rfl) fun z S a F => ?_)
 refine l_then ?_
 refine s_reg ?_
 refine l_pk 2 (fun L => (4, .slice Ax 4 cx) :: (33, .slice Ax 4 cx) :: L) F fun a F => ?_
 refine l_then ?_
 refine wp_ret ?_
 exact fin F [.tmp 4] [.slice Ax 4 cx] rfl ⟨by kernel_rfl, trivial⟩ (.slice Ax 4 cx) rfl ⟨rfl, S.pick [1, 2, 0] (by decide)⟩
set_option maxRecDepth 100000 in
set_option maxHeartbeats 4000000 in
theorem inum_any (w : World) (G : Nat → Prop) (b : Nat) (Ax : Option Addr) (cx : Nat) (hcx : 4 ≤ cx) (x0 x1 x2 x3 : UInt8) (hS : Sat w w [box b 118 [.slice Ax 4 cx, .int .i64 0], row 5 1 (.slice Ax 4 cx) 4 ([x0, x1, x2, x3].flatMap yC), rest w G]) : Calls Try.prog 70 #[pt b 0, .int .i64 4] w fun e w' => e = .returned (.int .u64 (((((0 * 256 + x0.toNat) * 256 + x1.toNat) * 256 + x2.toNat) * 256 + x3.toNat : Nat) : Int)) ∧ Sat w w' [box b 118 [.slice (subA Ax cx 4 1) (4 - 4) (cx - 4), .int .i64 0], row 5 1 (.slice Ax 4 cx) 4 ([x0, x1, x2, x3].flatMap yC), rest w G] := by
 refine enter 23 Try.func70 rfl rfl rfl fun a F => ?_
 have S : Sat w w [rest w G, box b 118 [.slice Ax 4 cx, .int .i64 0], row 5 1 (.slice Ax 4 cx) 4 ([x0, x1, x2, x3].flatMap yC)] := hS.pick [2, 0, 1] (by decide)
 have hx0 : x0.toNat < 256 := x0.toNat_lt
 have hx1 : x1.toNat < 256 := x1.toNat_lt
 have hx2 : x2.toNat < 256 := x2.toNat_lt
 have hx3 : x3.toNat < 256 := x3.toNat_lt
 refine s_reg ?_
 refine l_pk 1 (fun L => (4, .int .u64 0) :: L) F fun a F => ?_
 refine l_then ?_
 refine s_reg ?_
 refine l_pk 1 (fun L => (5, .int .u64 0) :: L) F fun a F => ?_
 refine l_then ?_
 refine wp_seq ?_
 refine s_reg ?_
 refine l_pk 2 (fun L => (9, .int .i64 4) :: (8, pt b 0) :: L) F fun a F => ?_
 obtain ⟨G9, g9, hin9, hlt9, k9⟩ := S.frameB [1, 2] (by decide) rfl
 refine l_do F rfl rfl (op_fn F (by kernel_rfl) (icut_any _ G9 b Ax cx hcx x0 x1 x2 x3 g9) ?_)
 rintro e z9 ⟨rfl, g⟩
 have S : Sat w z9 [rest w G, box b 118 [.slice (subA Ax cx 4 1) (4 - 4) (cx - 4), .int .i64 0], row 5 1 (.slice Ax 4 cx) 4 ([x0, x1, x2, x3].flatMap yC)] := k9 z9 [box b 118 [.slice (subA Ax cx 4 1) (4 - 4) (cx - 4), .int .i64 0], row 5 1 (.slice Ax 4 cx) 4 ([x0, x1, x2, x3].flatMap yC)] rfl g
 clear g g9 k9 hin9 hlt9
 refine ⟨_, rfl, ?_⟩
 intro a F
 refine l_pk 2 (fun L => (12, .int .i64 0) :: (11, .int .i64 4) :: L) F fun a F => ?_
 refine l_then ?_
 refine wp_block ?_
 refine wp_loop_rounds 5 (rnd ?_)
 refine s_reg ?_
 refine l_pk 1 (fun L => (13, .bool true) :: L) F fun a F => ?_
 refine l_then ?_
 refine wp_seq ?_
 refine c_t F rfl ?_
 refine wp_skip ?_
 refine then_n ?_
 refine wp_seq ?_
 refine wp_block ?_
 refine s_reg ?_
 refine l_do F rfl rfl (op_index _ 5 _ _ Ax 4 cx 0 1 .i64 F rfl (by kernel_rfl) (by kernel_rfl) (by kernel_rfl) (by kernel_rfl) (by omega) (row_some S 2 rfl (m := 0) (by omega)) (fun a F => ?_))
 refine l_do F rfl rfl (op_ldk Ax (0 * 1) (.int .u8 (x0.toNat : Nat)) F rfl (cRec S 2 yC_len rfl 0 (show ([x0, x1, x2, x3] : Bs)[0]? = some x0 from rfl) rfl) (fun a F => ?_))
 refine l_pk 1 (fun L => (7, .int .u8 (x0.toNat : Nat)) :: L) F fun a F => ?_
 refine l_then ?_
 refine wp_region_list ?_
 refine l_pk 1 (fun L => (16, .int .u64 0) :: L) F fun a F => ?_
 refine l_do F rfl rfl (op_shl8 _ _ _ _ 0 (by omega) F rfl (by kernel_rfl) (by kernel_rfl) (fun a F => ?_))
 refine l_pk 1 (fun L => (18, .int .u8 (x0.toNat : Nat)) :: L) F fun a F => ?_
 refine l_do F rfl rfl (op_pk F (v0 := .int .u64 (IntKind.wrap .u64 (x0.toNat : Nat))) (v := .int .u64 (x0.toNat : Nat)) (wr_u64 (by omega) (by omega)) fun a F => ?_)
 refine l_do F rfl rfl (op_or8 _ _ _ _ 0 x0 (by omega) F rfl (by kernel_rfl) (by kernel_rfl) (fun a F => ?_))
 refine l_pk 1 (fun L => (5, .int .u64 (0 * 256 + x0.toNat : Nat)) :: L) F fun a F => ?_
 refine l_nil (inb_n ?_)
 refine then_n ?_
 refine wp_region_list ?_
 refine l_pk 2 (fun L => (12, .int .i64 1) :: (21, .int .i64 1) :: L) F fun a F => ?_
 refine l_then ?_
 refine rnd ?_
 refine s_reg ?_
 refine l_pk 1 (fun L => (13, .bool true) :: L) F fun a F => ?_
 refine l_then ?_
 refine wp_seq ?_
 refine c_t F rfl ?_
 refine wp_skip ?_
 refine then_n ?_
 refine wp_seq ?_
 refine wp_block ?_
 refine s_reg ?_
 refine l_do F rfl rfl (op_index _ 5 _ _ Ax 4 cx 1 1 .i64 F rfl (by kernel_rfl) (by kernel_rfl) (by kernel_rfl) (by kernel_rfl) (by omega) (row_some S 2 rfl (m := 1) (by omega)) (fun a F => ?_))
 refine l_do F rfl rfl (op_ldk Ax (1 * 1) (.int .u8 (x1.toNat : Nat)) F rfl (cRec S 2 yC_len rfl 0 (show ([x0, x1, x2, x3] : Bs)[1]? = some x1 from rfl) rfl) (fun a F => ?_))
 refine l_pk 1 (fun L => (7, .int .u8 (x1.toNat : Nat)) :: L) F fun a F => ?_
 refine l_then ?_
 refine wp_region_list ?_
 refine l_pk 1 (fun L => (16, .int .u64 (0 * 256 + x0.toNat : Nat)) :: L) F fun a F => ?_
 refine l_do F rfl rfl (op_shl8 _ _ _ _ (0 * 256 + x0.toNat) (by omega) F rfl (by kernel_rfl) (by kernel_rfl) (fun a F => ?_))
 refine l_pk 1 (fun L => (18, .int .u8 (x1.toNat : Nat)) :: L) F fun a F => ?_
 refine l_do F rfl rfl (op_pk F (v0 := .int .u64 (IntKind.wrap .u64 (x1.toNat : Nat))) (v := .int .u64 (x1.toNat : Nat)) (wr_u64 (by omega) (by omega)) fun a F => ?_)
 refine l_do F rfl rfl (op_or8 _ _ _ _ (0 * 256 + x0.toNat) x1 (by omega) F rfl (by kernel_rfl) (by kernel_rfl) (fun a F => ?_))
 refine l_pk 1 (fun L => (5, .int .u64 ((0 * 256 + x0.toNat) * 256 + x1.toNat : Nat)) :: L) F fun a F => ?_
 refine l_nil (inb_n ?_)
 refine then_n ?_
 refine wp_region_list ?_
 refine l_pk 2 (fun L => (12, .int .i64 2) :: (21, .int .i64 2) :: L) F fun a F => ?_
 refine l_then ?_
 refine rnd ?_
 refine s_reg ?_
 refine l_pk 1 (fun L => (13, .bool true) :: L) F fun a F => ?_
 refine l_then ?_
 refine wp_seq ?_
 refine c_t F rfl ?_
 refine wp_skip ?_
 refine then_n ?_
 refine wp_seq ?_
 refine wp_block ?_
 refine s_reg ?_
 refine l_do F rfl rfl (op_index _ 5 _ _ Ax 4 cx 2 1 .i64 F rfl (by kernel_rfl) (by kernel_rfl) (by kernel_rfl) (by kernel_rfl) (by omega) (row_some S 2 rfl (m := 2) (by omega)) (fun a F => ?_))
 refine l_do F rfl rfl (op_ldk Ax (2 * 1) (.int .u8 (x2.toNat : Nat)) F rfl (cRec S 2 yC_len rfl 0 (show ([x0, x1, x2, x3] : Bs)[2]? = some x2 from rfl) rfl) (fun a F => ?_))
 refine l_pk 1 (fun L => (7, .int .u8 (x2.toNat : Nat)) :: L) F fun a F => ?_
 refine l_then ?_
 refine wp_region_list ?_
 refine l_pk 1 (fun L => (16, .int .u64 ((0 * 256 + x0.toNat) * 256 + x1.toNat : Nat)) :: L) F fun a F => ?_
 refine l_do F rfl rfl (op_shl8 _ _ _ _ ((0 * 256 + x0.toNat) * 256 + x1.toNat) (by omega) F rfl (by kernel_rfl) (by kernel_rfl) (fun a F => ?_))
 refine l_pk 1 (fun L => (18, .int .u8 (x2.toNat : Nat)) :: L) F fun a F => ?_
 refine l_do F rfl rfl (op_pk F (v0 := .int .u64 (IntKind.wrap .u64 (x2.toNat : Nat))) (v := .int .u64 (x2.toNat : Nat)) (wr_u64 (by omega) (by omega)) fun a F => ?_)
 refine l_do F rfl rfl (op_or8 _ _ _ _ ((0 * 256 + x0.toNat) * 256 + x1.toNat) x2 (by omega) F rfl (by kernel_rfl) (by kernel_rfl) (fun a F => ?_))
 refine l_pk 1 (fun L => (5, .int .u64 (((0 * 256 + x0.toNat) * 256 + x1.toNat) * 256 + x2.toNat : Nat)) :: L) F fun a F => ?_
 refine l_nil (inb_n ?_)
 refine then_n ?_
 refine wp_region_list ?_
 refine l_pk 2 (fun L => (12, .int .i64 3) :: (21, .int .i64 3) :: L) F fun a F => ?_
 refine l_then ?_
 refine rnd ?_
 refine s_reg ?_
 refine l_pk 1 (fun L => (13, .bool true) :: L) F fun a F => ?_
 refine l_then ?_
 refine wp_seq ?_
 refine c_t F rfl ?_
 refine wp_skip ?_
 refine then_n ?_
 refine wp_seq ?_
 refine wp_block ?_
 refine s_reg ?_
 refine l_do F rfl rfl (op_index _ 5 _ _ Ax 4 cx 3 1 .i64 F rfl (by kernel_rfl) (by kernel_rfl) (by kernel_rfl) (by kernel_rfl) (by omega) (row_some S 2 rfl (m := 3) (by omega)) (fun a F => ?_))
 refine l_do F rfl rfl (op_ldk Ax (3 * 1) (.int .u8 (x3.toNat : Nat)) F rfl (cRec S 2 yC_len rfl 0 (show ([x0, x1, x2, x3] : Bs)[3]? = some x3 from rfl) rfl) (fun a F => ?_))
 refine l_pk 1 (fun L => (7, .int .u8 (x3.toNat : Nat)) :: L) F fun a F => ?_
 refine l_then ?_
 refine wp_region_list ?_
 refine l_pk 1 (fun L => (16, .int .u64 (((0 * 256 + x0.toNat) * 256 + x1.toNat) * 256 + x2.toNat : Nat)) :: L) F fun a F => ?_
 refine l_do F rfl rfl (op_shl8 _ _ _ _ (((0 * 256 + x0.toNat) * 256 + x1.toNat) * 256 + x2.toNat) (by omega) F rfl (by kernel_rfl) (by kernel_rfl) (fun a F => ?_))
 refine l_pk 1 (fun L => (18, .int .u8 (x3.toNat : Nat)) :: L) F fun a F => ?_
 refine l_do F rfl rfl (op_pk F (v0 := .int .u64 (IntKind.wrap .u64 (x3.toNat : Nat))) (v := .int .u64 (x3.toNat : Nat)) (wr_u64 (by omega) (by omega)) fun a F => ?_)
 refine l_do F rfl rfl (op_or8 _ _ _ _ (((0 * 256 + x0.toNat) * 256 + x1.toNat) * 256 + x2.toNat) x3 (by omega) F rfl (by kernel_rfl) (by kernel_rfl) (fun a F => ?_))
 refine l_pk 1 (fun L => (5, .int .u64 ((((0 * 256 + x0.toNat) * 256 + x1.toNat) * 256 + x2.toNat) * 256 + x3.toNat : Nat)) :: L) F fun a F => ?_
 refine l_nil (inb_n ?_)
 refine then_n ?_
 refine wp_region_list ?_
 refine l_pk 2 (fun L => (12, .int .i64 4) :: (21, .int .i64 4) :: L) F fun a F => ?_
 refine l_then ?_
 refine rnd ?_
 refine s_reg ?_
 refine l_pk 1 (fun L => (13, .bool false) :: L) F fun a F => ?_
 refine l_then ?_
 refine wp_seq ?_
 refine c_f F rfl ?_
 refine wp_exit ?_
 refine then_x ?_
 refine then_x ?_
 refine inb_x ?_
 refine then_n ?_
 refine s_reg ?_
 refine l_pk 2 (fun L => (4, .int .u64 ((((0 * 256 + x0.toNat) * 256 + x1.toNat) * 256 + x2.toNat) * 256 + x3.toNat : Nat)) :: (22, .int .u64 ((((0 * 256 + x0.toNat) * 256 + x1.toNat) * 256 + x2.toNat) * 256 + x3.toNat : Nat)) :: L) F fun a F => ?_
 refine l_then ?_
 refine wp_ret ?_
 exact fin F [.tmp 4] [.int .u64 ((((0 * 256 + x0.toNat) * 256 + x1.toNat) * 256 + x2.toNat) * 256 + x3.toNat : Nat)] rfl ⟨by kernel_rfl, trivial⟩ (.int .u64 ((((0 * 256 + x0.toNat) * 256 + x1.toNat) * 256 + x2.toNat) * 256 + x3.toNat : Nat)) rfl ⟨rfl, S.pick [1, 2, 0] (by decide)⟩
set_option maxRecDepth 100000 in
set_option maxHeartbeats 4000000 in
theorem ifour_any (w : World) (G : Nat → Prop) (b : Nat) (Ax : Option Addr) (cx : Nat) (hcx : 4 ≤ cx) (x0 x1 x2 x3 : UInt8) (hS : Sat w w [box b 118 [.slice Ax 4 cx, .int .i64 0], row 5 1 (.slice Ax 4 cx) 4 ([x0, x1, x2, x3].flatMap yC), rest w G]) : Calls Try.prog 63 #[pt b 0] w fun e w' => e = .returned (.int .u32 (((((0 * 256 + x0.toNat) * 256 + x1.toNat) * 256 + x2.toNat) * 256 + x3.toNat : Nat) : Int)) ∧ Sat w w' [box b 118 [.slice (subA Ax cx 4 1) (4 - 4) (cx - 4), .int .i64 0], row 5 1 (.slice Ax 4 cx) 4 ([x0, x1, x2, x3].flatMap yC), rest w G] := by
 refine enter 6 Try.func63 rfl rfl rfl fun a F => ?_
 have S : Sat w w [rest w G, box b 118 [.slice Ax 4 cx, .int .i64 0], row 5 1 (.slice Ax 4 cx) 4 ([x0, x1, x2, x3].flatMap yC)] := hS.pick [2, 0, 1] (by decide)
 have hx0 : x0.toNat < 256 := x0.toNat_lt
 have hx1 : x1.toNat < 256 := x1.toNat_lt
 have hx2 : x2.toNat < 256 := x2.toNat_lt
 have hx3 : x3.toNat < 256 := x3.toNat_lt
 refine s_reg ?_
 refine l_pk 1 (fun L => (2, .int .u32 0) :: L) F fun a F => ?_
 refine l_then ?_
 refine s_reg ?_
 refine l_pk 1 (fun L => (3, pt b 0) :: L) F fun a F => ?_
 obtain ⟨G9, g9, hin9, hlt9, k9⟩ := S.frameB [1, 2] (by decide) rfl
 refine l_do F rfl rfl (op_fn F (by kernel_rfl) (inum_any _ G9 b Ax cx hcx x0 x1 x2 x3 g9) ?_)
 rintro e z9 ⟨rfl, g⟩
 have S : Sat w z9 [rest w G, box b 118 [.slice (subA Ax cx 4 1) (4 - 4) (cx - 4), .int .i64 0], row 5 1 (.slice Ax 4 cx) 4 ([x0, x1, x2, x3].flatMap yC)] := k9 z9 [box b 118 [.slice (subA Ax cx 4 1) (4 - 4) (cx - 4), .int .i64 0], row 5 1 (.slice Ax 4 cx) 4 ([x0, x1, x2, x3].flatMap yC)] rfl g
 clear g g9 k9 hin9 hlt9
 refine ⟨_, rfl, ?_⟩
 intro a F
 refine l_do F rfl rfl (op_pk F (v0 := .int .u32 (IntKind.wrap .u32 ((((0 * 256 + x0.toNat) * 256 + x1.toNat) * 256 + x2.toNat) * 256 + x3.toNat : Nat))) (v := .int .u32 ((((0 * 256 + x0.toNat) * 256 + x1.toNat) * 256 + x2.toNat) * 256 + x3.toNat : Nat)) (wr_u32 (by omega) (by omega)) fun a F => ?_)
 refine l_pk 1 (fun L => (2, .int .u32 ((((0 * 256 + x0.toNat) * 256 + x1.toNat) * 256 + x2.toNat) * 256 + x3.toNat : Nat)) :: L) F fun a F => ?_
 refine l_then ?_
 refine wp_ret ?_
 exact fin F [.tmp 2] [.int .u32 ((((0 * 256 + x0.toNat) * 256 + x1.toNat) * 256 + x2.toNat) * 256 + x3.toNat : Nat)] rfl ⟨by kernel_rfl, trivial⟩ (.int .u32 ((((0 * 256 + x0.toNat) * 256 + x1.toNat) * 256 + x2.toNat) * 256 + x3.toNat : Nat)) rfl ⟨rfl, S.pick [1, 2, 0] (by decide)⟩
end Go.Proofs.Ytidcdfilfccigaa
