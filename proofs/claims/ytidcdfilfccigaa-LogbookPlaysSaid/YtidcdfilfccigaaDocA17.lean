/- Walks over the document's logbook: records, entries. -/
import Derived.Test.YtidcdfilfccigaaLgP
namespace Go.Proofs.Ytidcdfilfccigaa
set_option linter.unusedVariables false
set_option linter.unusedSimpArgs false
set_option linter.unnecessarySimpa false
open Go Go.RowKit

section
variable {P : Program} {a : Act} {n : Nat} {L : List (Nat × Value)} {o : Oper} {w : World} {R : Value → World → Prop}
theorem op_quo (T T' : TypeId) (x y : Operand) (k : IntKind) (p q : Int) {v : Int} (F : Fr a n L) (ho : o.op = .binOp .quo T x y T') (hx : val? L x = some (.int k p)) (hy : val? L y = some (.int k q)) (hq : ¬ q = 0) (hv : IntKind.wrap k (p.tdiv q) = v) (hR : R (.int k v) w) : OpR P a w o R := by
  refine op_run (v := .int k v) (w' := w) ?_ hR
  unfold execOp
  simp only [ho, F.val hx, F.val hy]
  subst hv
  simp [eqGuard, binOp, Op.intDiv, hq]
theorem op_rem (T T' : TypeId) (x y : Operand) (k : IntKind) (p q : Int) {v : Int} (F : Fr a n L) (ho : o.op = .binOp .rem T x y T') (hx : val? L x = some (.int k p)) (hy : val? L y = some (.int k q)) (hq : ¬ q = 0) (hv : p.tmod q = v) (hR : R (.int k v) w) : OpR P a w o R := by
  refine op_run (v := .int k v) (w' := w) ?_ hR
  unfold execOp
  simp only [ho, F.val hx, F.val hy]
  subst hv
  simp [eqGuard, binOp, Op.intDiv, hq]
end
/-- An entry's cells. -/
def nvC (x : NV) : List Value := [strV x.1, strV x.2]
theorem nvC_len (x : NV) : (nvC x).length = 2 := rfl
theorem ofNat_mod (n : Nat) : UInt8.ofNat (n % 256) = UInt8.ofNat n := by
  apply UInt8.toNat_inj.1
  simp
theorem be4_mod (v : Nat) : be4 v = [UInt8.ofNat (v / 16777216 % 256), UInt8.ofNat (v / 65536 % 256), UInt8.ofNat (v / 256 % 256), UInt8.ofNat (v % 256)] := by
  unfold be4
  rw [ofNat_mod, ofNat_mod, ofNat_mod, ofNat_mod]
  simp
set_option maxRecDepth 100000 in
set_option maxHeartbeats 4000000 in
theorem num17 (w : World) (v : Nat) (hv : v < 4294967296) : Calls Try.prog 54 #[.slice none 0 0, .int .u64 (v : Nat), .int .i64 4] w fun e w' => ∃ A' c', e = .returned (.slice A' (be4 v).length c') ∧ Sat w w' [rest w (· < w.heap.size), row 5 1 (.slice A' (be4 v).length c') (be4 v).length ((be4 v).flatMap yC)] := by
 refine enter 30 Try.func54 rfl rfl rfl fun a F => ?_
 have S := Sat.pushRest w
 refine s_reg ?_
 refine l_pk 1 (fun L => (6, .slice none 0 0) :: L) F fun a F => ?_
 refine l_then ?_
 refine s_reg ?_
 refine l_pk 1 (fun L => (9, .int .i64 4) :: L) F fun a F => ?_
 refine l_do F rfl rfl (op_make S _ 5 _ _ .i64 .i64 (.int .u8 0) 1 1 4 (0 : UInt8) yC F yC_len rfl (by kernel_rfl) (by kernel_rfl) rfl (by kernel_rfl) (by kernel_rfl) (by kernel_rfl) (by omega) (by omega) fun b1 z S a F => ?_)
 refine l_pk 1 (fun L => (7, .slice (some ⟨b1, 0, none⟩) 4 4) :: L) F fun a F => ?_
 refine l_then ?_
 refine wp_seq ?_
 refine s_reg ?_
 refine l_pk 3 (fun L => (8, .int .i64 3) :: (12, .int .i64 3) :: (11, .int .i64 4) :: L) F fun a F => ?_
 refine l_then ?_
 refine wp_block ?_
 refine wp_loop_rounds 5 (rnd ?_)
 refine wp_seq ?_
 refine s_reg ?_
 refine l_pk 2 (fun L => (14, .bool true) :: (13, .int .i64 3) :: L) F fun a F => ?_
 refine l_then ?_
 refine c_t F rfl ?_
 refine wp_skip ?_
 refine then_n ?_
 refine wp_seq ?_
 refine wp_block ?_
 refine s_reg ?_
 refine l_pk 3 (fun L => (19, .int .u64 (v : Nat)) :: (18, .int .i64 3) :: (17, .slice (some ⟨b1, 0, none⟩) 4 4) :: L) F fun a F => ?_
 refine l_do F rfl rfl (op_rem (v := ((v % 256 : Nat) : Int)) _ _ _ _ .u64 ((v : Nat)) 256 F rfl (by kernel_rfl) (by kernel_rfl) (by omega) ((Int.tmod_eq_emod_of_nonneg (by omega)).trans (by omega)) (fun a F => ?_))
 refine l_do F rfl rfl (op_pk F (v0 := .int .u8 (IntKind.wrap .u8 (v % 256 : Nat))) (v := .int .u8 ((UInt8.ofNat (v % 256)).toNat : Nat)) (congrArg (Value.int .u8) (byte_wrap _)) fun a F => ?_)
 refine l_do F rfl rfl (op_index _ 5 _ _ (some ⟨b1, 0, none⟩) 4 4 3 1 .i64 F rfl (by kernel_rfl) (by kernel_rfl) (by kernel_rfl) (by kernel_rfl) (by decide) rfl (fun a F => ?_))
 refine l_do F rfl rfl (op_storeRec S 1 _ _ _ (some ⟨b1, 0, none⟩) 3 1 0 (.int .u8 ((UInt8.ofNat (v % 256)).toNat : Nat)) (UInt8.ofNat (v % 256)) F yC_len (show (List.replicate 4 (0 : UInt8))[3]? = some (0 : UInt8) from rfl) rfl rfl (by kernel_rfl) (by kernel_rfl) (by kernel_rfl) (by kernel_rfl) (by kernel_rfl) (by kernel_rfl) (by kernel_rfl) fun z S a F => ?_)
 refine l_then ?_
 refine wp_region_list ?_
 refine l_pk 1 (fun L => (23, .int .u64 (v : Nat)) :: L) F fun a F => ?_
 refine l_do F rfl rfl (op_quo _ _ _ _ .u64 (v : Nat) 256 F rfl (by kernel_rfl) (by kernel_rfl) (by omega) (IntWalk.u64_quo _ _ ⟨by omega, by omega, by omega⟩) (fun a F => ?_))
 refine l_pk 1 (fun L => (1, .int .u64 ((v : Nat) / 256)) :: L) F fun a F => ?_
 refine l_nil (inb_n ?_)
 refine then_n ?_
 refine wp_region_list ?_
 refine l_pk 3 (fun L => (8, .int .i64 2) :: (16, .int .i64 2) :: (15, .int .i64 3) :: L) F fun a F => ?_
 refine l_then ?_
 refine rnd ?_
 refine wp_seq ?_
 refine s_reg ?_
 refine l_pk 2 (fun L => (14, .bool true) :: (13, .int .i64 2) :: L) F fun a F => ?_
 refine l_then ?_
 refine c_t F rfl ?_
 refine wp_skip ?_
 refine then_n ?_
 refine wp_seq ?_
 refine wp_block ?_
 refine s_reg ?_
 refine l_pk 3 (fun L => (19, .int .u64 ((v : Nat) / 256)) :: (18, .int .i64 2) :: (17, .slice (some ⟨b1, 0, none⟩) 4 4) :: L) F fun a F => ?_
 refine l_do F rfl rfl (op_rem (v := ((v / 256 % 256 : Nat) : Int)) _ _ _ _ .u64 ((v : Nat) / 256) 256 F rfl (by kernel_rfl) (by kernel_rfl) (by omega) ((Int.tmod_eq_emod_of_nonneg (by omega)).trans (by omega)) (fun a F => ?_))
 refine l_do F rfl rfl (op_pk F (v0 := .int .u8 (IntKind.wrap .u8 (v / 256 % 256 : Nat))) (v := .int .u8 ((UInt8.ofNat (v / 256 % 256)).toNat : Nat)) (congrArg (Value.int .u8) (byte_wrap _)) fun a F => ?_)
 refine l_do F rfl rfl (op_index _ 5 _ _ (some ⟨b1, 0, none⟩) 4 4 2 1 .i64 F rfl (by kernel_rfl) (by kernel_rfl) (by kernel_rfl) (by kernel_rfl) (by decide) rfl (fun a F => ?_))
 refine l_do F rfl rfl (op_storeRec S 1 _ _ _ (some ⟨b1, 0, none⟩) 2 1 0 (.int .u8 ((UInt8.ofNat (v / 256 % 256)).toNat : Nat)) (UInt8.ofNat (v / 256 % 256)) F yC_len (show ((List.replicate 4 (0 : UInt8)).set 3 (UInt8.ofNat (v % 256)))[2]? = some (0 : UInt8) from rfl) rfl rfl (by kernel_rfl) (by kernel_rfl) (by kernel_rfl) (by kernel_rfl) (by kernel_rfl) (by kernel_rfl) (by kernel_rfl) fun z S a F => ?_)
 refine l_then ?_
 refine wp_region_list ?_
 refine l_pk 1 (fun L => (23, .int .u64 ((v : Nat) / 256)) :: L) F fun a F => ?_
 refine l_do F rfl rfl (op_quo _ _ _ _ .u64 ((v : Nat) / 256) 256 F rfl (by kernel_rfl) (by kernel_rfl) (by omega) (IntWalk.u64_quo _ _ ⟨by omega, by omega, by omega⟩) (fun a F => ?_))
 refine l_pk 1 (fun L => (1, .int .u64 (((v : Nat) / 256) / 256)) :: L) F fun a F => ?_
 refine l_nil (inb_n ?_)
 refine then_n ?_
 refine wp_region_list ?_
 refine l_pk 3 (fun L => (8, .int .i64 1) :: (16, .int .i64 1) :: (15, .int .i64 2) :: L) F fun a F => ?_
 refine l_then ?_
 refine rnd ?_
 refine wp_seq ?_
 refine s_reg ?_
 refine l_pk 2 (fun L => (14, .bool true) :: (13, .int .i64 1) :: L) F fun a F => ?_
 refine l_then ?_
 refine c_t F rfl ?_
 refine wp_skip ?_
 refine then_n ?_
 refine wp_seq ?_
 refine wp_block ?_
 refine s_reg ?_
 refine l_pk 3 (fun L => (19, .int .u64 (((v : Nat) / 256) / 256)) :: (18, .int .i64 1) :: (17, .slice (some ⟨b1, 0, none⟩) 4 4) :: L) F fun a F => ?_
 refine l_do F rfl rfl (op_rem (v := ((v / 65536 % 256 : Nat) : Int)) _ _ _ _ .u64 (((v : Nat) / 256) / 256) 256 F rfl (by kernel_rfl) (by kernel_rfl) (by omega) ((Int.tmod_eq_emod_of_nonneg (by omega)).trans (by omega)) (fun a F => ?_))
 refine l_do F rfl rfl (op_pk F (v0 := .int .u8 (IntKind.wrap .u8 (v / 65536 % 256 : Nat))) (v := .int .u8 ((UInt8.ofNat (v / 65536 % 256)).toNat : Nat)) (congrArg (Value.int .u8) (byte_wrap _)) fun a F => ?_)
 refine l_do F rfl rfl (op_index _ 5 _ _ (some ⟨b1, 0, none⟩) 4 4 1 1 .i64 F rfl (by kernel_rfl) (by kernel_rfl) (by kernel_rfl) (by kernel_rfl) (by decide) rfl (fun a F => ?_))
 refine l_do F rfl rfl (op_storeRec S 1 _ _ _ (some ⟨b1, 0, none⟩) 1 1 0 (.int .u8 ((UInt8.ofNat (v / 65536 % 256)).toNat : Nat)) (UInt8.ofNat (v / 65536 % 256)) F yC_len (show (((List.replicate 4 (0 : UInt8)).set 3 (UInt8.ofNat (v % 256))).set 2 (UInt8.ofNat (v / 256 % 256)))[1]? = some (0 : UInt8) from rfl) rfl rfl (by kernel_rfl) (by kernel_rfl) (by kernel_rfl) (by kernel_rfl) (by kernel_rfl) (by kernel_rfl) (by kernel_rfl) fun z S a F => ?_)
 refine l_then ?_
 refine wp_region_list ?_
 refine l_pk 1 (fun L => (23, .int .u64 (((v : Nat) / 256) / 256)) :: L) F fun a F => ?_
 refine l_do F rfl rfl (op_quo _ _ _ _ .u64 (((v : Nat) / 256) / 256) 256 F rfl (by kernel_rfl) (by kernel_rfl) (by omega) (IntWalk.u64_quo _ _ ⟨by omega, by omega, by omega⟩) (fun a F => ?_))
 refine l_pk 1 (fun L => (1, .int .u64 ((((v : Nat) / 256) / 256) / 256)) :: L) F fun a F => ?_
 refine l_nil (inb_n ?_)
 refine then_n ?_
 refine wp_region_list ?_
 refine l_pk 3 (fun L => (8, .int .i64 0) :: (16, .int .i64 0) :: (15, .int .i64 1) :: L) F fun a F => ?_
 refine l_then ?_
 refine rnd ?_
 refine wp_seq ?_
 refine s_reg ?_
 refine l_pk 2 (fun L => (14, .bool true) :: (13, .int .i64 0) :: L) F fun a F => ?_
 refine l_then ?_
 refine c_t F rfl ?_
 refine wp_skip ?_
 refine then_n ?_
 refine wp_seq ?_
 refine wp_block ?_
 refine s_reg ?_
 refine l_pk 3 (fun L => (19, .int .u64 ((((v : Nat) / 256) / 256) / 256)) :: (18, .int .i64 0) :: (17, .slice (some ⟨b1, 0, none⟩) 4 4) :: L) F fun a F => ?_
 refine l_do F rfl rfl (op_rem (v := ((v / 16777216 % 256 : Nat) : Int)) _ _ _ _ .u64 ((((v : Nat) / 256) / 256) / 256) 256 F rfl (by kernel_rfl) (by kernel_rfl) (by omega) ((Int.tmod_eq_emod_of_nonneg (by omega)).trans (by omega)) (fun a F => ?_))
 refine l_do F rfl rfl (op_pk F (v0 := .int .u8 (IntKind.wrap .u8 (v / 16777216 % 256 : Nat))) (v := .int .u8 ((UInt8.ofNat (v / 16777216 % 256)).toNat : Nat)) (congrArg (Value.int .u8) (byte_wrap _)) fun a F => ?_)
 refine l_do F rfl rfl (op_index _ 5 _ _ (some ⟨b1, 0, none⟩) 4 4 0 1 .i64 F rfl (by kernel_rfl) (by kernel_rfl) (by kernel_rfl) (by kernel_rfl) (by decide) rfl (fun a F => ?_))
 refine l_do F rfl rfl (op_storeRec S 1 _ _ _ (some ⟨b1, 0, none⟩) 0 1 0 (.int .u8 ((UInt8.ofNat (v / 16777216 % 256)).toNat : Nat)) (UInt8.ofNat (v / 16777216 % 256)) F yC_len (show ((((List.replicate 4 (0 : UInt8)).set 3 (UInt8.ofNat (v % 256))).set 2 (UInt8.ofNat (v / 256 % 256))).set 1 (UInt8.ofNat (v / 65536 % 256)))[0]? = some (0 : UInt8) from rfl) rfl rfl (by kernel_rfl) (by kernel_rfl) (by kernel_rfl) (by kernel_rfl) (by kernel_rfl) (by kernel_rfl) (by kernel_rfl) fun z S a F => ?_)
 refine l_then ?_
 refine wp_region_list ?_
 refine l_pk 1 (fun L => (23, .int .u64 ((((v : Nat) / 256) / 256) / 256)) :: L) F fun a F => ?_
 refine l_do F rfl rfl (op_quo _ _ _ _ .u64 ((((v : Nat) / 256) / 256) / 256) 256 F rfl (by kernel_rfl) (by kernel_rfl) (by omega) (IntWalk.u64_quo _ _ ⟨by omega, by omega, by omega⟩) (fun a F => ?_))
 refine l_pk 1 (fun L => (1, .int .u64 (((((v : Nat) / 256) / 256) / 256) / 256)) :: L) F fun a F => ?_
 refine l_nil (inb_n ?_)
 refine then_n ?_
 refine wp_region_list ?_
 refine l_pk 3 (fun L => (8, .int .i64 (-1)) :: (16, .int .i64 (-1)) :: (15, .int .i64 0) :: L) F fun a F => ?_
 refine l_then ?_
 refine rnd ?_
 refine wp_seq ?_
 refine s_reg ?_
 refine l_pk 2 (fun L => (14, .bool false) :: (13, .int .i64 (-1)) :: L) F fun a F => ?_
 refine l_then ?_
 refine c_f F rfl ?_
 refine wp_exit ?_
 refine then_x ?_
 refine then_x ?_
 refine inb_x ?_
 refine then_n ?_
 refine s_reg ?_
 refine l_do F rfl rfl (op_buildSlice S _ 0 _ 5 1 yC ([] : List UInt8) F rfl (by kernel_rfl) (by kernel_rfl) (by kernel_rfl) (by unfold maxLen; omega) fun b2 z S a F => ?_)
 refine l_pk 1 (fun L => (26, .slice none 0 0) :: L) F fun a F => ?_
 refine l_do F rfl rfl (op_append S 2 _ _ _ 5 (.int .u8 0) 1 1 ([] : List UInt8) ([] : List UInt8) yC none 0 F yC_len (fun _ => rfl) rfl rfl (by kernel_rfl) (by kernel_rfl) rfl rfl rfl (by kernel_rfl) (by kernel_rfl) (fun _ => ⟨rfl, rfl⟩) (srcNil _) (by first | omega | decide | (simp only [List.length_append, List.length_set, List.length_replicate, List.length_nil]; omega)) fun A3 c4 z S a F => ?_)
 refine l_pk 1 (fun L => (28, .slice (some ⟨b1, 0, none⟩) 4 4) :: L) F fun a F => ?_
 refine l_do F rfl rfl (op_append S 2 _ _ _ 5 (.int .u8 0) 1 1 (([] : List UInt8) ++ ([] : List UInt8)) (((((List.replicate 4 (0 : UInt8)).set 3 (UInt8.ofNat (v % 256))).set 2 (UInt8.ofNat (v / 256 % 256))).set 1 (UInt8.ofNat (v / 65536 % 256))).set 0 (UInt8.ofNat (v / 16777216 % 256))) yC (some ⟨b1, 0, none⟩) 4 F yC_len (fun _ => rfl) rfl rfl (by kernel_rfl) (by kernel_rfl) rfl rfl rfl (by kernel_rfl) (by kernel_rfl) (row_none (S.rowOf (i := 1) rfl)) (src_row (S.rowOf (i := 1) rfl)) (by first | omega | decide | (simp only [List.length_append, List.length_set, List.length_replicate, List.length_nil]; omega)) fun A5 c6 z S a F => ?_)
 refine l_pk 1 (fun L => (6, .slice A5 (((([] : List UInt8) ++ ([] : List UInt8)) ++ (((((List.replicate 4 (0 : UInt8)).set 3 (UInt8.ofNat (v % 256))).set 2 (UInt8.ofNat (v / 256 % 256))).set 1 (UInt8.ofNat (v / 65536 % 256))).set 0 (UInt8.ofNat (v / 16777216 % 256)))).length) c6) :: L) F fun a F => ?_
 refine l_then ?_
 refine wp_ret ?_
 exact fin F [.tmp 6] [.slice A5 (((([] : List UInt8) ++ ([] : List UInt8)) ++ (((((List.replicate 4 (0 : UInt8)).set 3 (UInt8.ofNat (v % 256))).set 2 (UInt8.ofNat (v / 256 % 256))).set 1 (UInt8.ofNat (v / 65536 % 256))).set 0 (UInt8.ofNat (v / 16777216 % 256)))).length) c6] rfl ⟨by kernel_rfl, trivial⟩ (.slice A5 (((([] : List UInt8) ++ ([] : List UInt8)) ++ (((((List.replicate 4 (0 : UInt8)).set 3 (UInt8.ofNat (v % 256))).set 2 (UInt8.ofNat (v / 256 % 256))).set 1 (UInt8.ofNat (v / 65536 % 256))).set 0 (UInt8.ofNat (v / 16777216 % 256)))).length) c6) rfl ⟨A5, c6, by rw [be4_mod]; rfl, by rw [be4_mod]; exact S.pick [0, 2] (by decide)⟩
set_option maxRecDepth 100000 in
set_option maxHeartbeats 4000000 in
theorem rrec_any (w : World) (kd : UInt8) (name V : Bs) (hn : name.length ≤ 1000000) (hv : V.length ≤ 1000000) : Calls Try.prog 48 #[.int .u8 (kd.toNat : Nat), strV name, strV V] w fun e w' => ∃ A' c', e = .returned (.slice A' (recP kd name V).length c') ∧ Sat w w' [rest w (· < w.heap.size), row 5 1 (.slice A' (recP kd name V).length c') (recP kd name V).length ((recP kd name V).flatMap yC)] := by
 refine enter 33 Try.func48 rfl rfl rfl fun a F => ?_
 have S := Sat.pushRest w
 refine s_reg ?_
 refine l_pk 1 (fun L => (6, .slice none 0 0) :: L) F fun a F => ?_
 refine l_then ?_
 refine s_reg ?_
 refine l_pk 1 (fun L => (8, strV name) :: L) F fun a F => ?_
 refine l_do F rfl rfl (op_strlen _ _ name F rfl (by kernel_rfl) (by kernel_rfl) (fun a F => ?_))
 refine l_do F rfl rfl (op_pk F (v0 := .int .i64 (IntKind.wrap .i64 (2 + (name.length : Nat)))) (v := .int .i64 (2 + name.length : Nat)) (wrn_i64 (by omega) (by omega) (by omega)) fun a F => ?_)
 refine l_pk 1 (fun L => (11, strV V) :: L) F fun a F => ?_
 refine l_do F rfl rfl (op_strlen _ _ V F rfl (by kernel_rfl) (by kernel_rfl) (fun a F => ?_))
 refine l_do F rfl rfl (op_pk F (v0 := .int .i64 (IntKind.wrap .i64 ((2 + name.length : Nat) + (V.length : Nat)))) (v := .int .i64 (2 + name.length + V.length : Nat)) (wrn_i64 (by omega) (by omega) (by omega)) fun a F => ?_)
 refine l_do F rfl rfl (op_pk F (v0 := .int .u64 (IntKind.wrap .u64 (2 + name.length + V.length : Nat))) (v := .int .u64 (2 + name.length + V.length : Nat)) (wr_u64 (by omega) (by omega)) fun a F => ?_)
 refine l_do F rfl rfl (op_fn F (by kernel_rfl) (num17 _ (2 + name.length + V.length) (by omega)) ?_)
 rintro e z ⟨An, cn, rfl, g⟩
 have S := S.pushThings g
 refine ⟨_, rfl, ?_⟩
 intro a F
 refine l_pk 1 (fun L => (7, .slice An ((be4 (2 + name.length + V.length)).length) cn) :: L) F fun a F => ?_
 refine l_then ?_
 refine s_reg ?_
 refine l_pk 3 (fun L => (18, strV name) :: (17, .int .u8 (kd.toNat : Nat)) :: (16, .slice An ((be4 (2 + name.length + V.length)).length) cn) :: L) F fun a F => ?_
 refine l_do F rfl rfl (op_strlen _ _ name F rfl (by kernel_rfl) (by kernel_rfl) (fun a F => ?_))
 refine l_do F rfl rfl (op_pk F (v0 := .int .u8 (IntKind.wrap .u8 (name.length : Nat))) (v := .int .u8 ((UInt8.ofNat name.length).toNat : Nat)) (congrArg (Value.int .u8) (byte_wrap _)) fun a F => ?_)
 refine l_do F rfl rfl (op_buildSlice S _ 2 _ 5 1 yC ([kd, (UInt8.ofNat name.length)] : List UInt8) F rfl (by kernel_rfl) (by kernel_rfl) (by kernel_rfl) (by unfold maxLen; omega) fun b1 z S a F => ?_)
 refine l_do F rfl rfl (op_append S 1 _ _ _ 5 (.int .u8 0) 1 1 (be4 (2 + name.length + V.length)) ([kd, (UInt8.ofNat name.length)] : List UInt8) yC (some ⟨b1, 0, none⟩) 2 F yC_len (fun _ => rfl) rfl rfl (by kernel_rfl) (by kernel_rfl) rfl rfl rfl (by kernel_rfl) (by kernel_rfl) (row_none (S.rowOf (i := 2) rfl)) (src_row (S.rowOf (i := 2) rfl)) (by first | omega | (simp only [List.length_append, List.length_cons, List.length_nil, be4_len]; omega)) fun A2 c3 z S a F => ?_)
 refine l_pk 1 (fun L => (7, .slice A2 (((be4 (2 + name.length + V.length)) ++ ([kd, (UInt8.ofNat name.length)] : List UInt8)).length) c3) :: L) F fun a F => ?_
 refine l_then ?_
 refine s_reg ?_
 refine l_pk 2 (fun L => (24, strV name) :: (23, .slice A2 (((be4 (2 + name.length + V.length)) ++ ([kd, (UInt8.ofNat name.length)] : List UInt8)).length) c3) :: L) F fun a F => ?_
 refine l_do F rfl rfl (op_bytes S _ _ 5 _ name F rfl (by kernel_rfl) (by kernel_rfl) (by kernel_rfl) (by kernel_rfl) fun b4 c5 z S a F => ?_)
 refine l_do F rfl rfl (op_append S 1 _ _ _ 5 (.int .u8 0) 1 1 ((be4 (2 + name.length + V.length)) ++ ([kd, (UInt8.ofNat name.length)] : List UInt8)) name yC (some ⟨b4, 0, none⟩) c5 F yC_len (fun _ => rfl) rfl rfl (by kernel_rfl) (by kernel_rfl) rfl rfl rfl (by kernel_rfl) (by kernel_rfl) ((S.sbOf (i := 3) rfl (by omega))).none_ ((S.sbOf (i := 3) rfl (by omega))).src (by first | omega | (simp only [List.length_append, List.length_cons, List.length_nil, be4_len]; omega)) fun A6 c7 z S a F => ?_)
 refine l_pk 1 (fun L => (27, strV V) :: L) F fun a F => ?_
 refine l_do F rfl rfl (op_bytes S _ _ 5 _ V F rfl (by kernel_rfl) (by kernel_rfl) (by kernel_rfl) (by kernel_rfl) fun b8 c9 z S a F => ?_)
 refine l_do F rfl rfl (op_append S 1 _ _ _ 5 (.int .u8 0) 1 1 (((be4 (2 + name.length + V.length)) ++ ([kd, (UInt8.ofNat name.length)] : List UInt8)) ++ name) V yC (some ⟨b8, 0, none⟩) c9 F yC_len (fun _ => rfl) rfl rfl (by kernel_rfl) (by kernel_rfl) rfl rfl rfl (by kernel_rfl) (by kernel_rfl) ((S.sbOf (i := 4) rfl (by omega))).none_ ((S.sbOf (i := 4) rfl (by omega))).src (by first | omega | (simp only [List.length_append, List.length_cons, List.length_nil, be4_len]; omega)) fun A10 c11 z S a F => ?_)
 refine l_pk 1 (fun L => (7, .slice A10 (((((be4 (2 + name.length + V.length)) ++ ([kd, (UInt8.ofNat name.length)] : List UInt8)) ++ name) ++ V).length) c11) :: L) F fun a F => ?_
 refine l_then ?_
 refine s_reg ?_
 refine l_pk 1 (fun L => (30, .slice A10 (((((be4 (2 + name.length + V.length)) ++ ([kd, (UInt8.ofNat name.length)] : List UInt8)) ++ name) ++ V).length) c11) :: L) F fun a F => ?_
 refine l_do F rfl rfl (op_buildSlice S _ 1 _ 5 1 yC ([(165 : UInt8)] : List UInt8) F rfl (by kernel_rfl) (by kernel_rfl) (by kernel_rfl) (by unfold maxLen; omega) fun b12 z S a F => ?_)
 refine l_do F rfl rfl (op_append S 1 _ _ _ 5 (.int .u8 0) 1 1 ((((be4 (2 + name.length + V.length)) ++ ([kd, (UInt8.ofNat name.length)] : List UInt8)) ++ name) ++ V) ([(165 : UInt8)] : List UInt8) yC (some ⟨b12, 0, none⟩) 1 F yC_len (fun _ => rfl) rfl rfl (by kernel_rfl) (by kernel_rfl) rfl rfl rfl (by kernel_rfl) (by kernel_rfl) (row_none (S.rowOf (i := 5) rfl)) (src_row (S.rowOf (i := 5) rfl)) (by first | omega | (simp only [List.length_append, List.length_cons, List.length_nil, be4_len]; omega)) fun A13 c14 z S a F => ?_)
 refine l_pk 1 (fun L => (6, .slice A13 ((((((be4 (2 + name.length + V.length)) ++ ([kd, (UInt8.ofNat name.length)] : List UInt8)) ++ name) ++ V) ++ ([(165 : UInt8)] : List UInt8)).length) c14) :: L) F fun a F => ?_
 refine l_then ?_
 refine wp_ret ?_
 have e9 : (((((be4 (2 + name.length + V.length)) ++ ([kd, (UInt8.ofNat name.length)] : List UInt8)) ++ name) ++ V) ++ ([(165 : UInt8)] : List UInt8)) = recP kd name V := by simp [recP]
 rw [e9] at S
 exact fin F [.tmp 6] [.slice A13 ((((((be4 (2 + name.length + V.length)) ++ ([kd, (UInt8.ofNat name.length)] : List UInt8)) ++ name) ++ V) ++ ([(165 : UInt8)] : List UInt8)).length) c14] rfl ⟨by kernel_rfl, trivial⟩ (.slice A13 ((((((be4 (2 + name.length + V.length)) ++ ([kd, (UInt8.ofNat name.length)] : List UInt8)) ++ name) ++ V) ++ ([(165 : UInt8)] : List UInt8)).length) c14) rfl ⟨A13, c14, by rw [← e9], S.pick [0, 1] (by decide)⟩
theorem put_app (M : List NV) (z x : NV) : putN (M ++ [z]) x = M.filter (fun y => decide (y.1 < x.1)) ++ ([z].filter (fun y => decide (y.1 < x.1)) ++ x :: (M.filter (fun y => decide (x.1 < y.1)) ++ [z].filter (fun y => decide (x.1 < y.1)))) := by
  unfold putN
  rw [List.filter_append, List.filter_append, List.append_assoc]
theorem put_lo {M : List NV} {x : NV} (h : ∀ y ∈ M, y.1 < x.1) : M.filter (fun y => decide (y.1 < x.1)) = M ∧ M.filter (fun y => decide (x.1 < y.1)) = [] :=
  ⟨List.filter_eq_self.2 fun y hy => decide_eq_true (h y hy), List.filter_eq_nil_iff.2 fun y hy => by simp only [decide_eq_true_eq]; exact fun h9 => bs_lt_irrefl _ (bs_lt_trans h9 (h y hy))⟩
theorem one_gt {z x : NV} (h : x.1 < z.1) : [z].filter (fun y => decide (y.1 < x.1)) = [] ∧ [z].filter (fun y => decide (x.1 < y.1)) = [z] := by
  have h1 : ¬ z.1 < x.1 := fun h9 => bs_lt_irrefl _ (bs_lt_trans h h9)
  exact ⟨by simp [h1], by simp [h]⟩
theorem one_eq {z x : NV} (h : z.1 = x.1) : [z].filter (fun y => decide (y.1 < x.1)) = [] ∧ [z].filter (fun y => decide (x.1 < y.1)) = [] := by
  exact ⟨by simp [h, bs_lt_irrefl], by simp [h, bs_lt_irrefl]⟩
/-- What put has laid, behind the first entries M. -/
structure PutAt (M : List NV) (x : NV) (done : Bool) (Y : List NV) : Prop where
  f : done = false → Y = M ∧ ∀ y ∈ M, y.1 < x.1
  t : done = true → Y = putN M x ∧ ∃ y ∈ M, x.1 ≤ y.1
theorem putAt_nil (x : NV) : PutAt [] x false [] := ⟨fun _ => ⟨rfl, nofun⟩, nofun⟩
theorem putAt_ge {M Y : List NV} {x z : NV} (h : PutAt M x false Y) (h2 : x.1 ≤ z.1) (h3 : ¬ z.1 = x.1) : PutAt (M ++ [z]) x true ((Y ++ [x]) ++ [z]) := by
  obtain ⟨rfl, hlt⟩ := h.f rfl
  have hgt : x.1 < z.1 := bs_lt_of_le_ne h2 (Ne.symm h3)
  refine ⟨nofun, fun _ => ⟨?_, z, by simp, h2⟩⟩
  rw [put_app, (put_lo hlt).1, (put_lo hlt).2, (one_gt hgt).1, (one_gt hgt).2]
  simp
theorem putAt_eq {M Y : List NV} {x z : NV} (h : PutAt M x false Y) (h3 : z.1 = x.1) : PutAt (M ++ [z]) x true (Y ++ [x]) := by
  obtain ⟨rfl, hlt⟩ := h.f rfl
  refine ⟨nofun, fun _ => ⟨?_, z, by simp, by rw [h3]; exact List.le_refl _⟩⟩
  rw [put_app, (put_lo hlt).1, (put_lo hlt).2, (one_eq h3).1, (one_eq h3).2]
  simp
theorem putAt_lt {M Y : List NV} {x z : NV} (h : PutAt M x false Y) (h2 : ¬ x.1 ≤ z.1) : PutAt (M ++ [z]) x false (Y ++ [z]) := by
  obtain ⟨rfl, hlt⟩ := h.f rfl
  refine ⟨fun _ => ⟨rfl, fun y hy => ?_⟩, nofun⟩
  rcases List.mem_append.1 hy with hy | hy
  · exact hlt y hy
  · simp at hy; subst hy; exact List.not_le.1 h2
theorem putAt_more {M Y : List NV} {x z : NV} (h : PutAt M x true Y) (hr : Rises (M ++ [z])) : x.1 < z.1 ∧ PutAt (M ++ [z]) x true (Y ++ [z]) := by
  obtain ⟨rfl, y, hy, hle⟩ := h.t rfl
  have hyz : y.1 < z.1 := (List.pairwise_append.1 hr).2.2 y hy z (List.mem_singleton.2 rfl)
  have hgt : x.1 < z.1 := by
    by_cases h9 : x.1 = y.1
    · rw [h9]; exact hyz
    · exact bs_lt_trans (bs_lt_of_le_ne hle h9) hyz
  refine ⟨hgt, nofun, fun _ => ⟨?_, y, List.mem_append_left _ hy, hle⟩⟩
  rw [put_app, (one_gt hgt).1, (one_gt hgt).2]
  unfold putN
  simp
theorem take_snoc9 {X : List NV} {i : Nat} {z : NV} (h : X[i]? = some z) : X.take (i + 1) = X.take i ++ [z] := by rw [List.take_add_one, h]; rfl
theorem take_rises {X : List NV} (h : Rises X) (i : Nat) : Rises (X.take i) := List.Pairwise.sublist (List.take_sublist i X) h
theorem del_snoc (M : List NV) (z : NV) (n : Bs) : delN (M ++ [z]) n = if z.1 = n then delN M n else delN M n ++ [z] := by
  unfold delN
  rw [List.filter_append]
  by_cases h : z.1 = n <;> simp [h]
theorem get_here {X : List NV} {i : Nat} {z : NV} {n : Bs} (h : ∀ y ∈ X.take i, ¬ y.1 = n) (hz : X[i]? = some z) (hn : z.1 = n) : getN X n = some z.2 := by
  have hl := (List.getElem?_eq_some_iff.1 hz).1
  have hd : X.drop i = z :: X.drop (i + 1) := by rw [List.drop_eq_getElem_cons hl, (List.getElem?_eq_some_iff.1 hz).2]
  have e : X = X.take i ++ z :: X.drop (i + 1) := by rw [← hd, List.take_append_drop]
  rw [e]
  unfold getN
  rw [List.find?_append, List.find?_eq_none.2 (fun y hy => by simpa using h y hy)]
  simp [hn]
theorem get_nowhere {X : List NV} {n : Bs} (h : ∀ y ∈ X, ¬ y.1 = n) : getN X n = none := by
  unfold getN
  rw [List.find?_eq_none.2 (fun y hy => by simpa using h y hy)]
  rfl
set_option maxRecDepth 100000 in
set_option maxHeartbeats 4000000 in
theorem rput_any (w : World) (Ax : Option Addr) (cx : Nat) (X : List NV) (hX : Recs 2 nvC w Ax cx X) (hl : X.length ≤ 1000000) (hri : Rises X) (xn xv : Bs) : Calls Try.prog 49 #[.slice Ax X.length cx, .agg #[strV xn, strV xv]] w fun e w' => ∃ A' c', e = .returned (.slice A' (putN X (xn, xv)).length c') ∧ Sat w w' [rest w (· < w.heap.size), row 100 2 (.slice A' (putN X (xn, xv)).length c') (putN X (xn, xv)).length ((putN X (xn, xv)).flatMap nvC)] := by
 refine enter 52 Try.func49 rfl rfl rfl fun a F => ?_
 have S := Sat.pushRest w
 refine s_reg ?_
 refine l_do F rfl rfl (op_box S _ _ (.agg #[strV xn, strV xv]) F rfl (by kernel_rfl) fun b1 z S a F => ?_)
 refine l_pk 1 (fun L => (4, .slice none 0 0) :: L) F fun a F => ?_
 refine l_then ?_
 refine s_reg ?_
 refine l_pk 1 (fun L => (5, .slice none 0 0) :: L) F fun a F => ?_
 refine l_then ?_
 refine s_reg ?_
 refine l_pk 1 (fun L => (6, .bool false) :: L) F fun a F => ?_
 refine l_then ?_
 refine wp_seq ?_
 refine s_reg ?_
 refine l_pk 1 (fun L => (7, .int .i64 0) :: L) F fun a F => ?_
 refine l_then ?_
 refine wp_block ?_
 have S := S.nilRow 100 2
 refine wp_loop_m (fun m a z => ∃ (ii : Nat) (dn : Bool) (Aq : Option Addr) (cq : Nat) (Y : List NV), m = X.length - ii ∧ (ii ≤ X.length) ∧ (PutAt (X.take ii) (xn, xv) dn Y) ∧ (Y.length ≤ ii + 1) ∧ Fr a 52 [(0, .slice Ax X.length cx), (3, pt b1 0), (5, .slice Aq Y.length cq), (6, .bool dn), (7, .int .i64 (ii : Nat))] ∧ Sat w z [rest w (· < w.heap.size), box b1 100 [strV xn, strV xv], row 100 2 (.slice Aq Y.length cq) Y.length (Y.flatMap nvC)]) _ ⟨0, false, none, 0, [], rfl, Nat.zero_le _, (putAt_nil _), (by simp), F.subk, S⟩ ?_
 rintro m a z ⟨ii, dn, Aq, cq, Y, hm, hf2, hf3, hf4, F, S⟩
 obtain ⟨hil, hpa, hyl⟩ := And.intro hf2 (And.intro hf3 hf4)
 refine wp_seq ?_
 refine s_reg ?_
 refine l_pk 3 (fun L => (10, .int .i64 (X.length : Nat)) :: (9, .slice Ax X.length cx) :: (8, .int .i64 (ii : Nat)) :: L) F fun a F => ?_
 by_cases ht5 : ((ii : Nat) : Int) < ((X.length : Nat) : Int)
 ·
  obtain ⟨ze, hz⟩ : ∃ ze, X[ii]? = some ze := ⟨_, List.getElem?_eq_getElem (by omega)⟩
  have hsz := take_snoc9 hz
  have hrz := take_rises hri (ii + 1)
  rw [hsz] at hrz
  refine l_do F rfl rfl (op_pk F (v0 := .bool (decide (((ii : Nat) : Int) < ((X.length : Nat) : Int)))) (v := .bool true) (lssT ht5) fun a F => ?_)
  refine l_then ?_
  refine c_t F rfl ?_
  refine wp_skip ?_
  refine then_n ?_
  refine wp_seq ?_
  refine wp_block ?_
  refine wp_seq ?_
  refine wp_seq ?_
  cases dn with
  | false =>
   skip
   by_cases ht6 : xn ≤ ze.1
   ·
    refine region_gx (fun D => fun (_ : Unit) => [rest w (· < w.heap.size), box b1 100 [strV xn, strV xv], row 100 2 (.slice Aq Y.length cq) Y.length (Y.flatMap nvC)]) (fun (_ : Unit) => [.bool false, .bool true, .bool true, .slice Ax X.length cx, .int .i64 (ii : Nat), ptrA Ax (ii * 2), ptrA Ax (ii * 2), strV ze.1, pt b1 0, strV xn, .bool true, .bool true]) [(5, [], [6, 7, 10]), (6, [5], [7, 10]), (7, [5, 6], [10]), (9, [], [10]), (10, [5, 6, 7, 9], [])] () rfl (by kernel_rfl) (by kernel_rfl) F S.drew ?_ ?_ ?_ ?_ ?_
    · rintro ⟨⟩; rfl
    · rintro ⟨⟩; kernel_rfl
    ·
     intro D D' x h
     cases x
     rfl
    ·
     refine ⟨?_, ?_⟩
     ·
      refine ⟨_, rfl, rfl, by kernel_rfl, ?_⟩
      rintro D ⟨⟩ a z S F
      refine ⟨by kernel_rfl, ?_⟩
      exact op_index _ 100 _ _ Ax X.length cx ii 2 .i64 F rfl (by kernel_rfl) (by kernel_rfl) (by kernel_rfl) (by kernel_rfl) (get_lt hz) (recs_some hX (m := ii) (get_lt hz)) (⟨(), rfl, (SameB.refl _ _ rfl), S⟩)
     refine ⟨?_, ?_⟩
     ·
      refine ⟨_, rfl, rfl, by kernel_rfl, ?_⟩
      rintro D ⟨⟩ a z S F
      refine ⟨by kernel_rfl, ?_⟩
      exact op_field _ _ _ Ax (ii * 2) 0 F rfl (by kernel_rfl) (by kernel_rfl) (recs_some hX (m := ii) (get_lt hz)) (⟨(), rfl, (SameB.refl _ _ rfl), S⟩)
     refine ⟨?_, ?_⟩
     ·
      refine ⟨_, rfl, rfl, by kernel_rfl, ?_⟩
      rintro D ⟨⟩ a z S F
      refine ⟨by kernel_rfl, ?_⟩
      exact op_ldk Ax (ii * 2) (strV ze.1) F rfl (cOld S 0 nvC_len hX rfl 0 hz rfl) (⟨(), rfl, (SameB.refl _ _ rfl), S⟩)
     refine ⟨?_, ?_⟩
     ·
      refine ⟨_, rfl, rfl, by kernel_rfl, ?_⟩
      rintro D ⟨⟩ a z S F
      refine ⟨by kernel_rfl, ?_⟩
      exact op_ldk (some ⟨b1, 0, none⟩) 0 (strV xn) F rfl (cBox S 1 rfl (j := 0) rfl) (⟨(), rfl, (SameB.refl _ _ rfl), S⟩)
     refine ⟨?_, ?_⟩
     ·
      refine ⟨_, rfl, rfl, by kernel_rfl, ?_⟩
      rintro D ⟨⟩ a z S F
      refine ⟨by kernel_rfl, ?_⟩
      exact op_sgeq _ _ _ _ ze.1 xn true F rfl (by kernel_rfl) (by kernel_rfl) (decide_eq_true ht6) (⟨(), rfl, (SameB.refl _ _ rfl), S⟩)
     trivial
    rintro ⟨⟩ a z F S
    have F := F.subk (l := [(0, .slice Ax X.length cx), (3, pt b1 0), (5, .slice Aq Y.length cq), (6, .bool false), (7, .int .i64 (ii : Nat)), (25, .bool true)])
    have S : Sat w z [rest w (· < w.heap.size), box b1 100 [strV xn, strV xv], row 100 2 (.slice Aq Y.length cq) Y.length (Y.flatMap nvC)] := S
    refine then_n ?_
    refine c_t F rfl ?_
    refine s_reg ?_
    refine l_pk 1 (fun L => (26, .slice Aq Y.length cq) :: L) F fun a F => ?_
    refine l_do F rfl rfl (op_loadK _ _ (some ⟨b1, 0, none⟩) 0 [strV xn, strV xv] F rfl (by kernel_rfl) (by kernel_rfl) (by kernel_rfl) (by simp) (cBoxK S 1 rfl 0 (by kernel_rfl)) (fun a F => ?_))
    refine l_do F rfl rfl (op_buildSlice S _ 1 _ 100 2 nvC ([((xn, xv) : NV)] : List NV) F rfl (by kernel_rfl) (by kernel_rfl) (by kernel_rfl) (by unfold maxLen; omega) fun b7 z S a F => ?_)
    refine l_do F rfl rfl (op_append S 2 _ _ _ 100 (.agg #[strV ([] : Bs), strV ([] : Bs)]) 2 32 Y ([((xn, xv) : NV)] : List NV) nvC (some ⟨b7, 0, none⟩) 1 F nvC_len (fun _ => rfl) rfl rfl (by kernel_rfl) (by kernel_rfl) rfl rfl rfl (by kernel_rfl) (by kernel_rfl) (row_none (S.rowOf (i := 3) rfl)) (src_row (S.rowOf (i := 3) rfl)) (by first | omega | (simp only [List.length_append, List.length_cons, List.length_nil]; omega)) fun A8 c9 z S a F => ?_)
    refine l_pk 1 (fun L => (5, .slice A8 ((Y ++ ([((xn, xv) : NV)] : List NV)).length) c9) :: L) F fun a F => ?_
    refine l_then ?_
    refine wp_region_list ?_
    refine l_pk 1 (fun L => (6, .bool true) :: L) F fun a F => ?_
    refine l_then ?_
    refine wp_seq ?_
    by_cases ht10 : ze.1 = xn
    ·
     refine region_gx (fun D => fun (_ : Unit) => [rest w (· < w.heap.size), box b1 100 [strV xn, strV xv], row 100 2 (.slice A8 ((Y ++ ([((xn, xv) : NV)] : List NV)).length) c9) ((Y ++ ([((xn, xv) : NV)] : List NV)).length) ((Y ++ ([((xn, xv) : NV)] : List NV)).flatMap nvC), row 100 2 (.slice (some ⟨b7, 0, none⟩) 1 1) 1 (([((xn, xv) : NV)] : List NV).flatMap nvC)]) (fun (_ : Unit) => [.slice Ax X.length cx, .int .i64 (ii : Nat), ptrA Ax (ii * 2), ptrA Ax (ii * 2), strV ze.1, pt b1 0, strV xn, .bool false]) [(2, [], [3, 4, 7]), (3, [2], [4, 7]), (4, [2, 3], [7]), (6, [], [7]), (7, [2, 3, 4, 6], [])] () rfl (by kernel_rfl) (by kernel_rfl) F S.drew ?_ ?_ ?_ ?_ ?_
     · rintro ⟨⟩; rfl
     · rintro ⟨⟩; kernel_rfl
     ·
      intro D D' x h
      cases x
      rfl
     ·
      refine ⟨?_, ?_⟩
      ·
       refine ⟨_, rfl, rfl, by kernel_rfl, ?_⟩
       rintro D ⟨⟩ a z S F
       refine ⟨by kernel_rfl, ?_⟩
       exact op_index _ 100 _ _ Ax X.length cx ii 2 .i64 F rfl (by kernel_rfl) (by kernel_rfl) (by kernel_rfl) (by kernel_rfl) (get_lt hz) (recs_some hX (m := ii) (get_lt hz)) (⟨(), rfl, (SameB.refl _ _ rfl), S⟩)
      refine ⟨?_, ?_⟩
      ·
       refine ⟨_, rfl, rfl, by kernel_rfl, ?_⟩
       rintro D ⟨⟩ a z S F
       refine ⟨by kernel_rfl, ?_⟩
       exact op_field _ _ _ Ax (ii * 2) 0 F rfl (by kernel_rfl) (by kernel_rfl) (recs_some hX (m := ii) (get_lt hz)) (⟨(), rfl, (SameB.refl _ _ rfl), S⟩)
      refine ⟨?_, ?_⟩
      ·
       refine ⟨_, rfl, rfl, by kernel_rfl, ?_⟩
       rintro D ⟨⟩ a z S F
       refine ⟨by kernel_rfl, ?_⟩
       exact op_ldk Ax (ii * 2) (strV ze.1) F rfl (cOld S 0 nvC_len hX rfl 0 hz rfl) (⟨(), rfl, (SameB.refl _ _ rfl), S⟩)
      refine ⟨?_, ?_⟩
      ·
       refine ⟨_, rfl, rfl, by kernel_rfl, ?_⟩
       rintro D ⟨⟩ a z S F
       refine ⟨by kernel_rfl, ?_⟩
       exact op_ldk (some ⟨b1, 0, none⟩) 0 (strV xn) F rfl (cBox S 1 rfl (j := 0) rfl) (⟨(), rfl, (SameB.refl _ _ rfl), S⟩)
      refine ⟨?_, ?_⟩
      ·
       refine ⟨_, rfl, rfl, by kernel_rfl, ?_⟩
       rintro D ⟨⟩ a z S F
       refine ⟨by kernel_rfl, ?_⟩
       exact op_sneq _ _ _ _ ze.1 xn false F rfl (by kernel_rfl) (by kernel_rfl) (by rw [beq_iff_eq.2 ht10]; rfl) (⟨(), rfl, (SameB.refl _ _ rfl), S⟩)
      trivial
     rintro ⟨⟩ a z F S
     have F := F.subk (l := [(0, .slice Ax X.length cx), (3, pt b1 0), (5, .slice A8 ((Y ++ ([((xn, xv) : NV)] : List NV)).length) c9), (6, .bool true), (7, .int .i64 (ii : Nat)), (37, .bool false)])
     have S : Sat w z [rest w (· < w.heap.size), box b1 100 [strV xn, strV xv], row 100 2 (.slice A8 ((Y ++ ([((xn, xv) : NV)] : List NV)).length) c9) ((Y ++ ([((xn, xv) : NV)] : List NV)).length) ((Y ++ ([((xn, xv) : NV)] : List NV)).flatMap nvC), row 100 2 (.slice (some ⟨b7, 0, none⟩) 1 1) 1 (([((xn, xv) : NV)] : List NV).flatMap nvC)] := S
     refine then_n ?_
     refine c_f F rfl ?_
     refine wp_skip ?_
     refine inb_n ?_
     refine then_n ?_
     refine wp_region_list ?_
     refine l_pk 1 (fun L => (12, .int .i64 (ii : Nat)) :: L) F fun a F => ?_
     refine l_do F rfl rfl (op_pk F (v0 := .int .i64 (IntKind.wrap .i64 ((ii : Nat) + 1))) (v := .int .i64 (ii + 1 : Nat)) (wrn_i64 (by omega) (by omega) (by omega)) fun a F => ?_)
     refine l_pk 1 (fun L => (7, .int .i64 (ii + 1 : Nat)) :: L) F fun a F => ?_
     refine l_then ?_
     have hyl2 : Y.length ≤ ii := by rw [(hpa.f rfl).1, List.length_take]; omega
     exact ⟨_, (by omega), (ii + 1), true, A8, c9, (Y ++ ([((xn, xv) : NV)] : List NV)), rfl, (by omega), (by rw [hsz]; exact putAt_eq hpa ht10), (by first | omega | (simp only [List.length_append, List.length_cons, List.length_nil]; omega)), F.subk, (S.pick [0, 1, 2] (by decide))⟩
    refine region_gx (fun D => fun (_ : Unit) => [rest w (· < w.heap.size), box b1 100 [strV xn, strV xv], row 100 2 (.slice A8 ((Y ++ ([((xn, xv) : NV)] : List NV)).length) c9) ((Y ++ ([((xn, xv) : NV)] : List NV)).length) ((Y ++ ([((xn, xv) : NV)] : List NV)).flatMap nvC), row 100 2 (.slice (some ⟨b7, 0, none⟩) 1 1) 1 (([((xn, xv) : NV)] : List NV).flatMap nvC)]) (fun (_ : Unit) => [.slice Ax X.length cx, .int .i64 (ii : Nat), ptrA Ax (ii * 2), ptrA Ax (ii * 2), strV ze.1, pt b1 0, strV xn, .bool true]) [(2, [], [3, 4, 7]), (3, [2], [4, 7]), (4, [2, 3], [7]), (6, [], [7]), (7, [2, 3, 4, 6], [])] () rfl (by kernel_rfl) (by kernel_rfl) F S.drew ?_ ?_ ?_ ?_ ?_
    · rintro ⟨⟩; rfl
    · rintro ⟨⟩; kernel_rfl
    ·
     intro D D' x h
     cases x
     rfl
    ·
     refine ⟨?_, ?_⟩
     ·
      refine ⟨_, rfl, rfl, by kernel_rfl, ?_⟩
      rintro D ⟨⟩ a z S F
      refine ⟨by kernel_rfl, ?_⟩
      exact op_index _ 100 _ _ Ax X.length cx ii 2 .i64 F rfl (by kernel_rfl) (by kernel_rfl) (by kernel_rfl) (by kernel_rfl) (get_lt hz) (recs_some hX (m := ii) (get_lt hz)) (⟨(), rfl, (SameB.refl _ _ rfl), S⟩)
     refine ⟨?_, ?_⟩
     ·
      refine ⟨_, rfl, rfl, by kernel_rfl, ?_⟩
      rintro D ⟨⟩ a z S F
      refine ⟨by kernel_rfl, ?_⟩
      exact op_field _ _ _ Ax (ii * 2) 0 F rfl (by kernel_rfl) (by kernel_rfl) (recs_some hX (m := ii) (get_lt hz)) (⟨(), rfl, (SameB.refl _ _ rfl), S⟩)
     refine ⟨?_, ?_⟩
     ·
      refine ⟨_, rfl, rfl, by kernel_rfl, ?_⟩
      rintro D ⟨⟩ a z S F
      refine ⟨by kernel_rfl, ?_⟩
      exact op_ldk Ax (ii * 2) (strV ze.1) F rfl (cOld S 0 nvC_len hX rfl 0 hz rfl) (⟨(), rfl, (SameB.refl _ _ rfl), S⟩)
     refine ⟨?_, ?_⟩
     ·
      refine ⟨_, rfl, rfl, by kernel_rfl, ?_⟩
      rintro D ⟨⟩ a z S F
      refine ⟨by kernel_rfl, ?_⟩
      exact op_ldk (some ⟨b1, 0, none⟩) 0 (strV xn) F rfl (cBox S 1 rfl (j := 0) rfl) (⟨(), rfl, (SameB.refl _ _ rfl), S⟩)
     refine ⟨?_, ?_⟩
     ·
      refine ⟨_, rfl, rfl, by kernel_rfl, ?_⟩
      rintro D ⟨⟩ a z S F
      refine ⟨by kernel_rfl, ?_⟩
      exact op_sneq _ _ _ _ ze.1 xn true F rfl (by kernel_rfl) (by kernel_rfl) (by rw [beq_eq_false_iff_ne.2 ht10]; rfl) (⟨(), rfl, (SameB.refl _ _ rfl), S⟩)
     trivial
    rintro ⟨⟩ a z F S
    have F := F.subk (l := [(0, .slice Ax X.length cx), (3, pt b1 0), (5, .slice A8 ((Y ++ ([((xn, xv) : NV)] : List NV)).length) c9), (6, .bool true), (7, .int .i64 (ii : Nat)), (37, .bool true)])
    have S : Sat w z [rest w (· < w.heap.size), box b1 100 [strV xn, strV xv], row 100 2 (.slice A8 ((Y ++ ([((xn, xv) : NV)] : List NV)).length) c9) ((Y ++ ([((xn, xv) : NV)] : List NV)).length) ((Y ++ ([((xn, xv) : NV)] : List NV)).flatMap nvC), row 100 2 (.slice (some ⟨b7, 0, none⟩) 1 1) 1 (([((xn, xv) : NV)] : List NV).flatMap nvC)] := S
    refine then_n ?_
    refine c_t F rfl ?_
    refine wp_region_list ?_
    refine l_pk 3 (fun L => (40, .int .i64 (ii : Nat)) :: (39, .slice Ax X.length cx) :: (38, .slice A8 ((Y ++ ([((xn, xv) : NV)] : List NV)).length) c9) :: L) F fun a F => ?_
    refine l_do F rfl rfl (op_index _ 100 _ _ Ax X.length cx ii 2 .i64 F rfl (by kernel_rfl) (by kernel_rfl) (by kernel_rfl) (by kernel_rfl) (get_lt hz) (recs_some hX (m := ii) (get_lt hz)) (fun a F => ?_))
    refine l_do F rfl rfl (op_loadK _ _ Ax (ii * 2) [strV ze.1, strV ze.2] F rfl (by kernel_rfl) (by kernel_rfl) (by kernel_rfl) (by simp) (cOldK0 S 0 nvC_len hX rfl hz (by kernel_rfl)) (fun a F => ?_))
    refine l_do F rfl rfl (op_buildSlice S _ 1 _ 100 2 nvC ([((ze.1, ze.2) : NV)] : List NV) F rfl (by kernel_rfl) (by kernel_rfl) (by kernel_rfl) (by unfold maxLen; omega) fun b11 z S a F => ?_)
    refine l_do F rfl rfl (op_append S 2 _ _ _ 100 (.agg #[strV ([] : Bs), strV ([] : Bs)]) 2 32 (Y ++ ([((xn, xv) : NV)] : List NV)) ([((ze.1, ze.2) : NV)] : List NV) nvC (some ⟨b11, 0, none⟩) 1 F nvC_len (fun _ => rfl) rfl rfl (by kernel_rfl) (by kernel_rfl) rfl rfl rfl (by kernel_rfl) (by kernel_rfl) (row_none (S.rowOf (i := 4) rfl)) (src_row (S.rowOf (i := 4) rfl)) (by first | omega | (simp only [List.length_append, List.length_cons, List.length_nil]; omega)) fun A12 c13 z S a F => ?_)
    refine l_pk 1 (fun L => (5, .slice A12 (((Y ++ ([((xn, xv) : NV)] : List NV)) ++ ([((ze.1, ze.2) : NV)] : List NV)).length) c13) :: L) F fun a F => ?_
    refine l_nil (inb_n ?_)
    refine then_n ?_
    refine wp_region_list ?_
    refine l_pk 1 (fun L => (12, .int .i64 (ii : Nat)) :: L) F fun a F => ?_
    refine l_do F rfl rfl (op_pk F (v0 := .int .i64 (IntKind.wrap .i64 ((ii : Nat) + 1))) (v := .int .i64 (ii + 1 : Nat)) (wrn_i64 (by omega) (by omega) (by omega)) fun a F => ?_)
    refine l_pk 1 (fun L => (7, .int .i64 (ii + 1 : Nat)) :: L) F fun a F => ?_
    refine l_then ?_
    have hyl2 : Y.length ≤ ii := by rw [(hpa.f rfl).1, List.length_take]; omega
    exact ⟨_, (by omega), (ii + 1), true, A12, c13, ((Y ++ ([((xn, xv) : NV)] : List NV)) ++ ([((ze.1, ze.2) : NV)] : List NV)), rfl, (by omega), (by rw [hsz]; exact putAt_ge hpa ht6 ht10), (by first | omega | (simp only [List.length_append, List.length_cons, List.length_nil]; omega)), F.subk, (S.pick [0, 1, 2] (by decide))⟩
   refine region_gx (fun D => fun (_ : Unit) => [rest w (· < w.heap.size), box b1 100 [strV xn, strV xv], row 100 2 (.slice Aq Y.length cq) Y.length (Y.flatMap nvC)]) (fun (_ : Unit) => [.bool false, .bool true, .bool true, .slice Ax X.length cx, .int .i64 (ii : Nat), ptrA Ax (ii * 2), ptrA Ax (ii * 2), strV ze.1, pt b1 0, strV xn, .bool false, .bool false]) [(5, [], [6, 7, 10]), (6, [5], [7, 10]), (7, [5, 6], [10]), (9, [], [10]), (10, [5, 6, 7, 9], [])] () rfl (by kernel_rfl) (by kernel_rfl) F S.drew ?_ ?_ ?_ ?_ ?_
   · rintro ⟨⟩; rfl
   · rintro ⟨⟩; kernel_rfl
   ·
    intro D D' x h
    cases x
    rfl
   ·
    refine ⟨?_, ?_⟩
    ·
     refine ⟨_, rfl, rfl, by kernel_rfl, ?_⟩
     rintro D ⟨⟩ a z S F
     refine ⟨by kernel_rfl, ?_⟩
     exact op_index _ 100 _ _ Ax X.length cx ii 2 .i64 F rfl (by kernel_rfl) (by kernel_rfl) (by kernel_rfl) (by kernel_rfl) (get_lt hz) (recs_some hX (m := ii) (get_lt hz)) (⟨(), rfl, (SameB.refl _ _ rfl), S⟩)
    refine ⟨?_, ?_⟩
    ·
     refine ⟨_, rfl, rfl, by kernel_rfl, ?_⟩
     rintro D ⟨⟩ a z S F
     refine ⟨by kernel_rfl, ?_⟩
     exact op_field _ _ _ Ax (ii * 2) 0 F rfl (by kernel_rfl) (by kernel_rfl) (recs_some hX (m := ii) (get_lt hz)) (⟨(), rfl, (SameB.refl _ _ rfl), S⟩)
    refine ⟨?_, ?_⟩
    ·
     refine ⟨_, rfl, rfl, by kernel_rfl, ?_⟩
     rintro D ⟨⟩ a z S F
     refine ⟨by kernel_rfl, ?_⟩
     exact op_ldk Ax (ii * 2) (strV ze.1) F rfl (cOld S 0 nvC_len hX rfl 0 hz rfl) (⟨(), rfl, (SameB.refl _ _ rfl), S⟩)
    refine ⟨?_, ?_⟩
    ·
     refine ⟨_, rfl, rfl, by kernel_rfl, ?_⟩
     rintro D ⟨⟩ a z S F
     refine ⟨by kernel_rfl, ?_⟩
     exact op_ldk (some ⟨b1, 0, none⟩) 0 (strV xn) F rfl (cBox S 1 rfl (j := 0) rfl) (⟨(), rfl, (SameB.refl _ _ rfl), S⟩)
    refine ⟨?_, ?_⟩
    ·
     refine ⟨_, rfl, rfl, by kernel_rfl, ?_⟩
     rintro D ⟨⟩ a z S F
     refine ⟨by kernel_rfl, ?_⟩
     exact op_sgeq _ _ _ _ ze.1 xn false F rfl (by kernel_rfl) (by kernel_rfl) (decide_eq_false ht6) (⟨(), rfl, (SameB.refl _ _ rfl), S⟩)
    trivial
   rintro ⟨⟩ a z F S
   have F := F.subk (l := [(0, .slice Ax X.length cx), (3, pt b1 0), (5, .slice Aq Y.length cq), (6, .bool false), (7, .int .i64 (ii : Nat)), (25, .bool false)])
   have S : Sat w z [rest w (· < w.heap.size), box b1 100 [strV xn, strV xv], row 100 2 (.slice Aq Y.length cq) Y.length (Y.flatMap nvC)] := S
   refine then_n ?_
   refine c_f F rfl ?_
   refine wp_skip ?_
   refine then_n ?_
   refine wp_seq ?_
   refine region_gx (fun D => fun (_ : Unit) => [rest w (· < w.heap.size), box b1 100 [strV xn, strV xv], row 100 2 (.slice Aq Y.length cq) Y.length (Y.flatMap nvC)]) (fun (_ : Unit) => [.slice Ax X.length cx, .int .i64 (ii : Nat), ptrA Ax (ii * 2), ptrA Ax (ii * 2), strV ze.1, pt b1 0, strV xn, .bool true]) [(2, [], [3, 4, 7]), (3, [2], [4, 7]), (4, [2, 3], [7]), (6, [], [7]), (7, [2, 3, 4, 6], [])] () rfl (by kernel_rfl) (by kernel_rfl) F S.drew ?_ ?_ ?_ ?_ ?_
   · rintro ⟨⟩; rfl
   · rintro ⟨⟩; kernel_rfl
   ·
    intro D D' x h
    cases x
    rfl
   ·
    refine ⟨?_, ?_⟩
    ·
     refine ⟨_, rfl, rfl, by kernel_rfl, ?_⟩
     rintro D ⟨⟩ a z S F
     refine ⟨by kernel_rfl, ?_⟩
     exact op_index _ 100 _ _ Ax X.length cx ii 2 .i64 F rfl (by kernel_rfl) (by kernel_rfl) (by kernel_rfl) (by kernel_rfl) (get_lt hz) (recs_some hX (m := ii) (get_lt hz)) (⟨(), rfl, (SameB.refl _ _ rfl), S⟩)
    refine ⟨?_, ?_⟩
    ·
     refine ⟨_, rfl, rfl, by kernel_rfl, ?_⟩
     rintro D ⟨⟩ a z S F
     refine ⟨by kernel_rfl, ?_⟩
     exact op_field _ _ _ Ax (ii * 2) 0 F rfl (by kernel_rfl) (by kernel_rfl) (recs_some hX (m := ii) (get_lt hz)) (⟨(), rfl, (SameB.refl _ _ rfl), S⟩)
    refine ⟨?_, ?_⟩
    ·
     refine ⟨_, rfl, rfl, by kernel_rfl, ?_⟩
     rintro D ⟨⟩ a z S F
     refine ⟨by kernel_rfl, ?_⟩
     exact op_ldk Ax (ii * 2) (strV ze.1) F rfl (cOld S 0 nvC_len hX rfl 0 hz rfl) (⟨(), rfl, (SameB.refl _ _ rfl), S⟩)
    refine ⟨?_, ?_⟩
    ·
     refine ⟨_, rfl, rfl, by kernel_rfl, ?_⟩
     rintro D ⟨⟩ a z S F
     refine ⟨by kernel_rfl, ?_⟩
     exact op_ldk (some ⟨b1, 0, none⟩) 0 (strV xn) F rfl (cBox S 1 rfl (j := 0) rfl) (⟨(), rfl, (SameB.refl _ _ rfl), S⟩)
    refine ⟨?_, ?_⟩
    ·
     refine ⟨_, rfl, rfl, by kernel_rfl, ?_⟩
     rintro D ⟨⟩ a z S F
     refine ⟨by kernel_rfl, ?_⟩
     exact op_sneq _ _ _ _ ze.1 xn true F rfl (by kernel_rfl) (by kernel_rfl) (by rw [beq_eq_false_iff_ne.2 (fun h9 => ht6 (by rw [h9]; exact List.le_refl _))]; rfl) (⟨(), rfl, (SameB.refl _ _ rfl), S⟩)
    trivial
   rintro ⟨⟩ a z F S
   have F := F.subk (l := [(0, .slice Ax X.length cx), (3, pt b1 0), (5, .slice Aq Y.length cq), (6, .bool false), (7, .int .i64 (ii : Nat)), (37, .bool true)])
   have S : Sat w z [rest w (· < w.heap.size), box b1 100 [strV xn, strV xv], row 100 2 (.slice Aq Y.length cq) Y.length (Y.flatMap nvC)] := S
   refine then_n ?_
   refine c_t F rfl ?_
   refine wp_region_list ?_
   refine l_pk 3 (fun L => (40, .int .i64 (ii : Nat)) :: (39, .slice Ax X.length cx) :: (38, .slice Aq Y.length cq) :: L) F fun a F => ?_
   refine l_do F rfl rfl (op_index _ 100 _ _ Ax X.length cx ii 2 .i64 F rfl (by kernel_rfl) (by kernel_rfl) (by kernel_rfl) (by kernel_rfl) (get_lt hz) (recs_some hX (m := ii) (get_lt hz)) (fun a F => ?_))
   refine l_do F rfl rfl (op_loadK _ _ Ax (ii * 2) [strV ze.1, strV ze.2] F rfl (by kernel_rfl) (by kernel_rfl) (by kernel_rfl) (by simp) (cOldK0 S 0 nvC_len hX rfl hz (by kernel_rfl)) (fun a F => ?_))
   refine l_do F rfl rfl (op_buildSlice S _ 1 _ 100 2 nvC ([((ze.1, ze.2) : NV)] : List NV) F rfl (by kernel_rfl) (by kernel_rfl) (by kernel_rfl) (by unfold maxLen; omega) fun b14 z S a F => ?_)
   refine l_do F rfl rfl (op_append S 2 _ _ _ 100 (.agg #[strV ([] : Bs), strV ([] : Bs)]) 2 32 Y ([((ze.1, ze.2) : NV)] : List NV) nvC (some ⟨b14, 0, none⟩) 1 F nvC_len (fun _ => rfl) rfl rfl (by kernel_rfl) (by kernel_rfl) rfl rfl rfl (by kernel_rfl) (by kernel_rfl) (row_none (S.rowOf (i := 3) rfl)) (src_row (S.rowOf (i := 3) rfl)) (by first | omega | (simp only [List.length_append, List.length_cons, List.length_nil]; omega)) fun A15 c16 z S a F => ?_)
   refine l_pk 1 (fun L => (5, .slice A15 ((Y ++ ([((ze.1, ze.2) : NV)] : List NV)).length) c16) :: L) F fun a F => ?_
   refine l_nil (inb_n ?_)
   refine then_n ?_
   refine wp_region_list ?_
   refine l_pk 1 (fun L => (12, .int .i64 (ii : Nat)) :: L) F fun a F => ?_
   refine l_do F rfl rfl (op_pk F (v0 := .int .i64 (IntKind.wrap .i64 ((ii : Nat) + 1))) (v := .int .i64 (ii + 1 : Nat)) (wrn_i64 (by omega) (by omega) (by omega)) fun a F => ?_)
   refine l_pk 1 (fun L => (7, .int .i64 (ii + 1 : Nat)) :: L) F fun a F => ?_
   refine l_then ?_
   have hyl2 : Y.length ≤ ii := by rw [(hpa.f rfl).1, List.length_take]; omega
   exact ⟨_, (by omega), (ii + 1), false, A15, c16, (Y ++ ([((ze.1, ze.2) : NV)] : List NV)), rfl, (by omega), (by rw [hsz]; exact putAt_lt hpa ht6), (by first | omega | (simp only [List.length_append, List.length_cons, List.length_nil]; omega)), F.subk, (S.pick [0, 1, 2] (by decide))⟩
  | true =>
   skip
   refine region_gx (fun D => fun (_ : Unit) => [rest w (· < w.heap.size), box b1 100 [strV xn, strV xv], row 100 2 (.slice Aq Y.length cq) Y.length (Y.flatMap nvC)]) (fun (_ : Unit) => [.bool true, .bool false, .bool false, undef, undef, undef, undef, undef, undef, undef, undef, .bool false]) [] () rfl (by kernel_rfl) (by kernel_rfl) F S.drew ?_ ?_ ?_ ?_ ?_
   · rintro ⟨⟩; rfl
   · rintro ⟨⟩; kernel_rfl
   ·
    intro D D' x h
    cases x
    rfl
   · trivial
   rintro ⟨⟩ a z F S
   have F := F.subk (l := [(0, .slice Ax X.length cx), (3, pt b1 0), (5, .slice Aq Y.length cq), (6, .bool true), (7, .int .i64 (ii : Nat)), (25, .bool false)])
   have S : Sat w z [rest w (· < w.heap.size), box b1 100 [strV xn, strV xv], row 100 2 (.slice Aq Y.length cq) Y.length (Y.flatMap nvC)] := S
   refine then_n ?_
   refine c_f F rfl ?_
   refine wp_skip ?_
   refine then_n ?_
   refine wp_seq ?_
   refine region_gx (fun D => fun (_ : Unit) => [rest w (· < w.heap.size), box b1 100 [strV xn, strV xv], row 100 2 (.slice Aq Y.length cq) Y.length (Y.flatMap nvC)]) (fun (_ : Unit) => [.slice Ax X.length cx, .int .i64 (ii : Nat), ptrA Ax (ii * 2), ptrA Ax (ii * 2), strV ze.1, pt b1 0, strV xn, .bool true]) [(2, [], [3, 4, 7]), (3, [2], [4, 7]), (4, [2, 3], [7]), (6, [], [7]), (7, [2, 3, 4, 6], [])] () rfl (by kernel_rfl) (by kernel_rfl) F S.drew ?_ ?_ ?_ ?_ ?_
   · rintro ⟨⟩; rfl
   · rintro ⟨⟩; kernel_rfl
   ·
    intro D D' x h
    cases x
    rfl
   ·
    refine ⟨?_, ?_⟩
    ·
     refine ⟨_, rfl, rfl, by kernel_rfl, ?_⟩
     rintro D ⟨⟩ a z S F
     refine ⟨by kernel_rfl, ?_⟩
     exact op_index _ 100 _ _ Ax X.length cx ii 2 .i64 F rfl (by kernel_rfl) (by kernel_rfl) (by kernel_rfl) (by kernel_rfl) (get_lt hz) (recs_some hX (m := ii) (get_lt hz)) (⟨(), rfl, (SameB.refl _ _ rfl), S⟩)
    refine ⟨?_, ?_⟩
    ·
     refine ⟨_, rfl, rfl, by kernel_rfl, ?_⟩
     rintro D ⟨⟩ a z S F
     refine ⟨by kernel_rfl, ?_⟩
     exact op_field _ _ _ Ax (ii * 2) 0 F rfl (by kernel_rfl) (by kernel_rfl) (recs_some hX (m := ii) (get_lt hz)) (⟨(), rfl, (SameB.refl _ _ rfl), S⟩)
    refine ⟨?_, ?_⟩
    ·
     refine ⟨_, rfl, rfl, by kernel_rfl, ?_⟩
     rintro D ⟨⟩ a z S F
     refine ⟨by kernel_rfl, ?_⟩
     exact op_ldk Ax (ii * 2) (strV ze.1) F rfl (cOld S 0 nvC_len hX rfl 0 hz rfl) (⟨(), rfl, (SameB.refl _ _ rfl), S⟩)
    refine ⟨?_, ?_⟩
    ·
     refine ⟨_, rfl, rfl, by kernel_rfl, ?_⟩
     rintro D ⟨⟩ a z S F
     refine ⟨by kernel_rfl, ?_⟩
     exact op_ldk (some ⟨b1, 0, none⟩) 0 (strV xn) F rfl (cBox S 1 rfl (j := 0) rfl) (⟨(), rfl, (SameB.refl _ _ rfl), S⟩)
    refine ⟨?_, ?_⟩
    ·
     refine ⟨_, rfl, rfl, by kernel_rfl, ?_⟩
     rintro D ⟨⟩ a z S F
     refine ⟨by kernel_rfl, ?_⟩
     exact op_sneq _ _ _ _ ze.1 xn true F rfl (by kernel_rfl) (by kernel_rfl) (by rw [beq_eq_false_iff_ne.2 (bs_ne_of_lt (putAt_more hpa hrz).1).symm]; rfl) (⟨(), rfl, (SameB.refl _ _ rfl), S⟩)
    trivial
   rintro ⟨⟩ a z F S
   have F := F.subk (l := [(0, .slice Ax X.length cx), (3, pt b1 0), (5, .slice Aq Y.length cq), (6, .bool true), (7, .int .i64 (ii : Nat)), (37, .bool true)])
   have S : Sat w z [rest w (· < w.heap.size), box b1 100 [strV xn, strV xv], row 100 2 (.slice Aq Y.length cq) Y.length (Y.flatMap nvC)] := S
   refine then_n ?_
   refine c_t F rfl ?_
   refine wp_region_list ?_
   refine l_pk 3 (fun L => (40, .int .i64 (ii : Nat)) :: (39, .slice Ax X.length cx) :: (38, .slice Aq Y.length cq) :: L) F fun a F => ?_
   refine l_do F rfl rfl (op_index _ 100 _ _ Ax X.length cx ii 2 .i64 F rfl (by kernel_rfl) (by kernel_rfl) (by kernel_rfl) (by kernel_rfl) (get_lt hz) (recs_some hX (m := ii) (get_lt hz)) (fun a F => ?_))
   refine l_do F rfl rfl (op_loadK _ _ Ax (ii * 2) [strV ze.1, strV ze.2] F rfl (by kernel_rfl) (by kernel_rfl) (by kernel_rfl) (by simp) (cOldK0 S 0 nvC_len hX rfl hz (by kernel_rfl)) (fun a F => ?_))
   refine l_do F rfl rfl (op_buildSlice S _ 1 _ 100 2 nvC ([((ze.1, ze.2) : NV)] : List NV) F rfl (by kernel_rfl) (by kernel_rfl) (by kernel_rfl) (by unfold maxLen; omega) fun b17 z S a F => ?_)
   refine l_do F rfl rfl (op_append S 2 _ _ _ 100 (.agg #[strV ([] : Bs), strV ([] : Bs)]) 2 32 Y ([((ze.1, ze.2) : NV)] : List NV) nvC (some ⟨b17, 0, none⟩) 1 F nvC_len (fun _ => rfl) rfl rfl (by kernel_rfl) (by kernel_rfl) rfl rfl rfl (by kernel_rfl) (by kernel_rfl) (row_none (S.rowOf (i := 3) rfl)) (src_row (S.rowOf (i := 3) rfl)) (by first | omega | (simp only [List.length_append, List.length_cons, List.length_nil]; omega)) fun A18 c19 z S a F => ?_)
   refine l_pk 1 (fun L => (5, .slice A18 ((Y ++ ([((ze.1, ze.2) : NV)] : List NV)).length) c19) :: L) F fun a F => ?_
   refine l_nil (inb_n ?_)
   refine then_n ?_
   refine wp_region_list ?_
   refine l_pk 1 (fun L => (12, .int .i64 (ii : Nat)) :: L) F fun a F => ?_
   refine l_do F rfl rfl (op_pk F (v0 := .int .i64 (IntKind.wrap .i64 ((ii : Nat) + 1))) (v := .int .i64 (ii + 1 : Nat)) (wrn_i64 (by omega) (by omega) (by omega)) fun a F => ?_)
   refine l_pk 1 (fun L => (7, .int .i64 (ii + 1 : Nat)) :: L) F fun a F => ?_
   refine l_then ?_
   exact ⟨_, (by omega), (ii + 1), true, A18, c19, (Y ++ ([((ze.1, ze.2) : NV)] : List NV)), rfl, (by omega), (by rw [hsz]; exact (putAt_more hpa hrz).2), (by first | omega | (simp only [List.length_append, List.length_cons, List.length_nil]; omega)), F.subk, (S.pick [0, 1, 2] (by decide))⟩
 have hie : X.take ii = X := List.take_of_length_le (by omega)
 rw [hie] at hpa
 refine l_do F rfl rfl (op_pk F (v0 := .bool (decide (((ii : Nat) : Int) < ((X.length : Nat) : Int)))) (v := .bool false) (lssF ht5) fun a F => ?_)
 refine l_then ?_
 refine c_f F rfl ?_
 refine wp_exit ?_
 refine then_x ?_
 refine then_x ?_
 refine inb_x ?_
 refine then_n ?_
 refine wp_seq ?_
 refine s_reg ?_
 refine l_pk 1 (fun L => (45, .bool dn) :: L) F fun a F => ?_
 cases dn with
 | false =>
  skip
  refine l_pk 1 (fun L => (46, .bool true) :: L) F fun a F => ?_
  refine l_then ?_
  refine c_t F rfl ?_
  refine wp_region_list ?_
  refine l_pk 1 (fun L => (47, .slice Aq Y.length cq) :: L) F fun a F => ?_
  refine l_do F rfl rfl (op_loadK _ _ (some ⟨b1, 0, none⟩) 0 [strV xn, strV xv] F rfl (by kernel_rfl) (by kernel_rfl) (by kernel_rfl) (by simp) (cBoxK S 1 rfl 0 (by kernel_rfl)) (fun a F => ?_))
  refine l_do F rfl rfl (op_buildSlice S _ 1 _ 100 2 nvC ([((xn, xv) : NV)] : List NV) F rfl (by kernel_rfl) (by kernel_rfl) (by kernel_rfl) (by unfold maxLen; omega) fun b20 z S a F => ?_)
  refine l_do F rfl rfl (op_append S 2 _ _ _ 100 (.agg #[strV ([] : Bs), strV ([] : Bs)]) 2 32 Y ([((xn, xv) : NV)] : List NV) nvC (some ⟨b20, 0, none⟩) 1 F nvC_len (fun _ => rfl) rfl rfl (by kernel_rfl) (by kernel_rfl) rfl rfl rfl (by kernel_rfl) (by kernel_rfl) (row_none (S.rowOf (i := 3) rfl)) (src_row (S.rowOf (i := 3) rfl)) (by first | omega | (simp only [List.length_append, List.length_cons, List.length_nil]; omega)) fun A21 c22 z S a F => ?_)
  refine l_pk 1 (fun L => (5, .slice A21 ((Y ++ ([((xn, xv) : NV)] : List NV)).length) c22) :: L) F fun a F => ?_
  refine l_then ?_
  refine s_reg ?_
  refine l_pk 2 (fun L => (4, .slice A21 ((Y ++ ([((xn, xv) : NV)] : List NV)).length) c22) :: (51, .slice A21 ((Y ++ ([((xn, xv) : NV)] : List NV)).length) c22) :: L) F fun a F => ?_
  refine l_then ?_
  refine wp_ret ?_
  obtain ⟨e7, e6⟩ := hpa.f rfl
  have e8 : (Y ++ ([((xn, xv) : NV)] : List NV)) = putN X (xn, xv) := by unfold putN; rw [(put_lo e6).1, (put_lo e6).2, e7]
  rw [e8] at S
  exact fin F [.tmp 4] [.slice A21 ((Y ++ ([((xn, xv) : NV)] : List NV)).length) c22] rfl ⟨by kernel_rfl, trivial⟩ (.slice A21 ((Y ++ ([((xn, xv) : NV)] : List NV)).length) c22) rfl ⟨A21, c22, by rw [← e8], S.pick [0, 2] (by decide)⟩
 | true =>
  skip
  refine l_pk 1 (fun L => (46, .bool false) :: L) F fun a F => ?_
  refine l_then ?_
  refine c_f F rfl ?_
  refine wp_skip ?_
  refine then_n ?_
  refine s_reg ?_
  refine l_pk 2 (fun L => (4, .slice Aq Y.length cq) :: (51, .slice Aq Y.length cq) :: L) F fun a F => ?_
  refine l_then ?_
  refine wp_ret ?_
  have e9 := hpa.t rfl
  have e8 := e9.1
  rw [e8] at S
  exact fin F [.tmp 4] [.slice Aq Y.length cq] rfl ⟨by kernel_rfl, trivial⟩ (.slice Aq Y.length cq) rfl ⟨Aq, cq, by rw [← e8], S.pick [0, 2] (by decide)⟩
set_option maxRecDepth 100000 in
set_option maxHeartbeats 4000000 in
theorem rdrop_any (w : World) (Ax : Option Addr) (cx : Nat) (X : List NV) (hX : Recs 2 nvC w Ax cx X) (hl : X.length ≤ 1000000) (nm : Bs) : Calls Try.prog 52 #[.slice Ax X.length cx, strV nm] w fun e w' => ∃ A' c', e = .returned (.slice A' (delN X nm).length c') ∧ Sat w w' [rest w (· < w.heap.size), row 100 2 (.slice A' (delN X nm).length c') (delN X nm).length ((delN X nm).flatMap nvC)] := by
 refine enter 28 Try.func52 rfl rfl rfl fun a F => ?_
 have S := Sat.pushRest w
 refine s_reg ?_
 refine l_pk 1 (fun L => (4, .slice none 0 0) :: L) F fun a F => ?_
 refine l_then ?_
 refine s_reg ?_
 refine l_pk 1 (fun L => (5, .slice none 0 0) :: L) F fun a F => ?_
 refine l_then ?_
 refine wp_seq ?_
 refine s_reg ?_
 refine l_pk 1 (fun L => (6, .int .i64 0) :: L) F fun a F => ?_
 refine l_then ?_
 refine wp_block ?_
 have S := S.nilRow 100 2
 refine wp_loop_m (fun m a z => ∃ (ii : Nat) (Aq : Option Addr) (cq : Nat) (Y : List NV), m = X.length - ii ∧ (ii ≤ X.length) ∧ (Y = delN (X.take ii) nm) ∧ (Y.length ≤ ii) ∧ Fr a 28 [(0, .slice Ax X.length cx), (1, strV nm), (5, .slice Aq Y.length cq), (6, .int .i64 (ii : Nat))] ∧ Sat w z [rest w (· < w.heap.size), row 100 2 (.slice Aq Y.length cq) Y.length (Y.flatMap nvC)]) _ ⟨0, none, 0, [], rfl, Nat.zero_le _, rfl, (by simp), F.subk, S⟩ ?_
 rintro m a z ⟨ii, Aq, cq, Y, hm, hf1, hf2, hf3, F, S⟩
 obtain ⟨hil, hpa, hyl⟩ := And.intro hf1 (And.intro hf2 hf3)
 refine wp_seq ?_
 refine s_reg ?_
 refine l_pk 3 (fun L => (9, .int .i64 (X.length : Nat)) :: (8, .slice Ax X.length cx) :: (7, .int .i64 (ii : Nat)) :: L) F fun a F => ?_
 by_cases ht4 : ((ii : Nat) : Int) < ((X.length : Nat) : Int)
 ·
  obtain ⟨ze, hz⟩ : ∃ ze, X[ii]? = some ze := ⟨_, List.getElem?_eq_getElem (by omega)⟩
  have hsz := take_snoc9 hz
  refine l_do F rfl rfl (op_pk F (v0 := .bool (decide (((ii : Nat) : Int) < ((X.length : Nat) : Int)))) (v := .bool true) (lssT ht4) fun a F => ?_)
  refine l_then ?_
  refine c_t F rfl ?_
  refine wp_skip ?_
  refine then_n ?_
  refine wp_seq ?_
  refine wp_block ?_
  refine s_reg ?_
  refine l_pk 2 (fun L => (14, .int .i64 (ii : Nat)) :: (13, .slice Ax X.length cx) :: L) F fun a F => ?_
  refine l_do F rfl rfl (op_index _ 100 _ _ Ax X.length cx ii 2 .i64 F rfl (by kernel_rfl) (by kernel_rfl) (by kernel_rfl) (by kernel_rfl) (get_lt hz) (recs_some hX (m := ii) (get_lt hz)) (fun a F => ?_))
  refine l_do F rfl rfl (op_field _ _ _ Ax (ii * 2) 0 F rfl (by kernel_rfl) (by kernel_rfl) (recs_some hX (m := ii) (get_lt hz)) (fun a F => ?_))
  refine l_do F rfl rfl (op_ldk Ax (ii * 2) (strV ze.1) F rfl (cOld S 0 nvC_len hX rfl 0 hz rfl) (fun a F => ?_))
  refine l_pk 1 (fun L => (18, strV nm) :: L) F fun a F => ?_
  by_cases ht5 : ze.1 = nm
  ·
   refine l_do F rfl rfl (op_sneq _ _ _ _ ze.1 nm false F rfl (by kernel_rfl) (by kernel_rfl) (by rw [beq_iff_eq.2 ht5]; rfl) (fun a F => ?_))
   refine l_then ?_
   refine c_f F rfl ?_
   refine wp_skip ?_
   refine inb_n ?_
   refine then_n ?_
   refine wp_region_list ?_
   refine l_pk 1 (fun L => (11, .int .i64 (ii : Nat)) :: L) F fun a F => ?_
   refine l_do F rfl rfl (op_pk F (v0 := .int .i64 (IntKind.wrap .i64 ((ii : Nat) + 1))) (v := .int .i64 (ii + 1 : Nat)) (wrn_i64 (by omega) (by omega) (by omega)) fun a F => ?_)
   refine l_pk 1 (fun L => (6, .int .i64 (ii + 1 : Nat)) :: L) F fun a F => ?_
   refine l_then ?_
   exact ⟨_, (by omega), (ii + 1), Aq, cq, Y, rfl, (by omega), (by rw [hsz, del_snoc, if_pos ht5, hpa]), (by first | omega | (simp only [List.length_append, List.length_cons, List.length_nil]; omega)), F.subk, S⟩
  refine l_do F rfl rfl (op_sneq _ _ _ _ ze.1 nm true F rfl (by kernel_rfl) (by kernel_rfl) (by rw [beq_eq_false_iff_ne.2 ht5]; rfl) (fun a F => ?_))
  refine l_then ?_
  refine c_t F rfl ?_
  refine wp_region_list ?_
  refine l_pk 3 (fun L => (22, .int .i64 (ii : Nat)) :: (21, .slice Ax X.length cx) :: (20, .slice Aq Y.length cq) :: L) F fun a F => ?_
  refine l_do F rfl rfl (op_index _ 100 _ _ Ax X.length cx ii 2 .i64 F rfl (by kernel_rfl) (by kernel_rfl) (by kernel_rfl) (by kernel_rfl) (get_lt hz) (recs_some hX (m := ii) (get_lt hz)) (fun a F => ?_))
  refine l_do F rfl rfl (op_loadK _ _ Ax (ii * 2) [strV ze.1, strV ze.2] F rfl (by kernel_rfl) (by kernel_rfl) (by kernel_rfl) (by simp) (cOldK0 S 0 nvC_len hX rfl hz (by kernel_rfl)) (fun a F => ?_))
  refine l_do F rfl rfl (op_buildSlice S _ 1 _ 100 2 nvC ([((ze.1, ze.2) : NV)] : List NV) F rfl (by kernel_rfl) (by kernel_rfl) (by kernel_rfl) (by unfold maxLen; omega) fun b6 z S a F => ?_)
  refine l_do F rfl rfl (op_append S 1 _ _ _ 100 (.agg #[strV ([] : Bs), strV ([] : Bs)]) 2 32 Y ([((ze.1, ze.2) : NV)] : List NV) nvC (some ⟨b6, 0, none⟩) 1 F nvC_len (fun _ => rfl) rfl rfl (by kernel_rfl) (by kernel_rfl) rfl rfl rfl (by kernel_rfl) (by kernel_rfl) (row_none (S.rowOf (i := 2) rfl)) (src_row (S.rowOf (i := 2) rfl)) (by first | omega | (simp only [List.length_append, List.length_cons, List.length_nil]; omega)) fun A7 c8 z S a F => ?_)
  refine l_pk 1 (fun L => (5, .slice A7 ((Y ++ ([((ze.1, ze.2) : NV)] : List NV)).length) c8) :: L) F fun a F => ?_
  refine l_nil (inb_n ?_)
  refine then_n ?_
  refine wp_region_list ?_
  refine l_pk 1 (fun L => (11, .int .i64 (ii : Nat)) :: L) F fun a F => ?_
  refine l_do F rfl rfl (op_pk F (v0 := .int .i64 (IntKind.wrap .i64 ((ii : Nat) + 1))) (v := .int .i64 (ii + 1 : Nat)) (wrn_i64 (by omega) (by omega) (by omega)) fun a F => ?_)
  refine l_pk 1 (fun L => (6, .int .i64 (ii + 1 : Nat)) :: L) F fun a F => ?_
  refine l_then ?_
  exact ⟨_, (by omega), (ii + 1), A7, c8, (Y ++ ([((ze.1, ze.2) : NV)] : List NV)), rfl, (by omega), (by rw [hsz, del_snoc, if_neg ht5, hpa]), (by first | omega | (simp only [List.length_append, List.length_cons, List.length_nil]; omega)), F.subk, (S.pick [0, 1] (by decide))⟩
 have hie : X.take ii = X := List.take_of_length_le (by omega)
 rw [hie] at hpa
 refine l_do F rfl rfl (op_pk F (v0 := .bool (decide (((ii : Nat) : Int) < ((X.length : Nat) : Int)))) (v := .bool false) (lssF ht4) fun a F => ?_)
 refine l_then ?_
 refine c_f F rfl ?_
 refine wp_exit ?_
 refine then_x ?_
 refine then_x ?_
 refine inb_x ?_
 refine then_n ?_
 refine s_reg ?_
 refine l_pk 2 (fun L => (4, .slice Aq Y.length cq) :: (27, .slice Aq Y.length cq) :: L) F fun a F => ?_
 refine l_then ?_
 refine wp_ret ?_
 rw [hpa] at S
 exact fin F [.tmp 4] [.slice Aq Y.length cq] rfl ⟨by kernel_rfl, trivial⟩ (.slice Aq Y.length cq) rfl ⟨Aq, cq, by rw [hpa], S.pick [0, 1] (by decide)⟩
set_option maxRecDepth 100000 in
set_option maxHeartbeats 4000000 in
theorem rfind_any (w : World) (Ax : Option Addr) (cx : Nat) (X : List NV) (hX : Recs 2 nvC w Ax cx X) (hl : X.length ≤ 1000000) (nm : Bs) : Calls Try.prog 51 #[.slice Ax X.length cx, strV nm] w fun e w' => e = .returned (.tuple #[strV ((getN X nm).getD []), .bool (getN X nm).isSome]) ∧ Below w.heap.size w w' := by
 refine enter 25 Try.func51 rfl rfl rfl fun a F => ?_
 have S := Sat.pushRest w
 refine s_reg ?_
 refine l_pk 2 (fun L => (5, .bool false) :: (4, strV ([] : Bs)) :: L) F fun a F => ?_
 refine l_then ?_
 refine wp_seq ?_
 refine s_reg ?_
 refine l_pk 1 (fun L => (6, .int .i64 0) :: L) F fun a F => ?_
 refine l_then ?_
 refine wp_block ?_
 refine wp_loop_m (fun m a z => ∃ (ii : Nat), m = X.length - ii ∧ (ii ≤ X.length) ∧ (∀ y ∈ X.take ii, ¬ y.1 = nm) ∧ Fr a 25 [(0, .slice Ax X.length cx), (1, strV nm), (4, strV ([] : Bs)), (5, .bool false), (6, .int .i64 (ii : Nat))] ∧ Sat w z [rest w (· < w.heap.size)]) _ ⟨0, rfl, Nat.zero_le _, nofun, F.subk, S⟩ ?_
 rintro m a z ⟨ii, hm, hf1, hf2, F, S⟩
 obtain ⟨hil, hpa⟩ := And.intro hf1 hf2
 refine wp_seq ?_
 refine s_reg ?_
 refine l_pk 3 (fun L => (9, .int .i64 (X.length : Nat)) :: (8, .slice Ax X.length cx) :: (7, .int .i64 (ii : Nat)) :: L) F fun a F => ?_
 by_cases ht3 : ((ii : Nat) : Int) < ((X.length : Nat) : Int)
 ·
  obtain ⟨ze, hz⟩ : ∃ ze, X[ii]? = some ze := ⟨_, List.getElem?_eq_getElem (by omega)⟩
  have hsz := take_snoc9 hz
  refine l_do F rfl rfl (op_pk F (v0 := .bool (decide (((ii : Nat) : Int) < ((X.length : Nat) : Int)))) (v := .bool true) (lssT ht3) fun a F => ?_)
  refine l_then ?_
  refine c_t F rfl ?_
  refine wp_skip ?_
  refine then_n ?_
  refine wp_seq ?_
  refine wp_block ?_
  refine s_reg ?_
  refine l_pk 2 (fun L => (14, .int .i64 (ii : Nat)) :: (13, .slice Ax X.length cx) :: L) F fun a F => ?_
  refine l_do F rfl rfl (op_index _ 100 _ _ Ax X.length cx ii 2 .i64 F rfl (by kernel_rfl) (by kernel_rfl) (by kernel_rfl) (by kernel_rfl) (get_lt hz) (recs_some hX (m := ii) (get_lt hz)) (fun a F => ?_))
  refine l_do F rfl rfl (op_field _ _ _ Ax (ii * 2) 0 F rfl (by kernel_rfl) (by kernel_rfl) (recs_some hX (m := ii) (get_lt hz)) (fun a F => ?_))
  refine l_do F rfl rfl (op_ldk Ax (ii * 2) (strV ze.1) F rfl (cOld S 0 nvC_len hX rfl 0 hz rfl) (fun a F => ?_))
  refine l_pk 1 (fun L => (18, strV nm) :: L) F fun a F => ?_
  by_cases ht4 : ze.1 = nm
  ·
   refine l_do F rfl rfl (op_seql _ _ _ _ ze.1 nm true F rfl (by kernel_rfl) (by kernel_rfl) (beq_iff_eq.2 ht4) (fun a F => ?_))
   refine l_then ?_
   refine c_t F rfl ?_
   refine s_reg ?_
   refine l_pk 2 (fun L => (21, .int .i64 (ii : Nat)) :: (20, .slice Ax X.length cx) :: L) F fun a F => ?_
   refine l_do F rfl rfl (op_index _ 100 _ _ Ax X.length cx ii 2 .i64 F rfl (by kernel_rfl) (by kernel_rfl) (by kernel_rfl) (by kernel_rfl) (get_lt hz) (recs_some hX (m := ii) (get_lt hz)) (fun a F => ?_))
   refine l_do F rfl rfl (op_field _ _ _ Ax (ii * 2) 1 F rfl (by kernel_rfl) (by kernel_rfl) (recs_some hX (m := ii) (get_lt hz)) (fun a F => ?_))
   refine l_do F rfl rfl (op_ldk Ax (ii * 2 + 1) (strV ze.2) F rfl (cOld S 0 nvC_len hX rfl 1 hz rfl) (fun a F => ?_))
   refine l_pk 2 (fun L => (5, .bool true) :: (4, strV ze.2) :: L) F fun a F => ?_
   refine l_then ?_
   refine wp_ret ?_
   refine inb_r (then_r (then_r (inb_r (then_r (?_)))))
   exact fin F [.tmp 4, .tmp 5] [strV ze.2, .bool true] rfl ⟨by kernel_rfl, by kernel_rfl, trivial⟩ (.tuple #[strV ze.2, .bool true]) rfl ⟨by rw [get_here hpa hz ht4]; rfl, S.below (i := 0) rfl⟩
  refine l_do F rfl rfl (op_seql _ _ _ _ ze.1 nm false F rfl (by kernel_rfl) (by kernel_rfl) (beq_eq_false_iff_ne.2 ht4) (fun a F => ?_))
  refine l_then ?_
  refine c_f F rfl ?_
  refine wp_skip ?_
  refine inb_n ?_
  refine then_n ?_
  refine wp_region_list ?_
  refine l_pk 1 (fun L => (11, .int .i64 (ii : Nat)) :: L) F fun a F => ?_
  refine l_do F rfl rfl (op_pk F (v0 := .int .i64 (IntKind.wrap .i64 ((ii : Nat) + 1))) (v := .int .i64 (ii + 1 : Nat)) (wrn_i64 (by omega) (by omega) (by omega)) fun a F => ?_)
  refine l_pk 1 (fun L => (6, .int .i64 (ii + 1 : Nat)) :: L) F fun a F => ?_
  refine l_then ?_
  exact ⟨_, (by omega), (ii + 1), rfl, (by omega), (by rw [hsz]; intro y hy; rcases List.mem_append.1 hy with hy | hy; exact hpa y hy; (simp at hy; subst hy; exact ht4)), F.subk, S⟩
 have hie : X.take ii = X := List.take_of_length_le (by omega)
 rw [hie] at hpa
 refine l_do F rfl rfl (op_pk F (v0 := .bool (decide (((ii : Nat) : Int) < ((X.length : Nat) : Int)))) (v := .bool false) (lssF ht3) fun a F => ?_)
 refine l_then ?_
 refine c_f F rfl ?_
 refine wp_exit ?_
 refine then_x ?_
 refine then_x ?_
 refine inb_x ?_
 refine then_n ?_
 refine s_reg ?_
 refine l_pk 2 (fun L => (5, .bool false) :: (4, strV ([] : Bs)) :: L) F fun a F => ?_
 refine l_then ?_
 refine wp_ret ?_
 exact fin F [.tmp 4, .tmp 5] [strV ([] : Bs), .bool false] rfl ⟨by kernel_rfl, by kernel_rfl, trivial⟩ (.tuple #[strV ([] : Bs), .bool false]) rfl ⟨by rw [get_nowhere hpa]; rfl, S.below (i := 0) rfl⟩
end Go.Proofs.Ytidcdfilfccigaa
