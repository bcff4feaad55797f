/- Walks over the program's octets: numbers laid. -/
import Derived.Test.YtidcdfilfccigaaEnd
import Derived.Test.YtidcdfilfccigaaGsmap
import Derived.Test.YtidcdfilfccigaaGc
import Derived.Test.YtidcdfilfccigaaGf
import Derived.Test.YtidcdfilfccigaaGk
namespace Go.Proofs.Ytidcdfilfccigaa
set_option linter.unusedVariables false
set_option linter.unusedSimpArgs false
set_option linter.unnecessarySimpa false
open Go Go.RowKit

/-- A number of four bytes, the highest first. -/
def be4 (v : Nat) : Bs := [UInt8.ofNat (v / 2 ^ 24), UInt8.ofNat (v / 2 ^ 16), UInt8.ofNat (v / 2 ^ 8), UInt8.ofNat (v / 2 ^ 0)]
def nC (x : Nat) : List Value := [.int .u32 (x : Nat)]
theorem nC_len (x : Nat) : (nC x).length = 1 := rfl
theorem be4_len (v : Nat) : (be4 v).length = 4 := rfl
set_option maxRecDepth 100000 in
set_option maxHeartbeats 4000000 in
theorem onum_any (w : World) (G : Nat → Prop) (Ao : Option Addr) (co : Nat) (X : Bs) (hl : X.length ≤ 1000000) (hS : Sat w w [row 5 1 (.slice Ao X.length co) X.length (X.flatMap yC), rest w G]) (v : Nat) (hv : v < 4294967296) : Calls Try.prog 65 #[.slice Ao X.length co, .int .u64 (v : Nat), .int .i64 4] w fun e w' => ∃ A' c', e = .returned (.slice A' (X ++ be4 v).length c') ∧ Sat w w' [row 5 1 (.slice A' (X ++ be4 v).length c') (X ++ be4 v).length ((X ++ be4 v).flatMap yC), rest w G] := by
 refine enter 23 Try.func65 rfl rfl rfl fun a F => ?_
 have S : Sat w w [rest w G, row 5 1 (.slice Ao X.length co) X.length (X.flatMap yC)] := hS.pick [1, 0] (by decide)
 refine s_reg ?_
 refine l_pk 1 (fun L => (6, .slice none 0 0) :: L) F fun a F => ?_
 refine l_then ?_
 refine wp_seq ?_
 refine s_reg ?_
 refine l_pk 3 (fun L => (7, .int .i64 3) :: (9, .int .i64 3) :: (8, .int .i64 4) :: L) F fun a F => ?_
 refine l_then ?_
 refine wp_block ?_
 refine wp_loop_rounds 5 (rnd ?_)
 refine wp_seq ?_
 refine s_reg ?_
 refine l_pk 2 (fun L => (11, .bool true) :: (10, .int .i64 3) :: L) F fun a F => ?_
 refine l_then ?_
 refine c_t F rfl ?_
 refine wp_skip ?_
 refine then_n ?_
 refine wp_seq ?_
 refine wp_block ?_
 refine wp_region_list ?_
 refine l_pk 4 (fun L => (17, .int .i64 24) :: (16, .int .i64 3) :: (15, .int .u64 (v : Nat)) :: (14, .slice Ao X.length co) :: L) F fun a F => ?_
 refine l_do F rfl rfl (op_shr _ _ _ _ .u64 .i64 v 24 F rfl (by kernel_rfl) (by kernel_rfl) (by decide) (fun a F => ?_))
 refine l_do F rfl rfl (op_pk F (v0 := .int .u8 (IntKind.wrap .u8 (v / 2 ^ 24 : Nat))) (v := .int .u8 ((UInt8.ofNat (v / 2 ^ 24)).toNat : Nat)) (congrArg (Value.int .u8) (byte_wrap _)) fun a F => ?_)
 refine l_do F rfl rfl (op_buildSlice S _ 1 _ 5 1 yC ([(UInt8.ofNat (v / 2 ^ 24))] : List UInt8) F rfl (by kernel_rfl) (by kernel_rfl) (by kernel_rfl) (by unfold maxLen; omega) fun b1 z S a F => ?_)
 refine l_do F rfl rfl (op_append S 1 _ _ _ 5 (.int .u8 0) 1 1 X ([(UInt8.ofNat (v / 2 ^ 24))] : List UInt8) yC (some ⟨b1, 0, none⟩) 1 F yC_len (fun _ => rfl) rfl rfl (by kernel_rfl) (by kernel_rfl) rfl rfl rfl (by kernel_rfl) (by kernel_rfl) (row_none (S.rowOf (i := 2) rfl)) (src_row (S.rowOf (i := 2) rfl)) (by first | omega | (simp <;> omega)) fun A2 c3 z S a F => ?_)
 refine l_pk 1 (fun L => (0, .slice A2 ((X ++ ([(UInt8.ofNat (v / 2 ^ 24))] : List UInt8)).length) c3) :: L) F fun a F => ?_
 refine l_nil (inb_n ?_)
 refine then_n ?_
 refine wp_region_list ?_
 refine l_pk 3 (fun L => (7, .int .i64 2) :: (13, .int .i64 2) :: (12, .int .i64 3) :: L) F fun a F => ?_
 refine l_then ?_
 refine rnd ?_
 refine wp_seq ?_
 refine s_reg ?_
 refine l_pk 2 (fun L => (11, .bool true) :: (10, .int .i64 2) :: L) F fun a F => ?_
 refine l_then ?_
 refine c_t F rfl ?_
 refine wp_skip ?_
 refine then_n ?_
 refine wp_seq ?_
 refine wp_block ?_
 refine wp_region_list ?_
 refine l_pk 4 (fun L => (17, .int .i64 16) :: (16, .int .i64 2) :: (15, .int .u64 (v : Nat)) :: (14, .slice A2 ((X ++ ([(UInt8.ofNat (v / 2 ^ 24))] : List UInt8)).length) c3) :: L) F fun a F => ?_
 refine l_do F rfl rfl (op_shr _ _ _ _ .u64 .i64 v 16 F rfl (by kernel_rfl) (by kernel_rfl) (by decide) (fun a F => ?_))
 refine l_do F rfl rfl (op_pk F (v0 := .int .u8 (IntKind.wrap .u8 (v / 2 ^ 16 : Nat))) (v := .int .u8 ((UInt8.ofNat (v / 2 ^ 16)).toNat : Nat)) (congrArg (Value.int .u8) (byte_wrap _)) fun a F => ?_)
 refine l_do F rfl rfl (op_buildSlice S _ 1 _ 5 1 yC ([(UInt8.ofNat (v / 2 ^ 16))] : List UInt8) F rfl (by kernel_rfl) (by kernel_rfl) (by kernel_rfl) (by unfold maxLen; omega) fun b4 z S a F => ?_)
 refine l_do F rfl rfl (op_append S 1 _ _ _ 5 (.int .u8 0) 1 1 (X ++ ([(UInt8.ofNat (v / 2 ^ 24))] : List UInt8)) ([(UInt8.ofNat (v / 2 ^ 16))] : List UInt8) yC (some ⟨b4, 0, none⟩) 1 F yC_len (fun _ => rfl) rfl rfl (by kernel_rfl) (by kernel_rfl) rfl rfl rfl (by kernel_rfl) (by kernel_rfl) (row_none (S.rowOf (i := 3) rfl)) (src_row (S.rowOf (i := 3) rfl)) (by first | omega | (simp <;> omega)) fun A5 c6 z S a F => ?_)
 refine l_pk 1 (fun L => (0, .slice A5 (((X ++ ([(UInt8.ofNat (v / 2 ^ 24))] : List UInt8)) ++ ([(UInt8.ofNat (v / 2 ^ 16))] : List UInt8)).length) c6) :: L) F fun a F => ?_
 refine l_nil (inb_n ?_)
 refine then_n ?_
 refine wp_region_list ?_
 refine l_pk 3 (fun L => (7, .int .i64 1) :: (13, .int .i64 1) :: (12, .int .i64 2) :: L) F fun a F => ?_
 refine l_then ?_
 refine rnd ?_
 refine wp_seq ?_
 refine s_reg ?_
 refine l_pk 2 (fun L => (11, .bool true) :: (10, .int .i64 1) :: L) F fun a F => ?_
 refine l_then ?_
 refine c_t F rfl ?_
 refine wp_skip ?_
 refine then_n ?_
 refine wp_seq ?_
 refine wp_block ?_
 refine wp_region_list ?_
 refine l_pk 4 (fun L => (17, .int .i64 8) :: (16, .int .i64 1) :: (15, .int .u64 (v : Nat)) :: (14, .slice A5 (((X ++ ([(UInt8.ofNat (v / 2 ^ 24))] : List UInt8)) ++ ([(UInt8.ofNat (v / 2 ^ 16))] : List UInt8)).length) c6) :: L) F fun a F => ?_
 refine l_do F rfl rfl (op_shr _ _ _ _ .u64 .i64 v 8 F rfl (by kernel_rfl) (by kernel_rfl) (by decide) (fun a F => ?_))
 refine l_do F rfl rfl (op_pk F (v0 := .int .u8 (IntKind.wrap .u8 (v / 2 ^ 8 : Nat))) (v := .int .u8 ((UInt8.ofNat (v / 2 ^ 8)).toNat : Nat)) (congrArg (Value.int .u8) (byte_wrap _)) fun a F => ?_)
 refine l_do F rfl rfl (op_buildSlice S _ 1 _ 5 1 yC ([(UInt8.ofNat (v / 2 ^ 8))] : List UInt8) F rfl (by kernel_rfl) (by kernel_rfl) (by kernel_rfl) (by unfold maxLen; omega) fun b7 z S a F => ?_)
 refine l_do F rfl rfl (op_append S 1 _ _ _ 5 (.int .u8 0) 1 1 ((X ++ ([(UInt8.ofNat (v / 2 ^ 24))] : List UInt8)) ++ ([(UInt8.ofNat (v / 2 ^ 16))] : List UInt8)) ([(UInt8.ofNat (v / 2 ^ 8))] : List UInt8) yC (some ⟨b7, 0, none⟩) 1 F yC_len (fun _ => rfl) rfl rfl (by kernel_rfl) (by kernel_rfl) rfl rfl rfl (by kernel_rfl) (by kernel_rfl) (row_none (S.rowOf (i := 4) rfl)) (src_row (S.rowOf (i := 4) rfl)) (by first | omega | (simp <;> omega)) fun A8 c9 z S a F => ?_)
 refine l_pk 1 (fun L => (0, .slice A8 ((((X ++ ([(UInt8.ofNat (v / 2 ^ 24))] : List UInt8)) ++ ([(UInt8.ofNat (v / 2 ^ 16))] : List UInt8)) ++ ([(UInt8.ofNat (v / 2 ^ 8))] : List UInt8)).length) c9) :: L) F fun a F => ?_
 refine l_nil (inb_n ?_)
 refine then_n ?_
 refine wp_region_list ?_
 refine l_pk 3 (fun L => (7, .int .i64 0) :: (13, .int .i64 0) :: (12, .int .i64 1) :: L) F fun a F => ?_
 refine l_then ?_
 refine rnd ?_
 refine wp_seq ?_
 refine s_reg ?_
 refine l_pk 2 (fun L => (11, .bool true) :: (10, .int .i64 0) :: L) F fun a F => ?_
 refine l_then ?_
 refine c_t F rfl ?_
 refine wp_skip ?_
 refine then_n ?_
 refine wp_seq ?_
 refine wp_block ?_
 refine wp_region_list ?_
 refine l_pk 4 (fun L => (17, .int .i64 0) :: (16, .int .i64 0) :: (15, .int .u64 (v : Nat)) :: (14, .slice A8 ((((X ++ ([(UInt8.ofNat (v / 2 ^ 24))] : List UInt8)) ++ ([(UInt8.ofNat (v / 2 ^ 16))] : List UInt8)) ++ ([(UInt8.ofNat (v / 2 ^ 8))] : List UInt8)).length) c9) :: L) F fun a F => ?_
 refine l_do F rfl rfl (op_shr _ _ _ _ .u64 .i64 v 0 F rfl (by kernel_rfl) (by kernel_rfl) (by decide) (fun a F => ?_))
 refine l_do F rfl rfl (op_pk F (v0 := .int .u8 (IntKind.wrap .u8 (v / 2 ^ 0 : Nat))) (v := .int .u8 ((UInt8.ofNat (v / 2 ^ 0)).toNat : Nat)) (congrArg (Value.int .u8) (byte_wrap _)) fun a F => ?_)
 refine l_do F rfl rfl (op_buildSlice S _ 1 _ 5 1 yC ([(UInt8.ofNat (v / 2 ^ 0))] : List UInt8) F rfl (by kernel_rfl) (by kernel_rfl) (by kernel_rfl) (by unfold maxLen; omega) fun b10 z S a F => ?_)
 refine l_do F rfl rfl (op_append S 1 _ _ _ 5 (.int .u8 0) 1 1 (((X ++ ([(UInt8.ofNat (v / 2 ^ 24))] : List UInt8)) ++ ([(UInt8.ofNat (v / 2 ^ 16))] : List UInt8)) ++ ([(UInt8.ofNat (v / 2 ^ 8))] : List UInt8)) ([(UInt8.ofNat (v / 2 ^ 0))] : List UInt8) yC (some ⟨b10, 0, none⟩) 1 F yC_len (fun _ => rfl) rfl rfl (by kernel_rfl) (by kernel_rfl) rfl rfl rfl (by kernel_rfl) (by kernel_rfl) (row_none (S.rowOf (i := 5) rfl)) (src_row (S.rowOf (i := 5) rfl)) (by first | omega | (simp <;> omega)) fun A11 c12 z S a F => ?_)
 refine l_pk 1 (fun L => (0, .slice A11 (((((X ++ ([(UInt8.ofNat (v / 2 ^ 24))] : List UInt8)) ++ ([(UInt8.ofNat (v / 2 ^ 16))] : List UInt8)) ++ ([(UInt8.ofNat (v / 2 ^ 8))] : List UInt8)) ++ ([(UInt8.ofNat (v / 2 ^ 0))] : List UInt8)).length) c12) :: L) F fun a F => ?_
 refine l_nil (inb_n ?_)
 refine then_n ?_
 refine wp_region_list ?_
 refine l_pk 3 (fun L => (7, .int .i64 (-1)) :: (13, .int .i64 (-1)) :: (12, .int .i64 0) :: L) F fun a F => ?_
 refine l_then ?_
 refine rnd ?_
 refine wp_seq ?_
 refine s_reg ?_
 refine l_pk 2 (fun L => (11, .bool false) :: (10, .int .i64 (-1)) :: L) F fun a F => ?_
 refine l_then ?_
 refine c_f F rfl ?_
 refine wp_exit ?_
 refine then_x ?_
 refine then_x ?_
 refine inb_x ?_
 refine then_n ?_
 refine s_reg ?_
 refine l_pk 2 (fun L => (6, .slice A11 (((((X ++ ([(UInt8.ofNat (v / 2 ^ 24))] : List UInt8)) ++ ([(UInt8.ofNat (v / 2 ^ 16))] : List UInt8)) ++ ([(UInt8.ofNat (v / 2 ^ 8))] : List UInt8)) ++ ([(UInt8.ofNat (v / 2 ^ 0))] : List UInt8)).length) c12) :: (22, .slice A11 (((((X ++ ([(UInt8.ofNat (v / 2 ^ 24))] : List UInt8)) ++ ([(UInt8.ofNat (v / 2 ^ 16))] : List UInt8)) ++ ([(UInt8.ofNat (v / 2 ^ 8))] : List UInt8)) ++ ([(UInt8.ofNat (v / 2 ^ 0))] : List UInt8)).length) c12) :: L) F fun a F => ?_
 refine l_then ?_
 refine wp_ret ?_
 exact fin F [.tmp 6] [.slice A11 (((((X ++ ([(UInt8.ofNat (v / 2 ^ 24))] : List UInt8)) ++ ([(UInt8.ofNat (v / 2 ^ 16))] : List UInt8)) ++ ([(UInt8.ofNat (v / 2 ^ 8))] : List UInt8)) ++ ([(UInt8.ofNat (v / 2 ^ 0))] : List UInt8)).length) c12] rfl ⟨by kernel_rfl, trivial⟩ (.slice A11 (((((X ++ ([(UInt8.ofNat (v / 2 ^ 24))] : List UInt8)) ++ ([(UInt8.ofNat (v / 2 ^ 16))] : List UInt8)) ++ ([(UInt8.ofNat (v / 2 ^ 8))] : List UInt8)) ++ ([(UInt8.ofNat (v / 2 ^ 0))] : List UInt8)).length) c12) rfl ⟨A11, c12, by rw [show X ++ be4 v = ((((X ++ ([(UInt8.ofNat (v / 2 ^ 24))] : List UInt8)) ++ ([(UInt8.ofNat (v / 2 ^ 16))] : List UInt8)) ++ ([(UInt8.ofNat (v / 2 ^ 8))] : List UInt8)) ++ ([(UInt8.ofNat (v / 2 ^ 0))] : List UInt8)) from by simp [be4]], by rw [show X ++ be4 v = ((((X ++ ([(UInt8.ofNat (v / 2 ^ 24))] : List UInt8)) ++ ([(UInt8.ofNat (v / 2 ^ 16))] : List UInt8)) ++ ([(UInt8.ofNat (v / 2 ^ 8))] : List UInt8)) ++ ([(UInt8.ofNat (v / 2 ^ 0))] : List UInt8)) from by simp [be4]]; exact S.pick [1, 0] (by decide)⟩
set_option maxRecDepth 100000 in
set_option maxHeartbeats 4000000 in
theorem ofour_any (w : World) (G : Nat → Prop) (Ao : Option Addr) (co : Nat) (X : Bs) (hl : X.length ≤ 1000000) (Al : Option Addr) (cl : Nat) (v : Nat) (hv : v < 4294967296) (hS : Sat w w [row 5 1 (.slice Ao X.length co) X.length (X.flatMap yC), row 30 1 (.slice Al 1 cl) 1 ([v].flatMap nC), rest w G]) : Calls Try.prog 38 #[.slice Ao X.length co, .slice Al 1 cl] w fun e w' => ∃ A' c', e = .returned (.slice A' (X ++ be4 v).length c') ∧ Sat w w' [row 5 1 (.slice A' (X ++ be4 v).length c') (X ++ be4 v).length ((X ++ be4 v).flatMap yC), row 30 1 (.slice Al 1 cl) 1 ([v].flatMap nC), rest w G] := by
 refine enter 19 Try.func38 rfl rfl rfl fun a F => ?_
 have S : Sat w w [rest w G, row 5 1 (.slice Ao X.length co) X.length (X.flatMap yC), row 30 1 (.slice Al 1 cl) 1 ([v].flatMap nC)] := hS.pick [2, 0, 1] (by decide)
 refine s_reg ?_
 refine l_pk 1 (fun L => (4, .slice none 0 0) :: L) F fun a F => ?_
 refine l_then ?_
 refine wp_seq ?_
 refine s_reg ?_
 refine l_pk 3 (fun L => (9, .int .i64 0) :: (8, .int .i64 1) :: (7, .slice Al 1 cl) :: L) F fun a F => ?_
 refine l_then ?_
 refine wp_block ?_
 refine wp_loop_rounds 2 (rnd ?_)
 refine s_reg ?_
 refine l_pk 1 (fun L => (10, .bool true) :: L) F fun a F => ?_
 refine l_then ?_
 refine wp_seq ?_
 refine c_t F rfl ?_
 refine wp_skip ?_
 refine then_n ?_
 refine wp_seq ?_
 refine wp_block ?_
 refine s_reg ?_
 refine l_do F rfl rfl (op_index _ 30 _ _ Al 1 cl 0 1 .i64 F rfl (by kernel_rfl) (by kernel_rfl) (by kernel_rfl) (by kernel_rfl) (by omega) (row_some S 2 rfl (m := 0) (by omega)) (fun a F => ?_))
 refine l_do F rfl rfl (op_ldk Al (0 * 1) (.int .u32 (v : Nat)) F rfl (cRec S 2 nC_len rfl 0 (show ([v] : List Nat)[0]? = some v from rfl) rfl) (fun a F => ?_))
 refine l_pk 1 (fun L => (6, .int .u32 (v : Nat)) :: L) F fun a F => ?_
 refine l_then ?_
 refine wp_region_list ?_
 refine l_pk 2 (fun L => (14, .int .u32 (v : Nat)) :: (13, .slice Ao X.length co) :: L) F fun a F => ?_
 refine l_do F rfl rfl (op_pk F (v0 := .int .u64 (IntKind.wrap .u64 (v : Nat))) (v := .int .u64 (v : Nat)) (wr_u64 (by omega) (by omega)) fun a F => ?_)
 obtain ⟨G9, g9, hin9, hlt9, k9⟩ := S.frameB [1] (by decide) rfl
 refine l_do F rfl rfl (op_fn F (by kernel_rfl) (onum_any _ G9 Ao co X hl g9 v hv) ?_)
 rintro e z9 ⟨An, cn, rfl, g⟩
 have S : Sat w z9 [rest w G, row 5 1 (.slice An ((X ++ be4 v).length) cn) ((X ++ be4 v).length) ((X ++ be4 v).flatMap yC), row 30 1 (.slice Al 1 cl) 1 ([v].flatMap nC)] := k9 z9 [row 5 1 (.slice An ((X ++ be4 v).length) cn) ((X ++ be4 v).length) ((X ++ be4 v).flatMap yC)] rfl g
 clear g g9 k9 hin9 hlt9
 refine ⟨_, rfl, ?_⟩
 intro a F
 refine l_pk 1 (fun L => (0, .slice An ((X ++ be4 v).length) cn) :: L) F fun a F => ?_
 refine l_nil (inb_n ?_)
 refine then_n ?_
 refine wp_region_list ?_
 refine l_pk 2 (fun L => (9, .int .i64 1) :: (17, .int .i64 1) :: L) F fun a F => ?_
 refine l_then ?_
 refine rnd ?_
 refine s_reg ?_
 refine l_pk 1 (fun L => (10, .bool false) :: L) F fun a F => ?_
 refine l_then ?_
 refine wp_seq ?_
 refine c_f F rfl ?_
 refine wp_exit ?_
 refine then_x ?_
 refine then_x ?_
 refine inb_x ?_
 refine then_n ?_
 refine s_reg ?_
 refine l_pk 2 (fun L => (4, .slice An ((X ++ be4 v).length) cn) :: (18, .slice An ((X ++ be4 v).length) cn) :: L) F fun a F => ?_
 refine l_then ?_
 refine wp_ret ?_
 exact fin F [.tmp 4] [.slice An ((X ++ be4 v).length) cn] rfl ⟨by kernel_rfl, trivial⟩ (.slice An ((X ++ be4 v).length) cn) rfl ⟨An, cn, rfl, S.pick [1, 2, 0] (by decide)⟩
end Go.Proofs.Ytidcdfilfccigaa
