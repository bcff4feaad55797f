/- Walks over the program's logbook: a record. -/
import Derived.Test.YtidcdfilfccigaaOct1
namespace Go.Proofs.Ytidcdfilfccigaa
set_option linter.unusedVariables false
set_option linter.unusedSimpArgs false
set_option linter.unnecessarySimpa false
open Go Go.RowKit

theorem wr_u32 {n : Int} (h0 : 0 ≤ n) (h1 : n < 4294967296) : Value.int .u32 (IntKind.wrap .u32 n) = .int .u32 n := by
  unfold IntKind.wrap
  simp only [IntKind.signed, IntKind.bits, Bool.false_and, if_false]
  rw [Int.emod_eq_of_lt h0 (by simpa using h1)]
  rfl
/-- A record's bytes. -/
def recP (k : UInt8) (name value : Bs) : Bs := be4 (2 + name.length + value.length) ++ ([k, UInt8.ofNat name.length] ++ (name ++ (value ++ [165])))
theorem recP_len (k : UInt8) (name value : Bs) : (recP k name value).length = 7 + name.length + value.length := by simp [recP, be4]; omega
set_option maxRecDepth 100000 in
set_option maxHeartbeats 4000000 in
theorem record_any (w : World) (kd : UInt8) (name : Bs) (hn : name.length ≤ 1000000) (Av : Option Addr) (cv : Nat) (V : Bs) (hV : Recs 1 yC w Av cv V) (hv : V.length ≤ 1000000) : Calls Try.prog 34 #[.int .u8 (kd.toNat : Nat), strV name, .slice Av V.length cv] w fun e w' => ∃ A' c', e = .returned (.slice A' (recP kd name V).length c') ∧ Sat w w' [rest w (· < w.heap.size), row 5 1 (.slice A' (recP kd name V).length c') (recP kd name V).length ((recP kd name V).flatMap yC)] := by
 refine enter 34 Try.func34 rfl rfl rfl fun a F => ?_
 have S := Sat.pushRest w
 refine s_reg ?_
 refine l_pk 1 (fun L => (6, .slice none 0 0) :: L) F fun a F => ?_
 refine l_then ?_
 refine s_reg ?_
 refine l_pk 1 (fun L => (9, strV name) :: L) F fun a F => ?_
 refine l_do F rfl rfl (op_strlen _ _ name F rfl (by kernel_rfl) (by kernel_rfl) (fun a F => ?_))
 refine l_do F rfl rfl (op_pk F (v0 := .int .i64 (IntKind.wrap .i64 (2 + (name.length : Nat)))) (v := .int .i64 (2 + name.length : Nat)) (wrn_i64 (by omega) (by omega) (by omega)) fun a F => ?_)
 refine l_pk 2 (fun L => (13, .int .i64 (V.length : Nat)) :: (12, .slice Av V.length cv) :: L) F fun a F => ?_
 refine l_do F rfl rfl (op_pk F (v0 := .int .i64 (IntKind.wrap .i64 ((2 + name.length : Nat) + (V.length : Nat)))) (v := .int .i64 (2 + name.length + V.length : Nat)) (wrn_i64 (by omega) (by omega) (by omega)) fun a F => ?_)
 refine l_pk 1 (fun L => (7, .int .i64 (2 + name.length + V.length : Nat)) :: L) F fun a F => ?_
 refine l_then ?_
 refine s_reg ?_
 refine l_do F rfl rfl (op_buildSlice S _ 0 _ 5 1 yC ([] : List UInt8) F rfl (by kernel_rfl) (by kernel_rfl) (by kernel_rfl) (by unfold maxLen; omega) fun b1 z S a F => ?_)
 refine l_pk 1 (fun L => (16, .int .i64 (2 + name.length + V.length : Nat)) :: L) F fun a F => ?_
 refine l_do F rfl rfl (op_pk F (v0 := .int .u32 (IntKind.wrap .u32 (2 + name.length + V.length : Nat))) (v := .int .u32 (2 + name.length + V.length : Nat)) (wr_u32 (by omega) (by omega)) fun a F => ?_)
 refine l_do F rfl rfl (op_buildSlice S _ 1 _ 30 1 nC ([2 + name.length + V.length] : List Nat) F rfl (by kernel_rfl) (by kernel_rfl) (by kernel_rfl) (by unfold maxLen; omega) fun b2 z S a F => ?_)
 obtain ⟨G9, g9, hin9, hlt9, k9⟩ := S.frameB [1, 2] (by decide) rfl
 refine l_do F rfl rfl (op_fn F (by kernel_rfl) (ofour_any _ G9 (some ⟨b1, 0, none⟩) 0 ([] : List UInt8) (by simp) (some ⟨b2, 0, none⟩) 1 (2 + name.length + V.length) (by omega) g9) ?_)
 rintro e z9 ⟨An, cn, rfl, g⟩
 have S : Sat w z9 [rest w (· < w.heap.size), row 5 1 (.slice An ((([] : List UInt8) ++ be4 (2 + name.length + V.length)).length) cn) ((([] : List UInt8) ++ be4 (2 + name.length + V.length)).length) ((([] : List UInt8) ++ be4 (2 + name.length + V.length)).flatMap yC), row 30 1 (.slice (some ⟨b2, 0, none⟩) 1 1) 1 (([2 + name.length + V.length] : List Nat).flatMap nC)] := k9 z9 [row 5 1 (.slice An ((([] : List UInt8) ++ be4 (2 + name.length + V.length)).length) cn) ((([] : List UInt8) ++ be4 (2 + name.length + V.length)).length) ((([] : List UInt8) ++ be4 (2 + name.length + V.length)).flatMap yC), row 30 1 (.slice (some ⟨b2, 0, none⟩) 1 1) 1 (([2 + name.length + V.length] : List Nat).flatMap nC)] rfl g
 clear g g9 k9 hin9 hlt9
 refine ⟨_, rfl, ?_⟩
 intro a F
 refine l_pk 1 (fun L => (8, .slice An ((([] : List UInt8) ++ be4 (2 + name.length + V.length)).length) cn) :: L) F fun a F => ?_
 refine l_then ?_
 refine s_reg ?_
 refine l_pk 3 (fun L => (22, strV name) :: (21, .int .u8 (kd.toNat : Nat)) :: (20, .slice An ((([] : List UInt8) ++ be4 (2 + name.length + V.length)).length) cn) :: L) F fun a F => ?_
 refine l_do F rfl rfl (op_strlen _ _ name F rfl (by kernel_rfl) (by kernel_rfl) (fun a F => ?_))
 refine l_do F rfl rfl (op_pk F (v0 := .int .u8 (IntKind.wrap .u8 (name.length : Nat))) (v := .int .u8 ((UInt8.ofNat name.length).toNat : Nat)) (congrArg (Value.int .u8) (byte_wrap _)) fun a F => ?_)
 refine l_do F rfl rfl (op_buildSlice S _ 2 _ 5 1 yC ([kd, (UInt8.ofNat name.length)] : List UInt8) F rfl (by kernel_rfl) (by kernel_rfl) (by kernel_rfl) (by unfold maxLen; omega) fun b3 z S a F => ?_)
 refine l_do F rfl rfl (op_append S 1 _ _ _ 5 (.int .u8 0) 1 1 (([] : List UInt8) ++ be4 (2 + name.length + V.length)) ([kd, (UInt8.ofNat name.length)] : List UInt8) yC (some ⟨b3, 0, none⟩) 2 F yC_len (fun _ => rfl) rfl rfl (by kernel_rfl) (by kernel_rfl) rfl rfl rfl (by kernel_rfl) (by kernel_rfl) (row_none (S.rowOf (i := 3) rfl)) (src_row (S.rowOf (i := 3) rfl)) (by first | omega | (simp [be4] <;> omega)) fun A4 c5 z S a F => ?_)
 refine l_pk 1 (fun L => (27, strV name) :: L) F fun a F => ?_
 refine l_do F rfl rfl (op_appendS S 1 _ _ _ _ 5 ((([] : List UInt8) ++ be4 (2 + name.length + V.length)) ++ ([kd, (UInt8.ofNat name.length)] : List UInt8)) name F rfl rfl (by kernel_rfl) (by kernel_rfl) (by kernel_rfl) (by kernel_rfl) (by kernel_rfl) (by first | omega | (simp [be4] <;> omega)) fun A6 c7 z S a F => ?_)
 refine l_pk 1 (fun L => (29, .slice Av V.length cv) :: L) F fun a F => ?_
 refine l_do F rfl rfl (op_appendU S 1 _ _ _ _ 5 5 (.int .u8 0) 1 1 (((([] : List UInt8) ++ be4 (2 + name.length + V.length)) ++ ([kd, (UInt8.ofNat name.length)] : List UInt8)) ++ name) V yC Av cv F yC_len (fun _ => rfl) rfl rfl (by kernel_rfl) (by kernel_rfl) (by kernel_rfl) rfl rfl rfl (by kernel_rfl) (by kernel_rfl) hV.none_ (src_rest S (i := 0) rfl hV.src (src_lt hV.src)) (by first | omega | (simp [be4] <;> omega)) fun A8 c9 z S a F => ?_)
 refine l_pk 1 (fun L => (8, .slice A8 (((((([] : List UInt8) ++ be4 (2 + name.length + V.length)) ++ ([kd, (UInt8.ofNat name.length)] : List UInt8)) ++ name) ++ V).length) c9) :: L) F fun a F => ?_
 refine l_then ?_
 refine s_reg ?_
 refine l_pk 1 (fun L => (31, .slice A8 (((((([] : List UInt8) ++ be4 (2 + name.length + V.length)) ++ ([kd, (UInt8.ofNat name.length)] : List UInt8)) ++ name) ++ V).length) c9) :: L) F fun a F => ?_
 refine l_do F rfl rfl (op_buildSlice S _ 1 _ 5 1 yC ([(165 : UInt8)] : List UInt8) F rfl (by kernel_rfl) (by kernel_rfl) (by kernel_rfl) (by unfold maxLen; omega) fun b10 z S a F => ?_)
 refine l_do F rfl rfl (op_append S 1 _ _ _ 5 (.int .u8 0) 1 1 ((((([] : List UInt8) ++ be4 (2 + name.length + V.length)) ++ ([kd, (UInt8.ofNat name.length)] : List UInt8)) ++ name) ++ V) ([(165 : UInt8)] : List UInt8) yC (some ⟨b10, 0, none⟩) 1 F yC_len (fun _ => rfl) rfl rfl (by kernel_rfl) (by kernel_rfl) rfl rfl rfl (by kernel_rfl) (by kernel_rfl) (row_none (S.rowOf (i := 4) rfl)) (src_row (S.rowOf (i := 4) rfl)) (by first | omega | (simp [be4] <;> omega)) fun A11 c12 z S a F => ?_)
 refine l_pk 1 (fun L => (6, .slice A11 ((((((([] : List UInt8) ++ be4 (2 + name.length + V.length)) ++ ([kd, (UInt8.ofNat name.length)] : List UInt8)) ++ name) ++ V) ++ ([(165 : UInt8)] : List UInt8)).length) c12) :: L) F fun a F => ?_
 refine l_then ?_
 refine wp_ret ?_
 exact fin F [.tmp 6] [.slice A11 ((((((([] : List UInt8) ++ be4 (2 + name.length + V.length)) ++ ([kd, (UInt8.ofNat name.length)] : List UInt8)) ++ name) ++ V) ++ ([(165 : UInt8)] : List UInt8)).length) c12] rfl ⟨by kernel_rfl, trivial⟩ (.slice A11 ((((((([] : List UInt8) ++ be4 (2 + name.length + V.length)) ++ ([kd, (UInt8.ofNat name.length)] : List UInt8)) ++ name) ++ V) ++ ([(165 : UInt8)] : List UInt8)).length) c12) rfl ⟨A11, c12, by rw [show recP kd name V = (((((([] : List UInt8) ++ be4 (2 + name.length + V.length)) ++ ([kd, (UInt8.ofNat name.length)] : List UInt8)) ++ name) ++ V) ++ ([(165 : UInt8)] : List UInt8)) from by simp [recP, be4]], by rw [show recP kd name V = (((((([] : List UInt8) ++ be4 (2 + name.length + V.length)) ++ ([kd, (UInt8.ofNat name.length)] : List UInt8)) ++ name) ++ V) ++ ([(165 : UInt8)] : List UInt8)) from by simp [recP, be4]]; exact S.pick [0, 1] (by decide)⟩
end Go.Proofs.Ytidcdfilfccigaa
