/- Of chapter 02: small laws. -/
import Derived.Test.YtcfpbemoocegfaaAddA
import Derived.Shelf.Bits.Mul64
import Derived.Lib.Strings
import Derived.Lib.Slices
import Derived.Lib.Small
import Derived.Lib.Walk
namespace Go.Proofs.Ytcfpbemoocegfaa
set_option linter.unusedVariables false
set_option linter.unusedSimpArgs false
set_option linter.unnecessarySimpa false
open Go.RowKit

/-- Where the shelf's law of Mul64 lies in this program, in plain words. -/
def mulRen : Go.Shelf.Ren := ⟨fun | 264 => 129 | n => n, fun | 46 => 176 | 53 => 26 | n => n, fun | n => n⟩
theorem mulLay : Go.Proofs.Lays.n264 Try.prog mulRen := {
  mixed := by kernel_rfl
  f264 := Try.func129.trans (congrArg some (by kernel_rfl))
  t46 := Try.underlying176
  a46 := Try.isAgg176
  z46 := Try.sizeOf176
  v46 := Try.zeroValue176
  t53 := Try.underlying26
  a53 := Try.isAgg26
  z53 := Try.sizeOf26
  v53 := Try.zeroValue26 }
theorem mul64_any (x y : Int) (hx : U64 x) (hy : U64 y) (w : World) :
    Calls Try.prog 129 #[.int .u64 x, .int .u64 y] w fun e w' => e = .returned (.tuple #[.int .u64 (x * y / 18446744073709551616), .int .u64 (x * y % 18446744073709551616)]) ∧ w' = w := by
  obtain ⟨x0, x1⟩ := hx
  obtain ⟨y0, y1⟩ := hy
  obtain ⟨x, rfl⟩ := Int.eq_ofNat_of_zero_le x0
  obtain ⟨y, rfl⟩ := Int.eq_ofNat_of_zero_le y0
  refine (Any.bits_Mul64 mulLay x y (by omega) (by omega) w).mono ?_
  rintro e w' ⟨rfl, rfl⟩
  refine ⟨?_, rfl⟩
  rw [← Int.natCast_mul]
  rfl
open Go.RowKit

set_option maxHeartbeats 4000000 in
set_option maxRecDepth 100000 in
theorem len64_any (x : Int) (w : World) (h0 : 0 ≤ x) (h1 : x ≤ 18446744073709551615) :
    Calls Try.prog 120 #[.int .u64 x] w fun e w' => e = .returned (.int .i64 (Lib.bitLen x.toNat)) ∧ w' = w := by
  rcases (show 4294967296 ≤ x ∨ x < 4294967296 by omega) with g32 | g32
  · skip
    rcases (show 65536 ≤ x / 4294967296 ∨ x / 4294967296 < 65536 by omega) with g16 | g16
    · skip
      rcases (show 256 ≤ x / 4294967296 / 65536 ∨ x / 4294967296 / 65536 < 256 by omega) with g8 | g8
      · skip
        have i0 : 0 ≤ x / 4294967296 / 65536 / 256 := by omega
        have i1 : x / 4294967296 / 65536 / 256 ≤ 255 := by omega
        have hrun : ∀ w, (Instr.index 9 (.string Lib.len8tab) (.int .u8 (x / 4294967296 / 65536 / 256))).run Try.prog w = .ok (.int .u8 (Lib.len8 (x / 4294967296 / 65536 / 256))) w := fun w => Lib.run_index_len8tab w 9 .u8 _ Try.underlying9 i0 i1
        have hl := Lib.len8_of (x / 4294967296 / 65536 / 256) i0 i1
        have l8 := Lib.bitLen_le8' (x / 4294967296 / 65536 / 256) i0 i1
        have e : (x / 4294967296 / 65536 / 256).toNat = x.toNat / 72057594037927936 := by omega
        have s := Lib.bitLen_shift56 x.toNat (by omega) (by omega)
        rw [e] at l8 hl
        generalize Lib.bitLen (x.toNat / 72057594037927936) = L at *
        have e9 : ((Lib.bitLen x.toNat : Nat) : Int) = 56 + (L : Int) := by omega
        rw [e9]
        rw [hl] at hrun
        clear hl e s e9
        go_enter Try.func120, Try.ntmps120
        go_wp2
        go_ret
        exact ⟨rfl, rfl⟩
      · skip
        have i0 : 0 ≤ x / 4294967296 / 65536 := by omega
        have i1 : x / 4294967296 / 65536 ≤ 255 := by omega
        have hrun : ∀ w, (Instr.index 9 (.string Lib.len8tab) (.int .u8 (x / 4294967296 / 65536))).run Try.prog w = .ok (.int .u8 (Lib.len8 (x / 4294967296 / 65536))) w := fun w => Lib.run_index_len8tab w 9 .u8 _ Try.underlying9 i0 i1
        have hl := Lib.len8_of (x / 4294967296 / 65536) i0 i1
        have l8 := Lib.bitLen_le8' (x / 4294967296 / 65536) i0 i1
        have e : (x / 4294967296 / 65536).toNat = x.toNat / 281474976710656 := by omega
        have s := Lib.bitLen_shift48 x.toNat (by omega) (by omega)
        rw [e] at l8 hl
        generalize Lib.bitLen (x.toNat / 281474976710656) = L at *
        have e9 : ((Lib.bitLen x.toNat : Nat) : Int) = 48 + (L : Int) := by omega
        rw [e9]
        rw [hl] at hrun
        clear hl e s e9
        go_enter Try.func120, Try.ntmps120
        go_wp2
        go_ret
        exact ⟨rfl, rfl⟩
    · skip
      rcases (show 256 ≤ x / 4294967296 ∨ x / 4294967296 < 256 by omega) with g8 | g8
      · skip
        have i0 : 0 ≤ x / 4294967296 / 256 := by omega
        have i1 : x / 4294967296 / 256 ≤ 255 := by omega
        have hrun : ∀ w, (Instr.index 9 (.string Lib.len8tab) (.int .u8 (x / 4294967296 / 256))).run Try.prog w = .ok (.int .u8 (Lib.len8 (x / 4294967296 / 256))) w := fun w => Lib.run_index_len8tab w 9 .u8 _ Try.underlying9 i0 i1
        have hl := Lib.len8_of (x / 4294967296 / 256) i0 i1
        have l8 := Lib.bitLen_le8' (x / 4294967296 / 256) i0 i1
        have e : (x / 4294967296 / 256).toNat = x.toNat / 1099511627776 := by omega
        have s := Lib.bitLen_shift40 x.toNat (by omega) (by omega)
        rw [e] at l8 hl
        generalize Lib.bitLen (x.toNat / 1099511627776) = L at *
        have e9 : ((Lib.bitLen x.toNat : Nat) : Int) = 40 + (L : Int) := by omega
        rw [e9]
        rw [hl] at hrun
        clear hl e s e9
        go_enter Try.func120, Try.ntmps120
        go_wp2
        go_ret
        exact ⟨rfl, rfl⟩
      · skip
        have i0 : 0 ≤ x / 4294967296 := by omega
        have i1 : x / 4294967296 ≤ 255 := by omega
        have hrun : ∀ w, (Instr.index 9 (.string Lib.len8tab) (.int .u8 (x / 4294967296))).run Try.prog w = .ok (.int .u8 (Lib.len8 (x / 4294967296))) w := fun w => Lib.run_index_len8tab w 9 .u8 _ Try.underlying9 i0 i1
        have hl := Lib.len8_of (x / 4294967296) i0 i1
        have l8 := Lib.bitLen_le8' (x / 4294967296) i0 i1
        have e : (x / 4294967296).toNat = x.toNat / 4294967296 := by omega
        have s := Lib.bitLen_shift32 x.toNat (by omega) (by omega)
        rw [e] at l8 hl
        generalize Lib.bitLen (x.toNat / 4294967296) = L at *
        have e9 : ((Lib.bitLen x.toNat : Nat) : Int) = 32 + (L : Int) := by omega
        rw [e9]
        rw [hl] at hrun
        clear hl e s e9
        go_enter Try.func120, Try.ntmps120
        go_wp2
        go_ret
        exact ⟨rfl, rfl⟩
  · skip
    rcases (show 65536 ≤ x ∨ x < 65536 by omega) with g16 | g16
    · skip
      rcases (show 256 ≤ x / 65536 ∨ x / 65536 < 256 by omega) with g8 | g8
      · skip
        have i0 : 0 ≤ x / 65536 / 256 := by omega
        have i1 : x / 65536 / 256 ≤ 255 := by omega
        have hrun : ∀ w, (Instr.index 9 (.string Lib.len8tab) (.int .u8 (x / 65536 / 256))).run Try.prog w = .ok (.int .u8 (Lib.len8 (x / 65536 / 256))) w := fun w => Lib.run_index_len8tab w 9 .u8 _ Try.underlying9 i0 i1
        have hl := Lib.len8_of (x / 65536 / 256) i0 i1
        have l8 := Lib.bitLen_le8' (x / 65536 / 256) i0 i1
        have e : (x / 65536 / 256).toNat = x.toNat / 16777216 := by omega
        have s := Lib.bitLen_shift24 x.toNat (by omega) (by omega)
        rw [e] at l8 hl
        generalize Lib.bitLen (x.toNat / 16777216) = L at *
        have e9 : ((Lib.bitLen x.toNat : Nat) : Int) = 24 + (L : Int) := by omega
        rw [e9]
        rw [hl] at hrun
        clear hl e s e9
        go_enter Try.func120, Try.ntmps120
        go_wp2
        go_ret
        exact ⟨rfl, rfl⟩
      · skip
        have i0 : 0 ≤ x / 65536 := by omega
        have i1 : x / 65536 ≤ 255 := by omega
        have hrun : ∀ w, (Instr.index 9 (.string Lib.len8tab) (.int .u8 (x / 65536))).run Try.prog w = .ok (.int .u8 (Lib.len8 (x / 65536))) w := fun w => Lib.run_index_len8tab w 9 .u8 _ Try.underlying9 i0 i1
        have hl := Lib.len8_of (x / 65536) i0 i1
        have l8 := Lib.bitLen_le8' (x / 65536) i0 i1
        have e : (x / 65536).toNat = x.toNat / 65536 := by omega
        have s := Lib.bitLen_shift16 x.toNat (by omega) (by omega)
        rw [e] at l8 hl
        generalize Lib.bitLen (x.toNat / 65536) = L at *
        have e9 : ((Lib.bitLen x.toNat : Nat) : Int) = 16 + (L : Int) := by omega
        rw [e9]
        rw [hl] at hrun
        clear hl e s e9
        go_enter Try.func120, Try.ntmps120
        go_wp2
        go_ret
        exact ⟨rfl, rfl⟩
    · skip
      rcases (show 256 ≤ x ∨ x < 256 by omega) with g8 | g8
      · skip
        have i0 : 0 ≤ x / 256 := by omega
        have i1 : x / 256 ≤ 255 := by omega
        have hrun : ∀ w, (Instr.index 9 (.string Lib.len8tab) (.int .u8 (x / 256))).run Try.prog w = .ok (.int .u8 (Lib.len8 (x / 256))) w := fun w => Lib.run_index_len8tab w 9 .u8 _ Try.underlying9 i0 i1
        have hl := Lib.len8_of (x / 256) i0 i1
        have l8 := Lib.bitLen_le8' (x / 256) i0 i1
        have e : (x / 256).toNat = x.toNat / 256 := by omega
        have s := Lib.bitLen_shift8 x.toNat (by omega) (by omega)
        rw [e] at l8 hl
        generalize Lib.bitLen (x.toNat / 256) = L at *
        have e9 : ((Lib.bitLen x.toNat : Nat) : Int) = 8 + (L : Int) := by omega
        rw [e9]
        rw [hl] at hrun
        clear hl e s e9
        go_enter Try.func120, Try.ntmps120
        go_wp2
        go_ret
        exact ⟨rfl, rfl⟩
      · skip
        have i0 : 0 ≤ x := by omega
        have i1 : x ≤ 255 := by omega
        have hrun : ∀ w, (Instr.index 9 (.string Lib.len8tab) (.int .u8 (x))).run Try.prog w = .ok (.int .u8 (Lib.len8 (x))) w := fun w => Lib.run_index_len8tab w 9 .u8 _ Try.underlying9 i0 i1
        have hl := Lib.len8_of (x) i0 i1
        have l8 := Lib.bitLen_le8' (x) i0 i1
        have e : (x).toNat = x.toNat := by omega
        rw [e] at l8 hl
        generalize Lib.bitLen x.toNat = L at *
        rw [hl] at hrun
        clear hl e
        go_enter Try.func120, Try.ntmps120
        go_wp2
        go_ret
        exact ⟨rfl, rfl⟩
theorem lead_any (x : Int) (w : World) (h0 : 0 ≤ x) (h1 : x ≤ 18446744073709551615) (hl : Lib.bitLen x.toNat ≤ 64) :
    Calls Try.prog 134 #[.int .u64 x] w fun e w' => e = .returned (.int .i64 (64 - (Lib.bitLen x.toNat : Int))) ∧ w' = w := by
  have HL := Lib.hid (len64_any x w h0 h1)
  go_enter Try.func134, Try.ntmps134
  go_wp2_with fail
  refine HL.out.mono ?_
  rintro e w' ⟨rfl, rfl⟩
  go_wp2
  go_ret
  exact ⟨rfl, rfl⟩
theorem aux_spec : ∀ (n x : Nat), x < 2 ^ n → x < 2 ^ Lib.bitLenAux n x ∧ (x ≠ 0 → 2 ^ Lib.bitLenAux n x ≤ 2 * x) ∧ Lib.bitLenAux n x ≤ n
  | 0, x, h => by
    have : x = 0 := by simp at h; omega
    subst this
    simp [Lib.bitLenAux]
  | n + 1, x, h => by
    unfold Lib.bitLenAux
    by_cases h0 : x = 0
    · simp [h0]
    · rw [if_neg h0]
      have hp : 2 ^ (n + 1) = 2 * 2 ^ n := by rw [Nat.pow_succ]; omega
      obtain ⟨i1, i2, i3⟩ := aux_spec n (x / 2) (by omega)
      have hq : 2 ^ (1 + Lib.bitLenAux n (x / 2)) = 2 * 2 ^ Lib.bitLenAux n (x / 2) := by rw [Nat.pow_add]
      rw [hq]
      refine ⟨by omega, fun _ => ?_, by omega⟩
      by_cases h1 : x / 2 = 0
      · rw [h1] at *
        have : Lib.bitLenAux n 0 = 0 := by cases n <;> simp [Lib.bitLenAux]
        rw [this]
        omega
      · have := i2 h1
        omega
/-- How far to move a number up. -/
theorem lead_spec {y : Int} (h0 : 0 < y) (h1 : y < 18446744073709551616) : ∃ k : Nat, k ≤ 63 ∧ 64 - (Lib.bitLen y.toNat : Int) = k ∧ Lib.bitLen y.toNat ≤ 64 ∧ 9223372036854775808 ≤ y * 2 ^ k ∧ y * 2 ^ k < 18446744073709551616 := by
  obtain ⟨n, rfl⟩ := Int.eq_ofNat_of_zero_le (by omega : 0 ≤ y)
  obtain ⟨a, b, c⟩ := aux_spec 64 n (by omega)
  have hb : Lib.bitLen (n : Int).toNat = Lib.bitLenAux 64 n := rfl
  rw [hb]
  generalize Lib.bitLenAux 64 n = L at *
  have b' := b (by omega)
  have hL : 1 ≤ L := by
    rcases L with _ | L
    · simp at a; omega
    · omega
  refine ⟨64 - L, by omega, by omega, c, ?_, ?_⟩
  · have e : (2 : Nat) ^ L * 2 ^ (64 - L) = 18446744073709551616 := by rw [← Nat.pow_add, show L + (64 - L) = 64 from by omega]
    have := Nat.mul_le_mul_right (2 ^ (64 - L)) b'
    rw [e, Nat.mul_assoc] at this
    have h3 : ((n * 2 ^ (64 - L) : Nat) : Int) = (n : Int) * 2 ^ (64 - L) := by simp
    rw [← h3]
    omega
  · have e : (2 : Nat) ^ L * 2 ^ (64 - L) = 18446744073709551616 := by rw [← Nat.pow_add, show L + (64 - L) = 64 from by omega]
    have := Nat.mul_lt_mul_of_pos_right a (show 0 < 2 ^ (64 - L) from Nat.pow_pos (by omega))
    rw [e] at this
    have h3 : ((n * 2 ^ (64 - L) : Nat) : Int) = (n : Int) * 2 ^ (64 - L) := by simp
    rw [← h3]
    omega
end Go.Proofs.Ytcfpbemoocegfaa
