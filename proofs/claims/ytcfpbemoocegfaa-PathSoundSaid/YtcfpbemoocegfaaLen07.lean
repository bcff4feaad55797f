/- Walks over math/bits: Len64, LeadingZeros64. -/
import Derived.Test.YtcfpbemoocegfaaGo
import Derived.Test.YtcfpbemoocegfaaAddA
import Derived.Lib.Tables
import Derived.LoopTactic
import Derived.Deep.Slices
import Derived.Lib.Strings
import Derived.Lib.Slices
import Derived.Lib.Small
import Derived.Lib.Walk
namespace Go.Proofs.Ytcfpbemoocegfaa
set_option linter.unusedVariables false
set_option linter.unusedSimpArgs false
set_option linter.unnecessarySimpa false
open Go.RowKit

set_option maxHeartbeats 4000000 in
set_option maxRecDepth 100000 in
theorem len64_any (x : Int) (w : World) (h0 : 0 ≤ x) (h1 : x ≤ 18446744073709551615) :
    Calls Try.prog 120 #[.int .u64 x] w fun e w' => e = .returned (.int .i64 (Lib.bitLen x.toNat)) ∧ w' = w := by
  rcases (show 4294967296 ≤ x ∨ x < 4294967296 by omega) with g32 | g32
  · skip
    rcases (show 65536 ≤ x / 4294967296 ∨ x / 4294967296 < 65536 by omega) with g16 | g16
    · skip
      rcases (show 256 ≤ x / 4294967296 / 65536 ∨ x / 4294967296 / 65536 < 256 by omega) with g8 | g8
      · skip
        have i0 : 0 ≤ x / 4294967296 / 65536 / 256 := by omega
        have i1 : x / 4294967296 / 65536 / 256 ≤ 255 := by omega
        have hrun : ∀ w, (Instr.index 9 (.string Lib.len8tab) (.int .u8 (x / 4294967296 / 65536 / 256))).run Try.prog w = .ok (.int .u8 (Lib.len8 (x / 4294967296 / 65536 / 256))) w := fun w => Lib.run_index_len8tab w 9 .u8 _ Try.underlying9 i0 i1
        have hl := Lib.len8_of (x / 4294967296 / 65536 / 256) i0 i1
        have l8 := Lib.bitLen_le8' (x / 4294967296 / 65536 / 256) i0 i1
        have e : (x / 4294967296 / 65536 / 256).toNat = x.toNat / 72057594037927936 := by omega
        have s := Lib.bitLen_shift56 x.toNat (by omega) (by omega)
        rw [e] at l8 hl
        generalize Lib.bitLen (x.toNat / 72057594037927936) = L at *
        have e9 : ((Lib.bitLen x.toNat : Nat) : Int) = 56 + (L : Int) := by omega
        rw [e9]
        rw [hl] at hrun
        clear hl e s e9
        go_enter Try.func120, Try.ntmps120
        go_wp2
        go_ret
        exact ⟨rfl, rfl⟩
      · skip
        have i0 : 0 ≤ x / 4294967296 / 65536 := by omega
        have i1 : x / 4294967296 / 65536 ≤ 255 := by omega
        have hrun : ∀ w, (Instr.index 9 (.string Lib.len8tab) (.int .u8 (x / 4294967296 / 65536))).run Try.prog w = .ok (.int .u8 (Lib.len8 (x / 4294967296 / 65536))) w := fun w => Lib.run_index_len8tab w 9 .u8 _ Try.underlying9 i0 i1
        have hl := Lib.len8_of (x / 4294967296 / 65536) i0 i1
        have l8 := Lib.bitLen_le8' (x / 4294967296 / 65536) i0 i1
        have e : (x / 4294967296 / 65536).toNat = x.toNat / 281474976710656 := by omega
        have s := Lib.bitLen_shift48 x.toNat (by omega) (by omega)
        rw [e] at l8 hl
        generalize Lib.bitLen (x.toNat / 281474976710656) = L at *
        have e9 : ((Lib.bitLen x.toNat : Nat) : Int) = 48 + (L : Int) := by omega
        rw [e9]
        rw [hl] at hrun
        clear hl e s e9
        go_enter Try.func120, Try.ntmps120
        go_wp2
        go_ret
        exact ⟨rfl, rfl⟩
    · skip
      rcases (show 256 ≤ x / 4294967296 ∨ x / 4294967296 < 256 by omega) with g8 | g8
      · skip
        have i0 : 0 ≤ x / 4294967296 / 256 := by omega
        have i1 : x / 4294967296 / 256 ≤ 255 := by omega
        have hrun : ∀ w, (Instr.index 9 (.string Lib.len8tab) (.int .u8 (x / 4294967296 / 256))).run Try.prog w = .ok (.int .u8 (Lib.len8 (x / 4294967296 / 256))) w := fun w => Lib.run_index_len8tab w 9 .u8 _ Try.underlying9 i0 i1
        have hl := Lib.len8_of (x / 4294967296 / 256) i0 i1
        have l8 := Lib.bitLen_le8' (x / 4294967296 / 256) i0 i1
        have e : (x / 4294967296 / 256).toNat = x.toNat / 1099511627776 := by omega
        have s := Lib.bitLen_shift40 x.toNat (by omega) (by omega)
        rw [e] at l8 hl
        generalize Lib.bitLen (x.toNat / 1099511627776) = L at *
        have e9 : ((Lib.bitLen x.toNat : Nat) : Int) = 40 + (L : Int) := by omega
        rw [e9]
        rw [hl] at hrun
        clear hl e s e9
        go_enter Try.func120, Try.ntmps120
        go_wp2
        go_ret
        exact ⟨rfl, rfl⟩
      · skip
        have i0 : 0 ≤ x / 4294967296 := by omega
        have i1 : x / 4294967296 ≤ 255 := by omega
        have hrun : ∀ w, (Instr.index 9 (.string Lib.len8tab) (.int .u8 (x / 4294967296))).run Try.prog w = .ok (.int .u8 (Lib.len8 (x / 4294967296))) w := fun w => Lib.run_index_len8tab w 9 .u8 _ Try.underlying9 i0 i1
        have hl := Lib.len8_of (x / 4294967296) i0 i1
        have l8 := Lib.bitLen_le8' (x / 4294967296) i0 i1
        have e : (x / 4294967296).toNat = x.toNat / 4294967296 := by omega
        have s := Lib.bitLen_shift32 x.toNat (by omega) (by omega)
        rw [e] at l8 hl
        generalize Lib.bitLen (x.toNat / 4294967296) = L at *
        have e9 : ((Lib.bitLen x.toNat : Nat) : Int) = 32 + (L : Int) := by omega
        rw [e9]
        rw [hl] at hrun
        clear hl e s e9
        go_enter Try.func120, Try.ntmps120
        go_wp2
        go_ret
        exact ⟨rfl, rfl⟩
  · skip
    rcases (show 65536 ≤ x ∨ x < 65536 by omega) with g16 | g16
    · skip
      rcases (show 256 ≤ x / 65536 ∨ x / 65536 < 256 by omega) with g8 | g8
      · skip
        have i0 : 0 ≤ x / 65536 / 256 := by omega
        have i1 : x / 65536 / 256 ≤ 255 := by omega
        have hrun : ∀ w, (Instr.index 9 (.string Lib.len8tab) (.int .u8 (x / 65536 / 256))).run Try.prog w = .ok (.int .u8 (Lib.len8 (x / 65536 / 256))) w := fun w => Lib.run_index_len8tab w 9 .u8 _ Try.underlying9 i0 i1
        have hl := Lib.len8_of (x / 65536 / 256) i0 i1
        have l8 := Lib.bitLen_le8' (x / 65536 / 256) i0 i1
        have e : (x / 65536 / 256).toNat = x.toNat / 16777216 := by omega
        have s := Lib.bitLen_shift24 x.toNat (by omega) (by omega)
        rw [e] at l8 hl
        generalize Lib.bitLen (x.toNat / 16777216) = L at *
        have e9 : ((Lib.bitLen x.toNat : Nat) : Int) = 24 + (L : Int) := by omega
        rw [e9]
        rw [hl] at hrun
        clear hl e s e9
        go_enter Try.func120, Try.ntmps120
        go_wp2
        go_ret
        exact ⟨rfl, rfl⟩
      · skip
        have i0 : 0 ≤ x / 65536 := by omega
        have i1 : x / 65536 ≤ 255 := by omega
        have hrun : ∀ w, (Instr.index 9 (.string Lib.len8tab) (.int .u8 (x / 65536))).run Try.prog w = .ok (.int .u8 (Lib.len8 (x / 65536))) w := fun w => Lib.run_index_len8tab w 9 .u8 _ Try.underlying9 i0 i1
        have hl := Lib.len8_of (x / 65536) i0 i1
        have l8 := Lib.bitLen_le8' (x / 65536) i0 i1
        have e : (x / 65536).toNat = x.toNat / 65536 := by omega
        have s := Lib.bitLen_shift16 x.toNat (by omega) (by omega)
        rw [e] at l8 hl
        generalize Lib.bitLen (x.toNat / 65536) = L at *
        have e9 : ((Lib.bitLen x.toNat : Nat) : Int) = 16 + (L : Int) := by omega
        rw [e9]
        rw [hl] at hrun
        clear hl e s e9
        go_enter Try.func120, Try.ntmps120
        go_wp2
        go_ret
        exact ⟨rfl, rfl⟩
    · skip
      rcases (show 256 ≤ x ∨ x < 256 by omega) with g8 | g8
      · skip
        have i0 : 0 ≤ x / 256 := by omega
        have i1 : x / 256 ≤ 255 := by omega
        have hrun : ∀ w, (Instr.index 9 (.string Lib.len8tab) (.int .u8 (x / 256))).run Try.prog w = .ok (.int .u8 (Lib.len8 (x / 256))) w := fun w => Lib.run_index_len8tab w 9 .u8 _ Try.underlying9 i0 i1
        have hl := Lib.len8_of (x / 256) i0 i1
        have l8 := Lib.bitLen_le8' (x / 256) i0 i1
        have e : (x / 256).toNat = x.toNat / 256 := by omega
        have s := Lib.bitLen_shift8 x.toNat (by omega) (by omega)
        rw [e] at l8 hl
        generalize Lib.bitLen (x.toNat / 256) = L at *
        have e9 : ((Lib.bitLen x.toNat : Nat) : Int) = 8 + (L : Int) := by omega
        rw [e9]
        rw [hl] at hrun
        clear hl e s e9
        go_enter Try.func120, Try.ntmps120
        go_wp2
        go_ret
        exact ⟨rfl, rfl⟩
      · skip
        have i0 : 0 ≤ x := by omega
        have i1 : x ≤ 255 := by omega
        have hrun : ∀ w, (Instr.index 9 (.string Lib.len8tab) (.int .u8 (x))).run Try.prog w = .ok (.int .u8 (Lib.len8 (x))) w := fun w => Lib.run_index_len8tab w 9 .u8 _ Try.underlying9 i0 i1
        have hl := Lib.len8_of (x) i0 i1
        have l8 := Lib.bitLen_le8' (x) i0 i1
        have e : (x).toNat = x.toNat := by omega
        rw [e] at l8 hl
        generalize Lib.bitLen x.toNat = L at *
        rw [hl] at hrun
        clear hl e
        go_enter Try.func120, Try.ntmps120
        go_wp2
        go_ret
        exact ⟨rfl, rfl⟩
end Go.Proofs.Ytcfpbemoocegfaa
