/- Walk over the document's division. -/
import Derived.Test.YtcfpbemoocegfaaRDivP8
namespace Go.Proofs.Ytcfpbemoocegfaa
set_option linter.unusedVariables false
set_option linter.unusedSimpArgs false
set_option linter.unnecessarySimpa false
open Go.RowKit

def RDivEnd (N d : Int) (w : World) (e : Ending) (w' : World) : Prop := ∃ Q L O, e = .returned (.tuple #[.int .u64 Q, .int .u64 L, .bool O]) ∧ DRel N d Q L O ∧ Below w.heap.size w w'
set_option maxRecDepth 100000 in
set_option maxHeartbeats 4000000 in
theorem rdiv_any (N w0 w1 w2 w3 d : Int) (hL : Limbs N w0 w1 w2 w3) (hd : 0 < d) (hd1 : d < 18446744073709551616) (w : World) :
    Calls Try.prog 131 #[.agg #[.int .u64 w0, .int .u64 w1, .int .u64 w2, .int .u64 w3], .int .u64 d] w (RDivEnd N d w) := by
  obtain ⟨n0, n1, hbits⟩ := limb_bit hL
  have HB := Lib.hid hbits
  have hstart : DRel (N / 2 ^ (127 + 1)) d 0 0 false := by
    have e : N / 2 ^ (127 + 1) = 0 := Int.ediv_eq_zero_of_lt n0 (by rw [show (2 : Int) ^ (127 + 1) = 340282366920938463463374607431768211456 from by decide]; exact n1)
    rw [e]
    exact ⟨by decide, by simp, by decide, by decide, fun _ => by simp, fun h => by cases h⟩
  have HS := Lib.hid hstart
  clear hbits hL hstart n0 n1
  go_enter Try.func131, Try.ntmps131
  go_wp2
  go_loop [7, 8, 9, 10] (DLoop N d) (fun _ _ _ i => (intOf i + 1).toNat)
  case atStart => exact ⟨0, 0, false, rfl, rfl, rfl, .inl ⟨127, by decide, rfl, HS.out⟩⟩
  case round =>
    obtain ⟨Q, L, O, rfl, rfl, rfl, hrel⟩ := hrel
    rcases hrel with ⟨j, hj, rfl, hR⟩ | ⟨rfl, hR⟩
    · obtain ⟨l, hl0, hl1, hl2, hbit⟩ := HB.out j hj
      have hcell : (w.alloc (.cells #[.int .u64 w0, .int .u64 w1, .int .u64 w2, .int .u64 w3] 201)).cell? ⟨w.heap.size, j / 32, none⟩ = some (.int .u64 l) := by
        have hm : j / 32 = 0 ∨ j / 32 = 1 ∨ j / 32 = 2 ∨ j / 32 = 3 := by omega
        have hh := heap_alloc_new w (.cells #[.int .u64 w0, .int .u64 w1, .int .u64 w2, .int .u64 w3] 201)
        rcases hm with h | h | h | h <;> (rw [h] at hl0 ⊢; unfold World.cell?; dsimp only; rw [hh]; simp at hl0 ⊢; exact hl0)
      have hb2 : 0 ≤ N / 2 ^ j % 2 ∧ N / 2 ^ j % 2 ≤ 1 := by omega
      have hph := pow_half (N := N) j
      obtain ⟨bit, hbt⟩ : ∃ b, N / 2 ^ j % 2 = b := ⟨_, rfl⟩
      rw [hbt] at hb2 hbit hph
      have hbit2 : (l / 2 ^ (j % 32)).tmod 2 = bit := by rw [Int.tmod_eq_emod_of_nonneg (Int.ediv_nonneg hl1 (Int.le_of_lt (Int.pow_pos (by decide))))]; exact hbit
      have hnext : ∀ q' l' o', DRel (2 * (N / 2 ^ (j + 1)) + bit) d q' l' o' → ∃ Q L : Int, ∃ O : Bool, Value.int .u64 q' = .int .u64 Q ∧ Value.int .u64 l' = .int .u64 L ∧ Value.bool o' = .bool O ∧
          ((∃ i : Nat, i ≤ 127 ∧ Value.int .i64 ((j : Int) - 1) = .int .i64 i ∧ DRel (N / 2 ^ (i + 1)) d Q L O) ∨ (Value.int .i64 ((j : Int) - 1) = .int .i64 (-1) ∧ DRel N d Q L O)) := by
        intro q' l' o' h
        rw [← hph] at h
        refine ⟨q', l', o', rfl, rfl, rfl, ?_⟩
        rcases j with _ | j
        · right
          refine ⟨rfl, ?_⟩
          simpa using h
        · left
          exact ⟨j, by omega, by congr 1; omega, h⟩
      have HX := Lib.hid hnext
      have HR := Lib.hid hR
      obtain ⟨pp, rfl, q0, q1, -, -⟩ := hR
      have l0 := Int.emod_nonneg (N / 2 ^ (j + 1)) (show d ≠ 0 by omega)
      have l1 := Int.emod_lt_of_pos (N / 2 ^ (j + 1)) hd
      obtain ⟨L, hLL⟩ : ∃ L, N / 2 ^ (j + 1) % d = L := ⟨_, rfl⟩
      rw [hLL] at l0 l1
      rw [hLL] at HR
      rw [hLL]
      clear hnext hph hbt hl0 HB pp hLL
      obtain ⟨B0, B1⟩ := hb2
      rcases (show Q < 9223372036854775808 ∨ 9223372036854775808 ≤ Q by omega) with hq | hq
      · rcases (show L < 9223372036854775808 ∨ 9223372036854775808 ≤ L by omega) with hl | hl
        · rcases (show d ≤ 2 * L + bit ∨ 2 * L + bit < d by omega) with hs | hs
          · skip
            go_wp2
            go_round
            case rel => exact HX.out _ _ _ (drel_step hd ⟨B0, B1⟩ HR.out (.inl ⟨by omega, by omega⟩) (.inr ⟨rfl, by omega⟩) (by omega) (by omega) (fun _ => by rw [if_pos (by omega)]; omega) (fun h => .inl h))
            case measure => (simp [intOf]; try omega)
          · skip
            go_wp2
            go_round
            case rel => exact HX.out _ _ _ (drel_step hd ⟨B0, B1⟩ HR.out (.inr ⟨by omega, by omega⟩) (.inr ⟨rfl, by omega⟩) (by omega) (by omega) (fun _ => by rw [if_neg (by omega)]; omega) (fun h => .inl h))
            case measure => (simp [intOf]; try omega)
        · skip
          obtain ⟨L2, hL2⟩ : ∃ x, 2 * L + bit - d = x := ⟨_, rfl⟩
          have ew : IntKind.u64.wrap (IntKind.u64.wrap (IntKind.u64.wrap (L * 2) + bit) - d) = L2 := by simp only [IntKind.wrap_u64]; omega
          go_wp2
          go_round
          case rel => exact HX.out _ _ _ (drel_step hd ⟨B0, B1⟩ HR.out (.inl ⟨by omega, by omega⟩) (.inr ⟨rfl, by omega⟩) (by omega) (by omega) (fun _ => by rw [if_pos (by omega)]; omega) (fun h => .inl h))
          case measure => (simp [intOf]; try omega)
      · rcases (show L < 9223372036854775808 ∨ 9223372036854775808 ≤ L by omega) with hl | hl
        · rcases (show d ≤ 2 * L + bit ∨ 2 * L + bit < d by omega) with hs | hs
          · skip
            go_wp2
            go_round
            case rel => exact HX.out _ _ _ (drel_step hd ⟨B0, B1⟩ HR.out (.inl ⟨by omega, by omega⟩) (.inl rfl) (by simp only [IntKind.wrap_u64]; omega) (by simp only [IntKind.wrap_u64]; omega) (fun h => absurd h (by omega)) (fun _ => .inr (by omega)))
            case measure => (simp [intOf]; try omega)
          · skip
            go_wp2
            go_round
            case rel => exact HX.out _ _ _ (drel_step hd ⟨B0, B1⟩ HR.out (.inr ⟨by omega, by omega⟩) (.inl rfl) (by simp only [IntKind.wrap_u64]; omega) (by simp only [IntKind.wrap_u64]; omega) (fun h => absurd h (by omega)) (fun _ => .inr (by omega)))
            case measure => (simp [intOf]; try omega)
        · skip
          obtain ⟨L2, hL2⟩ : ∃ x, 2 * L + bit - d = x := ⟨_, rfl⟩
          have ew : IntKind.u64.wrap (IntKind.u64.wrap (IntKind.u64.wrap (L * 2) + bit) - d) = L2 := by simp only [IntKind.wrap_u64]; omega
          go_wp2
          go_round
          case rel => exact HX.out _ _ _ (drel_step hd ⟨B0, B1⟩ HR.out (.inl ⟨by omega, by omega⟩) (.inl rfl) (by simp only [IntKind.wrap_u64]; omega) (by simp only [IntKind.wrap_u64]; omega) (fun h => absurd h (by omega)) (fun _ => .inr (by omega)))
          case measure => (simp [intOf]; try omega)
    · have HR := Lib.hid hR
      clear hR
      go_wp2
      exact bodyPost_ret (v := .tuple #[.int .u64 Q, .int .u64 L, .bool O]) (by simp only [results, Try.results131]; go_simp) rfl ⟨Q, L, O, rfl, HR.out, (by repeat (first | exact Below.refl _ _ | refine Below.alloc ?_ (by first | (simp; done) | (simp; omega)) _ | refine Below.setCell ?_ (by first | (simp; done) | (simp; omega)) _ | refine Below.drew ?_))⟩
end Go.Proofs.Ytcfpbemoocegfaa
