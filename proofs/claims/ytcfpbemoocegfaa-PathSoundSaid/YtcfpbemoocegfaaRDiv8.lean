/- Walk over the document's division, bit by bit. -/
import Derived.Test.YtcfpbemoocegfaaWide8
namespace Go.Proofs.Ytcfpbemoocegfaa
set_option linter.unusedVariables false
set_option linter.unusedSimpArgs false
set_option linter.unnecessarySimpa false
open Go.RowKit

/-- Behind the first bits p: the quotient, what is left, and whether the quotient is too great. -/
def DRel (p d q l : Int) (o : Bool) : Prop := 0 ≤ p ∧ l = p % d ∧ 0 ≤ q ∧ q < 18446744073709551616 ∧ (o = false → q = p / d) ∧ (o = true → 18446744073709551616 ≤ p / d)
theorem div2 {p d bit : Int} (hd : 0 < d) (hb : 0 ≤ bit ∧ bit ≤ 1) : (d ≤ 2 * (p % d) + bit → (2 * p + bit) / d = 2 * (p / d) + 1 ∧ (2 * p + bit) % d = 2 * (p % d) + bit - d) ∧ (2 * (p % d) + bit < d → (2 * p + bit) / d = 2 * (p / d) ∧ (2 * p + bit) % d = 2 * (p % d) + bit) := by
  have e := Int.mul_ediv_add_emod p d
  have m0 := Int.emod_nonneg p (show d ≠ 0 by omega)
  have m1 := Int.emod_lt_of_pos p hd
  have key : ∀ q r : Int, 2 * p + bit = d * q + r → 0 ≤ r → r < d → (2 * p + bit) / d = q ∧ (2 * p + bit) % d = r := by
    intro q r h h0 h1
    rw [h]
    refine ⟨?_, ?_⟩
    · rw [Int.add_comm, Int.add_mul_ediv_left _ _ (by omega), Int.ediv_eq_zero_of_lt h0 h1, Int.zero_add]
    · rw [Int.add_comm, Int.add_mul_emod_self_left, Int.emod_eq_of_lt h0 h1]
  refine ⟨fun h => key _ _ ?_ (by omega) (by omega), fun h => key _ _ ?_ (by omega) h⟩
  · rw [Int.mul_add, Int.mul_left_comm]; omega
  · rw [Int.mul_left_comm]; omega
theorem drel_step {p d q l bit : Int} {o : Bool} (hd : 0 < d) (hb : 0 ≤ bit ∧ bit ≤ 1) (h : DRel p d q l o) {q' l' : Int} {o' : Bool}
    (hl : (d ≤ 2 * l + bit ∧ l' = 2 * l + bit - d) ∨ (2 * l + bit < d ∧ l' = 2 * l + bit)) (ho : o' = true ∨ (o' = o ∧ q < 9223372036854775808)) (hq0 : 0 ≤ q') (hq1 : q' < 18446744073709551616)
    (hq : q < 9223372036854775808 → q' = 2 * q + if d ≤ 2 * l + bit then 1 else 0) (ho' : o' = true → o = true ∨ 9223372036854775808 ≤ q) : DRel (2 * p + bit) d q' l' o' := by
  obtain ⟨p0, rfl, q0, q1, h1, h2⟩ := h
  obtain ⟨a, b⟩ := div2 (p := p) hd hb
  have hdq : (2 * p + bit) / d = 2 * (p / d) + if d ≤ 2 * (p % d) + bit then 1 else 0 := by
    rcases hl with ⟨g, _⟩ | ⟨g, _⟩
    · rw [if_pos g]; exact (a g).1
    · rw [if_neg (by omega)]; rw [(b g).1]; omega
  refine ⟨by omega, ?_, hq0, hq1, fun h => ?_, fun h => ?_⟩
  · rcases hl with ⟨g, rfl⟩ | ⟨g, rfl⟩
    · exact (a g).2.symm
    · exact (b g).2.symm
  · rcases ho with h' | ⟨h', hlt⟩
    · rw [h] at h'; cases h'
    · rw [hdq, ← h1 (h' ▸ h)]
      exact hq hlt
  · rw [hdq]
    rcases ho' h with h' | h'
    · have := h2 h'
      split <;> omega
    · cases o with
      | true => have := h2 rfl; split <;> omega
      | false => have := h1 rfl; split <;> omega
/-- A bit of a number in four parts. -/
theorem limb_bit {N w0 w1 w2 w3 : Int} (h : Limbs N w0 w1 w2 w3) : 0 ≤ N ∧ N < 340282366920938463463374607431768211456 ∧ ∀ j : Nat, j ≤ 127 → ∃ l : Int, [w0, w1, w2, w3][j / 32]? = some l ∧ 0 ≤ l ∧ l < 4294967296 ∧ l / 2 ^ (j % 32) % 2 = N / 2 ^ j % 2 := by
  obtain ⟨⟨a0, a1⟩, ⟨b0, b1⟩, ⟨c0, c1⟩, ⟨d0, d1⟩, rfl⟩ := h
  refine ⟨by omega, by omega, fun j hj => ?_⟩
  have key : ∀ (l hi lo : Int) (m k : Nat), k < 32 → 0 ≤ lo → lo < 2 ^ m → 0 ≤ hi → (l / 2 ^ k) % 2 = ((hi * 4294967296 + l) * 2 ^ m + lo) / 2 ^ (m + k) % 2 := by
    intro l hi lo m k hk l0 l1 h0
    have p1 : (0 : Int) < 2 ^ m := Int.pow_pos (by decide)
    have p2 : (0 : Int) < 2 ^ k := Int.pow_pos (by decide)
    rw [Int.pow_add, ← Int.ediv_ediv_of_nonneg (Int.le_of_lt p1), Int.add_comm, Int.add_mul_ediv_right _ _ (by omega), Int.ediv_eq_zero_of_lt l0 l1, Int.zero_add]
    have e : (4294967296 : Int) = 2 ^ (31 - k) * 2 * 2 ^ k := by
      rw [Int.mul_assoc, Int.mul_comm 2, ← Int.mul_assoc, ← Int.pow_add, show 31 - k + k = 31 from by omega]; decide
    rw [e, ← Int.mul_assoc, Int.add_comm, Int.add_mul_ediv_right _ _ (by omega), ← Int.mul_assoc, Int.add_comm, Int.mul_comm _ 2, Int.add_comm]
    omega
  have hm : j / 32 = 0 ∨ j / 32 = 1 ∨ j / 32 = 2 ∨ j / 32 = 3 := by omega
  rcases hm with h | h | h | h
  · refine ⟨w0, by rw [h]; rfl, a0, a1, ?_⟩
    have := key w0 (w1 + w2 * 4294967296 + w3 * 18446744073709551616) 0 0 (j % 32) (by omega) (by decide) (by decide) (by omega)
    rw [this]
    have e : 0 + j % 32 = j := by omega
    rw [e, Int.pow_zero]
    congr 2; omega
  · refine ⟨w1, by rw [h]; rfl, b0, b1, ?_⟩
    have := key w1 (w2 + w3 * 4294967296) w0 32 (j % 32) (by omega) a0 (by rw [show (2 : Int) ^ 32 = 4294967296 from by decide]; exact a1) (by omega)
    rw [this]
    have e : 32 + j % 32 = j := by omega
    rw [e, show (2 : Int) ^ 32 = 4294967296 from by decide]
    congr 2; omega
  · refine ⟨w2, by rw [h]; rfl, c0, c1, ?_⟩
    have := key w2 w3 (w0 + w1 * 4294967296) 64 (j % 32) (by omega) (by omega) (by rw [show (2 : Int) ^ 64 = 18446744073709551616 from by decide]; omega) (by omega)
    rw [this]
    have e : 64 + j % 32 = j := by omega
    rw [e, show (2 : Int) ^ 64 = 18446744073709551616 from by decide]
    congr 2; omega
  · refine ⟨w3, by rw [h]; rfl, d0, d1, ?_⟩
    have := key w3 0 (w0 + w1 * 4294967296 + w2 * 18446744073709551616) 96 (j % 32) (by omega) (by omega) (by rw [show (2 : Int) ^ 96 = 79228162514264337593543950336 from by decide]; omega) (by omega)
    rw [this]
    have e : 96 + j % 32 = j := by omega
    rw [e, show (2 : Int) ^ 96 = 79228162514264337593543950336 from by decide]
    congr 2; omega
theorem pow_half {N : Int} (j : Nat) : N / 2 ^ j = 2 * (N / 2 ^ (j + 1)) + N / 2 ^ j % 2 := by
  have e : N / 2 ^ (j + 1) = N / 2 ^ j / 2 := by rw [Int.pow_succ, Int.ediv_ediv_of_nonneg (Int.le_of_lt (Int.pow_pos (by decide)))]
  rw [e]; omega
def DLoop (N d : Int) (q l o i : Value) : Prop := ∃ Q L : Int, ∃ O : Bool, q = .int .u64 Q ∧ l = .int .u64 L ∧ o = .bool O ∧ ((∃ j : Nat, j ≤ 127 ∧ i = .int .i64 j ∧ DRel (N / 2 ^ (j + 1)) d Q L O) ∨ (i = .int .i64 (-1) ∧ DRel N d Q L O))
open Go.RowKit

def RDivEnd (N d : Int) (w : World) (e : Ending) (w' : World) : Prop := ∃ Q L O, e = .returned (.tuple #[.int .u64 Q, .int .u64 L, .bool O]) ∧ DRel N d Q L O ∧ Below w.heap.size w w'
set_option maxRecDepth 100000 in
set_option maxHeartbeats 4000000 in
theorem rdiv_any (N w0 w1 w2 w3 d : Int) (hL : Limbs N w0 w1 w2 w3) (hd : 0 < d) (hd1 : d < 18446744073709551616) (w : World) :
    Calls Try.prog 131 #[.agg #[.int .u64 w0, .int .u64 w1, .int .u64 w2, .int .u64 w3], .int .u64 d] w (RDivEnd N d w) := by
  obtain ⟨n0, n1, hbits⟩ := limb_bit hL
  have HB := Lib.hid hbits
  have hstart : DRel (N / 2 ^ (127 + 1)) d 0 0 false := by
    have e : N / 2 ^ (127 + 1) = 0 := Int.ediv_eq_zero_of_lt n0 (by rw [show (2 : Int) ^ (127 + 1) = 340282366920938463463374607431768211456 from by decide]; exact n1)
    rw [e]
    exact ⟨by decide, by simp, by decide, by decide, fun _ => by simp, fun h => by cases h⟩
  have HS := Lib.hid hstart
  clear hbits hL hstart n0 n1
  go_enter Try.func131, Try.ntmps131
  go_wp2
  go_loop [7, 8, 9, 10] (DLoop N d) (fun _ _ _ i => (intOf i + 1).toNat)
  case atStart => exact ⟨0, 0, false, rfl, rfl, rfl, .inl ⟨127, by decide, rfl, HS.out⟩⟩
  case round =>
    obtain ⟨Q, L, O, rfl, rfl, rfl, hrel⟩ := hrel
    rcases hrel with ⟨j, hj, rfl, hR⟩ | ⟨rfl, hR⟩
    · obtain ⟨l, hl0, hl1, hl2, hbit⟩ := HB.out j hj
      have hcell : (w.alloc (.cells #[.int .u64 w0, .int .u64 w1, .int .u64 w2, .int .u64 w3] 201)).cell? ⟨w.heap.size, j / 32, none⟩ = some (.int .u64 l) := by
        have hm : j / 32 = 0 ∨ j / 32 = 1 ∨ j / 32 = 2 ∨ j / 32 = 3 := by omega
        have hh := heap_alloc_new w (.cells #[.int .u64 w0, .int .u64 w1, .int .u64 w2, .int .u64 w3] 201)
        rcases hm with h | h | h | h <;> (rw [h] at hl0 ⊢; unfold World.cell?; dsimp only; rw [hh]; simp at hl0 ⊢; exact hl0)
      have hb2 : 0 ≤ N / 2 ^ j % 2 ∧ N / 2 ^ j % 2 ≤ 1 := by omega
      have hph := pow_half (N := N) j
      obtain ⟨bit, hbt⟩ : ∃ b, N / 2 ^ j % 2 = b := ⟨_, rfl⟩
      rw [hbt] at hb2 hbit hph
      have hbit2 : (l / 2 ^ (j % 32)).tmod 2 = bit := by rw [Int.tmod_eq_emod_of_nonneg (Int.ediv_nonneg hl1 (Int.le_of_lt (Int.pow_pos (by decide))))]; exact hbit
      have hnext : ∀ q' l' o', DRel (2 * (N / 2 ^ (j + 1)) + bit) d q' l' o' → ∃ Q L : Int, ∃ O : Bool, Value.int .u64 q' = .int .u64 Q ∧ Value.int .u64 l' = .int .u64 L ∧ Value.bool o' = .bool O ∧
          ((∃ i : Nat, i ≤ 127 ∧ Value.int .i64 ((j : Int) - 1) = .int .i64 i ∧ DRel (N / 2 ^ (i + 1)) d Q L O) ∨ (Value.int .i64 ((j : Int) - 1) = .int .i64 (-1) ∧ DRel N d Q L O)) := by
        intro q' l' o' h
        rw [← hph] at h
        refine ⟨q', l', o', rfl, rfl, rfl, ?_⟩
        rcases j with _ | j
        · right
          refine ⟨rfl, ?_⟩
          simpa using h
        · left
          exact ⟨j, by omega, by congr 1; omega, h⟩
      have HX := Lib.hid hnext
      have HR := Lib.hid hR
      obtain ⟨pp, rfl, q0, q1, -, -⟩ := hR
      have l0 := Int.emod_nonneg (N / 2 ^ (j + 1)) (show d ≠ 0 by omega)
      have l1 := Int.emod_lt_of_pos (N / 2 ^ (j + 1)) hd
      obtain ⟨L, hLL⟩ : ∃ L, N / 2 ^ (j + 1) % d = L := ⟨_, rfl⟩
      rw [hLL] at l0 l1
      rw [hLL] at HR
      rw [hLL]
      clear hnext hph hbt hl0 HB pp hLL
      obtain ⟨B0, B1⟩ := hb2
      rcases (show Q < 9223372036854775808 ∨ 9223372036854775808 ≤ Q by omega) with hq | hq
      · rcases (show L < 9223372036854775808 ∨ 9223372036854775808 ≤ L by omega) with hl | hl
        · rcases (show d ≤ 2 * L + bit ∨ 2 * L + bit < d by omega) with hs | hs
          · skip
            go_wp2
            go_round
            case rel => exact HX.out _ _ _ (drel_step hd ⟨B0, B1⟩ HR.out (.inl ⟨by omega, by omega⟩) (.inr ⟨rfl, by omega⟩) (by omega) (by omega) (fun _ => by rw [if_pos (by omega)]; omega) (fun h => .inl h))
            case measure => (simp [intOf]; try omega)
          · skip
            go_wp2
            go_round
            case rel => exact HX.out _ _ _ (drel_step hd ⟨B0, B1⟩ HR.out (.inr ⟨by omega, by omega⟩) (.inr ⟨rfl, by omega⟩) (by omega) (by omega) (fun _ => by rw [if_neg (by omega)]; omega) (fun h => .inl h))
            case measure => (simp [intOf]; try omega)
        · skip
          obtain ⟨L2, hL2⟩ : ∃ x, 2 * L + bit - d = x := ⟨_, rfl⟩
          have ew : IntKind.u64.wrap (IntKind.u64.wrap (IntKind.u64.wrap (L * 2) + bit) - d) = L2 := by simp only [IntKind.wrap_u64]; omega
          go_wp2
          go_round
          case rel => exact HX.out _ _ _ (drel_step hd ⟨B0, B1⟩ HR.out (.inl ⟨by omega, by omega⟩) (.inr ⟨rfl, by omega⟩) (by omega) (by omega) (fun _ => by rw [if_pos (by omega)]; omega) (fun h => .inl h))
          case measure => (simp [intOf]; try omega)
      · rcases (show L < 9223372036854775808 ∨ 9223372036854775808 ≤ L by omega) with hl | hl
        · rcases (show d ≤ 2 * L + bit ∨ 2 * L + bit < d by omega) with hs | hs
          · skip
            go_wp2
            go_round
            case rel => exact HX.out _ _ _ (drel_step hd ⟨B0, B1⟩ HR.out (.inl ⟨by omega, by omega⟩) (.inl rfl) (by simp only [IntKind.wrap_u64]; omega) (by simp only [IntKind.wrap_u64]; omega) (fun h => absurd h (by omega)) (fun _ => .inr (by omega)))
            case measure => (simp [intOf]; try omega)
          · skip
            go_wp2
            go_round
            case rel => exact HX.out _ _ _ (drel_step hd ⟨B0, B1⟩ HR.out (.inr ⟨by omega, by omega⟩) (.inl rfl) (by simp only [IntKind.wrap_u64]; omega) (by simp only [IntKind.wrap_u64]; omega) (fun h => absurd h (by omega)) (fun _ => .inr (by omega)))
            case measure => (simp [intOf]; try omega)
        · skip
          obtain ⟨L2, hL2⟩ : ∃ x, 2 * L + bit - d = x := ⟨_, rfl⟩
          have ew : IntKind.u64.wrap (IntKind.u64.wrap (IntKind.u64.wrap (L * 2) + bit) - d) = L2 := by simp only [IntKind.wrap_u64]; omega
          go_wp2
          go_round
          case rel => exact HX.out _ _ _ (drel_step hd ⟨B0, B1⟩ HR.out (.inl ⟨by omega, by omega⟩) (.inl rfl) (by simp only [IntKind.wrap_u64]; omega) (by simp only [IntKind.wrap_u64]; omega) (fun h => absurd h (by omega)) (fun _ => .inr (by omega)))
          case measure => (simp [intOf]; try omega)
    · have HR := Lib.hid hR
      clear hR
      go_wp2
      exact bodyPost_ret (v := .tuple #[.int .u64 Q, .int .u64 L, .bool O]) (by simp only [results, Try.results131]; go_simp) rfl ⟨Q, L, O, rfl, HR.out, (by repeat (first | exact Below.refl _ _ | refine Below.alloc ?_ (by first | (simp; done) | (simp; omega)) _ | refine Below.setCell ?_ (by first | (simp; done) | (simp; omega)) _ | refine Below.drew ?_))⟩
end Go.Proofs.Ytcfpbemoocegfaa
