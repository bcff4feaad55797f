/- Walks over sums of lists. -/
import Derived.Test.YtcfpbemoocegfaaAddA
import Derived.Test.YtcfpbemoocegfaaSat
import Derived.LoopTactic
namespace Go.Proofs.Ytcfpbemoocegfaa
set_option linter.unusedVariables false
set_option linter.unusedSimpArgs false
set_option linter.unnecessarySimpa false
open Go.RowKit

theorem sumP_step {xs : List Int} {k : Nat} (hk : k < xs.length) (h : (sumP 0 (xs.take k)).2 = 0) : addP (sumP 0 (xs.take k)).1 (xs.getD k 0) = sumP 0 (xs.take (k + 1)) := by
  rw [take_snoc' hk, sumP_snoc _ _ _ h]; rfl
theorem sumP_over {xs : List Int} {k : Nat} (h : (sumP 0 (xs.take k)).2 ≠ 0) : sumP 0 xs = (0, 11) := by
  have := sumP_stop (xs.take k) (xs.drop k) 0 h
  rwa [List.take_append_drop] at this
theorem sumP_take_u {xs : List Int} (k : Nat) (hu : ∀ a ∈ xs, 0 ≤ a ∧ a < 18446744073709551616) : U64 (sumP 0 (xs.take k)).1 := sumP_u _ _ ⟨by decide, by decide⟩ fun a ha => hu a (List.mem_of_mem_take ha)
def SRel (xs : List Int) (s i : Value) : Prop := ∃ k : Nat, k ≤ xs.length ∧ i = .int .i64 k ∧ s = .int .u64 (sumP 0 (xs.take k)).1 ∧ (sumP 0 (xs.take k)).2 = 0
def RSRel (xs : List Int) (s e i : Value) : Prop := ∃ k : Nat, k ≤ xs.length ∧ i = .int .i64 k ∧ s = .int .u64 (sumP 0 (xs.take k)).1 ∧ e = .int .i64 (sumP 0 (xs.take k)).2

set_option maxRecDepth 100000 in
set_option maxHeartbeats 1000000 in
theorem sum_any (w : World) (A : Option Addr) (c : Nat) (xs : List Int) (h : Words w A c xs) : Calls Try.prog 78 #[.slice A xs.length c] w fun e w' =>
    e = .returned (.tuple #[.int .u64 (sumP 0 xs).1, .int .i64 (sumP 0 xs).2]) ∧ w' = w := by
  have hl := h.len
  have hl2 : xs.length ≤ 9223372036854775807 := by omega
  have HW := Lib.hid h
  clear h
  go_enter Try.func78, Try.ntmps78
  go_wp2
  go_loop [4, 10] (SRel xs) (fun _ i => xs.length - (intOf i).toNat)
  case atStart => exact ⟨0, Nat.zero_le _, rfl, rfl, rfl⟩
  case round =>
    obtain ⟨k, hk, rfl, rfl, h0⟩ := hrel
    by_cases hlt : k < xs.length
    · obtain ⟨b, off, rfl, hb, hc, u0, u1⟩ := HW.out.at hlt
      have hst := sumP_step hlt h0
      have hu := sumP_take_u k HW.out.u
      have HA := Lib.hid (add_any (sumP 0 (xs.take k)).1 (xs.getD k 0) hu ⟨u0, u1⟩)
      rw [hst] at HA
      have hov := fun h => @sumP_over xs (k + 1) h
      generalize hx : xs.getD k 0 = x at *
      generalize (sumP 0 (xs.take k)).1 = s at *
      obtain ⟨p, hp⟩ : ∃ p, sumP 0 (xs.take (k + 1)) = p := ⟨_, rfl⟩
      obtain ⟨v, e⟩ := p
      rw [hp] at HA hov
      have HP := Lib.hid hp
      have HO := Lib.hid hov
      clear hx hp hst hov h0
      dsimp only at HA
      rcases (show e = 0 ∨ e ≠ 0 by omega) with rfl | he
      · go_wp2_with fail
        refine (HA.out _).mono ?_
        rintro e w1 ⟨rfl, rfl⟩
        go_wp2
        go_round
        case rel => exact ⟨k + 1, by omega, by go_num, by rw [HP.out], by rw [HP.out]⟩
        case measure => (simp [intOf]; try omega)
      · have h1 : (e == 0) = false := beq_eq_false_iff_ne.2 he
        have h2 : (e != 0) = true := by simp [he]
        have h3 : e = 11 := by
          rcases sumP_err (xs.take (k + 1)) 0 with h | h
          · rw [HP.out] at h; exact absurd h he
          · rw [HP.out] at h; exact (Prod.mk.inj h).2
        subst h3
        go_wp2_with fail
        refine (HA.out _).mono ?_
        rintro e w1 ⟨rfl, rfl⟩
        go_wp2
        go_ret2
        rw [HO.out (by decide)]
        exact ⟨rfl, rfl⟩
    · obtain rfl : k = xs.length := by omega
      rw [List.take_length] at *
      have H0 := Lib.hid h0
      clear h0
      go_wp2
      go_ret2
      rw [H0.out]
      exact ⟨rfl, rfl⟩
set_option maxRecDepth 100000 in
set_option maxHeartbeats 1000000 in
theorem rsum_any (w : World) (A : Option Addr) (c : Nat) (xs : List Int) (h : Words w A c xs) : Calls Try.prog 66 #[.slice A xs.length c] w fun e w' =>
    e = .returned (.tuple #[.int .u64 (sumP 0 xs).1, .int .i64 (sumP 0 xs).2]) ∧ w' = w := by
  have hl := h.len
  have hl2 : xs.length ≤ 9223372036854775807 := by omega
  have HW := Lib.hid h
  clear h
  go_enter Try.func66, Try.ntmps66
  go_wp2
  go_loop [4, 5, 6] (RSRel xs) (fun _ _ i => xs.length - (intOf i).toNat)
  case atStart => exact ⟨0, Nat.zero_le _, rfl, rfl, rfl⟩
  case round =>
    obtain ⟨k, hk, rfl, rfl, rfl⟩ := hrel
    by_cases hlt : k < xs.length
    · by_cases h0 : (sumP 0 (xs.take k)).2 = 0
      · obtain ⟨b, off, rfl, hb, hc, u0, u1⟩ := HW.out.at hlt
        have hst := sumP_step hlt h0
        have hu := sumP_take_u k HW.out.u
        have HA := Lib.hid (radd_any (sumP 0 (xs.take k)).1 (xs.getD k 0) hu ⟨u0, u1⟩)
        rw [hst] at HA
        rw [h0]
        generalize hx : xs.getD k 0 = x at *
        generalize (sumP 0 (xs.take k)).1 = s at *
        have HH := Lib.hid h0
        clear hx hst h0
        go_wp2_with fail
        refine (HA.out _).mono ?_
        rintro e w1 ⟨rfl, rfl⟩
        go_wp2
        go_round
        case rel => exact ⟨k + 1, by omega, by go_num, rfl, rfl⟩
        case measure => (simp [intOf]; try omega)
      · have hov := sumP_over h0
        have hs : sumP 0 (xs.take k) = (0, 11) := by
          rcases sumP_err (xs.take k) 0 with h | h
          · exact absurd h h0
          · exact h
        rw [hs]
        have HO := Lib.hid hov
        clear hov h0 hs
        go_wp2
        go_ret2
        rw [HO.out]
        exact ⟨rfl, rfl⟩
    · obtain rfl : k = xs.length := by omega
      rw [List.take_length] at *
      go_wp2
      go_ret2
      exact ⟨rfl, rfl⟩
end Go.Proofs.Ytcfpbemoocegfaa
