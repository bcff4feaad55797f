/- Walk over tollhouseref06.Turn. -/
import Derived.Test.YtpmjigghboifdaaRef2
import Derived.Test.YtpmjigghboifdaaTurn
namespace Go.Proofs.Ytpmjigghboifdaa
open Go.RowKit Fl

def rotX (x y : Int) (k : Nat) : Int := x * qx k - y * qy k
def rotY (x y : Int) (k : Nat) : Int := x * qy k + y * qx k
theorem rot_zero (x y : Int) : rotX x y 0 = x ∧ rotY x y 0 = y := by simp [rotX, rotY, qx, qy]
theorem rot_succ (x y : Int) : ∀ k, k < 3 → rotX x y (k + 1) = -rotY x y k ∧ rotY x y (k + 1) = rotX x y k
  | 0, _ => by simp [rotX, rotY, qx, qy]
  | 1, _ => by simp [rotX, rotY, qx, qy] <;> omega
  | 2, _ => by simp [rotX, rotY, qx, qy] <;> omega
theorem rot_bd (x y : Int) (h1 : -2000 ≤ x) (h2 : x ≤ 2000) (h3 : -2000 ≤ y) (h4 : y ≤ 2000) : ∀ k, k < 4 → (-2000 ≤ rotX x y k ∧ rotX x y k ≤ 2000) ∧ (-2000 ≤ rotY x y k ∧ rotY x y k ≤ 2000)
  | 0, _ => by simp [rotX, rotY, qx, qy]; omega
  | 1, _ => by simp [rotX, rotY, qx, qy]; omega
  | 2, _ => by simp [rotX, rotY, qx, qy]; omega
  | 3, _ => by simp [rotX, rotY, qx, qy]; omega

theorem Res.drewN {w0 : World} {p q r : Nat} {a b c d : Int} {w : World} (h : Res w0 p q r a b c d w) (n : Nat) : Res w0 p q r a b c d (w.drewN n) :=
  ⟨h.1, h.2.1, h.2.2.1, ⟨h.2.2.2.os, h.2.2.2.tape, h.2.2.2.output, h.2.2.2.size, h.2.2.2.block⟩⟩
theorem tmod4 (n : Int) : -4 < n.tmod 4 ∧ n.tmod 4 < 4 := ⟨by have := Int.lt_tmod_of_pos n (b := 4) (by omega); omega, Int.tmod_lt_of_pos n (by omega)⟩
theorem quart_neg (n : Int) (h : n.tmod 4 < 0) : n.tmod 4 + 4 = (quart n : Int) := by
  have b := tmod4 n
  unfold quart
  generalize n.tmod 4 = m at *
  rw [Int.tmod_eq_emod_of_nonneg (by omega)]
  omega
theorem quart_pos (n : Int) (h : ¬ n.tmod 4 < 0) : n.tmod 4 = (quart n : Int) := by
  have b := tmod4 n
  unfold quart
  generalize n.tmod 4 = m at *
  rw [Int.tmod_eq_emod_of_nonneg (by omega)]
  omega

set_option maxHeartbeats 1000000 in
theorem rturn_any (a b c d n : Int) (hn1 : -9223372036854775808 ≤ n) (hn2 : n ≤ 9223372036854775807) (w : World) : Calls Try.prog 18 #[.agg #[.int .i64 a, .int .i64 b], .agg #[.int .i64 c, .int .i64 d], .int .i64 n] w fun e w' =>
    e = .returned (spotV (turnP a b c d n)) ∧ Below w.heap.size w w' := by
  have hT0 : Res w w.heap.size (w.heap.size + 1) (w.heap.size + 1 + 1) a b c d (((w.alloc (.cells #[.int .i64 a, .int .i64 b] 29)).alloc (.cells #[.int .i64 c, .int .i64 d] 29)).alloc (.cells #[.int .i64 0, .int .i64 0] 29)) := by
    refine ⟨⟨by go_simp, by go_simp, by go_simp, by go_simp⟩, ⟨valAt_of (by go_simp), valAt_of (by go_simp), by go_simp, by go_simp⟩, ⟨by simp <;> omega, by simp <;> omega, by simp⟩, ?_⟩
    exact ((((Below.refl _ _).alloc (Nat.le_refl _) _).alloc (by simp) _).alloc (by simp <;> omega) _)
  have HT := Lib.hid hT0
  clear hT0
  unfold turnP spotV
  rcases h1 : inB a b with _ | _
  · have HI := Lib.hid h1
    clear h1
    go_enter Try.func18, Try.ntmps18
    go_wp2_with fail
    refine (On_any _ _ _).mono ?_
    rintro e' w1 ⟨rfl, hb1⟩
    rw [HI.out]
    have hT := Res.keep hb1 HT.out
    clear hb1 HT
    have HT := Lib.hid hT
    obtain ⟨⟨k0, k1, k2, k3⟩, ⟨k4, k5, k6, k7⟩, ⟨z1, z2, z3⟩, hB⟩ := hT
    go_wp2
    refine bodyPost_ret (v := .tuple #[.agg #[.int .i64 0, .int .i64 0], .int .i64 1]) (by simp only [results, Try.results18]; go_simp) rfl ⟨rfl, ?_⟩
    exact (hB.setCell (by simp <;> omega) _).setCell (by simp <;> omega) _
  · rcases h2 : inB c d with _ | _
    · have HI := Lib.hid h1
      have HJ := Lib.hid h2
      clear h1 h2
      go_enter Try.func18, Try.ntmps18
      go_wp2_with fail
      refine (On_any _ _ _).mono ?_
      rintro e' w1 ⟨rfl, hb1⟩
      rw [HI.out]
      have hT := Res.keep hb1 HT.out
      clear hb1 HT
      have HT := Lib.hid hT
      obtain ⟨⟨k0, k1, k2, k3⟩, ⟨k4, k5, k6, k7⟩, ⟨z1, z2, z3⟩, hB⟩ := hT
      go_wp2_with fail
      refine (On_any _ _ _).mono ?_
      rintro e' w1 ⟨rfl, hb1⟩
      rw [HJ.out]
      have hT := Res.keep hb1 HT.out
      clear hb1 HT k0 k1 k2 k3 k4 k5 k6 k7 z1 z2 z3 hB
      have HT := Lib.hid hT
      obtain ⟨⟨k0, k1, k2, k3⟩, ⟨k4, k5, k6, k7⟩, ⟨z1, z2, z3⟩, hB⟩ := hT
      go_wp2
      refine bodyPost_ret (v := .tuple #[.agg #[.int .i64 0, .int .i64 0], .int .i64 1]) (by simp only [results, Try.results18]; go_simp) rfl ⟨rfl, ?_⟩
      exact (hB.setCell (by simp <;> omega) _).setCell (by simp <;> omega) _
    · have HI := Lib.hid h1
      have HJ := Lib.hid h2
      rw [inB_iff] at h1 h2
      have hq := quart_lt n
      have b1 := tmod4 n
      have hQ1 := quart_neg n
      have hQ2 := quart_pos n
      have hbd := rot_bd (a - c) (b - d) (by omega) (by omega) (by omega) (by omega)
      have hsc := rot_succ (a - c) (b - d)
      have hz := rot_zero (a - c) (b - d)
      have H0 := rheld_any (c + ((a - c) * qx (quart n) - (b - d) * qy (quart n))) (d + ((a - c) * qy (quart n) + (b - d) * qx (quart n)))
      simp only [Bool.and_self, if_true]
      unfold spotV at H0
      generalize heldP (c + ((a - c) * qx (quart n) - (b - d) * qy (quart n))) (d + ((a - c) * qy (quart n) + (b - d) * qx (quart n))) = P at *
      have H0' : ∀ w, Calls Try.prog 32 #[.agg #[.int .i64 (c + rotX (a - c) (b - d) (quart n)), .int .i64 (d + rotY (a - c) (b - d) (quart n))]] w fun e w' => e = .returned (.tuple #[.agg #[.int .i64 P.1, .int .i64 P.2.1], .int .i64 P.2.2]) ∧ Below w.heap.size w w' := H0
      clear H0
      have HH := Lib.hid H0'
      have HQ1 := Lib.hid hQ1
      have HQ2 := Lib.hid hQ2
      have HSC := Lib.hid hsc
      have HBD := Lib.hid hbd
      have HZ := Lib.hid hz
      clear H0' hQ1 hQ2 hsc hbd hz
      generalize quart n = q at *
      obtain ⟨g1, g2, g3, g4⟩ := h1
      obtain ⟨g5, g6, g7, g8⟩ := h2
      obtain ⟨b2, b3⟩ := b1
      rcases Classical.em (n.tmod 4 < 0) with hneg | hneg
      all_goals
        go_enter Try.func18, Try.ntmps18
        go_wp2_with fail
        refine (On_any _ _ _).mono ?_
        rintro e' w1 ⟨rfl, hb1⟩
        rw [HI.out]
        have hT := Res.keep hb1 HT.out
        clear hb1 HT
        have HT := Lib.hid hT
        obtain ⟨⟨k0, k1, k2, k3⟩, ⟨k4, k5, k6, k7⟩, ⟨z1, z2, z3⟩, hB⟩ := hT
        go_wp2_with fail
        refine (On_any _ _ _).mono ?_
        rintro e' w1 ⟨rfl, hb1⟩
        rw [HJ.out]
        have hT := Res.keep hb1 HT.out
        clear hb1 HT k0 k1 k2 k3 k4 k5 k6 k7 z1 z2 z3 hB
        have HT := Lib.hid hT
        obtain ⟨⟨k0, k1, k2, k3⟩, ⟨k4, k5, k6, k7⟩, ⟨z1, z2, z3⟩, hB⟩ := hT
        go_wp2_with fail
        go_quiet (fail)
        go_wp2_with fail
      · have HQ := HQ1
        go_loop [8, 9, 10] (fun x y i => ∃ k : Nat, k ≤ q ∧ i = .int .i64 k ∧ x = .int .i64 (rotX (a - c) (b - d) k) ∧ y = .int .i64 (rotY (a - c) (b - d) k)) (fun _ _ i => q - (intOf i).toNat)
        case atStart => exact ⟨0, Nat.zero_le _, rfl, by rw [HZ.out.1], by rw [HZ.out.2]⟩
        case round =>
          obtain ⟨k, hk, rfl, rfl, rfl⟩ := hrel
          by_cases hlt : k < q
          · have hlt' : (k : Int) < (n.tmod 4 + 4) := by have := HQ.out hneg; omega
            have HS := Lib.hid (HSC.out k (by omega))
            obtain ⟨⟨m1, m2⟩, ⟨m3, m4⟩⟩ := HBD.out k (by omega)
            go_wp2
            go_round
            case rel => exact ⟨k + 1, by omega, by go_num, by rw [HS.out.1], by rw [HS.out.2]⟩
            case measure => simp [intOf]; omega
          · have e : k = q := by omega
            subst e
            have hlt' : (n.tmod 4 + 4) ≤ (k : Int) := by have := HQ.out hneg; omega
            obtain ⟨⟨m1, m2⟩, ⟨m3, m4⟩⟩ := HBD.out k (by omega)
            go_wp2_with fail
            refine (HH.out _).mono ?_
            rintro e' w3 ⟨rfl, hb1⟩
            have hT := Res.keep (w' := w3) hb1 (Res.drewN HT.out _)
            clear hb1 HT k0 k1 k2 k3 k4 k5 k6 k7 z1 z2 z3 hB
            obtain ⟨⟨k0, k1, k2, k3⟩, ⟨k4, k5, k6, k7⟩, ⟨z1, z2, z3⟩, hB⟩ := hT
            go_wp2
            refine bodyPost_ret (v := .tuple #[.agg #[.int .i64 P.1, .int .i64 P.2.1], .int .i64 P.2.2]) (by simp only [results, Try.results18]; go_simp) rfl ⟨rfl, ?_⟩
            exact (hB.setCell (by simp <;> omega) _).setCell (by simp <;> omega) _
      · have HQ := HQ2
        go_loop [8, 9, 10] (fun x y i => ∃ k : Nat, k ≤ q ∧ i = .int .i64 k ∧ x = .int .i64 (rotX (a - c) (b - d) k) ∧ y = .int .i64 (rotY (a - c) (b - d) k)) (fun _ _ i => q - (intOf i).toNat)
        case atStart => exact ⟨0, Nat.zero_le _, rfl, by rw [HZ.out.1], by rw [HZ.out.2]⟩
        case round =>
          obtain ⟨k, hk, rfl, rfl, rfl⟩ := hrel
          by_cases hlt : k < q
          · have hlt' : (k : Int) < n.tmod 4 := by have := HQ.out hneg; omega
            have HS := Lib.hid (HSC.out k (by omega))
            obtain ⟨⟨m1, m2⟩, ⟨m3, m4⟩⟩ := HBD.out k (by omega)
            go_wp2
            go_round
            case rel => exact ⟨k + 1, by omega, by go_num, by rw [HS.out.1], by rw [HS.out.2]⟩
            case measure => simp [intOf]; omega
          · have e : k = q := by omega
            subst e
            have hlt' : n.tmod 4 ≤ (k : Int) := by have := HQ.out hneg; omega
            obtain ⟨⟨m1, m2⟩, ⟨m3, m4⟩⟩ := HBD.out k (by omega)
            go_wp2_with fail
            refine (HH.out _).mono ?_
            rintro e' w3 ⟨rfl, hb1⟩
            have hT := Res.keep (w' := w3) hb1 (Res.drewN HT.out _)
            clear hb1 HT k0 k1 k2 k3 k4 k5 k6 k7 z1 z2 z3 hB
            obtain ⟨⟨k0, k1, k2, k3⟩, ⟨k4, k5, k6, k7⟩, ⟨z1, z2, z3⟩, hB⟩ := hT
            go_wp2
            refine bodyPost_ret (v := .tuple #[.agg #[.int .i64 P.1, .int .i64 P.2.1], .int .i64 P.2.2]) (by simp only [results, Try.results18]; go_simp) rfl ⟨rfl, ?_⟩
            exact (hB.setCell (by simp <;> omega) _).setCell (by simp <;> omega) _
end Go.Proofs.Ytpmjigghboifdaa
