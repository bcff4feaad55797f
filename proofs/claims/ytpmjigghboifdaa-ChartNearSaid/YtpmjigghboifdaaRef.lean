/- Walks over tollhouseref06: Move, Times, Far, Side. -/
import Derived.Test.YtpmjigghboifdaaMove
namespace Go.Proofs.Ytpmjigghboifdaa
open Go.RowKit Fl

theorem rmove_any (a b c d : Int) (w : World) : Calls Try.prog 14 #[.agg #[.int .i64 a, .int .i64 b], .agg #[.int .i64 c, .int .i64 d]] w fun e w' =>
    e = .returned (spotV (moveP a b c d)) ∧ Below w.heap.size w w' := by
  rcases h1 : inB a b with _ | _
  · have HI := Lib.hid h1
    unfold moveP spotV
    rw [h1]
    clear h1
    have hT0 : Res w w.heap.size (w.heap.size + 1) (w.heap.size + 1 + 1) a b c d (((w.alloc (.cells #[.int .i64 a, .int .i64 b] 29)).alloc (.cells #[.int .i64 c, .int .i64 d] 29)).alloc (.cells #[.int .i64 0, .int .i64 0] 29)) := by
      refine ⟨⟨by go_simp, by go_simp, by go_simp, by go_simp⟩, ⟨valAt_of (by go_simp), valAt_of (by go_simp), by go_simp, by go_simp⟩, ⟨by simp <;> omega, by simp <;> omega, by simp⟩, ?_⟩
      exact ((((Below.refl _ _).alloc (Nat.le_refl _) _).alloc (by simp) _).alloc (by simp <;> omega) _)

    go_enter Try.func14, Try.ntmps14
    go_wp2_with fail
    refine (On_any _ _ _).mono ?_
    rintro e w1 ⟨rfl, hb1⟩
    rw [HI.out]
    have hT1 := Res.keep hb1 hT0
    clear hb1 hT0
    obtain ⟨⟨k0, k1, k2, k3⟩, ⟨k4, k5, k6, k7⟩, ⟨z1, z2, z3⟩, hB⟩ := hT1
    go_wp2
    refine bodyPost_ret (v := .tuple #[.agg #[.int .i64 0, .int .i64 0], .int .i64 1]) (by simp only [results, Try.results14]; go_simp) rfl ⟨rfl, ?_⟩
    exact (hB.setCell (by simp <;> omega) _).setCell (by simp <;> omega) _
  · rcases h2 : inB c d with _ | _
    · have HI := Lib.hid h1
      have HJ := Lib.hid h2
      unfold moveP spotV
      rw [h1, h2]
      clear h1 h2
      have hT0 : Res w w.heap.size (w.heap.size + 1) (w.heap.size + 1 + 1) a b c d (((w.alloc (.cells #[.int .i64 a, .int .i64 b] 29)).alloc (.cells #[.int .i64 c, .int .i64 d] 29)).alloc (.cells #[.int .i64 0, .int .i64 0] 29)) := by
        refine ⟨⟨by go_simp, by go_simp, by go_simp, by go_simp⟩, ⟨valAt_of (by go_simp), valAt_of (by go_simp), by go_simp, by go_simp⟩, ⟨by simp <;> omega, by simp <;> omega, by simp⟩, ?_⟩
        exact ((((Below.refl _ _).alloc (Nat.le_refl _) _).alloc (by simp) _).alloc (by simp <;> omega) _)

      go_enter Try.func14, Try.ntmps14
      go_wp2_with fail
      refine (On_any _ _ _).mono ?_
      rintro e w1 ⟨rfl, hb1⟩
      rw [HI.out]
      have hT1 := Res.keep hb1 hT0
      have hT1' := Lib.hid hT1
      clear hb1 hT0
      obtain ⟨⟨k0, k1, k2, k3⟩, ⟨k4, k5, k6, k7⟩, ⟨z1, z2, z3⟩, hB⟩ := hT1
      go_wp2_with fail
      refine (On_any _ _ _).mono ?_
      rintro e w2 ⟨rfl, hb1⟩
      rw [HJ.out]
      have hT1 := Res.keep hb1 hT1'.out
      clear hb1 hT1' k0 k1 k2 k3 k4 k5 k6 k7 z1 z2 z3 hB
      obtain ⟨⟨k0, k1, k2, k3⟩, ⟨k4, k5, k6, k7⟩, ⟨z1, z2, z3⟩, hB⟩ := hT1
      go_wp2
      refine bodyPost_ret (v := .tuple #[.agg #[.int .i64 0, .int .i64 0], .int .i64 1]) (by simp only [results, Try.results14]; go_simp) rfl ⟨rfl, ?_⟩
      exact (hB.setCell (by simp <;> omega) _).setCell (by simp <;> omega) _
    · have HI := Lib.hid h1
      have HJ := Lib.hid h2
      unfold moveP spotV
      rw [h1, h2]
      rw [inB_iff] at h1 h2
      simp only [Bool.and_self, if_true]
      have H0 := rheld_any (a + c) (b + d)
      unfold spotV at H0
      generalize heldP (a + c) (b + d) = P at *
      have HH := Lib.hid H0
      clear H0
      obtain ⟨h11, h12, h13, h14⟩ := h1
      obtain ⟨h21, h22, h23, h24⟩ := h2
      have hT0 : Res w w.heap.size (w.heap.size + 1) (w.heap.size + 1 + 1) a b c d (((w.alloc (.cells #[.int .i64 a, .int .i64 b] 29)).alloc (.cells #[.int .i64 c, .int .i64 d] 29)).alloc (.cells #[.int .i64 0, .int .i64 0] 29)) := by
        refine ⟨⟨by go_simp, by go_simp, by go_simp, by go_simp⟩, ⟨valAt_of (by go_simp), valAt_of (by go_simp), by go_simp, by go_simp⟩, ⟨by simp <;> omega, by simp <;> omega, by simp⟩, ?_⟩
        exact ((((Below.refl _ _).alloc (Nat.le_refl _) _).alloc (by simp) _).alloc (by simp <;> omega) _)

      go_enter Try.func14, Try.ntmps14
      go_wp2_with fail
      refine (On_any _ _ _).mono ?_
      rintro e w1 ⟨rfl, hb1⟩
      rw [HI.out]
      have hT1 := Res.keep hb1 hT0
      have hT1' := Lib.hid hT1
      clear hb1 hT0
      obtain ⟨⟨k0, k1, k2, k3⟩, ⟨k4, k5, k6, k7⟩, ⟨z1, z2, z3⟩, hB⟩ := hT1
      go_wp2_with fail
      refine (On_any _ _ _).mono ?_
      rintro e w2 ⟨rfl, hb1⟩
      rw [HJ.out]
      have hT1 := Res.keep hb1 hT1'.out
      have hT1' := Lib.hid hT1
      clear hb1 k0 k1 k2 k3 k4 k5 k6 k7 z1 z2 z3 hB
      obtain ⟨⟨k0, k1, k2, k3⟩, ⟨k4, k5, k6, k7⟩, ⟨z1, z2, z3⟩, hB⟩ := hT1
      go_wp2_with fail
      refine (HH.out _).mono ?_
      rintro e w3 ⟨rfl, hb1⟩
      have hT1 := Res.keep hb1 hT1'.out
      clear hb1 hT1' k0 k1 k2 k3 k4 k5 k6 k7 z1 z2 z3 hB
      obtain ⟨⟨k0, k1, k2, k3⟩, ⟨k4, k5, k6, k7⟩, ⟨z1, z2, z3⟩, hB⟩ := hT1
      go_wp2
      refine bodyPost_ret (v := .tuple #[.agg #[.int .i64 P.1, .int .i64 P.2.1], .int .i64 P.2.2]) (by simp only [results, Try.results14]; go_simp) rfl ⟨rfl, ?_⟩
      exact (hB.setCell (by simp <;> omega) _).setCell (by simp <;> omega) _

theorem rtimes_any (a b c d : Int) (w : World) : Calls Try.prog 16 #[.agg #[.int .i64 a, .int .i64 b], .agg #[.int .i64 c, .int .i64 d]] w fun e w' =>
    e = .returned (spotV (timesP a b c d)) ∧ Below w.heap.size w w' := by
  rcases h1 : inB a b with _ | _
  · have HI := Lib.hid h1
    unfold timesP spotV
    rw [h1]
    clear h1
    have hT0 : Res w w.heap.size (w.heap.size + 1) (w.heap.size + 1 + 1) a b c d (((w.alloc (.cells #[.int .i64 a, .int .i64 b] 29)).alloc (.cells #[.int .i64 c, .int .i64 d] 29)).alloc (.cells #[.int .i64 0, .int .i64 0] 29)) := by
      refine ⟨⟨by go_simp, by go_simp, by go_simp, by go_simp⟩, ⟨valAt_of (by go_simp), valAt_of (by go_simp), by go_simp, by go_simp⟩, ⟨by simp <;> omega, by simp <;> omega, by simp⟩, ?_⟩
      exact ((((Below.refl _ _).alloc (Nat.le_refl _) _).alloc (by simp) _).alloc (by simp <;> omega) _)

    go_enter Try.func16, Try.ntmps16
    go_wp2_with fail
    refine (On_any _ _ _).mono ?_
    rintro e w1 ⟨rfl, hb1⟩
    rw [HI.out]
    have hT1 := Res.keep hb1 hT0
    clear hb1 hT0
    obtain ⟨⟨k0, k1, k2, k3⟩, ⟨k4, k5, k6, k7⟩, ⟨z1, z2, z3⟩, hB⟩ := hT1
    go_wp2
    refine bodyPost_ret (v := .tuple #[.agg #[.int .i64 0, .int .i64 0], .int .i64 1]) (by simp only [results, Try.results16]; go_simp) rfl ⟨rfl, ?_⟩
    exact (hB.setCell (by simp <;> omega) _).setCell (by simp <;> omega) _
  · rcases h2 : inB c d with _ | _
    · have HI := Lib.hid h1
      have HJ := Lib.hid h2
      unfold timesP spotV
      rw [h1, h2]
      clear h1 h2
      have hT0 : Res w w.heap.size (w.heap.size + 1) (w.heap.size + 1 + 1) a b c d (((w.alloc (.cells #[.int .i64 a, .int .i64 b] 29)).alloc (.cells #[.int .i64 c, .int .i64 d] 29)).alloc (.cells #[.int .i64 0, .int .i64 0] 29)) := by
        refine ⟨⟨by go_simp, by go_simp, by go_simp, by go_simp⟩, ⟨valAt_of (by go_simp), valAt_of (by go_simp), by go_simp, by go_simp⟩, ⟨by simp <;> omega, by simp <;> omega, by simp⟩, ?_⟩
        exact ((((Below.refl _ _).alloc (Nat.le_refl _) _).alloc (by simp) _).alloc (by simp <;> omega) _)

      go_enter Try.func16, Try.ntmps16
      go_wp2_with fail
      refine (On_any _ _ _).mono ?_
      rintro e w1 ⟨rfl, hb1⟩
      rw [HI.out]
      have hT1 := Res.keep hb1 hT0
      have hT1' := Lib.hid hT1
      clear hb1 hT0
      obtain ⟨⟨k0, k1, k2, k3⟩, ⟨k4, k5, k6, k7⟩, ⟨z1, z2, z3⟩, hB⟩ := hT1
      go_wp2_with fail
      refine (On_any _ _ _).mono ?_
      rintro e w2 ⟨rfl, hb1⟩
      rw [HJ.out]
      have hT1 := Res.keep hb1 hT1'.out
      clear hb1 hT1' k0 k1 k2 k3 k4 k5 k6 k7 z1 z2 z3 hB
      obtain ⟨⟨k0, k1, k2, k3⟩, ⟨k4, k5, k6, k7⟩, ⟨z1, z2, z3⟩, hB⟩ := hT1
      go_wp2
      refine bodyPost_ret (v := .tuple #[.agg #[.int .i64 0, .int .i64 0], .int .i64 1]) (by simp only [results, Try.results16]; go_simp) rfl ⟨rfl, ?_⟩
      exact (hB.setCell (by simp <;> omega) _).setCell (by simp <;> omega) _
    · have HI := Lib.hid h1
      have HJ := Lib.hid h2
      unfold timesP spotV
      rw [h1, h2]
      rw [inB_iff] at h1 h2
      simp only [Bool.and_self, if_true]
      have e1 := sq_bd a c (by omega) (by omega) (by omega) (by omega)
      have e2 := sq_bd b d (by omega) (by omega) (by omega) (by omega)
      have e3 := sq_bd a d (by omega) (by omega) (by omega) (by omega)
      have e4 := sq_bd b c (by omega) (by omega) (by omega) (by omega)
      obtain ⟨e11, e12⟩ := e1
      obtain ⟨e21, e22⟩ := e2
      obtain ⟨e31, e32⟩ := e3
      obtain ⟨e41, e42⟩ := e4
      have H0 := rheld_any (a * c - b * d) (a * d + b * c)
      unfold spotV at H0
      generalize heldP (a * c - b * d) (a * d + b * c) = P at *
      have HH := Lib.hid H0
      clear H0 h1 h2
      have hT0 : Res w w.heap.size (w.heap.size + 1) (w.heap.size + 1 + 1) a b c d (((w.alloc (.cells #[.int .i64 a, .int .i64 b] 29)).alloc (.cells #[.int .i64 c, .int .i64 d] 29)).alloc (.cells #[.int .i64 0, .int .i64 0] 29)) := by
        refine ⟨⟨by go_simp, by go_simp, by go_simp, by go_simp⟩, ⟨valAt_of (by go_simp), valAt_of (by go_simp), by go_simp, by go_simp⟩, ⟨by simp <;> omega, by simp <;> omega, by simp⟩, ?_⟩
        exact ((((Below.refl _ _).alloc (Nat.le_refl _) _).alloc (by simp) _).alloc (by simp <;> omega) _)

      go_enter Try.func16, Try.ntmps16
      go_wp2_with fail
      refine (On_any _ _ _).mono ?_
      rintro e w1 ⟨rfl, hb1⟩
      rw [HI.out]
      have hT1 := Res.keep hb1 hT0
      have hT1' := Lib.hid hT1
      clear hb1 hT0
      obtain ⟨⟨k0, k1, k2, k3⟩, ⟨k4, k5, k6, k7⟩, ⟨z1, z2, z3⟩, hB⟩ := hT1
      go_wp2_with fail
      refine (On_any _ _ _).mono ?_
      rintro e w2 ⟨rfl, hb1⟩
      rw [HJ.out]
      have hT1 := Res.keep hb1 hT1'.out
      have hT1' := Lib.hid hT1
      clear hb1 k0 k1 k2 k3 k4 k5 k6 k7 z1 z2 z3 hB
      obtain ⟨⟨k0, k1, k2, k3⟩, ⟨k4, k5, k6, k7⟩, ⟨z1, z2, z3⟩, hB⟩ := hT1
      go_wp2_with fail
      refine (HH.out _).mono ?_
      rintro e w3 ⟨rfl, hb1⟩
      have hT1 := Res.keep hb1 hT1'.out
      clear hb1 hT1' k0 k1 k2 k3 k4 k5 k6 k7 z1 z2 z3 hB
      obtain ⟨⟨k0, k1, k2, k3⟩, ⟨k4, k5, k6, k7⟩, ⟨z1, z2, z3⟩, hB⟩ := hT1
      go_wp2
      refine bodyPost_ret (v := .tuple #[.agg #[.int .i64 P.1, .int .i64 P.2.1], .int .i64 P.2.2]) (by simp only [results, Try.results16]; go_simp) rfl ⟨rfl, ?_⟩
      exact (hB.setCell (by simp <;> omega) _).setCell (by simp <;> omega) _
end Go.Proofs.Ytpmjigghboifdaa
