/- Walks over tollhouseref06: Far, Side. -/
import Derived.Test.YtpmjigghboifdaaSide
namespace Go.Proofs.Ytpmjigghboifdaa
open Go.RowKit Fl

theorem rfar_any (a b c d : Int) (w : World) : Calls Try.prog 23 #[.agg #[.int .i64 a, .int .i64 b], .agg #[.int .i64 c, .int .i64 d]] w fun e w' =>
    e = .returned (.int .i64 (farI a b c d)) ∧ Below w.heap.size w w' := by
  have hT0 : Two w w.heap.size (w.heap.size + 1) a b c d ((w.alloc (.cells #[.int .i64 a, .int .i64 b] 29)).alloc (.cells #[.int .i64 c, .int .i64 d] 29)) := by
    refine ⟨⟨by go_simp, by go_simp, by go_simp, by go_simp⟩, ⟨by simp <;> omega, by simp <;> omega⟩, ?_⟩
    exact ((Below.refl _ _).alloc (Nat.le_refl _) _).alloc (by simp) _
  have HT := Lib.hid hT0
  clear hT0
  unfold farI
  rcases h1 : inB a b with _ | _
  · have HI := Lib.hid h1
    clear h1
    go_enter Try.func23, Try.ntmps23
    go_wp2_with fail
    refine (On_any _ _ _).mono ?_
    rintro e' w1 ⟨rfl, hb1⟩
    rw [HI.out]
    have hT := Two.keep hb1 HT.out
    clear hb1 HT
    have HT := Lib.hid hT
    obtain ⟨⟨k0, k1, k2, k3⟩, ⟨z0, z1⟩, hB⟩ := hT
    go_wp2
    go_ret
    exact ⟨rfl, hB⟩
  · rcases h2 : inB c d with _ | _
    · have HI := Lib.hid h1
      have HJ := Lib.hid h2
      clear h1 h2
      go_enter Try.func23, Try.ntmps23
      go_wp2_with fail
      refine (On_any _ _ _).mono ?_
      rintro e' w1 ⟨rfl, hb1⟩
      rw [HI.out]
      have hT := Two.keep hb1 HT.out
      clear hb1 HT
      have HT := Lib.hid hT
      obtain ⟨⟨k0, k1, k2, k3⟩, ⟨z0, z1⟩, hB⟩ := hT
      go_wp2_with fail
      refine (On_any _ _ _).mono ?_
      rintro e' w1 ⟨rfl, hb1⟩
      rw [HJ.out]
      have hT := Two.keep hb1 HT.out
      clear hb1 HT k0 k1 k2 k3 z0 z1 hB
      have HT := Lib.hid hT
      obtain ⟨⟨k0, k1, k2, k3⟩, ⟨z0, z1⟩, hB⟩ := hT
      go_wp2
      go_ret
      exact ⟨rfl, hB⟩
    · have HI := Lib.hid h1
      have HJ := Lib.hid h2
      rw [inB_iff] at h1 h2
      have e1 := sq_bd (a - c) (a - c) (by omega) (by omega) (by omega) (by omega)
      have e2 := sq_bd (b - d) (b - d) (by omega) (by omega) (by omega) (by omega)
      obtain ⟨e11, e12⟩ := e1
      obtain ⟨e21, e22⟩ := e2
      obtain ⟨g1, g2, g3, g4⟩ := h1
      obtain ⟨g5, g6, g7, g8⟩ := h2
      go_enter Try.func23, Try.ntmps23
      go_wp2_with fail
      refine (On_any _ _ _).mono ?_
      rintro e' w1 ⟨rfl, hb1⟩
      rw [HI.out]
      have hT := Two.keep hb1 HT.out
      clear hb1 HT
      have HT := Lib.hid hT
      obtain ⟨⟨k0, k1, k2, k3⟩, ⟨z0, z1⟩, hB⟩ := hT
      go_wp2_with fail
      refine (On_any _ _ _).mono ?_
      rintro e' w1 ⟨rfl, hb1⟩
      rw [HJ.out]
      have hT := Two.keep hb1 HT.out
      clear hb1 HT k0 k1 k2 k3 z0 z1 hB
      have HT := Lib.hid hT
      obtain ⟨⟨k0, k1, k2, k3⟩, ⟨z0, z1⟩, hB⟩ := hT
      go_wp2
      go_ret
      exact ⟨rfl, hB⟩

set_option maxHeartbeats 1000000 in
theorem rside_any (a b c d e f : Int) (w : World) : Calls Try.prog 27 #[.agg #[.int .i64 a, .int .i64 b], .agg #[.int .i64 c, .int .i64 d], .agg #[.int .i64 e, .int .i64 f]] w fun e' w' =>
    e' = .returned (.int .i64 (sideI a b c d e f)) ∧ Below w.heap.size w w' := by
  have hT0 : Three w (w.heap.size) (w.heap.size + 1) (w.heap.size + 1 + 1) (.int .i64 a) (.int .i64 b) (.int .i64 c) (.int .i64 d) (.int .i64 e) (.int .i64 f) (((w.alloc (.cells #[.int .i64 a, .int .i64 b] 29)).alloc (.cells #[.int .i64 c, .int .i64 d] 29)).alloc (.cells #[.int .i64 e, .int .i64 f] 29)) := by
    refine ⟨⟨by go_simp, by go_simp, by go_simp, by go_simp, by go_simp, by go_simp⟩, ⟨by simp <;> omega, by simp <;> omega, by simp <;> omega⟩, ?_⟩
    exact (((Below.refl _ _).alloc (Nat.le_refl _) _).alloc (by simp) _).alloc (by simp <;> omega) _
  have HT := Lib.hid hT0
  clear hT0
  unfold sideI
  rcases h1 : inB a b with _ | _
  · have HI := Lib.hid h1
    clear h1
    go_enter Try.func27, Try.ntmps27
    go_wp2_with fail
    refine (On_any _ _ _).mono ?_
    rintro e' w1 ⟨rfl, hb1⟩
    rw [HI.out]
    have hT := Three.keep hb1 HT.out
    clear hb1 HT
    have HT := Lib.hid hT
    obtain ⟨⟨k0, k1, k2, k3, k4, k5⟩, ⟨z0, z1, z2⟩, hB⟩ := hT
    go_wp2
    go_ret
    exact ⟨rfl, hB⟩
  · rcases h2 : inB c d with _ | _
    · have HI := Lib.hid h1
      have HJ := Lib.hid h2
      clear h1 h2
      go_enter Try.func27, Try.ntmps27
      go_wp2_with fail
      refine (On_any _ _ _).mono ?_
      rintro e' w1 ⟨rfl, hb1⟩
      rw [HI.out]
      have hT := Three.keep hb1 HT.out
      clear hb1 HT
      have HT := Lib.hid hT
      obtain ⟨⟨k0, k1, k2, k3, k4, k5⟩, ⟨z0, z1, z2⟩, hB⟩ := hT
      go_wp2_with fail
      refine (On_any _ _ _).mono ?_
      rintro e' w1 ⟨rfl, hb1⟩
      rw [HJ.out]
      have hT := Three.keep hb1 HT.out
      clear hb1 HT k0 k1 k2 k3 k4 k5 z0 z1 z2 hB
      have HT := Lib.hid hT
      obtain ⟨⟨k0, k1, k2, k3, k4, k5⟩, ⟨z0, z1, z2⟩, hB⟩ := hT
      go_wp2
      go_ret
      exact ⟨rfl, hB⟩
    rcases h3 : inB e f with _ | _
    · have HI := Lib.hid h1
      have HJ := Lib.hid h2
      have HK := Lib.hid h3
      clear h1 h2 h3
      go_enter Try.func27, Try.ntmps27
      go_wp2_with fail
      refine (On_any _ _ _).mono ?_
      rintro e' w1 ⟨rfl, hb1⟩
      rw [HI.out]
      have hT := Three.keep hb1 HT.out
      clear hb1 HT
      have HT := Lib.hid hT
      obtain ⟨⟨k0, k1, k2, k3, k4, k5⟩, ⟨z0, z1, z2⟩, hB⟩ := hT
      go_wp2_with fail
      refine (On_any _ _ _).mono ?_
      rintro e' w1 ⟨rfl, hb1⟩
      rw [HJ.out]
      have hT := Three.keep hb1 HT.out
      clear hb1 HT k0 k1 k2 k3 k4 k5 z0 z1 z2 hB
      have HT := Lib.hid hT
      obtain ⟨⟨k0, k1, k2, k3, k4, k5⟩, ⟨z0, z1, z2⟩, hB⟩ := hT
      go_wp2_with fail
      refine (On_any _ _ _).mono ?_
      rintro e' w1 ⟨rfl, hb1⟩
      rw [HK.out]
      have hT := Three.keep hb1 HT.out
      clear hb1 HT k0 k1 k2 k3 k4 k5 z0 z1 z2 hB
      have HT := Lib.hid hT
      obtain ⟨⟨k0, k1, k2, k3, k4, k5⟩, ⟨z0, z1, z2⟩, hB⟩ := hT
      go_wp2
      go_ret
      exact ⟨rfl, hB⟩
    · have HI := Lib.hid h1
      have HJ := Lib.hid h2
      have HK := Lib.hid h3
      rw [inB_iff] at h1 h2 h3
      have e1 := sq_bd (c - a) (f - b) (by omega) (by omega) (by omega) (by omega)
      have e2 := sq_bd (d - b) (e - a) (by omega) (by omega) (by omega) (by omega)
      obtain ⟨e11, e12⟩ := e1
      obtain ⟨e21, e22⟩ := e2
      obtain ⟨g1, g2, g3, g4⟩ := h1
      obtain ⟨g5, g6, g7, g8⟩ := h2
      obtain ⟨g9, g10, g11, g12⟩ := h3
      go_enter Try.func27, Try.ntmps27
      go_wp2_with fail
      refine (On_any _ _ _).mono ?_
      rintro e' w1 ⟨rfl, hb1⟩
      rw [HI.out]
      have hT := Three.keep hb1 HT.out
      clear hb1 HT
      have HT := Lib.hid hT
      obtain ⟨⟨k0, k1, k2, k3, k4, k5⟩, ⟨z0, z1, z2⟩, hB⟩ := hT
      go_wp2_with fail
      refine (On_any _ _ _).mono ?_
      rintro e' w1 ⟨rfl, hb1⟩
      rw [HJ.out]
      have hT := Three.keep hb1 HT.out
      clear hb1 HT k0 k1 k2 k3 k4 k5 z0 z1 z2 hB
      have HT := Lib.hid hT
      obtain ⟨⟨k0, k1, k2, k3, k4, k5⟩, ⟨z0, z1, z2⟩, hB⟩ := hT
      go_wp2_with fail
      refine (On_any _ _ _).mono ?_
      rintro e' w1 ⟨rfl, hb1⟩
      rw [HK.out]
      have hT := Three.keep hb1 HT.out
      clear hb1 HT k0 k1 k2 k3 k4 k5 z0 z1 z2 hB
      have HT := Lib.hid hT
      obtain ⟨⟨k0, k1, k2, k3, k4, k5⟩, ⟨z0, z1, z2⟩, hB⟩ := hT
      go_wp2
      all_goals
        go_ret
        refine ⟨ret_int ?_, hB⟩
        try simp only [Bool.and_self, if_true]
        unfold sgnI
        first | (rw [if_pos (by omega)]) | (rw [if_neg (by omega), if_pos (by omega)]) | (rw [if_neg (by omega), if_neg (by omega)])
end Go.Proofs.Ytpmjigghboifdaa
