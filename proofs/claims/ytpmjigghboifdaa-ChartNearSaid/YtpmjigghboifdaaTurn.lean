/- Walk over chart.Turn: the region that turns a spot draws its order; the callees make memory. -/
import Derived.Test.YtpmjigghboifdaaMove
namespace Go.Proofs.Ytpmjigghboifdaa
open Go.RowKit Fl
attribute [local go_sem] run_store_complex run_neg_float

theorem turn_no (a b c d : Int) (n : Int) (h : (inB a b && inB c d) = false) (w : World) : Calls Try.prog 17 #[.agg #[.int .i64 a, .int .i64 b], .agg #[.int .i64 c, .int .i64 d], .int .i64 n] w fun e w' =>
    e = .returned (spotV (turnP a b c d n)) ∧ Below w.heap.size w w' := by
  have HI := Lib.hid h
  unfold turnP
  rw [h]
  clear h
  go_enter Try.func17, Try.ntmps17
  go_wp2_with fail
  refine (on_any [(a, b), (c, d)] _ _ _ (Spots.two (by simp) (by go_simp) (by go_simp) (by go_simp) (by go_simp)) (by show 2 ≤ 1000000000; omega)).mono ?_
  rintro e w1 ⟨rfl, hb1⟩
  rw [allIn_two, HI.out]
  have hz : w.heap.size + 2 < w1.heap.size := by have := hb1.size; simp at this; omega
  have k4 : w1.cell? ⟨w.heap.size + 1 + 1, 0, none⟩ = some (.int .i64 0) := by rw [hb1.cell (by simp)]; go_simp
  have k5 : w1.cell? ⟨w.heap.size + 1 + 1, 1, none⟩ = some (.int .i64 0) := by rw [hb1.cell (by simp)]; go_simp
  have k6 : w1.frozen? ⟨w.heap.size + 1 + 1, 0, none⟩ = false := by rw [hb1.frozen (by simp)]; go_simp
  have k7 : w1.frozen? ⟨w.heap.size + 1 + 1, 1, none⟩ = false := by rw [hb1.frozen (by simp)]; go_simp
  have hbase : Below w.heap.size w w1 := ((((Below.refl _ _).alloc (Nat.le_refl _) _).alloc (by simp) _).alloc (by simp; omega) _).alloc (by simp; omega) _ |>.trans (hb1.mono (by simp; omega))
  clear hb1
  go_wp2
  refine bodyPost_ret (v := .tuple #[.agg #[.int .i64 0, .int .i64 0], .int .i64 1]) (by simp only [results, Try.results17]; go_simp) rfl ⟨rfl, ?_⟩
  exact (hbase.setCell (by simp; omega) _).setCell (by simp; omega) _

set_option maxHeartbeats 1000000 in
theorem turn_yes (a b c d : Int) (n : Int) (hn1 : -9223372036854775808 ≤ n) (hn2 : n ≤ 9223372036854775807) (h1 : inB a b = true) (h2 : inB c d = true) (w : World) : Calls Try.prog 17 #[.agg #[.int .i64 a, .int .i64 b], .agg #[.int .i64 c, .int .i64 d], .int .i64 n] w fun e w' =>
    e = .returned (spotV (turnP a b c d n)) ∧ Below w.heap.size w w' := by
  have HI := Lib.hid (show (inB a b && inB c d) = true by rw [h1, h2]; rfl)
  unfold turnP
  rw [HI.out, if_pos rfl]
  rw [inB_iff] at h1 h2
  obtain ⟨⟨q1, q2⟩, ⟨q3, q4⟩⟩ := q_small n
  have QR := qrep (quart n) (quart_lt n)
  have QC := Lib.hid (quarters_any n hn1 hn2)
  generalize qx (quart n) = qX, qy (quart n) = qY at *
  have e1 := sq_bd (a - c) qX (by omega) (by omega) (by omega) (by omega)
  have e2 := sq_bd (b - d) qY (by omega) (by omega) (by omega) (by omega)
  have e3 := sq_bd (a - c) qY (by omega) (by omega) (by omega) (by omega)
  have e4 := sq_bd (b - d) qX (by omega) (by omega) (by omega) (by omega)
  obtain ⟨r, s, R1, op1⟩ := c_sub (fl_rep2 a b (by omega) (by omega)) (fl_rep2 c d (by omega) (by omega)) (by omega) (by omega)
  obtain ⟨r2, s2, R2, op2⟩ := c_mul R1 QR (by omega) (by omega) (by omega) (by omega) (by omega) (by omega)
  obtain ⟨r3, s3, R3, op3⟩ := c_add (fl_rep2 c d (by omega) (by omega)) R2 (by omega) (by omega)
  have H0 := held_any r3 s3 _ _ R3.1 R3.2 (by omega) (by omega)
  unfold spotV at H0 ⊢
  generalize heldP (c + ((a - c) * qX - (b - d) * qY)) (d + ((a - c) * qY + (b - d) * qX)) = P at *
  have HH := Lib.hid H0
  clear R1 R2 R3 H0 e1 e2 e3 e4 q1 q2 q3 q4 QR hn1 hn2
  clear h1 h2
  go_enter Try.func17, Try.ntmps17
  go_wp2_with fail
  refine (on_any [(a, b), (c, d)] _ _ _ (Spots.two (by simp) (by go_simp) (by go_simp) (by go_simp) (by go_simp)) (by show 2 ≤ 1000000000; omega)).mono ?_
  rintro e w1 ⟨rfl, hb1⟩
  rw [allIn_two, HI.out]
  have hz : w.heap.size + 2 < w1.heap.size := by have := hb1.size; simp at this; omega
  have k0 : w1.cell? ⟨w.heap.size, 0, none⟩ = some (.int .i64 a) := by rw [hb1.cell (by simp; omega)]; go_simp
  have k1 : w1.cell? ⟨w.heap.size, 1, none⟩ = some (.int .i64 b) := by rw [hb1.cell (by simp; omega)]; go_simp
  have k2 : w1.cell? ⟨w.heap.size + 1, 0, none⟩ = some (.int .i64 c) := by rw [hb1.cell (by simp)]; go_simp
  have k3 : w1.cell? ⟨w.heap.size + 1, 1, none⟩ = some (.int .i64 d) := by rw [hb1.cell (by simp)]; go_simp
  have k4 : w1.cell? ⟨w.heap.size + 1 + 1, 0, none⟩ = some (valAt w1 (w.heap.size + 1 + 1) 0) := valAt_of (by rw [hb1.cell (by simp)]; go_simp)
  have k5 : w1.cell? ⟨w.heap.size + 1 + 1, 1, none⟩ = some (valAt w1 (w.heap.size + 1 + 1) 1) := valAt_of (by rw [hb1.cell (by simp)]; go_simp)
  have k6 : w1.frozen? ⟨w.heap.size + 1 + 1, 0, none⟩ = false := by rw [hb1.frozen (by simp)]; go_simp
  have k7 : w1.frozen? ⟨w.heap.size + 1 + 1, 1, none⟩ = false := by rw [hb1.frozen (by simp)]; go_simp
  have hbase : Below w.heap.size w w1 := ((((Below.refl _ _).alloc (Nat.le_refl _) _).alloc (by simp) _).alloc (by simp; omega) _).alloc (by simp; omega) _ |>.trans (hb1.mono (by simp; omega))
  clear hb1
  have hT : Res w w.heap.size (w.heap.size + 1) (w.heap.size + 1 + 1) a b c d w1 := ⟨⟨k0, k1, k2, k3⟩, ⟨k4, k5, k6, k7⟩, ⟨by omega, by omega, by omega⟩, hbase⟩
  clear k0 k1 k2 k3 k4 k5 k6 k7 hz hbase
  go_wp2_with fail
  go_region_held3 (fun w' => (w'.cell? ⟨w.heap.size, 0, none⟩ = some (.int .i64 a) ∧ w'.cell? ⟨w.heap.size, 1, none⟩ = some (.int .i64 b) ∧ w'.cell? ⟨w.heap.size + 1, 0, none⟩ = some (.int .i64 c) ∧ w'.cell? ⟨w.heap.size + 1, 1, none⟩ = some (.int .i64 d)) ∧ (w'.cell? ⟨w.heap.size + 1 + 1, 0, none⟩ = some (valAt w' (w.heap.size + 1 + 1) 0) ∧ w'.cell? ⟨w.heap.size + 1 + 1, 1, none⟩ = some (valAt w' (w.heap.size + 1 + 1) 1) ∧ w'.frozen? ⟨w.heap.size + 1 + 1, 0, none⟩ = false ∧ w'.frozen? ⟨w.heap.size + 1 + 1, 1, none⟩ = false) ∧ (w.heap.size < w'.heap.size ∧ w.heap.size + 1 < w'.heap.size ∧ w.heap.size + 1 + 1 < w'.heap.size) ∧ Below w.heap.size w w')
    (first | exact hT.drew | (apply Res.keep; assumption; assumption) | (apply Res.set; apply Res.set; assumption; all_goals omega))
    (first | (go_at_call_of 31 (Value.agg #[Value.int .i64 a, Value.int .i64 b]); refine (at_any a b _).mono ?_; rintro e w2 ⟨rfl, hb2⟩) | (go_at_call_of 31 (Value.agg #[Value.int .i64 c, Value.int .i64 d]); refine (at_any c d _).mono ?_; rintro e w2 ⟨rfl, hb2⟩) | (go_at_call 30; refine (HH.out _).mono ?_; rintro e w2 ⟨rfl, hb2⟩) | (go_at_call 33; refine (QC.out _).mono ?_; rintro e w2 ⟨rfl, hb2⟩))
  all_goals
    go_wp2
    rename_i hH
    obtain ⟨_, ⟨h4, h5, _, _⟩, _, hB⟩ := hH
    obtain ⟨g0, g1⟩ := final2 h4 h5
    clear h4 h5
    refine bodyPost_ret (v := .tuple #[.agg #[.int .i64 P.1, .int .i64 P.2.1], .int .i64 P.2.2]) (by simp only [results, Try.results17]; go_simp) rfl ⟨rfl, hB⟩
end Go.Proofs.Ytpmjigghboifdaa
