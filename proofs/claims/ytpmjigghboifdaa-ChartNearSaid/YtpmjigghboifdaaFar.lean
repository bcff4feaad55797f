/- Walk over chart.Far. -/
import Derived.Test.YtpmjigghboifdaaOn
namespace Go.Proofs.Ytpmjigghboifdaa
open Go.RowKit Fl
attribute [local go_sem] run_store_complex run_neg_float

def farI (a b c d : Int) : Int := if inB a b && inB c d then (a - c) * (a - c) + (b - d) * (b - d) else -1

theorem Spots.two {w : World} {b : Nat} {x0 y0 x1 y1 : Int} (hb : b < w.heap.size) (h0 : w.cell? ⟨b, 0, none⟩ = some (.int .i64 x0)) (h1 : w.cell? ⟨b, 1, none⟩ = some (.int .i64 y0)) (h2 : w.cell? ⟨b, 2, none⟩ = some (.int .i64 x1)) (h3 : w.cell? ⟨b, 3, none⟩ = some (.int .i64 y1)) : Spots w b [(x0, y0), (x1, y1)] := by
  refine ⟨hb, fun i p hp => ?_⟩
  match i with
  | 0 => simp at hp; subst hp; exact ⟨h0, h1⟩
  | 1 => simp at hp; subst hp; exact ⟨h2, h3⟩
  | i + 2 => simp at hp
theorem allIn_two (a b c d : Int) : allIn [(a, b), (c, d)] = (inB a b && inB c d) := by simp [allIn]

theorem sq_bd (x y : Int) (h1 : -2000 ≤ x) (h2 : x ≤ 2000) (h3 : -2000 ≤ y) (h4 : y ≤ 2000) : -4000000 ≤ x * y ∧ x * y ≤ 4000000 := by
  have := Int.mul_nonneg (a := 2000 - x) (b := 2000 - y) (by omega) (by omega)
  have := Int.mul_nonneg (a := 2000 + x) (b := 2000 + y) (by omega) (by omega)
  have := Int.mul_nonneg (a := 2000 + x) (b := 2000 - y) (by omega) (by omega)
  have := Int.mul_nonneg (a := 2000 - x) (b := 2000 + y) (by omega) (by omega)
  simp only [Int.sub_mul, Int.mul_sub, Int.add_mul, Int.mul_add] at *
  omega
/-- Two spots in two blocks, and all that was there, behind a callee that makes memory of its own. -/
def Two (w0 : World) (p q : Nat) (a b c d : Int) (w : World) : Prop :=
  (w.cell? ⟨p, 0, none⟩ = some (.int .i64 a) ∧ w.cell? ⟨p, 1, none⟩ = some (.int .i64 b) ∧ w.cell? ⟨q, 0, none⟩ = some (.int .i64 c) ∧ w.cell? ⟨q, 1, none⟩ = some (.int .i64 d)) ∧ (p < w.heap.size ∧ q < w.heap.size) ∧ Below w0.heap.size w0 w
theorem Two.keep {w0 : World} {p q : Nat} {a b c d : Int} {w w' : World} (hb' : Below w.heap.size w w') (h : Two w0 p q a b c d w) : Two w0 p q a b c d w' := by
  obtain ⟨⟨h0, h1, h2, h3⟩, ⟨hp, hq⟩, hw⟩ := h
  refine ⟨⟨?_, ?_, ?_, ?_⟩, ⟨?_, ?_⟩, hw.trans (hb'.mono hw.size)⟩
  · rw [hb'.cell hp]; exact h0
  · rw [hb'.cell hp]; exact h1
  · rw [hb'.cell hq]; exact h2
  · rw [hb'.cell hq]; exact h3
  · exact Nat.lt_of_lt_of_le hp hb'.size
  · exact Nat.lt_of_lt_of_le hq hb'.size
theorem Two.drew {w0 : World} {p q : Nat} {a b c d : Int} {w : World} (h : Two w0 p q a b c d w) : Two w0 p q a b c d w.drew := ⟨h.1, h.2.1, h.2.2.drew⟩
theorem far_no (a b c d : Int) (h : (inB a b && inB c d) = false) (w : World) : Calls Try.prog 22 #[.agg #[.int .i64 a, .int .i64 b], .agg #[.int .i64 c, .int .i64 d]] w fun e w' =>
    e = .returned (.int .i64 (-1)) ∧ Below w.heap.size w w' := by
  have HI := Lib.hid h
  clear h
  go_enter Try.func22, Try.ntmps22
  go_wp2_with fail
  refine (on_any [(a, b), (c, d)] _ _ _ (Spots.two (by simp) (by go_simp) (by go_simp) (by go_simp) (by go_simp)) (by show 2 ≤ 1000000000; omega)).mono ?_
  rintro e w1 ⟨rfl, hb1⟩
  rw [allIn_two, HI.out]
  go_wp2
  go_ret
  exact ⟨rfl, (((Below.refl _ _).alloc (Nat.le_refl _) _).alloc (by simp) _).alloc (by simp; omega) _ |>.trans (hb1.mono (by simp; omega))⟩

theorem far_yes (a b c d : Int) (h1 : inB a b = true) (h2 : inB c d = true) (w : World) : Calls Try.prog 22 #[.agg #[.int .i64 a, .int .i64 b], .agg #[.int .i64 c, .int .i64 d]] w fun e w' =>
    e = .returned (.int .i64 ((a - c) * (a - c) + (b - d) * (b - d))) ∧ Below w.heap.size w w' := by
  have HI := Lib.hid (show (inB a b && inB c d) = true by rw [h1, h2]; rfl)
  rw [inB_iff] at h1 h2
  obtain ⟨r, s, R1, sub1⟩ := c_sub (fl_rep2 a b (by omega) (by omega)) (fl_rep2 c d (by omega) (by omega)) (by omega) (by omega)
  have e1 : -4000000 ≤ (a - c) * (a - c) ∧ (a - c) * (a - c) ≤ 4000000 := sq_bd _ _ (by omega) (by omega) (by omega) (by omega)
  have e2 : -4000000 ≤ (b - d) * (b - d) ∧ (b - d) * (b - d) ≤ 4000000 := sq_bd _ _ (by omega) (by omega) (by omega) (by omega)
  have e3 : -4000000 ≤ (a - c) * (b - d) ∧ (a - c) * (b - d) ≤ 4000000 := sq_bd _ _ (by omega) (by omega) (by omega) (by omega)
  have e4 : (b - d) * -(b - d) = - ((b - d) * (b - d)) := Int.mul_neg _ _
  have e5 : (a - c) * -(b - d) = - ((a - c) * (b - d)) := Int.mul_neg _ _
  have e6 : (b - d) * (a - c) = (a - c) * (b - d) := Int.mul_comm _ _
  obtain ⟨p, q, R2, mul1⟩ := c_mul (c := r) (d := Op.negFloat .f64 s) R1 ⟨R1.1, rep_neg R1.2⟩ (by omega) (by omega) (by omega) (by omega) (by omega) (by omega)
  have c1 := rep_floatToInt R2.1 (by omega) (by omega)
  have r1 := fun w' : World => run_convert_float_int (P := Try.prog) w' 59 3 .f64 .i64 p _ (by rw [Try.underlying59]; rfl) Try.underlying3 c1
  rw [e4, Int.sub_neg] at r1
  clear c1 e1 e2 e3 e4 e5 e6 R1 R2 h1 h2
  go_enter Try.func22, Try.ntmps22
  go_wp2_with fail
  refine (on_any [(a, b), (c, d)] _ _ _ (Spots.two (by simp) (by go_simp) (by go_simp) (by go_simp) (by go_simp)) (by show 2 ≤ 1000000000; omega)).mono ?_
  rintro e w1 ⟨rfl, hb1⟩
  rw [allIn_two, HI.out]
  have hz : w.heap.size + 2 < w1.heap.size := by have := hb1.size; simp at this; omega
  have k0 : w1.cell? ⟨w.heap.size, 0, none⟩ = some (.int .i64 a) := by rw [hb1.cell (by simp; omega)]; go_simp
  have k1 : w1.cell? ⟨w.heap.size, 1, none⟩ = some (.int .i64 b) := by rw [hb1.cell (by simp; omega)]; go_simp
  have k2 : w1.cell? ⟨w.heap.size + 1, 0, none⟩ = some (.int .i64 c) := by rw [hb1.cell (by simp)]; go_simp
  have k3 : w1.cell? ⟨w.heap.size + 1, 1, none⟩ = some (.int .i64 d) := by rw [hb1.cell (by simp)]; go_simp
  go_wp2_with fail
  have hbase : Below w.heap.size w w1 := (((Below.refl _ _).alloc (Nat.le_refl _) _).alloc (by simp) _).alloc (by simp; omega) _ |>.trans (hb1.mono (by simp; omega))
  clear hb1
  have hT : Two w w.heap.size (w.heap.size + 1) a b c d w1 := ⟨⟨k0, k1, k2, k3⟩, ⟨by omega, by omega⟩, hbase⟩
  clear hbase
  go_region_held3 (fun w' => (w'.cell? ⟨w.heap.size, 0, none⟩ = some (.int .i64 a) ∧ w'.cell? ⟨w.heap.size, 1, none⟩ = some (.int .i64 b) ∧ w'.cell? ⟨w.heap.size + 1, 0, none⟩ = some (.int .i64 c) ∧ w'.cell? ⟨w.heap.size + 1, 1, none⟩ = some (.int .i64 d)) ∧ (w.heap.size < w'.heap.size ∧ w.heap.size + 1 < w'.heap.size) ∧ Below w.heap.size w w')
    (first | exact hT.drew | (apply Two.keep; assumption; assumption))
    (first | (go_at_call_of 31 (Value.agg #[Value.int .i64 a, Value.int .i64 b]); refine (at_any a b _).mono ?_; rintro e w2 ⟨rfl, hb2⟩) | (go_at_call_of 31 (Value.agg #[Value.int .i64 c, Value.int .i64 d]); refine (at_any c d _).mono ?_; rintro e w2 ⟨rfl, hb2⟩))
  all_goals
    go_wp2
    go_ret
    exact ⟨rfl, And.right (And.right ‹_ ∧ _ ∧ Below _ _ _›)⟩
end Go.Proofs.Ytpmjigghboifdaa
