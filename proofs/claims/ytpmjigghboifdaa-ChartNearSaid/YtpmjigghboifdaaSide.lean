/- Walk over chart.Side. -/
import Derived.Test.YtpmjigghboifdaaMirror
namespace Go.Proofs.Ytpmjigghboifdaa
open Go.RowKit Fl
attribute [local go_sem] run_store_complex run_neg_float
def Three (w0 : World) (p0 p1 p2 : Nat) (v00 v01 v10 v11 v20 v21 : Value) (w : World) : Prop :=
  (w.cell? ⟨p0, 0, none⟩ = some (v00) ∧ w.cell? ⟨p0, 1, none⟩ = some (v01) ∧ w.cell? ⟨p1, 0, none⟩ = some (v10) ∧ w.cell? ⟨p1, 1, none⟩ = some (v11) ∧ w.cell? ⟨p2, 0, none⟩ = some (v20) ∧ w.cell? ⟨p2, 1, none⟩ = some (v21)) ∧ (p0 < w.heap.size ∧ p1 < w.heap.size ∧ p2 < w.heap.size) ∧ Below w0.heap.size w0 w
theorem Three.keep {w0 : World} {p0 p1 p2 : Nat} {v00 v01 v10 v11 v20 v21 : Value} {w w' : World} (hb : Below w.heap.size w w') (h : Three w0 p0 p1 p2 v00 v01 v10 v11 v20 v21 w) : Three w0 p0 p1 p2 v00 v01 v10 v11 v20 v21 w' := by
  obtain ⟨⟨h00, h01, h10, h11, h20, h21⟩, ⟨z0, z1, z2⟩, hw⟩ := h
  exact ⟨⟨(hb.cell (p := ⟨p0, 0, none⟩) z0).trans h00, (hb.cell (p := ⟨p0, 1, none⟩) z0).trans h01, (hb.cell (p := ⟨p1, 0, none⟩) z1).trans h10, (hb.cell (p := ⟨p1, 1, none⟩) z1).trans h11, (hb.cell (p := ⟨p2, 0, none⟩) z2).trans h20, (hb.cell (p := ⟨p2, 1, none⟩) z2).trans h21⟩, ⟨Nat.lt_of_lt_of_le z0 hb.size, Nat.lt_of_lt_of_le z1 hb.size, Nat.lt_of_lt_of_le z2 hb.size⟩, hw.trans (hb.mono hw.size)⟩
theorem Three.drew {w0 : World} {p0 p1 p2 : Nat} {v00 v01 v10 v11 v20 v21 : Value} {w : World} (h : Three w0 p0 p1 p2 v00 v01 v10 v11 v20 v21 w) : Three w0 p0 p1 p2 v00 v01 v10 v11 v20 v21 w.drew := ⟨h.1, h.2.1, h.2.2.drew⟩
theorem Three.alloc {w0 : World} {p0 p1 p2 : Nat} {v00 v01 v10 v11 v20 v21 : Value} {w : World} (h : Three w0 p0 p1 p2 v00 v01 v10 v11 v20 v21 w) (o : Obj) : Three w0 p0 p1 p2 v00 v01 v10 v11 v20 v21 (w.alloc o) := by
  obtain ⟨⟨h00, h01, h10, h11, h20, h21⟩, ⟨z0, z1, z2⟩, hw⟩ := h
  exact ⟨⟨(World.cell?_alloc_lt (a := ⟨p0, 0, none⟩) w o z0).trans h00, (World.cell?_alloc_lt (a := ⟨p0, 1, none⟩) w o z0).trans h01, (World.cell?_alloc_lt (a := ⟨p1, 0, none⟩) w o z1).trans h10, (World.cell?_alloc_lt (a := ⟨p1, 1, none⟩) w o z1).trans h11, (World.cell?_alloc_lt (a := ⟨p2, 0, none⟩) w o z2).trans h20, (World.cell?_alloc_lt (a := ⟨p2, 1, none⟩) w o z2).trans h21⟩, ⟨by simp only [World.size_alloc]; omega, by simp only [World.size_alloc]; omega, by simp only [World.size_alloc]; omega⟩, hw.alloc hw.size o⟩

def sgnI (t : Int) : Int := if 0 < t then 1 else if t < 0 then -1 else 0
def sideI (a b c d e f : Int) : Int := if inB a b && inB c d && inB e f then sgnI ((c - a) * (f - b) - (d - b) * (e - a)) else 0
theorem Spots.three {w : World} {b : Nat} {x0 y0 x1 y1 x2 y2 : Int} (hb : b < w.heap.size) (h0 : w.cell? ⟨b, 0, none⟩ = some (.int .i64 x0)) (h1 : w.cell? ⟨b, 1, none⟩ = some (.int .i64 y0)) (h2 : w.cell? ⟨b, 2, none⟩ = some (.int .i64 x1)) (h3 : w.cell? ⟨b, 3, none⟩ = some (.int .i64 y1)) (h4 : w.cell? ⟨b, 4, none⟩ = some (.int .i64 x2)) (h5 : w.cell? ⟨b, 5, none⟩ = some (.int .i64 y2)) : Spots w b [(x0, y0), (x1, y1), (x2, y2)] := by
  refine ⟨hb, fun i p hp => ?_⟩
  match i with
  | 0 => simp at hp; subst hp; exact ⟨h0, h1⟩
  | 1 => simp at hp; subst hp; exact ⟨h2, h3⟩
  | 2 => simp at hp; subst hp; exact ⟨h4, h5⟩
  | i + 3 => simp at hp
theorem allIn_three (a b c d e f : Int) : allIn [(a, b), (c, d), (e, f)] = (inB a b && inB c d && inB e f) := by simp [allIn, Bool.and_assoc]

theorem side_no (a b c d e f : Int) (h : (inB a b && inB c d && inB e f) = false) (w : World) : Calls Try.prog 26 #[.agg #[.int .i64 a, .int .i64 b], .agg #[.int .i64 c, .int .i64 d], .agg #[.int .i64 e, .int .i64 f]] w fun e' w' =>
    e' = .returned (.int .i64 0) ∧ Below w.heap.size w w' := by
  have HI := Lib.hid h
  clear h
  go_enter Try.func26, Try.ntmps26
  go_wp2_with fail
  refine (on_any [(a, b), (c, d), (e, f)] _ _ _ (Spots.three (by simp) (by go_simp) (by go_simp) (by go_simp) (by go_simp) (by go_simp) (by go_simp)) (by show 3 ≤ 1000000000; omega)).mono ?_
  rintro e' w1 ⟨rfl, hb1⟩
  rw [allIn_three, HI.out]
  go_wp2
  go_ret
  exact ⟨rfl, ((((Below.refl _ _).alloc (Nat.le_refl _) _).alloc (by simp) _).alloc (by simp <;> omega) _).alloc (by simp <;> omega) _ |>.trans (hb1.mono (by simp <;> omega))⟩

set_option maxHeartbeats 1000000 in
theorem side_yes (a b c d e f : Int) (h1 : inB a b = true) (h2 : inB c d = true) (h3 : inB e f = true) (w : World) : Calls Try.prog 26 #[.agg #[.int .i64 a, .int .i64 b], .agg #[.int .i64 c, .int .i64 d], .agg #[.int .i64 e, .int .i64 f]] w fun e' w' =>
    e' = .returned (.int .i64 (sgnI ((c - a) * (f - b) - (d - b) * (e - a)))) ∧ Below w.heap.size w w' := by
  have HI := Lib.hid (show (inB a b && inB c d && inB e f) = true by rw [h1, h2, h3]; rfl)
  rw [inB_iff] at h1 h2 h3
  have e1 := sq_bd (c - a) (e - a) (by omega) (by omega) (by omega) (by omega)
  have e2 := sq_bd (d - b) (f - b) (by omega) (by omega) (by omega) (by omega)
  have e3 := sq_bd (c - a) (f - b) (by omega) (by omega) (by omega) (by omega)
  have e4 := sq_bd (d - b) (e - a) (by omega) (by omega) (by omega) (by omega)
  have n2 : -(d - b) * (f - b) = -((d - b) * (f - b)) := Int.neg_mul _ _
  have n4 : -(d - b) * (e - a) = -((d - b) * (e - a)) := Int.neg_mul _ _
  obtain ⟨r, s, R1, op1⟩ := c_sub (fl_rep2 c d (by omega) (by omega)) (fl_rep2 a b (by omega) (by omega)) (by omega) (by omega)
  obtain ⟨r2, s2, R2, op2⟩ := c_sub (fl_rep2 e f (by omega) (by omega)) (fl_rep2 a b (by omega) (by omega)) (by omega) (by omega)
  obtain ⟨p, q, R3, op3⟩ := c_mul (a := r) (b := Op.negFloat .f64 s) ⟨R1.1, rep_neg R1.2⟩ R2 (by omega) (by omega) (by omega) (by omega) (by omega) (by omega)
  have R4 := R3.2
  rw [n4, ← Int.sub_eq_add_neg] at R4
  have ho := rep_order R4 rep_zero
  generalize (c - a) * (f - b) - (d - b) * (e - a) = t at *
  clear R1 R2 R3 R4 e1 e2 e3 e4 n2 n4 h1 h2 h3
  have hT0 : Three w (w.heap.size) (w.heap.size + 1) (w.heap.size + 1 + 1) (.int .i64 a) (.int .i64 b) (.int .i64 c) (.int .i64 d) (.int .i64 e) (.int .i64 f) ((((w.alloc (.cells #[.int .i64 a, .int .i64 b] 23)).alloc (.cells #[.int .i64 c, .int .i64 d] 23)).alloc (.cells #[.int .i64 e, .int .i64 f] 23)).alloc (.cells #[.int .i64 a, .int .i64 b, .int .i64 c, .int .i64 d, .int .i64 e, .int .i64 f] 23)) := by
    refine ⟨⟨by go_simp, by go_simp, by go_simp, by go_simp, by go_simp, by go_simp⟩, ⟨by simp <;> omega, by simp <;> omega, by simp <;> omega⟩, ?_⟩
    exact ((((Below.refl _ _).alloc (Nat.le_refl _) _).alloc (by simp) _).alloc (by simp <;> omega) _).alloc (by simp <;> omega) _
  have HT0 := Lib.hid hT0
  clear hT0
  have hcases : (t = 0 ∧ compare t 0 = Ordering.eq) ∨ (0 < t ∧ compare t 0 = Ordering.gt) ∨ (t < 0 ∧ compare t 0 = Ordering.lt) := by
    rcases Int.lt_trichotomy t 0 with h | h | h
    · exact .inr (.inr ⟨h, Int.compare_eq_lt.2 h⟩)
    · exact .inl ⟨h, by rw [h]; rfl⟩
    · exact .inr (.inl ⟨h, Int.compare_eq_gt.2 h⟩)
  rcases hcases with ⟨ht, hc⟩ | ⟨ht, hc⟩ | ⟨ht, hc⟩
  all_goals
    rw [hc] at ho
    have HT := Lib.hid ht
    clear hc ht
    go_enter Try.func26, Try.ntmps26
    go_wp2_with fail
    refine (on_any [(a, b), (c, d), (e, f)] _ _ _ (Spots.three (by simp) (by go_simp) (by go_simp) (by go_simp) (by go_simp) (by go_simp) (by go_simp)) (by show 3 ≤ 1000000000; omega)).mono ?_
    rintro e' w1 ⟨rfl, hb1⟩
    rw [allIn_three, HI.out]
    have hT := Three.keep hb1 HT0.out
    clear hb1
    have HT1 := Lib.hid hT
    clear hT
    go_wp2_with fail
    go_region_held3 (fun w' => (w'.cell? ⟨w.heap.size, 0, none⟩ = some (.int .i64 a) ∧ w'.cell? ⟨w.heap.size, 1, none⟩ = some (.int .i64 b) ∧ w'.cell? ⟨w.heap.size + 1, 0, none⟩ = some (.int .i64 c) ∧ w'.cell? ⟨w.heap.size + 1, 1, none⟩ = some (.int .i64 d) ∧ w'.cell? ⟨w.heap.size + 1 + 1, 0, none⟩ = some (.int .i64 e) ∧ w'.cell? ⟨w.heap.size + 1 + 1, 1, none⟩ = some (.int .i64 f)) ∧ (w.heap.size < w'.heap.size ∧ w.heap.size + 1 < w'.heap.size ∧ w.heap.size + 1 + 1 < w'.heap.size) ∧ Below w.heap.size w w')
      (first | exact HT1.out.drew | assumption | (apply Three.keep; assumption; assumption))
      (first | (go_at_call_of 31 (Value.agg #[Value.int .i64 a, Value.int .i64 b]); refine (at_any a b _).mono ?_; rintro e' w2 ⟨rfl, hb2⟩) | (go_at_call_of 31 (Value.agg #[Value.int .i64 c, Value.int .i64 d]); refine (at_any c d _).mono ?_; rintro e' w2 ⟨rfl, hb2⟩))
  all_goals
    rename_i hH
    have HT2 : Hid (Three w (w.heap.size) (w.heap.size + 1) (w.heap.size + 1 + 1) (.int .i64 a) (.int .i64 b) (.int .i64 c) (.int .i64 d) (.int .i64 e) (.int .i64 f) _) := hH
    clear hH HT1
    go_wp2_with fail
    go_region_held3 (fun w' => (w'.cell? ⟨w.heap.size, 0, none⟩ = some (.int .i64 a) ∧ w'.cell? ⟨w.heap.size, 1, none⟩ = some (.int .i64 b) ∧ w'.cell? ⟨w.heap.size + 1, 0, none⟩ = some (.int .i64 c) ∧ w'.cell? ⟨w.heap.size + 1, 1, none⟩ = some (.int .i64 d) ∧ w'.cell? ⟨w.heap.size + 1 + 1, 0, none⟩ = some (.int .i64 e) ∧ w'.cell? ⟨w.heap.size + 1 + 1, 1, none⟩ = some (.int .i64 f)) ∧ (w.heap.size < w'.heap.size ∧ w.heap.size + 1 < w'.heap.size ∧ w.heap.size + 1 + 1 < w'.heap.size) ∧ Below w.heap.size w w')
      (first | exact HT2.out.drew | assumption | (apply Three.keep; assumption; assumption))
      (first | (go_at_call_of 31 (Value.agg #[Value.int .i64 e, Value.int .i64 f]); refine (at_any e f _).mono ?_; rintro e' w2 ⟨rfl, hb2⟩) | (go_at_call_of 31 (Value.agg #[Value.int .i64 a, Value.int .i64 b]); refine (at_any a b _).mono ?_; rintro e' w2 ⟨rfl, hb2⟩))
  all_goals
    rename_i hH
    obtain ⟨_, _, hB⟩ := hH
    go_wp2
    go_ret
    refine ⟨ret_int ?_, hB⟩
    have := HT.out
    unfold sgnI
    first | (rw [if_pos (by omega)]) | (rw [if_neg (by omega), if_pos (by omega)]) | (rw [if_neg (by omega), if_neg (by omega)])
end Go.Proofs.Ytpmjigghboifdaa
