/- Walks over chart.Move, Times, Turn: the region that adds or multiplies draws its order; the callees make memory. -/
import Derived.Test.YtpmjigghboifdaaFar
namespace Go.Proofs.Ytpmjigghboifdaa
open Go.RowKit Fl
/-- What a cell holds, whatever it is. -/
def valAt (w : World) (r i : Nat) : Value := (w.cell? ⟨r, i, none⟩).getD undef
theorem valAt_of {w : World} {r i : Nat} (h : (w.cell? ⟨r, i, none⟩).isSome = true) : w.cell? ⟨r, i, none⟩ = some (valAt w r i) := by
  obtain ⟨u, hu⟩ := Option.isSome_iff_exists.1 h
  rw [hu]; simp [valAt, hu]
theorem isSome_of {w : World} {a : Addr} {v : Value} (h : w.cell? a = some v) : (w.cell? a).isSome = true := by rw [h]; rfl
attribute [local go_sem] run_store_complex run_neg_float

/-- Two spots in two blocks, a third block for the result, and all that was there. -/
def Res (w0 : World) (p q r : Nat) (a b c d : Int) (w : World) : Prop :=
  (w.cell? ⟨p, 0, none⟩ = some (.int .i64 a) ∧ w.cell? ⟨p, 1, none⟩ = some (.int .i64 b) ∧ w.cell? ⟨q, 0, none⟩ = some (.int .i64 c) ∧ w.cell? ⟨q, 1, none⟩ = some (.int .i64 d)) ∧
  (w.cell? ⟨r, 0, none⟩ = some (valAt w r 0) ∧ w.cell? ⟨r, 1, none⟩ = some (valAt w r 1) ∧ w.frozen? ⟨r, 0, none⟩ = false ∧ w.frozen? ⟨r, 1, none⟩ = false) ∧
  (p < w.heap.size ∧ q < w.heap.size ∧ r < w.heap.size) ∧ Below w0.heap.size w0 w
theorem Res.keep {w0 : World} {p q r : Nat} {a b c d : Int} {w w' : World} (hb' : Below w.heap.size w w') (h : Res w0 p q r a b c d w) : Res w0 p q r a b c d w' := by
  obtain ⟨⟨h0, h1, h2, h3⟩, ⟨h4, h5, h6, h7⟩, ⟨hp, hq, hr⟩, hw⟩ := h
  refine ⟨⟨?_, ?_, ?_, ?_⟩, ⟨?_, ?_, ?_, ?_⟩, ⟨?_, ?_, ?_⟩, hw.trans (hb'.mono hw.size)⟩
  · rw [hb'.cell hp]; exact h0
  · rw [hb'.cell hp]; exact h1
  · rw [hb'.cell hq]; exact h2
  · rw [hb'.cell hq]; exact h3
  · exact valAt_of (by rw [hb'.cell hr]; exact isSome_of h4)
  · exact valAt_of (by rw [hb'.cell hr]; exact isSome_of h5)
  · rw [hb'.frozen hr]; exact h6
  · rw [hb'.frozen hr]; exact h7
  · exact Nat.lt_of_lt_of_le hp hb'.size
  · exact Nat.lt_of_lt_of_le hq hb'.size
  · exact Nat.lt_of_lt_of_le hr hb'.size
theorem Res.drew {w0 : World} {p q r : Nat} {a b c d : Int} {w : World} (h : Res w0 p q r a b c d w) : Res w0 p q r a b c d w.drew := ⟨h.1, h.2.1, h.2.2.1, h.2.2.2.drew⟩
theorem isSome_set {w : World} {x y : Addr} {v : Value} (h : (w.cell? x).isSome = true) : ((w.setCell y v).cell? x).isSome = true := by
  obtain ⟨u, hu⟩ := Option.isSome_iff_exists.1 h
  obtain ⟨u', hu'⟩ := cell?_setCell_some (p := y) (x := v) hu
  rw [hu']; rfl
theorem Res.set {w0 : World} {p q r i : Nat} {a b c d : Int} {w : World} {v : Value} (h : Res w0 p q r a b c d w) (hp : p ≠ r) (hq : q ≠ r) (hr : w0.heap.size ≤ r) : Res w0 p q r a b c d (w.setCell ⟨r, i, none⟩ v) := by
  obtain ⟨⟨h0, h1, h2, h3⟩, ⟨h4, h5, h6, h7⟩, ⟨hp', hq', hr'⟩, hw⟩ := h
  refine ⟨⟨?_, ?_, ?_, ?_⟩, ⟨valAt_of (isSome_set (isSome_of h4)), valAt_of (isSome_set (isSome_of h5)), ?_, ?_⟩, ⟨?_, ?_, ?_⟩, hw.setCell hr _⟩
  · rw [World.cell?_setCell_other _ _ _ _ (by simp [Ne.symm hp])]; exact h0
  · rw [World.cell?_setCell_other _ _ _ _ (by simp [Ne.symm hp])]; exact h1
  · rw [World.cell?_setCell_other _ _ _ _ (by simp [Ne.symm hq])]; exact h2
  · rw [World.cell?_setCell_other _ _ _ _ (by simp [Ne.symm hq])]; exact h3
  · simpa [go_sem] using h6
  · simpa [go_sem] using h7
  · simpa [World.setCell] using hp'
  · simpa [World.setCell] using hq'
  · simpa [World.setCell] using hr'

theorem setCell_none {W : World} {p : Addr} {z : Value} (h : W.cell? p = none) : (W.setCell p z).cell? p = none := by
  unfold World.cell? at h ⊢
  simp only [World.setCell, Array.getElem?_modify, ↓reduceIte]
  cases hb : W.heap[p.block]? with
  | none => simp
  | some x =>
    rw [hb] at h
    cases x with
    | cells c e f =>
      simp only [Option.map_some] at h ⊢
      by_cases hs : p.spot.isSome = true
      · simp [hs]
      · simp only [hs] at h ⊢
        simp at h ⊢
        omega
    | _ => simp
theorem final2 {w : World} {r : Nat} {x y u v : Value} (h0 : ((w.setCell ⟨r, 0, none⟩ x).setCell ⟨r, 1, none⟩ y).cell? ⟨r, 0, none⟩ = some u) (h1 : ((w.setCell ⟨r, 0, none⟩ x).setCell ⟨r, 1, none⟩ y).cell? ⟨r, 1, none⟩ = some v) :
    ((w.setCell ⟨r, 0, none⟩ x).setCell ⟨r, 1, none⟩ y).cell? ⟨r, 0, none⟩ = some x ∧ ((w.setCell ⟨r, 0, none⟩ x).setCell ⟨r, 1, none⟩ y).cell? ⟨r, 1, none⟩ = some y := by
  have back : ∀ (W : World) (p q : Addr) (z k : Value), (W.setCell p z).cell? q = some k → ∃ k', W.cell? q = some k' := by
    intro W p q z k h
    by_cases e : p = q
    · subst e
      rcases hc : W.cell? p with _ | k'
      · exfalso
        rw [setCell_none hc] at h
        cases h
      · exact ⟨k', rfl⟩
    · rw [World.cell?_setCell_other _ _ _ _ e] at h; exact ⟨k, h⟩
  obtain ⟨a1, b1⟩ := back _ _ _ _ _ h0
  obtain ⟨a2, b2⟩ := back _ _ _ _ _ b1
  obtain ⟨a3, b3⟩ := back _ _ _ _ _ h1
  constructor
  · rw [World.cell?_setCell_other _ _ _ _ (by simp)]; exact World.cell?_setCell_same _ _ _ b2
  · exact World.cell?_setCell_same _ _ _ b3
def moveP (a b c d : Int) : Int × Int × Int := if inB a b && inB c d then heldP (a + c) (b + d) else (0, 0, 1)
def timesP (a b c d : Int) : Int × Int × Int := if inB a b && inB c d then heldP (a * c - b * d) (a * d + b * c) else (0, 0, 1)
def turnP (a b c d n : Int) : Int × Int × Int :=
  if inB a b && inB c d then heldP (c + ((a - c) * qx (quart n) - (b - d) * qy (quart n))) (d + ((a - c) * qy (quart n) + (b - d) * qx (quart n))) else (0, 0, 1)
theorem q_small (n : Int) : (-1 ≤ qx (quart n) ∧ qx (quart n) ≤ 1) ∧ (-1 ≤ qy (quart n) ∧ qy (quart n) ≤ 1) := by
  have h := quart_lt n
  generalize quart n = q at *
  match q, h with
  | 0, _ => decide
  | 1, _ => decide
  | 2, _ => decide
  | 3, _ => decide

theorem move_no (a b c d : Int) (h : (inB a b && inB c d) = false) (w : World) : Calls Try.prog 13 #[.agg #[.int .i64 a, .int .i64 b], .agg #[.int .i64 c, .int .i64 d]] w fun e w' =>
    e = .returned (spotV (moveP a b c d)) ∧ Below w.heap.size w w' := by
  have HI := Lib.hid h
  unfold moveP
  rw [h]
  clear h
  go_enter Try.func13, Try.ntmps13
  go_wp2_with fail
  refine (on_any [(a, b), (c, d)] _ _ _ (Spots.two (by simp) (by go_simp) (by go_simp) (by go_simp) (by go_simp)) (by show 2 ≤ 1000000000; omega)).mono ?_
  rintro e w1 ⟨rfl, hb1⟩
  rw [allIn_two, HI.out]
  have hz : w.heap.size + 2 < w1.heap.size := by have := hb1.size; simp at this; omega
  have k4 : w1.cell? ⟨w.heap.size + 1 + 1, 0, none⟩ = some (.int .i64 0) := by rw [hb1.cell (by simp)]; go_simp
  have k5 : w1.cell? ⟨w.heap.size + 1 + 1, 1, none⟩ = some (.int .i64 0) := by rw [hb1.cell (by simp)]; go_simp
  have k6 : w1.frozen? ⟨w.heap.size + 1 + 1, 0, none⟩ = false := by rw [hb1.frozen (by simp)]; go_simp
  have k7 : w1.frozen? ⟨w.heap.size + 1 + 1, 1, none⟩ = false := by rw [hb1.frozen (by simp)]; go_simp
  have hbase : Below w.heap.size w w1 := ((((Below.refl _ _).alloc (Nat.le_refl _) _).alloc (by simp) _).alloc (by simp; omega) _).alloc (by simp; omega) _ |>.trans (hb1.mono (by simp; omega))
  clear hb1
  go_wp2
  refine bodyPost_ret (v := .tuple #[.agg #[.int .i64 0, .int .i64 0], .int .i64 1]) (by simp only [results, Try.results13]; go_simp) rfl ⟨rfl, ?_⟩
  exact (hbase.setCell (by simp; omega) _).setCell (by simp; omega) _

set_option maxHeartbeats 1000000 in
theorem move_yes (a b c d : Int) (h1 : inB a b = true) (h2 : inB c d = true) (w : World) : Calls Try.prog 13 #[.agg #[.int .i64 a, .int .i64 b], .agg #[.int .i64 c, .int .i64 d]] w fun e w' =>
    e = .returned (spotV (moveP a b c d)) ∧ Below w.heap.size w w' := by
  have HI := Lib.hid (show (inB a b && inB c d) = true by rw [h1, h2]; rfl)
  unfold moveP
  rw [HI.out, if_pos rfl]
  rw [inB_iff] at h1 h2
  obtain ⟨r, s, R1, op1⟩ := c_add (fl_rep2 a b (by omega) (by omega)) (fl_rep2 c d (by omega) (by omega)) (by omega) (by omega)
  have H0 := held_any r s (a + c) (b + d) R1.1 R1.2 (by omega) (by omega)
  unfold spotV at H0 ⊢
  generalize heldP (a + c) (b + d) = P at *
  have HH := Lib.hid H0
  clear R1 H0
  clear h1 h2
  go_enter Try.func13, Try.ntmps13
  go_wp2_with fail
  refine (on_any [(a, b), (c, d)] _ _ _ (Spots.two (by simp) (by go_simp) (by go_simp) (by go_simp) (by go_simp)) (by show 2 ≤ 1000000000; omega)).mono ?_
  rintro e w1 ⟨rfl, hb1⟩
  rw [allIn_two, HI.out]
  have hz : w.heap.size + 2 < w1.heap.size := by have := hb1.size; simp at this; omega
  have k0 : w1.cell? ⟨w.heap.size, 0, none⟩ = some (.int .i64 a) := by rw [hb1.cell (by simp; omega)]; go_simp
  have k1 : w1.cell? ⟨w.heap.size, 1, none⟩ = some (.int .i64 b) := by rw [hb1.cell (by simp; omega)]; go_simp
  have k2 : w1.cell? ⟨w.heap.size + 1, 0, none⟩ = some (.int .i64 c) := by rw [hb1.cell (by simp)]; go_simp
  have k3 : w1.cell? ⟨w.heap.size + 1, 1, none⟩ = some (.int .i64 d) := by rw [hb1.cell (by simp)]; go_simp
  have k4 : w1.cell? ⟨w.heap.size + 1 + 1, 0, none⟩ = some (valAt w1 (w.heap.size + 1 + 1) 0) := valAt_of (by rw [hb1.cell (by simp)]; go_simp)
  have k5 : w1.cell? ⟨w.heap.size + 1 + 1, 1, none⟩ = some (valAt w1 (w.heap.size + 1 + 1) 1) := valAt_of (by rw [hb1.cell (by simp)]; go_simp)
  have k6 : w1.frozen? ⟨w.heap.size + 1 + 1, 0, none⟩ = false := by rw [hb1.frozen (by simp)]; go_simp
  have k7 : w1.frozen? ⟨w.heap.size + 1 + 1, 1, none⟩ = false := by rw [hb1.frozen (by simp)]; go_simp
  have hbase : Below w.heap.size w w1 := ((((Below.refl _ _).alloc (Nat.le_refl _) _).alloc (by simp) _).alloc (by simp; omega) _).alloc (by simp; omega) _ |>.trans (hb1.mono (by simp; omega))
  clear hb1
  have hT : Res w w.heap.size (w.heap.size + 1) (w.heap.size + 1 + 1) a b c d w1 := ⟨⟨k0, k1, k2, k3⟩, ⟨k4, k5, k6, k7⟩, ⟨by omega, by omega, by omega⟩, hbase⟩
  clear k0 k1 k2 k3 k4 k5 k6 k7 hz hbase
  go_wp2_with fail
  go_region_held3 (fun w' => (w'.cell? ⟨w.heap.size, 0, none⟩ = some (.int .i64 a) ∧ w'.cell? ⟨w.heap.size, 1, none⟩ = some (.int .i64 b) ∧ w'.cell? ⟨w.heap.size + 1, 0, none⟩ = some (.int .i64 c) ∧ w'.cell? ⟨w.heap.size + 1, 1, none⟩ = some (.int .i64 d)) ∧ (w'.cell? ⟨w.heap.size + 1 + 1, 0, none⟩ = some (valAt w' (w.heap.size + 1 + 1) 0) ∧ w'.cell? ⟨w.heap.size + 1 + 1, 1, none⟩ = some (valAt w' (w.heap.size + 1 + 1) 1) ∧ w'.frozen? ⟨w.heap.size + 1 + 1, 0, none⟩ = false ∧ w'.frozen? ⟨w.heap.size + 1 + 1, 1, none⟩ = false) ∧ (w.heap.size < w'.heap.size ∧ w.heap.size + 1 < w'.heap.size ∧ w.heap.size + 1 + 1 < w'.heap.size) ∧ Below w.heap.size w w')
    (first | exact hT.drew | (apply Res.keep; assumption; assumption) | (apply Res.set; apply Res.set; assumption; all_goals omega))
    (first | (go_at_call_of 31 (Value.agg #[Value.int .i64 a, Value.int .i64 b]); refine (at_any a b _).mono ?_; rintro e w2 ⟨rfl, hb2⟩) | (go_at_call_of 31 (Value.agg #[Value.int .i64 c, Value.int .i64 d]); refine (at_any c d _).mono ?_; rintro e w2 ⟨rfl, hb2⟩) | (go_at_call 30; refine (HH.out _).mono ?_; rintro e w2 ⟨rfl, hb2⟩))
  all_goals
    go_wp2
    rename_i hH
    obtain ⟨_, ⟨h4, h5, _, _⟩, _, hB⟩ := hH
    obtain ⟨g0, g1⟩ := final2 h4 h5
    clear h4 h5
    refine bodyPost_ret (v := .tuple #[.agg #[.int .i64 P.1, .int .i64 P.2.1], .int .i64 P.2.2]) (by simp only [results, Try.results13]; go_simp) rfl ⟨rfl, hB⟩

theorem times_no (a b c d : Int) (h : (inB a b && inB c d) = false) (w : World) : Calls Try.prog 15 #[.agg #[.int .i64 a, .int .i64 b], .agg #[.int .i64 c, .int .i64 d]] w fun e w' =>
    e = .returned (spotV (timesP a b c d)) ∧ Below w.heap.size w w' := by
  have HI := Lib.hid h
  unfold timesP
  rw [h]
  clear h
  go_enter Try.func15, Try.ntmps15
  go_wp2_with fail
  refine (on_any [(a, b), (c, d)] _ _ _ (Spots.two (by simp) (by go_simp) (by go_simp) (by go_simp) (by go_simp)) (by show 2 ≤ 1000000000; omega)).mono ?_
  rintro e w1 ⟨rfl, hb1⟩
  rw [allIn_two, HI.out]
  have hz : w.heap.size + 2 < w1.heap.size := by have := hb1.size; simp at this; omega
  have k4 : w1.cell? ⟨w.heap.size + 1 + 1, 0, none⟩ = some (.int .i64 0) := by rw [hb1.cell (by simp)]; go_simp
  have k5 : w1.cell? ⟨w.heap.size + 1 + 1, 1, none⟩ = some (.int .i64 0) := by rw [hb1.cell (by simp)]; go_simp
  have k6 : w1.frozen? ⟨w.heap.size + 1 + 1, 0, none⟩ = false := by rw [hb1.frozen (by simp)]; go_simp
  have k7 : w1.frozen? ⟨w.heap.size + 1 + 1, 1, none⟩ = false := by rw [hb1.frozen (by simp)]; go_simp
  have hbase : Below w.heap.size w w1 := ((((Below.refl _ _).alloc (Nat.le_refl _) _).alloc (by simp) _).alloc (by simp; omega) _).alloc (by simp; omega) _ |>.trans (hb1.mono (by simp; omega))
  clear hb1
  go_wp2
  refine bodyPost_ret (v := .tuple #[.agg #[.int .i64 0, .int .i64 0], .int .i64 1]) (by simp only [results, Try.results15]; go_simp) rfl ⟨rfl, ?_⟩
  exact (hbase.setCell (by simp; omega) _).setCell (by simp; omega) _

set_option maxHeartbeats 1000000 in
theorem times_yes (a b c d : Int) (h1 : inB a b = true) (h2 : inB c d = true) (w : World) : Calls Try.prog 15 #[.agg #[.int .i64 a, .int .i64 b], .agg #[.int .i64 c, .int .i64 d]] w fun e w' =>
    e = .returned (spotV (timesP a b c d)) ∧ Below w.heap.size w w' := by
  have HI := Lib.hid (show (inB a b && inB c d) = true by rw [h1, h2]; rfl)
  unfold timesP
  rw [HI.out, if_pos rfl]
  rw [inB_iff] at h1 h2
  have e1 := sq_bd a c (by omega) (by omega) (by omega) (by omega)
  have e2 := sq_bd b d (by omega) (by omega) (by omega) (by omega)
  have e3 := sq_bd a d (by omega) (by omega) (by omega) (by omega)
  have e4 := sq_bd b c (by omega) (by omega) (by omega) (by omega)
  obtain ⟨r, s, R1, op1⟩ := c_mul (fl_rep2 a b (by omega) (by omega)) (fl_rep2 c d (by omega) (by omega)) (by omega) (by omega) (by omega) (by omega) (by omega) (by omega)
  have H0 := held_any r s _ _ R1.1 R1.2 (by omega) (by omega)
  unfold spotV at H0 ⊢
  generalize heldP (a * c - b * d) (a * d + b * c) = P at *
  have HH := Lib.hid H0
  clear R1 H0 e1 e2 e3 e4
  clear h1 h2
  go_enter Try.func15, Try.ntmps15
  go_wp2_with fail
  refine (on_any [(a, b), (c, d)] _ _ _ (Spots.two (by simp) (by go_simp) (by go_simp) (by go_simp) (by go_simp)) (by show 2 ≤ 1000000000; omega)).mono ?_
  rintro e w1 ⟨rfl, hb1⟩
  rw [allIn_two, HI.out]
  have hz : w.heap.size + 2 < w1.heap.size := by have := hb1.size; simp at this; omega
  have k0 : w1.cell? ⟨w.heap.size, 0, none⟩ = some (.int .i64 a) := by rw [hb1.cell (by simp; omega)]; go_simp
  have k1 : w1.cell? ⟨w.heap.size, 1, none⟩ = some (.int .i64 b) := by rw [hb1.cell (by simp; omega)]; go_simp
  have k2 : w1.cell? ⟨w.heap.size + 1, 0, none⟩ = some (.int .i64 c) := by rw [hb1.cell (by simp)]; go_simp
  have k3 : w1.cell? ⟨w.heap.size + 1, 1, none⟩ = some (.int .i64 d) := by rw [hb1.cell (by simp)]; go_simp
  have k4 : w1.cell? ⟨w.heap.size + 1 + 1, 0, none⟩ = some (valAt w1 (w.heap.size + 1 + 1) 0) := valAt_of (by rw [hb1.cell (by simp)]; go_simp)
  have k5 : w1.cell? ⟨w.heap.size + 1 + 1, 1, none⟩ = some (valAt w1 (w.heap.size + 1 + 1) 1) := valAt_of (by rw [hb1.cell (by simp)]; go_simp)
  have k6 : w1.frozen? ⟨w.heap.size + 1 + 1, 0, none⟩ = false := by rw [hb1.frozen (by simp)]; go_simp
  have k7 : w1.frozen? ⟨w.heap.size + 1 + 1, 1, none⟩ = false := by rw [hb1.frozen (by simp)]; go_simp
  have hbase : Below w.heap.size w w1 := ((((Below.refl _ _).alloc (Nat.le_refl _) _).alloc (by simp) _).alloc (by simp; omega) _).alloc (by simp; omega) _ |>.trans (hb1.mono (by simp; omega))
  clear hb1
  have hT : Res w w.heap.size (w.heap.size + 1) (w.heap.size + 1 + 1) a b c d w1 := ⟨⟨k0, k1, k2, k3⟩, ⟨k4, k5, k6, k7⟩, ⟨by omega, by omega, by omega⟩, hbase⟩
  clear k0 k1 k2 k3 k4 k5 k6 k7 hz hbase
  go_wp2_with fail
  go_region_held3 (fun w' => (w'.cell? ⟨w.heap.size, 0, none⟩ = some (.int .i64 a) ∧ w'.cell? ⟨w.heap.size, 1, none⟩ = some (.int .i64 b) ∧ w'.cell? ⟨w.heap.size + 1, 0, none⟩ = some (.int .i64 c) ∧ w'.cell? ⟨w.heap.size + 1, 1, none⟩ = some (.int .i64 d)) ∧ (w'.cell? ⟨w.heap.size + 1 + 1, 0, none⟩ = some (valAt w' (w.heap.size + 1 + 1) 0) ∧ w'.cell? ⟨w.heap.size + 1 + 1, 1, none⟩ = some (valAt w' (w.heap.size + 1 + 1) 1) ∧ w'.frozen? ⟨w.heap.size + 1 + 1, 0, none⟩ = false ∧ w'.frozen? ⟨w.heap.size + 1 + 1, 1, none⟩ = false) ∧ (w.heap.size < w'.heap.size ∧ w.heap.size + 1 < w'.heap.size ∧ w.heap.size + 1 + 1 < w'.heap.size) ∧ Below w.heap.size w w')
    (first | exact hT.drew | (apply Res.keep; assumption; assumption) | (apply Res.set; apply Res.set; assumption; all_goals omega))
    (first | (go_at_call_of 31 (Value.agg #[Value.int .i64 a, Value.int .i64 b]); refine (at_any a b _).mono ?_; rintro e w2 ⟨rfl, hb2⟩) | (go_at_call_of 31 (Value.agg #[Value.int .i64 c, Value.int .i64 d]); refine (at_any c d _).mono ?_; rintro e w2 ⟨rfl, hb2⟩) | (go_at_call 30; refine (HH.out _).mono ?_; rintro e w2 ⟨rfl, hb2⟩))
  all_goals
    go_wp2
    rename_i hH
    obtain ⟨_, ⟨h4, h5, _, _⟩, _, hB⟩ := hH
    obtain ⟨g0, g1⟩ := final2 h4 h5
    clear h4 h5
    refine bodyPost_ret (v := .tuple #[.agg #[.int .i64 P.1, .int .i64 P.2.1], .int .i64 P.2.2]) (by simp only [results, Try.results15]; go_simp) rfl ⟨rfl, hB⟩
end Go.Proofs.Ytpmjigghboifdaa
