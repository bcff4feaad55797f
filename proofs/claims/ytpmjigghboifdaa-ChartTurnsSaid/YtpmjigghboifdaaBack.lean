/- Walk over the law ChartBack. -/
import Derived.Test.YtpmjigghboifdaaKnown
namespace Go.Proofs.Ytpmjigghboifdaa
open Go.RowKit Fl

def BackJ (w : World) (a1 a2 b1 b2 : Int) (L : Array Bool) (a : Act) (wJ : World) : Prop :=
  ∃ (fb0 fb1 fb2 fb3 fb4 fb5 fb6 fb7 : Bool) (l0 c0 p0 l1 c1 p1 : Value) (g0 g1 : Nat), L = #[fb0, fb1, fb2, fb3, fb4, fb5, fb6, fb7] ∧ a = { tmps := #[(.agg #[.int .i64 a1, .int .i64 a2]), (.agg #[.int .i64 b1, .int .i64 b2]), .pointer (some ⟨w.heap.size, 0, none⟩), .pointer (some ⟨w.heap.size + 1, 0, none⟩), .bool false, p0, p1, undef, undef, undef, undef, undef, undef, undef, undef, undef, undef, undef, undef, l0, c0, l1, c1, undef, undef, undef, undef, undef, undef, undef, undef, undef, undef, undef, undef, undef, undef, undef, undef, undef, undef, undef, undef, undef, undef, undef, undef, undef, undef, undef, undef, undef, undef, undef, undef, undef, undef, undef, undef, undef, undef, undef, undef, undef, undef, undef, undef, undef, undef, undef, undef, undef, undef, undef, undef, undef, undef, undef, undef, undef, undef, undef, undef, undef, undef, undef, undef, undef, undef, undef, undef, undef, undef, undef, undef, undef, undef, undef, undef], defers := [] } ∧ Known w [(w.heap.size, a1, a2), (w.heap.size + 1, b1, b2)] wJ ∧ (TV ((w.heap.size + 1 + 1)) 23 fb0 fb1 fb4 fb6 l0 c0 p0 g0 a1 a2 wJ ∧ TV ((w.heap.size + 1 + 1)) 23 fb2 fb3 fb5 fb7 l1 c1 p1 g1 b1 b2 wJ) ∧ ((fb4 = true → fb5 = true → g0 ≠ g1)) ∧ (w.heap.size + 1 + 1) ≤ wJ.heap.size

theorem move_ok {a b c d : Int} (h : (moveP a b c d).2.2 = 0) : (inB a b = true ∧ inB c d = true ∧ inB (a + c) (b + d) = true) ∧ moveP a b c d = (a + c, b + d, 0) := by
  unfold moveP heldP at h ⊢
  by_cases h1 : (inB a b && inB c d) = true
  · rw [if_pos h1] at h ⊢
    by_cases h2 : inB (a + c) (b + d) = true
    · rw [if_pos h2]
      rw [Bool.and_eq_true] at h1
      exact ⟨⟨h1.1, h1.2, h2⟩, rfl⟩
    · rw [if_neg h2] at h; cases h
  · rw [if_neg h1] at h; cases h
theorem move_back {a b c d : Int} (h1 : inB a b = true) (h2 : inB c d = true) (h3 : inB (a + c) (b + d) = true) : moveP (a + c) (b + d) (-c) (-d) = (a, b, 0) := by
  have h4 : inB (-c) (-d) = true := by rw [inB_iff] at h2 ⊢; omega
  have e1 : a + c + -c = a := by omega
  have e2 : b + d + -d = b := by omega
  unfold moveP heldP
  rw [h3, h4, e1, e2, h1]
  rfl
theorem times_turn (a b : Int) : turnP a b 0 0 1 = timesP a b 0 1 := by
  have hq : quart 1 = 1 := by decide
  unfold turnP timesP
  rw [hq]
  have e1 : inB 0 0 = true := by decide
  have e2 : inB 0 1 = true := by decide
  rw [e1, e2]
  simp [qx, qy]
theorem mirror_in {a b : Int} (h : inB a b = true) : mirrorP a b = (a, -b, 0) := by unfold mirrorP; rw [if_pos h]
theorem mirror_out {a b : Int} (h : inB a b = false) : mirrorP a b = (0, 0, 1) := by unfold mirrorP; rw [h]; rfl

set_option maxRecDepth 100000 in
set_option maxHeartbeats 2000000 in
theorem back_a (a1 a2 b1 b2 : Int) (h1 : inB a1 a2 = true) (h2 : inB b1 b2 = true) (h3 : inB (a1 + b1) (a2 + b2) = true) (h4 : moveP a1 a2 b1 b2 = (a1 + b1, a2 + b2, 0)) (w : World) : Calls Try.prog 5 #[.agg #[.int .i64 a1, .int .i64 a2], .agg #[.int .i64 b1, .int .i64 b2]] w fun e w' =>
    e = .returned (.bool true) ∧ Below w.heap.size w w' := by
  have hK0 : Known w [(w.heap.size, a1, a2), (w.heap.size + 1, b1, b2)] ((w.alloc (.cells #[.int .i64 a1, .int .i64 a2] 29)).alloc (.cells #[.int .i64 b1, .int .i64 b2] 29)) := by
    have h := (((Known.nil w).add a1 a2 29).add b1 b2 29)
    refine ⟨fun e he => h.1 e ?_, h.2⟩
    simp at he ⊢
    rcases he with he | he <;> simp [he]
  have HK0 := Lib.hid hK0
  have hBase : w.heap.size + 1 + 1 ≤ ((w.alloc (.cells #[.int .i64 a1, .int .i64 a2] 29)).alloc (.cells #[.int .i64 b1, .int .i64 b2] 29)).drew.heap.size := by simp
  clear hK0
  have HA := Lib.hid awake_any
  have H1 := move_any a1 a2 b1 b2; have H2 := move_any (a1 + b1) (a2 + b2) (-b1) (-b2)
  rw [move_back h1 h2 h3] at H2
  rw [h4] at H1
  have H3 := times_any a1 a2 0 1; have H4 := turn_any a1 a2 0 0 1 (by omega) (by omega)
  rw [times_turn] at H4
  generalize timesP a1 a2 0 1 = pT at *
  have H5 := mirror_any a1 a2; have H6 := mirror_any a1 (-a2)
  have h5 : inB a1 (-a2) = true := by rw [inB_iff] at h1 ⊢; omega
  rw [mirror_in h1] at H5
  rw [mirror_in h5, Int.neg_neg] at H6
  unfold spotV at H5 H6
  rw [inB_iff] at h1 h2
  obtain ⟨i1, i2, i3, i4⟩ := h1
  obtain ⟨i5, i6, i7, i8⟩ := h2
  have M1 := Lib.hid H1; have M2 := Lib.hid H2; have TM := Lib.hid H3; have TU := Lib.hid H4; have MI := Lib.hid H5; have MJ := Lib.hid H6
  clear H1 H2 H3 H4 H5 H6 h3 h4 h5
  go_enter Try.func5, Try.ntmps5
  go_wp2_with fail
  refine region_inv (J := BackJ w a1 a2 b1 b2) (by kernel_rfl) (by kernel_rfl) ?hJ0 ?hJs ?hJe
  case hJ0 => exact ⟨false, false, false, false, false, false, false, false, undef, undef, undef, undef, undef, undef, 0, 0, rfl, rfl, (Known.drew HK0.out), ⟨TV.void _ _ _ _ _ _ _ _ _, TV.void _ _ _ _ _ _ _ _ _⟩, (fun h => by cases h), (hBase)⟩
  case hJs =>
    simp only [StepsOk]
    refine ⟨?_, ?_⟩
    · intro L aJ wJ hJ hbi hdep
      obtain ⟨fb0, fb1, fb2, fb3, fb4, fb5, fb6, fb7, l0, c0, p0, l1, c1, p1, g0, g1, rfl, rfl, hKn, ⟨t0, t1⟩, ne01, hBs⟩ := hJ
      simp [Region.binds] at hbi hdep
      subst hbi
      have hk := hKn.1
      simp only [List.forall_mem_cons] at hk
      refine ⟨by rfl, ?_⟩
      skip
      have HK := Lib.hid hKn
      have T0 := Lib.hid t0
      have T1 := Lib.hid t1
      have NE01 := Lib.hid ne01
      clear hKn t0 t1 ne01
      go_simp
      exact ⟨true, _, _, _, _, _, _, _, _, _, _, _, _, _, _, _, rfl, rfl, HK.out, ⟨T0.out.load, T1.out⟩, NE01.out, hBs⟩
    refine ⟨?_, ?_⟩
    · intro L aJ wJ hJ hbi hdep
      obtain ⟨fb0, fb1, fb2, fb3, fb4, fb5, fb6, fb7, l0, c0, p0, l1, c1, p1, g0, g1, rfl, rfl, hKn, ⟨t0, t1⟩, ne01, hBs⟩ := hJ
      simp [Region.binds] at hbi hdep
      subst hbi
      have dl : fb0 = true := by (first | exact hdep | exact hdep.1 | exact hdep.2 | exact hdep.2.1 | exact hdep.2.2)
      have hl := t0.1 dl
      subst hl
      clear dl
      refine ⟨by rfl, ?_⟩
      have HK := Lib.hid hKn
      have T0 := Lib.hid t0
      have T1 := Lib.hid t1
      have NE01 := Lib.hid ne01
      clear hKn hdep t0 t1 ne01
      go_simp
      refine (To_any a1 a2 _).mono ?_
      rintro e' w2 ⟨rfl, hb⟩
      exact ⟨_, true, _, _, _, _, _, _, _, _, _, _, _, _, _, _, rfl, rfl, (HK.out.keep hb), ⟨(T0.out.keep hb).call, (T1.out.keep hb)⟩, NE01.out, (Nat.le_trans hBs hb.size)⟩
    refine ⟨?_, ?_⟩
    · intro L aJ wJ hJ hbi hdep
      obtain ⟨fb0, fb1, fb2, fb3, fb4, fb5, fb6, fb7, l0, c0, p0, l1, c1, p1, g0, g1, rfl, rfl, hKn, ⟨t0, t1⟩, ne01, hBs⟩ := hJ
      simp [Region.binds] at hbi hdep
      subst hbi
      have hk := hKn.1
      simp only [List.forall_mem_cons] at hk
      refine ⟨by rfl, ?_⟩
      skip
      have HK := Lib.hid hKn
      have T0 := Lib.hid t0
      have T1 := Lib.hid t1
      have NE01 := Lib.hid ne01
      clear hKn t0 t1 ne01
      go_simp
      exact ⟨_, _, true, _, _, _, _, _, _, _, _, _, _, _, _, _, rfl, rfl, HK.out, ⟨T0.out, T1.out.load⟩, NE01.out, hBs⟩
    refine ⟨?_, ?_⟩
    · intro L aJ wJ hJ hbi hdep
      obtain ⟨fb0, fb1, fb2, fb3, fb4, fb5, fb6, fb7, l0, c0, p0, l1, c1, p1, g0, g1, rfl, rfl, hKn, ⟨t0, t1⟩, ne01, hBs⟩ := hJ
      simp [Region.binds] at hbi hdep
      subst hbi
      have dl : fb2 = true := by (first | exact hdep | exact hdep.1 | exact hdep.2 | exact hdep.2.1 | exact hdep.2.2)
      have hl := t1.1 dl
      subst hl
      clear dl
      refine ⟨by rfl, ?_⟩
      have HK := Lib.hid hKn
      have T0 := Lib.hid t0
      have T1 := Lib.hid t1
      have NE01 := Lib.hid ne01
      clear hKn hdep t0 t1 ne01
      go_simp
      refine (To_any b1 b2 _).mono ?_
      rintro e' w2 ⟨rfl, hb⟩
      exact ⟨_, _, _, true, _, _, _, _, _, _, _, _, _, _, _, _, rfl, rfl, (HK.out.keep hb), ⟨(T0.out.keep hb), (T1.out.keep hb).call⟩, NE01.out, (Nat.le_trans hBs hb.size)⟩
    refine ⟨?_, ?_⟩
    · intro L aJ wJ hJ hbi hdep
      obtain ⟨fb0, fb1, fb2, fb3, fb4, fb5, fb6, fb7, l0, c0, p0, l1, c1, p1, g0, g1, rfl, rfl, hKn, ⟨t0, t1⟩, ne01, hBs⟩ := hJ
      simp [Region.binds] at hbi hdep
      subst hbi
      refine ⟨by rfl, ?_⟩
      have HK := Lib.hid hKn
      have T0 := Lib.hid t0
      have T1 := Lib.hid t1
      have NE01 := Lib.hid ne01
      clear hKn t0 t1 ne01
      go_simp
      exact ⟨_, _, _, _, true, _, _, _, _, _, _, _, _, _, _, _, rfl, rfl, (HK.out.alloc _), ⟨(T0.out.made hBs), (T1.out.alloc _)⟩, (fun _ h => by have := heap_lt (T1.out.2.2.1 h).2.2; omega), (by simp <;> omega)⟩
    refine ⟨?_, ?_⟩
    · intro L aJ wJ hJ hbi hdep
      obtain ⟨fb0, fb1, fb2, fb3, fb4, fb5, fb6, fb7, l0, c0, p0, l1, c1, p1, g0, g1, rfl, rfl, hKn, ⟨t0, t1⟩, ne01, hBs⟩ := hJ
      simp [Region.binds] at hbi hdep
      subst hbi
      refine ⟨by rfl, ?_⟩
      have HK := Lib.hid hKn
      have T0 := Lib.hid t0
      have T1 := Lib.hid t1
      have NE01 := Lib.hid ne01
      clear hKn t0 t1 ne01
      go_simp
      exact ⟨_, _, _, _, _, true, _, _, _, _, _, _, _, _, _, _, rfl, rfl, (HK.out.alloc _), ⟨(T0.out.alloc _), (T1.out.made hBs)⟩, (fun h _ => by have := heap_lt (T0.out.2.2.1 h).2.2; omega), (by simp <;> omega)⟩
    refine ⟨?_, ?_⟩
    · intro L aJ wJ hJ hbi hdep
      obtain ⟨fb0, fb1, fb2, fb3, fb4, fb5, fb6, fb7, l0, c0, p0, l1, c1, p1, g0, g1, rfl, rfl, hKn, ⟨t0, t1⟩, ne01, hBs⟩ := hJ
      simp [Region.binds] at hbi hdep
      subst hbi
      have da : fb4 = true := by (first | exact hdep.1 | exact hdep.2 | exact hdep.2.1 | exact hdep.2.2 | exact hdep.1.1 | exact hdep)
      have dc : fb1 = true := by (first | exact hdep.1 | exact hdep.2 | exact hdep.2.1 | exact hdep.2.2 | exact hdep.1.1 | exact hdep)
      clear hdep
      subst da
      have hc := t0.2.1 dc
      subst hc
      obtain ⟨hp, hg, _⟩ := t0.2.2.1 rfl
      subst hp
      obtain ⟨u0, u1, q0, q1, q2, q3⟩ := t0.cells rfl
      refine ⟨by rfl, ?_⟩
      have HK := Lib.hid hKn
      have T0 := Lib.hid t0
      have T1 := Lib.hid t1
      have NE01 := Lib.hid ne01
      clear hKn dc t0 t1 ne01
      go_simp
      exact ⟨_, _, _, _, _, _, true, _, _, _, _, _, _, _, _, _, rfl, rfl, ((HK.out.far (by simp <;> omega) (by omega) _).far (by simp <;> omega) (by omega) _), ⟨(T0.out.store rfl), ((T1.out.far (fun h => (NE01.out rfl h).symm) _).far (fun h => (NE01.out rfl h).symm) _)⟩, NE01.out, (by simpa [World.setCell] using hBs)⟩
    refine ⟨?_, ?_⟩
    · intro L aJ wJ hJ hbi hdep
      obtain ⟨fb0, fb1, fb2, fb3, fb4, fb5, fb6, fb7, l0, c0, p0, l1, c1, p1, g0, g1, rfl, rfl, hKn, ⟨t0, t1⟩, ne01, hBs⟩ := hJ
      simp [Region.binds] at hbi hdep
      subst hbi
      have da : fb5 = true := by (first | exact hdep.1 | exact hdep.2 | exact hdep.2.1 | exact hdep.2.2 | exact hdep.1.1 | exact hdep)
      have dc : fb3 = true := by (first | exact hdep.1 | exact hdep.2 | exact hdep.2.1 | exact hdep.2.2 | exact hdep.1.1 | exact hdep)
      clear hdep
      subst da
      have hc := t1.2.1 dc
      subst hc
      obtain ⟨hp, hg, _⟩ := t1.2.2.1 rfl
      subst hp
      obtain ⟨u0, u1, q0, q1, q2, q3⟩ := t1.cells rfl
      refine ⟨by rfl, ?_⟩
      have HK := Lib.hid hKn
      have T0 := Lib.hid t0
      have T1 := Lib.hid t1
      have NE01 := Lib.hid ne01
      clear hKn dc t0 t1 ne01
      go_simp
      exact ⟨_, _, _, _, _, _, _, true, _, _, _, _, _, _, _, _, rfl, rfl, ((HK.out.far (by simp <;> omega) (by omega) _).far (by simp <;> omega) (by omega) _), ⟨((T0.out.far (fun h => NE01.out h rfl) _).far (fun h => NE01.out h rfl) _), (T1.out.store rfl)⟩, NE01.out, (by simpa [World.setCell] using hBs)⟩
    trivial
  case hJe =>
    intro aE wE hE
    obtain ⟨fb0, fb1, fb2, fb3, fb4, fb5, fb6, fb7, l0, c0, p0, l1, c1, p1, g0, g1, hL, rfl, hKn, ⟨t0, t1⟩, ne01, hBs⟩ := hE
    simp at hL
    obtain ⟨rfl, rfl, rfl, rfl, rfl, rfl, rfl, rfl⟩ := hL
    have e0a := t0.1 rfl; have e0b := t0.2.1 rfl; have e0c := (t0.2.2.1 rfl).1; subst e0a e0b e0c
    have e1a := t1.1 rfl; have e1b := t1.2.1 rfl; have e1c := (t1.2.2.1 rfl).1; subst e1a e1b e1c
    have hKa := Known.of_tv (Known.of_tv (hKn) (by omega) t0) (by omega) t1
    clear hKn t0 t1
    dsimp only
    have hk := hKa.facts
    simp only [List.forall_mem_cons, World.size_alloc] at hk
    have HK := Lib.hid hKa
    clear hKa ne01 hBs
    go_wp2_with fail
    refine (M1.out _).mono ?_
    rintro e' wc1 ⟨rfl, hb⟩
    have hKn := Known.keep hb HK.out
    clear hb hk HK
    have hk := hKn.facts
    simp only [List.forall_mem_cons, World.size_alloc] at hk
    have HK := Lib.hid (hKn)
    clear hKn
    go_wp2_with fail
    refine (M2.out _).mono ?_
    rintro e' wc2 ⟨rfl, hb⟩
    have hKn := Known.keep hb (HK.out.add (a1 + b1) (a2 + b2) 23)
    clear hb hk HK
    have hk := hKn.facts
    simp only [List.forall_mem_cons, World.size_alloc] at hk
    have HK := Lib.hid (hKn)
    clear hKn
    go_wp2_with fail
    refine (TM.out _).mono ?_
    rintro e' wc3 ⟨rfl, hb⟩
    have hKn := Known.keep hb (HK.out.add a1 a2 23)
    clear hb hk HK
    have hk := hKn.facts
    simp only [List.forall_mem_cons, World.size_alloc] at hk
    have HK := Lib.hid (hKn)
    clear hKn
    go_wp2_with fail
    refine (TU.out _).mono ?_
    rintro e' wc4 ⟨rfl, hb⟩
    have hKn := Known.keep hb (HK.out.add pT.1 pT.2.1 23)
    clear hb hk HK
    have hk := hKn.facts
    simp only [List.forall_mem_cons, World.size_alloc] at hk
    have HK := Lib.hid (hKn)
    clear hKn
    go_wp2_with fail
    refine (MI.out _).mono ?_
    rintro e' wc5 ⟨rfl, hb⟩
    have hKn := Known.keep hb (HK.out.add pT.1 pT.2.1 23)
    clear hb hk HK
    have hk := hKn.facts
    simp only [List.forall_mem_cons, World.size_alloc] at hk
    have HK := Lib.hid (hKn)
    clear hKn
    go_wp2_with fail
    refine (MJ.out _).mono ?_
    rintro e' wc6 ⟨rfl, hb⟩
    have hKn := Known.keep hb (HK.out.add a1 (-a2) 23)
    clear hb hk HK
    have hk := hKn.facts
    simp only [List.forall_mem_cons, World.size_alloc] at hk
    have HK := Lib.hid (hKn)
    clear hKn
    go_wp2_with fail
    refine (HA.out _).mono ?_
    rintro e' wc7 ⟨rfl, hb⟩
    have hKn := Known.keep hb (HK.out.add a1 a2 23)
    clear hb hk HK
    have hk := hKn.facts
    simp only [List.forall_mem_cons, World.size_alloc] at hk
    have HK := Lib.hid (hKn)
    clear hKn
    go_wp2
    go_ret
    exact ⟨rfl, HK.out.2⟩
set_option maxRecDepth 100000 in
set_option maxHeartbeats 2000000 in
theorem back_b (a1 a2 b1 b2 : Int) (h1 : inB a1 a2 = true) (h4 : (moveP a1 a2 b1 b2).2.2 ≠ 0) (w : World) : Calls Try.prog 5 #[.agg #[.int .i64 a1, .int .i64 a2], .agg #[.int .i64 b1, .int .i64 b2]] w fun e w' =>
    e = .returned (.bool true) ∧ Below w.heap.size w w' := by
  have hK0 : Known w [(w.heap.size, a1, a2), (w.heap.size + 1, b1, b2)] ((w.alloc (.cells #[.int .i64 a1, .int .i64 a2] 29)).alloc (.cells #[.int .i64 b1, .int .i64 b2] 29)) := by
    have h := (((Known.nil w).add a1 a2 29).add b1 b2 29)
    refine ⟨fun e he => h.1 e ?_, h.2⟩
    simp at he ⊢
    rcases he with he | he <;> simp [he]
  have HK0 := Lib.hid hK0
  have hBase : w.heap.size + 1 + 1 ≤ ((w.alloc (.cells #[.int .i64 a1, .int .i64 a2] 29)).alloc (.cells #[.int .i64 b1, .int .i64 b2] 29)).drew.heap.size := by simp
  clear hK0
  have HA := Lib.hid awake_any
  have H1 := move_any a1 a2 b1 b2
  have he : ((moveP a1 a2 b1 b2).2.2 == 0) = false := beq_eq_false_iff_ne.2 h4
  generalize moveP a1 a2 b1 b2 = pM at *
  have H3 := times_any a1 a2 0 1; have H4 := turn_any a1 a2 0 0 1 (by omega) (by omega)
  rw [times_turn] at H4
  generalize timesP a1 a2 0 1 = pT at *
  have H5 := mirror_any a1 a2; have H6 := mirror_any a1 (-a2)
  have h5 : inB a1 (-a2) = true := by rw [inB_iff] at h1 ⊢; omega
  rw [mirror_in h1] at H5
  rw [mirror_in h5, Int.neg_neg] at H6
  unfold spotV at H5 H6
  have M1 := Lib.hid H1; have TM := Lib.hid H3; have TU := Lib.hid H4; have MI := Lib.hid H5; have MJ := Lib.hid H6
  clear H1 H3 H4 H5 H6 h4 h5 h1
  go_enter Try.func5, Try.ntmps5
  go_wp2_with fail
  refine region_inv (J := BackJ w a1 a2 b1 b2) (by kernel_rfl) (by kernel_rfl) ?hJ0 ?hJs ?hJe
  case hJ0 => exact ⟨false, false, false, false, false, false, false, false, undef, undef, undef, undef, undef, undef, 0, 0, rfl, rfl, (Known.drew HK0.out), ⟨TV.void _ _ _ _ _ _ _ _ _, TV.void _ _ _ _ _ _ _ _ _⟩, (fun h => by cases h), (hBase)⟩
  case hJs =>
    simp only [StepsOk]
    refine ⟨?_, ?_⟩
    · intro L aJ wJ hJ hbi hdep
      obtain ⟨fb0, fb1, fb2, fb3, fb4, fb5, fb6, fb7, l0, c0, p0, l1, c1, p1, g0, g1, rfl, rfl, hKn, ⟨t0, t1⟩, ne01, hBs⟩ := hJ
      simp [Region.binds] at hbi hdep
      subst hbi
      have hk := hKn.1
      simp only [List.forall_mem_cons] at hk
      refine ⟨by rfl, ?_⟩
      skip
      have HK := Lib.hid hKn
      have T0 := Lib.hid t0
      have T1 := Lib.hid t1
      have NE01 := Lib.hid ne01
      clear hKn t0 t1 ne01
      go_simp
      exact ⟨true, _, _, _, _, _, _, _, _, _, _, _, _, _, _, _, rfl, rfl, HK.out, ⟨T0.out.load, T1.out⟩, NE01.out, hBs⟩
    refine ⟨?_, ?_⟩
    · intro L aJ wJ hJ hbi hdep
      obtain ⟨fb0, fb1, fb2, fb3, fb4, fb5, fb6, fb7, l0, c0, p0, l1, c1, p1, g0, g1, rfl, rfl, hKn, ⟨t0, t1⟩, ne01, hBs⟩ := hJ
      simp [Region.binds] at hbi hdep
      subst hbi
      have dl : fb0 = true := by (first | exact hdep | exact hdep.1 | exact hdep.2 | exact hdep.2.1 | exact hdep.2.2)
      have hl := t0.1 dl
      subst hl
      clear dl
      refine ⟨by rfl, ?_⟩
      have HK := Lib.hid hKn
      have T0 := Lib.hid t0
      have T1 := Lib.hid t1
      have NE01 := Lib.hid ne01
      clear hKn hdep t0 t1 ne01
      go_simp
      refine (To_any a1 a2 _).mono ?_
      rintro e' w2 ⟨rfl, hb⟩
      exact ⟨_, true, _, _, _, _, _, _, _, _, _, _, _, _, _, _, rfl, rfl, (HK.out.keep hb), ⟨(T0.out.keep hb).call, (T1.out.keep hb)⟩, NE01.out, (Nat.le_trans hBs hb.size)⟩
    refine ⟨?_, ?_⟩
    · intro L aJ wJ hJ hbi hdep
      obtain ⟨fb0, fb1, fb2, fb3, fb4, fb5, fb6, fb7, l0, c0, p0, l1, c1, p1, g0, g1, rfl, rfl, hKn, ⟨t0, t1⟩, ne01, hBs⟩ := hJ
      simp [Region.binds] at hbi hdep
      subst hbi
      have hk := hKn.1
      simp only [List.forall_mem_cons] at hk
      refine ⟨by rfl, ?_⟩
      skip
      have HK := Lib.hid hKn
      have T0 := Lib.hid t0
      have T1 := Lib.hid t1
      have NE01 := Lib.hid ne01
      clear hKn t0 t1 ne01
      go_simp
      exact ⟨_, _, true, _, _, _, _, _, _, _, _, _, _, _, _, _, rfl, rfl, HK.out, ⟨T0.out, T1.out.load⟩, NE01.out, hBs⟩
    refine ⟨?_, ?_⟩
    · intro L aJ wJ hJ hbi hdep
      obtain ⟨fb0, fb1, fb2, fb3, fb4, fb5, fb6, fb7, l0, c0, p0, l1, c1, p1, g0, g1, rfl, rfl, hKn, ⟨t0, t1⟩, ne01, hBs⟩ := hJ
      simp [Region.binds] at hbi hdep
      subst hbi
      have dl : fb2 = true := by (first | exact hdep | exact hdep.1 | exact hdep.2 | exact hdep.2.1 | exact hdep.2.2)
      have hl := t1.1 dl
      subst hl
      clear dl
      refine ⟨by rfl, ?_⟩
      have HK := Lib.hid hKn
      have T0 := Lib.hid t0
      have T1 := Lib.hid t1
      have NE01 := Lib.hid ne01
      clear hKn hdep t0 t1 ne01
      go_simp
      refine (To_any b1 b2 _).mono ?_
      rintro e' w2 ⟨rfl, hb⟩
      exact ⟨_, _, _, true, _, _, _, _, _, _, _, _, _, _, _, _, rfl, rfl, (HK.out.keep hb), ⟨(T0.out.keep hb), (T1.out.keep hb).call⟩, NE01.out, (Nat.le_trans hBs hb.size)⟩
    refine ⟨?_, ?_⟩
    · intro L aJ wJ hJ hbi hdep
      obtain ⟨fb0, fb1, fb2, fb3, fb4, fb5, fb6, fb7, l0, c0, p0, l1, c1, p1, g0, g1, rfl, rfl, hKn, ⟨t0, t1⟩, ne01, hBs⟩ := hJ
      simp [Region.binds] at hbi hdep
      subst hbi
      refine ⟨by rfl, ?_⟩
      have HK := Lib.hid hKn
      have T0 := Lib.hid t0
      have T1 := Lib.hid t1
      have NE01 := Lib.hid ne01
      clear hKn t0 t1 ne01
      go_simp
      exact ⟨_, _, _, _, true, _, _, _, _, _, _, _, _, _, _, _, rfl, rfl, (HK.out.alloc _), ⟨(T0.out.made hBs), (T1.out.alloc _)⟩, (fun _ h => by have := heap_lt (T1.out.2.2.1 h).2.2; omega), (by simp <;> omega)⟩
    refine ⟨?_, ?_⟩
    · intro L aJ wJ hJ hbi hdep
      obtain ⟨fb0, fb1, fb2, fb3, fb4, fb5, fb6, fb7, l0, c0, p0, l1, c1, p1, g0, g1, rfl, rfl, hKn, ⟨t0, t1⟩, ne01, hBs⟩ := hJ
      simp [Region.binds] at hbi hdep
      subst hbi
      refine ⟨by rfl, ?_⟩
      have HK := Lib.hid hKn
      have T0 := Lib.hid t0
      have T1 := Lib.hid t1
      have NE01 := Lib.hid ne01
      clear hKn t0 t1 ne01
      go_simp
      exact ⟨_, _, _, _, _, true, _, _, _, _, _, _, _, _, _, _, rfl, rfl, (HK.out.alloc _), ⟨(T0.out.alloc _), (T1.out.made hBs)⟩, (fun h _ => by have := heap_lt (T0.out.2.2.1 h).2.2; omega), (by simp <;> omega)⟩
    refine ⟨?_, ?_⟩
    · intro L aJ wJ hJ hbi hdep
      obtain ⟨fb0, fb1, fb2, fb3, fb4, fb5, fb6, fb7, l0, c0, p0, l1, c1, p1, g0, g1, rfl, rfl, hKn, ⟨t0, t1⟩, ne01, hBs⟩ := hJ
      simp [Region.binds] at hbi hdep
      subst hbi
      have da : fb4 = true := by (first | exact hdep.1 | exact hdep.2 | exact hdep.2.1 | exact hdep.2.2 | exact hdep.1.1 | exact hdep)
      have dc : fb1 = true := by (first | exact hdep.1 | exact hdep.2 | exact hdep.2.1 | exact hdep.2.2 | exact hdep.1.1 | exact hdep)
      clear hdep
      subst da
      have hc := t0.2.1 dc
      subst hc
      obtain ⟨hp, hg, _⟩ := t0.2.2.1 rfl
      subst hp
      obtain ⟨u0, u1, q0, q1, q2, q3⟩ := t0.cells rfl
      refine ⟨by rfl, ?_⟩
      have HK := Lib.hid hKn
      have T0 := Lib.hid t0
      have T1 := Lib.hid t1
      have NE01 := Lib.hid ne01
      clear hKn dc t0 t1 ne01
      go_simp
      exact ⟨_, _, _, _, _, _, true, _, _, _, _, _, _, _, _, _, rfl, rfl, ((HK.out.far (by simp <;> omega) (by omega) _).far (by simp <;> omega) (by omega) _), ⟨(T0.out.store rfl), ((T1.out.far (fun h => (NE01.out rfl h).symm) _).far (fun h => (NE01.out rfl h).symm) _)⟩, NE01.out, (by simpa [World.setCell] using hBs)⟩
    refine ⟨?_, ?_⟩
    · intro L aJ wJ hJ hbi hdep
      obtain ⟨fb0, fb1, fb2, fb3, fb4, fb5, fb6, fb7, l0, c0, p0, l1, c1, p1, g0, g1, rfl, rfl, hKn, ⟨t0, t1⟩, ne01, hBs⟩ := hJ
      simp [Region.binds] at hbi hdep
      subst hbi
      have da : fb5 = true := by (first | exact hdep.1 | exact hdep.2 | exact hdep.2.1 | exact hdep.2.2 | exact hdep.1.1 | exact hdep)
      have dc : fb3 = true := by (first | exact hdep.1 | exact hdep.2 | exact hdep.2.1 | exact hdep.2.2 | exact hdep.1.1 | exact hdep)
      clear hdep
      subst da
      have hc := t1.2.1 dc
      subst hc
      obtain ⟨hp, hg, _⟩ := t1.2.2.1 rfl
      subst hp
      obtain ⟨u0, u1, q0, q1, q2, q3⟩ := t1.cells rfl
      refine ⟨by rfl, ?_⟩
      have HK := Lib.hid hKn
      have T0 := Lib.hid t0
      have T1 := Lib.hid t1
      have NE01 := Lib.hid ne01
      clear hKn dc t0 t1 ne01
      go_simp
      exact ⟨_, _, _, _, _, _, _, true, _, _, _, _, _, _, _, _, rfl, rfl, ((HK.out.far (by simp <;> omega) (by omega) _).far (by simp <;> omega) (by omega) _), ⟨((T0.out.far (fun h => NE01.out h rfl) _).far (fun h => NE01.out h rfl) _), (T1.out.store rfl)⟩, NE01.out, (by simpa [World.setCell] using hBs)⟩
    trivial
  case hJe =>
    intro aE wE hE
    obtain ⟨fb0, fb1, fb2, fb3, fb4, fb5, fb6, fb7, l0, c0, p0, l1, c1, p1, g0, g1, hL, rfl, hKn, ⟨t0, t1⟩, ne01, hBs⟩ := hE
    simp at hL
    obtain ⟨rfl, rfl, rfl, rfl, rfl, rfl, rfl, rfl⟩ := hL
    have e0a := t0.1 rfl; have e0b := t0.2.1 rfl; have e0c := (t0.2.2.1 rfl).1; subst e0a e0b e0c
    have e1a := t1.1 rfl; have e1b := t1.2.1 rfl; have e1c := (t1.2.2.1 rfl).1; subst e1a e1b e1c
    have hKa := Known.of_tv (Known.of_tv (hKn) (by omega) t0) (by omega) t1
    clear hKn t0 t1
    dsimp only
    have hk := hKa.facts
    simp only [List.forall_mem_cons, World.size_alloc] at hk
    have HK := Lib.hid hKa
    clear hKa ne01 hBs
    go_wp2_with fail
    refine (M1.out _).mono ?_
    rintro e' wc1 ⟨rfl, hb⟩
    have hKn := Known.keep hb HK.out
    clear hb hk HK
    have hk := hKn.facts
    simp only [List.forall_mem_cons, World.size_alloc] at hk
    have HK := Lib.hid (hKn)
    clear hKn
    go_wp2_with fail
    refine (TM.out _).mono ?_
    rintro e' wc2 ⟨rfl, hb⟩
    have hKn := Known.keep hb (HK.out.add pM.1 pM.2.1 23)
    clear hb hk HK
    have hk := hKn.facts
    simp only [List.forall_mem_cons, World.size_alloc] at hk
    have HK := Lib.hid (hKn)
    clear hKn
    go_wp2_with fail
    refine (TU.out _).mono ?_
    rintro e' wc3 ⟨rfl, hb⟩
    have hKn := Known.keep hb (HK.out.add pT.1 pT.2.1 23)
    clear hb hk HK
    have hk := hKn.facts
    simp only [List.forall_mem_cons, World.size_alloc] at hk
    have HK := Lib.hid (hKn)
    clear hKn
    go_wp2_with fail
    refine (MI.out _).mono ?_
    rintro e' wc4 ⟨rfl, hb⟩
    have hKn := Known.keep hb (HK.out.add pT.1 pT.2.1 23)
    clear hb hk HK
    have hk := hKn.facts
    simp only [List.forall_mem_cons, World.size_alloc] at hk
    have HK := Lib.hid (hKn)
    clear hKn
    go_wp2_with fail
    refine (MJ.out _).mono ?_
    rintro e' wc5 ⟨rfl, hb⟩
    have hKn := Known.keep hb (HK.out.add a1 (-a2) 23)
    clear hb hk HK
    have hk := hKn.facts
    simp only [List.forall_mem_cons, World.size_alloc] at hk
    have HK := Lib.hid (hKn)
    clear hKn
    go_wp2_with fail
    refine (HA.out _).mono ?_
    rintro e' wc6 ⟨rfl, hb⟩
    have hKn := Known.keep hb (HK.out.add a1 a2 23)
    clear hb hk HK
    have hk := hKn.facts
    simp only [List.forall_mem_cons, World.size_alloc] at hk
    have HK := Lib.hid (hKn)
    clear hKn
    go_wp2
    go_ret
    exact ⟨rfl, HK.out.2⟩
set_option maxRecDepth 100000 in
set_option maxHeartbeats 2000000 in
theorem back_c (a1 a2 b1 b2 : Int) (h1 : inB a1 a2 = false) (h4 : (moveP a1 a2 b1 b2).2.2 ≠ 0) (w : World) : Calls Try.prog 5 #[.agg #[.int .i64 a1, .int .i64 a2], .agg #[.int .i64 b1, .int .i64 b2]] w fun e w' =>
    e = .returned (.bool true) ∧ Below w.heap.size w w' := by
  have hK0 : Known w [(w.heap.size, a1, a2), (w.heap.size + 1, b1, b2)] ((w.alloc (.cells #[.int .i64 a1, .int .i64 a2] 29)).alloc (.cells #[.int .i64 b1, .int .i64 b2] 29)) := by
    have h := (((Known.nil w).add a1 a2 29).add b1 b2 29)
    refine ⟨fun e he => h.1 e ?_, h.2⟩
    simp at he ⊢
    rcases he with he | he <;> simp [he]
  have HK0 := Lib.hid hK0
  have hBase : w.heap.size + 1 + 1 ≤ ((w.alloc (.cells #[.int .i64 a1, .int .i64 a2] 29)).alloc (.cells #[.int .i64 b1, .int .i64 b2] 29)).drew.heap.size := by simp
  clear hK0
  have HA := Lib.hid awake_any
  have H1 := move_any a1 a2 b1 b2
  have he : ((moveP a1 a2 b1 b2).2.2 == 0) = false := beq_eq_false_iff_ne.2 h4
  generalize moveP a1 a2 b1 b2 = pM at *
  have H3 := times_any a1 a2 0 1; have H4 := turn_any a1 a2 0 0 1 (by omega) (by omega)
  rw [times_turn] at H4
  generalize timesP a1 a2 0 1 = pT at *
  have H5 := mirror_any a1 a2; have H6 := mirror_any 0 0
  rw [mirror_out h1] at H5
  unfold spotV at H5 H6
  generalize mirrorP 0 0 = pN at *
  have M1 := Lib.hid H1; have TM := Lib.hid H3; have TU := Lib.hid H4; have MI := Lib.hid H5; have MJ := Lib.hid H6
  clear H1 H3 H4 H5 H6 h4 h1
  go_enter Try.func5, Try.ntmps5
  go_wp2_with fail
  refine region_inv (J := BackJ w a1 a2 b1 b2) (by kernel_rfl) (by kernel_rfl) ?hJ0 ?hJs ?hJe
  case hJ0 => exact ⟨false, false, false, false, false, false, false, false, undef, undef, undef, undef, undef, undef, 0, 0, rfl, rfl, (Known.drew HK0.out), ⟨TV.void _ _ _ _ _ _ _ _ _, TV.void _ _ _ _ _ _ _ _ _⟩, (fun h => by cases h), (hBase)⟩
  case hJs =>
    simp only [StepsOk]
    refine ⟨?_, ?_⟩
    · intro L aJ wJ hJ hbi hdep
      obtain ⟨fb0, fb1, fb2, fb3, fb4, fb5, fb6, fb7, l0, c0, p0, l1, c1, p1, g0, g1, rfl, rfl, hKn, ⟨t0, t1⟩, ne01, hBs⟩ := hJ
      simp [Region.binds] at hbi hdep
      subst hbi
      have hk := hKn.1
      simp only [List.forall_mem_cons] at hk
      refine ⟨by rfl, ?_⟩
      skip
      have HK := Lib.hid hKn
      have T0 := Lib.hid t0
      have T1 := Lib.hid t1
      have NE01 := Lib.hid ne01
      clear hKn t0 t1 ne01
      go_simp
      exact ⟨true, _, _, _, _, _, _, _, _, _, _, _, _, _, _, _, rfl, rfl, HK.out, ⟨T0.out.load, T1.out⟩, NE01.out, hBs⟩
    refine ⟨?_, ?_⟩
    · intro L aJ wJ hJ hbi hdep
      obtain ⟨fb0, fb1, fb2, fb3, fb4, fb5, fb6, fb7, l0, c0, p0, l1, c1, p1, g0, g1, rfl, rfl, hKn, ⟨t0, t1⟩, ne01, hBs⟩ := hJ
      simp [Region.binds] at hbi hdep
      subst hbi
      have dl : fb0 = true := by (first | exact hdep | exact hdep.1 | exact hdep.2 | exact hdep.2.1 | exact hdep.2.2)
      have hl := t0.1 dl
      subst hl
      clear dl
      refine ⟨by rfl, ?_⟩
      have HK := Lib.hid hKn
      have T0 := Lib.hid t0
      have T1 := Lib.hid t1
      have NE01 := Lib.hid ne01
      clear hKn hdep t0 t1 ne01
      go_simp
      refine (To_any a1 a2 _).mono ?_
      rintro e' w2 ⟨rfl, hb⟩
      exact ⟨_, true, _, _, _, _, _, _, _, _, _, _, _, _, _, _, rfl, rfl, (HK.out.keep hb), ⟨(T0.out.keep hb).call, (T1.out.keep hb)⟩, NE01.out, (Nat.le_trans hBs hb.size)⟩
    refine ⟨?_, ?_⟩
    · intro L aJ wJ hJ hbi hdep
      obtain ⟨fb0, fb1, fb2, fb3, fb4, fb5, fb6, fb7, l0, c0, p0, l1, c1, p1, g0, g1, rfl, rfl, hKn, ⟨t0, t1⟩, ne01, hBs⟩ := hJ
      simp [Region.binds] at hbi hdep
      subst hbi
      have hk := hKn.1
      simp only [List.forall_mem_cons] at hk
      refine ⟨by rfl, ?_⟩
      skip
      have HK := Lib.hid hKn
      have T0 := Lib.hid t0
      have T1 := Lib.hid t1
      have NE01 := Lib.hid ne01
      clear hKn t0 t1 ne01
      go_simp
      exact ⟨_, _, true, _, _, _, _, _, _, _, _, _, _, _, _, _, rfl, rfl, HK.out, ⟨T0.out, T1.out.load⟩, NE01.out, hBs⟩
    refine ⟨?_, ?_⟩
    · intro L aJ wJ hJ hbi hdep
      obtain ⟨fb0, fb1, fb2, fb3, fb4, fb5, fb6, fb7, l0, c0, p0, l1, c1, p1, g0, g1, rfl, rfl, hKn, ⟨t0, t1⟩, ne01, hBs⟩ := hJ
      simp [Region.binds] at hbi hdep
      subst hbi
      have dl : fb2 = true := by (first | exact hdep | exact hdep.1 | exact hdep.2 | exact hdep.2.1 | exact hdep.2.2)
      have hl := t1.1 dl
      subst hl
      clear dl
      refine ⟨by rfl, ?_⟩
      have HK := Lib.hid hKn
      have T0 := Lib.hid t0
      have T1 := Lib.hid t1
      have NE01 := Lib.hid ne01
      clear hKn hdep t0 t1 ne01
      go_simp
      refine (To_any b1 b2 _).mono ?_
      rintro e' w2 ⟨rfl, hb⟩
      exact ⟨_, _, _, true, _, _, _, _, _, _, _, _, _, _, _, _, rfl, rfl, (HK.out.keep hb), ⟨(T0.out.keep hb), (T1.out.keep hb).call⟩, NE01.out, (Nat.le_trans hBs hb.size)⟩
    refine ⟨?_, ?_⟩
    · intro L aJ wJ hJ hbi hdep
      obtain ⟨fb0, fb1, fb2, fb3, fb4, fb5, fb6, fb7, l0, c0, p0, l1, c1, p1, g0, g1, rfl, rfl, hKn, ⟨t0, t1⟩, ne01, hBs⟩ := hJ
      simp [Region.binds] at hbi hdep
      subst hbi
      refine ⟨by rfl, ?_⟩
      have HK := Lib.hid hKn
      have T0 := Lib.hid t0
      have T1 := Lib.hid t1
      have NE01 := Lib.hid ne01
      clear hKn t0 t1 ne01
      go_simp
      exact ⟨_, _, _, _, true, _, _, _, _, _, _, _, _, _, _, _, rfl, rfl, (HK.out.alloc _), ⟨(T0.out.made hBs), (T1.out.alloc _)⟩, (fun _ h => by have := heap_lt (T1.out.2.2.1 h).2.2; omega), (by simp <;> omega)⟩
    refine ⟨?_, ?_⟩
    · intro L aJ wJ hJ hbi hdep
      obtain ⟨fb0, fb1, fb2, fb3, fb4, fb5, fb6, fb7, l0, c0, p0, l1, c1, p1, g0, g1, rfl, rfl, hKn, ⟨t0, t1⟩, ne01, hBs⟩ := hJ
      simp [Region.binds] at hbi hdep
      subst hbi
      refine ⟨by rfl, ?_⟩
      have HK := Lib.hid hKn
      have T0 := Lib.hid t0
      have T1 := Lib.hid t1
      have NE01 := Lib.hid ne01
      clear hKn t0 t1 ne01
      go_simp
      exact ⟨_, _, _, _, _, true, _, _, _, _, _, _, _, _, _, _, rfl, rfl, (HK.out.alloc _), ⟨(T0.out.alloc _), (T1.out.made hBs)⟩, (fun h _ => by have := heap_lt (T0.out.2.2.1 h).2.2; omega), (by simp <;> omega)⟩
    refine ⟨?_, ?_⟩
    · intro L aJ wJ hJ hbi hdep
      obtain ⟨fb0, fb1, fb2, fb3, fb4, fb5, fb6, fb7, l0, c0, p0, l1, c1, p1, g0, g1, rfl, rfl, hKn, ⟨t0, t1⟩, ne01, hBs⟩ := hJ
      simp [Region.binds] at hbi hdep
      subst hbi
      have da : fb4 = true := by (first | exact hdep.1 | exact hdep.2 | exact hdep.2.1 | exact hdep.2.2 | exact hdep.1.1 | exact hdep)
      have dc : fb1 = true := by (first | exact hdep.1 | exact hdep.2 | exact hdep.2.1 | exact hdep.2.2 | exact hdep.1.1 | exact hdep)
      clear hdep
      subst da
      have hc := t0.2.1 dc
      subst hc
      obtain ⟨hp, hg, _⟩ := t0.2.2.1 rfl
      subst hp
      obtain ⟨u0, u1, q0, q1, q2, q3⟩ := t0.cells rfl
      refine ⟨by rfl, ?_⟩
      have HK := Lib.hid hKn
      have T0 := Lib.hid t0
      have T1 := Lib.hid t1
      have NE01 := Lib.hid ne01
      clear hKn dc t0 t1 ne01
      go_simp
      exact ⟨_, _, _, _, _, _, true, _, _, _, _, _, _, _, _, _, rfl, rfl, ((HK.out.far (by simp <;> omega) (by omega) _).far (by simp <;> omega) (by omega) _), ⟨(T0.out.store rfl), ((T1.out.far (fun h => (NE01.out rfl h).symm) _).far (fun h => (NE01.out rfl h).symm) _)⟩, NE01.out, (by simpa [World.setCell] using hBs)⟩
    refine ⟨?_, ?_⟩
    · intro L aJ wJ hJ hbi hdep
      obtain ⟨fb0, fb1, fb2, fb3, fb4, fb5, fb6, fb7, l0, c0, p0, l1, c1, p1, g0, g1, rfl, rfl, hKn, ⟨t0, t1⟩, ne01, hBs⟩ := hJ
      simp [Region.binds] at hbi hdep
      subst hbi
      have da : fb5 = true := by (first | exact hdep.1 | exact hdep.2 | exact hdep.2.1 | exact hdep.2.2 | exact hdep.1.1 | exact hdep)
      have dc : fb3 = true := by (first | exact hdep.1 | exact hdep.2 | exact hdep.2.1 | exact hdep.2.2 | exact hdep.1.1 | exact hdep)
      clear hdep
      subst da
      have hc := t1.2.1 dc
      subst hc
      obtain ⟨hp, hg, _⟩ := t1.2.2.1 rfl
      subst hp
      obtain ⟨u0, u1, q0, q1, q2, q3⟩ := t1.cells rfl
      refine ⟨by rfl, ?_⟩
      have HK := Lib.hid hKn
      have T0 := Lib.hid t0
      have T1 := Lib.hid t1
      have NE01 := Lib.hid ne01
      clear hKn dc t0 t1 ne01
      go_simp
      exact ⟨_, _, _, _, _, _, _, true, _, _, _, _, _, _, _, _, rfl, rfl, ((HK.out.far (by simp <;> omega) (by omega) _).far (by simp <;> omega) (by omega) _), ⟨((T0.out.far (fun h => NE01.out h rfl) _).far (fun h => NE01.out h rfl) _), (T1.out.store rfl)⟩, NE01.out, (by simpa [World.setCell] using hBs)⟩
    trivial
  case hJe =>
    intro aE wE hE
    obtain ⟨fb0, fb1, fb2, fb3, fb4, fb5, fb6, fb7, l0, c0, p0, l1, c1, p1, g0, g1, hL, rfl, hKn, ⟨t0, t1⟩, ne01, hBs⟩ := hE
    simp at hL
    obtain ⟨rfl, rfl, rfl, rfl, rfl, rfl, rfl, rfl⟩ := hL
    have e0a := t0.1 rfl; have e0b := t0.2.1 rfl; have e0c := (t0.2.2.1 rfl).1; subst e0a e0b e0c
    have e1a := t1.1 rfl; have e1b := t1.2.1 rfl; have e1c := (t1.2.2.1 rfl).1; subst e1a e1b e1c
    have hKa := Known.of_tv (Known.of_tv (hKn) (by omega) t0) (by omega) t1
    clear hKn t0 t1
    dsimp only
    have hk := hKa.facts
    simp only [List.forall_mem_cons, World.size_alloc] at hk
    have HK := Lib.hid hKa
    clear hKa ne01 hBs
    go_wp2_with fail
    refine (M1.out _).mono ?_
    rintro e' wc1 ⟨rfl, hb⟩
    have hKn := Known.keep hb HK.out
    clear hb hk HK
    have hk := hKn.facts
    simp only [List.forall_mem_cons, World.size_alloc] at hk
    have HK := Lib.hid (hKn)
    clear hKn
    go_wp2_with fail
    refine (TM.out _).mono ?_
    rintro e' wc2 ⟨rfl, hb⟩
    have hKn := Known.keep hb (HK.out.add pM.1 pM.2.1 23)
    clear hb hk HK
    have hk := hKn.facts
    simp only [List.forall_mem_cons, World.size_alloc] at hk
    have HK := Lib.hid (hKn)
    clear hKn
    go_wp2_with fail
    refine (TU.out _).mono ?_
    rintro e' wc3 ⟨rfl, hb⟩
    have hKn := Known.keep hb (HK.out.add pT.1 pT.2.1 23)
    clear hb hk HK
    have hk := hKn.facts
    simp only [List.forall_mem_cons, World.size_alloc] at hk
    have HK := Lib.hid (hKn)
    clear hKn
    go_wp2_with fail
    refine (MI.out _).mono ?_
    rintro e' wc4 ⟨rfl, hb⟩
    have hKn := Known.keep hb (HK.out.add pT.1 pT.2.1 23)
    clear hb hk HK
    have hk := hKn.facts
    simp only [List.forall_mem_cons, World.size_alloc] at hk
    have HK := Lib.hid (hKn)
    clear hKn
    go_wp2_with fail
    refine (MJ.out _).mono ?_
    rintro e' wc5 ⟨rfl, hb⟩
    have hKn := Known.keep hb (HK.out.add 0 0 23)
    clear hb hk HK
    have hk := hKn.facts
    simp only [List.forall_mem_cons, World.size_alloc] at hk
    have HK := Lib.hid (hKn)
    clear hKn
    go_wp2_with fail
    refine (HA.out _).mono ?_
    rintro e' wc6 ⟨rfl, hb⟩
    have hKn := Known.keep hb (HK.out.add pN.1 pN.2.1 23)
    clear hb hk HK
    have hk := hKn.facts
    simp only [List.forall_mem_cons, World.size_alloc] at hk
    have HK := Lib.hid (hKn)
    clear hKn
    go_wp2
    go_ret
    exact ⟨rfl, HK.out.2⟩
theorem back_any (a1 a2 b1 b2 : Int) (w : World) : Calls Try.prog 5 #[.agg #[.int .i64 a1, .int .i64 a2], .agg #[.int .i64 b1, .int .i64 b2]] w fun e w' =>
    e = .returned (.bool true) ∧ Below w.heap.size w w' := by
  by_cases h : (moveP a1 a2 b1 b2).2.2 = 0
  · obtain ⟨⟨h1, h2, h3⟩, h4⟩ := move_ok h
    exact back_a a1 a2 b1 b2 h1 h2 h3 h4 w
  · rcases h1 : inB a1 a2 with _ | _
    · exact back_c a1 a2 b1 b2 h1 h w
    · exact back_b a1 a2 b1 b2 h1 h w
end Go.Proofs.Ytpmjigghboifdaa
