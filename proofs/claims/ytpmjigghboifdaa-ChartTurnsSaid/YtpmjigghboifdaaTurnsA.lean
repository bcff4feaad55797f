import Derived.Test.YtpmjigghboifdaaTurnsJ
namespace Go.Proofs.Ytpmjigghboifdaa
open Go.RowKit Fl
set_option maxRecDepth 100000 in
set_option maxHeartbeats 4000000 in
theorem turns_a (a1 a2 b1 b2 o1 o2 n : Int) (hn1 : -9223372036854775808 ≤ n) (hn2 : n ≤ 9223372036854775807) (he : (turnP a1 a2 o1 o2 n).2.2 = 0) (hf : (turnP b1 b2 o1 o2 n).2.2 = 0) (h1 : inB a1 a2 = true) (h2 : inB b1 b2 = true) (w : World) : Calls Try.prog 6 #[.agg #[.int .i64 a1, .int .i64 a2], .agg #[.int .i64 b1, .int .i64 b2], .agg #[.int .i64 o1, .int .i64 o2], .int .i64 n] w fun e w' =>
    e = .returned (.bool true) ∧ Below w.heap.size w w' := by
  have hK0 : Known w [(w.heap.size, a1, a2), (w.heap.size + 1, b1, b2), (w.heap.size + 1 + 1, o1, o2)] (((w.alloc (.cells #[.int .i64 a1, .int .i64 a2] 29)).alloc (.cells #[.int .i64 b1, .int .i64 b2] 29)).alloc (.cells #[.int .i64 o1, .int .i64 o2] 29)) := by
    have h := ((((Known.nil w).add a1 a2 29).add b1 b2 29).add o1 o2 29)
    refine ⟨fun e he => h.1 e ?_, h.2⟩
    simp at he ⊢
    rcases he with he | he | he <;> simp [he]
  have HK0 := Lib.hid hK0
  have hBase : w.heap.size + 1 + 1 + 1 ≤ (((w.alloc (.cells #[.int .i64 a1, .int .i64 a2] 29)).alloc (.cells #[.int .i64 b1, .int .i64 b2] 29)).alloc (.cells #[.int .i64 o1, .int .i64 o2] 29)).drew.heap.size := by simp
  clear hK0
  have HA := Lib.hid awake_any
  have HM := tmod4 n
  have H1 := far_any a1 a2 b1 b2
  have H2 := turn_any a1 a2 o1 o2 n hn1 hn2; have H3 := turn_any b1 b2 o1 o2 n hn1 hn2
  have H4 := turn_any (turnP a1 a2 o1 o2 n).1 (turnP a1 a2 o1 o2 n).2.1 o1 o2 ((4 - n.tmod 4).tmod 4) (by have := tmod4 (4 - n.tmod 4); omega) (by have := tmod4 (4 - n.tmod 4); omega)
  have H5 := far_any (turnP a1 a2 o1 o2 n).1 (turnP a1 a2 o1 o2 n).2.1 (turnP b1 b2 o1 o2 n).1 (turnP b1 b2 o1 o2 n).2.1
  have H6 := mirror_any a1 a2; have H7 := mirror_any b1 b2
  unfold spotV at H6 H7
  have H8 := far_any a1 (-a2) b1 (-b2)
  rw [turned_back he] at H4
  rw [show (4 - n.tmod 4).tmod 4 = -n.tmod 4 % 4 from by rw [Int.tmod_eq_emod_of_nonneg (by omega)]; omega] at H4
  rw [far_turned he hf] at H5
  rw [mirror_in h1] at H6
  rw [mirror_in h2] at H7
  rw [far_mirror h1 h2] at H8
  generalize farI a1 a2 b1 b2 = fr at *
  generalize turnP a1 a2 o1 o2 n = pS at *
  generalize turnP b1 b2 o1 o2 n = pT at *
  have hs : (pS.2.2 == 0) = true := beq_iff_eq.2 he
  have ht : (pT.2.2 == 0) = true := beq_iff_eq.2 hf
  obtain ⟨n1, n2⟩ := HM
  have M1 := Lib.hid H1; have M2 := Lib.hid H2; have M3 := Lib.hid H3; have M4 := Lib.hid H4; have M5 := Lib.hid H5; have M6 := Lib.hid H6; have M7 := Lib.hid H7; have M8 := Lib.hid H8
  clear H1 H2 H3 H4 H5 H6 H7 H8 he hf h1 h2
  go_enter Try.func6, Try.ntmps6
  go_wp2_with fail
  refine region_inv (J := TurnsJ w a1 a2 b1 b2 o1 o2 n) (by kernel_rfl) (by kernel_rfl) ?hJ0 ?hJs ?hJe
  case hJ0 => exact ⟨false, false, false, false, false, false, false, false, false, false, false, false, undef, undef, undef, undef, undef, undef, undef, undef, undef, 0, 0, 0, rfl, rfl, (Known.drew HK0.out), ⟨TV.void _ _ _ _ _ _ _ _ _, TV.void _ _ _ _ _ _ _ _ _, TV.void _ _ _ _ _ _ _ _ _⟩, ⟨(fun h => by cases h), (fun h => by cases h), (fun h => by cases h)⟩, (hBase)⟩
  case hJs =>
    simp only [StepsOk]
    refine ⟨?_, ?_⟩
    · intro L aJ wJ hJ hbi hdep
      obtain ⟨fb0, fb1, fb2, fb3, fb4, fb5, fb6, fb7, fb8, fb9, fb10, fb11, l0, c0, p0, l1, c1, p1, l2, c2, p2, g0, g1, g2, rfl, rfl, hKn, ⟨t0, t1, t2⟩, ⟨ne01, ne02, ne12⟩, hBs⟩ := hJ
      simp [Region.binds] at hbi hdep
      subst hbi
      have hk := hKn.1
      simp only [List.forall_mem_cons] at hk
      refine ⟨by rfl, ?_⟩
      skip
      have HK := Lib.hid hKn
      have T0 := Lib.hid t0
      have T1 := Lib.hid t1
      have T2 := Lib.hid t2
      have NE01 := Lib.hid ne01
      have NE02 := Lib.hid ne02
      have NE12 := Lib.hid ne12
      clear hKn t0 t1 t2 ne01 ne02 ne12
      go_simp
      exact ⟨true, _, _, _, _, _, _, _, _, _, _, _, _, _, _, _, _, _, _, _, _, _, _, _, rfl, rfl, HK.out, ⟨T0.out.load, T1.out, T2.out⟩, ⟨NE01.out, NE02.out, NE12.out⟩, hBs⟩
    refine ⟨?_, ?_⟩
    · intro L aJ wJ hJ hbi hdep
      obtain ⟨fb0, fb1, fb2, fb3, fb4, fb5, fb6, fb7, fb8, fb9, fb10, fb11, l0, c0, p0, l1, c1, p1, l2, c2, p2, g0, g1, g2, rfl, rfl, hKn, ⟨t0, t1, t2⟩, ⟨ne01, ne02, ne12⟩, hBs⟩ := hJ
      simp [Region.binds] at hbi hdep
      subst hbi
      have dl : fb0 = true := by (first | exact hdep | exact hdep.1 | exact hdep.2 | exact hdep.2.1 | exact hdep.2.2)
      have hl := t0.1 dl
      subst hl
      clear dl
      refine ⟨by rfl, ?_⟩
      have HK := Lib.hid hKn
      have T0 := Lib.hid t0
      have T1 := Lib.hid t1
      have T2 := Lib.hid t2
      have NE01 := Lib.hid ne01
      have NE02 := Lib.hid ne02
      have NE12 := Lib.hid ne12
      clear hKn hdep t0 t1 t2 ne01 ne02 ne12
      go_simp
      refine (To_any a1 a2 _).mono ?_
      rintro e' w2 ⟨rfl, hb⟩
      exact ⟨_, true, _, _, _, _, _, _, _, _, _, _, _, _, _, _, _, _, _, _, _, _, _, _, rfl, rfl, (HK.out.keep hb), ⟨(T0.out.keep hb).call, (T1.out.keep hb), (T2.out.keep hb)⟩, ⟨NE01.out, NE02.out, NE12.out⟩, (Nat.le_trans hBs hb.size)⟩
    refine ⟨?_, ?_⟩
    · intro L aJ wJ hJ hbi hdep
      obtain ⟨fb0, fb1, fb2, fb3, fb4, fb5, fb6, fb7, fb8, fb9, fb10, fb11, l0, c0, p0, l1, c1, p1, l2, c2, p2, g0, g1, g2, rfl, rfl, hKn, ⟨t0, t1, t2⟩, ⟨ne01, ne02, ne12⟩, hBs⟩ := hJ
      simp [Region.binds] at hbi hdep
      subst hbi
      have hk := hKn.1
      simp only [List.forall_mem_cons] at hk
      refine ⟨by rfl, ?_⟩
      skip
      have HK := Lib.hid hKn
      have T0 := Lib.hid t0
      have T1 := Lib.hid t1
      have T2 := Lib.hid t2
      have NE01 := Lib.hid ne01
      have NE02 := Lib.hid ne02
      have NE12 := Lib.hid ne12
      clear hKn t0 t1 t2 ne01 ne02 ne12
      go_simp
      exact ⟨_, _, true, _, _, _, _, _, _, _, _, _, _, _, _, _, _, _, _, _, _, _, _, _, rfl, rfl, HK.out, ⟨T0.out, T1.out.load, T2.out⟩, ⟨NE01.out, NE02.out, NE12.out⟩, hBs⟩
    refine ⟨?_, ?_⟩
    · intro L aJ wJ hJ hbi hdep
      obtain ⟨fb0, fb1, fb2, fb3, fb4, fb5, fb6, fb7, fb8, fb9, fb10, fb11, l0, c0, p0, l1, c1, p1, l2, c2, p2, g0, g1, g2, rfl, rfl, hKn, ⟨t0, t1, t2⟩, ⟨ne01, ne02, ne12⟩, hBs⟩ := hJ
      simp [Region.binds] at hbi hdep
      subst hbi
      have dl : fb2 = true := by (first | exact hdep | exact hdep.1 | exact hdep.2 | exact hdep.2.1 | exact hdep.2.2)
      have hl := t1.1 dl
      subst hl
      clear dl
      refine ⟨by rfl, ?_⟩
      have HK := Lib.hid hKn
      have T0 := Lib.hid t0
      have T1 := Lib.hid t1
      have T2 := Lib.hid t2
      have NE01 := Lib.hid ne01
      have NE02 := Lib.hid ne02
      have NE12 := Lib.hid ne12
      clear hKn hdep t0 t1 t2 ne01 ne02 ne12
      go_simp
      refine (To_any b1 b2 _).mono ?_
      rintro e' w2 ⟨rfl, hb⟩
      exact ⟨_, _, _, true, _, _, _, _, _, _, _, _, _, _, _, _, _, _, _, _, _, _, _, _, rfl, rfl, (HK.out.keep hb), ⟨(T0.out.keep hb), (T1.out.keep hb).call, (T2.out.keep hb)⟩, ⟨NE01.out, NE02.out, NE12.out⟩, (Nat.le_trans hBs hb.size)⟩
    refine ⟨?_, ?_⟩
    · intro L aJ wJ hJ hbi hdep
      obtain ⟨fb0, fb1, fb2, fb3, fb4, fb5, fb6, fb7, fb8, fb9, fb10, fb11, l0, c0, p0, l1, c1, p1, l2, c2, p2, g0, g1, g2, rfl, rfl, hKn, ⟨t0, t1, t2⟩, ⟨ne01, ne02, ne12⟩, hBs⟩ := hJ
      simp [Region.binds] at hbi hdep
      subst hbi
      have hk := hKn.1
      simp only [List.forall_mem_cons] at hk
      refine ⟨by rfl, ?_⟩
      skip
      have HK := Lib.hid hKn
      have T0 := Lib.hid t0
      have T1 := Lib.hid t1
      have T2 := Lib.hid t2
      have NE01 := Lib.hid ne01
      have NE02 := Lib.hid ne02
      have NE12 := Lib.hid ne12
      clear hKn t0 t1 t2 ne01 ne02 ne12
      go_simp
      exact ⟨_, _, _, _, true, _, _, _, _, _, _, _, _, _, _, _, _, _, _, _, _, _, _, _, rfl, rfl, HK.out, ⟨T0.out, T1.out, T2.out.load⟩, ⟨NE01.out, NE02.out, NE12.out⟩, hBs⟩
    refine ⟨?_, ?_⟩
    · intro L aJ wJ hJ hbi hdep
      obtain ⟨fb0, fb1, fb2, fb3, fb4, fb5, fb6, fb7, fb8, fb9, fb10, fb11, l0, c0, p0, l1, c1, p1, l2, c2, p2, g0, g1, g2, rfl, rfl, hKn, ⟨t0, t1, t2⟩, ⟨ne01, ne02, ne12⟩, hBs⟩ := hJ
      simp [Region.binds] at hbi hdep
      subst hbi
      have dl : fb4 = true := by (first | exact hdep | exact hdep.1 | exact hdep.2 | exact hdep.2.1 | exact hdep.2.2)
      have hl := t2.1 dl
      subst hl
      clear dl
      refine ⟨by rfl, ?_⟩
      have HK := Lib.hid hKn
      have T0 := Lib.hid t0
      have T1 := Lib.hid t1
      have T2 := Lib.hid t2
      have NE01 := Lib.hid ne01
      have NE02 := Lib.hid ne02
      have NE12 := Lib.hid ne12
      clear hKn hdep t0 t1 t2 ne01 ne02 ne12
      go_simp
      refine (To_any o1 o2 _).mono ?_
      rintro e' w2 ⟨rfl, hb⟩
      exact ⟨_, _, _, _, _, true, _, _, _, _, _, _, _, _, _, _, _, _, _, _, _, _, _, _, rfl, rfl, (HK.out.keep hb), ⟨(T0.out.keep hb), (T1.out.keep hb), (T2.out.keep hb).call⟩, ⟨NE01.out, NE02.out, NE12.out⟩, (Nat.le_trans hBs hb.size)⟩
    refine ⟨?_, ?_⟩
    · intro L aJ wJ hJ hbi hdep
      obtain ⟨fb0, fb1, fb2, fb3, fb4, fb5, fb6, fb7, fb8, fb9, fb10, fb11, l0, c0, p0, l1, c1, p1, l2, c2, p2, g0, g1, g2, rfl, rfl, hKn, ⟨t0, t1, t2⟩, ⟨ne01, ne02, ne12⟩, hBs⟩ := hJ
      simp [Region.binds] at hbi hdep
      subst hbi
      refine ⟨by rfl, ?_⟩
      have HK := Lib.hid hKn
      have T0 := Lib.hid t0
      have T1 := Lib.hid t1
      have T2 := Lib.hid t2
      have NE01 := Lib.hid ne01
      have NE02 := Lib.hid ne02
      have NE12 := Lib.hid ne12
      clear hKn t0 t1 t2 ne01 ne02 ne12
      go_simp
      exact ⟨_, _, _, _, _, _, true, _, _, _, _, _, _, _, _, _, _, _, _, _, _, _, _, _, rfl, rfl, (HK.out.alloc _), ⟨(T0.out.made hBs), (T1.out.alloc _), (T2.out.alloc _)⟩, ⟨(fun _ h => by have := heap_lt (T1.out.2.2.1 h).2.2; omega), (fun _ h => by have := heap_lt (T2.out.2.2.1 h).2.2; omega), NE12.out⟩, (by simp <;> omega)⟩
    refine ⟨?_, ?_⟩
    · intro L aJ wJ hJ hbi hdep
      obtain ⟨fb0, fb1, fb2, fb3, fb4, fb5, fb6, fb7, fb8, fb9, fb10, fb11, l0, c0, p0, l1, c1, p1, l2, c2, p2, g0, g1, g2, rfl, rfl, hKn, ⟨t0, t1, t2⟩, ⟨ne01, ne02, ne12⟩, hBs⟩ := hJ
      simp [Region.binds] at hbi hdep
      subst hbi
      refine ⟨by rfl, ?_⟩
      have HK := Lib.hid hKn
      have T0 := Lib.hid t0
      have T1 := Lib.hid t1
      have T2 := Lib.hid t2
      have NE01 := Lib.hid ne01
      have NE02 := Lib.hid ne02
      have NE12 := Lib.hid ne12
      clear hKn t0 t1 t2 ne01 ne02 ne12
      go_simp
      exact ⟨_, _, _, _, _, _, _, true, _, _, _, _, _, _, _, _, _, _, _, _, _, _, _, _, rfl, rfl, (HK.out.alloc _), ⟨(T0.out.alloc _), (T1.out.made hBs), (T2.out.alloc _)⟩, ⟨(fun h _ => by have := heap_lt (T0.out.2.2.1 h).2.2; omega), NE02.out, (fun _ h => by have := heap_lt (T2.out.2.2.1 h).2.2; omega)⟩, (by simp <;> omega)⟩
    refine ⟨?_, ?_⟩
    · intro L aJ wJ hJ hbi hdep
      obtain ⟨fb0, fb1, fb2, fb3, fb4, fb5, fb6, fb7, fb8, fb9, fb10, fb11, l0, c0, p0, l1, c1, p1, l2, c2, p2, g0, g1, g2, rfl, rfl, hKn, ⟨t0, t1, t2⟩, ⟨ne01, ne02, ne12⟩, hBs⟩ := hJ
      simp [Region.binds] at hbi hdep
      subst hbi
      refine ⟨by rfl, ?_⟩
      have HK := Lib.hid hKn
      have T0 := Lib.hid t0
      have T1 := Lib.hid t1
      have T2 := Lib.hid t2
      have NE01 := Lib.hid ne01
      have NE02 := Lib.hid ne02
      have NE12 := Lib.hid ne12
      clear hKn t0 t1 t2 ne01 ne02 ne12
      go_simp
      exact ⟨_, _, _, _, _, _, _, _, true, _, _, _, _, _, _, _, _, _, _, _, _, _, _, _, rfl, rfl, (HK.out.alloc _), ⟨(T0.out.alloc _), (T1.out.alloc _), (T2.out.made hBs)⟩, ⟨NE01.out, (fun h _ => by have := heap_lt (T0.out.2.2.1 h).2.2; omega), (fun h _ => by have := heap_lt (T1.out.2.2.1 h).2.2; omega)⟩, (by simp <;> omega)⟩
    refine ⟨?_, ?_⟩
    · intro L aJ wJ hJ hbi hdep
      obtain ⟨fb0, fb1, fb2, fb3, fb4, fb5, fb6, fb7, fb8, fb9, fb10, fb11, l0, c0, p0, l1, c1, p1, l2, c2, p2, g0, g1, g2, rfl, rfl, hKn, ⟨t0, t1, t2⟩, ⟨ne01, ne02, ne12⟩, hBs⟩ := hJ
      simp [Region.binds] at hbi hdep
      subst hbi
      have da : fb6 = true := by (first | exact hdep.1 | exact hdep.2 | exact hdep.2.1 | exact hdep.2.2 | exact hdep.1.1 | exact hdep)
      have dc : fb1 = true := by (first | exact hdep.1 | exact hdep.2 | exact hdep.2.1 | exact hdep.2.2 | exact hdep.1.1 | exact hdep)
      clear hdep
      subst da
      have hc := t0.2.1 dc
      subst hc
      obtain ⟨hp, hg, _⟩ := t0.2.2.1 rfl
      subst hp
      obtain ⟨u0, u1, q0, q1, q2, q3⟩ := t0.cells rfl
      refine ⟨by rfl, ?_⟩
      have HK := Lib.hid hKn
      have T0 := Lib.hid t0
      have T1 := Lib.hid t1
      have T2 := Lib.hid t2
      have NE01 := Lib.hid ne01
      have NE02 := Lib.hid ne02
      have NE12 := Lib.hid ne12
      clear hKn dc t0 t1 t2 ne01 ne02 ne12
      go_simp
      exact ⟨_, _, _, _, _, _, _, _, _, true, _, _, _, _, _, _, _, _, _, _, _, _, _, _, rfl, rfl, ((HK.out.far (by simp <;> omega) (by omega) _).far (by simp <;> omega) (by omega) _), ⟨(T0.out.store rfl), ((T1.out.far (fun h => (NE01.out rfl h).symm) _).far (fun h => (NE01.out rfl h).symm) _), ((T2.out.far (fun h => (NE02.out rfl h).symm) _).far (fun h => (NE02.out rfl h).symm) _)⟩, ⟨NE01.out, NE02.out, NE12.out⟩, (by simpa [World.setCell] using hBs)⟩
    refine ⟨?_, ?_⟩
    · intro L aJ wJ hJ hbi hdep
      obtain ⟨fb0, fb1, fb2, fb3, fb4, fb5, fb6, fb7, fb8, fb9, fb10, fb11, l0, c0, p0, l1, c1, p1, l2, c2, p2, g0, g1, g2, rfl, rfl, hKn, ⟨t0, t1, t2⟩, ⟨ne01, ne02, ne12⟩, hBs⟩ := hJ
      simp [Region.binds] at hbi hdep
      subst hbi
      have da : fb7 = true := by (first | exact hdep.1 | exact hdep.2 | exact hdep.2.1 | exact hdep.2.2 | exact hdep.1.1 | exact hdep)
      have dc : fb3 = true := by (first | exact hdep.1 | exact hdep.2 | exact hdep.2.1 | exact hdep.2.2 | exact hdep.1.1 | exact hdep)
      clear hdep
      subst da
      have hc := t1.2.1 dc
      subst hc
      obtain ⟨hp, hg, _⟩ := t1.2.2.1 rfl
      subst hp
      obtain ⟨u0, u1, q0, q1, q2, q3⟩ := t1.cells rfl
      refine ⟨by rfl, ?_⟩
      have HK := Lib.hid hKn
      have T0 := Lib.hid t0
      have T1 := Lib.hid t1
      have T2 := Lib.hid t2
      have NE01 := Lib.hid ne01
      have NE02 := Lib.hid ne02
      have NE12 := Lib.hid ne12
      clear hKn dc t0 t1 t2 ne01 ne02 ne12
      go_simp
      exact ⟨_, _, _, _, _, _, _, _, _, _, true, _, _, _, _, _, _, _, _, _, _, _, _, _, rfl, rfl, ((HK.out.far (by simp <;> omega) (by omega) _).far (by simp <;> omega) (by omega) _), ⟨((T0.out.far (fun h => NE01.out h rfl) _).far (fun h => NE01.out h rfl) _), (T1.out.store rfl), ((T2.out.far (fun h => (NE12.out rfl h).symm) _).far (fun h => (NE12.out rfl h).symm) _)⟩, ⟨NE01.out, NE02.out, NE12.out⟩, (by simpa [World.setCell] using hBs)⟩
    refine ⟨?_, ?_⟩
    · intro L aJ wJ hJ hbi hdep
      obtain ⟨fb0, fb1, fb2, fb3, fb4, fb5, fb6, fb7, fb8, fb9, fb10, fb11, l0, c0, p0, l1, c1, p1, l2, c2, p2, g0, g1, g2, rfl, rfl, hKn, ⟨t0, t1, t2⟩, ⟨ne01, ne02, ne12⟩, hBs⟩ := hJ
      simp [Region.binds] at hbi hdep
      subst hbi
      have da : fb8 = true := by (first | exact hdep.1 | exact hdep.2 | exact hdep.2.1 | exact hdep.2.2 | exact hdep.1.1 | exact hdep)
      have dc : fb5 = true := by (first | exact hdep.1 | exact hdep.2 | exact hdep.2.1 | exact hdep.2.2 | exact hdep.1.1 | exact hdep)
      clear hdep
      subst da
      have hc := t2.2.1 dc
      subst hc
      obtain ⟨hp, hg, _⟩ := t2.2.2.1 rfl
      subst hp
      obtain ⟨u0, u1, q0, q1, q2, q3⟩ := t2.cells rfl
      refine ⟨by rfl, ?_⟩
      have HK := Lib.hid hKn
      have T0 := Lib.hid t0
      have T1 := Lib.hid t1
      have T2 := Lib.hid t2
      have NE01 := Lib.hid ne01
      have NE02 := Lib.hid ne02
      have NE12 := Lib.hid ne12
      clear hKn dc t0 t1 t2 ne01 ne02 ne12
      go_simp
      exact ⟨_, _, _, _, _, _, _, _, _, _, _, true, _, _, _, _, _, _, _, _, _, _, _, _, rfl, rfl, ((HK.out.far (by simp <;> omega) (by omega) _).far (by simp <;> omega) (by omega) _), ⟨((T0.out.far (fun h => NE02.out h rfl) _).far (fun h => NE02.out h rfl) _), ((T1.out.far (fun h => NE12.out h rfl) _).far (fun h => NE12.out h rfl) _), (T2.out.store rfl)⟩, ⟨NE01.out, NE02.out, NE12.out⟩, (by simpa [World.setCell] using hBs)⟩
    trivial
  case hJe =>
    intro aE wE hE
    obtain ⟨fb0, fb1, fb2, fb3, fb4, fb5, fb6, fb7, fb8, fb9, fb10, fb11, l0, c0, p0, l1, c1, p1, l2, c2, p2, g0, g1, g2, hL, rfl, hKn, ⟨t0, t1, t2⟩, ⟨ne01, ne02, ne12⟩, hBs⟩ := hE
    simp at hL
    obtain ⟨rfl, rfl, rfl, rfl, rfl, rfl, rfl, rfl, rfl, rfl, rfl, rfl⟩ := hL
    have e0a := t0.1 rfl; have e0b := t0.2.1 rfl; have e0c := (t0.2.2.1 rfl).1; subst e0a e0b e0c
    have e1a := t1.1 rfl; have e1b := t1.2.1 rfl; have e1c := (t1.2.2.1 rfl).1; subst e1a e1b e1c
    have e2a := t2.1 rfl; have e2b := t2.2.1 rfl; have e2c := (t2.2.2.1 rfl).1; subst e2a e2b e2c
    have hKa := Known.of_tv (Known.of_tv (Known.of_tv (hKn) (by omega) t0) (by omega) t1) (by omega) t2
    clear hKn t0 t1 t2
    dsimp only
    have hk := hKa.facts
    simp only [List.forall_mem_cons, World.size_alloc] at hk
    have HK := Lib.hid hKa
    clear hKa ne01 ne02 ne12 hBs
    go_wp2_with fail
    refine (M1.out _).mono ?_
    rintro e' wc1 ⟨rfl, hb⟩
    have hKn := Known.keep hb HK.out
    clear hb hk HK
    have hk := hKn.facts
    simp only [List.forall_mem_cons, World.size_alloc] at hk
    have HK := Lib.hid (hKn)
    clear hKn
    go_wp2_with fail
    refine (M2.out _).mono ?_
    rintro e' wc2 ⟨rfl, hb⟩
    have hKn := Known.keep hb HK.out
    clear hb hk HK
    have hk := hKn.facts
    simp only [List.forall_mem_cons, World.size_alloc] at hk
    have HK := Lib.hid (hKn)
    clear hKn
    go_wp2_with fail
    refine (M3.out _).mono ?_
    rintro e' wc3 ⟨rfl, hb⟩
    have hKn := Known.keep hb (HK.out.add pS.1 pS.2.1 23)
    clear hb hk HK
    have hk := hKn.facts
    simp only [List.forall_mem_cons, World.size_alloc] at hk
    have HK := Lib.hid (hKn)
    clear hKn
    go_wp2_with fail
    refine (M5.out _).mono ?_
    rintro e' wc4 ⟨rfl, hb⟩
    have hKn := Known.keep hb (HK.out.add pT.1 pT.2.1 23)
    clear hb hk HK
    have hk := hKn.facts
    simp only [List.forall_mem_cons, World.size_alloc] at hk
    have HK := Lib.hid (hKn)
    clear hKn
    go_wp2_with fail
    refine (M4.out _).mono ?_
    rintro e' wc5 ⟨rfl, hb⟩
    have hKn := Known.keep hb HK.out
    clear hb hk HK
    have hk := hKn.facts
    simp only [List.forall_mem_cons, World.size_alloc] at hk
    have HK := Lib.hid (hKn)
    clear hKn
    go_wp2_with fail
    refine (M6.out _).mono ?_
    rintro e' wc6 ⟨rfl, hb⟩
    have hKn := Known.keep hb (HK.out.add a1 a2 23)
    clear hb hk HK
    have hk := hKn.facts
    simp only [List.forall_mem_cons, World.size_alloc] at hk
    have HK := Lib.hid (hKn)
    clear hKn
    go_wp2_with fail
    refine (M7.out _).mono ?_
    rintro e' wc7 ⟨rfl, hb⟩
    have hKn := Known.keep hb (HK.out.add a1 (-a2) 23)
    clear hb hk HK
    have hk := hKn.facts
    simp only [List.forall_mem_cons, World.size_alloc] at hk
    have HK := Lib.hid (hKn)
    clear hKn
    go_wp2_with fail
    refine (HA.out _).mono ?_
    rintro e' wc8 ⟨rfl, hb⟩
    have hKn := Known.keep hb (HK.out.add b1 (-b2) 23)
    clear hb hk HK
    have hk := hKn.facts
    simp only [List.forall_mem_cons, World.size_alloc] at hk
    have HK := Lib.hid (hKn)
    clear hKn
    go_wp2_with fail
    refine (M8.out _).mono ?_
    rintro e' wc9 ⟨rfl, hb⟩
    have hKn := Known.keep hb HK.out
    clear hb hk HK
    have hk := hKn.facts
    simp only [List.forall_mem_cons, World.size_alloc] at hk
    have HK := Lib.hid (hKn)
    clear hKn
    go_wp2
    go_ret
    exact ⟨rfl, HK.out.2⟩
end Go.Proofs.Ytpmjigghboifdaa
