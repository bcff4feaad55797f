/- Walk over the law ChartReckons. -/
import Derived.Test.YtpmjigghboifdaaKnown
namespace Go.Proofs.Ytpmjigghboifdaa
open Go.RowKit Fl

def ReckJ (w : World) (a1 a2 b1 b2 n : Int) (L : Array Bool) (a : Act) (wJ : World) : Prop :=
  ∃ (fb0 fb1 fb2 fb3 fb4 fb5 fb6 fb7 : Bool) (l0 c0 p0 l1 c1 p1 : Value) (g0 g1 : Nat), L = #[fb0, fb1, fb2, fb3, fb4, fb5, fb6, fb7] ∧ a = { tmps := #[(.agg #[.int .i64 a1, .int .i64 a2]), (.agg #[.int .i64 b1, .int .i64 b2]), .int .i64 n, .pointer (some ⟨w.heap.size, 0, none⟩), .pointer (some ⟨w.heap.size + 1, 0, none⟩), undef, .bool false, p0, p1, undef, undef, undef, undef, undef, undef, undef, undef, undef, undef, undef, undef, undef, undef, undef, undef, l0, c0, l1, c1, undef, undef, undef, undef, undef, undef, undef, undef, undef, undef, undef, undef, undef, undef, undef, undef, undef, undef, undef, undef, undef, undef, undef, undef, undef, undef, undef, undef, undef, undef, undef, undef, undef, undef, undef, undef, undef, undef, undef, undef, undef, undef, undef, undef, undef, undef, undef, undef, undef, undef, undef, undef, undef, undef, undef, undef, undef, undef, undef, undef, undef, undef, undef, undef, undef, undef, undef, undef, undef, undef, undef, undef, undef, undef, undef, undef, undef, undef, undef, undef, undef], defers := [] } ∧ Known w [(w.heap.size, a1, a2), (w.heap.size + 1, b1, b2)] wJ ∧ (TV ((w.heap.size + 1 + 1)) 23 fb0 fb1 fb4 fb6 l0 c0 p0 g0 a1 a2 wJ ∧ TV ((w.heap.size + 1 + 1)) 23 fb2 fb3 fb5 fb7 l1 c1 p1 g1 b1 b2 wJ) ∧ ((fb4 = true → fb5 = true → g0 ≠ g1)) ∧ (w.heap.size + 1 + 1) ≤ wJ.heap.size

set_option maxRecDepth 100000 in
set_option maxHeartbeats 2000000 in
theorem reckons_any (a1 a2 b1 b2 n : Int) (hn1 : -9223372036854775808 ≤ n) (hn2 : n ≤ 9223372036854775807) (w : World) : Calls Try.prog 4 #[.agg #[.int .i64 a1, .int .i64 a2], .agg #[.int .i64 b1, .int .i64 b2], .int .i64 n] w fun e w' =>
    e = .returned (.bool true) ∧ Below w.heap.size w w' := by
  have hK0 : Known w [(w.heap.size, a1, a2), (w.heap.size + 1, b1, b2)] ((w.alloc (.cells #[.int .i64 a1, .int .i64 a2] 29)).alloc (.cells #[.int .i64 b1, .int .i64 b2] 29)) := by
    have h := (((Known.nil w).add a1 a2 29).add b1 b2 29)
    refine ⟨fun e he => h.1 e ?_, h.2⟩
    simp at he ⊢
    rcases he with he | he <;> simp [he]
  have HK0 := Lib.hid hK0
  have HA := Lib.hid awake_any
  have H1 := move_any a1 a2 b1 b2; have H2 := rmove_any a1 a2 b1 b2
  have H3 := times_any a1 a2 b1 b2; have H4 := rtimes_any a1 a2 b1 b2
  have H5 := turn_any a1 a2 b1 b2 n hn1 hn2; have H6 := rturn_any a1 a2 b1 b2 n hn1 hn2
  have H7 := mirror_any a1 a2
  unfold spotV at H2 H4 H6 H7
  generalize moveP a1 a2 b1 b2 = pP at *
  generalize timesP a1 a2 b1 b2 = pQ at *
  generalize turnP a1 a2 b1 b2 n = pR at *
  generalize hpM : mirrorP a1 a2 = pM at *
  have HPM := Lib.hid hpM
  have M := Lib.hid H1; have RM := Lib.hid H2; have TM := Lib.hid H3; have RTM := Lib.hid H4; have TU := Lib.hid H5; have RTU := Lib.hid H6; have MI := Lib.hid H7
  clear H1 H2 H3 H4 H5 H6 H7 hpM hn1 hn2
  have hBase : w.heap.size + 1 + 1 ≤ ((w.alloc (.cells #[.int .i64 a1, .int .i64 a2] 29)).alloc (.cells #[.int .i64 b1, .int .i64 b2] 29)).drew.heap.size := by simp
  clear hK0
  go_enter Try.func4, Try.ntmps4
  go_wp2_with fail
  refine region_inv (J := ReckJ w a1 a2 b1 b2 n) (by kernel_rfl) (by kernel_rfl) ?hJ0 ?hJs ?hJe
  case hJ0 => exact ⟨false, false, false, false, false, false, false, false, undef, undef, undef, undef, undef, undef, 0, 0, rfl, rfl, (Known.drew HK0.out), ⟨TV.void _ _ _ _ _ _ _ _ _, TV.void _ _ _ _ _ _ _ _ _⟩, (fun h => by cases h), (hBase)⟩
  case hJs =>
    simp only [StepsOk]
    refine ⟨?_, ?_⟩
    · intro L aJ wJ hJ hbi hdep
      obtain ⟨fb0, fb1, fb2, fb3, fb4, fb5, fb6, fb7, l0, c0, p0, l1, c1, p1, g0, g1, rfl, rfl, hKn, ⟨t0, t1⟩, ne01, hBs⟩ := hJ
      simp [Region.binds] at hbi hdep
      subst hbi
      have hk := hKn.1
      simp only [List.forall_mem_cons] at hk
      refine ⟨by rfl, ?_⟩
      skip
      have HK := Lib.hid hKn
      have T0 := Lib.hid t0
      have T1 := Lib.hid t1
      have NE01 := Lib.hid ne01
      clear hKn t0 t1 ne01
      go_simp
      exact ⟨true, _, _, _, _, _, _, _, _, _, _, _, _, _, _, _, rfl, rfl, HK.out, ⟨T0.out.load, T1.out⟩, NE01.out, hBs⟩
    refine ⟨?_, ?_⟩
    · intro L aJ wJ hJ hbi hdep
      obtain ⟨fb0, fb1, fb2, fb3, fb4, fb5, fb6, fb7, l0, c0, p0, l1, c1, p1, g0, g1, rfl, rfl, hKn, ⟨t0, t1⟩, ne01, hBs⟩ := hJ
      simp [Region.binds] at hbi hdep
      subst hbi
      have dl : fb0 = true := by (first | exact hdep | exact hdep.1 | exact hdep.2 | exact hdep.2.1 | exact hdep.2.2)
      have hl := t0.1 dl
      subst hl
      clear dl
      refine ⟨by rfl, ?_⟩
      have HK := Lib.hid hKn
      have T0 := Lib.hid t0
      have T1 := Lib.hid t1
      have NE01 := Lib.hid ne01
      clear hKn hdep t0 t1 ne01
      go_simp
      refine (To_any a1 a2 _).mono ?_
      rintro e' w2 ⟨rfl, hb⟩
      exact ⟨_, true, _, _, _, _, _, _, _, _, _, _, _, _, _, _, rfl, rfl, (HK.out.keep hb), ⟨(T0.out.keep hb).call, (T1.out.keep hb)⟩, NE01.out, (Nat.le_trans hBs hb.size)⟩
    refine ⟨?_, ?_⟩
    · intro L aJ wJ hJ hbi hdep
      obtain ⟨fb0, fb1, fb2, fb3, fb4, fb5, fb6, fb7, l0, c0, p0, l1, c1, p1, g0, g1, rfl, rfl, hKn, ⟨t0, t1⟩, ne01, hBs⟩ := hJ
      simp [Region.binds] at hbi hdep
      subst hbi
      have hk := hKn.1
      simp only [List.forall_mem_cons] at hk
      refine ⟨by rfl, ?_⟩
      skip
      have HK := Lib.hid hKn
      have T0 := Lib.hid t0
      have T1 := Lib.hid t1
      have NE01 := Lib.hid ne01
      clear hKn t0 t1 ne01
      go_simp
      exact ⟨_, _, true, _, _, _, _, _, _, _, _, _, _, _, _, _, rfl, rfl, HK.out, ⟨T0.out, T1.out.load⟩, NE01.out, hBs⟩
    refine ⟨?_, ?_⟩
    · intro L aJ wJ hJ hbi hdep
      obtain ⟨fb0, fb1, fb2, fb3, fb4, fb5, fb6, fb7, l0, c0, p0, l1, c1, p1, g0, g1, rfl, rfl, hKn, ⟨t0, t1⟩, ne01, hBs⟩ := hJ
      simp [Region.binds] at hbi hdep
      subst hbi
      have dl : fb2 = true := by (first | exact hdep | exact hdep.1 | exact hdep.2 | exact hdep.2.1 | exact hdep.2.2)
      have hl := t1.1 dl
      subst hl
      clear dl
      refine ⟨by rfl, ?_⟩
      have HK := Lib.hid hKn
      have T0 := Lib.hid t0
      have T1 := Lib.hid t1
      have NE01 := Lib.hid ne01
      clear hKn hdep t0 t1 ne01
      go_simp
      refine (To_any b1 b2 _).mono ?_
      rintro e' w2 ⟨rfl, hb⟩
      exact ⟨_, _, _, true, _, _, _, _, _, _, _, _, _, _, _, _, rfl, rfl, (HK.out.keep hb), ⟨(T0.out.keep hb), (T1.out.keep hb).call⟩, NE01.out, (Nat.le_trans hBs hb.size)⟩
    refine ⟨?_, ?_⟩
    · intro L aJ wJ hJ hbi hdep
      obtain ⟨fb0, fb1, fb2, fb3, fb4, fb5, fb6, fb7, l0, c0, p0, l1, c1, p1, g0, g1, rfl, rfl, hKn, ⟨t0, t1⟩, ne01, hBs⟩ := hJ
      simp [Region.binds] at hbi hdep
      subst hbi
      refine ⟨by rfl, ?_⟩
      have HK := Lib.hid hKn
      have T0 := Lib.hid t0
      have T1 := Lib.hid t1
      have NE01 := Lib.hid ne01
      clear hKn t0 t1 ne01
      go_simp
      exact ⟨_, _, _, _, true, _, _, _, _, _, _, _, _, _, _, _, rfl, rfl, (HK.out.alloc _), ⟨(T0.out.made hBs), (T1.out.alloc _)⟩, (fun _ h => by have := heap_lt (T1.out.2.2.1 h).2.2; omega), (by simp <;> omega)⟩
    refine ⟨?_, ?_⟩
    · intro L aJ wJ hJ hbi hdep
      obtain ⟨fb0, fb1, fb2, fb3, fb4, fb5, fb6, fb7, l0, c0, p0, l1, c1, p1, g0, g1, rfl, rfl, hKn, ⟨t0, t1⟩, ne01, hBs⟩ := hJ
      simp [Region.binds] at hbi hdep
      subst hbi
      refine ⟨by rfl, ?_⟩
      have HK := Lib.hid hKn
      have T0 := Lib.hid t0
      have T1 := Lib.hid t1
      have NE01 := Lib.hid ne01
      clear hKn t0 t1 ne01
      go_simp
      exact ⟨_, _, _, _, _, true, _, _, _, _, _, _, _, _, _, _, rfl, rfl, (HK.out.alloc _), ⟨(T0.out.alloc _), (T1.out.made hBs)⟩, (fun h _ => by have := heap_lt (T0.out.2.2.1 h).2.2; omega), (by simp <;> omega)⟩
    refine ⟨?_, ?_⟩
    · intro L aJ wJ hJ hbi hdep
      obtain ⟨fb0, fb1, fb2, fb3, fb4, fb5, fb6, fb7, l0, c0, p0, l1, c1, p1, g0, g1, rfl, rfl, hKn, ⟨t0, t1⟩, ne01, hBs⟩ := hJ
      simp [Region.binds] at hbi hdep
      subst hbi
      have da : fb4 = true := by (first | exact hdep.1 | exact hdep.2 | exact hdep.2.1 | exact hdep.2.2 | exact hdep.1.1 | exact hdep)
      have dc : fb1 = true := by (first | exact hdep.1 | exact hdep.2 | exact hdep.2.1 | exact hdep.2.2 | exact hdep.1.1 | exact hdep)
      clear hdep
      subst da
      have hc := t0.2.1 dc
      subst hc
      obtain ⟨hp, hg, _⟩ := t0.2.2.1 rfl
      subst hp
      obtain ⟨u0, u1, q0, q1, q2, q3⟩ := t0.cells rfl
      refine ⟨by rfl, ?_⟩
      have HK := Lib.hid hKn
      have T0 := Lib.hid t0
      have T1 := Lib.hid t1
      have NE01 := Lib.hid ne01
      clear hKn dc t0 t1 ne01
      go_simp
      exact ⟨_, _, _, _, _, _, true, _, _, _, _, _, _, _, _, _, rfl, rfl, ((HK.out.far (by simp <;> omega) (by omega) _).far (by simp <;> omega) (by omega) _), ⟨(T0.out.store rfl), ((T1.out.far (fun h => (NE01.out rfl h).symm) _).far (fun h => (NE01.out rfl h).symm) _)⟩, NE01.out, (by simpa [World.setCell] using hBs)⟩
    refine ⟨?_, ?_⟩
    · intro L aJ wJ hJ hbi hdep
      obtain ⟨fb0, fb1, fb2, fb3, fb4, fb5, fb6, fb7, l0, c0, p0, l1, c1, p1, g0, g1, rfl, rfl, hKn, ⟨t0, t1⟩, ne01, hBs⟩ := hJ
      simp [Region.binds] at hbi hdep
      subst hbi
      have da : fb5 = true := by (first | exact hdep.1 | exact hdep.2 | exact hdep.2.1 | exact hdep.2.2 | exact hdep.1.1 | exact hdep)
      have dc : fb3 = true := by (first | exact hdep.1 | exact hdep.2 | exact hdep.2.1 | exact hdep.2.2 | exact hdep.1.1 | exact hdep)
      clear hdep
      subst da
      have hc := t1.2.1 dc
      subst hc
      obtain ⟨hp, hg, _⟩ := t1.2.2.1 rfl
      subst hp
      obtain ⟨u0, u1, q0, q1, q2, q3⟩ := t1.cells rfl
      refine ⟨by rfl, ?_⟩
      have HK := Lib.hid hKn
      have T0 := Lib.hid t0
      have T1 := Lib.hid t1
      have NE01 := Lib.hid ne01
      clear hKn dc t0 t1 ne01
      go_simp
      exact ⟨_, _, _, _, _, _, _, true, _, _, _, _, _, _, _, _, rfl, rfl, ((HK.out.far (by simp <;> omega) (by omega) _).far (by simp <;> omega) (by omega) _), ⟨((T0.out.far (fun h => NE01.out h rfl) _).far (fun h => NE01.out h rfl) _), (T1.out.store rfl)⟩, NE01.out, (by simpa [World.setCell] using hBs)⟩
    trivial
  case hJe =>
    intro aE wE hE
    obtain ⟨fb0, fb1, fb2, fb3, fb4, fb5, fb6, fb7, l0, c0, p0, l1, c1, p1, g0, g1, hL, rfl, hKn, ⟨t0, t1⟩, ne01, hBs⟩ := hE
    simp at hL
    obtain ⟨rfl, rfl, rfl, rfl, rfl, rfl, rfl, rfl⟩ := hL
    have e0a := t0.1 rfl; have e0b := t0.2.1 rfl; have e0c := (t0.2.2.1 rfl).1; subst e0a e0b e0c
    have e1a := t1.1 rfl; have e1b := t1.2.1 rfl; have e1c := (t1.2.2.1 rfl).1; subst e1a e1b e1c
    have hKa := Known.of_tv (Known.of_tv (hKn) (by omega) t0) (by omega) t1
    clear hKn t0 t1
    dsimp only
    have hk := hKa.facts
    simp only [List.forall_mem_cons, World.size_alloc] at hk
    have HK := Lib.hid hKa
    clear hKa ne01 hBs
    go_wp2_with fail
    refine (M.out _).mono ?_
    rintro e' wc1 ⟨rfl, hb⟩
    have hKn := Known.keep hb HK.out
    clear hb hk HK
    have hk := hKn.facts
    simp only [List.forall_mem_cons, World.size_alloc] at hk
    have HK := Lib.hid (hKn)
    clear hKn
    go_wp2_with fail
    refine (RM.out _).mono ?_
    rintro e' wc2 ⟨rfl, hb⟩
    have hKn := Known.keep hb (HK.out.add pP.1 pP.2.1 23)
    clear hb hk HK
    have hk := hKn.facts
    simp only [List.forall_mem_cons, World.size_alloc] at hk
    have HK := Lib.hid (hKn)
    clear hKn
    go_wp2_with fail
    refine (TM.out _).mono ?_
    rintro e' wc3 ⟨rfl, hb⟩
    have hKn := Known.keep hb (HK.out.add pP.1 pP.2.1 29)
    clear hb hk HK
    have hk := hKn.facts
    simp only [List.forall_mem_cons, World.size_alloc] at hk
    have HK := Lib.hid (hKn)
    clear hKn
    go_wp2_with fail
    refine (RTM.out _).mono ?_
    rintro e' wc4 ⟨rfl, hb⟩
    have hKn := Known.keep hb (HK.out.add pQ.1 pQ.2.1 23)
    clear hb hk HK
    have hk := hKn.facts
    simp only [List.forall_mem_cons, World.size_alloc] at hk
    have HK := Lib.hid (hKn)
    clear hKn
    go_wp2_with fail
    refine (TU.out _).mono ?_
    rintro e' wc5 ⟨rfl, hb⟩
    have hKn := Known.keep hb (HK.out.add pQ.1 pQ.2.1 29)
    clear hb hk HK
    have hk := hKn.facts
    simp only [List.forall_mem_cons, World.size_alloc] at hk
    have HK := Lib.hid (hKn)
    clear hKn
    go_wp2_with fail
    refine (RTU.out _).mono ?_
    rintro e' wc6 ⟨rfl, hb⟩
    have hKn := Known.keep hb (HK.out.add pR.1 pR.2.1 23)
    clear hb hk HK
    have hk := hKn.facts
    simp only [List.forall_mem_cons, World.size_alloc] at hk
    have HK := Lib.hid (hKn)
    clear hKn
    go_wp2_with fail
    refine (MI.out _).mono ?_
    rintro e' wc7 ⟨rfl, hb⟩
    have hKn := Known.keep hb (HK.out.add pR.1 pR.2.1 29)
    clear hb hk HK
    have hk := hKn.facts
    simp only [List.forall_mem_cons, World.size_alloc] at hk
    have HK := Lib.hid (hKn)
    clear hKn
    have hlt := (HK.out.add pM.1 pM.2.1 23).lt
    have HLT := Lib.hid hlt; clear hlt
    rcases HI : inB a1 a2 with _ | _
    · have HII := Lib.hid HI
      have hpm := HPM.out
      unfold mirrorP at hpm
      rw [HI] at hpm
      clear HI HPM
      have hpm' : (0, 0, 1) = pM := hpm
      clear hpm
      subst hpm'
      go_wp2_with fail
      refine (On_any a1 a2 _).mono ?_
      rintro e' wc8 ⟨rfl, hb⟩
      have hKn := Known.keep hb ((HK.out.add 0 0 23).add 0 0 29)
      clear hb hk HK
      have hk := hKn.facts
      simp only [List.forall_mem_cons, World.size_alloc] at hk
      have HK := Lib.hid (hKn)
      clear hKn
      rw [HII.out]
      go_wp2_with fail
      refine (HA.out _).mono ?_
      rintro e' wc9 ⟨rfl, hb⟩
      have hKn := Known.keep hb HK.out
      clear hb hk HK
      have hk := hKn.facts
      simp only [List.forall_mem_cons, World.size_alloc] at hk
      have HK := Lib.hid (hKn)
      clear hKn
      go_wp2_with fail
      refine (is_any pP.1 pP.2.1 pP.2.2 _).mono ?_
      rintro e' wc10 ⟨rfl, hb⟩
      have hKn := Known.keep hb HK.out
      clear hb hk HK
      have hk := hKn.facts
      simp only [List.forall_mem_cons, World.size_alloc] at hk
      have HK := Lib.hid (hKn)
      clear hKn
      go_wp2_with fail
      refine (is_any pQ.1 pQ.2.1 pQ.2.2 _).mono ?_
      rintro e' wc11 ⟨rfl, hb⟩
      have hKn := Known.keep hb HK.out
      clear hb hk HK
      have hk := hKn.facts
      simp only [List.forall_mem_cons, World.size_alloc] at hk
      have HK := Lib.hid (hKn)
      clear hKn
      go_wp2_with fail
      refine (is_any pR.1 pR.2.1 pR.2.2 _).mono ?_
      rintro e' wc12 ⟨rfl, hb⟩
      have hKn := Known.keep hb HK.out
      clear hb hk HK
      have hk := hKn.facts
      simp only [List.forall_mem_cons, World.size_alloc] at hk
      have HK := Lib.hid (hKn)
      clear hKn
      go_wp2_with fail
      refine (is_any 0 0 1 _).mono ?_
      rintro e' wc13 ⟨rfl, hb⟩
      have hKn := Known.keep hb HK.out
      clear hb hk HK
      have hk := hKn.facts
      simp only [List.forall_mem_cons, World.size_alloc] at hk
      have HK := Lib.hid (hKn)
      clear hKn
      go_wp2
      go_ret
      exact ⟨rfl, HK.out.2⟩
    · have HII := Lib.hid HI
      have hpm := HPM.out
      unfold mirrorP at hpm
      rw [HI] at hpm
      have hin := (inB_iff a1 a2).1 HI
      obtain ⟨i1, i2, i3, i4⟩ := hin
      clear HI HPM
      have hpm' : (a1, -a2, 0) = pM := hpm
      clear hpm
      subst hpm'
      go_wp2_with fail
      refine (On_any a1 a2 _).mono ?_
      rintro e' wc8 ⟨rfl, hb⟩
      have hKn := Known.keep hb ((HK.out.add a1 (-a2) 23).add 0 0 29)
      clear hb hk HK
      have hk := hKn.facts
      simp only [List.forall_mem_cons, World.size_alloc] at hk
      have HK := Lib.hid (hKn)
      clear hKn
      rw [HII.out]
      go_wp2_with fail
      refine (HA.out _).mono ?_
      rintro e' wa ⟨rfl, hb⟩
      have hs := HK.out.set2 (fun e he => Nat.ne_of_lt (HLT.out e he)) a1 (-a2)
      simp only [World.size_alloc] at hs
      have hKn := Known.keep hb hs
      clear hs
      clear hb hk HK
      have hk := hKn.facts
      simp only [List.forall_mem_cons, World.size_alloc] at hk
      have HK := Lib.hid (hKn)
      clear hKn
      go_wp2_with fail
      refine (is_any pP.1 pP.2.1 pP.2.2 _).mono ?_
      rintro e' wc9 ⟨rfl, hb⟩
      have hKn := Known.keep hb HK.out
      clear hb hk HK
      have hk := hKn.facts
      simp only [List.forall_mem_cons, World.size_alloc] at hk
      have HK := Lib.hid (hKn)
      clear hKn
      go_wp2_with fail
      refine (is_any pQ.1 pQ.2.1 pQ.2.2 _).mono ?_
      rintro e' wc10 ⟨rfl, hb⟩
      have hKn := Known.keep hb HK.out
      clear hb hk HK
      have hk := hKn.facts
      simp only [List.forall_mem_cons, World.size_alloc] at hk
      have HK := Lib.hid (hKn)
      clear hKn
      go_wp2_with fail
      refine (is_any pR.1 pR.2.1 pR.2.2 _).mono ?_
      rintro e' wc11 ⟨rfl, hb⟩
      have hKn := Known.keep hb HK.out
      clear hb hk HK
      have hk := hKn.facts
      simp only [List.forall_mem_cons, World.size_alloc] at hk
      have HK := Lib.hid (hKn)
      clear hKn
      go_wp2_with fail
      refine (is_any a1 (-a2) 0 _).mono ?_
      rintro e' wc12 ⟨rfl, hb⟩
      have hKn := Known.keep hb HK.out
      clear hb hk HK
      have hk := hKn.facts
      simp only [List.forall_mem_cons, World.size_alloc] at hk
      have HK := Lib.hid (hKn)
      clear hKn
      go_wp2
      go_ret
      exact ⟨rfl, HK.out.2⟩
end Go.Proofs.Ytpmjigghboifdaa
