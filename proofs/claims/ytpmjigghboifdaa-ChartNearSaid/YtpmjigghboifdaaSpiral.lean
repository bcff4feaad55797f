/- Walk over chart.Spiral. -/
import Derived.Test.YtpmjigghboifdaaOn
import Derived.Test.YtpmjigghboifdaaSpiralMath
import Derived.ScopeJumps
namespace Go.Proofs.Ytpmjigghboifdaa
open Go.RowKit Fl
attribute [local go_sem] run_store_complex run_neg_float

theorem spiral_no (n : Int) (h : n < 0 ∨ 10000 ≤ n) (w : World) : Calls Try.prog 9 #[.int .i64 n] w fun e w' =>
    e = .returned (spotV (0, 0, 1)) ∧ Below w.heap.size w w' := by
  unfold spotV
  rcases h with h | h
  all_goals
    try have h' : ¬ n < 0 := by omega
    go_enter Try.func9, Try.ntmps9
    go_wp2
    go_step3
    go_wp2
    rw [Exit.noGoto_ret]
    refine bodyPost_ret (v := .tuple #[.agg #[.int .i64 0, .int .i64 0], .int .i64 1]) (by simp only [results, Try.results9]; go_simp) rfl ⟨rfl, ?_⟩
    exact (Below.refl _ _).alloc (Nat.le_refl _) _

/-- What holds at the label: m steps are done. -/
def SpRel (n : Nat) (w : World) (a : Act) (w' : World) : Prop :=
  ∃ (m zr zi sr si : Nat) (nn lo le tu : Int) (u1 u9 u10 u11 u12 u13 u14 u15 u16 u17 u18 u19 u20 u21 u22 u23 u24 u25 u26 u27 u28 u29 u30 u31 u32 u33 u34 u35 u36 u37 u38 : Value), a = { tmps := #[.int .i64 nn, u1, .pointer (some ⟨w.heap.size, 0, none⟩), .int .i64 0, .complex .f64 zr zi, .complex .f64 sr si, .int .i64 lo, .int .i64 le, .int .i64 tu, u9, u10, u11, u12, u13, u14, u15, u16, u17, u18, u19, u20, u21, u22, u23, u24, u25, u26, u27, u28, u29, u30, u31, u32, u33, u34, u35, u36, u37, u38], defers := [] } ∧ (nn = (n : Int) - m ∧ lo = (sp m).long ∧ le = (sp m).left ∧ tu = (sp m).turns) ∧ m ≤ n ∧ Rep2 zr zi (sp m).x (sp m).y ∧ Rep2 sr si (sp m).dx (sp m).dy ∧ w' = w.alloc (.cells #[.int .i64 0, .int .i64 0] 23)

theorem sp_step {sr si : Nat} {dx dy : Int} (h : Rep2 sr si dx dy) (h1 : -1 ≤ dx) (h2 : dx ≤ 1) (h3 : -1 ≤ dy) (h4 : dy ≤ 1) :
    ∃ r s, Rep2 r s (-dy) dx ∧ ∀ (t : TypeId) (w : World), (binOp .mul t (.complex .f64 sr si) (.complex .f64 0 4607182418800017408)).run Try.prog w = .ok (.complex .f64 r s) w := by
  obtain ⟨r, s, R, e⟩ := c_mul h ⟨rep_zero, rep_one⟩ (by omega) (by omega) (by omega) (by omega) (by omega) (by omega)
  exact ⟨r, s, by simpa using R, e⟩

set_option maxHeartbeats 1000000 in
theorem spiral_yes (n : Nat) (h : n < 10000) (w : World) : Calls Try.prog 9 #[.int .i64 n] w fun e w' =>
    e = .returned (spotV ((sp n).x, (sp n).y, 0)) ∧ Below w.heap.size w w' := by
  unfold spotV
  go_enter Try.func9, Try.ntmps9
  go_wp2
  refine wp_scope_jumps 0 (SpRel n w) (fun a' _ => (intOf (a'.tmps.getD 0 undef)).toNat) rfl ?_ ?_
  · have a0 := fun (t : TypeId) (W : World) => run_complex_sum (P := Try.prog) W .add (.inl rfl) t .f64 0 0 4607182418800017408 0 4607182418800017408 0 (by kernel_rfl)
    have m0 := qmul 0 (by decide)
    simp only [qbits] at m0
    rcases Nat.eq_zero_or_pos n with h0 | h0
    · subst h0
      go_wp2
      go_step3
      go_wp2_with fail
      refine (spot_any 0 0 0 0 rep_zero rep_zero (by decide) (by decide) _).mono ?_
      rintro e w1 ⟨rfl, hb1⟩
      have hz1 : w.heap.size < w1.heap.size := by have := hb1.size; simp at this; omega
      have k0 : w1.cell? ⟨w.heap.size, 0, none⟩ = some (.int .i64 0) := by rw [hb1.cell (by simp)]; go_simp
      have k1 : w1.cell? ⟨w.heap.size, 1, none⟩ = some (.int .i64 0) := by rw [hb1.cell (by simp)]; go_simp
      have k2 : w1.frozen? ⟨w.heap.size, 0, none⟩ = false := by rw [hb1.frozen (by simp)]; go_simp
      have k3 : w1.frozen? ⟨w.heap.size, 1, none⟩ = false := by rw [hb1.frozen (by simp)]; go_simp
      have hB : Below w.heap.size w w1 := ((Below.refl _ _).alloc (Nat.le_refl _) _).trans (hb1.mono (by simp))
      clear hb1
      go_wp2
      simp only [Exit.jump]
      refine bodyPost_ret (v := .tuple #[.agg #[.int .i64 0, .int .i64 0], .int .i64 0]) (by simp only [results, Try.results9]; go_simp) rfl ⟨rfl, ?_⟩
      exact (hB.setCell (by simp) _).setCell (by simp) _
    · have hn : ((n : Int) == 0) = false := beq_eq_false_iff_ne.2 (by omega)
      go_wp2
      go_step3
      go_wp2
      go_step3
      refine ⟨rfl, 1, 4607182418800017408, 0, 0, 4607182418800017408, _, _, _, _, _, _, _, _, _, _, _, _, _, _, _, _, _, _, _, _, _, _, _, _, _, _, _, _, _, _, _, _, _, _, _, rfl, ⟨rfl, rfl, rfl, rfl⟩, h0, ⟨rep_one, rep_zero⟩, ⟨rep_zero, rep_one⟩, rfl⟩
  · rintro a' w' ⟨m, zr, zi, sr, si, _, _, _, _, u1, u9, u10, u11, u12, u13, u14, u15, u16, u17, u18, u19, u20, u21, u22, u23, u24, u25, u26, u27, u28, u29, u30, u31, u32, u33, u34, u35, u36, u37, u38, rfl, ⟨rfl, rfl, rfl, rfl⟩, hm, hz, hs, rfl⟩
    have hbd := sp_bd m
    have HN := Lib.hid (show sp (m + 1) = (sp m).next from rfl)
    rcases Nat.eq_or_lt_of_le hm with h0 | h0
    · subst h0
      obtain ⟨⟨b1, b2, b3, b4⟩, _, _⟩ := hbd
      have HS := Lib.hid (spot_any zr zi _ _ hz.1 hz.2 (by omega) (by omega))
      clear HN hz hs hm
      generalize hss : sp m = s at *
      have HSS := Lib.hid hss
      clear hss
      have e0 : ((m : Int) - m == 0) = true := beq_iff_eq.2 (by omega)
      go_wp2_with fail
      refine (HS.out _).mono ?_
      rintro e w1 ⟨rfl, hb1⟩
      have hz1 : w.heap.size < w1.heap.size := by have := hb1.size; simp at this; omega
      have k0 : w1.cell? ⟨w.heap.size, 0, none⟩ = some (.int .i64 0) := by rw [hb1.cell (by simp)]; go_simp
      have k1 : w1.cell? ⟨w.heap.size, 1, none⟩ = some (.int .i64 0) := by rw [hb1.cell (by simp)]; go_simp
      have k2 : w1.frozen? ⟨w.heap.size, 0, none⟩ = false := by rw [hb1.frozen (by simp)]; go_simp
      have k3 : w1.frozen? ⟨w.heap.size, 1, none⟩ = false := by rw [hb1.frozen (by simp)]; go_simp
      have hB : Below w.heap.size w w1 := ((Below.refl _ _).alloc (Nat.le_refl _) _).trans (hb1.mono (by simp))
      clear hb1
      go_wp2
      simp only [Exit.jump]
      refine bodyPost_ret (v := .tuple #[.agg #[.int .i64 s.x, .int .i64 s.y], .int .i64 0]) (by simp only [results, Try.results9]; go_simp) rfl ⟨by rw [HSS.out], ?_⟩
      exact (hB.setCell (by simp) _).setCell (by simp) _
    · obtain ⟨⟨b1, b2, b3, b4⟩, ⟨b5, b6, b7, b8⟩, ⟨b9, b10, b11, b12, b13, b14⟩⟩ := hbd
      obtain ⟨r, t, hz', add1⟩ := c_add hz hs (by omega) (by omega)
      obtain ⟨r2, t2, hs', mul1⟩ := sp_step hs b5 b6 b7 b8
      have e0 : ((n : Int) - m == 0) = false := beq_eq_false_iff_ne.2 (by omega)
      have HZ := Lib.hid hz'
      have HS := Lib.hid hs'
      have HS0 := Lib.hid hs
      clear hz hs hz' hs'
      generalize hss : sp m = s at *
      have HSS := Lib.hid hss
      clear hss
      by_cases hl : 0 < s.left - 1
      · have HE := Lib.hid (show s.next = ⟨s.x + s.dx, s.y + s.dy, s.dx, s.dy, s.long, s.left - 1, s.turns⟩ by unfold Sp.next; rw [if_pos hl])
        go_wp2
        go_step3
        refine ⟨rfl, ⟨m + 1, r, t, sr, si, _, _, _, _, _, _, _, _, _, _, _, _, _, _, _, _, _, _, _, _, _, _, _, _, _, _, _, _, _, _, _, _, _, _, _, rfl, ⟨by omega, ?_, ?_, ?_⟩, by omega, ?_, ?_, rfl⟩, by simp [intOf]; omega⟩
        · rw [HN.out, HE.out]
        · rw [HN.out, HE.out]
        · rw [HN.out, HE.out]
        · rw [HN.out, HE.out]; exact HZ.out
        · rw [HN.out, HE.out]; exact HS0.out
      · have hle : (0 : Int) ≤ s.turns + 1 := by omega
        by_cases ht : (s.turns + 1) % 2 = 0
        · have HE := Lib.hid (show s.next = ⟨s.x + s.dx, s.y + s.dy, -s.dy, s.dx, s.long + 1, s.long + 1, s.turns + 1⟩ by unfold Sp.next; rw [if_neg hl, if_pos ht])
          have ht' : ((s.turns + 1) % 2 == 0) = true := beq_iff_eq.2 ht
          clear ht
          go_wp2
          go_step3
          refine ⟨rfl, ⟨m + 1, r, t, r2, t2, _, _, _, _, _, _, _, _, _, _, _, _, _, _, _, _, _, _, _, _, _, _, _, _, _, _, _, _, _, _, _, _, _, _, _, rfl, ⟨by omega, ?_, ?_, ?_⟩, by omega, ?_, ?_, rfl⟩, by simp [intOf]; omega⟩
          · rw [HN.out, HE.out]
          · rw [HN.out, HE.out]
          · rw [HN.out, HE.out]
          · rw [HN.out, HE.out]; exact HZ.out
          · rw [HN.out, HE.out]; exact HS.out
        · have HE := Lib.hid (show s.next = ⟨s.x + s.dx, s.y + s.dy, -s.dy, s.dx, s.long, s.long, s.turns + 1⟩ by unfold Sp.next; rw [if_neg hl, if_neg ht])
          have ht' : ((s.turns + 1) % 2 == 0) = false := beq_eq_false_iff_ne.2 ht
          clear ht
          go_wp2
          go_step3
          refine ⟨rfl, ⟨m + 1, r, t, r2, t2, _, _, _, _, _, _, _, _, _, _, _, _, _, _, _, _, _, _, _, _, _, _, _, _, _, _, _, _, _, _, _, _, _, _, _, rfl, ⟨by omega, ?_, ?_, ?_⟩, by omega, ?_, ?_, rfl⟩, by simp [intOf]; omega⟩
          · rw [HN.out, HE.out]
          · rw [HN.out, HE.out]
          · rw [HN.out, HE.out]
          · rw [HN.out, HE.out]; exact HZ.out
          · rw [HN.out, HE.out]; exact HS.out
end Go.Proofs.Ytpmjigghboifdaa
