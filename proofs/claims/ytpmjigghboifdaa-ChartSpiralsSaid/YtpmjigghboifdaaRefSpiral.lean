/- Walk over tollhouseref06.Spiral: leg by leg, the spiral's own steps. -/
import Derived.Test.YtpmjigghboifdaaOn
import Derived.Test.YtpmjigghboifdaaSpiralMath
namespace Go.Proofs.Ytpmjigghboifdaa
open Go.RowKit Fl

theorem sp_dir (m : Nat) : (sp m).long = (sp m).turns / 2 + 1 ∧ 0 ≤ (sp m).turns ∧
    ((sp m).turns % 4 = 0 → (sp m).dx = 1 ∧ (sp m).dy = 0) ∧ ((sp m).turns % 4 = 1 → (sp m).dx = 0 ∧ (sp m).dy = 1) ∧
    ((sp m).turns % 4 = 2 → (sp m).dx = -1 ∧ (sp m).dy = 0) ∧ ((sp m).turns % 4 = 3 → (sp m).dx = 0 ∧ (sp m).dy = -1) := by
  obtain ⟨k, i, r, hk, hi, ht, hl, hp, h⟩ := sp_at m
  match r, ht, h with
  | 0, ht, h => simp only at h; omega
  | 1, ht, h => simp only at h; omega
  | 2, ht, h => simp only at h; omega
  | 3, ht, h => simp only at h; omega

theorem sp_more (m : Nat) (h : 0 < (sp m).left - 1) : (sp (m + 1)).turns = (sp m).turns ∧ (sp (m + 1)).left = (sp m).left - 1 := by
  have e : sp (m + 1) = (sp m).next := rfl
  rw [e]; unfold Sp.next; rw [if_pos h]; exact ⟨rfl, rfl⟩
theorem sp_last (m : Nat) (h : ¬ 0 < (sp m).left - 1) : (sp (m + 1)).turns = (sp m).turns + 1 ∧ (sp (m + 1)).left = (sp (m + 1)).long := by
  have e : sp (m + 1) = (sp m).next := rfl
  rw [e]; unfold Sp.next; rw [if_neg h]; split <;> exact ⟨rfl, rfl⟩
theorem sp_pos (m : Nat) : (sp (m + 1)).x = (sp m).x + (sp m).dx ∧ (sp (m + 1)).y = (sp m).y + (sp m).dy := by
  have e : sp (m + 1) = (sp m).next := rfl
  rw [e]; unfold Sp.next; split
  · exact ⟨rfl, rfl⟩
  · split <;> exact ⟨rfl, rfl⟩

/-- The result's cells and the spot's, in two blocks of the call's own. -/
def SC (w0 : World) (r s : Nat) (x y : Int) (w : World) : Prop :=
  (w.cell? ⟨r, 0, none⟩ = some (.int .i64 0) ∧ w.cell? ⟨r, 1, none⟩ = some (.int .i64 0) ∧ w.frozen? ⟨r, 0, none⟩ = false ∧ w.frozen? ⟨r, 1, none⟩ = false) ∧
  (w.cell? ⟨s, 0, none⟩ = some (.int .i64 x) ∧ w.cell? ⟨s, 1, none⟩ = some (.int .i64 y) ∧ w.frozen? ⟨s, 0, none⟩ = false ∧ w.frozen? ⟨s, 1, none⟩ = false) ∧ Below w0.heap.size w0 w
theorem SC.setx {w0 w : World} {r s : Nat} {x y : Int} (h : SC w0 r s x y w) (hrs : r ≠ s) (hs : w0.heap.size ≤ s) (z : Int) : SC w0 r s z y (w.setCell ⟨s, 0, none⟩ (.int .i64 z)) := by
  obtain ⟨⟨a0, a1, a2, a3⟩, ⟨b0, b1, b2, b3⟩, hb⟩ := h
  refine ⟨⟨?_, ?_, by simpa [go_sem] using a2, by simpa [go_sem] using a3⟩, ⟨?_, ?_, by simpa [go_sem] using b2, by simpa [go_sem] using b3⟩, hb.setCell hs _⟩
  · rw [World.cell?_setCell_other _ _ _ _ (by simp [Ne.symm hrs])]; exact a0
  · rw [World.cell?_setCell_other _ _ _ _ (by simp [Ne.symm hrs])]; exact a1
  · exact World.cell?_setCell_same _ _ _ b0
  · rw [World.cell?_setCell_other _ _ _ _ (by simp)]; exact b1
theorem SC.sety {w0 w : World} {r s : Nat} {x y : Int} (h : SC w0 r s x y w) (hrs : r ≠ s) (hs : w0.heap.size ≤ s) (z : Int) : SC w0 r s x z (w.setCell ⟨s, 1, none⟩ (.int .i64 z)) := by
  obtain ⟨⟨a0, a1, a2, a3⟩, ⟨b0, b1, b2, b3⟩, hb⟩ := h
  refine ⟨⟨?_, ?_, by simpa [go_sem] using a2, by simpa [go_sem] using a3⟩, ⟨?_, ?_, by simpa [go_sem] using b2, by simpa [go_sem] using b3⟩, hb.setCell hs _⟩
  · rw [World.cell?_setCell_other _ _ _ _ (by simp [Ne.symm hrs])]; exact a0
  · rw [World.cell?_setCell_other _ _ _ _ (by simp [Ne.symm hrs])]; exact a1
  · rw [World.cell?_setCell_other _ _ _ _ (by simp)]; exact b0
  · exact World.cell?_setCell_same _ _ _ b1

/-- At the outer loop's head. -/
def RsOut (n : Nat) (w : World) (nv lv : Value) (wr : World) : Prop :=
  ∃ (m : Nat) (L nn : Int), m ≤ n ∧ nn = (n : Int) - m ∧ nv = .int .i64 nn ∧ lv = .int .i64 L ∧ 0 ≤ L ∧ L ≤ 10000 + m ∧ (m < n → (sp m).turns = L ∧ (sp m).left = (sp m).long) ∧ SC w w.heap.size (w.heap.size + 1) (sp m).x (sp m).y wr
/-- At the inner loop's head: j steps of the leg are done. -/
def RsIn (n m0 : Nat) (L : Int) (w : World) (nv iv : Value) (wr : World) : Prop :=
  ∃ (m : Nat) (j nn : Int), m ≤ n ∧ nn = (n : Int) - m ∧ nv = .int .i64 nn ∧ iv = .int .i64 j ∧ 0 ≤ j ∧ j ≤ L / 2 + 1 ∧ (m : Int) = m0 + j ∧
    (j < L / 2 + 1 → (sp m).turns = L ∧ (sp m).left = L / 2 + 1 - j) ∧ (j = L / 2 + 1 → (sp m).turns = L + 1 ∧ (sp m).left = (sp m).long) ∧ SC w w.heap.size (w.heap.size + 1) (sp m).x (sp m).y wr

theorem rs_step {n m0 m : Nat} {L j : Int} (hm : (m : Int) = m0 + j) (hj : j < L / 2 + 1) (hlt : m < n) (h : (sp m).turns = L ∧ (sp m).left = L / 2 + 1 - j) :
    (j + 1 < L / 2 + 1 → (sp (m + 1)).turns = L ∧ (sp (m + 1)).left = L / 2 + 1 - (j + 1)) ∧ (j + 1 = L / 2 + 1 → (sp (m + 1)).turns = L + 1 ∧ (sp (m + 1)).left = (sp (m + 1)).long) := by
  obtain ⟨h1, h2⟩ := h
  constructor
  · intro h3
    obtain ⟨a, b⟩ := sp_more m (by omega)
    rw [a, b]; omega
  · intro h3
    obtain ⟨a, b⟩ := sp_last m (by omega)
    rw [a, b]; omega

set_option maxHeartbeats 2000000 in
theorem rspiral_any (n : Nat) (h : n < 10000) (w : World) : Calls Try.prog 12 #[.int .i64 n] w fun e w' =>
    e = .returned (.agg #[.int .i64 (sp n).x, .int .i64 (sp n).y]) ∧ Below w.heap.size w w' := by
  go_enter Try.func12, Try.ntmps12
  go_wp2
  go_loopw [0, 4] (fun nv lv wr => RsOut n w nv lv wr) (fun nv _ _ => (intOf nv).toNat)
  case atStart =>
    refine ⟨0, 0, n, by omega, by omega, rfl, rfl, by omega, by omega, fun _ => ⟨rfl, rfl⟩, ?_⟩
    refine ⟨⟨by go_simp, by go_simp, by go_simp, by go_simp⟩, ⟨by go_simp; rfl, by go_simp; rfl, by go_simp, by go_simp⟩, ((Below.refl _ _).alloc (Nat.le_refl _) _).alloc (by simp) _⟩
  case round =>
    obtain ⟨m0, L, nn, hm, hnn, rfl, rfl, hL0, hL1, hst, hc⟩ := hrel
    have HC := Lib.hid hc
    have HST := Lib.hid hst
    have HNN := Lib.hid hnn
    obtain ⟨wo, rfl⟩ : ∃ wo : World, wo = wr := ⟨_, rfl⟩
    by_cases h0 : 0 < nn
    · obtain ⟨hs1, hs2⟩ := hst (by omega)
      obtain ⟨d1, d2, _⟩ := sp_dir m0
      clear hst hc hnn
      have hl : L ≤ 10000 := by have := (sp_bd m0).2.2; omega
      have HR : Hid (RsIn n m0 L w (.int .i64 nn) (.int .i64 0) wo) := ⟨m0, 0, nn, hm, HNN.out, rfl, rfl, by omega, by omega, by omega, fun _ => ⟨hs1, by omega⟩, fun h => absurd h (by omega), HC.out⟩
      clear hs1 hs2 d1 d2
      go_wp2
      go_loopw [0, 6] (fun nv iv wr => RsIn n m0 L w nv iv wr) (fun nv _ _ => (intOf nv).toNat)
      case atStart => exact HR.out
      case round =>
        obtain ⟨m, j, nn2, hm2, hnn2, rfl, rfl, hj0, hj1, hmj, hin, hout, hc2⟩ := hrel
        have HC2 := Lib.hid hc2
        have HIN := Lib.hid hin
        have HOUT := Lib.hid hout
        have HMJ := Lib.hid hmj
        have HNN2 := Lib.hid hnn2
        clear HR
        have hnnb : nn2 ≤ 10000 := by omega
        by_cases h1 : j < L / 2 + 1
        · by_cases h2 : 0 < nn2
          · have hlt : m < n := by omega
            have HB := Lib.hid (sp_bd m)
            have HP := Lib.hid (sp_pos m)
            have HSTEP := Lib.hid (rs_step hmj h1 hlt (hin h1))
            have HD := Lib.hid (sp_dir m)
            have HT := Lib.hid (hin h1).1
            obtain ⟨⟨bx1, bx2, by1, by2⟩, _, _⟩ := HB.out
            obtain ⟨⟨a0, a1, a2, a3⟩, ⟨b0, b1, b2, b3⟩, hb⟩ := hc2
            clear hin hout hmj hnn2 HIN HOUT HB
            generalize hX : (sp m).x = X at *
            generalize hY : (sp m).y = Y at *
            have HX := Lib.hid hX
            have HY := Lib.hid hY
            clear hX hY
            have hr : L % 4 = 0 ∨ L % 4 = 1 ∨ L % 4 = 2 ∨ L % 4 = 3 := by omega
            rcases hr with hr | hr | hr | hr
            · have t0 : (L % 4 == 0) = true := by rw [hr]; rfl
              have HR := Lib.hid hr
              clear hr
              go_wp2
              go_roundw
              case rel =>
                refine ⟨m + 1, j + 1, nn2 - 1, by omega, ?_, rfl, rfl, by omega, by omega, ?_, HSTEP.out.1, HSTEP.out.2, ?_⟩
                · have := HNN2.out; omega
                · have := HMJ.out; omega
                · have hsc := HC2.out
                  have hp := HP.out
                  have hd := HD.out
                  have hr := HR.out
                  rw [HT.out] at hd
                  have ex : (sp (m + 1)).x = X + 1 := by omega
                  have ey : (sp (m + 1)).y = Y := by omega
                  rw [ex, ey]
                  exact hsc.setx (by omega) (by omega) _
              case measure => simp [intOf]; omega
            · have t0 : (L % 4 == 0) = false := by rw [hr]; rfl
              have t1 : (L % 4 == 1) = true := by rw [hr]; rfl
              have HR := Lib.hid hr
              clear hr
              go_wp2
              go_roundw
              case rel =>
                refine ⟨m + 1, j + 1, nn2 - 1, by omega, ?_, rfl, rfl, by omega, by omega, ?_, HSTEP.out.1, HSTEP.out.2, ?_⟩
                · have := HNN2.out; omega
                · have := HMJ.out; omega
                · have hsc := HC2.out
                  have hp := HP.out
                  have hd := HD.out
                  have hr := HR.out
                  rw [HT.out] at hd
                  have ex : (sp (m + 1)).x = X := by omega
                  have ey : (sp (m + 1)).y = Y + 1 := by omega
                  rw [ex, ey]
                  exact hsc.sety (by omega) (by omega) _
              case measure => simp [intOf]; omega
            · have t0 : (L % 4 == 0) = false := by rw [hr]; rfl
              have t1 : (L % 4 == 1) = false := by rw [hr]; rfl
              have t2 : (L % 4 == 2) = true := by rw [hr]; rfl
              have HR := Lib.hid hr
              clear hr
              go_wp2
              go_roundw
              case rel =>
                refine ⟨m + 1, j + 1, nn2 - 1, by omega, ?_, rfl, rfl, by omega, by omega, ?_, HSTEP.out.1, HSTEP.out.2, ?_⟩
                · have := HNN2.out; omega
                · have := HMJ.out; omega
                · have hsc := HC2.out
                  have hp := HP.out
                  have hd := HD.out
                  have hr := HR.out
                  rw [HT.out] at hd
                  have ex : (sp (m + 1)).x = X - 1 := by omega
                  have ey : (sp (m + 1)).y = Y := by omega
                  rw [ex, ey]
                  exact hsc.setx (by omega) (by omega) _
              case measure => simp [intOf]; omega
            · have t0 : (L % 4 == 0) = false := by rw [hr]; rfl
              have t1 : (L % 4 == 1) = false := by rw [hr]; rfl
              have t2 : (L % 4 == 2) = false := by rw [hr]; rfl
              have HR := Lib.hid hr
              clear hr
              go_wp2
              go_roundw
              case rel =>
                refine ⟨m + 1, j + 1, nn2 - 1, by omega, ?_, rfl, rfl, by omega, by omega, ?_, HSTEP.out.1, HSTEP.out.2, ?_⟩
                · have := HNN2.out; omega
                · have := HMJ.out; omega
                · have hsc := HC2.out
                  have hp := HP.out
                  have hd := HD.out
                  have hr := HR.out
                  rw [HT.out] at hd
                  have ex : (sp (m + 1)).x = X := by omega
                  have ey : (sp (m + 1)).y = Y - 1 := by omega
                  rw [ex, ey]
                  exact hsc.sety (by omega) (by omega) _
              case measure => simp [intOf]; omega
          · have e : m = n := by omega
            subst e
            clear hin hout hmj hnn2
            go_wp2
            go_roundw
            case rel =>
              refine ⟨m, L + 1, nn2, by omega, HNN2.out, rfl, rfl, by omega, by have := HNN.out; omega, fun h => absurd h (by omega), HC2.out⟩
            case measure => simp [intOf]; have := HMJ.out; omega
        · have e : j = L / 2 + 1 := by omega
          obtain ⟨g1, g2⟩ := hout e
          have HG1 := Lib.hid g1
          have HG2 := Lib.hid g2
          clear hin hout hmj hnn2 e g1 g2
          go_wp2
          go_roundw
          case rel =>
            refine ⟨m, L + 1, nn2, by omega, HNN2.out, rfl, rfl, by omega, by have := HMJ.out; omega, fun _ => ⟨HG1.out, HG2.out⟩, HC2.out⟩
          case measure => simp [intOf]; have := HMJ.out; have := HNN.out; have := HNN2.out; omega
    · have e : m0 = n := by omega
      subst e
      obtain ⟨⟨a0, a1, a2, a3⟩, ⟨b0, b1, b2, b3⟩, hb⟩ := hc
      clear hst hnn HST
      generalize hss : sp m0 = s at *
      have HSS := Lib.hid hss
      clear hss
      go_wp2
      refine bodyPost_ret (v := .agg #[.int .i64 s.x, .int .i64 s.y]) (by simp only [results, Try.results12]; go_simp) rfl ⟨?_, ?_⟩
      · first | rfl | rw [HSS.out]
      · exact (hb.setCell (by simp) _).setCell (by simp) _
end Go.Proofs.Ytpmjigghboifdaa
