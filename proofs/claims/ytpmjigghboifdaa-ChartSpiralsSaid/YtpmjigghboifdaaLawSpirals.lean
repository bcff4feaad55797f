/- Walk over the law ChartSpirals. -/
import Derived.Test.YtpmjigghboifdaaAwake
import Derived.Test.YtpmjigghboifdaaRefSpiral
namespace Go.Proofs.Ytpmjigghboifdaa
open Go.RowKit Fl
attribute [local go_sem] run_store_complex run_neg_float

def spiralP (n : Int) : Int × Int × Int := if 0 ≤ n ∧ n < 10000 then ((sp n.toNat).x, (sp n.toNat).y, 0) else (0, 0, 1)
theorem spiral_any (n : Int) (w : World) : Calls Try.prog 9 #[.int .i64 n] w fun e w' =>
    e = .returned (spotV (spiralP n)) ∧ Below w.heap.size w w' := by
  unfold spiralP
  by_cases h : 0 ≤ n ∧ n < 10000
  · rw [if_pos h]
    obtain ⟨k, rfl⟩ := Int.eq_ofNat_of_zero_le h.1
    rw [Int.toNat_natCast]
    exact spiral_yes k (by omega) w
  · rw [if_neg h]
    exact spiral_no n (by omega) w

/-- One spot in a block, and all that was there. -/
def One (w0 : World) (p : Nat) (a b : Int) (w : World) : Prop :=
  (w.cell? ⟨p, 0, none⟩ = some (.int .i64 a) ∧ w.cell? ⟨p, 1, none⟩ = some (.int .i64 b)) ∧ p < w.heap.size ∧ Below w0.heap.size w0 w
theorem One.keep {w0 : World} {p : Nat} {a b : Int} {w w' : World} (hb : Below w.heap.size w w') (h : One w0 p a b w) : One w0 p a b w' := by
  obtain ⟨⟨h0, h1⟩, hp, hw⟩ := h
  exact ⟨⟨by rw [hb.cell hp]; exact h0, by rw [hb.cell hp]; exact h1⟩, Nat.lt_of_lt_of_le hp hb.size, hw.trans (hb.mono hw.size)⟩
theorem One.drew {w0 : World} {p : Nat} {a b : Int} {w : World} (h : One w0 p a b w) : One w0 p a b w.drew := ⟨h.1, h.2.1, h.2.2.drew⟩
theorem One.alloc {w0 : World} {p : Nat} {a b : Int} {w : World} (h : One w0 p a b w) (o : Obj) : One w0 p a b (w.alloc o) := by
  obtain ⟨⟨h0, h1⟩, hp, hw⟩ := h
  exact ⟨⟨by rw [World.cell?_alloc_lt _ _ _ hp]; exact h0, by rw [World.cell?_alloc_lt _ _ _ hp]; exact h1⟩, by simp; omega, hw.alloc hw.size o⟩

theorem chartSpirals_any (n m : Int) (w : World) : Calls Try.prog 3 #[.int .i64 n, .int .i64 m] w fun e w' =>
    e = .returned (.bool true) ∧ Below w.heap.size w w' := by
  have HN := spiral_any n
  have HM := spiral_any m
  unfold spotV at HN HM
  have HA := awake_any
  by_cases h : 0 ≤ n ∧ n < 10000
  · have e1 : spiralP n = ((sp n.toNat).x, (sp n.toNat).y, 0) := by unfold spiralP; rw [if_pos h]
    rw [e1] at HN
    obtain ⟨k, hk⟩ := Int.eq_ofNat_of_zero_le h.1
    have hk' : n.toNat = k := by omega
    rw [hk'] at HN
    have HR := rspiral_any k (by omega)
    rw [← hk] at HR
    have HTo := To_any (sp k).x (sp k).y
    have hfin : Hid ((spiralP m).2.2 = 0 → (((sp k).x = (spiralP m).1 ∧ (sp k).y = (spiralP m).2.1) ↔ n = m)) := by
      unfold spiralP Hid
      by_cases hm : 0 ≤ m ∧ m < 10000
      · rw [if_pos hm]
        intro _
        constructor
        · rintro ⟨hx, hy⟩
          have := sp_inj _ _ hx hy
          omega
        · rintro rfl
          rw [hk']
          exact ⟨rfl, rfl⟩
      · rw [if_neg hm]
        intro h
        cases h
    clear hk hk'
    generalize spiralP m = P at *
    generalize (sp k).x = X at *
    generalize (sp k).y = Y at *
    have HM := Lib.hid HM
    have HN := Lib.hid HN
    have HA := Lib.hid HA
    have HR := Lib.hid HR
    have HTo := Lib.hid HTo
    clear e1
    have h1 := h.1
    have h2 := h.2
    clear h
    go_enter Try.func3, Try.ntmps3
    go_wp2_with fail
    refine (HN.out _).mono ?_
    rintro e w1 ⟨rfl, hb1⟩
    go_wp2_with fail
    refine (HM.out _).mono ?_
    rintro e w2 ⟨rfl, hb2⟩
    have z0 : w.heap.size ≤ w1.heap.size := hb1.size
    have hz : w1.heap.size < w2.heap.size := by have := hb2.size; simp at this; omega
    have hT : One w w1.heap.size X Y w2 := by
      refine ⟨⟨by rw [hb2.cell (by simp)]; go_simp, by rw [hb2.cell (by simp)]; go_simp⟩, hz, ?_⟩
      exact (hb1.alloc hb1.size _).trans (hb2.mono (by simp; omega))
    clear hb1 hb2
    have hT2 : Two w w1.heap.size w2.heap.size X Y P.1 P.2.1 (w2.alloc (.cells #[.int .i64 P.1, .int .i64 P.2.1] 23)) := by
      obtain ⟨⟨h0, h1⟩, hp, hw⟩ := hT.alloc (.cells #[.int .i64 P.1, .int .i64 P.2.1] 23)
      exact ⟨⟨h0, h1, by go_simp, by go_simp⟩, ⟨hp, by simp⟩, hw⟩
    clear hT
    have hT := Lib.hid hT2
    clear hT2
    go_wp2_with fail
    go_region_held3 (fun w' => (w'.cell? ⟨w1.heap.size, 0, none⟩ = some (.int .i64 X) ∧ w'.cell? ⟨w1.heap.size, 1, none⟩ = some (.int .i64 Y) ∧ w'.cell? ⟨w2.heap.size, 0, none⟩ = some (.int .i64 P.1) ∧ w'.cell? ⟨w2.heap.size, 1, none⟩ = some (.int .i64 P.2.1)) ∧ (w1.heap.size < w'.heap.size ∧ w2.heap.size < w'.heap.size) ∧ Below w.heap.size w w')
      (first | exact hT.out.drew | (apply Two.keep; assumption; assumption))
      (first | (go_at_call 12; refine (HR.out _).mono ?_; rintro e w3 ⟨rfl, hb3⟩) | (go_at_call 11; refine (HTo.out _).mono ?_; rintro e w3 ⟨rfl, hb3⟩))
    rename_i hH
    have hT' : Hid (Two w w1.heap.size w2.heap.size X Y P.1 P.2.1 _) := hH
    clear hH hT
    go_wp2_with fail
    refine (HA.out _).mono ?_
    rintro e w4 ⟨rfl, hb4⟩
    have hT := hT'.out.keep hb4
    obtain ⟨⟨k0, k1, k2, k3⟩, ⟨z1, z2⟩, hB⟩ := hT
    clear hb4 hT'
    go_wp2_with fail
    all_goals
      go_ret
      exact ⟨ret_bool (by have := hfin.out; simp <;> omega), hB⟩
  · have e1 : spiralP n = (0, 0, 1) := by unfold spiralP; rw [if_neg h]
    rw [e1] at HN
    have HN := Lib.hid HN
    have HA := Lib.hid HA
    clear e1
    rcases (show n < 0 ∨ (0 ≤ n ∧ 10000 ≤ n) by omega) with h1 | ⟨h1, h2⟩
    all_goals
      clear h
      generalize spiralP m = P at *
      have HM := Lib.hid HM
      go_enter Try.func3, Try.ntmps3
      go_wp2_with fail
      refine (HN.out _).mono ?_
      rintro e w1 ⟨rfl, hb1⟩
      go_wp2_with fail
      refine (HM.out _).mono ?_
      rintro e w2 ⟨rfl, hb2⟩
      have z0 : w.heap.size ≤ w1.heap.size := hb1.size
      have hz : w1.heap.size < w2.heap.size := by have := hb2.size; simp at this; omega
      have hT : One w w1.heap.size 0 0 w2 := by
        refine ⟨⟨by rw [hb2.cell (by simp)]; go_simp, by rw [hb2.cell (by simp)]; go_simp⟩, hz, ?_⟩
        exact (hb1.alloc hb1.size _).trans (hb2.mono (by simp; omega))
      clear hb1 hb2
      have hT' := Lib.hid hT
      clear hT
      go_wp2_with fail
      refine (HA.out _).mono ?_
      rintro e w3 ⟨rfl, hb3⟩
      have hT := (hT'.out.alloc _).keep hb3
      obtain ⟨⟨k0, k1⟩, k2, hB⟩ := hT
      clear hb3 hT'
      go_wp2_with fail
      go_ret
      exact ⟨rfl, hB⟩
end Go.Proofs.Ytpmjigghboifdaa
