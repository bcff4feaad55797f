/- Walks over chart.Mirror and Side. -/
import Derived.Test.YtpmjigghboifdaaMove
namespace Go.Proofs.Ytpmjigghboifdaa
open Go.RowKit Fl
attribute [local go_sem] run_store_complex run_neg_float

def mirrorP (a b : Int) : Int × Int × Int := if inB a b then (a, -b, 0) else (0, 0, 1)
theorem Spots.one {w : World} {b : Nat} {x0 y0 : Int} (hb : b < w.heap.size) (h0 : w.cell? ⟨b, 0, none⟩ = some (.int .i64 x0)) (h1 : w.cell? ⟨b, 1, none⟩ = some (.int .i64 y0)) : Spots w b [(x0, y0)] := by
  refine ⟨hb, fun i p hp => ?_⟩
  match i with
  | 0 => simp at hp; subst hp; exact ⟨h0, h1⟩
  | i + 1 => simp at hp
theorem allIn_one (a b : Int) : allIn [(a, b)] = inB a b := by simp [allIn]

theorem mirror_any (a b : Int) (w : World) : Calls Try.prog 19 #[.agg #[.int .i64 a, .int .i64 b]] w fun e w' =>
    e = .returned (spotV (mirrorP a b)) ∧ Below w.heap.size w w' := by
  have hT0 : Res w w.heap.size w.heap.size (w.heap.size + 1) a b a b (((w.alloc (.cells #[.int .i64 a, .int .i64 b] 23)).alloc (.cells #[.int .i64 0, .int .i64 0] 23)).alloc (.cells #[.int .i64 a, .int .i64 b] 23)) := by
    refine ⟨⟨by go_simp, by go_simp, by go_simp, by go_simp⟩, ⟨valAt_of (by go_simp), valAt_of (by go_simp), by go_simp, by go_simp⟩, ⟨by simp <;> omega, by simp <;> omega, by simp⟩, ?_⟩
    exact ((((Below.refl _ _).alloc (Nat.le_refl _) _).alloc (by simp) _).alloc (by simp <;> omega) _)
  unfold mirrorP spotV
  rcases h1 : inB a b with _ | _
  · have HI := Lib.hid h1
    have HT0 := Lib.hid hT0
    clear h1 hT0
    go_enter Try.func19, Try.ntmps19
    go_wp2_with fail
    refine (on_any [(a, b)] _ _ _ (Spots.one (by simp) (by go_simp) (by go_simp)) (by show 1 ≤ 1000000000; omega)).mono ?_
    rintro e w1 ⟨rfl, hb1⟩
    rw [allIn_one, HI.out]
    obtain ⟨⟨k0, k1, k2, k3⟩, ⟨k4, k5, k6, k7⟩, ⟨z1, z2, z3⟩, hB⟩ := Res.keep hb1 HT0.out
    clear hb1
    go_wp2
    refine bodyPost_ret (v := .tuple #[.agg #[.int .i64 0, .int .i64 0], .int .i64 1]) (by simp only [results, Try.results19]; go_simp) rfl ⟨rfl, ?_⟩
    exact (hB.setCell (by simp <;> omega) _).setCell (by simp <;> omega) _
  · have HI := Lib.hid h1
    have HT0 := Lib.hid hT0
    rw [inB_iff] at h1
    have HS := Lib.hid (spot_any (fl a) (Op.negFloat .f64 (fl b)) a (-b) (fl_rep a (by omega)) (rep_neg (fl_rep b (by omega))) (by omega) (by omega))
    clear h1 hT0
    go_enter Try.func19, Try.ntmps19
    go_wp2_with fail
    refine (on_any [(a, b)] _ _ _ (Spots.one (by simp) (by go_simp) (by go_simp)) (by show 1 ≤ 1000000000; omega)).mono ?_
    rintro e w1 ⟨rfl, hb1⟩
    rw [allIn_one, HI.out]
    have hT1 := Res.keep hb1 HT0.out
    have HT1 := Lib.hid hT1
    obtain ⟨⟨k0, k1, k2, k3⟩, ⟨k4, k5, k6, k7⟩, ⟨z1, z2, z3⟩, hB⟩ := hT1
    clear hb1 k2 k3
    go_wp2_with fail
    refine (at_any _ _ _).mono ?_
    rintro e w2 ⟨rfl, hb1⟩
    have hT2 := Res.keep hb1 HT1.out
    have HT2 := Lib.hid hT2
    clear hb1 k0 k1 k4 k5 k6 k7 z1 z2 z3 hB HT1 hT2
    go_wp2_with fail
    refine (HS.out _).mono ?_
    rintro e w3 ⟨rfl, hb1⟩
    obtain ⟨⟨k0, k1, k2, k3⟩, ⟨k4, k5, k6, k7⟩, ⟨z1, z2, z3⟩, hB⟩ := Res.keep hb1 HT2.out
    clear hb1
    go_wp2
    refine bodyPost_ret (v := .tuple #[.agg #[.int .i64 a, .int .i64 (-b)], .int .i64 0]) (by simp only [results, Try.results19]; go_simp) rfl ⟨rfl, ?_⟩
    exact (hB.setCell (by simp <;> omega) _).setCell (by simp <;> omega) _
end Go.Proofs.Ytpmjigghboifdaa
