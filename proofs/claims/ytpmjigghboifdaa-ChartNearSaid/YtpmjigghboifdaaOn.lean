/- Walks over chart.on and held. -/
import Derived.Test.YtpmjigghboifdaaSpot
namespace Go.Proofs.Ytpmjigghboifdaa
open Go.RowKit Fl
attribute [local go_sem] run_store_complex run_neg_float

theorem bcell {W w1 : World} (hb : Below W.heap.size W w1) : (∀ b o, b < W.heap.size → w1.cell? ⟨b, o, none⟩ = W.cell? ⟨b, o, none⟩) ∧ (∀ b o, b < W.heap.size → w1.frozen? ⟨b, o, none⟩ = W.frozen? ⟨b, o, none⟩) :=
  ⟨fun b o h => hb.cell (p := ⟨b, o, none⟩) h, fun b o h => hb.frozen (p := ⟨b, o, none⟩) h⟩

/-- The spots of a list lie in a row from a block's head on. -/
def Spots (w : World) (b : Nat) (L : List (Int × Int)) : Prop := b < w.heap.size ∧ ∀ i p, L[i]? = some p → w.cell? ⟨b, i * 2, none⟩ = some (.int .i64 p.1) ∧ w.cell? ⟨b, i * 2 + 1, none⟩ = some (.int .i64 p.2)
theorem Spots.below {w w' : World} {b : Nat} {L : List (Int × Int)} (h : Spots w b L) {B : Nat} (hB : b < B) (hb : Below B w w') : Spots w' b L :=
  ⟨Nat.lt_of_lt_of_le h.1 hb.size, fun i p hp => by rw [hb.cell (p := ⟨b, i * 2, none⟩) hB, hb.cell (p := ⟨b, i * 2 + 1, none⟩) hB]; exact h.2 i p hp⟩

def allIn (L : List (Int × Int)) : Bool := L.all fun p => inB p.1 p.2

/-- chart.on -/
theorem on_any (L : List (Int × Int)) (b c : Nat) (w : World) (hs : Spots w b L) (hl : L.length ≤ 1000000000) : Calls Try.prog 29 #[.slice (some ⟨b, 0, none⟩) L.length c] w fun e w' =>
    e = .returned (.bool (allIn L)) ∧ Below w.heap.size w w' := by
  go_enter Try.func29, Try.ntmps29
  go_wp2
  go_loopw [7] (fun i wr => ∃ k : Nat, k ≤ L.length ∧ i = .int .i64 k ∧ allIn (L.take k) = true ∧ Below w.heap.size w wr) (fun i _ => L.length - (intOf i).toNat)
  case atStart => exact ⟨0, Nat.zero_le _, rfl, rfl, Below.refl _ _⟩
  case round =>
    obtain ⟨k, hk, rfl, hall, hb⟩ := hrel
    have HA := Lib.hid hall
    clear hall
    by_cases hlt : k < L.length
    · obtain ⟨c1, c2⟩ := (hs.below hs.1 hb).2 k L[k] (List.getElem?_eq_getElem hlt)
      have HL : Hid (allIn (L.take (k + 1)) = inB L[k].1 L[k].2) := by
        unfold Hid allIn
        rw [List.take_succ_eq_append_getElem hlt, List.all_append]
        have h1 := HA.out
        unfold allIn at h1
        rw [h1]; simp
      have HF : Hid (inB L[k].1 L[k].2 = false → allIn L = false) := by
        intro h
        unfold allIn
        rw [List.all_eq_false]
        exact ⟨L[k], List.getElem_mem _, by rw [h]; simp⟩
      generalize L[k].1 = x, L[k].2 = y at *
      rcases hin : inB x y with _ | _
      all_goals
        have HI := Lib.hid hin
        clear hin
        go_wp2_with fail
        refine (in_any _ _ _).mono ?_
        rintro e w1 ⟨rfl, hb1⟩
        rw [HI.out]
        have hbb : Below w.heap.size w w1 := (hb.alloc hb.size _).trans (hb1.mono (by simp; have := hb.size; omega))
        go_wp2
      · go_ret
        exact ⟨ret_bool (HF.out HI.out).symm, hbb⟩
      · go_roundw
        case rel => exact ⟨k + 1, by omega, by go_num, by rw [HL.out, HI.out], hbb⟩
        case measure => simp [intOf]; omega
    · have hk' : k = L.length := by omega
      subst hk'
      go_wp2
      go_ret
      exact ⟨ret_bool (by have := HA.out; rw [List.take_length] at this; exact this.symm), hb⟩

/-- A spot that comes, and the error. -/
def heldP (x y : Int) : Int × Int × Int := if inB x y then (x, y, 0) else (0, 0, 11)
def spotV (p : Int × Int × Int) : Value := .tuple #[.agg #[.int .i64 p.1, .int .i64 p.2.1], .int .i64 p.2.2]

/-- chart.held -/
theorem held_any (a b : Nat) (x y : Int) (ha : Rep a x) (hb : Rep b y) (hx : x.natAbs < 2 ^ 53) (hy : y.natAbs < 2 ^ 53) (w : World) : Calls Try.prog 30 #[.complex .f64 a b] w fun e w' =>
    e = .returned (spotV (heldP x y)) ∧ Below w.heap.size w w' := by
  have HI : ∃ q, Hid (inB x y = q) := ⟨_, rfl⟩
  obtain ⟨q, HI⟩ := HI
  unfold heldP
  rw [HI.out]
  cases q
  all_goals
    go_enter Try.func30, Try.ntmps30
    go_wp2_with fail
    refine (spot_any a b x y ha hb hx hy _).mono ?_
    rintro e w1 ⟨rfl, hb1⟩
    obtain ⟨hc, hf⟩ := bcell hb1
    have hz : w.heap.size < w1.heap.size := by have := hb1.size; simp at this; omega
    go_wp2_with fail
    refine (in_any _ _ _).mono ?_
    rintro e w2 ⟨rfl, hb2⟩
    rw [HI.out]
    obtain ⟨hc2, hf2⟩ := bcell hb2
    have hz2 : w1.heap.size < w2.heap.size := by have := hb2.size; simp at this; omega
    go_wp2
  all_goals
    have k0 : w2.cell? ⟨w.heap.size, 0, none⟩ = some (.int .i64 0) := by go_simp
    have k1 : w2.cell? ⟨w.heap.size, 1, none⟩ = some (.int .i64 0) := by go_simp
  · refine bodyPost_ret (v := .tuple #[.agg #[.int .i64 0, .int .i64 0], .int .i64 11]) (by simp only [results, Try.results30]; go_simp) rfl ⟨rfl, ?_⟩
    exact (((((Below.refl _ _).alloc (Nat.le_refl _) _).trans (hb1.mono (by simp))).alloc (by omega) _).trans (hb2.mono (by simp; omega)) |>.setCell (by simp) _).setCell (by simp) _
  · refine bodyPost_ret (v := .tuple #[.agg #[.int .i64 x, .int .i64 y], .int .i64 0]) (by simp only [results, Try.results30]; go_simp) rfl ⟨rfl, ?_⟩
    exact (((((Below.refl _ _).alloc (Nat.le_refl _) _).trans (hb1.mono (by simp))).alloc (by omega) _).trans (hb2.mono (by simp; omega)) |>.setCell (by simp) _).setCell (by simp) _

/-- tollhouseref06.held -/
theorem rheld_any (x y : Int) (w : World) : Calls Try.prog 32 #[.agg #[.int .i64 x, .int .i64 y]] w fun e w' =>
    e = .returned (spotV (heldP x y)) ∧ Below w.heap.size w w' := by
  have HI : ∃ q, Hid (inB x y = q) := ⟨_, rfl⟩
  obtain ⟨q, HI⟩ := HI
  unfold heldP
  rw [HI.out]
  cases q
  all_goals
    go_enter Try.func32, Try.ntmps32
    go_wp2_with fail
    refine (On_any _ _ _).mono ?_
    rintro e w1 ⟨rfl, hb1⟩
    rw [HI.out]
    have hz : w.heap.size + 1 < w1.heap.size := by have := hb1.size; simp at this; omega
    have k0 : w1.cell? ⟨w.heap.size + 1, 0, none⟩ = some (.int .i64 0) := by rw [hb1.cell (by simp)]; go_simp
    have k1 : w1.cell? ⟨w.heap.size + 1, 1, none⟩ = some (.int .i64 0) := by rw [hb1.cell (by simp)]; go_simp
    have k2 : w1.cell? ⟨w.heap.size, 0, none⟩ = some (.int .i64 x) := by rw [hb1.cell (by simp; omega)]; go_simp
    have k3 : w1.cell? ⟨w.heap.size, 1, none⟩ = some (.int .i64 y) := by rw [hb1.cell (by simp; omega)]; go_simp
    have k4 : w1.frozen? ⟨w.heap.size + 1, 0, none⟩ = false := by rw [hb1.frozen (by simp)]; go_simp
    have k5 : w1.frozen? ⟨w.heap.size + 1, 1, none⟩ = false := by rw [hb1.frozen (by simp)]; go_simp
    have hbb : Below w.heap.size w w1 := ((Below.refl _ _).alloc (Nat.le_refl _) _).alloc (by simp) _ |>.trans (hb1.mono (by simp; omega))
    clear hb1
    go_wp2
  · refine bodyPost_ret (v := .tuple #[.agg #[.int .i64 0, .int .i64 0], .int .i64 11]) (by simp only [results, Try.results32]; go_simp) rfl ⟨rfl, ?_⟩
    exact (hbb.setCell (by simp) _).setCell (by simp) _
  · refine bodyPost_ret (v := .tuple #[.agg #[.int .i64 x, .int .i64 y], .int .i64 0]) (by simp only [results, Try.results32]; go_simp) rfl ⟨rfl, ?_⟩
    exact (hbb.setCell (by simp) _).setCell (by simp) _

def quart (n : Int) : Nat := (((n.tmod 4) + 4).tmod 4).toNat
def qbits : Nat → Nat × Nat
  | 0 => (4607182418800017408, 0)
  | 1 => (0, 4607182418800017408)
  | 2 => (13830554455654793216, 0)
  | _ => (9223372036854775808, 13830554455654793216)
def qx : Nat → Int | 0 => 1 | 1 => 0 | 2 => -1 | _ => 0
def qy : Nat → Int | 0 => 0 | 1 => 1 | 2 => 0 | _ => -1
theorem quart_lt (n : Int) : quart n < 4 := by
  unfold quart
  have := Int.tmod_lt_of_pos ((n.tmod 4) + 4) (b := 4) (by omega)
  omega
theorem qrep : ∀ k, k < 4 → Rep2 (qbits k).1 (qbits k).2 (qx k) (qy k)
  | 0, _ => ⟨⟨false, 52, by decide, fun _ => rfl⟩, rep_zero⟩
  | 1, _ => ⟨rep_zero, ⟨false, 52, by decide, fun _ => rfl⟩⟩
  | 2, _ => ⟨⟨true, 52, by decide, fun _ => rfl⟩, rep_zero⟩
  | 3, _ => ⟨rep_of_zero (q := 1074) true (by decide), ⟨true, 52, by decide, fun _ => rfl⟩⟩

theorem qmul : ∀ k, k < 3 → ∀ (t : TypeId) (W : World), (binOp .mul t (.complex .f64 (qbits k).1 (qbits k).2) (.complex .f64 0 4607182418800017408)).run Try.prog W = .ok (.complex .f64 (qbits (k + 1)).1 (qbits (k + 1)).2) W
  | 0, _, t, W => run_complex_mul (P := Try.prog) W t 4607182418800017408 0 0 4607182418800017408 0 4607182418800017408 (by kernel_rfl)
  | 1, _, t, W => run_complex_mul (P := Try.prog) W t 0 4607182418800017408 0 4607182418800017408 13830554455654793216 0 (by kernel_rfl)
  | 2, _, t, W => run_complex_mul (P := Try.prog) W t 13830554455654793216 0 0 4607182418800017408 9223372036854775808 13830554455654793216 (by kernel_rfl)
/-- chart.quarters -/
theorem quarters_any (n : Int) (h1 : -9223372036854775808 ≤ n) (h2 : n ≤ 9223372036854775807) (w : World) : Calls Try.prog 33 #[.int .i64 n] w fun e w' =>
    e = .returned (.complex .f64 (qbits (quart n)).1 (qbits (quart n)).2) ∧ Below w.heap.size w w' := by
  have hq := quart_lt n
  have b1 : -4 < n.tmod 4 ∧ n.tmod 4 < 4 := ⟨by have := Int.lt_tmod_of_pos n (b := 4) (by omega); omega, Int.tmod_lt_of_pos n (by omega)⟩
  have b2 : (wrap64 (n.tmod 4 + 4)).tmod 4 = (quart n : Int) := by
    have e : wrap64 (n.tmod 4 + 4) = n.tmod 4 + 4 := by unfold wrap64; omega
    rw [e]
    unfold quart
    have := Int.tmod_nonneg 4 (a := (n.tmod 4) + 4) (by omega)
    omega
  have ms := qmul
  clear b1
  generalize quart n = q at *
  go_enter Try.func33, Try.ntmps33
  go_wp2
  clear b2
  go_loop [3, 8] (fun z i => ∃ k : Nat, k ≤ q ∧ i = .int .i64 k ∧ z = .complex .f64 (qbits k).1 (qbits k).2) (fun _ i => q - (intOf i).toNat)
  case atStart => exact ⟨0, Nat.zero_le _, rfl, rfl⟩
  case round =>
    obtain ⟨k, hk, rfl, rfl⟩ := hrel
    by_cases hlt : k < q
    · have mk := ms k (by omega)
      clear ms
      go_wp2
      go_round
      case rel => exact ⟨k + 1, by omega, by go_num, rfl⟩
      case measure => simp [intOf]; omega
    · have e : k = q := by omega
      subst e
      go_wp2
      go_ret
      exact ⟨rfl, Below.refl _ _⟩

end Go.Proofs.Ytpmjigghboifdaa
