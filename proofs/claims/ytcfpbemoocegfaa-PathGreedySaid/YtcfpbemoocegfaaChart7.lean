/- Walks over chart: how far, which is nearest; and as the document says. -/
import Derived.Test.YtcfpbemoocegfaaRows
import Derived.Test.YtcfpbemoocegfaaFloat
import Derived.WalkKit
import Derived.WalkSpells
import Derived.WalkLawsBesides
import Derived.StillTactics
import Derived.Laws.Pointers
import Derived.Laws.Entries
import Derived.Deep.RegionHeld3
import Derived.Deep.QuietTactic
import Derived.BigQuiet
import Derived.RowKit3
import Derived.Lib.Hide
import Derived.LoopTactic
namespace Go.Proofs.Ytcfpbemoocegfaa
set_option linter.unusedVariables false
set_option linter.unusedSimpArgs false
set_option linter.unnecessarySimpa false
open Go.RowKit Fl

theorem run_store_complex (P : Program) (w : World) (a : Addr) (m : Mode) (k : FloatKind) (x y : Nat) : (store a (.complex k x y) m).run P w = stored P w a (.complex k x y) m := run_store P w a _ m rfl
theorem run_neg_float (P : Program) (w : World) (k : FloatKind) (b : Nat) : (Op.unary .neg (.float k b)).run P w = .ok (.float k (Op.negFloat k b)) w := rfl
attribute [local go_sem] run_store_complex run_neg_float

def inB (x y : Int) : Bool := decide (-1000 ≤ x) && decide (x ≤ 1000) && decide (-1000 ≤ y) && decide (y ≤ 1000)
theorem inB_iff (x y : Int) : inB x y = true ↔ (-1000 ≤ x ∧ x ≤ 1000 ∧ -1000 ≤ y ∧ y ≤ 1000) := by simp [inB, and_assoc]
theorem inB_not (x y : Int) : inB x y = false ↔ ¬ (-1000 ≤ x ∧ x ≤ 1000 ∧ -1000 ≤ y ∧ y ≤ 1000) := by rw [← inB_iff]; simp
theorem ret_bool {a b : Bool} (h : a = b) : Ending.returned (.bool a) = .returned (.bool b) := by rw [h]
theorem ret_int {k : IntKind} {a b : Int} (h : a = b) : Ending.returned (.int k a) = .returned (.int k b) := by rw [h]

/-- chart.Spot.in -/
theorem in_any (x y : Int) (w : World) : Calls Try.prog 109 #[.agg #[.int .i64 x, .int .i64 y]] w fun e w' =>
    e = .returned (.bool (inB x y)) ∧ Below w.heap.size w w' := by
  go_enter Try.func109, Try.ntmps109
  go_wp2
  all_goals
    go_ret
    exact ⟨ret_bool (by symm; first | (rw [inB_iff]; omega) | (rw [inB_not]; omega) | (rw [Bool.eq_iff_iff, inB_iff]; simp; omega)), (Below.refl _ _).alloc (Nat.le_refl _) _⟩

/-- tollhouseref06.On -/
theorem On_any (x y : Int) (w : World) : Calls Try.prog 102 #[.agg #[.int .i64 x, .int .i64 y]] w fun e w' =>
    e = .returned (.bool (inB x y)) ∧ Below w.heap.size w w' := by
  go_enter Try.func102, Try.ntmps102
  go_wp2
  all_goals
    go_ret
    exact ⟨ret_bool (by symm; first | (rw [inB_iff]; omega) | (rw [inB_not]; omega) | (rw [Bool.eq_iff_iff, inB_iff]; simp; omega)), (Below.refl _ _).alloc (Nat.le_refl _) _⟩

/-- The word of a whole number. -/
def fl (n : Int) : Nat := FloatKind.f64.nearest n
theorem fl_rep (n : Int) (h : n.natAbs < 2 ^ 53) : Rep (fl n) n := rep_int n h
/-- chart.Spot.at -/
theorem at_any (x y : Int) (w : World) : Calls Try.prog 101 #[.agg #[.int .i64 x, .int .i64 y]] w fun e w' =>
    e = .returned (.complex .f64 (fl x) (fl y)) ∧ Below w.heap.size w w' := by
  go_enter Try.func101, Try.ntmps101
  go_wp2
  go_ret
  exact ⟨rfl, (Below.refl _ _).alloc (Nat.le_refl _) _⟩

def Rep2 (a b : Nat) (x y : Int) : Prop := Rep a x ∧ Rep b y
theorem fl_rep2 (x y : Int) (hx : x.natAbs < 2 ^ 53) (hy : y.natAbs < 2 ^ 53) : Rep2 (fl x) (fl y) x y := ⟨fl_rep x hx, fl_rep y hy⟩
theorem c_add {a b c d : Nat} {x y u v : Int} (h : Rep2 a b x y) (k : Rep2 c d u v) (h1 : (x + u).natAbs < 2 ^ 53) (h2 : (y + v).natAbs < 2 ^ 53) :
    ∃ r s, Rep2 r s (x + u) (y + v) ∧ ∀ (t : TypeId) (w : World), (binOp .add t (.complex .f64 a b) (.complex .f64 c d)).run Try.prog w = .ok (.complex .f64 r s) w := by
  obtain ⟨r, e1, r1⟩ := rep_add h.1 k.1 h1
  obtain ⟨s, e2, r2⟩ := rep_add h.2 k.2 h2
  refine ⟨r, s, ⟨r1, r2⟩, fun t w => run_complex_sum w .add (.inl rfl) t .f64 a b c d r s ?_⟩
  simp [cSumBits, e1, e2]
theorem c_sub {a b c d : Nat} {x y u v : Int} (h : Rep2 a b x y) (k : Rep2 c d u v) (h1 : (x - u).natAbs < 2 ^ 53) (h2 : (y - v).natAbs < 2 ^ 53) :
    ∃ r s, Rep2 r s (x - u) (y - v) ∧ ∀ (t : TypeId) (w : World), (binOp .sub t (.complex .f64 a b) (.complex .f64 c d)).run Try.prog w = .ok (.complex .f64 r s) w := by
  obtain ⟨r, e1, r1⟩ := rep_sub h.1 k.1 h1
  obtain ⟨s, e2, r2⟩ := rep_sub h.2 k.2 h2
  refine ⟨r, s, ⟨r1, r2⟩, fun t w => run_complex_sum w .sub (.inr rfl) t .f64 a b c d r s ?_⟩
  simp [cSumBits, e1, e2]
theorem c_mul {a b c d : Nat} {x y u v : Int} (h : Rep2 a b x y) (k : Rep2 c d u v) (h1 : (x * u).natAbs < 2 ^ 53) (h2 : (y * v).natAbs < 2 ^ 53) (h3 : (x * v).natAbs < 2 ^ 53) (h4 : (y * u).natAbs < 2 ^ 53)
    (h5 : (x * u - y * v).natAbs < 2 ^ 53) (h6 : (x * v + y * u).natAbs < 2 ^ 53) :
    ∃ r s, Rep2 r s (x * u - y * v) (x * v + y * u) ∧ ∀ (t : TypeId) (w : World), (binOp .mul t (.complex .f64 a b) (.complex .f64 c d)).run Try.prog w = .ok (.complex .f64 r s) w := by
  obtain ⟨ac, e1, r1⟩ := rep_mul h.1 k.1 h1
  obtain ⟨bd, e2, r2⟩ := rep_mul h.2 k.2 h2
  obtain ⟨ad, e3, r3⟩ := rep_mul h.1 k.2 h3
  obtain ⟨bc, e4, r4⟩ := rep_mul h.2 k.1 h4
  obtain ⟨r, e5, r5⟩ := rep_sub r1 r2 h5
  obtain ⟨s, e6, r6⟩ := rep_add r3 r4 h6
  refine ⟨r, s, ⟨r5, r6⟩, fun t w => run_complex_mul w t a b c d r s ?_⟩
  simp [cMulBits, e1, e2, e3, e4, e5, e6]
open Go.RowKit Fl
attribute [local go_sem] run_store_complex run_neg_float

theorem bcell {W w1 : World} (hb : Below W.heap.size W w1) : (∀ b o, b < W.heap.size → w1.cell? ⟨b, o, none⟩ = W.cell? ⟨b, o, none⟩) ∧ (∀ b o, b < W.heap.size → w1.frozen? ⟨b, o, none⟩ = W.frozen? ⟨b, o, none⟩) :=
  ⟨fun b o h => hb.cell (p := ⟨b, o, none⟩) h, fun b o h => hb.frozen (p := ⟨b, o, none⟩) h⟩

/-- The spots of a list lie in a row from a block's head on. -/
def Spots (w : World) (b : Nat) (L : List (Int × Int)) : Prop := b < w.heap.size ∧ ∀ i p, L[i]? = some p → w.cell? ⟨b, i * 2, none⟩ = some (.int .i64 p.1) ∧ w.cell? ⟨b, i * 2 + 1, none⟩ = some (.int .i64 p.2)
theorem Spots.below {w w' : World} {b : Nat} {L : List (Int × Int)} (h : Spots w b L) {B : Nat} (hB : b < B) (hb : Below B w w') : Spots w' b L :=
  ⟨Nat.lt_of_lt_of_le h.1 hb.size, fun i p hp => by rw [hb.cell (p := ⟨b, i * 2, none⟩) hB, hb.cell (p := ⟨b, i * 2 + 1, none⟩) hB]; exact h.2 i p hp⟩

def allIn (L : List (Int × Int)) : Bool := L.all fun p => inB p.1 p.2

/-- chart.on -/
theorem on_any (L : List (Int × Int)) (b c : Nat) (w : World) (hs : Spots w b L) (hl : L.length ≤ 1000000000) : Calls Try.prog 100 #[.slice (some ⟨b, 0, none⟩) L.length c] w fun e w' =>
    e = .returned (.bool (allIn L)) ∧ Below w.heap.size w w' := by
  go_enter Try.func100, Try.ntmps100
  go_wp2
  go_loopw [7] (fun i wr => ∃ k : Nat, k ≤ L.length ∧ i = .int .i64 k ∧ allIn (L.take k) = true ∧ Below w.heap.size w wr) (fun i _ => L.length - (intOf i).toNat)
  case atStart => exact ⟨0, Nat.zero_le _, rfl, rfl, Below.refl _ _⟩
  case round =>
    obtain ⟨k, hk, rfl, hall, hb⟩ := hrel
    have HA := Lib.hid hall
    clear hall
    by_cases hlt : k < L.length
    · obtain ⟨c1, c2⟩ := (hs.below hs.1 hb).2 k L[k] (List.getElem?_eq_getElem hlt)
      have HL : Hid (allIn (L.take (k + 1)) = inB L[k].1 L[k].2) := by
        unfold Hid allIn
        rw [List.take_succ_eq_append_getElem hlt, List.all_append]
        have h1 := HA.out
        unfold allIn at h1
        rw [h1]; simp
      have HF : Hid (inB L[k].1 L[k].2 = false → allIn L = false) := by
        intro h
        unfold allIn
        rw [List.all_eq_false]
        exact ⟨L[k], List.getElem_mem _, by rw [h]; simp⟩
      generalize L[k].1 = x, L[k].2 = y at *
      rcases hin : inB x y with _ | _
      all_goals
        have HI := Lib.hid hin
        clear hin
        go_wp2_with fail
        refine (in_any _ _ _).mono ?_
        rintro e w1 ⟨rfl, hb1⟩
        rw [HI.out]
        have hbb : Below w.heap.size w w1 := (hb.alloc hb.size _).trans (hb1.mono (by simp; have := hb.size; omega))
        go_wp2
      · go_ret
        exact ⟨ret_bool (HF.out HI.out).symm, hbb⟩
      · go_roundw
        case rel => exact ⟨k + 1, by omega, by go_num, by rw [HL.out, HI.out], hbb⟩
        case measure => simp [intOf]; omega
    · have hk' : k = L.length := by omega
      subst hk'
      go_wp2
      go_ret
      exact ⟨ret_bool (by have := HA.out; rw [List.take_length] at this; exact this.symm), hb⟩

def spotV (p : Int × Int × Int) : Value := .tuple #[.agg #[.int .i64 p.1, .int .i64 p.2.1], .int .i64 p.2.2]

def quart (n : Int) : Nat := (((n.tmod 4) + 4).tmod 4).toNat
def qbits : Nat → Nat × Nat
  | 0 => (4607182418800017408, 0)
  | 1 => (0, 4607182418800017408)
  | 2 => (13830554455654793216, 0)
  | _ => (9223372036854775808, 13830554455654793216)
def qx : Nat → Int | 0 => 1 | 1 => 0 | 2 => -1 | _ => 0
def qy : Nat → Int | 0 => 0 | 1 => 1 | 2 => 0 | _ => -1
open Go.RowKit Fl
attribute [local go_sem] run_store_complex run_neg_float

def farI (a b c d : Int) : Int := if inB a b && inB c d then (a - c) * (a - c) + (b - d) * (b - d) else -1

theorem Spots.two {w : World} {b : Nat} {x0 y0 x1 y1 : Int} (hb : b < w.heap.size) (h0 : w.cell? ⟨b, 0, none⟩ = some (.int .i64 x0)) (h1 : w.cell? ⟨b, 1, none⟩ = some (.int .i64 y0)) (h2 : w.cell? ⟨b, 2, none⟩ = some (.int .i64 x1)) (h3 : w.cell? ⟨b, 3, none⟩ = some (.int .i64 y1)) : Spots w b [(x0, y0), (x1, y1)] := by
  refine ⟨hb, fun i p hp => ?_⟩
  match i with
  | 0 => simp at hp; subst hp; exact ⟨h0, h1⟩
  | 1 => simp at hp; subst hp; exact ⟨h2, h3⟩
  | i + 2 => simp at hp
theorem allIn_two (a b c d : Int) : allIn [(a, b), (c, d)] = (inB a b && inB c d) := by simp [allIn]

theorem sq_bd (x y : Int) (h1 : -2000 ≤ x) (h2 : x ≤ 2000) (h3 : -2000 ≤ y) (h4 : y ≤ 2000) : -4000000 ≤ x * y ∧ x * y ≤ 4000000 := by
  have := Int.mul_nonneg (a := 2000 - x) (b := 2000 - y) (by omega) (by omega)
  have := Int.mul_nonneg (a := 2000 + x) (b := 2000 + y) (by omega) (by omega)
  have := Int.mul_nonneg (a := 2000 + x) (b := 2000 - y) (by omega) (by omega)
  have := Int.mul_nonneg (a := 2000 - x) (b := 2000 + y) (by omega) (by omega)
  simp only [Int.sub_mul, Int.mul_sub, Int.add_mul, Int.mul_add] at *
  omega
/-- Two spots in two blocks, and all that was there, behind a callee that makes memory of its own. -/
def Two (w0 : World) (p q : Nat) (a b c d : Int) (w : World) : Prop :=
  (w.cell? ⟨p, 0, none⟩ = some (.int .i64 a) ∧ w.cell? ⟨p, 1, none⟩ = some (.int .i64 b) ∧ w.cell? ⟨q, 0, none⟩ = some (.int .i64 c) ∧ w.cell? ⟨q, 1, none⟩ = some (.int .i64 d)) ∧ (p < w.heap.size ∧ q < w.heap.size) ∧ Below w0.heap.size w0 w
theorem Two.keep {w0 : World} {p q : Nat} {a b c d : Int} {w w' : World} (hb' : Below w.heap.size w w') (h : Two w0 p q a b c d w) : Two w0 p q a b c d w' := by
  obtain ⟨⟨h0, h1, h2, h3⟩, ⟨hp, hq⟩, hw⟩ := h
  refine ⟨⟨?_, ?_, ?_, ?_⟩, ⟨?_, ?_⟩, hw.trans (hb'.mono hw.size)⟩
  · rw [hb'.cell hp]; exact h0
  · rw [hb'.cell hp]; exact h1
  · rw [hb'.cell hq]; exact h2
  · rw [hb'.cell hq]; exact h3
  · exact Nat.lt_of_lt_of_le hp hb'.size
  · exact Nat.lt_of_lt_of_le hq hb'.size
theorem Two.drew {w0 : World} {p q : Nat} {a b c d : Int} {w : World} (h : Two w0 p q a b c d w) : Two w0 p q a b c d w.drew := ⟨h.1, h.2.1, h.2.2.drew⟩
theorem far_no (a b c d : Int) (h : (inB a b && inB c d) = false) (w : World) : Calls Try.prog 68 #[.agg #[.int .i64 a, .int .i64 b], .agg #[.int .i64 c, .int .i64 d]] w fun e w' =>
    e = .returned (.int .i64 (-1)) ∧ Below w.heap.size w w' := by
  have HI := Lib.hid h
  clear h
  go_enter Try.func68, Try.ntmps68
  go_wp2_with fail
  refine (on_any [(a, b), (c, d)] _ _ _ (Spots.two (by simp) (by go_simp) (by go_simp) (by go_simp) (by go_simp)) (by show 2 ≤ 1000000000; omega)).mono ?_
  rintro e w1 ⟨rfl, hb1⟩
  rw [allIn_two, HI.out]
  go_wp2
  go_ret
  exact ⟨rfl, (((Below.refl _ _).alloc (Nat.le_refl _) _).alloc (by simp) _).alloc (by simp; omega) _ |>.trans (hb1.mono (by simp; omega))⟩

theorem far_yes (a b c d : Int) (h1 : inB a b = true) (h2 : inB c d = true) (w : World) : Calls Try.prog 68 #[.agg #[.int .i64 a, .int .i64 b], .agg #[.int .i64 c, .int .i64 d]] w fun e w' =>
    e = .returned (.int .i64 ((a - c) * (a - c) + (b - d) * (b - d))) ∧ Below w.heap.size w w' := by
  have HI := Lib.hid (show (inB a b && inB c d) = true by rw [h1, h2]; rfl)
  rw [inB_iff] at h1 h2
  obtain ⟨r, s, R1, sub1⟩ := c_sub (fl_rep2 a b (by omega) (by omega)) (fl_rep2 c d (by omega) (by omega)) (by omega) (by omega)
  have e1 : -4000000 ≤ (a - c) * (a - c) ∧ (a - c) * (a - c) ≤ 4000000 := sq_bd _ _ (by omega) (by omega) (by omega) (by omega)
  have e2 : -4000000 ≤ (b - d) * (b - d) ∧ (b - d) * (b - d) ≤ 4000000 := sq_bd _ _ (by omega) (by omega) (by omega) (by omega)
  have e3 : -4000000 ≤ (a - c) * (b - d) ∧ (a - c) * (b - d) ≤ 4000000 := sq_bd _ _ (by omega) (by omega) (by omega) (by omega)
  have e4 : (b - d) * -(b - d) = - ((b - d) * (b - d)) := Int.mul_neg _ _
  have e5 : (a - c) * -(b - d) = - ((a - c) * (b - d)) := Int.mul_neg _ _
  have e6 : (b - d) * (a - c) = (a - c) * (b - d) := Int.mul_comm _ _
  obtain ⟨p, q, R2, mul1⟩ := c_mul (c := r) (d := Op.negFloat .f64 s) R1 ⟨R1.1, rep_neg R1.2⟩ (by omega) (by omega) (by omega) (by omega) (by omega) (by omega)
  have c1 := rep_floatToInt R2.1 (by omega) (by omega)
  have r1 := fun w' : World => run_convert_float_int (P := Try.prog) w' 172 3 .f64 .i64 p _ (by rw [Try.underlying172]; rfl) Try.underlying3 c1
  rw [e4, Int.sub_neg] at r1
  clear c1 e1 e2 e3 e4 e5 e6 R1 R2 h1 h2
  go_enter Try.func68, Try.ntmps68
  go_wp2_with fail
  refine (on_any [(a, b), (c, d)] _ _ _ (Spots.two (by simp) (by go_simp) (by go_simp) (by go_simp) (by go_simp)) (by show 2 ≤ 1000000000; omega)).mono ?_
  rintro e w1 ⟨rfl, hb1⟩
  rw [allIn_two, HI.out]
  have hz : w.heap.size + 2 < w1.heap.size := by have := hb1.size; simp at this; omega
  have k0 : w1.cell? ⟨w.heap.size, 0, none⟩ = some (.int .i64 a) := by rw [hb1.cell (by simp; omega)]; go_simp
  have k1 : w1.cell? ⟨w.heap.size, 1, none⟩ = some (.int .i64 b) := by rw [hb1.cell (by simp; omega)]; go_simp
  have k2 : w1.cell? ⟨w.heap.size + 1, 0, none⟩ = some (.int .i64 c) := by rw [hb1.cell (by simp)]; go_simp
  have k3 : w1.cell? ⟨w.heap.size + 1, 1, none⟩ = some (.int .i64 d) := by rw [hb1.cell (by simp)]; go_simp
  go_wp2_with fail
  have hbase : Below w.heap.size w w1 := (((Below.refl _ _).alloc (Nat.le_refl _) _).alloc (by simp) _).alloc (by simp; omega) _ |>.trans (hb1.mono (by simp; omega))
  clear hb1
  have hT : Two w w.heap.size (w.heap.size + 1) a b c d w1 := ⟨⟨k0, k1, k2, k3⟩, ⟨by omega, by omega⟩, hbase⟩
  clear hbase
  go_region_held3 (fun w' => (w'.cell? ⟨w.heap.size, 0, none⟩ = some (.int .i64 a) ∧ w'.cell? ⟨w.heap.size, 1, none⟩ = some (.int .i64 b) ∧ w'.cell? ⟨w.heap.size + 1, 0, none⟩ = some (.int .i64 c) ∧ w'.cell? ⟨w.heap.size + 1, 1, none⟩ = some (.int .i64 d)) ∧ (w.heap.size < w'.heap.size ∧ w.heap.size + 1 < w'.heap.size) ∧ Below w.heap.size w w')
    (first | exact hT.drew | (apply Two.keep; assumption; assumption))
    (first | (go_at_call_of 101 (Value.agg #[Value.int .i64 a, Value.int .i64 b]); refine (at_any a b _).mono ?_; rintro e w2 ⟨rfl, hb2⟩) | (go_at_call_of 101 (Value.agg #[Value.int .i64 c, Value.int .i64 d]); refine (at_any c d _).mono ?_; rintro e w2 ⟨rfl, hb2⟩))
  all_goals
    go_wp2
    go_ret
    exact ⟨rfl, And.right (And.right ‹_ ∧ _ ∧ Below _ _ _›)⟩
open Go.RowKit Fl

theorem rfar_any (a b c d : Int) (w : World) : Calls Try.prog 73 #[.agg #[.int .i64 a, .int .i64 b], .agg #[.int .i64 c, .int .i64 d]] w fun e w' =>
    e = .returned (.int .i64 (farI a b c d)) ∧ Below w.heap.size w w' := by
  have hT0 : Two w w.heap.size (w.heap.size + 1) a b c d ((w.alloc (.cells #[.int .i64 a, .int .i64 b] 106)).alloc (.cells #[.int .i64 c, .int .i64 d] 106)) := by
    refine ⟨⟨by go_simp, by go_simp, by go_simp, by go_simp⟩, ⟨by simp <;> omega, by simp <;> omega⟩, ?_⟩
    exact ((Below.refl _ _).alloc (Nat.le_refl _) _).alloc (by simp) _
  have HT := Lib.hid hT0
  clear hT0
  unfold farI
  rcases h1 : inB a b with _ | _
  · have HI := Lib.hid h1
    clear h1
    go_enter Try.func73, Try.ntmps73
    go_wp2_with fail
    refine (On_any _ _ _).mono ?_
    rintro e' w1 ⟨rfl, hb1⟩
    rw [HI.out]
    have hT := Two.keep hb1 HT.out
    clear hb1 HT
    have HT := Lib.hid hT
    obtain ⟨⟨k0, k1, k2, k3⟩, ⟨z0, z1⟩, hB⟩ := hT
    go_wp2
    go_ret
    exact ⟨rfl, hB⟩
  · rcases h2 : inB c d with _ | _
    · have HI := Lib.hid h1
      have HJ := Lib.hid h2
      clear h1 h2
      go_enter Try.func73, Try.ntmps73
      go_wp2_with fail
      refine (On_any _ _ _).mono ?_
      rintro e' w1 ⟨rfl, hb1⟩
      rw [HI.out]
      have hT := Two.keep hb1 HT.out
      clear hb1 HT
      have HT := Lib.hid hT
      obtain ⟨⟨k0, k1, k2, k3⟩, ⟨z0, z1⟩, hB⟩ := hT
      go_wp2_with fail
      refine (On_any _ _ _).mono ?_
      rintro e' w1 ⟨rfl, hb1⟩
      rw [HJ.out]
      have hT := Two.keep hb1 HT.out
      clear hb1 HT k0 k1 k2 k3 z0 z1 hB
      have HT := Lib.hid hT
      obtain ⟨⟨k0, k1, k2, k3⟩, ⟨z0, z1⟩, hB⟩ := hT
      go_wp2
      go_ret
      exact ⟨rfl, hB⟩
    · have HI := Lib.hid h1
      have HJ := Lib.hid h2
      rw [inB_iff] at h1 h2
      have e1 := sq_bd (a - c) (a - c) (by omega) (by omega) (by omega) (by omega)
      have e2 := sq_bd (b - d) (b - d) (by omega) (by omega) (by omega) (by omega)
      obtain ⟨e11, e12⟩ := e1
      obtain ⟨e21, e22⟩ := e2
      obtain ⟨g1, g2, g3, g4⟩ := h1
      obtain ⟨g5, g6, g7, g8⟩ := h2
      go_enter Try.func73, Try.ntmps73
      go_wp2_with fail
      refine (On_any _ _ _).mono ?_
      rintro e' w1 ⟨rfl, hb1⟩
      rw [HI.out]
      have hT := Two.keep hb1 HT.out
      clear hb1 HT
      have HT := Lib.hid hT
      obtain ⟨⟨k0, k1, k2, k3⟩, ⟨z0, z1⟩, hB⟩ := hT
      go_wp2_with fail
      refine (On_any _ _ _).mono ?_
      rintro e' w1 ⟨rfl, hb1⟩
      rw [HJ.out]
      have hT := Two.keep hb1 HT.out
      clear hb1 HT k0 k1 k2 k3 z0 z1 hB
      have HT := Lib.hid hT
      obtain ⟨⟨k0, k1, k2, k3⟩, ⟨z0, z1⟩, hB⟩ := hT
      go_wp2
      go_ret
      exact ⟨rfl, hB⟩

open Go.RowKit Fl

theorem far_any (a b c d : Int) (w : World) : Calls Try.prog 68 #[.agg #[.int .i64 a, .int .i64 b], .agg #[.int .i64 c, .int .i64 d]] w fun e w' =>
    e = .returned (.int .i64 (farI a b c d)) ∧ Below w.heap.size w w' := by
  unfold farI
  rcases h : (inB a b && inB c d) with _ | _
  · exact far_no a b c d h w
  · rw [if_pos rfl]
    rw [Bool.and_eq_true] at h
    exact far_yes a b c d h.1 h.2 w

/-- How far the i-th spot of a list is. -/
def farAt (t : Int × Int) (L : List (Int × Int)) (i : Nat) : Int := farI t.1 t.2 (L.getD i (0, 0)).1 (L.getD i (0, 0)).2
/-- The nearest of the first k. -/
def nb (t : Int × Int) (L : List (Int × Int)) : Nat → Int
  | 0 => -1
  | k + 1 => if 0 ≤ farAt t L k ∧ (nb t L k < 0 ∨ farAt t L k < farAt t L (nb t L k).toNat) then k else nb t L k
theorem nb_bd (t : Int × Int) (L : List (Int × Int)) : ∀ k, -1 ≤ nb t L k ∧ nb t L k < k
  | 0 => by simp [nb]
  | k + 1 => by
    have := nb_bd t L k
    unfold nb
    split <;> omega
def least (t : Int × Int) (L : List (Int × Int)) (k : Nat) : Int := if nb t L k < 0 then 0 else farAt t L (nb t L k).toNat
theorem nb_yes {t : Int × Int} {L : List (Int × Int)} {k : Nat} (h0 : 0 ≤ farAt t L k) (h : nb t L k < 0 ∨ farAt t L k < least t L k) : nb t L (k + 1) = k ∧ least t L (k + 1) = farAt t L k := by
  have h1 : nb t L (k + 1) = k := by
    unfold nb
    rw [if_pos]
    refine ⟨h0, ?_⟩
    by_cases hn : nb t L k < 0
    · exact .inl hn
    · rcases h with h | h
      · exact absurd h hn
      · unfold least at h; rw [if_neg hn] at h; exact .inr h
  refine ⟨h1, ?_⟩
  unfold least
  rw [h1, if_neg (by omega)]
  simp
theorem nb_no {t : Int × Int} {L : List (Int × Int)} {k : Nat} (h : farAt t L k < 0 ∨ (¬ nb t L k < 0 ∧ ¬ farAt t L k < least t L k)) : nb t L (k + 1) = nb t L k ∧ least t L (k + 1) = least t L k := by
  have h1 : nb t L (k + 1) = nb t L k := by
    have e : nb t L (k + 1) = if 0 ≤ farAt t L k ∧ (nb t L k < 0 ∨ farAt t L k < farAt t L (nb t L k).toNat) then (k : Int) else nb t L k := rfl
    rw [e, if_neg]
    rintro ⟨a, b⟩
    rcases h with h | ⟨h, h'⟩
    · omega
    · unfold least at h'
      rw [if_neg h] at h'
      rcases b with b | b
      · exact h b
      · exact h' b
  exact ⟨h1, by unfold least; rw [h1]⟩

/-- The spots of a list lie in a row from a place in a block on. -/
def SpotsAt (w : World) (b off : Nat) (L : List (Int × Int)) : Prop := b < w.heap.size ∧ ∀ i p, L[i]? = some p → w.cell? ⟨b, off + i * 2, none⟩ = some (.int .i64 p.1) ∧ w.cell? ⟨b, off + i * 2 + 1, none⟩ = some (.int .i64 p.2)
theorem SpotsAt.below {w w' : World} {b off : Nat} {L : List (Int × Int)} (h : SpotsAt w b off L) {B : Nat} (hB : b < B) (hb : Below B w w') : SpotsAt w' b off L :=
  ⟨Nat.lt_of_lt_of_le h.1 hb.size, fun i p hp => by rw [hb.cell (p := ⟨b, off + i * 2, none⟩) hB, hb.cell (p := ⟨b, off + i * 2 + 1, none⟩) hB]; exact h.2 i p hp⟩
/-- A slice value that reads as a list of spots, nil let in. -/
def RowOf (w : World) (A : Option Addr) (L : List (Int × Int)) : Prop := 0 < L.length → ∃ b off, A = some ⟨b, off, none⟩ ∧ SpotsAt w b off L

/-- The box of the first argument, and all that was there. -/
def NRel (w : World) (t : Int × Int) (wr : World) : Prop := wr.cell? ⟨w.heap.size, 0, none⟩ = some (.int .i64 t.1) ∧ wr.cell? ⟨w.heap.size, 1, none⟩ = some (.int .i64 t.2) ∧ w.heap.size < wr.heap.size ∧ Below w.heap.size w wr
theorem NRel.keep {w wr w' : World} {t : Int × Int} (h : NRel w t wr) (hb : Below wr.heap.size wr w') : NRel w t w' := by
  obtain ⟨h0, h1, h2, h3⟩ := h
  exact ⟨(hb.cell (p := ⟨w.heap.size, 0, none⟩) h2).trans h0, (hb.cell (p := ⟨w.heap.size, 1, none⟩) h2).trans h1, Nat.lt_of_lt_of_le h2 hb.size, h3.trans (hb.mono h3.size)⟩
theorem NRel.alloc {w wr : World} {t : Int × Int} (h : NRel w t wr) (o : Obj) : NRel w t (wr.alloc o) := by
  obtain ⟨h0, h1, h2, h3⟩ := h
  exact ⟨(World.cell?_alloc_lt (a := ⟨w.heap.size, 0, none⟩) wr o h2).trans h0, (World.cell?_alloc_lt (a := ⟨w.heap.size, 1, none⟩) wr o h2).trans h1, by simp; omega, h3.alloc h3.size o⟩

theorem near_any (t : Int × Int) (L : List (Int × Int)) (A : Option Addr) (c : Nat) (w : World) (hr : RowOf w A L) (hl : L.length ≤ 9223372036854775807) : Calls Try.prog 99 #[.agg #[.int .i64 t.1, .int .i64 t.2], .slice A L.length c] w fun e w' =>
    e = .returned (.int .i64 (nb t L L.length)) ∧ Below w.heap.size w w' := by
  have HR := Lib.hid hr
  clear hr
  go_enter Try.func99, Try.ntmps99
  go_wp2
  go_loopw [5, 6, 12] (fun x y i wr => ∃ k : Nat, k ≤ L.length ∧ i = .int .i64 k ∧ x = .int .i64 (nb t L k) ∧ y = .int .i64 (least t L k) ∧ NRel w t wr) (fun _ _ i _ => L.length - (intOf i).toNat)
  case atStart => exact ⟨0, Nat.zero_le _, rfl, rfl, rfl, by go_simp, by go_simp, by simp, (Below.refl _ _).alloc (Nat.le_refl _) _⟩
  case round =>
    obtain ⟨k, hk, rfl, rfl, rfl, hn⟩ := hrel
    have HN := Lib.hid hn
    by_cases hlt : k < L.length
    · obtain ⟨b, off, rfl, hs⟩ := HR.out (by omega)
      obtain ⟨n0, n1, n2, hb⟩ := hn
      obtain ⟨c1, c2⟩ := (hs.below hs.1 hb).2 k L[k] (List.getElem?_eq_getElem hlt)
      have hf : Hid (farAt t L k = farI t.1 t.2 L[k].1 L[k].2) := by
        unfold Hid farAt
        rw [List.getD_eq_getElem?_getD, List.getElem?_eq_getElem hlt]; rfl
      have HY := Lib.hid (@nb_yes t L k)
      have HNO := Lib.hid (@nb_no t L k)
      have hF := far_any t.1 t.2 L[k].1 L[k].2
      rw [← hf.out] at hF
      have HF := Lib.hid hF
      clear hs hb HR hF
      generalize L[k].1 = x, L[k].2 = y at *
      generalize farAt t L k = d at *
      generalize nb t L k = m at *
      generalize least t L k = q at *
      rcases (show (d < 0) ∨ (0 ≤ d ∧ m < 0) ∨ (0 ≤ d ∧ 0 ≤ m ∧ d < q) ∨ (0 ≤ d ∧ 0 ≤ m ∧ q ≤ d) by omega) with h | ⟨h, h'⟩ | ⟨h, h', h''⟩ | ⟨h, h', h''⟩
      · have hx := HNO.out (.inl h)
        have HX := Lib.hid hx
        clear hx HY HNO
        go_wp2_with fail
        refine (HF.out _).mono ?_
        rintro e w1 ⟨rfl, hb1⟩
        have hN := (HN.out.alloc _).keep hb1
        clear hb1 n0 n1 n2 c1 c2
        go_wp2
        go_roundw
        case rel => exact ⟨k + 1, by omega, by go_num, by rw [HX.out.1], by rw [HX.out.2], hN⟩
        case measure => simp [intOf]; omega
      · have hx := HY.out h (.inl h')
        have HX := Lib.hid hx
        clear hx HY HNO
        go_wp2_with fail
        refine (HF.out _).mono ?_
        rintro e w1 ⟨rfl, hb1⟩
        have hN := (HN.out.alloc _).keep hb1
        clear hb1 n0 n1 n2 c1 c2
        go_wp2
        go_roundw
        case rel => exact ⟨k + 1, by omega, by go_num, by rw [HX.out.1], by rw [HX.out.2], hN⟩
        case measure => simp [intOf]; omega
      · have hx := HY.out h (.inr h'')
        have HX := Lib.hid hx
        clear hx HY HNO
        go_wp2_with fail
        refine (HF.out _).mono ?_
        rintro e w1 ⟨rfl, hb1⟩
        have hN := (HN.out.alloc _).keep hb1
        clear hb1 n0 n1 n2 c1 c2
        go_wp2
        go_roundw
        case rel => exact ⟨k + 1, by omega, by go_num, by rw [HX.out.1], by rw [HX.out.2], hN⟩
        case measure => simp [intOf]; omega
      · have hx := HNO.out (.inr ⟨by omega, by omega⟩)
        have HX := Lib.hid hx
        clear hx HY HNO
        go_wp2_with fail
        refine (HF.out _).mono ?_
        rintro e w1 ⟨rfl, hb1⟩
        have hN := (HN.out.alloc _).keep hb1
        clear hb1 n0 n1 n2 c1 c2
        go_wp2
        go_roundw
        case rel => exact ⟨k + 1, by omega, by go_num, by rw [HX.out.1], by rw [HX.out.2], hN⟩
        case measure => simp [intOf]; omega
    · have e : k = L.length := by omega
      subst e
      go_wp2
      go_ret
      exact ⟨rfl, HN.out.2.2.2⟩
end Go.Proofs.Ytcfpbemoocegfaa
