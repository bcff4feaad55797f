/- Walks over the small functions of package chart: a spot on the chart, a spot as a complex number and back. -/
import Derived.Test.YtpmjigghboifdaaRows
import Derived.Test.YtpmjigghboifdaaFloat
import Derived.WalkKit
import Derived.WalkSpells
import Derived.WalkLawsBesides
import Derived.StillTactics
import Derived.Laws.Pointers
import Derived.Laws.Entries
import Derived.Deep.RegionHeld3
import Derived.Deep.QuietTactic
import Derived.BigQuiet
import Derived.RowKit3
import Derived.Lib.Hide
namespace Go.Proofs.Ytpmjigghboifdaa
open Go.RowKit Fl

theorem run_store_complex (P : Program) (w : World) (a : Addr) (m : Mode) (k : FloatKind) (x y : Nat) : (store a (.complex k x y) m).run P w = stored P w a (.complex k x y) m := run_store P w a _ m rfl
theorem run_neg_float (P : Program) (w : World) (k : FloatKind) (b : Nat) : (Op.unary .neg (.float k b)).run P w = .ok (.float k (Op.negFloat k b)) w := rfl
attribute [local go_sem] run_store_complex run_neg_float

def inB (x y : Int) : Bool := decide (-1000 ≤ x) && decide (x ≤ 1000) && decide (-1000 ≤ y) && decide (y ≤ 1000)
theorem inB_iff (x y : Int) : inB x y = true ↔ (-1000 ≤ x ∧ x ≤ 1000 ∧ -1000 ≤ y ∧ y ≤ 1000) := by simp [inB, and_assoc]
theorem inB_not (x y : Int) : inB x y = false ↔ ¬ (-1000 ≤ x ∧ x ≤ 1000 ∧ -1000 ≤ y ∧ y ≤ 1000) := by rw [← inB_iff]; simp
theorem ret_bool {a b : Bool} (h : a = b) : Ending.returned (.bool a) = .returned (.bool b) := by rw [h]
theorem ret_int {k : IntKind} {a b : Int} (h : a = b) : Ending.returned (.int k a) = .returned (.int k b) := by rw [h]

/-- chart.Spot.in -/
theorem in_any (x y : Int) (w : World) : Calls Try.prog 34 #[.agg #[.int .i64 x, .int .i64 y]] w fun e w' =>
    e = .returned (.bool (inB x y)) ∧ Below w.heap.size w w' := by
  go_enter Try.func34, Try.ntmps34
  go_wp2
  all_goals
    go_ret
    exact ⟨ret_bool (by symm; first | (rw [inB_iff]; omega) | (rw [inB_not]; omega) | (rw [Bool.eq_iff_iff, inB_iff]; simp; omega)), (Below.refl _ _).alloc (Nat.le_refl _) _⟩

/-- tollhouseref06.On -/
theorem On_any (x y : Int) (w : World) : Calls Try.prog 20 #[.agg #[.int .i64 x, .int .i64 y]] w fun e w' =>
    e = .returned (.bool (inB x y)) ∧ Below w.heap.size w w' := by
  go_enter Try.func20, Try.ntmps20
  go_wp2
  all_goals
    go_ret
    exact ⟨ret_bool (by symm; first | (rw [inB_iff]; omega) | (rw [inB_not]; omega) | (rw [Bool.eq_iff_iff, inB_iff]; simp; omega)), (Below.refl _ _).alloc (Nat.le_refl _) _⟩

/-- law06.To -/
theorem To_any (x y : Int) (w : World) : Calls Try.prog 11 #[.agg #[.int .i64 x, .int .i64 y]] w fun e w' =>
    e = .returned (.agg #[.int .i64 x, .int .i64 y]) ∧ Below w.heap.size w w' := by
  go_enter Try.func11, Try.ntmps11
  go_wp2
  refine bodyPost_ret (v := .agg #[.int .i64 x, .int .i64 y]) (by simp [results, Try.results11, go_sem]) rfl ⟨rfl, ?_⟩
  exact ((Below.refl _ _).alloc (Nat.le_refl _) _).alloc (by simp) _

/-- The word of a whole number. -/
def fl (n : Int) : Nat := FloatKind.f64.nearest n
theorem fl_rep (n : Int) (h : n.natAbs < 2 ^ 53) : Rep (fl n) n := rep_int n h
/-- chart.Spot.at -/
theorem at_any (x y : Int) (w : World) : Calls Try.prog 31 #[.agg #[.int .i64 x, .int .i64 y]] w fun e w' =>
    e = .returned (.complex .f64 (fl x) (fl y)) ∧ Below w.heap.size w w' := by
  go_enter Try.func31, Try.ntmps31
  go_wp2
  go_ret
  exact ⟨rfl, (Below.refl _ _).alloc (Nat.le_refl _) _⟩

/-- chart.spot -/
theorem spot_any (a b : Nat) (x y : Int) (ha : Rep a x) (hb : Rep b y) (hx : x.natAbs < 2 ^ 53) (hy : y.natAbs < 2 ^ 53) (w : World) : Calls Try.prog 28 #[.complex .f64 a b] w fun e w' =>
    e = .returned (.agg #[.int .i64 x, .int .i64 y]) ∧ Below w.heap.size w w' := by
  have c1 := rep_floatToInt ha (by omega) (by omega)
  have c2 := rep_floatToInt hb (by omega) (by omega)
  have r1 := fun w' : World => run_convert_float_int (P := Try.prog) w' 59 3 .f64 .i64 a x (by rw [Try.underlying59]; rfl) Try.underlying3 c1
  have r2 := fun w' : World => run_convert_float_int (P := Try.prog) w' 59 3 .f64 .i64 b y (by rw [Try.underlying59]; rfl) Try.underlying3 c2
  clear c1 c2 ha hb hx hy
  go_enter Try.func28, Try.ntmps28
  go_wp2
  refine bodyPost_ret (v := .agg #[.int .i64 x, .int .i64 y]) (by simp [results, Try.results28, go_sem]) rfl ⟨rfl, ?_⟩
  exact (Below.refl _ _).alloc (Nat.le_refl _) _

/-! Complex numbers of whole parts. -/
def Rep2 (a b : Nat) (x y : Int) : Prop := Rep a x ∧ Rep b y
theorem fl_rep2 (x y : Int) (hx : x.natAbs < 2 ^ 53) (hy : y.natAbs < 2 ^ 53) : Rep2 (fl x) (fl y) x y := ⟨fl_rep x hx, fl_rep y hy⟩
theorem c_add {a b c d : Nat} {x y u v : Int} (h : Rep2 a b x y) (k : Rep2 c d u v) (h1 : (x + u).natAbs < 2 ^ 53) (h2 : (y + v).natAbs < 2 ^ 53) :
    ∃ r s, Rep2 r s (x + u) (y + v) ∧ ∀ (t : TypeId) (w : World), (binOp .add t (.complex .f64 a b) (.complex .f64 c d)).run Try.prog w = .ok (.complex .f64 r s) w := by
  obtain ⟨r, e1, r1⟩ := rep_add h.1 k.1 h1
  obtain ⟨s, e2, r2⟩ := rep_add h.2 k.2 h2
  refine ⟨r, s, ⟨r1, r2⟩, fun t w => run_complex_sum w .add (.inl rfl) t .f64 a b c d r s ?_⟩
  simp [cSumBits, e1, e2]
theorem c_sub {a b c d : Nat} {x y u v : Int} (h : Rep2 a b x y) (k : Rep2 c d u v) (h1 : (x - u).natAbs < 2 ^ 53) (h2 : (y - v).natAbs < 2 ^ 53) :
    ∃ r s, Rep2 r s (x - u) (y - v) ∧ ∀ (t : TypeId) (w : World), (binOp .sub t (.complex .f64 a b) (.complex .f64 c d)).run Try.prog w = .ok (.complex .f64 r s) w := by
  obtain ⟨r, e1, r1⟩ := rep_sub h.1 k.1 h1
  obtain ⟨s, e2, r2⟩ := rep_sub h.2 k.2 h2
  refine ⟨r, s, ⟨r1, r2⟩, fun t w => run_complex_sum w .sub (.inr rfl) t .f64 a b c d r s ?_⟩
  simp [cSumBits, e1, e2]
theorem c_mul {a b c d : Nat} {x y u v : Int} (h : Rep2 a b x y) (k : Rep2 c d u v) (h1 : (x * u).natAbs < 2 ^ 53) (h2 : (y * v).natAbs < 2 ^ 53) (h3 : (x * v).natAbs < 2 ^ 53) (h4 : (y * u).natAbs < 2 ^ 53)
    (h5 : (x * u - y * v).natAbs < 2 ^ 53) (h6 : (x * v + y * u).natAbs < 2 ^ 53) :
    ∃ r s, Rep2 r s (x * u - y * v) (x * v + y * u) ∧ ∀ (t : TypeId) (w : World), (binOp .mul t (.complex .f64 a b) (.complex .f64 c d)).run Try.prog w = .ok (.complex .f64 r s) w := by
  obtain ⟨ac, e1, r1⟩ := rep_mul h.1 k.1 h1
  obtain ⟨bd, e2, r2⟩ := rep_mul h.2 k.2 h2
  obtain ⟨ad, e3, r3⟩ := rep_mul h.1 k.2 h3
  obtain ⟨bc, e4, r4⟩ := rep_mul h.2 k.1 h4
  obtain ⟨r, e5, r5⟩ := rep_sub r1 r2 h5
  obtain ⟨s, e6, r6⟩ := rep_add r3 r4 h6
  refine ⟨r, s, ⟨r5, r6⟩, fun t w => run_complex_mul w t a b c d r s ?_⟩
  simp [cMulBits, e1, e2, e3, e4, e5, e6]
end Go.Proofs.Ytpmjigghboifdaa
