/- Whole numbers as binary64 words: what the model's float operations give on them, exactly. Plain: no program. -/
import Ieee.Arith
import Derived.Laws.ComplexArith
namespace Go.Proofs.Ytcfpbemoocegfaa.Fl
set_option linter.unusedVariables false
set_option linter.unusedSimpArgs false
set_option linter.unnecessarySimpa false
open Go Ieee

theorem log2_shift (k j : Nat) (hk : 0 < k) : (k * 2 ^ j).log2 = k.log2 + j := by
  have h1 : 2 ^ k.log2 ≤ k := Nat.log2_self_le (by omega)
  have h2 : k < 2 ^ (k.log2 + 1) := Nat.lt_log2_self
  have hp : 0 < 2 ^ j := Nat.two_pow_pos _
  have hne : k * 2 ^ j ≠ 0 := by
    have := Nat.mul_pos hk hp
    omega
  rw [Nat.log2_eq_iff hne]
  constructor
  · rw [Nat.pow_add]; exact Nat.mul_le_mul_right _ h1
  · rw [show k.log2 + j + 1 = (k.log2 + 1) + j from by omega, Nat.pow_add]
    exact Nat.mul_lt_mul_of_pos_right h2 hp

theorem cut_none (neg : Bool) (n : Nat) : Toward.even.cut neg n 0 = n := by
  have h : n % 1 = 0 := Nat.mod_one n
  simp [Toward.cut, h]

theorem cut_exact (way : Toward) (neg : Bool) (k q : Nat) (hk : 0 < k) : way.cut neg (k * 2 ^ q) q = k := by
  have hg : 1 <<< min q ((k * 2 ^ q).log2 + 2) = 2 ^ q := by
    rw [log2_shift k q hk, Nat.min_eq_left (by omega), Nat.one_shiftLeft]
  have hp : 0 < 2 ^ q := Nat.two_pow_pos _
  unfold Toward.cut
  simp only [hg, Nat.mul_mod_left, Nat.mul_div_cancel _ hp]
  cases way <;> simp

theorem cut_zero (way : Toward) (neg : Bool) (q : Nat) : way.cut neg 0 q = 0 := by
  have hp : 0 < 1 <<< min q (Nat.log2 0 + 2) := by rw [Nat.one_shiftLeft]; exact Nat.two_pow_pos _
  unfold Toward.cut
  cases way <;> simp

/-- A word stands for a whole number. -/
def Rep (b : Nat) (n : Int) : Prop := ∃ (neg : Bool) (q : Nat), double.read b = .number neg (n.natAbs * 2 ^ q) (-(q : Int)) ∧ (n ≠ 0 → neg = decide (n < 0))

theorem kept_bounds (k : Nat) (hk : 0 < k) (hl : k < 2 ^ 53) : 2 ^ 52 ≤ k * 2 ^ (52 - k.log2) ∧ k * 2 ^ (52 - k.log2) < 2 ^ 53 ∧ k.log2 ≤ 52 := by
  have h1 : 2 ^ k.log2 ≤ k := Nat.log2_self_le (by omega)
  have h2 : k < 2 ^ (k.log2 + 1) := Nat.lt_log2_self
  have h3 : k.log2 ≤ 52 := by
    have := (Nat.log2_lt (n := k) (k := 53) (by omega)).2 hl
    omega
  refine ⟨?_, ?_, h3⟩
  · calc 2 ^ 52 = 2 ^ k.log2 * 2 ^ (52 - k.log2) := by rw [← Nat.pow_add]; congr 1; omega
      _ ≤ _ := Nat.mul_le_mul_right _ h1
  · calc k * 2 ^ (52 - k.log2) < 2 ^ (k.log2 + 1) * 2 ^ (52 - k.log2) := Nat.mul_lt_mul_of_pos_right h2 (Nat.two_pow_pos _)
      _ = 2 ^ 53 := by rw [← Nat.pow_add]; congr 1; omega

theorem nearest_word (neg : Bool) (k j : Nat) (hk : 0 < k) (hl : k < 2 ^ 53) :
    double.nearest neg (k * 2 ^ j) (-(j : Int)) = (if neg then 2 ^ 63 else 0) + ((k.log2 + 1022) * 2 ^ 52 + k * 2 ^ (52 - k.log2)) := by
  obtain ⟨b1, b2, b3⟩ := kept_bounds k hk hl
  have hp : 0 < 2 ^ j := Nat.two_pow_pos _
  have hne : ¬ k * 2 ^ j = 0 := by
    have := Nat.mul_pos hk hp
    omega
  have hleast : double.leastPlace = -1074 := by decide
  have hbin : double.binade = 2 ^ 52 := rfl
  have hfb : (double.fractionBits : Int) = 52 := rfl
  have hinf : double.infRung = 2047 * 2 ^ 52 := by decide
  have hsw : double.signWeight = 2 ^ 63 := by decide
  have hlast : max (-(j : Int) + ((k * 2 ^ j).log2 : Nat) - (double.fractionBits : Int)) double.leastPlace = (k.log2 : Int) - 52 := by
    rw [log2_shift k j hk, hleast, hfb]
    omega
  have hkept : Toward.even.cut neg ((k * 2 ^ j) <<< (-(j : Int) - ((k.log2 : Int) - 52)).toNat) (((k.log2 : Int) - 52) - (-(j : Int))).toNat = k * 2 ^ (52 - k.log2) := by
    by_cases hj : j ≤ 52 - k.log2
    · have e1 : (-(j : Int) - ((k.log2 : Int) - 52)).toNat = 52 - k.log2 - j := by omega
      have e2 : (((k.log2 : Int) - 52) - (-(j : Int))).toNat = 0 := by omega
      rw [e1, e2, cut_none, Nat.shiftLeft_eq, Nat.mul_assoc, ← Nat.pow_add]
      congr 2; omega
    · have e1 : (-(j : Int) - ((k.log2 : Int) - 52)).toNat = 0 := by omega
      have e2 : (((k.log2 : Int) - 52) - (-(j : Int))).toNat = j - (52 - k.log2) := by omega
      rw [e1, e2, Nat.shiftLeft_zero]
      have e3 : k * 2 ^ j = (k * 2 ^ (52 - k.log2)) * 2 ^ (j - (52 - k.log2)) := by
        rw [Nat.mul_assoc, ← Nat.pow_add]; congr 2; omega
      rw [e3, cut_exact _ _ _ _ (by omega)]
  unfold Format.nearest
  rw [if_neg hne]
  simp only [hlast, hkept]
  have hr : (((k.log2 : Int) - 52) - double.leastPlace).toNat = k.log2 + 1022 := by rw [hleast]; omega
  rw [hr, hbin, hinf]
  unfold Format.word
  rw [hsw]
  have hmin : min ((k.log2 + 1022) * 2 ^ 52 + k * 2 ^ (52 - k.log2)) (2047 * 2 ^ 52) = (k.log2 + 1022) * 2 ^ 52 + k * 2 ^ (52 - k.log2) := by
    apply Nat.min_eq_left; omega
  rw [hmin]
  cases neg <;> simp

theorem read_nearest (neg : Bool) (k j : Nat) (hl : k < 2 ^ 53) :
    ∃ q : Nat, double.read (double.nearest neg (k * 2 ^ j) (-(j : Int))) = .number neg (k * 2 ^ q) (-(q : Int)) := by
  by_cases hk : k = 0
  · subst hk
    refine ⟨1074, ?_⟩
    simp only [Nat.zero_mul]
    have hz : double.nearest neg 0 (-(j : Int)) = double.word neg 0 := by unfold Format.nearest; rw [if_pos rfl]
    rw [hz]
    cases neg <;> decide
  · have hk' : 0 < k := by omega
    obtain ⟨b1, b2, b3⟩ := kept_bounds k hk' hl
    refine ⟨52 - k.log2, ?_⟩
    rw [nearest_word neg k j hk' hl]
    generalize k * 2 ^ (52 - k.log2) = m at b1 b2 ⊢
    generalize k.log2 = L at b3 ⊢
    have hsw : double.signWeight = 2 ^ 63 := by decide
    have hbin : double.binade = 2 ^ 52 := rfl
    have hinf : double.infRung = 2047 * 2 ^ 52 := by decide
    have hleast : double.leastPlace = -1074 := by decide
    have hn : (((if neg then 2 ^ 63 else 0) + ((L + 1022) * 2 ^ 52 + m)) / 2 ^ 63 % 2 == 1) = neg := by
      cases neg
      · have h : (((if false = true then 2 ^ 63 else 0) + ((L + 1022) * 2 ^ 52 + m)) / 2 ^ 63 % 2) = 0 := by simp only [Bool.false_eq_true, if_false]; omega
        rw [h]; rfl
      · have h : (((if true = true then 2 ^ 63 else 0) + ((L + 1022) * 2 ^ 52 + m)) / 2 ^ 63 % 2) = 1 := by simp only [if_true]; omega
        rw [h]; rfl
    have hr : ((if neg then 2 ^ 63 else 0) + ((L + 1022) * 2 ^ 52 + m)) % 2 ^ 63 = (L + 1022) * 2 ^ 52 + m := by
      cases neg
      · simp only [Bool.false_eq_true, if_false]; omega
      · simp only [if_true]; omega
    unfold Format.read
    simp only [hsw, hbin, hinf, hleast, hn, hr]
    rw [if_neg (by omega), if_pos (by omega)]
    have e1 : 2 ^ 52 + ((L + 1022) * 2 ^ 52 + m) % 2 ^ 52 = m := by omega
    have e2 : (-1074 + ((((L + 1022) * 2 ^ 52 + m) / 2 ^ 52 - 1 : Nat) : Int)) = -((52 - L : Nat) : Int) := by omega
    rw [e1, e2]

theorem write_rep (neg : Bool) (n : Int) (j : Nat) (hl : n.natAbs < 2 ^ 53) (hs : n ≠ 0 → neg = decide (n < 0)) : Rep (double.write (.number neg (n.natAbs * 2 ^ j) (-(j : Int)))) n := by
  obtain ⟨q, hq⟩ := read_nearest neg n.natAbs j hl
  exact ⟨neg, q, hq, hs⟩

theorem rep_int (n : Int) (hl : n.natAbs < 2 ^ 53) : Rep (FloatKind.f64.nearest n) n := by
  have := write_rep (decide (n < 0)) n 0 hl (fun _ => rfl)
  rw [Nat.pow_zero, Nat.mul_one] at this
  exact this

theorem signed_rep {neg : Bool} {n : Int} (q s : Nat) (h : n ≠ 0 → neg = decide (n < 0)) : signed neg (n.natAbs * 2 ^ q) s = n * ((2 ^ (q + s) : Nat) : Int) := by
  unfold signed
  rw [Nat.shiftLeft_eq, Nat.mul_assoc, ← Nat.pow_add]
  generalize 2 ^ (q + s) = X
  by_cases h0 : n = 0
  · subst h0; simp
  · have := h h0
    subst this
    by_cases hn : n < 0
    · have e : (n.natAbs : Int) = -n := by omega
      simp only [hn, decide_true, if_true]
      rw [Int.natCast_mul, e, Int.neg_mul, Int.neg_neg]
    · have e : (n.natAbs : Int) = n := by omega
      simp only [hn, decide_false, Bool.false_eq_true, if_false]
      rw [Int.natCast_mul, e]

theorem rep_sum_aux (s t : Bool) (a b : Int) (p q : Nat) (ha : a ≠ 0 → s = decide (a < 0)) (hb : b ≠ 0 → t = decide (b < 0)) (hl : (a + b).natAbs < 2 ^ 53) :
    ∃ d, (Datum.number s (a.natAbs * 2 ^ p) (-(p : Int))).sum (Datum.number t (b.natAbs * 2 ^ q) (-(q : Int))) = some d ∧ Rep (double.write d) (a + b) := by
  refine ⟨_, rfl, ?_⟩
  obtain ⟨J, hJ⟩ : ∃ J : Nat, J = max p q := ⟨_, rfl⟩
  have hbase : min (-(p : Int)) (-(q : Int)) = -(J : Int) := by omega
  rw [hbase]
  have e1 : (-(p : Int) - -(J : Int)).toNat = J - p := by omega
  have e2 : (-(q : Int) - -(J : Int)).toNat = J - q := by omega
  rw [e1, e2, signed_rep p _ ha, signed_rep q _ hb]
  have e3 : p + (J - p) = J := by omega
  have e4 : q + (J - q) = J := by omega
  rw [e3, e4, ← Int.add_mul]
  have hp : 0 < 2 ^ J := Nat.two_pow_pos _
  rw [Int.natAbs_mul, Int.natAbs_natCast]
  refine write_rep _ _ _ hl ?_
  intro hne
  have hz : ¬ (a + b) * ((2 ^ J : Nat) : Int) = 0 := by
    intro h
    rcases Int.mul_eq_zero.1 h with h | h
    · exact hne h
    · omega
  rw [if_neg hz]
  have hX : 0 < ((2 ^ J : Nat) : Int) := by omega
  by_cases hs : a + b < 0
  · have : (a + b) * ((2 ^ J : Nat) : Int) < 0 := Int.mul_neg_of_neg_of_pos hs hX
    rw [decide_eq_true this, decide_eq_true hs]
  · have : ¬ (a + b) * ((2 ^ J : Nat) : Int) < 0 := by
      have := Int.mul_nonneg (a := a + b) (b := ((2 ^ J : Nat) : Int)) (by omega) (by omega)
      omega
    rw [decide_eq_false this, decide_eq_false hs]

theorem rep_add {x y : Nat} {a b : Int} (hx : Rep x a) (hy : Rep y b) (hl : (a + b).natAbs < 2 ^ 53) : ∃ r, floatBits .add .f64 x y = some r ∧ Rep r (a + b) := by
  obtain ⟨s, p, h1, h2⟩ := hx
  obtain ⟨t, q, h3, h4⟩ := hy
  obtain ⟨d, hd, hr⟩ := rep_sum_aux s t a b p q h2 h4 hl
  refine ⟨_, ?_, hr⟩
  show Format.add double x y = _
  unfold Format.add
  rw [h1, h3, hd]; rfl

theorem rep_sub {x y : Nat} {a b : Int} (hx : Rep x a) (hy : Rep y b) (hl : (a - b).natAbs < 2 ^ 53) : ∃ r, floatBits .sub .f64 x y = some r ∧ Rep r (a - b) := by
  obtain ⟨s, p, h1, h2⟩ := hx
  obtain ⟨t, q, h3, h4⟩ := hy
  have h4' : -b ≠ 0 → (!t) = decide (-b < 0) := by
    intro h
    rw [h4 (by omega)]
    by_cases hb : b < 0
    · have : ¬ -b < 0 := by omega
      rw [decide_eq_false this, decide_eq_true hb]; rfl
    · have : -b < 0 := by omega
      rw [decide_eq_true this, decide_eq_false hb]; rfl
  obtain ⟨d, hd, hr⟩ := rep_sum_aux s (!t) a (-b) p q h2 h4' (by rwa [← Int.sub_eq_add_neg])
  rw [← Int.sub_eq_add_neg] at hr
  refine ⟨_, ?_, hr⟩
  show Format.sub double x y = _
  unfold Format.sub
  rw [h1, h3]
  rw [Int.natAbs_neg] at hd
  simp only [Datum.opposite]
  rw [hd]; rfl

theorem rep_mul {x y : Nat} {a b : Int} (hx : Rep x a) (hy : Rep y b) (hl : (a * b).natAbs < 2 ^ 53) : ∃ r, floatBits .mul .f64 x y = some r ∧ Rep r (a * b) := by
  obtain ⟨s, p, h1, h2⟩ := hx
  obtain ⟨t, q, h3, h4⟩ := hy
  refine ⟨double.write (.number (s ^^ t) ((a * b).natAbs * 2 ^ (p + q)) (-((p + q : Nat) : Int))), ?_, ?_⟩
  · show Format.mul double x y = _
    unfold Format.mul
    rw [h1, h3]
    simp only [Datum.product, Option.map_some]
    have e1 : a.natAbs * 2 ^ p * (b.natAbs * 2 ^ q) = (a * b).natAbs * 2 ^ (p + q) := by
      rw [Int.natAbs_mul, Nat.pow_add]; simp only [Nat.mul_left_comm, Nat.mul_assoc]
    have e2 : -(p : Int) + -(q : Int) = -((p + q : Nat) : Int) := by omega
    rw [e1, e2]
  · refine write_rep _ _ _ hl ?_
    intro hne
    have ha : a ≠ 0 := by rintro rfl; simp at hne
    have hb : b ≠ 0 := by rintro rfl; simp at hne
    rw [h2 ha, h4 hb]
    rcases Int.lt_or_gt_of_ne ha with ha' | ha' <;> rcases Int.lt_or_gt_of_ne hb with hb' | hb'
    · have := Int.mul_pos_of_neg_of_neg ha' hb'
      have h : ¬ a * b < 0 := by omega
      simp [ha', hb', h]
    · have := Int.mul_neg_of_neg_of_pos ha' hb'
      have h : ¬ b < 0 := by omega
      simp [ha', this, h]
    · have := Int.mul_neg_of_pos_of_neg ha' hb'
      have h : ¬ a < 0 := by omega
      simp [hb', this, h]
    · have := Int.mul_pos ha' hb'
      have h : ¬ a * b < 0 := by omega
      have h1 : ¬ a < 0 := by omega
      have h2 : ¬ b < 0 := by omega
      simp [h, h1, h2]

theorem rep_toInt {x : Nat} {n : Int} (hx : Rep x n) : (FloatKind.f64.decode x).toInt .zero = some n := by
  obtain ⟨s, p, h1, h2⟩ := hx
  show (double.read x).toInt .zero = _
  rw [h1]
  unfold Datum.toInt Datum.integral
  have e1 : (-(p : Int)).toNat = 0 := by omega
  have e2 : (- -(p : Int)).toNat = p := by omega
  simp only [e1, e2, Nat.shiftLeft_zero]
  by_cases h0 : n = 0
  · subst h0
    simp [cut_zero, signed]
  · rw [cut_exact _ _ _ _ (by omega)]
    have := signed_rep 0 0 h2
    simp only [Nat.pow_zero, Nat.mul_one, Nat.add_zero] at this
    rw [this]; simp

theorem rep_floatToInt {x : Nat} {n : Int} (hx : Rep x n) (h1 : -9223372036854775808 ≤ n) (h2 : n ≤ 9223372036854775807) : floatToIntVal .f64 x .i64 = some n := by
  unfold floatToIntVal
  rw [rep_toInt hx]
  have : IntKind.i64.min ≤ n ∧ n ≤ IntKind.i64.max := ⟨h1, h2⟩
  show (if IntKind.i64.min ≤ n ∧ n ≤ IntKind.i64.max then some n else none) = some n
  rw [if_pos this]

theorem rep_order {x y : Nat} {a b : Int} (hx : Rep x a) (hy : Rep y b) : FloatKind.f64.format.order x y = some (compare a b) := by
  obtain ⟨s, p, h1, h2⟩ := hx
  obtain ⟨t, q, h3, h4⟩ := hy
  show double.order x y = _
  unfold Format.order
  rw [h1, h3]
  simp only [Datum.order]
  obtain ⟨J, hJ⟩ : ∃ J : Nat, J = max p q := ⟨_, rfl⟩
  have hbase : min (-(p : Int)) (-(q : Int)) = -(J : Int) := by omega
  rw [hbase]
  have e1 : (-(p : Int) - -(J : Int)).toNat = J - p := by omega
  have e2 : (-(q : Int) - -(J : Int)).toNat = J - q := by omega
  rw [e1, e2, signed_rep p _ h2, signed_rep q _ h4]
  have e3 : p + (J - p) = J := by omega
  have e4 : q + (J - q) = J := by omega
  rw [e3, e4]
  have hX : 0 < ((2 ^ J : Nat) : Int) := by have : 0 < 2 ^ J := Nat.two_pow_pos _; omega
  generalize ((2 ^ J : Nat) : Int) = X at hX
  congr 1
  rcases Int.lt_trichotomy a b with h | h | h
  · have := Int.mul_lt_mul_of_pos_right h hX
    rw [Int.compare_eq_lt.2 this, Int.compare_eq_lt.2 h]
  · subst h; simp
  · have := Int.mul_lt_mul_of_pos_right h hX
    rw [Int.compare_eq_gt.2 this, Int.compare_eq_gt.2 h]

theorem read_flip (b : Nat) : double.read (b ^^^ 2 ^ 63) = (double.read b).opposite := by
  have hsw : double.signWeight = 2 ^ 63 := by decide
  have h1 : (b ^^^ 2 ^ 63) % 2 ^ 63 = b % 2 ^ 63 := by
    rw [Nat.xor_mod_two_pow, Nat.mod_self, Nat.xor_zero]
  have h2 : ((b ^^^ 2 ^ 63) / 2 ^ 63 % 2 == 1) = !(b / 2 ^ 63 % 2 == 1) := by
    rw [Nat.xor_div_two_pow, Nat.div_self (Nat.two_pow_pos _)]
    have h3 := Nat.xor_mod_two_pow (a := b / 2 ^ 63) (b := 1) (n := 1)
    rw [Nat.pow_one] at h3
    rw [h3]
    rcases Nat.mod_two_eq_zero_or_one (b / 2 ^ 63) with h | h <;> rw [h] <;> rfl
  unfold Format.read
  simp only [hsw, h1, h2]
  split
  · rfl
  · split
    · rfl
    · split <;> rfl

theorem rep_neg {b : Nat} {n : Int} (h : Rep b n) : Rep (Op.negFloat .f64 b) (-n) := by
  obtain ⟨s, q, h1, h2⟩ := h
  refine ⟨!s, q, ?_, ?_⟩
  · show double.read (b ^^^ 2 ^ 63) = _
    rw [read_flip, h1, Int.natAbs_neg]; rfl
  · intro hne
    rw [h2 (by omega)]
    by_cases hn : n < 0
    · have : ¬ -n < 0 := by omega
      rw [decide_eq_false this, decide_eq_true hn]; rfl
    · have : -n < 0 := by omega
      rw [decide_eq_true this, decide_eq_false hn]; rfl

theorem rep_of_zero {b q : Nat} (neg : Bool) (h : double.read b = .number neg 0 (-(q : Int))) : Rep b 0 := ⟨neg, q, by rw [h]; simp, fun h => absurd rfl h⟩
theorem rep_zero : Rep 0 0 := rep_of_zero (q := 1074) false (by decide)
theorem rep_one : Rep 4607182418800017408 1 := ⟨false, 52, by decide, fun _ => rfl⟩

end Go.Proofs.Ytcfpbemoocegfaa.Fl
