/- Walk over the law ChartTurns. -/
import Derived.Test.YtpmjigghboifdaaBack
namespace Go.Proofs.Ytpmjigghboifdaa
open Go.RowKit Fl

def TurnsJ (w : World) (a1 a2 b1 b2 o1 o2 n : Int) (L : Array Bool) (a : Act) (wJ : World) : Prop :=
  ∃ (fb0 fb1 fb2 fb3 fb4 fb5 fb6 fb7 fb8 fb9 fb10 fb11 : Bool) (l0 c0 p0 l1 c1 p1 l2 c2 p2 : Value) (g0 g1 g2 : Nat), L = #[fb0, fb1, fb2, fb3, fb4, fb5, fb6, fb7, fb8, fb9, fb10, fb11] ∧ a = { tmps := #[(.agg #[.int .i64 a1, .int .i64 a2]), (.agg #[.int .i64 b1, .int .i64 b2]), (.agg #[.int .i64 o1, .int .i64 o2]), .int .i64 n, .pointer (some ⟨w.heap.size, 0, none⟩), .pointer (some ⟨w.heap.size + 1, 0, none⟩), .pointer (some ⟨w.heap.size + 1 + 1, 0, none⟩), undef, .bool false, p0, p1, p2, undef, undef, undef, undef, undef, undef, undef, undef, undef, undef, undef, l0, c0, l1, c1, l2, c2, undef, undef, undef, undef, undef, undef, undef, undef, undef, undef, undef, undef, undef, undef, undef, undef, undef, undef, undef, undef, undef, undef, undef, undef, undef, undef, undef, undef, undef, undef, undef, undef, undef, undef, undef, undef, undef, undef, undef, undef, undef, undef, undef, undef, undef, undef, undef, undef, undef, undef, undef, undef, undef, undef, undef, undef, undef, undef, undef, undef, undef, undef, undef, undef, undef, undef, undef, undef, undef, undef, undef, undef, undef, undef, undef, undef, undef], defers := [] } ∧ Known w [(w.heap.size, a1, a2), (w.heap.size + 1, b1, b2), (w.heap.size + 1 + 1, o1, o2)] wJ ∧ (TV ((w.heap.size + 1 + 1 + 1)) 23 fb0 fb1 fb6 fb9 l0 c0 p0 g0 a1 a2 wJ ∧ TV ((w.heap.size + 1 + 1 + 1)) 23 fb2 fb3 fb7 fb10 l1 c1 p1 g1 b1 b2 wJ ∧ TV ((w.heap.size + 1 + 1 + 1)) 23 fb4 fb5 fb8 fb11 l2 c2 p2 g2 o1 o2 wJ) ∧ ((fb6 = true → fb7 = true → g0 ≠ g1) ∧ (fb6 = true → fb8 = true → g0 ≠ g2) ∧ (fb7 = true → fb8 = true → g1 ≠ g2)) ∧ (w.heap.size + 1 + 1 + 1) ≤ wJ.heap.size

/-- A spot about another one, turned. -/
theorem turn_ok {a b c d n : Int} (h : (turnP a b c d n).2.2 = 0) : (inB a b = true ∧ inB c d = true ∧ inB (c + rotX (a - c) (b - d) (quart n)) (d + rotY (a - c) (b - d) (quart n)) = true) ∧
    turnP a b c d n = (c + rotX (a - c) (b - d) (quart n), d + rotY (a - c) (b - d) (quart n), 0) := by
  have e : turnP a b c d n = if inB a b && inB c d then heldP (c + rotX (a - c) (b - d) (quart n)) (d + rotY (a - c) (b - d) (quart n)) else (0, 0, 1) := rfl
  rw [e] at h ⊢
  unfold heldP at h ⊢
  by_cases h1 : (inB a b && inB c d) = true
  · rw [if_pos h1] at h ⊢
    by_cases h2 : inB (c + rotX (a - c) (b - d) (quart n)) (d + rotY (a - c) (b - d) (quart n)) = true
    · rw [if_pos h2]
      rw [Bool.and_eq_true] at h1
      exact ⟨⟨h1.1, h1.2, h2⟩, rfl⟩
    · rw [if_neg h2] at h; cases h
  · rw [if_neg h1] at h; cases h
theorem rot_diff (x y u v : Int) : ∀ k, k < 4 → (rotX x y k - rotX u v k) * (rotX x y k - rotX u v k) + (rotY x y k - rotY u v k) * (rotY x y k - rotY u v k) = (x - u) * (x - u) + (y - v) * (y - v)
  | 0, _ => by simp [rotX, rotY, qx, qy]
  | 1, _ => by
    simp only [rotX, rotY, qx, qy, Int.mul_zero, Int.mul_one, Int.zero_sub, Int.add_zero]
    have e : -y - -v = -(y - v) := by omega
    rw [e, Int.neg_mul_neg]; omega
  | 2, _ => by
    simp only [rotX, rotY, qx, qy, Int.mul_zero, Int.mul_neg, Int.mul_one, Int.sub_zero, Int.zero_add]
    have e : -y - -v = -(y - v) := by omega
    have e' : -x - -u = -(x - u) := by omega
    rw [e, e', Int.neg_mul_neg, Int.neg_mul_neg]
  | 3, _ => by
    simp only [rotX, rotY, qx, qy, Int.mul_zero, Int.mul_neg, Int.mul_one, Int.zero_sub, Int.add_zero, Int.neg_neg]
    have e : -x - -u = -(x - u) := by omega
    rw [e, Int.neg_mul_neg]; omega
theorem far_turned {a1 a2 b1 b2 o1 o2 n : Int} (h : (turnP a1 a2 o1 o2 n).2.2 = 0) (h' : (turnP b1 b2 o1 o2 n).2.2 = 0) :
    farI (turnP a1 a2 o1 o2 n).1 (turnP a1 a2 o1 o2 n).2.1 (turnP b1 b2 o1 o2 n).1 (turnP b1 b2 o1 o2 n).2.1 = farI a1 a2 b1 b2 := by
  obtain ⟨⟨i1, _, i2⟩, e⟩ := turn_ok h
  obtain ⟨⟨j1, _, j2⟩, e'⟩ := turn_ok h'
  rw [e, e']
  unfold farI
  simp only [i1, i2, j1, j2, Bool.and_self, if_true]
  have hd := rot_diff (a1 - o1) (a2 - o2) (b1 - o1) (b2 - o2) (quart n) (quart_lt n)
  generalize rotX (a1 - o1) (a2 - o2) (quart n) = X at *
  generalize rotX (b1 - o1) (b2 - o2) (quart n) = U at *
  generalize rotY (a1 - o1) (a2 - o2) (quart n) = Y at *
  generalize rotY (b1 - o1) (b2 - o2) (quart n) = V at *
  have e1 : o1 + X - (o1 + U) = X - U := by omega
  have e2 : o2 + Y - (o2 + V) = Y - V := by omega
  have e3 : a1 - o1 - (b1 - o1) = a1 - b1 := by omega
  have e4 : a2 - o2 - (b2 - o2) = a2 - b2 := by omega
  rw [e1, e2, hd, e3, e4]
theorem quart_back (n : Int) : quart ((4 - n.tmod 4).tmod 4) = (4 - quart n) % 4 := by
  have b := tmod4 n
  unfold quart
  generalize n.tmod 4 = m at *
  have e1 : (m + 4).tmod 4 = (m + 4) % 4 := Int.tmod_eq_emod_of_nonneg (by omega)
  have e2 : (4 - m).tmod 4 = (4 - m) % 4 := Int.tmod_eq_emod_of_nonneg (by omega)
  have e3 : ((4 - m) % 4).tmod 4 = (4 - m) % 4 := by rw [Int.tmod_eq_emod_of_nonneg (by omega)]; omega
  have e4 : ((4 - m) % 4 + 4).tmod 4 = ((4 - m) % 4 + 4) % 4 := Int.tmod_eq_emod_of_nonneg (by omega)
  rw [e1, e2, e3, e4]
  omega
theorem rot_back (x y : Int) : ∀ k, k < 4 → rotX (rotX x y k) (rotY x y k) ((4 - k) % 4) = x ∧ rotY (rotX x y k) (rotY x y k) ((4 - k) % 4) = y
  | 0, _ => by simp [rotX, rotY, qx, qy]
  | 1, _ => by simp [rotX, rotY, qx, qy]
  | 2, _ => by simp [rotX, rotY, qx, qy]
  | 3, _ => by simp [rotX, rotY, qx, qy]
theorem turned_back {a1 a2 o1 o2 n : Int} (h : (turnP a1 a2 o1 o2 n).2.2 = 0) : turnP (turnP a1 a2 o1 o2 n).1 (turnP a1 a2 o1 o2 n).2.1 o1 o2 ((4 - n.tmod 4).tmod 4) = (a1, a2, 0) := by
  obtain ⟨⟨i1, i3, i2⟩, e⟩ := turn_ok h
  have hb := rot_back (a1 - o1) (a2 - o2) (quart n) (quart_lt n)
  have e0 : turnP (turnP a1 a2 o1 o2 n).1 (turnP a1 a2 o1 o2 n).2.1 o1 o2 ((4 - n.tmod 4).tmod 4) =
      if inB (turnP a1 a2 o1 o2 n).1 (turnP a1 a2 o1 o2 n).2.1 && inB o1 o2 then heldP (o1 + rotX ((turnP a1 a2 o1 o2 n).1 - o1) ((turnP a1 a2 o1 o2 n).2.1 - o2) (quart ((4 - n.tmod 4).tmod 4))) (o2 + rotY ((turnP a1 a2 o1 o2 n).1 - o1) ((turnP a1 a2 o1 o2 n).2.1 - o2) (quart ((4 - n.tmod 4).tmod 4))) else (0, 0, 1) := rfl
  rw [e0, quart_back, e]
  generalize rotX (a1 - o1) (a2 - o2) (quart n) = X at *
  generalize rotY (a1 - o1) (a2 - o2) (quart n) = Y at *
  have e1 : o1 + X - o1 = X := by omega
  have e2 : o2 + Y - o2 = Y := by omega
  simp only [e1, e2, i2, i3, Bool.and_self, if_true, hb.1, hb.2]
  have e3 : o1 + (a1 - o1) = a1 := by omega
  have e4 : o2 + (a2 - o2) = a2 := by omega
  unfold heldP
  rw [e3, e4, i1]
  rfl
theorem far_mirror {a1 a2 b1 b2 : Int} (h : inB a1 a2 = true) (h' : inB b1 b2 = true) : farI a1 (-a2) b1 (-b2) = farI a1 a2 b1 b2 := by
  have h1 : inB a1 (-a2) = true := by rw [inB_iff] at h ⊢; omega
  have h2 : inB b1 (-b2) = true := by rw [inB_iff] at h' ⊢; omega
  have e : -a2 - -b2 = -(a2 - b2) := by omega
  unfold farI
  rw [h, h', h1, h2, e, Int.neg_mul_neg]

end Go.Proofs.Ytpmjigghboifdaa
