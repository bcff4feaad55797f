/- The spiral, step by step, in whole numbers: where it is behind each step, and that no two steps meet. Plain: no program. -/
namespace Go.Proofs.Ytpmjigghboifdaa

structure Sp where
  (x y dx dy long left turns : Int)
def Sp.next (s : Sp) : Sp :=
  if 0 < s.left - 1 then ⟨s.x + s.dx, s.y + s.dy, s.dx, s.dy, s.long, s.left - 1, s.turns⟩
  else if (s.turns + 1) % 2 = 0 then ⟨s.x + s.dx, s.y + s.dy, -s.dy, s.dx, s.long + 1, s.long + 1, s.turns + 1⟩
  else ⟨s.x + s.dx, s.y + s.dy, -s.dy, s.dx, s.long, s.long, s.turns + 1⟩
def sp : Nat → Sp
  | 0 => ⟨0, 0, 1, 0, 1, 1, 0⟩
  | m + 1 => (sp m).next

/-- In ring k, on leg r of it, i steps behind its beginning. -/
def At (s : Sp) (m k i : Int) (r : Nat) : Prop :=
  0 ≤ k ∧ 0 ≤ i ∧ s.turns = 4 * k + r ∧ s.long = s.left + i ∧ 0 < s.left ∧
  match r with
  | 0 => s.x = -k + i ∧ s.y = -k ∧ s.dx = 1 ∧ s.dy = 0 ∧ s.long = 2 * k + 1 ∧ m = 4 * (k * k) + 2 * k + i
  | 1 => s.x = k + 1 ∧ s.y = -k + i ∧ s.dx = 0 ∧ s.dy = 1 ∧ s.long = 2 * k + 1 ∧ m = 4 * (k * k) + 4 * k + 1 + i
  | 2 => s.x = k + 1 - i ∧ s.y = k + 1 ∧ s.dx = -1 ∧ s.dy = 0 ∧ s.long = 2 * k + 2 ∧ m = 4 * (k * k) + 6 * k + 2 + i
  | 3 => s.x = -k - 1 ∧ s.y = k + 1 - i ∧ s.dx = 0 ∧ s.dy = -1 ∧ s.long = 2 * k + 2 ∧ m = 4 * (k * k) + 8 * k + 4 + i
  | _ => False

theorem at_next (s : Sp) (m k i : Int) (r : Nat) (h : At s m k i r) : ∃ k' i' r', At s.next (m + 1) k' i' r' := by
  obtain ⟨hk, hi, ht, hl, hp, h⟩ := h
  by_cases h1 : 0 < s.left - 1
  · have e : s.next = ⟨s.x + s.dx, s.y + s.dy, s.dx, s.dy, s.long, s.left - 1, s.turns⟩ := by unfold Sp.next; rw [if_pos h1]
    refine ⟨k, i + 1, r, ?_⟩
    rw [e]
    refine ⟨hk, by omega, ht, by show s.long = s.left - 1 + (i + 1); omega, h1, ?_⟩
    match r, h with
    | 0, h => simp only at h ⊢; omega
    | 1, h => simp only at h ⊢; omega
    | 2, h => simp only at h ⊢; omega
    | 3, h => simp only at h ⊢; omega
  · match r, ht, h with
    | 0, ht, h =>
      simp only at h
      have e : s.next = ⟨s.x + s.dx, s.y + s.dy, -s.dy, s.dx, s.long, s.long, s.turns + 1⟩ := by unfold Sp.next; rw [if_neg h1, if_neg (by omega)]
      refine ⟨k, 0, 1, ?_⟩
      rw [e]
      refine ⟨hk, by omega, ?_, ?_, ?_, ?_⟩ <;> simp only <;> omega
    | 1, ht, h =>
      simp only at h
      have e : s.next = ⟨s.x + s.dx, s.y + s.dy, -s.dy, s.dx, s.long + 1, s.long + 1, s.turns + 1⟩ := by unfold Sp.next; rw [if_neg h1, if_pos (by omega)]
      refine ⟨k, 0, 2, ?_⟩
      rw [e]
      refine ⟨hk, by omega, ?_, ?_, ?_, ?_⟩ <;> simp only <;> omega
    | 2, ht, h =>
      simp only at h
      have e : s.next = ⟨s.x + s.dx, s.y + s.dy, -s.dy, s.dx, s.long, s.long, s.turns + 1⟩ := by unfold Sp.next; rw [if_neg h1, if_neg (by omega)]
      refine ⟨k, 0, 3, ?_⟩
      rw [e]
      refine ⟨hk, by omega, ?_, ?_, ?_, ?_⟩ <;> simp only <;> omega
    | 3, ht, h =>
      simp only at h
      have e : s.next = ⟨s.x + s.dx, s.y + s.dy, -s.dy, s.dx, s.long + 1, s.long + 1, s.turns + 1⟩ := by unfold Sp.next; rw [if_neg h1, if_pos (by omega)]
      refine ⟨k + 1, 0, 0, ?_⟩
      have ek : (k + 1) * (k + 1) = k * k + 2 * k + 1 := by rw [Int.add_mul, Int.mul_add]; omega
      rw [e]
      refine ⟨by omega, by omega, ?_, ?_, ?_, ?_⟩ <;> simp only <;> omega

theorem sp_at : ∀ m : Nat, ∃ k i r, At (sp m) m k i r
  | 0 => ⟨0, 0, 0, by unfold At; simp [sp]⟩
  | m + 1 => by
    obtain ⟨k, i, r, h⟩ := sp_at m
    obtain ⟨k', i', r', h'⟩ := at_next _ _ _ _ _ h
    exact ⟨k', i', r', by simpa [sp] using h'⟩

/-- What a step needs to know: nothing is great. -/
theorem sp_bd (m : Nat) : (-(m : Int) ≤ (sp m).x ∧ (sp m).x ≤ m ∧ -(m : Int) ≤ (sp m).y ∧ (sp m).y ≤ m) ∧ (-1 ≤ (sp m).dx ∧ (sp m).dx ≤ 1 ∧ -1 ≤ (sp m).dy ∧ (sp m).dy ≤ 1) ∧
    (0 < (sp m).long ∧ (sp m).long ≤ m + 1 ∧ 0 < (sp m).left ∧ (sp m).left ≤ m + 1 ∧ 0 ≤ (sp m).turns ∧ (sp m).turns ≤ m) := by
  induction m with
  | zero => decide
  | succ m ih =>
    have e : sp (m + 1) = (sp m).next := rfl
    rw [e]
    generalize sp m = s at *
    unfold Sp.next
    split
    · simp only; omega
    · split <;> simp only <;> omega

theorem at_inj (s t : Sp) (m n k i k' i' : Int) (r r' : Nat) (h : At s m k i r) (g : At t n k' i' r') (hx : s.x = t.x) (hy : s.y = t.y) : m = n := by
  obtain ⟨hk, hi, ht, hl, hp, h⟩ := h
  obtain ⟨gk, gi, gt, gl, gp, g⟩ := g
  have key : k = k' ∧ r = r' ∧ i = i' := by
    match r, h, r', g with
    | 0, h, 0, g => simp only at h g; omega
    | 0, h, 1, g => simp only at h g; omega
    | 0, h, 2, g => simp only at h g; omega
    | 0, h, 3, g => simp only at h g; omega
    | 1, h, 0, g => simp only at h g; omega
    | 1, h, 1, g => simp only at h g; omega
    | 1, h, 2, g => simp only at h g; omega
    | 1, h, 3, g => simp only at h g; omega
    | 2, h, 0, g => simp only at h g; omega
    | 2, h, 1, g => simp only at h g; omega
    | 2, h, 2, g => simp only at h g; omega
    | 2, h, 3, g => simp only at h g; omega
    | 3, h, 0, g => simp only at h g; omega
    | 3, h, 1, g => simp only at h g; omega
    | 3, h, 2, g => simp only at h g; omega
    | 3, h, 3, g => simp only at h g; omega
  obtain ⟨rfl, rfl, rfl⟩ := key
  match r, h, g with
  | 0, h, g => simp only at h g; omega
  | 1, h, g => simp only at h g; omega
  | 2, h, g => simp only at h g; omega
  | 3, h, g => simp only at h g; omega

theorem sp_inj (m n : Nat) (hx : (sp m).x = (sp n).x) (hy : (sp m).y = (sp n).y) : m = n := by
  obtain ⟨k, i, r, h⟩ := sp_at m
  obtain ⟨k', i', r', g⟩ := sp_at n
  have := at_inj _ _ _ _ _ _ _ _ _ _ h g hx hy
  omega

end Go.Proofs.Ytpmjigghboifdaa
