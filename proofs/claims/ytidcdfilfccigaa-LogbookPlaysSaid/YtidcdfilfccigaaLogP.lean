/- Plain: what bytes tell, entries by rising names. -/
import Derived.Test.YtidcdfilfccigaaRec17
namespace Go.Proofs.Ytidcdfilfccigaa
set_option linter.unusedVariables false
set_option linter.unusedSimpArgs false
set_option linter.unnecessarySimpa false
open Go Go.RowKit

/-- A name and its value. -/
abbrev NV := Bs × Bs
def n4 (x0 x1 x2 x3 : UInt8) : Nat := ((x0.toNat * 256 + x1.toNat) * 256 + x2.toNat) * 256 + x3.toNat
def n4p (p : Bs) : Nat := n4 (p.getD 0 0) (p.getD 1 0) (p.getD 2 0) (p.getD 3 0)
def bodyP (p : Bs) (n : Nat) : Bs := (p.take (4 + n)).drop 4
/-- The first record of bytes, and what is behind it. -/
def nextP (p : Bs) : Option (UInt8 × Bs × Bs × Bs) :=
  if p.length < 4 then none else
  if n4p p < 2 ∨ p.length < n4p p + 5 ∨ ¬ p.getD (4 + n4p p) 0 = 165 then none else
  if n4p p < 2 + (p.getD 5 0).toNat then none else
  some (p.getD 4 0, ((bodyP p (n4p p)).take (2 + (p.getD 5 0).toNat)).drop 2, (bodyP p (n4p p)).drop (2 + (p.getD 5 0).toNat), p.drop (5 + n4p p))
/-- An entry in its place, for one of its name. -/
def putN (l : List NV) (x : NV) : List NV := l.filter (fun y => decide (y.1 < x.1)) ++ x :: l.filter (fun y => decide (x.1 < y.1))
def delN (l : List NV) (n : Bs) : List NV := l.filter (fun y => !(y.1 == n))
def getN (l : List NV) (n : Bs) : Option Bs := (l.find? fun y => y.1 == n).map (·.2)
/-- By rising names. -/
def Rises (l : List NV) : Prop := l.Pairwise fun x y => x.1 < y.1
abbrev Tale := Nat × Bool × List NV
def tellF : Nat → Bool → Tale → Bs → Tale
  | 0, _, t, _ => t
  | f + 1, first, t, p => match nextP p with
    | none => t
    | some (k, n, v, q) =>
      if first ≠ (k == 1) then t
      else if k = 1 then (if v.length ≠ 4 then t else tellF f false (n4p v, t.2.1, t.2.2) q)
      else if k = 2 then tellF f false (t.1, t.2.1, putN t.2.2 (n, v)) q
      else if k = 3 then tellF f false (t.1, t.2.1, delN t.2.2 n) q
      else if k = 4 then tellF f false (t.1, true, t.2.2) q
      else t
def tellG (first : Bool) (t : Tale) (p : Bs) : Tale := tellF (p.length + 1) first t p
def tellP (p : Bs) : Tale := tellG true (0, false, []) p

theorem next_shorter {p : Bs} {k : UInt8} {n v q : Bs} (h : nextP p = some (k, n, v, q)) : q.length < p.length ∧ n.length ≤ 255 ∧ v.length ≤ p.length := by
  unfold nextP at h
  split at h
  · cases h
  · split at h
    · cases h
    · split at h
      · cases h
      · simp only [Option.some.injEq, Prod.mk.injEq] at h
        obtain ⟨_, h1, h2, h3⟩ := h
        subst h1; subst h2; subst h3
        have := (p.getD 5 0).toNat_lt
        refine ⟨by rw [List.length_drop]; omega, ?_, ?_⟩
        · rw [List.length_drop, List.length_take]; omega
        · rw [List.length_drop]; unfold bodyP; rw [List.length_drop, List.length_take]; omega
theorem tellF_more : ∀ (f g : Nat) (first : Bool) (t : Tale) (p : Bs), p.length < f → p.length < g → tellF f first t p = tellF g first t p
  | 0, _, _, _, _, h, _ => absurd h (by omega)
  | _, 0, _, _, _, _, h => absurd h (by omega)
  | f + 1, g + 1, first, t, p, hf, hg => by
    unfold tellF
    cases hn : nextP p with
    | none => rfl
    | some r =>
      obtain ⟨k, n, v, q⟩ := r
      have hq := (next_shorter hn).1
      have ih := fun t => tellF_more f g false t q (by omega) (by omega)
      simp only [ih]
theorem tellG_none {first : Bool} {t : Tale} {p : Bs} (h : nextP p = none) : tellG first t p = t := by
  unfold tellG tellF; rw [h]
theorem tellG_some {first : Bool} {t : Tale} {p : Bs} {k : UInt8} {n v q : Bs} (h : nextP p = some (k, n, v, q)) : tellG first t p =
    if first ≠ (k == 1) then t
      else if k = 1 then (if v.length ≠ 4 then t else tellG false (n4p v, t.2.1, t.2.2) q)
      else if k = 2 then tellG false (t.1, t.2.1, putN t.2.2 (n, v)) q
      else if k = 3 then tellG false (t.1, t.2.1, delN t.2.2 n) q
      else if k = 4 then tellG false (t.1, true, t.2.2) q
      else t := by
  have hq := (next_shorter h).1
  unfold tellG
  rw [tellF, h]
  simp only [fun t => tellF_more p.length (q.length + 1) false t q hq (by omega)]

-- names in order
theorem bs_lt_irrefl (x : Bs) : ¬ x < x := List.lt_irrefl x
theorem bs_lt_trans {x y z : Bs} (h : x < y) (h2 : y < z) : x < z := List.lt_trans h h2
theorem bs_le_of_lt {x y : Bs} (h : x < y) : x ≤ y := List.le_of_lt h
theorem bs_lt_of_le_ne {x y : Bs} (h : x ≤ y) (hn : x ≠ y) : x < y := by
  by_cases h2 : x < y
  · exact h2
  · exact absurd (List.le_antisymm h (List.not_lt.1 h2)) hn
theorem bs_ne_of_lt {x y : Bs} (h : x < y) : x ≠ y := fun e => bs_lt_irrefl y (e ▸ h)
theorem bs_tri (x y : Bs) : x < y ∨ x = y ∨ y < x := by
  by_cases h : x < y
  · exact .inl h
  · by_cases h2 : x = y
    · exact .inr (.inl h2)
    · exact .inr (.inr (bs_lt_of_le_ne (List.not_lt.1 h) (Ne.symm h2)))
theorem Rises.nil : Rises [] := List.Pairwise.nil
theorem put_rises {l : List NV} (h : Rises l) (x : NV) : Rises (putN l x) := by
  unfold putN Rises
  rw [List.pairwise_append, List.pairwise_cons]
  refine ⟨List.Pairwise.filter _ h, ⟨fun y hy => ?_, List.Pairwise.filter _ h⟩, fun y hy z hz => ?_⟩
  · rw [List.mem_filter] at hy; exact of_decide_eq_true hy.2
  · rw [List.mem_filter] at hy
    have h1 : y.1 < x.1 := of_decide_eq_true hy.2
    rcases List.mem_cons.1 hz with rfl | hz
    · exact h1
    · rw [List.mem_filter] at hz
      exact bs_lt_trans h1 (of_decide_eq_true hz.2)
theorem del_rises {l : List NV} (h : Rises l) (n : Bs) : Rises (delN l n) := List.Pairwise.filter _ h
theorem rises_nodup {l : List NV} (h : Rises l) : (l.map (·.1)).Nodup := by
  unfold List.Nodup
  rw [List.pairwise_map]
  exact h.imp fun hh => bs_ne_of_lt hh
theorem put_perm (l : List NV) (x : NV) : (putN l x).Perm (x :: delN l x.1) := by
  unfold putN delN
  refine (List.perm_middle).trans (List.Perm.cons _ ?_)
  induction l with
  | nil => exact List.Perm.refl _
  | cons y l ih =>
    rcases bs_tri y.1 x.1 with h | h | h
    · have h1 : decide (y.1 < x.1) = true := decide_eq_true h
      have h2 : decide (x.1 < y.1) = false := decide_eq_false fun h3 => bs_lt_irrefl _ (bs_lt_trans h h3)
      have h4 : (!(y.1 == x.1)) = true := by simp [bs_ne_of_lt h]
      simp only [List.filter_cons, h1, h2, h4, if_true, if_false, Bool.false_eq_true, List.cons_append]
      exact ih.cons _
    · have h1 : decide (y.1 < x.1) = false := decide_eq_false (h ▸ bs_lt_irrefl _)
      have h2 : decide (x.1 < y.1) = false := decide_eq_false (h ▸ bs_lt_irrefl _)
      have h4 : (!(y.1 == x.1)) = false := by simp [h]
      simp only [List.filter_cons, h1, h2, h4, if_false, Bool.false_eq_true]
      exact ih
    · have h1 : decide (x.1 < y.1) = true := decide_eq_true h
      have h2 : decide (y.1 < x.1) = false := decide_eq_false fun h3 => bs_lt_irrefl _ (bs_lt_trans h h3)
      have h4 : (!(y.1 == x.1)) = true := by simp [(bs_ne_of_lt h).symm]
      simp only [List.filter_cons, h1, h2, h4, if_true, if_false, Bool.false_eq_true]
      exact List.perm_middle.trans (ih.cons _)
theorem put_mem {l : List NV} {x y : NV} (h : y ∈ putN l x) : y = x ∨ y ∈ l := by
  rcases List.mem_cons.1 ((put_perm l x).mem_iff.1 h) with h | h
  · exact .inl h
  · exact .inr (List.mem_filter.1 h).1
theorem del_mem {l : List NV} {n : Bs} {y : NV} (h : y ∈ delN l n) : y ∈ l := (List.mem_filter.1 h).1
theorem put_len (l : List NV) (x : NV) : (putN l x).length ≤ l.length + 1 := by
  rw [(put_perm l x).length_eq, List.length_cons]
  have : (delN l x.1).length ≤ l.length := List.length_filter_le _ _
  omega
theorem del_len (l : List NV) (n : Bs) : (delN l n).length ≤ l.length := List.length_filter_le _ _
theorem find_mem {l : List NV} {n v : Bs} (hn : (l.map (·.1)).Nodup) : getN l n = some v ↔ (n, v) ∈ l := by
  unfold getN
  induction l with
  | nil => simp
  | cons y l ih =>
    rw [List.map_cons, List.nodup_cons] at hn
    rw [List.find?_cons]
    by_cases h : y.1 = n
    · simp only [h, beq_self_eq_true, Option.map_some, Option.some.injEq, List.mem_cons]
      constructor
      · rintro rfl; exact .inl (by rw [← h])
      · rintro (h2 | h2)
        · rw [← h2]
        · exact absurd (List.mem_map.2 ⟨_, h2, rfl⟩) (h ▸ hn.1)
    · have h1 : (y.1 == n) = false := by simp [h]
      rw [h1]
      simp only
      rw [ih hn.2, List.mem_cons]
      constructor
      · exact .inr
      · rintro (h2 | h2)
        · exact absurd (by rw [← h2]) h
        · exact h2
theorem n4_lt (x0 x1 x2 x3 : UInt8) : n4 x0 x1 x2 x3 < 4294967296 := by
  have := x0.toNat_lt; have := x1.toNat_lt; have := x2.toNat_lt; have := x3.toNat_lt
  unfold n4; omega
theorem n4p_lt (p : Bs) : n4p p < 4294967296 := n4_lt _ _ _ _
end Go.Proofs.Ytidcdfilfccigaa
