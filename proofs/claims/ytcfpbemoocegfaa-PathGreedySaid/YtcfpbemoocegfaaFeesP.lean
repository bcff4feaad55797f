/- Fees along a way, plain. -/
import Derived.Test.YtcfpbemoocegfaaMoneyP
namespace Go.Proofs.Ytcfpbemoocegfaa
set_option linter.unusedVariables false
set_option linter.unusedSimpArgs false
set_option linter.unnecessarySimpa false
open Go

def backP (a : Int) : List (Int × Int) → List Int × Int
  | [] => ([a], 0)
  | f :: l => if (backP a l).2 = 0 then (if (overP f.1 f.2 ((backP a l).1.headD 0)).2 = 0 then ((overP f.1 f.2 ((backP a l).1.headD 0)).1 :: (backP a l).1, 0) else ([], (overP f.1 f.2 ((backP a l).1.headD 0)).2)) else ([], (backP a l).2)
/-- Pairs of words. -/
def P64 (l : List (Int × Int)) : Prop := ∀ p ∈ l, U64 p.1 ∧ U64 p.2
theorem backP_len {a : Int} : ∀ (l : List (Int × Int)), (backP a l).2 = 0 → (backP a l).1.length = l.length + 1
  | [], _ => rfl
  | f :: l, h => by
    unfold backP at h ⊢
    split at h
    · rename_i h1
      split at h
      · rename_i h2
        rw [if_pos h1, if_pos h2]
        simp [backP_len l h1]
      · exact absurd h (by assumption)
    · exact absurd h (by assumption)
theorem backP_bad {a : Int} : ∀ (l : List (Int × Int)), (backP a l).2 ≠ 0 → (backP a l).1 = []
  | [], h => absurd rfl h
  | f :: l, h => by
    unfold backP at h ⊢
    split
    · rename_i h1
      rw [if_pos h1] at h
      split
      · rename_i h2
        rw [if_pos h2] at h; exact absurd rfl h
      · rfl
    · rfl
theorem backP_err {a : Int} : ∀ (m l : List (Int × Int)), (backP a l).2 ≠ 0 → backP a (m ++ l) = ([], (backP a l).2)
  | [], l, h => by rw [List.nil_append, ← backP_bad l h]
  | f :: m, l, h => by
    rw [List.cons_append]
    conv => lhs; unfold backP
    rw [backP_err m l h, if_neg h]
theorem U64.zero : U64 0 := ⟨by decide, by decide⟩
theorem backP_u {a : Int} (ha : U64 a) : ∀ (l : List (Int × Int)), P64 l → ∀ x ∈ (backP a l).1, U64 x
  | [], _, x, hx => by
    simp [backP] at hx; subst hx; exact ha
  | f :: l, hl, x, hx => by
    have ih := backP_u ha l fun p hp => hl p (by simp [hp])
    have hd : U64 ((backP a l).1.headD 0) := by
      cases hb : (backP a l).1 with
      | nil => exact U64.zero
      | cons y m => exact ih y (by rw [hb]; simp)
    unfold backP at hx
    split at hx
    · split at hx
      · rcases List.mem_cons.1 hx with rfl | hx
        · exact overP_u (hl f (by simp)).1 (hl f (by simp)).2 hd
        · exact ih x hx
      · cases hx
    · cases hx
theorem backP_hd_u {a : Int} (ha : U64 a) (l : List (Int × Int)) (hl : P64 l) : U64 ((backP a l).1.headD 0) := by
  have ih := backP_u ha l hl
  cases hb : (backP a l).1 with
  | nil => exact U64.zero
  | cons y m => exact ih y (by rw [hb]; simp)
theorem drop_one {α : Type} {l : List α} {j : Nat} (h : j < l.length) : l.drop j = l[j] :: l.drop (j + 1) := List.drop_eq_getElem_cons h
/-- One step towards the front. -/
theorem backP_step {a : Int} {l : List (Int × Int)} {j : Nat} (hj : j < l.length) (h : (backP a (l.drop (j + 1))).2 = 0) :
    ((overP l[j].1 l[j].2 ((backP a (l.drop (j + 1))).1.headD 0)).2 = 0 → backP a (l.drop j) = ((overP l[j].1 l[j].2 ((backP a (l.drop (j + 1))).1.headD 0)).1 :: (backP a (l.drop (j + 1))).1, 0)) ∧
    ((overP l[j].1 l[j].2 ((backP a (l.drop (j + 1))).1.headD 0)).2 ≠ 0 → backP a l = ([], (overP l[j].1 l[j].2 ((backP a (l.drop (j + 1))).1.headD 0)).2)) := by
  have e1 : backP a (l.drop j) = if (overP l[j].1 l[j].2 ((backP a (l.drop (j + 1))).1.headD 0)).2 = 0 then ((overP l[j].1 l[j].2 ((backP a (l.drop (j + 1))).1.headD 0)).1 :: (backP a (l.drop (j + 1))).1, 0) else ([], (overP l[j].1 l[j].2 ((backP a (l.drop (j + 1))).1.headD 0)).2) := by
    rw [drop_one hj]
    conv => lhs; unfold backP
    rw [if_pos h]
  constructor
  · intro h2; rw [e1, if_pos h2]
  · intro h2
    rw [if_neg h2] at e1
    have h3 := backP_err (a := a) (l.take j) (l.drop j) (by rw [e1]; exact h2)
    rw [List.take_append_drop] at h3
    rw [h3, e1]
theorem headD_ne {l : List Int} (h : 0 < l.length) : l[0]? = some (l.headD 0) := by
  match l, h with
  | x :: l, _ => rfl
/-- What a sum of an amount and its fee is. -/
theorem overP_ok {b r a : Int} (ha : U64 a) (hb : U64 b) (hr : U64 r) (h : (overP b r a).2 = 0) : (ofP b r a).2 = 0 ∧ (overP b r a).1 = a + (ofP b r a).1 ∧ U64 (ofP b r a).1 := by
  have hu := ofP_u hb hr ha
  unfold overP at h ⊢
  split at h
  · rename_i h1
    rw [if_pos h1]
    unfold addP at h ⊢
    split at h
    · rename_i h2
      rw [if_pos h2]; exact ⟨h1, rfl, hu⟩
    · cases h
  · exact absurd h (by assumption)
end Go.Proofs.Ytcfpbemoocegfaa
