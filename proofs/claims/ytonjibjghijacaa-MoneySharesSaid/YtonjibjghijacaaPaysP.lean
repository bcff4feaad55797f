/- What a way's amounts are, place by place. Plain. -/
import Derived.Test.YtonjibjghijacaaFeesP
namespace Go.Proofs.Ytonjibjghijacaa
set_option linter.unusedVariables false
set_option linter.unusedSimpArgs false
set_option linter.unnecessarySimpa false
open Go

theorem backP_drop {a : Int} : ∀ (l : List (Int × Int)), (backP a l).2 = 0 → ∀ i, i ≤ l.length → (backP a l).1.drop i = (backP a (l.drop i)).1 ∧ (backP a (l.drop i)).2 = 0
  | l, h, 0, _ => ⟨by simp, by simpa using h⟩
  | [], _, i + 1, hi => by simp at hi
  | f :: l, h, i + 1, hi => by
    have h1 : (backP a l).2 = 0 := by
      unfold backP at h
      split at h
      · assumption
      · exact absurd h (by assumption)
    have h2 : (overP f.1 f.2 ((backP a l).1.headD 0)).2 = 0 := by
      unfold backP at h
      rw [if_pos h1] at h
      split at h
      · assumption
      · exact absurd h (by assumption)
    have e : (backP a (f :: l)).1 = (overP f.1 f.2 ((backP a l).1.headD 0)).1 :: (backP a l).1 := by
      conv => lhs; unfold backP
      rw [if_pos h1, if_pos h2]
    rw [e]
    exact backP_drop l h1 i (by simpa using hi)
theorem headD_drop {l : List Int} {i : Nat} : (l.drop i).headD 0 = l.getD i 0 := by
  simp [List.head?_drop, List.headD_eq_head?_getD, List.getD_eq_getElem?_getD]
/-- At each place: what sets out there is what arrives behind it, with the fee. -/
theorem pays_at {a : Int} {l : List (Int × Int)} (h : (backP a l).2 = 0) {i : Nat} (hi : i < l.length) : overP l[i].1 l[i].2 ((backP a l).1.getD (i + 1) 0) = ((backP a l).1.getD i 0, 0) := by
  have h1 := backP_drop l h i (by omega)
  have h2 := backP_drop l h (i + 1) (by omega)
  have h3 := backP_step (a := a) hi h2.2
  rw [← h2.1, headD_drop] at h3
  by_cases h4 : (overP l[i].1 l[i].2 ((backP a l).1.getD (i + 1) 0)).2 = 0
  · have h5 := h3.1 h4
    have h6 : (backP a l).1.getD i 0 = (overP l[i].1 l[i].2 ((backP a l).1.getD (i + 1) 0)).1 := by
      rw [← headD_drop, h1.1, h5]; rfl
    exact Prod.ext h6.symm h4
  · rw [h3.2 h4] at h
    exact absurd h h4
theorem pays_last {a : Int} {l : List (Int × Int)} (h : (backP a l).2 = 0) : (backP a l).1.getD l.length 0 = a := by
  have h1 := backP_drop l h l.length (Nat.le_refl _)
  rw [List.drop_length] at h1
  rw [← headD_drop, h1.1]; rfl
/-- What a fee asks. -/
structure Pays (b r x y : Int) : Prop where
  of : ∃ g, ofP b r x = (g, 0) ∧ y = x + g ∧ 0 ≤ g
theorem getD_mem_u {l : List Int} (h : ∀ x ∈ l, U64 x) {i : Nat} : U64 (l.getD i 0) := by
  by_cases hi : i < l.length
  · exact h _ (by simp [hi])
  · rw [List.getD_eq_getElem?_getD, List.getElem?_eq_none (by omega)]; exact U64.zero
theorem pays_of {a : Int} (ha : U64 a) {l : List (Int × Int)} (hl : P64 l) (h : (backP a l).2 = 0) {i : Nat} (hi : i < l.length) : Pays l[i].1 l[i].2 ((backP a l).1.getD (i + 1) 0) ((backP a l).1.getD i 0) := by
  have h1 := pays_at h hi
  have hlen := backP_len l h
  have hu := getD_mem_u (backP_u ha l hl) (i := i + 1)
  have hp := hl l[i] (List.getElem_mem hi)
  have h2 := overP_ok hu hp.1 hp.2 (by rw [h1])
  rw [h1] at h2
  refine ⟨(ofP l[i].1 l[i].2 ((backP a l).1.getD (i + 1) 0)).1, ?_, h2.2.1, h2.2.2.1⟩
  exact Prod.ext rfl h2.1
theorem partP_ok {a m d : Int} (h : (partP a m d).2 = 0) : (partP a m d).1 = a * m / d := by
  unfold partP at h ⊢
  split at h
  · cases h
  · rename_i h1
    rw [if_neg h1]
    split at h
    · rename_i h2; rw [if_pos h2]
    · cases h
theorem ofP_ok {b r a : Int} (h : (ofP b r a).2 = 0) : (ofP b r a).1 = b + a * r / 1000000 := by
  unfold ofP at h ⊢
  split at h
  · rename_i h1
    rw [if_pos h1]
    unfold addP at h ⊢
    split at h
    · rename_i h2
      rw [if_pos h2, partP_ok h1]
    · cases h
  · exact absurd h (by assumption)
/-- Who pays more to let more arrive pays no less. -/
theorem overP_mono {b r a c : Int} (ha : U64 a) (hc : U64 c) (hb : U64 b) (hr : U64 r) (hac : a ≤ c) (h : (overP b r a).2 = 0) (h2 : (overP b r c).2 = 0) : ¬ (overP b r c).1 < (overP b r a).1 ∧ ¬ (overP b r a).1 < a := by
  have g1 := overP_ok ha hb hr h
  have g2 := overP_ok hc hb hr h2
  rw [ofP_ok g1.1] at g1
  rw [ofP_ok g2.1] at g2
  have h3 : a * r / 1000000 ≤ c * r / 1000000 := Int.ediv_le_ediv (by decide) (Int.mul_le_mul_of_nonneg_right hac hr.1)
  have := g1.2.2.1
  omega
end Go.Proofs.Ytonjibjghijacaa
