/- Orders, plain. -/
import Derived.Test.YtmcfmabnggffjaaTillNew
namespace Go.Proofs.Ytmcfmabnggffjaa
set_option linter.unusedVariables false
set_option linter.unusedSimpArgs false
set_option linter.unnecessarySimpa false
open Go

def stO (l : List Int) (who : Int) (j : Nat) : Tl := ⟨l, if 0 ≤ who ∧ who < l.length then (List.replicate l.length 0).set who.toNat (j : Int) else List.replicate l.length 0, 0⟩
theorem stO_zero (l : List Int) (who : Int) : stO l who 0 = tl0 l := by
  unfold stO tl0
  congr 1
  split
  · apply List.ext_getElem (by simp)
    intro k a b
    rw [List.getElem_set]; simp
  · rfl
theorem stO_ok {l : List Int} {who : Int} {j : Nat} (ok : (tl0 l).Ok) (hj : j ≤ 1000) : (stO l who j).Ok := by
  refine ⟨?_, ok.few, ok.h, ?_, ok.k0, ok.tot⟩
  · unfold stO; dsimp only; split <;> simp
  · unfold stO; dsimp only
    split
    · exact U64s.set ok.n ⟨by omega, by omega⟩
    · exact ok.n
theorem stO_out {l : List Int} {who n : Int} {j : Nat} (h : ¬ (0 ≤ who ∧ who < l.length)) : ordE (stO l who j) who n = 1 ∧ ordS (stO l who j) who n = stO l who j := by
  have h1 : ordE (stO l who j) who n = 1 := if_neg h
  refine ⟨h1, ?_⟩
  unfold ordS; rw [h1]; rfl
theorem stO_get {l : List Int} {who : Int} {j i : Nat} (hi : i < l.length) : (stO l who j).next.getD i 0 = if (i : Int) = who then (j : Int) else 0 := by
  unfold stO; dsimp only
  split
  · rename_i h
    obtain ⟨p, rfl⟩ : ∃ p : Nat, who = p := ⟨who.toNat, by omega⟩
    simp only [Int.toNat_natCast]
    by_cases e : i = p
    · subst e; simp [hi]
    · rw [if_neg (by omega)]; simp [hi, List.getElem?_set, Ne.symm e]
  · rename_i h
    rw [if_neg (by omega)]; simp [hi]
theorem stO_in {l : List Int} {who n : Int} {j : Nat} (h : 0 ≤ who ∧ who < l.length) (hj : j ≤ 1000) : ordE (stO l who j) who n = (if (j : Int) = n then 0 else 22) ∧ ((j : Int) = n → ordS (stO l who j) who n = stO l who (j + 1)) ∧ ((j : Int) ≠ n → ordS (stO l who j) who n = stO l who j) := by
  obtain ⟨i, rfl, hi⟩ := (show ∃ i : Nat, who = i ∧ i < l.length from ⟨who.toNat, by omega, by omega⟩)
  have hg := stO_get (who := (i : Int)) (j := j) hi
  rw [if_pos rfl] at hg
  have h1 : ordE (stO l i j) i n = if (j : Int) = n then 0 else 22 := by
    unfold ordE; rw [if_pos (show (stO l i j).inB i from h), Int.toNat_natCast, hg]
  refine ⟨h1, fun e => ?_, fun e => ?_⟩
  · unfold ordS
    rw [h1, if_pos e, if_pos rfl]
    unfold stO
    rw [if_pos h, if_pos h, Int.toNat_natCast, List.set_set, ← e]
    congr 2
    omega
  · unfold ordS
    rw [h1, if_neg e]; rfl
end Go.Proofs.Ytmcfmabnggffjaa
