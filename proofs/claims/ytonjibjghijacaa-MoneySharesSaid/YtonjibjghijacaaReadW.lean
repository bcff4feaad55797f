/- Arguments that are lists of words. -/
import Derived.Test.YtonjibjghijacaaRead
import Derived.Test.YtonjibjghijacaaSat
import Derived.Test.YtonjibjghijacaaEnd
namespace Go.Proofs.Ytonjibjghijacaa
set_option linter.unusedVariables false
set_option linter.unusedSimpArgs false
set_option linter.unnecessarySimpa false
open Go Go.RowKit

theorem words_cells {W : World} {xs : List Int} {cells : List Value} (hl : cells.length = xs.length * 1) (h : ∀ (i : Nat) (x : Int), xs[i]? = some x → rInt .u64 W ((cells.drop (i * 1)).take 1) x) : cells = words xs ∧ ∀ a ∈ xs, 0 ≤ a ∧ a < 18446744073709551616 := by
  constructor
  · apply List.ext_getElem?
    intro i
    by_cases hi : i < xs.length
    · have h1 := (h i _ (List.getElem?_eq_getElem hi)).1
      rw [Nat.mul_one] at h1
      have h2 : (List.take 1 (List.drop i cells))[0]? = some (.int .u64 xs[i]) := by rw [h1]; rfl
      rw [List.getElem?_take_of_lt (by omega), List.getElem?_drop] at h2
      simpa [words, hi] using h2
    · rw [List.getElem?_eq_none (by omega), List.getElem?_eq_none (by simp [words]; omega)]
  · intro a ha
    obtain ⟨i, hi, rfl⟩ := List.getElem_of_mem ha
    have h1 := bd_u64 (h i _ (List.getElem?_eq_getElem hi)).2
    omega
theorem words_of {W : World} {A : Option Addr} {c : Nat} {xs : List Int} {cells : List Value} (hn : A = none → xs.length = 0 ∧ c = 0) (hb : xs.length * 8 ≤ 140737488355328) (hl : cells.length = xs.length * 1) (hs : SrcOf W A cells)
    (h : ∀ (i : Nat) (x : Int), xs[i]? = some x → rInt .u64 W ((cells.drop (i * 1)).take 1) x) : Words W A c xs := by
  obtain ⟨e, hu⟩ := words_cells hl h
  subst e
  exact ⟨hn, hs, hu, hb⟩
end Go.Proofs.Ytonjibjghijacaa
