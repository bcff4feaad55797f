/- Many things as one. Plain: over any program. -/
import Derived.Test.YtidcdfilfccigaaGf
namespace Go.Proofs.Ytidcdfilfccigaa
set_option linter.unusedVariables false
set_option linter.unusedSimpArgs false
set_option linter.unnecessarySimpa false
open Go Go.RowKit

def stars : List Asn → Asn
  | [] => emp
  | A :: As => star2 A (stars As)
section
variable {w0 w : World}
theorem set_last {α : Type} (l : List α) (x y : α) : (l ++ [x]).set l.length y = l ++ [y] := by
  rw [List.set_append_right _ _ (Nat.le_refl _), Nat.sub_self, List.set_cons_zero]
theorem get_last' {α : Type} (l : List α) (x : α) : (l ++ [x])[l.length]? = some x := by
  rw [List.getElem?_append_right (Nat.le_refl _), Nat.sub_self]; rfl
theorem Sat.openStars : ∀ (As l : List Asn), Sat w0 w (l ++ [stars As]) → Sat w0 w (l ++ As)
  | [], l, h => by rw [List.append_nil]; exact h.left
  | A :: As, l, h => by
    have h1 := h.open2 (i := l.length) (A := A) (B := stars As) (get_last' l _)
    rw [set_last] at h1
    have h2 := Sat.openStars As (l ++ [A]) h1
    rw [List.append_assoc] at h2
    exact h2
theorem Sat.shutStars : ∀ (As l : List Asn), Sat w0 w (l ++ As) → Sat w0 w (l ++ [stars As])
  | [], l, h => by rw [List.append_nil] at h; exact h.pushEmp
  | A :: As, l, h => by
    have h0 : Sat w0 w ((l ++ [A]) ++ As) := by rw [List.append_assoc]; exact h
    have h1 := Sat.shutStars As (l ++ [A]) h0
    have h2 := h1.shut2 (i := l.length) (get_last' l A)
    rw [set_last] at h2
    exact h2
/-- Things told by a value and a condition. -/
def told {α : Type} (p : α → Prop) (f : α → List Asn) : Asn := some_ fun x => when (p x) (stars (f x))
theorem Sat.openTold {α : Type} {p : α → Prop} {f : α → List Asn} (l : List Asn) (h : Sat w0 w (l ++ [told p f])) : ∃ x, p x ∧ Sat w0 w (l ++ f x) := by
  obtain ⟨x, h1⟩ := h.open_some (i := l.length) (get_last' l _)
  rw [set_last] at h1
  obtain ⟨hp, h2⟩ := h1.open_when (i := l.length) (get_last' l _)
  rw [set_last] at h2
  exact ⟨x, hp, Sat.openStars _ l h2⟩
theorem Sat.shutTold {α : Type} {p : α → Prop} {f : α → List Asn} (l : List Asn) (x : α) (hp : p x) (h : Sat w0 w (l ++ f x)) : Sat w0 w (l ++ [told p f]) := by
  have h1 := Sat.shutStars _ l h
  have h2 := h1.shut_when hp (i := l.length) (get_last' l _)
  rw [set_last] at h2
  have h3 := h2.shut_some (f := fun x => when (p x) (stars (f x))) x (i := l.length) (get_last' l _)
  rw [set_last] at h3
  exact h3
end
end Go.Proofs.Ytidcdfilfccigaa
