/- Amounts: plain. -/
import Derived.WalkKit
import Derived.ProofKit
import Derived.Below
namespace Go.Proofs.Ytcfpbemoocegfaa
set_option linter.unusedVariables false
set_option linter.unusedSimpArgs false
set_option linter.unnecessarySimpa false
open Go

/-- A word of 64 bits. -/
def U64 (a : Int) : Prop := 0 ≤ a ∧ a < 18446744073709551616
def addP (a b : Int) : Int × Int := if a + b < 18446744073709551616 then (a + b, 0) else (0, 11)
def subP (a b : Int) : Int × Int := if b ≤ a then (a - b, 0) else (0, 12)
def mulP (a b : Int) : Int × Int := if a * b < 18446744073709551616 then (a * b, 0) else (0, 11)
def partP (a m d : Int) : Int × Int := if d = 0 then (0, 1) else if a * m / d < 18446744073709551616 then (a * m / d, 0) else (0, 11)
def upP (a m d : Int) : Int × Int := if d = 0 then (0, 1) else if a * m / d < 18446744073709551616 then (if 0 < a * m % d then addP (a * m / d) 1 else (a * m / d, 0)) else (0, 11)
/-- A sum from s on. -/
def sumP : Int → List Int → Int × Int
  | s, [] => (s, 0)
  | s, a :: l => if s + a < 18446744073709551616 then sumP (s + a) l else (0, 11)
theorem addP_u {a b : Int} (ha : U64 a) (hb : U64 b) : U64 (addP a b).1 := by
  unfold addP U64 at *
  split <;> constructor <;> dsimp only <;> omega
theorem subP_u {a b : Int} (ha : U64 a) (hb : U64 b) : U64 (subP a b).1 := by
  unfold subP U64 at *
  split <;> constructor <;> dsimp only <;> omega
theorem mulP_u {a b : Int} (ha : U64 a) (hb : U64 b) : U64 (mulP a b).1 := by
  have := Int.mul_nonneg ha.1 hb.1
  unfold mulP U64 at *
  split <;> constructor <;> dsimp only <;> omega
theorem partP_u {a m d : Int} (ha : U64 a) (hm : U64 m) (hd : 0 ≤ d) : U64 (partP a m d).1 := by
  have h1 := Int.mul_nonneg ha.1 hm.1
  have h2 := Int.ediv_nonneg h1 hd
  unfold partP U64 at *
  split
  · constructor <;> dsimp only <;> omega
  · split <;> constructor <;> dsimp only <;> omega
theorem sumP_u : ∀ (l : List Int) (s : Int), U64 s → (∀ a ∈ l, U64 a) → U64 (sumP s l).1
  | [], s, hs, _ => hs
  | a :: l, s, hs, h => by
    unfold sumP
    have ha := h a (by simp)
    split
    · exact sumP_u l _ ⟨by have := hs.1; have := ha.1; omega, by assumption⟩ fun b hb => h b (by simp [hb])
    · exact ⟨by decide, by decide⟩
theorem sumP_snoc : ∀ (l : List Int) (s a : Int), (sumP s l).2 = 0 → sumP s (l ++ [a]) = if (sumP s l).1 + a < 18446744073709551616 then ((sumP s l).1 + a, 0) else (0, 11)
  | [], s, a, _ => rfl
  | b :: l, s, a, h => by
    simp only [List.cons_append]
    unfold sumP at h ⊢
    split
    · rename_i h1
      rw [if_pos h1] at h
      exact sumP_snoc l _ a h
    · rename_i h1
      rw [if_neg h1] at h
      cases h
theorem sumP_stop : ∀ (l l' : List Int) (s : Int), (sumP s l).2 ≠ 0 → sumP s (l ++ l') = (0, 11)
  | [], l', s, h => absurd rfl h
  | b :: l, l', s, h => by
    simp only [List.cons_append]
    unfold sumP at h ⊢
    split
    · rename_i h1
      rw [if_pos h1] at h
      exact sumP_stop l l' _ h
    · rfl
theorem sumP_err : ∀ (l : List Int) (s : Int), (sumP s l).2 = 0 ∨ sumP s l = (0, 11)
  | [], s => .inl rfl
  | a :: l, s => by
    unfold sumP
    split
    · exact sumP_err l _
    · exact .inr rfl
/-- A fee; an amount with its fee. -/
def ofP (base rate a : Int) : Int × Int := if (partP a rate 1000000).2 = 0 then addP base (partP a rate 1000000).1 else (0, (partP a rate 1000000).2)
def overP (base rate a : Int) : Int × Int := if (ofP base rate a).2 = 0 then addP a (ofP base rate a).1 else (0, (ofP base rate a).2)
theorem ofP_u {base rate a : Int} (hb : U64 base) (hr : U64 rate) (ha : U64 a) : U64 (ofP base rate a).1 := by
  unfold ofP
  split
  · exact addP_u hb (partP_u ha hr (by decide))
  · exact ⟨by dsimp only; omega, by dsimp only; omega⟩
theorem overP_u {base rate a : Int} (hb : U64 base) (hr : U64 rate) (ha : U64 a) : U64 (overP base rate a).1 := by
  unfold overP
  split
  · exact addP_u ha (ofP_u hb hr ha)
  · exact ⟨by dsimp only; omega, by dsimp only; omega⟩
theorem bcell {W w1 : World} (hb : RowKit.Below W.heap.size W w1) : (∀ b o, b < W.heap.size → w1.cell? ⟨b, o, none⟩ = W.cell? ⟨b, o, none⟩) ∧ (∀ b o, b < W.heap.size → w1.frozen? ⟨b, o, none⟩ = W.frozen? ⟨b, o, none⟩) :=
  ⟨fun b o h => hb.cell (p := ⟨b, o, none⟩) h, fun b o h => hb.frozen (p := ⟨b, o, none⟩) h⟩
end Go.Proofs.Ytcfpbemoocegfaa
