/- Routes, as the document says: from behind. Plain. -/
import Derived.Test.YtcfpbemoocegfaaPathQ
namespace Go.Proofs.Ytcfpbemoocegfaa
set_option linter.unusedVariables false
set_option linter.unusedSimpArgs false
set_option linter.unnecessarySimpa false
open Go Go.RowKit

structure RInv (x : Wb) (N E : List Int) (am : Int) (i : Nat) (X : List Int) : Prop where
  eq : X = (backP am ((feesP x N E).drop i)).1
  ok : (backP am ((feesP x N E).drop i)).2 = 0
theorem RInv.start (x : Wb) {N E : List Int} (am : Int) (h : N.length = E.length + 1) : RInv x N E am (E.length - 1) [am] := by
  have : (feesP x N E).drop (E.length - 1) = [] := List.drop_of_length_le (by rw [feesP_len h]; exact Nat.le_refl _)
  exact ⟨by rw [this]; rfl, by rw [this]; rfl⟩
theorem RInv.len {x : Wb} {N E : List Int} {am : Int} {i : Nat} {X : List Int} (h : RInv x N E am i X) (hl : N.length = E.length + 1) : X.length = E.length - 1 - i + 1 := by
  rw [h.eq, backP_len _ h.ok, List.length_drop, feesP_len hl]
theorem RInv.hd {x : Wb} {N E : List Int} {am : Int} {i : Nat} {X : List Int} {u : Int} (h : RInv x N E am i X) (ok : x.Ok) (ha : U64 am) (hu : X[0]? = some u) : U64 u := by
  have h1 := feesP_u ok N E
  have h2 : P64 ((feesP x N E).drop i) := fun p hp => h1 p (List.mem_of_mem_drop hp)
  refine backP_u ha _ h2 u ?_
  rw [← h.eq]
  exact List.mem_of_getElem? hu
theorem RInv.step {x : Wb} {N E : List Int} {am : Int} {i : Nat} {X : List Int} {n e b r u : Int} (h : RInv x N E am i X) (hl : N.length = E.length + 1) (hi : 0 < i) (hE : i < E.length) (hn : N[i]? = some n) (he : E[i]? = some e) (hf : feeAt x n e = (b, r)) (hu : X[0]? = some u) :
    ((overP b r u).2 = 0 → RInv x N E am (i - 1) ((overP b r u).1 :: X)) ∧ ((overP b r u).2 ≠ 0 → fillP x N E am = none) := by
  obtain ⟨j, rfl⟩ : ∃ j, i = j + 1 := ⟨i - 1, by omega⟩
  have hj : j < (feesP x N E).length := by rw [feesP_len hl]; omega
  have hF := feesP_at (x := x) hn he
  rw [hf] at hF
  have hFj : (feesP x N E)[j] = (b, r) := by rw [List.getElem?_eq_getElem hj] at hF; exact Option.some.inj hF
  obtain ⟨h1, h2⟩ := backP_step (a := am) hj h.ok
  have hhd : (backP am ((feesP x N E).drop (j + 1))).1.headD 0 = u := by rw [← h.eq]; exact head_of hu
  rw [hFj, hhd, ← h.eq] at h1
  rw [hFj, hhd] at h2
  rw [Nat.add_sub_cancel]
  refine ⟨fun h0 => ⟨by rw [h1 h0], by rw [h1 h0]⟩, fun h0 => fill_err (by rw [h2 h0]; exact h0)⟩
theorem RInv.done {x : Wb} {N E : List Int} {am : Int} {i : Nat} {X : List Int} (h : RInv x N E am i X) (hi : i = 0) : X = (backP am (feesP x N E)).1 ∧ (backP am (feesP x N E)).2 = 0 := by
  subst hi
  exact ⟨h.eq, h.ok⟩
theorem ways_le {x : Wb} {to am : Int} {f : Nat} {N E : List Int} {R : List Rt} (h : R.length ≤ 32) : (waysP x to am f N E R).length ≤ 32 := (ways_pre x to am f N E R).2 h
theorem last_ne {x : Wb} {N E : List Int} (hw : WayOk x N E) : N[N.length - 1]? = some (N.getLastD 0) := by
  have := hw.len
  rw [List.getLastD_eq_getLast?, List.getLast?_eq_getElem?]
  cases hq : N[N.length - 1]? with
  | none => rw [List.getElem?_eq_none_iff] at hq; omega
  | some v => rfl
end Go.Proofs.Ytcfpbemoocegfaa
