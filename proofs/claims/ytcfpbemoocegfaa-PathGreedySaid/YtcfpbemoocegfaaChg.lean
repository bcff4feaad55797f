/- What a call turns: the blocks of a footprint, and new ones. Plain. -/
import Derived.WalkKit
import Derived.OwnWalk
import Derived.Laws.AppendOwn
namespace Go.Proofs.Ytcfpbemoocegfaa
set_option linter.unusedVariables false
set_option linter.unusedSimpArgs false
set_option linter.unnecessarySimpa false
open Go Go.RowKit

/-- w' is w, but in blocks of F, and with new blocks. -/
structure Chg (F : Nat → Prop) (w w' : World) : Prop where
  os : w'.os = w.os
  tape : w'.tape = w.tape
  output : w'.output = w.output
  size : w.heap.size ≤ w'.heap.size
  block : ∀ k, k < w.heap.size → ¬ F k → w'.heap[k]? = w.heap[k]?

theorem Chg.refl (F : Nat → Prop) (w : World) : Chg F w w := ⟨rfl, rfl, rfl, Nat.le_refl _, fun _ _ _ => rfl⟩
theorem Chg.trans {F G : Nat → Prop} {w w1 w2 : World} (h : Chg F w w1) (h' : Chg G w1 w2) (hG : ∀ k, k < w.heap.size → G k → F k) : Chg F w w2 :=
  ⟨h'.os.trans h.os, h'.tape.trans h.tape, h'.output.trans h.output, Nat.le_trans h.size h'.size, fun k hk hF => (h'.block k (Nat.lt_of_lt_of_le hk h.size) (fun hg => hF (hG k hk hg))).trans (h.block k hk hF)⟩
theorem Chg.mono {F G : Nat → Prop} {w w' : World} (h : Chg F w w') (hG : ∀ k, k < w.heap.size → F k → G k) : Chg G w w' :=
  ⟨h.os, h.tape, h.output, h.size, fun k hk hn => h.block k hk fun hf => hn (hG k hk hf)⟩
theorem Chg.drew {F : Nat → Prop} {w w' : World} (h : Chg F w w') : Chg F w w'.drew := ⟨h.os, h.tape, h.output, h.size, h.block⟩
theorem Chg.alloc {F : Nat → Prop} {w w' : World} (h : Chg F w w') (o : Obj) : Chg F w (w'.alloc o) := by
  refine ⟨h.os, h.tape, h.output, by have := h.size; simp; omega, fun k hk hF => ?_⟩
  rw [((Below.refl _ w').alloc (Nat.le_refl _) o).block k (Nat.lt_of_lt_of_le hk h.size)]
  exact h.block k hk hF
theorem Chg.setCell {F : Nat → Prop} {w w' : World} (h : Chg F w w') {g i : Nat} (hg : F g ∨ w.heap.size ≤ g) (v : Value) : Chg F w (w'.setCell ⟨g, i, none⟩ v) := by
  refine ⟨h.os, h.tape, h.output, by have := h.size; simpa [World.setCell] using this, fun k hk hF => ?_⟩
  have hne : k ≠ g := by rintro rfl; rcases hg with hg | hg; exact hF hg; omega
  rw [Below.heap_setCell _ _ _ _ hne]
  exact h.block k hk hF
theorem Chg.grown {F : Nat → Prop} {w w1 w2 : World} (h : Chg F w w1) {row : Option Nat} (hg : w1.grownBy w2 row) (hr : ∀ k, row = some k → F k ∨ w.heap.size ≤ k) : Chg F w w2 :=
  ⟨hg.os.trans h.os, hg.tape.trans h.tape, hg.output.trans h.output, Nat.le_trans h.size hg.size, fun k hk hF =>
    (hg.block k (Nat.lt_of_lt_of_le hk h.size) (fun e => by rcases hr k e.symm with h1 | h1; exact hF h1; omega)).trans (h.block k hk hF)⟩
theorem Chg.of_below {B : Nat} {w w1 w2 : World} {F : Nat → Prop} (h : Chg F w w1) (hb : Below B w1 w2) (hB : ∀ k, k < w.heap.size → B ≤ k → F k) : Chg F w w2 :=
  ⟨hb.os.trans h.os, hb.tape.trans h.tape, hb.output.trans h.output, Nat.le_trans h.size hb.size, fun k hk hF => (hb.block k (Nat.lt_of_not_le fun hBk => hF (hB k hk hBk))).trans (h.block k hk hF)⟩
theorem Chg.below {F : Nat → Prop} {B : Nat} {w w' : World} (h : Chg F w w') (hF : ∀ k, F k → B ≤ k) (hB : B ≤ w.heap.size) : Below B w w' :=
  ⟨h.os, h.tape, h.output, h.size, fun k hk => h.block k (Nat.lt_of_lt_of_le hk hB) fun hf => by have := hF k hf; omega⟩
theorem ownsRow_of_block {w w' : World} {B : Nat} {e : TypeId} {k : Nat} {v : Value} {n : Nat} {xs : List Value} (h : w.ownsRow B e k v n xs) (hb : ∀ j, v.ownBlock = some j → w'.heap[j]? = w.heap[j]?) : w'.ownsRow B e k v n xs := by
  refine ⟨h.1, ?_⟩
  rcases h.2 with h1 | ⟨g, cap, cur, h1, h2, h3, h4⟩
  · exact .inl h1
  · exact .inr ⟨g, cap, cur, h1, h2, by rw [hb g (by rw [h1]; rfl)]; exact h3, h4⟩
end Go.Proofs.Ytcfpbemoocegfaa
