/- A slab, as it lies in memory. -/
import Derived.Test.YtofhcdjnnbpkbaaChg
import Derived.WalkSpells
import Derived.WalkLawsBesides
import Derived.StillTactics
import Derived.Laws.Pointers
import Derived.RowKit3
import Derived.Lib.Hide
import Derived.Test.YtofhcdjnnbpkbaaChecked
namespace Go.Proofs.Ytofhcdjnnbpkbaa
set_option linter.unusedVariables false
set_option linter.unusedSimpArgs false
set_option linter.unnecessarySimpa false
open Go.RowKit

/-- A slab at g: what lasts (S), what may be lost (L), its steps, its fuse, and whether power is gone; vs, vl are its two rows. -/
structure SlabAt (w : World) (B g : Nat) (vs vl : Value) (S L : List Int) (steps fuse : Int) (down : Bool) : Prop where
  blk : w.heap[g]? = some (.cells #[vs, vl, .int .i64 steps, .int .i64 fuse, .bool down] 46 (0, 0))
  sure : w.ownsRow B 5 1 vs S.length (S.map (Value.int .u8))
  loose : w.ownsRow B 5 1 vl L.length (L.map (Value.int .u8))
  apart : ∀ k, vs.ownBlock = some k → vl.ownBlock ≠ some k
  base : B ≤ g

/-- One block. -/
def Just (g k : Nat) : Prop := k = g
theorem Chg.one {w w' : World} {g : Nat} (h : Chg (Just g) w w') (i : Nat) (v : Value) : Chg (Just g) w (w'.setCell ⟨g, i, none⟩ v) := h.setCell (.inl rfl) v

/-- A slab's blocks. -/
def Foot (g : Nat) (vs vl : Value) (k : Nat) : Prop := k = g ∨ vs.ownBlock = some k ∨ vl.ownBlock = some k

theorem SlabAt.of_block {w w' : World} {B g : Nat} {vs vl : Value} {S L : List Int} {steps fuse : Int} {down : Bool} (h : SlabAt w B g vs vl S L steps fuse down) (hb : ∀ k, Foot g vs vl k → w'.heap[k]? = w.heap[k]?) : SlabAt w' B g vs vl S L steps fuse down :=
  ⟨(hb g (.inl rfl)).trans h.blk, ownsRow_of_block h.sure fun j hj => hb j (.inr (.inl hj)), ownsRow_of_block h.loose fun j hj => hb j (.inr (.inr hj)), h.apart, h.base⟩
theorem SlabAt.lt {w : World} {B g : Nat} {vs vl : Value} {S L : List Int} {steps fuse : Int} {down : Bool} (h : SlabAt w B g vs vl S L steps fuse down) {k : Nat} (hk : Foot g vs vl k) : k < w.heap.size ∧ B ≤ k := by
  rcases hk with rfl | hk | hk
  · exact ⟨(Array.getElem?_eq_some_iff.1 h.blk).1, h.base⟩
  · exact ⟨(h.sure.lt k hk).2, (h.sure.lt k hk).1⟩
  · exact ⟨(h.loose.lt k hk).2, (h.loose.lt k hk).1⟩
theorem SlabAt.cells {w : World} {B g : Nat} {vs vl : Value} {S L : List Int} {steps fuse : Int} {down : Bool} (h : SlabAt w B g vs vl S L steps fuse down) :
    w.cell? ⟨g, 0, none⟩ = some vs ∧ w.cell? ⟨g, 1, none⟩ = some vl ∧ w.cell? ⟨g, 2, none⟩ = some (.int .i64 steps) ∧ w.cell? ⟨g, 3, none⟩ = some (.int .i64 fuse) ∧ w.cell? ⟨g, 4, none⟩ = some (.bool down) ∧
      w.frozen? ⟨g, 0, none⟩ = false ∧ w.frozen? ⟨g, 1, none⟩ = false ∧ w.frozen? ⟨g, 2, none⟩ = false ∧ w.frozen? ⟨g, 3, none⟩ = false ∧ w.frozen? ⟨g, 4, none⟩ = false ∧ g < w.heap.size := by
  have hb := h.blk
  refine ⟨?_, ?_, ?_, ?_, ?_, ?_, ?_, ?_, ?_, ?_, (Array.getElem?_eq_some_iff.1 hb).1⟩ <;> simp [World.cell?, World.frozen?, hb]
/-- A row isn't the slab's own block. -/
theorem SlabAt.row_ne {w : World} {B g : Nat} {vs vl : Value} {S L : List Int} {steps fuse : Int} {down : Bool} (h : SlabAt w B g vs vl S L steps fuse down) {k : Nat} (hk : vs.ownBlock = some k ∨ vl.ownBlock = some k) : k ≠ g := by
  rintro rfl
  have hb := h.blk
  have key : ∀ (v : Value) (n : Nat) (xs : List Value), w.ownsRow B 5 1 v n xs → v.ownBlock ≠ some k := by
    intro v n xs hv he
    rcases hv.2 with ⟨rfl, _⟩ | ⟨g', cap, cur, rfl, _, h3, _⟩
    · cases he
    · simp [Value.ownBlock] at he
      subst he
      rw [hb] at h3
      simp at h3
  rcases hk with hk | hk
  · exact key _ _ _ h.sure hk
  · exact key _ _ _ h.loose hk

theorem up_any (w : World) (g : Nat) (down : Bool) (h : w.cell? ⟨g, 4, none⟩ = some (.bool down)) : Calls Try.prog 21 #[.pointer (some ⟨g, 0, none⟩)] w fun e w' =>
    e = .returned (.int .i64 (if down then 5 else 0)) ∧ w' = w := by
  cases down <;> (go_enter Try.func21, Try.ntmps21; go_wp2; go_ret; exact ⟨rfl, rfl⟩)
theorem up_nil (w : World) : Calls Try.prog 21 #[.pointer none] w fun e w' =>
    e = .returned (.int .i64 2) ∧ w' = w := by
  go_enter Try.func21, Try.ntmps21
  go_wp2
  go_ret
  exact ⟨rfl, rfl⟩
end Go.Proofs.Ytofhcdjnnbpkbaa
