/- Walks over the slab's calls that make no rows. -/
import Derived.Test.YtofhcdjnnbpkbaaSlab
namespace Go.Proofs.Ytofhcdjnnbpkbaa
set_option linter.unusedVariables false
set_option linter.unusedSimpArgs false
set_option linter.unnecessarySimpa false
open Go.RowKit

theorem heap_set {w : World} {g i : Nat} {a : Array Value} {T : TypeId} {q : Nat × Nat} {v : Value} (h : w.heap[g]? = some (.cells a T q)) : (w.setCell ⟨g, i, none⟩ v).heap[g]? = some (.cells (a.setIfInBounds i v) T q) := by
  simp [World.setCell, Array.getElem?_modify, h]
theorem heap_set_ne {w : World} {g i k : Nat} {v : Value} (h : k ≠ g) : (w.setCell ⟨g, i, none⟩ v).heap[k]? = w.heap[k]? := Below.heap_setCell _ _ _ _ h

section
variable {w : World} {B g : Nat} {vs vl : Value} {S L : List Int} {steps fuse : Int} {down : Bool}
theorem SlabAt.rows_set (h : SlabAt w B g vs vl S L steps fuse down) (i : Nat) (v : Value) :
    (w.setCell ⟨g, i, none⟩ v).ownsRow B 5 1 vs S.length (S.map (Value.int .u8)) ∧ (w.setCell ⟨g, i, none⟩ v).ownsRow B 5 1 vl L.length (L.map (Value.int .u8)) :=
  ⟨ownsRow_of_block h.sure fun _ hj => heap_set_ne (h.row_ne (.inl hj)), ownsRow_of_block h.loose fun _ hj => heap_set_ne (h.row_ne (.inr hj))⟩
theorem SlabAt.setSteps (h : SlabAt w B g vs vl S L steps fuse down) (x : Int) : SlabAt (w.setCell ⟨g, 2, none⟩ (.int .i64 x)) B g vs vl S L x fuse down :=
  ⟨heap_set h.blk, (h.rows_set _ _).1, (h.rows_set _ _).2, h.apart, h.base⟩
theorem SlabAt.setFuse (h : SlabAt w B g vs vl S L steps fuse down) (x : Int) : SlabAt (w.setCell ⟨g, 3, none⟩ (.int .i64 x)) B g vs vl S L steps x down :=
  ⟨heap_set h.blk, (h.rows_set _ _).1, (h.rows_set _ _).2, h.apart, h.base⟩
theorem SlabAt.setDown (h : SlabAt w B g vs vl S L steps fuse down) (x : Bool) : SlabAt (w.setCell ⟨g, 4, none⟩ (.bool x)) B g vs vl S L steps fuse x :=
  ⟨heap_set h.blk, (h.rows_set _ _).1, (h.rows_set _ _).2, h.apart, h.base⟩
theorem SlabAt.setLooseNil (h : SlabAt w B g vs vl S L steps fuse down) : SlabAt (w.setCell ⟨g, 1, none⟩ (.slice none 0 0)) B g vs (.slice none 0 0) S [] steps fuse down :=
  ⟨heap_set h.blk, (h.rows_set _ _).1, World.ownsRow_nil _ _ _ _, fun _ _ h => (by cases h), h.base⟩
theorem SlabAt.setSureNil (h : SlabAt w B g vs vl S L steps fuse down) : SlabAt (w.setCell ⟨g, 0, none⟩ (.slice none 0 0)) B g (.slice none 0 0) vl [] L steps fuse down :=
  ⟨heap_set h.blk, World.ownsRow_nil _ _ _ _, (h.rows_set _ _).2, fun _ h => (by cases h), h.base⟩
end

/-- What a step leaves of the counters: steps, fuse, is the power gone. -/
def stS (steps fuse : Int) : Int := if fuse = 0 then steps else steps + 1
def stF (fuse : Int) : Int := if 0 < fuse then fuse - 1 else fuse
def stD (fuse : Int) (down : Bool) : Bool := if fuse = 0 then true else down
/-- What a step answers. -/
def stE (fuse : Int) : Int := if fuse = 0 then 5 else 0

theorem step_any (w : World) (B g : Nat) (vs vl : Value) (S L : List Int) (steps fuse : Int) (down : Bool) (h : SlabAt w B g vs vl S L steps fuse down) (hs : 0 ≤ steps) (hs' : steps ≤ 4611686018427387904)
    (hf : -9223372036854775808 ≤ fuse) (hf' : fuse ≤ 9223372036854775807) : Calls Try.prog 22 #[.pointer (some ⟨g, 0, none⟩)] w fun e w' =>
    e = .returned (.int .i64 (stE fuse)) ∧ SlabAt w' B g vs vl S L (stS steps fuse) (stF fuse) (stD fuse down) ∧ Chg (Just g) w w' := by
  have H := Lib.hid h
  obtain ⟨_, _, c2, c3, c4, _, _, f2, f3, f4, hg⟩ := h.cells
  clear h
  rcases (show fuse = 0 ∨ 0 < fuse ∨ fuse < 0 by omega) with h0 | h0 | h0
  · subst h0
    go_enter Try.func22, Try.ntmps22
    go_wp2
    go_ret
    exact ⟨rfl, H.out.setDown true, (Chg.refl _ _).one _ _⟩
  · have e1 : stS steps fuse = steps + 1 := if_neg (by omega)
    have e2 : stF fuse = fuse - 1 := if_pos h0
    have e3 : stD fuse down = down := if_neg (by omega)
    have e4 : stE fuse = 0 := if_neg (by omega)
    rw [e1, e2, e3, e4]
    clear e1 e2 e3 e4
    go_enter Try.func22, Try.ntmps22
    go_wp2
    go_ret
    exact ⟨rfl, (H.out.setFuse _).setSteps _, ((Chg.refl _ _).one _ _).one _ _⟩
  · have e1 : stS steps fuse = steps + 1 := if_neg (by omega)
    have e2 : stF fuse = fuse := if_neg (by omega)
    have e3 : stD fuse down = down := if_neg (by omega)
    have e4 : stE fuse = 0 := if_neg (by omega)
    rw [e1, e2, e3, e4]
    clear e1 e2 e3 e4
    go_enter Try.func22, Try.ntmps22
    go_wp2
    go_ret
    exact ⟨rfl, H.out.setSteps _, (Chg.refl _ _).one _ _⟩

theorem loose_any (w : World) (g : Nat) (vl : Value) (n c : Nat) (A : Option Addr) (h : w.cell? ⟨g, 1, none⟩ = some (.slice A n c)) : Calls Try.prog 14 #[.pointer (some ⟨g, 0, none⟩)] w fun e w' =>
    e = .returned (.int .i64 n) ∧ w' = w := by
  go_enter Try.func14, Try.ntmps14
  go_wp2
  go_ret
  exact ⟨rfl, rfl⟩
theorem loose_nil (w : World) : Calls Try.prog 14 #[.pointer none] w fun e w' =>
    e = .returned (.int .i64 0) ∧ w' = w := by
  go_enter Try.func14, Try.ntmps14
  go_wp2
  go_ret
  exact ⟨rfl, rfl⟩
theorem steps_any (w : World) (g : Nat) (x : Int) (h : w.cell? ⟨g, 2, none⟩ = some (.int .i64 x)) : Calls Try.prog 19 #[.pointer (some ⟨g, 0, none⟩)] w fun e w' =>
    e = .returned (.int .i64 x) ∧ w' = w := by
  go_enter Try.func19, Try.ntmps19
  go_wp2
  go_ret
  exact ⟨rfl, rfl⟩
theorem steps_nil (w : World) : Calls Try.prog 19 #[.pointer none] w fun e w' =>
    e = .returned (.int .i64 0) ∧ w' = w := by
  go_enter Try.func19, Try.ntmps19
  go_wp2
  go_ret
  exact ⟨rfl, rfl⟩
theorem down_any (w : World) (g : Nat) (x : Bool) (h : w.cell? ⟨g, 4, none⟩ = some (.bool x)) : Calls Try.prog 20 #[.pointer (some ⟨g, 0, none⟩)] w fun e w' =>
    e = .returned (.bool x) ∧ w' = w := by
  go_enter Try.func20, Try.ntmps20
  go_wp2
  go_ret
  exact ⟨rfl, rfl⟩
theorem down_nil (w : World) : Calls Try.prog 20 #[.pointer none] w fun e w' =>
    e = .returned (.bool false) ∧ w' = w := by
  go_enter Try.func20, Try.ntmps20
  go_wp2
  go_ret
  exact ⟨rfl, rfl⟩
theorem new_any (w : World) : Calls Try.prog 7 #[] w fun e w' =>
    e = .returned (.pointer (some ⟨w.heap.size, 0, none⟩)) ∧ SlabAt w' w.heap.size w.heap.size (.slice none 0 0) (.slice none 0 0) [] [] 0 (-1) false ∧ Chg (fun _ => False) w w' := by
  go_enter Try.func7, Try.ntmps7
  go_wp2
  go_ret
  exact ⟨rfl, ⟨heap_alloc_new _ _, World.ownsRow_nil _ _ _ _, World.ownsRow_nil _ _ _ _, fun _ h => (by cases h), Nat.le_refl _⟩, (Chg.refl _ _).alloc _⟩
/-- Fuse. -/
def fuF (down : Bool) (fuse n : Int) : Int := if down then fuse else max n (-1)
def upE (down : Bool) : Int := if down then 5 else 0
theorem fuse_any (w : World) (B g : Nat) (vs vl : Value) (S L : List Int) (steps fuse : Int) (down : Bool) (h : SlabAt w B g vs vl S L steps fuse down) (n : Int) : Calls Try.prog 12 #[.pointer (some ⟨g, 0, none⟩), .int .i64 n] w fun e w' =>
    e = .returned (.int .i64 (upE down)) ∧ SlabAt w' B g vs vl S L steps (fuF down fuse n) down ∧ Chg (Just g) w w' := by
  have H := Lib.hid h
  obtain ⟨_, _, c2, c3, c4, _, _, f2, f3, f4, hg⟩ := h.cells
  have hu := up_any w g down c4
  clear h
  cases down
  · have HU := Lib.hid hu
    clear hu
    rcases (show n < -1 ∨ n = -1 ∨ -1 < n by omega) with hn | rfl | hn
    · have e1 : fuF false fuse n = -1 := by unfold fuF; simp; omega
      rw [e1]
      clear e1
      go_enter Try.func12, Try.ntmps12
      go_wp2_with fail
      refine HU.out.mono ?_
      rintro e w1 ⟨rfl, rfl⟩
      go_wp2
      go_ret
      exact ⟨rfl, H.out.setFuse _, (Chg.refl _ _).one _ _⟩
    · have e1 : fuF false fuse (-1) = -1 := rfl
      rw [e1]
      clear e1
      go_enter Try.func12, Try.ntmps12
      go_wp2_with fail
      refine HU.out.mono ?_
      rintro e w1 ⟨rfl, rfl⟩
      go_wp2
      go_ret
      exact ⟨rfl, H.out.setFuse _, (Chg.refl _ _).one _ _⟩
    · have e1 : fuF false fuse n = n := by unfold fuF; simp; omega
      rw [e1]
      clear e1
      go_enter Try.func12, Try.ntmps12
      go_wp2_with fail
      refine HU.out.mono ?_
      rintro e w1 ⟨rfl, rfl⟩
      go_wp2
      go_ret
      exact ⟨rfl, H.out.setFuse _, (Chg.refl _ _).one _ _⟩
  · have HU := Lib.hid hu
    clear hu
    go_enter Try.func12, Try.ntmps12
    go_wp2_with fail
    refine HU.out.mono ?_
    rintro e w1 ⟨rfl, rfl⟩
    go_wp2
    go_ret
    exact ⟨rfl, H.out, Chg.refl _ _⟩
theorem fuse_nil (w : World) (n : Int) : Calls Try.prog 12 #[.pointer none, .int .i64 n] w fun e w' =>
    e = .returned (.int .i64 2) ∧ w' = w := by
  have HU := Lib.hid (up_nil w)
  go_enter Try.func12, Try.ntmps12
  go_wp2_with fail
  refine HU.out.mono ?_
  rintro e w1 ⟨rfl, rfl⟩
  go_wp2
  go_ret
  exact ⟨rfl, rfl⟩
end Go.Proofs.Ytofhcdjnnbpkbaa
