/- A slab, as it lies in memory. -/
import Derived.Test.YtidcdfilfccigaaChg
import Derived.WalkSpells
import Derived.WalkLawsBesides
import Derived.StillTactics
import Derived.Laws.Pointers
import Derived.RowKit3
import Derived.Lib.Hide
import Derived.Test.YtidcdfilfccigaaChecked
import Derived.Test.YtidcdfilfccigaaMoves
import Derived.Test.YtidcdfilfccigaaChain
import Derived.Laws.OwnMore
import Derived.Lib.SliceRun
namespace Go.Proofs.Ytidcdfilfccigaa
set_option linter.unusedVariables false
set_option linter.unusedSimpArgs false
set_option linter.unnecessarySimpa false
open Go.RowKit

/-- A slab at g: what lasts (S), what may be lost (L), its steps, its fuse, and whether power is gone; vs, vl are its two rows. -/
structure SlabAt (w : World) (B g : Nat) (vs vl : Value) (S L : List Int) (steps fuse : Int) (down : Bool) : Prop where
  blk : w.heap[g]? = some (.cells #[vs, vl, .int .i64 steps, .int .i64 fuse, .bool down] 67 (0, 0))
  sure : w.ownsRow B 5 1 vs S.length (S.map (Value.int .u8))
  loose : w.ownsRow B 5 1 vl L.length (L.map (Value.int .u8))
  apart : ∀ k, vs.ownBlock = some k → vl.ownBlock ≠ some k
  base : B ≤ g

/-- One block. -/
def Just (g k : Nat) : Prop := k = g
theorem Chg.one {w w' : World} {g : Nat} (h : Chg (Just g) w w') (i : Nat) (v : Value) : Chg (Just g) w (w'.setCell ⟨g, i, none⟩ v) := h.setCell (.inl rfl) v

/-- A slab's blocks. -/
def Foot (g : Nat) (vs vl : Value) (k : Nat) : Prop := k = g ∨ vs.ownBlock = some k ∨ vl.ownBlock = some k

theorem SlabAt.of_block {w w' : World} {B g : Nat} {vs vl : Value} {S L : List Int} {steps fuse : Int} {down : Bool} (h : SlabAt w B g vs vl S L steps fuse down) (hb : ∀ k, Foot g vs vl k → w'.heap[k]? = w.heap[k]?) : SlabAt w' B g vs vl S L steps fuse down :=
  ⟨(hb g (.inl rfl)).trans h.blk, ownsRow_of_block h.sure fun j hj => hb j (.inr (.inl hj)), ownsRow_of_block h.loose fun j hj => hb j (.inr (.inr hj)), h.apart, h.base⟩
theorem SlabAt.lt {w : World} {B g : Nat} {vs vl : Value} {S L : List Int} {steps fuse : Int} {down : Bool} (h : SlabAt w B g vs vl S L steps fuse down) {k : Nat} (hk : Foot g vs vl k) : k < w.heap.size ∧ B ≤ k := by
  rcases hk with rfl | hk | hk
  · exact ⟨(Array.getElem?_eq_some_iff.1 h.blk).1, h.base⟩
  · exact ⟨(h.sure.lt k hk).2, (h.sure.lt k hk).1⟩
  · exact ⟨(h.loose.lt k hk).2, (h.loose.lt k hk).1⟩
theorem SlabAt.cells {w : World} {B g : Nat} {vs vl : Value} {S L : List Int} {steps fuse : Int} {down : Bool} (h : SlabAt w B g vs vl S L steps fuse down) :
    w.cell? ⟨g, 0, none⟩ = some vs ∧ w.cell? ⟨g, 1, none⟩ = some vl ∧ w.cell? ⟨g, 2, none⟩ = some (.int .i64 steps) ∧ w.cell? ⟨g, 3, none⟩ = some (.int .i64 fuse) ∧ w.cell? ⟨g, 4, none⟩ = some (.bool down) ∧
      w.frozen? ⟨g, 0, none⟩ = false ∧ w.frozen? ⟨g, 1, none⟩ = false ∧ w.frozen? ⟨g, 2, none⟩ = false ∧ w.frozen? ⟨g, 3, none⟩ = false ∧ w.frozen? ⟨g, 4, none⟩ = false ∧ g < w.heap.size := by
  have hb := h.blk
  refine ⟨?_, ?_, ?_, ?_, ?_, ?_, ?_, ?_, ?_, ?_, (Array.getElem?_eq_some_iff.1 hb).1⟩ <;> simp [World.cell?, World.frozen?, hb]
/-- A row isn't the slab's own block. -/
theorem SlabAt.row_ne {w : World} {B g : Nat} {vs vl : Value} {S L : List Int} {steps fuse : Int} {down : Bool} (h : SlabAt w B g vs vl S L steps fuse down) {k : Nat} (hk : vs.ownBlock = some k ∨ vl.ownBlock = some k) : k ≠ g := by
  rintro rfl
  have hb := h.blk
  have key : ∀ (v : Value) (n : Nat) (xs : List Value), w.ownsRow B 5 1 v n xs → v.ownBlock ≠ some k := by
    intro v n xs hv he
    rcases hv.2 with ⟨rfl, _⟩ | ⟨g', cap, cur, rfl, _, h3, _⟩
    · cases he
    · simp [Value.ownBlock] at he
      subst he
      rw [hb] at h3
      simp at h3
  rcases hk with hk | hk
  · exact key _ _ _ h.sure hk
  · exact key _ _ _ h.loose hk

theorem up_any (w : World) (g : Nat) (down : Bool) (h : w.cell? ⟨g, 4, none⟩ = some (.bool down)) : Calls Try.prog 44 #[.pointer (some ⟨g, 0, none⟩)] w fun e w' =>
    e = .returned (.int .i64 (if down then 5 else 0)) ∧ w' = w := by
  cases down <;> (go_enter Try.func44, Try.ntmps44; go_wp2; go_ret; exact ⟨rfl, rfl⟩)
theorem up_nil (w : World) : Calls Try.prog 44 #[.pointer none] w fun e w' =>
    e = .returned (.int .i64 2) ∧ w' = w := by
  go_enter Try.func44, Try.ntmps44
  go_wp2
  go_ret
  exact ⟨rfl, rfl⟩
open Go.RowKit

theorem heap_set {w : World} {g i : Nat} {a : Array Value} {T : TypeId} {q : Nat × Nat} {v : Value} (h : w.heap[g]? = some (.cells a T q)) : (w.setCell ⟨g, i, none⟩ v).heap[g]? = some (.cells (a.setIfInBounds i v) T q) := by
  simp [World.setCell, Array.getElem?_modify, h]
theorem heap_set_ne {w : World} {g i k : Nat} {v : Value} (h : k ≠ g) : (w.setCell ⟨g, i, none⟩ v).heap[k]? = w.heap[k]? := Below.heap_setCell _ _ _ _ h

section
variable {w : World} {B g : Nat} {vs vl : Value} {S L : List Int} {steps fuse : Int} {down : Bool}
theorem SlabAt.rows_set (h : SlabAt w B g vs vl S L steps fuse down) (i : Nat) (v : Value) :
    (w.setCell ⟨g, i, none⟩ v).ownsRow B 5 1 vs S.length (S.map (Value.int .u8)) ∧ (w.setCell ⟨g, i, none⟩ v).ownsRow B 5 1 vl L.length (L.map (Value.int .u8)) :=
  ⟨ownsRow_of_block h.sure fun _ hj => heap_set_ne (h.row_ne (.inl hj)), ownsRow_of_block h.loose fun _ hj => heap_set_ne (h.row_ne (.inr hj))⟩
theorem SlabAt.setSteps (h : SlabAt w B g vs vl S L steps fuse down) (x : Int) : SlabAt (w.setCell ⟨g, 2, none⟩ (.int .i64 x)) B g vs vl S L x fuse down :=
  ⟨heap_set h.blk, (h.rows_set _ _).1, (h.rows_set _ _).2, h.apart, h.base⟩
theorem SlabAt.setFuse (h : SlabAt w B g vs vl S L steps fuse down) (x : Int) : SlabAt (w.setCell ⟨g, 3, none⟩ (.int .i64 x)) B g vs vl S L steps x down :=
  ⟨heap_set h.blk, (h.rows_set _ _).1, (h.rows_set _ _).2, h.apart, h.base⟩
theorem SlabAt.setDown (h : SlabAt w B g vs vl S L steps fuse down) (x : Bool) : SlabAt (w.setCell ⟨g, 4, none⟩ (.bool x)) B g vs vl S L steps fuse x :=
  ⟨heap_set h.blk, (h.rows_set _ _).1, (h.rows_set _ _).2, h.apart, h.base⟩
theorem SlabAt.setLooseNil (h : SlabAt w B g vs vl S L steps fuse down) : SlabAt (w.setCell ⟨g, 1, none⟩ (.slice none 0 0)) B g vs (.slice none 0 0) S [] steps fuse down :=
  ⟨heap_set h.blk, (h.rows_set _ _).1, World.ownsRow_nil _ _ _ _, fun _ _ h => (by cases h), h.base⟩
theorem SlabAt.setSureNil (h : SlabAt w B g vs vl S L steps fuse down) : SlabAt (w.setCell ⟨g, 0, none⟩ (.slice none 0 0)) B g (.slice none 0 0) vl [] L steps fuse down :=
  ⟨heap_set h.blk, World.ownsRow_nil _ _ _ _, (h.rows_set _ _).2, fun _ h => (by cases h), h.base⟩
end

/-- What a step leaves of the counters: steps, fuse, is the power gone. -/
def stS (steps fuse : Int) : Int := if fuse = 0 then steps else steps + 1
def stF (fuse : Int) : Int := if 0 < fuse then fuse - 1 else fuse
def stD (fuse : Int) (down : Bool) : Bool := if fuse = 0 then true else down
/-- What a step answers. -/
def stE (fuse : Int) : Int := if fuse = 0 then 5 else 0

theorem step_any (w : World) (B g : Nat) (vs vl : Value) (S L : List Int) (steps fuse : Int) (down : Bool) (h : SlabAt w B g vs vl S L steps fuse down) (hs : 0 ≤ steps) (hs' : steps ≤ 4611686018427387904)
    (hf : -9223372036854775808 ≤ fuse) (hf' : fuse ≤ 9223372036854775807) : Calls Try.prog 64 #[.pointer (some ⟨g, 0, none⟩)] w fun e w' =>
    e = .returned (.int .i64 (stE fuse)) ∧ SlabAt w' B g vs vl S L (stS steps fuse) (stF fuse) (stD fuse down) ∧ Chg (Just g) w w' := by
  have H := Lib.hid h
  obtain ⟨_, _, c2, c3, c4, _, _, f2, f3, f4, hg⟩ := h.cells
  clear h
  rcases (show fuse = 0 ∨ 0 < fuse ∨ fuse < 0 by omega) with h0 | h0 | h0
  · subst h0
    go_enter Try.func64, Try.ntmps64
    go_wp2
    go_ret
    exact ⟨rfl, H.out.setDown true, (Chg.refl _ _).one _ _⟩
  · have e1 : stS steps fuse = steps + 1 := if_neg (by omega)
    have e2 : stF fuse = fuse - 1 := if_pos h0
    have e3 : stD fuse down = down := if_neg (by omega)
    have e4 : stE fuse = 0 := if_neg (by omega)
    rw [e1, e2, e3, e4]
    clear e1 e2 e3 e4
    go_enter Try.func64, Try.ntmps64
    go_wp2
    go_ret
    exact ⟨rfl, (H.out.setFuse _).setSteps _, ((Chg.refl _ _).one _ _).one _ _⟩
  · have e1 : stS steps fuse = steps + 1 := if_neg (by omega)
    have e2 : stF fuse = fuse := if_neg (by omega)
    have e3 : stD fuse down = down := if_neg (by omega)
    have e4 : stE fuse = 0 := if_neg (by omega)
    rw [e1, e2, e3, e4]
    clear e1 e2 e3 e4
    go_enter Try.func64, Try.ntmps64
    go_wp2
    go_ret
    exact ⟨rfl, H.out.setSteps _, (Chg.refl _ _).one _ _⟩

theorem loose_any (w : World) (g : Nat) (vl : Value) (n c : Nat) (A : Option Addr) (h : w.cell? ⟨g, 1, none⟩ = some (.slice A n c)) : Calls Try.prog 58 #[.pointer (some ⟨g, 0, none⟩)] w fun e w' =>
    e = .returned (.int .i64 n) ∧ w' = w := by
  go_enter Try.func58, Try.ntmps58
  go_wp2
  go_ret
  exact ⟨rfl, rfl⟩
theorem steps_any (w : World) (g : Nat) (x : Int) (h : w.cell? ⟨g, 2, none⟩ = some (.int .i64 x)) : Calls Try.prog 59 #[.pointer (some ⟨g, 0, none⟩)] w fun e w' =>
    e = .returned (.int .i64 x) ∧ w' = w := by
  go_enter Try.func59, Try.ntmps59
  go_wp2
  go_ret
  exact ⟨rfl, rfl⟩
theorem down_any (w : World) (g : Nat) (x : Bool) (h : w.cell? ⟨g, 4, none⟩ = some (.bool x)) : Calls Try.prog 60 #[.pointer (some ⟨g, 0, none⟩)] w fun e w' =>
    e = .returned (.bool x) ∧ w' = w := by
  go_enter Try.func60, Try.ntmps60
  go_wp2
  go_ret
  exact ⟨rfl, rfl⟩
theorem new_any (w : World) : Calls Try.prog 7 #[] w fun e w' =>
    e = .returned (.pointer (some ⟨w.heap.size, 0, none⟩)) ∧ SlabAt w' w.heap.size w.heap.size (.slice none 0 0) (.slice none 0 0) [] [] 0 (-1) false ∧ Chg (fun _ => False) w w' := by
  go_enter Try.func7, Try.ntmps7
  go_wp2
  go_ret
  exact ⟨rfl, ⟨heap_alloc_new _ _, World.ownsRow_nil _ _ _ _, World.ownsRow_nil _ _ _ _, fun _ h => (by cases h), Nat.le_refl _⟩, (Chg.refl _ _).alloc _⟩
/-- Fuse. -/
def fuF (down : Bool) (fuse n : Int) : Int := if down then fuse else max n (-1)
def upE (down : Bool) : Int := if down then 5 else 0
theorem fuse_any (w : World) (B g : Nat) (vs vl : Value) (S L : List Int) (steps fuse : Int) (down : Bool) (h : SlabAt w B g vs vl S L steps fuse down) (n : Int) : Calls Try.prog 20 #[.pointer (some ⟨g, 0, none⟩), .int .i64 n] w fun e w' =>
    e = .returned (.int .i64 (upE down)) ∧ SlabAt w' B g vs vl S L steps (fuF down fuse n) down ∧ Chg (Just g) w w' := by
  have H := Lib.hid h
  obtain ⟨_, _, c2, c3, c4, _, _, f2, f3, f4, hg⟩ := h.cells
  have hu := up_any w g down c4
  clear h
  cases down
  · have HU := Lib.hid hu
    clear hu
    rcases (show n < -1 ∨ n = -1 ∨ -1 < n by omega) with hn | rfl | hn
    · have e1 : fuF false fuse n = -1 := by unfold fuF; simp; omega
      rw [e1]
      clear e1
      go_enter Try.func20, Try.ntmps20
      go_wp2_with fail
      refine HU.out.mono ?_
      rintro e w1 ⟨rfl, rfl⟩
      go_wp2
      go_ret
      exact ⟨rfl, H.out.setFuse _, (Chg.refl _ _).one _ _⟩
    · have e1 : fuF false fuse (-1) = -1 := rfl
      rw [e1]
      clear e1
      go_enter Try.func20, Try.ntmps20
      go_wp2_with fail
      refine HU.out.mono ?_
      rintro e w1 ⟨rfl, rfl⟩
      go_wp2
      go_ret
      exact ⟨rfl, H.out.setFuse _, (Chg.refl _ _).one _ _⟩
    · have e1 : fuF false fuse n = n := by unfold fuF; simp; omega
      rw [e1]
      clear e1
      go_enter Try.func20, Try.ntmps20
      go_wp2_with fail
      refine HU.out.mono ?_
      rintro e w1 ⟨rfl, rfl⟩
      go_wp2
      go_ret
      exact ⟨rfl, H.out.setFuse _, (Chg.refl _ _).one _ _⟩
  · have HU := Lib.hid hu
    clear hu
    go_enter Try.func20, Try.ntmps20
    go_wp2_with fail
    refine HU.out.mono ?_
    rintro e w1 ⟨rfl, rfl⟩
    go_wp2
    go_ret
    exact ⟨rfl, H.out, Chg.refl _ _⟩
open Go.RowKit

theorem cell_lt {w : World} {a : Addr} {v : Value} (h : w.cell? a = some v) : a.block < w.heap.size := by
  by_cases hb : a.block < w.heap.size
  · exact hb
  · simp [World.cell?, Array.getElem?_eq_none (Nat.le_of_not_lt hb)] at h
/-- A row's value is a slice of that length. -/
theorem row_val {w : World} {B : Nat} {e : TypeId} {k : Nat} {v : Value} {n : Nat} {xs : List Value} (h : w.ownsRow B e k v n xs) : ∃ A c, v = .slice A n c ∧ (A = none → n = 0 ∧ c = 0) ∧ (∀ ad, A = some ad → v.ownBlock = some ad.block) := by
  rcases h.2 with ⟨h1, h2⟩ | ⟨g, cap, cur, h1, _⟩
  · subst h2; exact ⟨none, 0, h1, (fun _ => ⟨rfl, rfl⟩), (fun _ h => by cases h)⟩
  · exact ⟨some ⟨g, 0, none⟩, cap, h1, (fun h => by cases h), (fun ad h => by cases h; rw [h1]; rfl)⟩
theorem row_src {w : World} {B : Nat} {e : TypeId} {k : Nat} {A : Option Addr} {n c : Nat} {xs : List Value} (h : w.ownsRow B e k (.slice A n c) n xs) : SrcOf w A xs := by
  rintro ad rfl j u hj
  rcases h.2 with ⟨h1, _⟩ | ⟨g, cap, cur, h1, _⟩
  · cases h1
  · injection h1 with h1
    injection h1 with h1
    subst h1
    exact h.cells (g := g) rfl j u hj

section
variable {w : World} {B g : Nat} {vs vl : Value} {S L : List Int} {steps fuse : Int} {down : Bool}
theorem SlabAt.drew (h : SlabAt w B g vs vl S L steps fuse down) : SlabAt w.drew B g vs vl S L steps fuse down := h.of_block fun _ _ => rfl
theorem SlabAt.grow_loose {w2 : World} {v' : Value} {L' : List Int} (h : SlabAt w B g vs vl S L steps fuse down) (hown : w2.ownsRow B 5 1 v' L'.length (L'.map (Value.int .u8))) (hg : w.grownBy w2 vl.ownBlock)
    (hat : v'.ownBlock = vl.ownBlock ∨ ∃ q, v'.ownBlock = some q ∧ w.heap.size ≤ q) : SlabAt (w2.setCell ⟨g, 1, none⟩ v') B g vs v' S L' steps fuse down ∧ Moves (Foot g vs vl) (Foot g vs v') w (w2.setCell ⟨g, 1, none⟩ v') := by
  have hglt := (h.lt (.inl rfl)).1
  have hne : ∀ k, v'.ownBlock = some k → k ≠ g := by
    intro k hk
    rcases hat with e | ⟨q, e, hq⟩
    · exact h.row_ne (.inr (by rw [← e]; exact hk))
    · rw [e] at hk; injection hk with hk; omega
  refine ⟨⟨?_, ?_, ?_, ?_, h.base⟩, ?_, ?_⟩
  · exact heap_set (a := #[vs, vl, .int .i64 steps, .int .i64 fuse, .bool down]) (by rw [hg.block g hglt (fun e => h.row_ne (.inr e.symm) rfl)]; exact h.blk)
  · refine ownsRow_of_block h.sure fun j hj => ?_
    rw [heap_set_ne (h.row_ne (.inl hj))]
    exact hg.block j (h.lt (.inr (.inl hj))).1 fun e => h.apart j hj e.symm
  · exact ownsRow_of_block hown fun j hj => heap_set_ne (hne j hj)
  · intro k hk e
    rcases hat with e' | ⟨q, e', hq⟩
    · exact h.apart k hk (by rw [← e']; exact e)
    · rw [e'] at e; injection e with e; have := (h.lt (.inr (.inl hk))).1; omega
  · exact ((Chg.refl _ _).grown hg fun k hk => .inl (.inr (.inr hk))).setCell (.inl (.inl rfl)) _
  · rintro k (rfl | hk | hk)
    · exact .inl (.inl rfl)
    · exact .inl (.inr (.inl hk))
    · rcases hat with e | ⟨q, e, hq⟩
      · exact .inl (.inr (.inr (by rw [← e]; exact hk)))
      · rw [e] at hk; injection hk with hk; exact .inr (by omega)
theorem SlabAt.grow_sure {w2 : World} {v' : Value} {S' : List Int} (h : SlabAt w B g vs vl S L steps fuse down) (hown : w2.ownsRow B 5 1 v' S'.length (S'.map (Value.int .u8))) (hg : w.grownBy w2 vs.ownBlock)
    (hat : v'.ownBlock = vs.ownBlock ∨ ∃ q, v'.ownBlock = some q ∧ w.heap.size ≤ q) : SlabAt (w2.setCell ⟨g, 0, none⟩ v') B g v' vl S' L steps fuse down ∧ Moves (Foot g vs vl) (Foot g v' vl) w (w2.setCell ⟨g, 0, none⟩ v') := by
  have hglt := (h.lt (.inl rfl)).1
  have hne : ∀ k, v'.ownBlock = some k → k ≠ g := by
    intro k hk
    rcases hat with e | ⟨q, e, hq⟩
    · exact h.row_ne (.inl (by rw [← e]; exact hk))
    · rw [e] at hk; injection hk with hk; omega
  refine ⟨⟨?_, ?_, ?_, ?_, h.base⟩, ?_, ?_⟩
  · exact heap_set (a := #[vs, vl, .int .i64 steps, .int .i64 fuse, .bool down]) (by rw [hg.block g hglt (fun e => h.row_ne (.inl e.symm) rfl)]; exact h.blk)
  · exact ownsRow_of_block hown fun j hj => heap_set_ne (hne j hj)
  · refine ownsRow_of_block h.loose fun j hj => ?_
    rw [heap_set_ne (h.row_ne (.inr hj))]
    exact hg.block j (h.lt (.inr (.inr hj))).1 fun e => h.apart j e.symm hj
  · intro k hk e
    rcases hat with e' | ⟨q, e', hq⟩
    · exact h.apart k (by rw [← e']; exact hk) e
    · rw [e'] at hk; injection hk with hk; have := (h.lt (.inr (.inr e))).1; omega
  · exact ((Chg.refl _ _).grown hg fun k hk => .inl (.inr (.inl hk))).setCell (.inl (.inl rfl)) _
  · rintro k (rfl | hk | hk)
    · exact .inl (.inl rfl)
    · rcases hat with e | ⟨q, e, hq⟩
      · exact .inl (.inr (.inl (by rw [← e]; exact hk)))
      · rw [e] at hk; injection hk with hk; exact .inr (by omega)
    · exact .inl (.inr (.inr hk))
end

/-- A slab's state: as the document has it. -/
structure St where
  S : List Int
  L : List Int
  steps : Int
  fuse : Int
  down : Bool
structure St.Ok (st : St) : Prop where
  s0 : 0 ≤ st.steps
  s1 : st.steps ≤ 4611686018427387904
  f0 : -9223372036854775808 ≤ st.fuse
  f1 : st.fuse ≤ 9223372036854775807
  sz : st.S.length + st.L.length ≤ 262144
/-- A slab whose blocks are F. -/
def SlabF (w : World) (B g : Nat) (F : Nat → Prop) (st : St) : Prop := ∃ vs vl, F = Foot g vs vl ∧ SlabAt w B g vs vl st.S st.L st.steps st.fuse st.down

def appE (st : St) (n : Nat) : Int := if st.down then 5 else if 262144 < st.S.length + st.L.length + n then 4 else stE st.fuse
def appS (st : St) (P : List Int) : St := if st.down then st else if 262144 < st.S.length + st.L.length + P.length then st else
  ⟨st.S, if st.fuse = 0 then st.L else st.L ++ P, stS st.steps st.fuse, stF st.fuse, stD st.fuse st.down⟩

theorem info_u8 : (Try.prog.info? 5).map (fun i => (i.zero, i.size, i.bytes)) = some (some (.int .u8 0), 1, 1) := by kernel_rfl
open Go.RowKit

set_option maxRecDepth 100000 in
set_option maxHeartbeats 1000000 in
theorem append_any (w : World) (B g : Nat) (F : Nat → Prop) (st : St) (h : SlabF w B g F st) (ok : st.Ok) (P : List Int) (A : Option Addr) (c : Nat) (hA : A = none → P.length = 0 ∧ c = 0)
    (hsrc : SrcOf w A (P.map (Value.int .u8))) (hAg : ∀ ad, A = some ad → P ≠ [] → ad.block ≠ g) (hP : P.length ≤ 140737488355328) (hB : B ≤ w.heap.size) :
    Calls Try.prog 43 #[.pointer (some ⟨g, 0, none⟩), .slice A P.length c] w fun e w' => e = .returned (.int .i64 (appE st P.length)) ∧ ∃ F', SlabF w' B g F' (appS st P) ∧ Moves F F' w w' := by
  obtain ⟨S, L, steps, fuse, down⟩ := st
  obtain ⟨vs, vl, rfl, hs⟩ := h
  obtain ⟨o1, o2, o3, o4, o5⟩ := ok
  dsimp only at *
  obtain ⟨As, cs, rfl, -, -⟩ := row_val hs.sure
  obtain ⟨Al, cl, rfl, -, -⟩ := row_val hs.loose
  obtain ⟨c0, c1, c2, c3, c4, f0, f1, f2, f3, f4, hg⟩ := hs.cells
  have HS := Lib.hid hs
  have HU := Lib.hid (up_any w g down c4)
  have HT := Lib.hid (step_any w.drew B g _ _ S L steps fuse down hs.drew o1 o2 o3 o4)
  have HA := Lib.hid hA
  have HR := Lib.hid hsrc
  have HG := Lib.hid hAg
  clear hs hA hsrc hAg
  cases down with
  | true =>
    go_enter Try.func43, Try.ntmps43
    go_wp2_with fail
    refine HU.out.mono ?_
    rintro e w1 ⟨rfl, rfl⟩
    go_wp2
    go_ret
    exact ⟨rfl, _, ⟨_, _, rfl, HS.out⟩, Moves.refl _ _⟩
  | false =>
    rcases (show 262144 < S.length + L.length + P.length ∨ ¬ 262144 < S.length + L.length + P.length by omega) with hsz | hsz
    · have e1 : appE ⟨S, L, steps, fuse, false⟩ P.length = 4 := by unfold appE; simp [hsz]
      have e2 : appS ⟨S, L, steps, fuse, false⟩ P = ⟨S, L, steps, fuse, false⟩ := by unfold appS; simp [hsz]
      rw [e1, e2]
      clear e1 e2
      go_enter Try.func43, Try.ntmps43
      go_wp2_with fail
      refine HU.out.mono ?_
      rintro e w1 ⟨rfl, rfl⟩
      go_wp2_with fail
      refine region_flow (S := fun w' => w' = w1.drew) (vs := [?va0, ?va1, ?va2, ?va3, ?va4, ?va5, ?va6, ?va7, ?va8, ?va9, ?va10, ?va11, ?va12, ?va13, ?va14]) (by kernel_rfl) (by kernel_rfl) (by kernel_rfl) (by kernel_rfl) (by kernel_rfl) rfl ?hSa ?hopsa ?henda
      case hSa => exact rfl
      case hopsa =>
        simp only [OpsOk, fillT, List.setIfInBounds_toArray, List.set_cons_zero, List.set_cons_succ]
        refine ⟨.inl ⟨by rfl, opOk_pure fun wS hS => ?_⟩, ?_⟩
        · ((subst hS; go_simp; try simp (disch := omega) only [wrap64_id])); try (with_reducible rfl)
        refine ⟨.inl ⟨by rfl, opOk_pure fun wS hS => ?_⟩, ?_⟩
        · ((subst hS; go_simp; try simp (disch := omega) only [wrap64_id])); try (with_reducible rfl)
        refine ⟨.inl ⟨by rfl, opOk_pure fun wS hS => ?_⟩, ?_⟩
        · ((subst hS; go_simp; try simp (disch := omega) only [wrap64_id])); try (with_reducible rfl)
        refine ⟨.inl ⟨by rfl, opOk_pure fun wS hS => ?_⟩, ?_⟩
        · ((subst hS; go_simp; try simp (disch := omega) only [wrap64_id])); try (with_reducible rfl)
        refine ⟨.inl ⟨by rfl, opOk_pure fun wS hS => ?_⟩, ?_⟩
        · ((subst hS; go_simp; try simp (disch := omega) only [wrap64_id])); try (with_reducible rfl)
        refine ⟨.inl ⟨by rfl, opOk_pure fun wS hS => ?_⟩, ?_⟩
        · ((subst hS; go_simp; try simp (disch := omega) only [wrap64_id])); try (with_reducible rfl)
        refine ⟨.inl ⟨by rfl, opOk_pure fun wS hS => ?_⟩, ?_⟩
        · ((subst hS; go_simp; try simp (disch := omega) only [wrap64_id])); try (with_reducible rfl)
        refine ⟨.inl ⟨by rfl, opOk_pure fun wS hS => ?_⟩, ?_⟩
        · ((subst hS; go_simp; try simp (disch := omega) only [wrap64_id])); try (with_reducible rfl)
        refine ⟨.inl ⟨by rfl, opOk_pure fun wS hS => ?_⟩, ?_⟩
        · ((subst hS; go_simp; try simp (disch := omega) only [wrap64_id])); try (with_reducible rfl)
        refine ⟨.inl ⟨by rfl, opOk_pure fun wS hS => ?_⟩, ?_⟩
        · ((subst hS; go_simp; try simp (disch := omega) only [wrap64_id])); try (with_reducible rfl)
        refine ⟨.inl ⟨by rfl, opOk_pure fun wS hS => ?_⟩, ?_⟩
        · ((subst hS; go_simp; try simp (disch := omega) only [wrap64_id])); try (with_reducible rfl)
        refine ⟨.inl ⟨by rfl, opOk_pure fun wS hS => ?_⟩, ?_⟩
        · ((subst hS; go_simp; try simp (disch := omega) only [wrap64_id])); try (with_reducible rfl)
        refine ⟨.inl ⟨by rfl, opOk_pure fun wS hS => ?_⟩, ?_⟩
        · ((subst hS; go_simp; try simp (disch := omega) only [wrap64_id])); try (with_reducible rfl)
        refine ⟨.inl ⟨by rfl, opOk_pure fun wS hS => ?_⟩, ?_⟩
        · ((subst hS; go_simp; try simp (disch := omega) only [wrap64_id])); try (with_reducible rfl)
        refine ⟨.inl ⟨by rfl, opOk_pure fun wS hS => ?_⟩, ?_⟩
        · ((subst hS; go_simp; try simp (disch := omega) only [wrap64_id])); try (with_reducible rfl)
        trivial
      case henda =>
        intro wE hE
        simp only [OpsOk, fillT, List.setIfInBounds_toArray, List.set_cons_zero, List.set_cons_succ]
        subst hE
        go_wp2
        go_ret
        exact ⟨rfl, _, ⟨_, _, rfl, HS.out.drew⟩, ⟨(Chg.refl _ _).drew, fun _ h => .inl h⟩⟩
    · have e1 : appE ⟨S, L, steps, fuse, false⟩ P.length = stE fuse := by unfold appE; simp [hsz]
      have e2 : appS ⟨S, L, steps, fuse, false⟩ P = ⟨S, if fuse = 0 then L else L ++ P, stS steps fuse, stF fuse, stD fuse false⟩ := by unfold appS; simp [hsz]
      rw [e1, e2]
      clear e1 e2
      go_enter Try.func43, Try.ntmps43
      go_wp2_with fail
      refine HU.out.mono ?_
      rintro e w1 ⟨rfl, rfl⟩
      go_wp2_with fail
      refine region_flow (S := fun w' => w' = w1.drew) (vs := [?vb0, ?vb1, ?vb2, ?vb3, ?vb4, ?vb5, ?vb6, ?vb7, ?vb8, ?vb9, ?vb10, ?vb11, ?vb12, ?vb13, ?vb14]) (by kernel_rfl) (by kernel_rfl) (by kernel_rfl) (by kernel_rfl) (by kernel_rfl) rfl ?hSb ?hopsb ?hendb
      case hSb => exact rfl
      case hopsb =>
        simp only [OpsOk, fillT, List.setIfInBounds_toArray, List.set_cons_zero, List.set_cons_succ]
        refine ⟨.inl ⟨by rfl, opOk_pure fun wS hS => ?_⟩, ?_⟩
        · ((subst hS; go_simp; try simp (disch := omega) only [wrap64_id])); try (with_reducible rfl)
        refine ⟨.inl ⟨by rfl, opOk_pure fun wS hS => ?_⟩, ?_⟩
        · ((subst hS; go_simp; try simp (disch := omega) only [wrap64_id])); try (with_reducible rfl)
        refine ⟨.inl ⟨by rfl, opOk_pure fun wS hS => ?_⟩, ?_⟩
        · ((subst hS; go_simp; try simp (disch := omega) only [wrap64_id])); try (with_reducible rfl)
        refine ⟨.inl ⟨by rfl, opOk_pure fun wS hS => ?_⟩, ?_⟩
        · ((subst hS; go_simp; try simp (disch := omega) only [wrap64_id])); try (with_reducible rfl)
        refine ⟨.inl ⟨by rfl, opOk_pure fun wS hS => ?_⟩, ?_⟩
        · ((subst hS; go_simp; try simp (disch := omega) only [wrap64_id])); try (with_reducible rfl)
        refine ⟨.inl ⟨by rfl, opOk_pure fun wS hS => ?_⟩, ?_⟩
        · ((subst hS; go_simp; try simp (disch := omega) only [wrap64_id])); try (with_reducible rfl)
        refine ⟨.inl ⟨by rfl, opOk_pure fun wS hS => ?_⟩, ?_⟩
        · ((subst hS; go_simp; try simp (disch := omega) only [wrap64_id])); try (with_reducible rfl)
        refine ⟨.inl ⟨by rfl, opOk_pure fun wS hS => ?_⟩, ?_⟩
        · ((subst hS; go_simp; try simp (disch := omega) only [wrap64_id])); try (with_reducible rfl)
        refine ⟨.inl ⟨by rfl, opOk_pure fun wS hS => ?_⟩, ?_⟩
        · ((subst hS; go_simp; try simp (disch := omega) only [wrap64_id])); try (with_reducible rfl)
        refine ⟨.inl ⟨by rfl, opOk_pure fun wS hS => ?_⟩, ?_⟩
        · ((subst hS; go_simp; try simp (disch := omega) only [wrap64_id])); try (with_reducible rfl)
        refine ⟨.inl ⟨by rfl, opOk_pure fun wS hS => ?_⟩, ?_⟩
        · ((subst hS; go_simp; try simp (disch := omega) only [wrap64_id])); try (with_reducible rfl)
        refine ⟨.inl ⟨by rfl, opOk_pure fun wS hS => ?_⟩, ?_⟩
        · ((subst hS; go_simp; try simp (disch := omega) only [wrap64_id])); try (with_reducible rfl)
        refine ⟨.inl ⟨by rfl, opOk_pure fun wS hS => ?_⟩, ?_⟩
        · ((subst hS; go_simp; try simp (disch := omega) only [wrap64_id])); try (with_reducible rfl)
        refine ⟨.inl ⟨by rfl, opOk_pure fun wS hS => ?_⟩, ?_⟩
        · ((subst hS; go_simp; try simp (disch := omega) only [wrap64_id])); try (with_reducible rfl)
        refine ⟨.inl ⟨by rfl, opOk_pure fun wS hS => ?_⟩, ?_⟩
        · ((subst hS; go_simp; try simp (disch := omega) only [wrap64_id])); try (with_reducible rfl)
        trivial
      case hendb =>
        intro wE hE
        simp only [OpsOk, fillT, List.setIfInBounds_toArray, List.set_cons_zero, List.set_cons_succ]
        subst hE
        go_wp2_with fail
        refine HT.out.mono ?_
        rintro e w2 ⟨rfl, hT, hC⟩
        have HT2 := Lib.hid hT
        have HC := Lib.hid hC
        obtain ⟨d0, d1, d2, d3, d4, g0, g1, g2, g3, g4, hg'⟩ := hT.cells
        have hM : Moves (Foot g (.slice As S.length cs) (.slice Al L.length cl)) (Foot g (.slice As S.length cs) (.slice Al L.length cl)) w1 w2 :=
          ⟨((Chg.refl (Just g) w1).drew.trans hC fun _ _ h => h).mono fun k _ hk => .inl hk, fun _ h => .inl h⟩
        have HM := Lib.hid hM
        clear hT hC hM HT HU c0 c1 c2 c3 c4 f0 f1 f2 f3 f4
        rcases (show fuse = 0 ∨ fuse ≠ 0 by omega) with h0 | h0
        · subst h0
          go_wp2
          go_ret
          exact ⟨rfl, _, ⟨_, _, rfl, HT2.out⟩, HM.out⟩
        · have e3 : stE fuse = 0 := if_neg h0
          have e4 : (if fuse = 0 then L else L ++ P) = L ++ P := if_neg h0
          rw [e3]
          have E3 := Lib.hid e3
          have E4 := Lib.hid e4
          clear e3 e4
          have hsr : SrcOf w2 A (P.map (Value.int .u8)) := by
            intro ad had j u hj
            have h1 := HR.out ad had j u hj
            have hlt := cell_lt h1
            have hb : (ad.add j).block = ad.block := by unfold Addr.add; split <;> rfl
            rw [← h1]
            refine World.cell?_of_block ?_
            rw [hb] at hlt ⊢
            exact HC.out.block _ hlt (HG.out ad had (by rintro rfl; simp at hj))
          have HS2 := Lib.hid hsr
          clear hsr
          go_wp2_with (first
            | (at_builtin; refine wpList_append_row rfl _ _ 36 rfl B 5 (.int .u8 0) 1 1 Try.underlying36 info_u8 rfl (by decide) (.slice Al L.length cl) L.length (L.map (Value.int .u8)) ?a0 HT2.out.loose A P.length c (P.map (Value.int .u8)) ?a1 HA.out ?a2 HS2.out ?a3 ?a4 ?a5 ?a6 ?a7)
            | fail)
          case a0 => go_simp
          case a1 => go_simp
          case a2 => simp
          case a3 => intro u hu; simp at hu; obtain ⟨x, _, rfl⟩ := hu; rfl
          case a4 => unfold maxLen; omega
          case a5 => omega
          case a6 => exact Nat.le_trans hB HM.out.chg.size
          case a7 =>
            intro v' w3 hown hgr hat
            rw [← List.map_append] at hown
            have hlen : L.length + P.length = (L ++ P).length := by simp
            rw [hlen] at hown
            obtain ⟨A', c', rfl, -, -⟩ := row_val hown
            obtain ⟨hN, hMo⟩ := HT2.out.grow_loose hown hgr (hat.imp id fun e => ⟨_, e, Nat.le_refl _⟩)
            have hcg : w3.cell? ⟨g, 1, none⟩ = some (.slice Al L.length cl) := (World.cell?_of_block (a := ⟨g, 1, none⟩) (hgr.block g hg' (fun e => HT2.out.row_ne (.inr e.symm) rfl))).trans d1
            have hfz : w3.frozen? ⟨g, 1, none⟩ = false := by
              have : w3.heap[g]? = w2.heap[g]? := hgr.block g hg' (fun e => HT2.out.row_ne (.inr e.symm) rfl)
              unfold World.frozen? at g1 ⊢
              simp only [this]; exact g1
            rw [List.length_append] at hN hMo
            have HN := Lib.hid hN
            have HMo := Lib.hid (HM.out.trans hMo)
            clear hN hMo hown hgr hat hlen
            go_wp2
            go_ret
            rw [E3.out]
            try rw [E4.out]
            exact ⟨rfl, _, ⟨_, _, rfl, HN.out⟩, HMo.out⟩
open Go.RowKit

def syE (st : St) : Int := if st.down then 5 else stE st.fuse
def syS (st : St) : St := if st.down then st else ⟨if st.fuse = 0 then st.S else st.S ++ st.L, if st.fuse = 0 then st.L else [], stS st.steps st.fuse, stF st.fuse, stD st.fuse st.down⟩

set_option maxRecDepth 100000 in
set_option maxHeartbeats 1000000 in
theorem sync_any (w : World) (B g : Nat) (F : Nat → Prop) (st : St) (h : SlabF w B g F st) (ok : st.Ok) (hB : B ≤ w.heap.size) :
    Calls Try.prog 37 #[.pointer (some ⟨g, 0, none⟩)] w fun e w' => e = .returned (.int .i64 (syE st)) ∧ ∃ F', SlabF w' B g F' (syS st) ∧ Moves F F' w w' := by
  obtain ⟨S, L, steps, fuse, down⟩ := st
  obtain ⟨vs, vl, rfl, hs⟩ := h
  obtain ⟨o1, o2, o3, o4, o5⟩ := ok
  dsimp only at *
  obtain ⟨As, cs, rfl, -, -⟩ := row_val hs.sure
  obtain ⟨Al, cl, rfl, hAl, -⟩ := row_val hs.loose
  have HAl := Lib.hid hAl
  obtain ⟨c0, c1, c2, c3, c4, f0, f1, f2, f3, f4, hg⟩ := hs.cells
  have HS := Lib.hid hs
  have HU := Lib.hid (up_any w g down c4)
  have HT := Lib.hid (step_any w B g _ _ S L steps fuse down hs o1 o2 o3 o4)
  clear hs hAl
  cases down with
  | true =>
    go_enter Try.func37, Try.ntmps37
    go_wp2_with fail
    refine HU.out.mono ?_
    rintro e w1 ⟨rfl, rfl⟩
    go_wp2
    go_ret
    exact ⟨rfl, _, ⟨_, _, rfl, HS.out⟩, Moves.refl _ _⟩
  | false =>
    go_enter Try.func37, Try.ntmps37
    go_wp2_with fail
    refine HU.out.mono ?_
    rintro e w1 ⟨rfl, rfl⟩
    go_wp2_with fail
    refine HT.out.mono ?_
    rintro e w2 ⟨rfl, hT, hC⟩
    obtain ⟨d0, d1, d2, d3, d4, g0, g1, g2, g3, g4, hg'⟩ := hT.cells
    have HT2 := Lib.hid hT.drew
    have hM : Moves (Foot g (.slice As S.length cs) (.slice Al L.length cl)) (Foot g (.slice As S.length cs) (.slice Al L.length cl)) w1 w2 := ⟨hC.mono fun k _ hk => .inl hk, fun _ h => .inl h⟩
    have HM := Lib.hid hM
    have HT1 := Lib.hid hT
    clear hT hC hM HT HU c0 c1 c2 c3 c4 f0 f1 f2 f3 f4
    rcases (show fuse = 0 ∨ fuse ≠ 0 by omega) with h0 | h0
    · subst h0
      go_wp2
      go_ret
      exact ⟨rfl, _, ⟨_, _, rfl, HT1.out⟩, HM.out⟩
    · have e3 : stE fuse = 0 := if_neg h0
      have e4 : syS ⟨S, L, steps, fuse, false⟩ = ⟨S ++ L, [], stS steps fuse, stF fuse, stD fuse false⟩ := by unfold syS; simp [h0]
      have e5 : syE ⟨S, L, steps, fuse, false⟩ = 0 := by unfold syE; simp [e3]
      rw [e3]
      have E4 := Lib.hid e4
      have E5 := Lib.hid e5
      clear e3 e4 e5
      go_wp2_with fail
      refine region_chain (E := [10, 13, 16]) (kn := [true, true, true, true, true, true, true, true, true, true, false, false, false, false, false, false, false]) (mask := [true, true, true, true, true, true, true, true, true, true, false, false, false, false, false, false, false]) (vs := [?va0_0, ?va0_1, ?va0_2, ?va0_3, ?va0_4, ?va0_5, ?va0_6, ?va0_7, ?va0_8, ?va0_9, undef, undef, undef, undef, undef, undef, undef]) (S := fun w' => w' = w2.drew) (by kernel_rfl) (by kernel_rfl) (by kernel_rfl) (by kernel_rfl) (by kernel_rfl) ?hSa ?hcha
      case hSa => exact rfl
      case hcha =>
        refine chain_cons _ (by kernel_rfl) rfl rfl ?opsa0 ?wanta0 ?effa0
        case opsa0 =>
          simp only [OpsAt, fillT, List.setIfInBounds_toArray, List.set_cons_zero, List.set_cons_succ]
          refine ⟨.inl ⟨by rfl, opOk_pure fun wS hS => ?_⟩, ?_⟩
          · ((subst hS; go_simp)); try (with_reducible rfl)
          refine ⟨.inl ⟨by rfl, opOk_pure fun wS hS => ?_⟩, ?_⟩
          · ((subst hS; go_simp)); try (with_reducible rfl)
          refine ⟨.inl ⟨by rfl, opOk_pure fun wS hS => ?_⟩, ?_⟩
          · ((subst hS; go_simp)); try (with_reducible rfl)
          refine ⟨.inl ⟨by rfl, opOk_pure fun wS hS => ?_⟩, ?_⟩
          · ((subst hS; go_simp)); try (with_reducible rfl)
          refine ⟨.inl ⟨by rfl, opOk_pure fun wS hS => ?_⟩, ?_⟩
          · ((subst hS; go_simp)); try (with_reducible rfl)
          refine ⟨.inl ⟨by rfl, opOk_pure fun wS hS => ?_⟩, ?_⟩
          · ((subst hS; go_simp)); try (with_reducible rfl)
          refine ⟨.inl ⟨by rfl, opOk_pure fun wS hS => ?_⟩, ?_⟩
          · ((subst hS; go_simp)); try (with_reducible rfl)
          refine ⟨.inl ⟨by rfl, opOk_pure fun wS hS => ?_⟩, ?_⟩
          · ((subst hS; go_simp)); try (with_reducible rfl)
          refine ⟨.inl ⟨by rfl, opOk_pure fun wS hS => ?_⟩, ?_⟩
          · ((subst hS; go_simp)); try (with_reducible rfl)
          refine ⟨.inl ⟨by rfl, opOk_pure fun wS hS => ?_⟩, ?_⟩
          · ((subst hS; go_simp)); try (with_reducible rfl)
          try trivial
        case wanta0 => rfl
        case effa0 =>
          intro wS hS
          simp only [fillT, List.setIfInBounds_toArray, List.set_cons_zero, List.set_cons_succ]
          refine wp_append_row _ _ _ rfl B 5 (.int .u8 0) 1 1 Try.underlying36 info_u8 rfl (by decide) (.slice As S.length cs) S.length (S.map (Value.int .u8)) rfl ?ho Al L.length cl (L.map (Value.int .u8)) rfl HAl.out (by simp) ?sr ?oc ?b1 ?b2 ?b3 ?pp
          case ho => rw [hS]; exact HT2.out.sure
          case sr => rw [hS]; exact row_src HT2.out.loose
          case oc => intro u hu; simp at hu; obtain ⟨x, _, rfl⟩ := hu; rfl
          case b1 => unfold maxLen; omega
          case b2 => omega
          case b3 => rw [hS]; exact Nat.le_trans hB HM.out.chg.size
          case pp =>
            intro v' w3 hown hgr hat
            rw [hS] at hgr hat
            obtain ⟨A', c', rfl, -, -⟩ := row_val hown
            rw [← List.map_append, ← List.length_append] at hown
            rw [← List.length_append] at hat
            obtain ⟨hN, hMo⟩ := HT2.out.grow_sure hown hgr (hat.imp id fun e => ⟨_, e, Nat.le_refl _⟩)
            rw [List.length_append] at hN hMo
            have hh3 : w3.heap[g]? = w2.heap[g]? := hgr.block g hg' (fun e => HT2.out.row_ne (.inl e.symm) rfl)
            have hh4 : w3.cell? ⟨g, 0, none⟩ = some (.slice As S.length cs) := (World.cell?_of_block (a := ⟨g, 0, none⟩) hh3).trans d0
            have hh5 : w3.cell? ⟨g, 1, none⟩ = some (.slice Al L.length cl) := (World.cell?_of_block (a := ⟨g, 1, none⟩) hh3).trans d1
            have hh6 : w3.frozen? ⟨g, 0, none⟩ = false := by unfold World.frozen? at g0 ⊢; simp only [hh3]; exact g0
            have hh7 : w3.frozen? ⟨g, 1, none⟩ = false := by unfold World.frozen? at g1 ⊢; simp only [hh3]; exact g1
            have HMd : Moves (Foot g (.slice As S.length cs) (.slice Al L.length cl)) (Foot g (.slice As S.length cs) (.slice Al L.length cl)) w1 w2.drew := ⟨HM.out.chg.drew, HM.out.foot⟩
            have hF := HMd.trans hMo
            have HN := Lib.hid (hN.setLooseNil)
            have HF := Lib.hid hF
            have hg3 : g < w3.heap.size := Nat.lt_of_lt_of_le hg' hgr.size
            clear hN hMo hown hgr hat HMd hF hh3
            refine ⟨_, [true, true, true, true, true, true, true, true, true, true, true, true, true, false, false, false, false], [true, true, false, false, false, false, false, false, false, false, false, true, true, false, false, false, false], [5, 9, 4, 8, 3, 7, 2, 6], [?va1_0, ?va1_1, ?va1_2, ?va1_3, ?va1_4, ?va1_5, ?va1_6, ?va1_7, ?va1_8, ?va1_9, (.slice A' (S.length + L.length) c'), ?va1_11, ?va1_12, undef, undef, undef, undef], fun w' => w' = w3, rfl, rfl, ?samea0, by kernel_rfl, ?hSa0, ?nxa0⟩
            case samea0 =>
              refine And.intro ?_ ?_
              · with_reducible rfl
              refine And.intro ?_ ?_
              · with_reducible rfl
              refine And.intro ?_ ?_
              · with_reducible rfl
              refine And.intro ?_ ?_
              · with_reducible rfl
              refine And.intro ?_ ?_
              · with_reducible rfl
              refine And.intro ?_ ?_
              · with_reducible rfl
              refine And.intro ?_ ?_
              · with_reducible rfl
              refine And.intro ?_ ?_
              · with_reducible rfl
              refine And.intro ?_ ?_
              · with_reducible rfl
              refine And.intro ?_ ?_
              · with_reducible rfl
              trivial
            case hSa0 => rfl
            case nxa0 =>
              refine chain_cons _ (by kernel_rfl) rfl rfl ?opsa1 ?wanta1 ?effa1
              case opsa1 =>
                simp only [OpsAt, fillT, List.setIfInBounds_toArray, List.set_cons_zero, List.set_cons_succ]
                refine ⟨.inl ⟨by rfl, opOk_pure fun wS hS => ?_⟩, ?_⟩
                · ((subst hS; go_simp)); try (with_reducible rfl)
                refine ⟨.inl ⟨by rfl, opOk_pure fun wS hS => ?_⟩, ?_⟩
                · ((subst hS; go_simp)); try (with_reducible rfl)
                refine ⟨.inl ⟨by rfl, opOk_pure fun wS hS => ?_⟩, ?_⟩
                · ((subst hS; go_simp)); try (with_reducible rfl)
                refine ⟨.inl ⟨by rfl, opOk_pure fun wS hS => ?_⟩, ?_⟩
                · ((subst hS; go_simp)); try (with_reducible rfl)
                try trivial
              case wanta1 => rfl
              case effa1 =>
                intro wS hS
                simp only [fillT, List.setIfInBounds_toArray, List.set_cons_zero, List.set_cons_succ]
                rw [hS]
                refine eff_skip (w' := w3.setCell ⟨g, 0, none⟩ (.slice A' (S.length + L.length) c')) ?run ?pp
                case run => go_simp
                case pp =>
                  refine ⟨_, [true, true, true, true, true, true, true, true, true, true, true, true, true, true, true, true, false], [false, true, false, false, false, false, false, false, false, false, false, false, false, false, true, true, false], [12, 0, 11], [?va2_0, ?va2_1, ?va2_2, ?va2_3, ?va2_4, ?va2_5, ?va2_6, ?va2_7, ?va2_8, ?va2_9, (.slice A' (S.length + L.length) c'), ?va2_11, ?va2_12, undef, ?va2_14, ?va2_15, undef], fun w' => w' = w3.setCell ⟨g, 0, none⟩ (.slice A' (S.length + L.length) c'), rfl, rfl, ?samea1, by kernel_rfl, ?hSa1, ?nxa1⟩
                  case samea1 =>
                    refine And.intro ?_ ?_
                    · with_reducible rfl
                    refine And.intro ?_ ?_
                    · with_reducible rfl
                    refine And.intro ?_ ?_
                    · with_reducible rfl
                    refine And.intro ?_ ?_
                    · with_reducible rfl
                    refine And.intro ?_ ?_
                    · with_reducible rfl
                    refine And.intro ?_ ?_
                    · with_reducible rfl
                    refine And.intro ?_ ?_
                    · with_reducible rfl
                    refine And.intro ?_ ?_
                    · with_reducible rfl
                    refine And.intro ?_ ?_
                    · with_reducible rfl
                    refine And.intro ?_ ?_
                    · with_reducible rfl
                    refine And.intro ?_ ?_
                    · with_reducible rfl
                    refine And.intro ?_ ?_
                    · with_reducible rfl
                    refine And.intro ?_ ?_
                    · with_reducible rfl
                    trivial
                  case hSa1 => rfl
                  case nxa1 =>
                    refine chain_cons _ (by kernel_rfl) rfl rfl ?opsa2 ?wanta2 ?effa2
                    case opsa2 =>
                      simp only [OpsAt, fillT, List.setIfInBounds_toArray, List.set_cons_zero, List.set_cons_succ]
                      refine ⟨.inl ⟨by rfl, opOk_pure fun wS hS => ?_⟩, ?_⟩
                      · ((subst hS; go_simp)); try (with_reducible rfl)
                      refine ⟨.inl ⟨by rfl, opOk_pure fun wS hS => ?_⟩, ?_⟩
                      · ((subst hS; go_simp)); try (with_reducible rfl)
                      refine ⟨.inl ⟨by rfl, opOk_pure fun wS hS => ?_⟩, ?_⟩
                      · ((subst hS; go_simp)); try (with_reducible rfl)
                      try trivial
                    case wanta2 => rfl
                    case effa2 =>
                      intro wS hS
                      simp only [fillT, List.setIfInBounds_toArray, List.set_cons_zero, List.set_cons_succ]
                      rw [hS]
                      refine eff_skip (w' := (w3.setCell ⟨g, 0, none⟩ (.slice A' (S.length + L.length) c')).setCell ⟨g, 1, none⟩ (.slice none 0 0)) ?run ?pp
                      case run => go_simp
                      case pp =>
                        refine ⟨_, [true, true, true, true, true, true, true, true, true, true, true, true, true, true, true, true, true], [false, false, false, false, false, false, false, false, false, false, false, false, false, false, false, false, false], [15, 1, 14], [?va3_0, ?va3_1, ?va3_2, ?va3_3, ?va3_4, ?va3_5, ?va3_6, ?va3_7, ?va3_8, ?va3_9, (.slice A' (S.length + L.length) c'), ?va3_11, ?va3_12, undef, ?va3_14, ?va3_15, undef], fun w' => w' = (w3.setCell ⟨g, 0, none⟩ (.slice A' (S.length + L.length) c')).setCell ⟨g, 1, none⟩ (.slice none 0 0), rfl, rfl, ?samea2, by kernel_rfl, ?hSa2, ?nxa2⟩
                        case samea2 =>
                          refine And.intro ?_ ?_
                          · with_reducible rfl
                          refine And.intro ?_ ?_
                          · with_reducible rfl
                          refine And.intro ?_ ?_
                          · with_reducible rfl
                          refine And.intro ?_ ?_
                          · with_reducible rfl
                          refine And.intro ?_ ?_
                          · with_reducible rfl
                          refine And.intro ?_ ?_
                          · with_reducible rfl
                          refine And.intro ?_ ?_
                          · with_reducible rfl
                          refine And.intro ?_ ?_
                          · with_reducible rfl
                          refine And.intro ?_ ?_
                          · with_reducible rfl
                          refine And.intro ?_ ?_
                          · with_reducible rfl
                          refine And.intro ?_ ?_
                          · with_reducible rfl
                          refine And.intro ?_ ?_
                          · with_reducible rfl
                          refine And.intro ?_ ?_
                          · with_reducible rfl
                          refine And.intro ?_ ?_
                          · with_reducible rfl
                          refine And.intro ?_ ?_
                          · with_reducible rfl
                          refine And.intro ?_ ?_
                          · with_reducible rfl
                          trivial
                        case hSa2 => rfl
                        case nxa2 =>
                          refine chain_nil (by kernel_rfl) rfl ?opsa3 ?enda3
                          case opsa3 =>
                            simp only [OpsAt, fillT, List.setIfInBounds_toArray, List.set_cons_zero, List.set_cons_succ]
                            try trivial
                          case enda3 =>
                            intro wE hE
                            simp only [fillT, List.setIfInBounds_toArray, List.set_cons_zero, List.set_cons_succ]
                            rw [hE]
                            go_wp2
                            go_ret
                            rw [E4.out, E5.out]
                            exact ⟨rfl, _, ⟨_, _, rfl, HN.out⟩, HF.out.trans ⟨(Chg.refl _ _).setCell (.inl (.inl rfl)) _, fun k hk => .inl (by rcases hk with rfl | hk | hk; exact .inl rfl; exact .inr (.inl hk); cases hk)⟩⟩
open Go.RowKit

def erS (st : St) : St := if st.down then st else ⟨if st.fuse = 0 then st.S else [], if st.fuse = 0 then st.L else [], stS st.steps st.fuse, stF st.fuse, stD st.fuse st.down⟩

set_option maxRecDepth 100000 in
theorem erase_any (w : World) (B g : Nat) (F : Nat → Prop) (st : St) (h : SlabF w B g F st) (ok : st.Ok) :
    Calls Try.prog 41 #[.pointer (some ⟨g, 0, none⟩)] w fun e w' => e = .returned (.int .i64 (syE st)) ∧ ∃ F', SlabF w' B g F' (erS st) ∧ Moves F F' w w' := by
  obtain ⟨S, L, steps, fuse, down⟩ := st
  obtain ⟨vs, vl, rfl, hs⟩ := h
  obtain ⟨o1, o2, o3, o4, o5⟩ := ok
  dsimp only at *
  obtain ⟨As, cs, rfl, -, -⟩ := row_val hs.sure
  obtain ⟨Al, cl, rfl, -, -⟩ := row_val hs.loose
  obtain ⟨c0, c1, c2, c3, c4, f0, f1, f2, f3, f4, hg⟩ := hs.cells
  have HS := Lib.hid hs
  have HU := Lib.hid (up_any w g down c4)
  have HT := Lib.hid (step_any w B g _ _ S L steps fuse down hs o1 o2 o3 o4)
  clear hs
  cases down with
  | true =>
    go_enter Try.func41, Try.ntmps41
    go_wp2_with fail
    refine HU.out.mono ?_
    rintro e w1 ⟨rfl, rfl⟩
    go_wp2
    go_ret
    exact ⟨rfl, _, ⟨_, _, rfl, HS.out⟩, Moves.refl _ _⟩
  | false =>
    go_enter Try.func41, Try.ntmps41
    go_wp2_with fail
    refine HU.out.mono ?_
    rintro e w1 ⟨rfl, rfl⟩
    go_wp2_with fail
    refine HT.out.mono ?_
    rintro e w2 ⟨rfl, hT, hC⟩
    obtain ⟨d0, d1, d2, d3, d4, g0, g1, g2, g3, g4, hg'⟩ := hT.cells
    have hM : Moves (Foot g (.slice As S.length cs) (.slice Al L.length cl)) (Foot g (.slice As S.length cs) (.slice Al L.length cl)) w1 w2 := ⟨hC.mono fun k _ hk => .inl hk, fun _ h => .inl h⟩
    have HM := Lib.hid hM
    have HT1 := Lib.hid hT
    clear hT hC hM HT HU c0 c1 c2 c3 c4 f0 f1 f2 f3 f4
    rcases (show fuse = 0 ∨ fuse ≠ 0 by omega) with h0 | h0
    · subst h0
      go_wp2
      go_ret
      exact ⟨rfl, _, ⟨_, _, rfl, HT1.out⟩, HM.out⟩
    · have e3 : stE fuse = 0 := if_neg h0
      have e4 : erS ⟨S, L, steps, fuse, false⟩ = ⟨[], [], stS steps fuse, stF fuse, stD fuse false⟩ := by unfold erS; simp [h0]
      have e5 : syE ⟨S, L, steps, fuse, false⟩ = 0 := by unfold syE; simp [e3]
      rw [e3]
      have E4 := Lib.hid e4
      have E5 := Lib.hid e5
      clear e3 e4 e5
      go_wp2
      go_ret
      rw [E4.out, E5.out]
      exact ⟨rfl, _, ⟨_, _, rfl, HT1.out.setSureNil.setLooseNil⟩, HM.out.trans ⟨((Chg.refl _ _).setCell (.inl (.inl rfl)) _).setCell (.inl (.inl rfl)) _, fun k hk => .inl (by rcases hk with rfl | hk | hk; exact .inl rfl; cases hk; cases hk)⟩⟩

set_option maxRecDepth 100000 in
theorem clone_any (w : World) (B : Nat) (A : Option Addr) (c : Nat) (xs : List Int) (hA : A = none → xs.length = 0 ∧ c = 0) (hsrc : SrcOf w A (xs.map (Value.int .u8))) (hl : xs.length ≤ 140737488355328) (hB : B ≤ w.heap.size) :
    Calls Try.prog 35 #[.slice A xs.length c] w fun e w' => ∃ v, e = .returned v ∧ w'.ownsRow B 5 1 v xs.length (xs.map (Value.int .u8)) ∧ Chg (fun _ => False) w w' ∧ ∀ k, v.ownBlock = some k → w.heap.size ≤ k := by
  have HR := Lib.hid hsrc
  have q : ∀ (w : World) (a : Option Addr) (n c n' c' : Nat), (binOp .eql 36 (.slice a n c) (.slice none n' c')).run Try.prog w = .ok (.bool a.isNone) w := fun w a n c n' c' => Lib.run_eql_slice_nil w _ _ a n c n' c' Try.underlying36
  cases A with
  | none =>
    obtain ⟨h1, rfl⟩ := hA rfl
    obtain rfl : xs = [] := List.eq_nil_of_length_eq_zero h1
    clear hA hsrc h1 HR
    show Calls _ _ #[.slice none 0 0] w _
    go_enter Try.func35, Try.ntmps35
    go_wp2
    go_ret
    exact ⟨_, rfl, World.ownsRow_nil _ _ _ _, Chg.refl _ _, fun _ h => by cases h⟩
  | some ad =>
    clear hA hsrc
    go_enter Try.func35, Try.ntmps35
    go_wp2_with (first
      | (at_builtin; refine wpList_append_row rfl _ _ 36 rfl B 5 (.int .u8 0) 1 1 Try.underlying36 info_u8 rfl (by decide) (.slice (some ⟨w.heap.size, 0, none⟩) 0 0) 0 [] ?a0 ?a8 (some ad) xs.length c (xs.map (Value.int .u8)) ?a1 ?a9 ?a2 ?a10 ?a3 ?a4 ?a5 ?a6 ?a7)
      | fail)
    case a0 => rfl
    case a1 => rfl
    case a8 => exact World.ownsRow_lit w #[] 0 hB (by decide) rfl
    case a9 => intro h; cases h
    case a2 => simp
    case a10 =>
      intro ad' had j u hj
      have h1 := HR.out ad' had j u hj
      exact (World.cell?_alloc_lt (a := ad'.add j) w _ (cell_lt h1)).trans h1
    case a3 => intro u hu; simp at hu; obtain ⟨x, _, rfl⟩ := hu; rfl
    case a4 => unfold maxLen; omega
    case a5 => omega
    case a6 => simp; omega
    case a7 =>
      intro v' w3 hown hgr hat
      obtain ⟨A', c', rfl, -, -⟩ := row_val hown
      have hC : Chg (fun _ => False) w w3 := ((Chg.refl _ _).alloc _).grown hgr fun k hk => .inr (by simp [Value.ownBlock] at hk; omega)
      have hk : ∀ k, (Value.slice A' xs.length c').ownBlock = some k → w.heap.size ≤ k := by
        intro k hk
        rcases hat with e | e
        · rw [e] at hk; simp [Value.ownBlock] at hk; omega
        · rw [e] at hk; simp at hk; omega
      have HO := Lib.hid hown
      have HC := Lib.hid hC
      have HK := Lib.hid hk
      clear hown hC hk hgr hat
      go_wp2
      go_ret
      exact ⟨_, rfl, HO.out, HC.out, HK.out⟩
open Go.RowKit

/-- All that is there. -/
def rdS (st : St) : List Int := if st.down then [] else st.S ++ st.L

set_option maxRecDepth 100000 in
set_option maxHeartbeats 1000000 in
theorem read_any (w : World) (B g : Nat) (F : Nat → Prop) (st : St) (h : SlabF w B g F st) (ok : st.Ok) (hB : B ≤ w.heap.size) :
    Calls Try.prog 57 #[.pointer (some ⟨g, 0, none⟩)] w fun e w' => ∃ v, e = .returned (.tuple #[v, .int .i64 (upE st.down)]) ∧ w'.ownsRow B 5 1 v (rdS st).length ((rdS st).map (Value.int .u8)) ∧
      Chg (fun _ => False) w w' ∧ ∀ k, v.ownBlock = some k → w.heap.size ≤ k := by
  obtain ⟨S, L, steps, fuse, down⟩ := st
  obtain ⟨vs, vl, rfl, hs⟩ := h
  obtain ⟨o1, o2, o3, o4, o5⟩ := ok
  dsimp only at *
  obtain ⟨As, cs, rfl, hAs, -⟩ := row_val hs.sure
  obtain ⟨Al, cl, rfl, hAl, -⟩ := row_val hs.loose
  have HAl := Lib.hid hAl
  obtain ⟨c0, c1, c2, c3, c4, f0, f1, f2, f3, f4, hg⟩ := hs.cells
  have HS := Lib.hid hs
  have HU := Lib.hid (up_any w g down c4)
  have HC := Lib.hid (clone_any w.drew B As cs S hAs (row_src hs.drew.sure) (by omega) hB)
  clear hs hAl hAs
  cases down with
  | true =>
    go_enter Try.func57, Try.ntmps57
    go_wp2_with fail
    refine HU.out.mono ?_
    rintro e w1 ⟨rfl, rfl⟩
    go_wp2
    first | go_ret | go_ret2
    exact ⟨_, rfl, World.ownsRow_nil _ _ _ _, Chg.refl _ _, fun _ h => by cases h⟩
  | false =>
    go_enter Try.func57, Try.ntmps57
    go_wp2_with fail
    refine HU.out.mono ?_
    rintro e w1 ⟨rfl, rfl⟩
    go_wp2_with fail
    refine region_chain (E := [4, 9]) (kn := [true, true, true, true, false, true, true, true, true, false, false, false]) (mask := [true, true, true, true, false, true, true, true, true, false, false, false]) (vs := [?va0_0, ?va0_1, ?va0_2, ?va0_3, undef, ?va0_5, ?va0_6, ?va0_7, ?va0_8, undef, undef, undef]) (S := fun w' => w' = w1.drew) (by kernel_rfl) (by kernel_rfl) (by kernel_rfl) (by kernel_rfl) (by kernel_rfl) ?hSa ?hcha
    case hSa => exact rfl
    case hcha =>
      refine chain_cons _ (by kernel_rfl) rfl rfl ?opsa0 ?wanta0 ?effa0
      case opsa0 =>
        simp only [OpsAt, fillT, List.setIfInBounds_toArray, List.set_cons_zero, List.set_cons_succ]
        refine ⟨.inl ⟨by rfl, opOk_pure fun wS hS => ?_⟩, ?_⟩
        · ((subst hS; go_simp)); try (with_reducible rfl)
        refine ⟨.inl ⟨by rfl, opOk_pure fun wS hS => ?_⟩, ?_⟩
        · ((subst hS; go_simp)); try (with_reducible rfl)
        refine ⟨.inl ⟨by rfl, opOk_pure fun wS hS => ?_⟩, ?_⟩
        · ((subst hS; go_simp)); try (with_reducible rfl)
        refine ⟨.inl ⟨by rfl, opOk_pure fun wS hS => ?_⟩, ?_⟩
        · ((subst hS; go_simp)); try (with_reducible rfl)
        refine ⟨.inl ⟨by rfl, opOk_pure fun wS hS => ?_⟩, ?_⟩
        · ((subst hS; go_simp)); try (with_reducible rfl)
        refine ⟨.inl ⟨by rfl, opOk_pure fun wS hS => ?_⟩, ?_⟩
        · ((subst hS; go_simp)); try (with_reducible rfl)
        refine ⟨.inl ⟨by rfl, opOk_pure fun wS hS => ?_⟩, ?_⟩
        · ((subst hS; go_simp)); try (with_reducible rfl)
        refine ⟨.inl ⟨by rfl, opOk_pure fun wS hS => ?_⟩, ?_⟩
        · ((subst hS; go_simp)); try (with_reducible rfl)
        try trivial
      case wanta0 => rfl
      case effa0 =>
        intro wS hS
        simp only [fillT, List.setIfInBounds_toArray, List.set_cons_zero, List.set_cons_succ]
        rw [hS]
        refine eff_call (f := 35) (args := #[.slice As S.length cs]) (by go_simp) ?_
        refine HC.out.mono ?_
        rintro e w2 ⟨v, rfl, hown, hchg, hnew⟩
        obtain ⟨A1, k1, rfl, -, -⟩ := row_val hown
        have hS2 : SlabAt w2 B g (.slice As S.length cs) (.slice Al L.length cl) S L steps fuse false := HS.out.of_block fun k hk => hchg.block k (HS.out.lt hk).1 (fun h => h)
        obtain ⟨d0, d1, d2, d3, d4, g0, g1, g2, g3, g4, hg'⟩ := hS2.cells
        have HS2 := Lib.hid hS2
        have HO := Lib.hid hown
        have HCh := Lib.hid hchg
        have HN := Lib.hid hnew
        clear hS2 hown hchg hnew
        refine ⟨_, rfl, ?_⟩
        refine ⟨_, [true, true, true, true, true, true, true, true, true, false, false, false], [false, false, false, false, false, true, true, true, true, false, false, false], [3, 2, 1, 0], [?va1_0, ?va1_1, ?va1_2, ?va1_3, (.slice A1 S.length k1), ?va1_5, ?va1_6, ?va1_7, ?va1_8, undef, undef, undef], fun w' => w' = w2, rfl, rfl, ?samea0, by kernel_rfl, ?hSa0, ?nxa0⟩
        case samea0 =>
          refine And.intro ?_ ?_
          · with_reducible rfl
          refine And.intro ?_ ?_
          · with_reducible rfl
          refine And.intro ?_ ?_
          · with_reducible rfl
          refine And.intro ?_ ?_
          · with_reducible rfl
          refine And.intro ?_ ?_
          · with_reducible rfl
          refine And.intro ?_ ?_
          · with_reducible rfl
          refine And.intro ?_ ?_
          · with_reducible rfl
          refine And.intro ?_ ?_
          · with_reducible rfl
          trivial
        case hSa0 => rfl
        case nxa0 =>
          refine chain_cons _ (by kernel_rfl) rfl rfl ?opsa1 ?wanta1 ?effa1
          case opsa1 =>
            simp only [OpsAt, fillT, List.setIfInBounds_toArray, List.set_cons_zero, List.set_cons_succ]
            refine ⟨.inl ⟨by rfl, opOk_pure fun wS hS => ?_⟩, ?_⟩
            · ((subst hS; go_simp)); try (with_reducible rfl)
            refine ⟨.inl ⟨by rfl, opOk_pure fun wS hS => ?_⟩, ?_⟩
            · ((subst hS; go_simp)); try (with_reducible rfl)
            refine ⟨.inl ⟨by rfl, opOk_pure fun wS hS => ?_⟩, ?_⟩
            · ((subst hS; go_simp)); try (with_reducible rfl)
            refine ⟨.inl ⟨by rfl, opOk_pure fun wS hS => ?_⟩, ?_⟩
            · ((subst hS; go_simp)); try (with_reducible rfl)
            try trivial
          case wanta1 => rfl
          case effa1 =>
            intro wS hS
            simp only [fillT, List.setIfInBounds_toArray, List.set_cons_zero, List.set_cons_succ]
            rw [hS]
            refine wp_append_row _ _ _ rfl B 5 (.int .u8 0) 1 1 Try.underlying36 info_u8 rfl (by decide) (.slice A1 S.length k1) S.length (S.map (Value.int .u8)) rfl HO.out Al L.length cl (L.map (Value.int .u8)) rfl HAl.out (by simp) (row_src HS2.out.loose) ?oc ?b1 ?b2 ?b3 ?pp
            case oc => intro u hu; simp at hu; obtain ⟨x, _, rfl⟩ := hu; rfl
            case b1 => unfold maxLen; omega
            case b2 => omega
            case b3 => exact Nat.le_trans hB HCh.out.size
            case pp =>
              intro v' w3 hown hgr hat
              obtain ⟨A', c', rfl, -, -⟩ := row_val hown
              rw [← List.map_append] at hown
              have hlt2 := HO.out.lt
              have hC3 : Chg (fun _ => False) w1.drew w3 := HCh.out.grown hgr fun k hk => .inr (HN.out k hk)
              have hN3 : ∀ k, (Value.slice A' (S.length + L.length) c').ownBlock = some k → w1.heap.size ≤ k := by
                intro k hk
                rcases hat with e | e
                · rw [e] at hk; exact HN.out k hk
                · rw [e] at hk; injection hk with hk; have := HCh.out.size; simp at this; omega
              have HO3 := Lib.hid hown
              have HC3 := Lib.hid hC3
              have HN3 := Lib.hid hN3
              clear hown hgr hat hlt2 hC3 hN3
              refine ⟨_, [true, true, true, true, true, true, true, true, true, true, true, true], [false, false, false, false, false, false, false, false, false, false, true, true], [8, 7, 6, 5], [?va2_0, ?va2_1, ?va2_2, ?va2_3, (.slice A1 S.length k1), ?va2_5, ?va2_6, ?va2_7, ?va2_8, (.slice A' (S.length + L.length) c'), ?va2_10, ?va2_11], fun w' => w' = w3, rfl, rfl, ?samea1, by kernel_rfl, ?hSa1, ?nxa1⟩
              case samea1 =>
                refine And.intro ?_ ?_
                · with_reducible rfl
                refine And.intro ?_ ?_
                · with_reducible rfl
                refine And.intro ?_ ?_
                · with_reducible rfl
                refine And.intro ?_ ?_
                · with_reducible rfl
                refine And.intro ?_ ?_
                · with_reducible rfl
                refine And.intro ?_ ?_
                · with_reducible rfl
                refine And.intro ?_ ?_
                · with_reducible rfl
                refine And.intro ?_ ?_
                · with_reducible rfl
                refine And.intro ?_ ?_
                · with_reducible rfl
                trivial
              case hSa1 => rfl
              case nxa1 =>
                refine chain_nil (by kernel_rfl) rfl ?opsa2 ?enda2
                case opsa2 =>
                  simp only [OpsAt, fillT, List.setIfInBounds_toArray, List.set_cons_zero, List.set_cons_succ]
                  refine ⟨.inl ⟨by rfl, opOk_pure fun wS hS => ?_⟩, ?_⟩
                  · ((subst hS; go_simp)); try (with_reducible rfl)
                  refine ⟨.inl ⟨by rfl, opOk_pure fun wS hS => ?_⟩, ?_⟩
                  · ((subst hS; go_simp)); try (with_reducible rfl)
                  try trivial
                case enda2 =>
                  intro wE hE
                  simp only [fillT, List.setIfInBounds_toArray, List.set_cons_zero, List.set_cons_succ]
                  rw [hE]
                  go_wp2
                  first | go_ret | go_ret2
                  exact ⟨_, rfl, (by unfold rdS; simpa using HO3.out), ⟨HC3.out.os, HC3.out.tape, HC3.out.output, HC3.out.size, HC3.out.block⟩, HN3.out⟩
end Go.Proofs.Ytidcdfilfccigaa
