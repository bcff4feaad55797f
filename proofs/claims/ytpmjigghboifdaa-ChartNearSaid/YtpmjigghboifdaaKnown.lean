/- Some blocks of two cells are known, and all that was there is as it was; variables that a region makes, one each, out of spots. -/
import Derived.Test.YtpmjigghboifdaaFlow
import Derived.Test.YtpmjigghboifdaaIs
import Derived.Test.YtpmjigghboifdaaRefTurn
import Derived.Test.YtpmjigghboifdaaRef
import Derived.Test.YtpmjigghboifdaaNear
namespace Go.Proofs.Ytpmjigghboifdaa
open Go.RowKit Fl

/-- The blocks of the list hold these two numbers each, and may be written. -/
def Known (w0 : World) (L : List (Nat × Int × Int)) (w : World) : Prop :=
  (∀ e ∈ L, w.cell? ⟨e.1, 0, none⟩ = some (.int .i64 e.2.1) ∧ w.cell? ⟨e.1, 1, none⟩ = some (.int .i64 e.2.2) ∧ e.1 < w.heap.size ∧ w0.heap.size ≤ e.1 ∧ ∀ i, w.frozen? ⟨e.1, i, none⟩ = false) ∧ Below w0.heap.size w0 w
theorem Known.keep {w0 w w' : World} {L : List (Nat × Int × Int)} (hb : Below w.heap.size w w') (h : Known w0 L w) : Known w0 L w' :=
  ⟨fun e he => by
    obtain ⟨h0, h1, h2, h3, h4⟩ := h.1 e he
    exact ⟨(hb.cell (p := ⟨e.1, 0, none⟩) h2).trans h0, (hb.cell (p := ⟨e.1, 1, none⟩) h2).trans h1, Nat.lt_of_lt_of_le h2 hb.size, h3, fun i => (hb.frozen (p := ⟨e.1, i, none⟩) h2).trans (h4 i)⟩, h.2.trans (hb.mono h.2.size)⟩
theorem Known.drew {w0 w : World} {L : List (Nat × Int × Int)} (h : Known w0 L w) : Known w0 L w.drew := ⟨h.1, h.2.drew⟩
theorem Known.alloc {w0 w : World} {L : List (Nat × Int × Int)} (h : Known w0 L w) (o : Obj) : Known w0 L (w.alloc o) :=
  h.keep ((Below.refl _ _).alloc (Nat.le_refl _) o)
theorem Known.add {w0 w : World} {L : List (Nat × Int × Int)} (h : Known w0 L w) (x y : Int) (t : TypeId) : Known w0 ((w.heap.size, x, y) :: L) (w.alloc (.cells #[.int .i64 x, .int .i64 y] t)) := by
  refine ⟨fun e he => ?_, (h.alloc _).2⟩
  rcases List.mem_cons.1 he with rfl | he
  · exact ⟨by go_simp, by go_simp, by simp, h.2.size, fun i => by have := heap_alloc_new w (.cells #[.int .i64 x, .int .i64 y] t); unfold World.frozen?; simp only [this]; simp⟩
  · exact (h.alloc _).1 e he
theorem Known.facts {w0 w : World} {L : List (Nat × Int × Int)} (h : Known w0 L w) : ∀ e ∈ L, w.cell? ⟨e.1, 0, none⟩ = some (.int .i64 e.2.1) ∧ w.cell? ⟨e.1, 1, none⟩ = some (.int .i64 e.2.2) ∧ e.1 < w.heap.size ∧ e.1 ≤ w.heap.size ∧ e.1 ≠ w.heap.size ∧ ∀ i, w.frozen? ⟨e.1, i, none⟩ = false :=
  fun e he => ⟨(h.1 e he).1, (h.1 e he).2.1, (h.1 e he).2.2.1, by have := (h.1 e he).2.2.1; omega, by have := (h.1 e he).2.2.1; omega, (h.1 e he).2.2.2.2⟩
theorem Known.nil (w : World) : Known w [] w := ⟨(fun _ h => by cases h), Below.refl _ _⟩
theorem Known.lt {w0 w : World} {L : List (Nat × Int × Int)} (h : Known w0 L w) : ∀ e ∈ L, e.1 < w.heap.size := fun e he => (h.1 e he).2.2.1
theorem Known.far {w0 w : World} {L : List (Nat × Int × Int)} (h : Known w0 L w) {g i : Nat} (hg : ∀ e ∈ L, e.1 ≠ g) (hw : w0.heap.size ≤ g) (v : Value) : Known w0 L (w.setCell ⟨g, i, none⟩ v) :=
  ⟨fun e he => by
    obtain ⟨h0, h1, h2, h3, h4⟩ := h.1 e he
    have hne := hg e he
    exact ⟨(World.cell?_setCell_other _ _ _ _ (by simp [Ne.symm hne])).trans h0, (World.cell?_setCell_other _ _ _ _ (by simp [Ne.symm hne])).trans h1, by simpa [World.setCell] using h2, h3, fun i => by simpa [go_sem] using h4 i⟩, h.2.setCell hw _⟩
theorem Known.set2 {w0 w : World} {L : List (Nat × Int × Int)} {g : Nat} {x y : Int} (h : Known w0 ((g, x, y) :: L) w) (hg : ∀ e ∈ L, e.1 ≠ g) (x' y' : Int) :
    Known w0 ((g, x', y') :: L) ((w.setCell ⟨g, 0, none⟩ (.int .i64 x')).setCell ⟨g, 1, none⟩ (.int .i64 y')) := by
  obtain ⟨h0, h1, h2, h3, h4⟩ := h.1 (g, x, y) (by simp)
  have hL : Known w0 L w := ⟨fun e he => h.1 e (by simp [he]), h.2⟩
  have hL' := (hL.far (i := 0) hg h3 (.int .i64 x')).far (i := 1) hg h3 (.int .i64 y')
  refine ⟨fun e he => ?_, hL'.2⟩
  rcases List.mem_cons.1 he with rfl | he
  · refine ⟨?_, ?_, by simpa [World.setCell] using h2, h3, fun i => by simpa [go_sem] using h4 i⟩
    · rw [World.cell?_setCell_other _ _ _ _ (by simp)]; exact World.cell?_setCell_same _ _ _ h0
    · refine World.cell?_setCell_same _ _ _ (u := .int .i64 y) ?_
      rw [World.cell?_setCell_other _ _ _ _ (by simp)]; exact h1
  · exact hL'.1 e he

/-- A variable of the region's: what it loads, what its call gives, where it lies; each as far as that has come up. -/
def TV (B T : Nat) (fl fc fa ft : Bool) (lv cv pv : Value) (g : Nat) (x y : Int) (w : World) : Prop :=
  (fl = true → lv = .agg #[.int .i64 x, .int .i64 y]) ∧ (fc = true → cv = .agg #[.int .i64 x, .int .i64 y]) ∧
  (fa = true → pv = .pointer (some ⟨g, 0, none⟩) ∧ B ≤ g ∧ w.heap[g]? = some (.cells (if ft then #[.int .i64 x, .int .i64 y] else #[.int .i64 0, .int .i64 0]) T (0, 0))) ∧ (ft = true → fa = true)
theorem TV.void (B T : Nat) (lv cv pv : Value) (g : Nat) (x y : Int) (w : World) : TV B T false false false false lv cv pv g x y w := ⟨(fun h => by cases h), (fun h => by cases h), (fun h => by cases h), (fun h => by cases h)⟩
theorem heap_lt {w : World} {g : Nat} {o : Obj} (h : w.heap[g]? = some o) : g < w.heap.size := (Array.getElem?_eq_some_iff.1 h).1
theorem TV.keep {B T : Nat} {fl fc fa ft : Bool} {lv cv pv : Value} {g : Nat} {x y : Int} {w w' : World} (hb : Below w.heap.size w w') (h : TV B T fl fc fa ft lv cv pv g x y w) : TV B T fl fc fa ft lv cv pv g x y w' :=
  ⟨h.1, h.2.1, fun hf => by
    obtain ⟨h1, h2, h3⟩ := h.2.2.1 hf
    exact ⟨h1, h2, (hb.block g (heap_lt h3)).trans h3⟩, h.2.2.2⟩
theorem TV.alloc {B T : Nat} {fl fc fa ft : Bool} {lv cv pv : Value} {g : Nat} {x y : Int} {w : World} (h : TV B T fl fc fa ft lv cv pv g x y w) (o : Obj) : TV B T fl fc fa ft lv cv pv g x y (w.alloc o) :=
  h.keep ((Below.refl _ _).alloc (Nat.le_refl _) o)
theorem TV.load {B T : Nat} {fl fc fa ft : Bool} {lv cv pv : Value} {g : Nat} {x y : Int} {w : World} (h : TV B T fl fc fa ft lv cv pv g x y w) : TV B T true fc fa ft (.agg #[.int .i64 x, .int .i64 y]) cv pv g x y w := ⟨fun _ => rfl, h.2⟩
theorem TV.call {B T : Nat} {fl fc fa ft : Bool} {lv cv pv : Value} {g : Nat} {x y : Int} {w : World} (h : TV B T fl fc fa ft lv cv pv g x y w) : TV B T fl true fa ft lv (.agg #[.int .i64 x, .int .i64 y]) pv g x y w := ⟨h.1, fun _ => rfl, h.2.2⟩
theorem TV.made {B T : Nat} {fl fc ft : Bool} {lv cv pv : Value} {g : Nat} {x y : Int} {w : World} (h : TV B T fl fc false ft lv cv pv g x y w) (hB : B ≤ w.heap.size) : TV B T fl fc true ft lv cv (.pointer (some ⟨w.heap.size, 0, none⟩)) w.heap.size x y (w.alloc (.cells #[.int .i64 0, .int .i64 0] T)) := by
  refine ⟨h.1, h.2.1, fun _ => ⟨rfl, hB, ?_⟩, fun _ => rfl⟩
  have hft : ft = false := by cases ft; rfl; exact absurd (h.2.2.2 rfl) (by simp)
  subst hft
  exact heap_alloc_new w _
theorem TV.far {B T : Nat} {fl fc fa ft : Bool} {lv cv pv : Value} {g : Nat} {x y : Int} {w : World} (h : TV B T fl fc fa ft lv cv pv g x y w) {g' i : Nat} (hg : fa = true → g ≠ g') (v : Value) : TV B T fl fc fa ft lv cv pv g x y (w.setCell ⟨g', i, none⟩ v) :=
  ⟨h.1, h.2.1, fun hf => by
    obtain ⟨h1, h2, h3⟩ := h.2.2.1 hf
    exact ⟨h1, h2, by rw [Below.heap_setCell _ _ _ _ (hg hf)]; exact h3⟩, h.2.2.2⟩
theorem TV.store {B T : Nat} {fl fc fa ft : Bool} {lv cv pv : Value} {g : Nat} {x y : Int} {w : World} (h : TV B T fl fc fa ft lv cv pv g x y w) (hf : fa = true) :
    TV B T fl fc fa true lv cv pv g x y ((w.setCell ⟨g, 0, none⟩ (.int .i64 x)).setCell ⟨g, 1, none⟩ (.int .i64 y)) := by
  refine ⟨h.1, h.2.1, fun _ => ?_, fun _ => hf⟩
  obtain ⟨h1, h2, h3⟩ := h.2.2.1 hf
  refine ⟨h1, h2, ?_⟩
  simp [World.setCell, Array.getElem?_modify, h3]
  cases ft <;> simp
theorem TV.cells {B T : Nat} {fl fc fa ft : Bool} {lv cv pv : Value} {g : Nat} {x y : Int} {w : World} (h : TV B T fl fc fa ft lv cv pv g x y w) (hf : fa = true) :
    ∃ u v, w.cell? ⟨g, 0, none⟩ = some u ∧ w.cell? ⟨g, 1, none⟩ = some v ∧ w.frozen? ⟨g, 0, none⟩ = false ∧ w.frozen? ⟨g, 1, none⟩ = false := by
  obtain ⟨_, _, h3⟩ := h.2.2.1 hf
  cases ft
  · exact ⟨.int .i64 0, .int .i64 0, by simp [World.cell?, h3], by simp [World.cell?, h3], by simp [World.frozen?, h3], by simp [World.frozen?, h3]⟩
  · exact ⟨.int .i64 x, .int .i64 y, by simp [World.cell?, h3], by simp [World.cell?, h3], by simp [World.frozen?, h3], by simp [World.frozen?, h3]⟩
theorem Known.of_tv {w0 w : World} {L : List (Nat × Int × Int)} (h : Known w0 L w) {B T : Nat} (hB : w0.heap.size ≤ B) {fl fc : Bool} {lv cv pv : Value} {g : Nat} {x y : Int} (t : TV B T fl fc true true lv cv pv g x y w) : Known w0 ((g, x, y) :: L) w := by
  refine ⟨fun e he => ?_, h.2⟩
  rcases List.mem_cons.1 he with rfl | he
  · obtain ⟨_, h2, h3⟩ := t.2.2.1 rfl
    exact ⟨by simp [World.cell?, h3], by simp [World.cell?, h3], heap_lt h3, Nat.le_trans hB h2, fun i => by simp [World.frozen?, h3]⟩
  · exact h.1 e he

theorem move_any (a b c d : Int) (w : World) : Calls Try.prog 13 #[.agg #[.int .i64 a, .int .i64 b], .agg #[.int .i64 c, .int .i64 d]] w fun e w' =>
    e = .returned (.tuple #[.agg #[.int .i64 (moveP a b c d).1, .int .i64 (moveP a b c d).2.1], .int .i64 (moveP a b c d).2.2]) ∧ Below w.heap.size w w' := by
  rcases h : (inB a b && inB c d) with _ | _
  · exact move_no a b c d h w
  · rw [Bool.and_eq_true] at h
    exact move_yes a b c d h.1 h.2 w
theorem times_any (a b c d : Int) (w : World) : Calls Try.prog 15 #[.agg #[.int .i64 a, .int .i64 b], .agg #[.int .i64 c, .int .i64 d]] w fun e w' =>
    e = .returned (.tuple #[.agg #[.int .i64 (timesP a b c d).1, .int .i64 (timesP a b c d).2.1], .int .i64 (timesP a b c d).2.2]) ∧ Below w.heap.size w w' := by
  rcases h : (inB a b && inB c d) with _ | _
  · exact times_no a b c d h w
  · rw [Bool.and_eq_true] at h
    exact times_yes a b c d h.1 h.2 w
theorem turn_any (a b c d n : Int) (hn1 : -9223372036854775808 ≤ n) (hn2 : n ≤ 9223372036854775807) (w : World) : Calls Try.prog 17 #[.agg #[.int .i64 a, .int .i64 b], .agg #[.int .i64 c, .int .i64 d], .int .i64 n] w fun e w' =>
    e = .returned (.tuple #[.agg #[.int .i64 (turnP a b c d n).1, .int .i64 (turnP a b c d n).2.1], .int .i64 (turnP a b c d n).2.2]) ∧ Below w.heap.size w w' := by
  rcases h : (inB a b && inB c d) with _ | _
  · exact turn_no a b c d n h w
  · rw [Bool.and_eq_true] at h
    exact turn_yes a b c d n hn1 hn2 h.1 h.2 w
end Go.Proofs.Ytpmjigghboifdaa
