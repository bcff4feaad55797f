/- An argument that is a slice of structs of two ints. Plain: over any program. -/
import Derived.Deep.SlicePairs
import Derived.Deep.Slices
import Derived.SizedLaws
import Derived.ChangeSame
import Derived.WalkKit
namespace Go.Proofs.Ytpmjigghboifdaa
open Go Go.ChangeShapes Go.WideShapes Go.Deep Go.RowKit

theorem cell_lt {w : World} {a : Addr} {v : Value} (h : w.cell? a = some v) : a.block < w.heap.size := by
  by_cases hb : a.block < w.heap.size
  · exact hb
  · simp [World.cell?, Array.getElem?_eq_none (Nat.le_of_not_lt hb)] at h

theorem add_none {b off n : Nat} : (⟨b, off, none⟩ : Addr).add n = ⟨b, off + n, none⟩ := by
  unfold Addr.add; split <;> simp_all

section
variable {H : Type} {enc : TypeId × Value → H} {P : Program} {w : World} {base : Nat} {spare : Nat → Bool} {held : Bool}
theorem open_pairs {r : Reach} {b0 : Nat} {t e : TypeId} {f0 f1 : Field} {k0 k1 : IntKind} {v : Value} {d : DataW H} {p : List MemPlace} (ht : P.underlying t = some (.slice e)) (he : P.underlying e = some (.struct #[f0, f1]))
    (ce : P.cellsOf e = 2) (o0 : f0.offset = 0) (o1 : f1.offset = 1) (c0 : P.cellsOf f0.type = 1) (c1 : P.cellsOf f1.type = 1) (u0 : P.underlying f0.type = some (.int k0)) (u1 : P.underlying f1.type = some (.int k1))
    (hv : Value.okWide P w r b0 t v) (h : DataW.Trod enc P w base spare held t v d p) :
    ∃ (L : List (Int × Int)) (A : Option Addr) (c : Nat), v = .slice A L.length c ∧
      (0 < L.length → ∃ b off, A = some ⟨b, off, none⟩ ∧ b < w.heap.size ∧ ∀ i p, L[i]? = some p → w.cell? ⟨b, off + i * 2, none⟩ = some (.int k0 p.1) ∧ w.cell? ⟨b, off + i * 2 + 1, none⟩ = some (.int k1 p.2)) ∧
      (∀ p ∈ L, (Lit.int k0 p.1).wf = true ∧ (Lit.int k1 p.2).wf = true) ∧
      ((d = .nil ∧ L = []) ∨ ∃ el sp, d = .slice el sp ∧ el.length = L.length) := by
  obtain ⟨fuel, h⟩ := h
  obtain ⟨a, len, cap, rfl⟩ := okWide_slice ht hv
  rcases open_slice_pairs ht he ce o0 o1 c0 c1 h with ⟨hcs, hx⟩ | ⟨a', len', cap', m, n, V0, V1, D0, D1, P0, P1, hcs, _, hl, _, hmm, hx, hcell⟩
  · simp [Value.cells] at hcs
    obtain ⟨rfl, rfl, rfl⟩ := hcs
    simp only [Prod.mk.injEq] at hx
    exact ⟨[], none, 0, rfl, fun h0 => absurd h0 (by simp), by simp, .inl ⟨hx.1, rfl⟩⟩
  · simp [Value.cells] at hcs
    obtain ⟨rfl, rfl, rfl⟩ := hcs
    simp only [Prod.mk.injEq] at hx
    have hlm : len ≤ m := by rw [hmm]; split <;> omega
    have each : ∀ i, i < len → V0 i = .int k0 (intOf (V0 i)) ∧ V1 i = .int k1 (intOf (V1 i)) ∧ (Lit.int k0 (intOf (V0 i))).wf = true ∧ (Lit.int k1 (intOf (V1 i))).wf = true := by
      intro i hi
      obtain ⟨_, _, t0, t1⟩ := hcell i (by omega)
      obtain ⟨x, ex, _, wx⟩ := DataW.trod_int u0 t0
      obtain ⟨z, ez, _, wz⟩ := DataW.trod_int u1 t1
      simp only [List.cons.injEq, and_true] at ex ez
      rw [ex, ez]
      exact ⟨rfl, rfl, wx, wz⟩
    refine ⟨(List.range len).map fun i => (intOf (V0 i), intOf (V1 i)), some a', cap, by simp, fun h0 => ?_, ?_, .inr ⟨_, _, hx.1, by simp⟩⟩
    · have h0' : 0 < len := by simpa using h0
      have hs : a'.spot = none := World.cell?_spot (w := w) (a := a') (v := V0 0) (by simpa [Addr.add] using (hcell 0 (by omega)).1)
      obtain ⟨b, off, sp⟩ := a'
      simp only at hs
      subst hs
      refine ⟨b, off, rfl, ?_, fun i p hp => ?_⟩
      · have := cell_lt (hcell 0 (by omega)).1
        rw [add_none] at this
        exact this
      · have hi : i < len := by
          have := (List.getElem?_eq_some_iff.1 hp).1
          simpa using this
        simp [hi] at hp
        subst hp
        obtain ⟨h1, h2, _, _⟩ := hcell i (by omega)
        rw [add_none] at h1 h2
        obtain ⟨e0, e1, _, _⟩ := each i hi
        rw [← e0, ← e1]
        exact ⟨h1, h2⟩
    · intro p hp
      simp at hp
      obtain ⟨i, hi, rfl⟩ := hp
      exact ⟨(each i hi).2.2.1, (each i hi).2.2.2⟩
end

/-- The reach bounds the elements of a slice argument. -/
theorem sized_elems {H : Type} {P : Program} {ts : List TypeId} {ds : List (DataW H)} {j : Nat} {t e : TypeId} {d : DataW H} {n k : Nat} (h : (DataW.weightsEach P ts ds).all (· ≤ reachBytes) = true) (ht : ts[j]? = some t) (hd : ds[j]? = some d) (hu : P.underlying t = some (.slice e))
    (hk : P.bytesOf e = k) (hn : n = 0 ∨ ∃ el sp, d = .slice el sp ∧ el.length = n) : n * k ≤ 140737488355328 := by
  rcases hn with rfl | ⟨el, sp, rfl, rfl⟩
  · omega
  · have h1 := sized_slice h ht hd hu
    have h2 := reachBytes_lt
    rw [hk] at h1
    have h3 : el.length * k ≤ (el.length + sp.length) * k := Nat.mul_le_mul_right _ (by omega)
    omega
end Go.Proofs.Ytpmjigghboifdaa
