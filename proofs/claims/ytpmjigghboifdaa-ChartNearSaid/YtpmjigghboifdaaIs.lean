/- Walk over law06.is, at equal arguments. -/
import Derived.Test.YtpmjigghboifdaaAwake
import Derived.Test.YtpmjigghboifdaaFlow
namespace Go.Proofs.Ytpmjigghboifdaa
open Go.RowKit Fl

theorem is_any (x y e : Int) (w : World) : Calls Try.prog 21 #[.agg #[.int .i64 x, .int .i64 y], .int .i64 e, .agg #[.int .i64 x, .int .i64 y], .int .i64 e] w fun e' w' =>
    e' = .returned (.bool true) ∧ Below w.heap.size w w' := by
  have hT0 : Two w w.heap.size (w.heap.size + 1) x y x y ((w.alloc (.cells #[.int .i64 x, .int .i64 y] 23)).alloc (.cells #[.int .i64 x, .int .i64 y] 29)) := by
    refine ⟨⟨by go_simp, by go_simp, by go_simp, by go_simp⟩, ⟨by simp <;> omega, by simp <;> omega⟩, ?_⟩
    exact ((Below.refl _ _).alloc (Nat.le_refl _) _).alloc (by simp) _
  have HT := Lib.hid hT0
  clear hT0
  go_enter Try.func21, Try.ntmps21
  go_wp2_with fail
  refine region_flow (S := fun w' => (w'.cell? ⟨w.heap.size, 0, none⟩ = some (.int .i64 x) ∧ w'.cell? ⟨w.heap.size, 1, none⟩ = some (.int .i64 y) ∧ w'.cell? ⟨w.heap.size + 1, 0, none⟩ = some (.int .i64 x) ∧ w'.cell? ⟨w.heap.size + 1, 1, none⟩ = some (.int .i64 y)) ∧ (w.heap.size < w'.heap.size ∧ w.heap.size + 1 < w'.heap.size) ∧ Below w.heap.size w w') (vs := [?v0, ?v1, ?v2, ?v3, ?v4, ?v5, ?v6, ?v7, ?v8, ?v9]) (by kernel_rfl) (by kernel_rfl) (by kernel_rfl) (by kernel_rfl) (by kernel_rfl) rfl ?hS ?hops ?hend
  case hS => exact HT.out.drew
  case hops =>
    simp only [OpsOk, fillT, List.setIfInBounds_toArray, List.set_cons_zero, List.set_cons_succ]
    refine ⟨.inl ⟨by rfl, opOk_pure fun wS hS => ?_⟩, ?_⟩
    · ((try dsimp only at hS); go_simp); try (with_reducible rfl)
    refine ⟨.inl ⟨by rfl, opOk_pure fun wS hS => ?_⟩, ?_⟩
    · ((try dsimp only at hS); go_simp); try (with_reducible rfl)
    refine ⟨.inl ⟨by rfl, opOk_call (f := 11) (args := ?a2) (fun wS hS => ?_) (fun wS hS => ?_)⟩, ?_⟩
    rotate_left 1
    · ((try dsimp only at hS); go_simp); try (with_reducible rfl)
    · refine (To_any x y _).mono ?_
      rintro e' w2 ⟨rfl, hb⟩
      refine ⟨?_, Two.keep hb hS⟩
      rfl
    refine ⟨.inl ⟨by rfl, opOk_pure fun wS hS => ?_⟩, ?_⟩
    · ((try dsimp only at hS); go_simp); try (with_reducible rfl)
    refine ⟨.inl ⟨by rfl, opOk_pure fun wS hS => ?_⟩, ?_⟩
    · ((try dsimp only at hS); go_simp); try (with_reducible rfl)
    refine ⟨.inl ⟨by rfl, opOk_pure fun wS hS => ?_⟩, ?_⟩
    · ((try dsimp only at hS); go_simp); try (with_reducible rfl)
    refine ⟨.inl ⟨by rfl, opOk_pure fun wS hS => ?_⟩, ?_⟩
    · ((try dsimp only at hS); go_simp); try (with_reducible rfl)
    refine ⟨.inl ⟨by rfl, opOk_pure fun wS hS => ?_⟩, ?_⟩
    · ((try dsimp only at hS); go_simp); try (with_reducible rfl)
    refine ⟨.inl ⟨by rfl, opOk_pure fun wS hS => ?_⟩, ?_⟩
    · ((try dsimp only at hS); go_simp); try (with_reducible rfl)
    refine ⟨.inl ⟨by rfl, opOk_pure fun wS hS => ?_⟩, ?_⟩
    · ((try dsimp only at hS); go_simp); try (with_reducible rfl)
    trivial
  case hend =>
    intro wE hE
    simp only [OpsOk, fillT, List.setIfInBounds_toArray, List.set_cons_zero, List.set_cons_succ]
    go_wp2
    go_ret
    exact ⟨rfl, hE.2.2⟩
end Go.Proofs.Ytpmjigghboifdaa
