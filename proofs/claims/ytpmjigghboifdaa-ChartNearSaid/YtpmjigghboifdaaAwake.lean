/- Walks over law06.awake and law06.is. -/
import Derived.Test.YtpmjigghboifdaaMove
import Derived.Test.YtpmjigghboifdaaSpiral
import Derived.Laws.StructEq
namespace Go.Proofs.Ytpmjigghboifdaa
open Go.RowKit Fl
attribute [local go_sem] run_store_complex run_neg_float

theorem awake_any (w : World) : Calls Try.prog 10 #[] w fun e w' =>
    e = .returned (.bool true) ∧ Below w.heap.size w w' := by
  have HT := times_yes 1 2 3 4 (by decide) (by decide)
  have HS := spiral_yes 3 (by decide)
  have e1 : timesP 1 2 3 4 = (-5, 10, 0) := by decide
  have e2 : (sp 3).x = 0 ∧ (sp 3).y = 1 := by decide
  rw [e1] at HT
  rw [e2.1, e2.2] at HS
  unfold spotV at HT HS
  have HT := Lib.hid HT
  have HS := Lib.hid HS
  clear e1 e2
  go_enter Try.func10, Try.ntmps10
  go_wp2_with fail
  refine (HT.out _).mono ?_
  rintro e w1 ⟨rfl, hb1⟩
  have z1 := hb1.size
  go_wp2_with fail
  refine (HS.out _).mono ?_
  rintro e w2 ⟨rfl, hb2⟩
  have hz : w1.heap.size < w2.heap.size := by have := hb2.size; simp at this; omega
  have k0 : w2.cell? ⟨w1.heap.size, 0, none⟩ = some (.int .i64 (-5)) := by rw [hb2.cell (by simp)]; go_simp
  have k1 : w2.cell? ⟨w1.heap.size, 1, none⟩ = some (.int .i64 10) := by rw [hb2.cell (by simp)]; go_simp
  have hB : Below w.heap.size w w2 := (hb1.alloc hb1.size _).trans (hb2.mono (by simp; omega))
  clear hb1 hb2
  go_wp2_with fail
  go_ret
  exact ⟨rfl, hB.alloc (by omega) _⟩

end Go.Proofs.Ytpmjigghboifdaa
