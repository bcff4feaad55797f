/- A route as it reads. -/
import Derived.Test.YtcfpbemoocegfaaReadWeb
import Derived.Test.YtcfpbemoocegfaaGo
namespace Go.Proofs.Ytcfpbemoocegfaa
set_option linter.unusedVariables false
set_option linter.unusedSimpArgs false
set_option linter.unnecessarySimpa false
open Go.RowKit
set_option maxRecDepth 100000

theorem recs_i64 {W : World} {cs : List Value} {p : Option Addr × Nat × List Int} (h : rSlice 1 8 (rInt .i64) W cs p) : cs = [.slice p.1 p.2.2.length p.2.1] ∧ Recs 1 iC_i64 W p.1 p.2.1 p.2.2 ∧ ∀ a ∈ p.2.2, I64 a := by
  obtain ⟨h1, n1, l1, cells1, c1, s1, r1⟩ := h
  refine ⟨h1, Recs.ofCells iC_len_i64 n1 (by omega) c1 s1 fun i x hx => (r1 i x hx).1, fun a ha => ?_⟩
  obtain ⟨i, hi, rfl⟩ := List.getElem_of_mem ha
  exact i64_of (r1 i _ (List.getElem?_eq_getElem hi)).2
theorem recs_u64 {W : World} {cs : List Value} {p : Option Addr × Nat × List Int} (h : rSlice 1 8 (rInt .u64) W cs p) : cs = [.slice p.1 p.2.2.length p.2.1] ∧ Recs 1 iC_u64 W p.1 p.2.1 p.2.2 ∧ ∀ a ∈ p.2.2, U64 a := by
  obtain ⟨h1, n1, l1, cells1, c1, s1, r1⟩ := h
  refine ⟨h1, Recs.ofCells iC_len_u64 n1 (by omega) c1 s1 fun i x hx => (r1 i x hx).1, fun a ha => ?_⟩
  obtain ⟨i, hi, rfl⟩ := List.getElem_of_mem ha
  exact u64_of (r1 i _ (List.getElem?_eq_getElem hi)).2
abbrev SlR := Option Addr × Nat × List Int
abbrev RtR := SlR × SlR × SlR × Unit
def rRt : Rd RtR := rSeq 1 (rSlice 1 8 (rInt .i64)) (rSeq 1 (rSlice 1 8 (rInt .i64)) (rSeq 1 (rSlice 1 8 (rInt .u64)) rNil))
theorem reads_rt : Reads Try.prog 45 3 rRt := reads_struct Try.underlying45 (by kernel_rfl) (.cons rfl (reads_slice Try.underlying42 (by kernel_rfl) (by kernel_rfl) (by decide) (reads_int Try.underlying3 (by kernel_rfl))) (.cons rfl (reads_slice Try.underlying42 (by kernel_rfl) (by kernel_rfl) (by decide) (reads_int Try.underlying3 (by kernel_rfl))) (.cons rfl (reads_slice Try.underlying43 (by kernel_rfl) (by kernel_rfl) (by decide) (reads_int Try.underlying26 (by kernel_rfl))) (.nil _))))
theorem rt_of {W : World} {cs : List Value} {x : RtR} (h : rRt W cs x) : cs = [.slice x.1.1 x.1.2.2.length x.1.2.1, .slice x.2.1.1 x.2.1.2.2.length x.2.1.2.1, .slice x.2.2.1.1 x.2.2.1.2.2.length x.2.2.1.2.1] ∧ Recs 1 iC_i64 W x.1.1 x.1.2.1 x.1.2.2 ∧ Recs 1 iC_i64 W x.2.1.1 x.2.1.2.1 x.2.1.2.2 ∧ Recs 1 iC_u64 W x.2.2.1.1 x.2.2.1.2.1 x.2.2.1.2.2 ∧ ∀ a ∈ x.2.2.1.2.2, U64 a := by
  obtain ⟨h1, h2, h3, h4⟩ := h
  obtain ⟨a1, a2, a3⟩ := recs_i64 h1
  obtain ⟨b1, b2, b3⟩ := recs_i64 h2
  obtain ⟨c1, c2, c3⟩ := recs_u64 h3
  have e4 : List.drop 1 (List.drop 1 (List.drop 1 cs)) = [] := h4
  have e1 := take_one a1
  have e2 := take_one b1
  have e3 := take_one c1
  rw [e4] at e3
  rw [e3] at e2
  rw [e2] at e1
  exact ⟨e1, a2, b2, c2, c3⟩
end Go.Proofs.Ytcfpbemoocegfaa
