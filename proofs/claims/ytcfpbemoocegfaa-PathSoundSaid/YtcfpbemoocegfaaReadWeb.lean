/- A web as it reads. -/
import Derived.Test.YtcfpbemoocegfaaWnew
import Derived.Test.YtcfpbemoocegfaaRead
import Derived.Test.YtcfpbemoocegfaaEnd
namespace Go.Proofs.Ytcfpbemoocegfaa
set_option linter.unusedVariables false
set_option linter.unusedSimpArgs false
set_option linter.unnecessarySimpa false
open Go.RowKit

abbrev SpR := Int × Int × Unit
abbrev FeR := Int × Int × Unit
abbrev EdR := (Int × Int) × (Int × Int) × (FeR × FeR) × Unit
abbrev WbR := (Option Addr × Nat × List SpR) × (Option Addr × Nat × List EdR) × Unit
def rSp : Rd SpR := rSeq 1 (rInt .i64) (rSeq 1 (rInt .i64) rNil)
def rFe : Rd FeR := rSeq 1 (rInt .u64) (rSeq 1 (rInt .u64) rNil)
def rEd : Rd EdR := rSeq 2 (rSeq 1 (rInt .i64) (rInt .i64)) (rSeq 2 (rSeq 1 (rInt .u64) (rInt .u64)) (rSeq 4 (rSeq 2 rFe rFe) rNil))
def rWb : Rd WbR := rSeq 1 (rSlice 2 16 rSp) (rSeq 1 (rSlice 8 64 rEd) rNil)
set_option maxRecDepth 100000 in
theorem reads_sp : Reads Try.prog 106 2 rSp := reads_struct Try.underlying106 (by kernel_rfl) (.cons rfl (reads_int Try.underlying3 (by kernel_rfl)) (.cons rfl (reads_int Try.underlying3 (by kernel_rfl)) (.nil _)))
set_option maxRecDepth 100000 in
theorem reads_fe : Reads Try.prog 101 2 rFe := reads_struct Try.underlying101 (by kernel_rfl) (.cons rfl (reads_int Try.underlying26 (by kernel_rfl)) (.cons rfl (reads_int Try.underlying26 (by kernel_rfl)) (.nil _)))
set_option maxRecDepth 100000 in
theorem reads_ed : Reads Try.prog 104 8 rEd := reads_struct Try.underlying104 (by kernel_rfl) (.cons rfl (reads_arr2 Try.underlying56 (by kernel_rfl) (reads_int Try.underlying3 (by kernel_rfl))) (.cons rfl (reads_arr2 Try.underlying57 (by kernel_rfl) (reads_int Try.underlying26 (by kernel_rfl)))
  (.cons rfl (reads_arr2 Try.underlying102 (by kernel_rfl) reads_fe) (.nil _))))
set_option maxRecDepth 100000 in
theorem reads_wb : Reads Try.prog 25 2 rWb := reads_struct Try.underlying25 (by kernel_rfl) (.cons rfl (reads_slice Try.underlying22 (by kernel_rfl) (by kernel_rfl) (by decide) reads_sp)
  (.cons rfl (reads_slice Try.underlying23 (by kernel_rfl) (by kernel_rfl) (by decide) reads_ed) (.nil _)))
def edOf (e : EdR) : Edg := ⟨e.1.1, e.1.2, e.2.1.1, e.2.1.2, e.2.2.1.1.1, e.2.2.1.1.2.1, e.2.2.1.2.1, e.2.2.1.2.2.1⟩
def wbOf (x : WbR) : Wb := ⟨x.1.2.2.map fun p => (p.1, p.2.1), x.2.1.2.2.map edOf⟩
theorem take_one {α : Type} {l : List α} {a : α} (h : l.take 1 = [a]) : l = a :: l.drop 1 := by
  match l, h with
  | x :: l, h => simp at h; subst h; rfl
theorem u64_of {a : Int} (h : (Lit.int .u64 a).wf = true) : U64 a := ⟨(bd_u64 h).1, by have := (bd_u64 h).2; omega⟩
theorem i64_of {a : Int} (h : (Lit.int .i64 a).wf = true) : I64 a := bd_i64 h
theorem two_of {k : IntKind} {W : World} {cs : List Value} {p : Int × Int × Unit} (h : rSeq 1 (rInt k) (rSeq 1 (rInt k) rNil) W cs p) : cs = [.int k p.1, .int k p.2.1] ∧ (Lit.int k p.1).wf = true ∧ (Lit.int k p.2.1).wf = true := by
  obtain ⟨⟨h1, w1⟩, ⟨h2, w2⟩, h3⟩ := h
  have e3 : List.drop 1 (List.drop 1 cs) = [] := h3
  have e1 := take_one h1
  have e2 := take_one h2
  rw [e3] at e2
  rw [e2] at e1
  exact ⟨e1, w1, w2⟩
theorem pair_of {k : IntKind} {W : World} {cs : List Value} {p : Int × Int} (h : rSeq 1 (rInt k) (rInt k) W cs p) : cs = [.int k p.1, .int k p.2] ∧ (Lit.int k p.1).wf = true ∧ (Lit.int k p.2).wf = true := by
  obtain ⟨⟨h1, w1⟩, ⟨h2, w2⟩⟩ := h
  have e1 := take_one h1
  rw [h2] at e1
  exact ⟨e1, w1, w2⟩
theorem split_at {α : Type} (n : Nat) (l : List α) : l = l.take n ++ l.drop n := (List.take_append_drop n l).symm
theorem ed_at {W : World} {cs : List Value} {e : EdR} (h : rEd W cs e) : cs = edC (edOf e) ∧ (edOf e).Ok := by
  obtain ⟨h1, h2, ⟨h3, h4⟩, h5⟩ := h
  obtain ⟨a1, a2, a3⟩ := pair_of h1
  obtain ⟨b1, b2, b3⟩ := pair_of h2
  obtain ⟨c1, c2, c3⟩ := two_of h3
  obtain ⟨d1, d2, d3⟩ := two_of h4
  have e5 : List.drop 4 (List.drop 2 (List.drop 2 cs)) = [] := h5
  have e1 := split_at 2 cs
  have e2 := split_at 2 (List.drop 2 cs)
  have e3 := split_at 4 (List.drop 2 (List.drop 2 cs))
  have e4 := split_at 2 (List.take 4 (List.drop 2 (List.drop 2 cs)))
  rw [c1, d1] at e4
  rw [e4, e5] at e3
  rw [b1, e3] at e2
  rw [a1, e2] at e1
  exact ⟨e1, ⟨i64_of a2, i64_of a3, u64_of b2, u64_of b3, u64_of c2, u64_of c3, u64_of d2, u64_of d3⟩⟩
theorem web_of {W : World} {cs : List Value} {x : WbR} (h : rWb W cs x) : cs = [.slice x.1.1 (wbOf x).spots.length x.1.2.1, .slice x.2.1.1 (wbOf x).edges.length x.2.1.2.1] ∧ WebAt W x.1.1 x.1.2.1 x.2.1.1 x.2.1.2.1 (wbOf x) ∧ (wbOf x).Ok := by
  obtain ⟨⟨h1, n1, l1, cells1, c1, s1, r1⟩, ⟨h2, n2, l2, cells2, c2, s2, r2⟩, h3⟩ := h
  have e3 : List.drop 1 (List.drop 1 cs) = [] := h3
  have e1 := take_one h1
  have e2 := take_one h2
  rw [e3] at e2
  rw [e2] at e1
  refine ⟨by rw [e1]; simp [wbOf], ⟨?_, ?_⟩, ?_, ?_⟩
  · refine Recs.ofCells spC_len (fun h => by simpa [wbOf] using n1 h) (by simp [wbOf]; omega) (by simpa [wbOf] using c1) s1 fun i p hp => ?_
    simp only [wbOf, List.getElem?_map, Option.map_eq_some_iff] at hp
    obtain ⟨y, hy, rfl⟩ := hp
    exact (two_of (r1 i y hy)).1
  · refine Recs.ofCells edC_len (fun h => by simpa [wbOf] using n2 h) (by simp [wbOf]; omega) (by simpa [wbOf] using c2) s2 fun i p hp => ?_
    simp only [wbOf, List.getElem?_map, Option.map_eq_some_iff] at hp
    obtain ⟨y, hy, rfl⟩ := hp
    exact (ed_at (r2 i y hy)).1
  · intro e he
    simp only [wbOf, List.mem_map] at he
    obtain ⟨y, hy, rfl⟩ := he
    obtain ⟨i, hi, rfl⟩ := List.getElem_of_mem hy
    exact (ed_at (r2 i _ (List.getElem?_eq_getElem hi))).2
  · intro p hp
    simp only [wbOf, List.mem_map] at hp
    obtain ⟨y, hy, rfl⟩ := hp
    obtain ⟨i, hi, rfl⟩ := List.getElem_of_mem hy
    obtain ⟨_, a, b⟩ := two_of (r1 i _ (List.getElem?_eq_getElem hi))
    exact ⟨i64_of a, i64_of b⟩
theorem light_small {x : Wb} (h : lightP x = true) : x.spots.length ≤ 1000 ∧ x.edges.length ≤ 1000 ∧ x.spots.length ≤ 20 ∧ x.edges.length ≤ 30 := by
  unfold lightP at h
  simp at h
  omega
end Go.Proofs.Ytcfpbemoocegfaa
