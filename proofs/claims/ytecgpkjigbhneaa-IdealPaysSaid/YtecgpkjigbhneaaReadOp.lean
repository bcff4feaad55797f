/- Steps as they read. -/
import Derived.Test.YtecgpkjigbhneaaIdlX
import Derived.Test.YtecgpkjigbhneaaRead
import Derived.Test.YtecgpkjigbhneaaEnd
namespace Go.Proofs.Ytecgpkjigbhneaa
set_option linter.unusedVariables false
set_option linter.unusedSimpArgs false
set_option linter.unnecessarySimpa false
open Go.RowKit
set_option maxRecDepth 100000

theorem u64_of {a : Int} (h : (Lit.int .u64 a).wf = true) : U64 a := ⟨(bd_u64 h).1, by have := (bd_u64 h).2; omega⟩
theorem take_one {α : Type} {l : List α} {a : α} (h : l.take 1 = [a]) : l = a :: l.drop 1 := by
  match l, h with
  | x :: l, h => simp at h; subst h; rfl
theorem recs_i64 {W : World} {cs : List Value} {p : Option Addr × Nat × List Int} (h : rSlice 1 8 (rInt .i64) W cs p) : cs = [.slice p.1 p.2.2.length p.2.1] ∧ Recs 1 iC_i64 W p.1 p.2.1 p.2.2 := by
  obtain ⟨h1, n1, l1, cells1, c1, s1, r1⟩ := h
  exact ⟨h1, Recs.ofCells iC_len_i64 n1 (by omega) c1 s1 fun i x hx => (r1 i x hx).1⟩
theorem recs_u64 {W : World} {cs : List Value} {p : Option Addr × Nat × List Int} (h : rSlice 1 8 (rInt .u64) W cs p) : cs = [.slice p.1 p.2.2.length p.2.1] ∧ Recs 1 iC_u64 W p.1 p.2.1 p.2.2 ∧ ∀ a ∈ p.2.2, U64 a := by
  obtain ⟨h1, n1, l1, cells1, c1, s1, r1⟩ := h
  refine ⟨h1, Recs.ofCells iC_len_u64 n1 (by omega) c1 s1 fun i x hx => (r1 i x hx).1, fun a ha => ?_⟩
  obtain ⟨i, hi, rfl⟩ := List.getElem_of_mem ha
  exact u64_of (r1 i _ (List.getElem?_eq_getElem hi)).2
abbrev SlR := Option Addr × Nat × List Int
abbrev OpT := Int × Int × Int × Int × Int × Int × SlR × SlR × Bool × Unit
def rOp : Rd OpT := rSeq 1 (rInt .i64) (rSeq 1 (rInt .i64) (rSeq 1 (rInt .i64) (rSeq 1 (rInt .u64) (rSeq 1 (rInt .u64) (rSeq 1 (rInt .u64) (rSeq 1 (rSlice 1 8 (rInt .i64)) (rSeq 1 (rSlice 1 8 (rInt .u64)) (rSeq 1 rBool rNil))))))))
theorem reads_op : Reads Try.prog 40 9 rOp := reads_struct Try.underlying40 (by kernel_rfl) (.cons rfl (reads_int Try.underlying3 (by kernel_rfl)) (.cons rfl (reads_int Try.underlying3 (by kernel_rfl)) (.cons rfl (reads_int Try.underlying3 (by kernel_rfl))
  (.cons rfl (reads_int Try.underlying23 (by kernel_rfl)) (.cons rfl (reads_int Try.underlying23 (by kernel_rfl)) (.cons rfl (reads_int Try.underlying23 (by kernel_rfl))
  (.cons rfl (reads_slice Try.underlying28 (by kernel_rfl) (by kernel_rfl) (by decide) (reads_int Try.underlying3 (by kernel_rfl))) (.cons rfl (reads_slice Try.underlying22 (by kernel_rfl) (by kernel_rfl) (by decide) (reads_int Try.underlying23 (by kernel_rfl))) (.cons rfl (reads_bool Try.underlying4 (by kernel_rfl)) (.nil _))))))))))
def opOf (x : OpT) : OpV := ⟨x.1, x.2.1, x.2.2.1, x.2.2.2.1, x.2.2.2.2.1, x.2.2.2.2.2.1, x.2.2.2.2.2.2.1.1, x.2.2.2.2.2.2.1.2.1, x.2.2.2.2.2.2.1.2.2, x.2.2.2.2.2.2.2.1.1, x.2.2.2.2.2.2.2.1.2.1, x.2.2.2.2.2.2.2.1.2.2, x.2.2.2.2.2.2.2.2.1⟩
theorem op_of {W : World} {cs : List Value} {x : OpT} (h : rOp W cs x) : cs = opC (opOf x) ∧ StOk W (opOf x) := by
  obtain ⟨⟨h1, w1⟩, ⟨h2, w2⟩, ⟨h3, w3⟩, ⟨h4, w4⟩, ⟨h5, w5⟩, ⟨h6, w6⟩, h7, h8, h9, h10⟩ := h
  obtain ⟨a1, a2⟩ := recs_i64 h7
  obtain ⟨b1, b2, b3⟩ := recs_u64 h8
  have e10 : List.drop 1 (List.drop 1 (List.drop 1 (List.drop 1 (List.drop 1 (List.drop 1 (List.drop 1 (List.drop 1 (List.drop 1 cs)))))))) = [] := h10
  have e1 := take_one h1
  have e2 := take_one h2
  have e3 := take_one h3
  have e4 := take_one h4
  have e5 := take_one h5
  have e6 := take_one h6
  have e7 := take_one a1
  have e8 := take_one b1
  have e9 := take_one h9
  rw [e10] at e9
  rw [e9] at e8
  rw [e8] at e7
  rw [e7] at e6
  rw [e6] at e5
  rw [e5] at e4
  rw [e4] at e3
  rw [e3] at e2
  rw [e2] at e1
  exact ⟨e1, a2, b2, u64_of w4, u64_of w5, b3⟩
theorem ops_of {W : World} {cs : List Value} {x : Option Addr × Nat × List OpT} (h : rSlice 9 104 rOp W cs x) : cs = [.slice x.1 (x.2.2.map opOf).length x.2.1] ∧ Recs 9 opC W x.1 x.2.1 (x.2.2.map opOf) ∧ ∀ o ∈ x.2.2.map opOf, StOk W o := by
  obtain ⟨h1, n1, l1, cells1, c1, s1, r1⟩ := h
  refine ⟨by rw [h1, List.length_map], ?_, fun o ho => ?_⟩
  · refine Recs.ofCells opC_len (fun h => by simpa using n1 h) (by rw [List.length_map]; omega) (by simpa using c1) s1 fun i p hp => ?_
    simp only [List.getElem?_map, Option.map_eq_some_iff] at hp
    obtain ⟨y, hy, rfl⟩ := hp
    exact (op_of (r1 i y hy)).1
  · rw [List.mem_map] at ho
    obtain ⟨y, hy, rfl⟩ := ho
    obtain ⟨i, hi, rfl⟩ := List.getElem_of_mem hy
    exact (op_of (r1 i _ (List.getElem?_eq_getElem hi))).2
end Go.Proofs.Ytecgpkjigbhneaa
