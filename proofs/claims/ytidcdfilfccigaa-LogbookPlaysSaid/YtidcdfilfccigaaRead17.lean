/- Arguments as they read: texts, bytes, steps. -/
import Derived.Test.YtidcdfilfccigaaRead
import Derived.Test.YtidcdfilfccigaaGsmap
import Derived.Test.YtidcdfilfccigaaEnd
namespace Go.Proofs.Ytidcdfilfccigaa
set_option linter.unusedVariables false
set_option linter.unusedSimpArgs false
set_option linter.unnecessarySimpa false
open Go.RowKit Go
set_option maxRecDepth 100000

theorem str_bs (s : ByteArray) : Value.string s = strV s.data.toList := by
  unfold strV
  simp
theorem str_size9 (s : ByteArray) : s.data.toList.length = s.size := Array.length_toList
theorem take_one {α : Type} {l : List α} {a : α} (h : l.take 1 = [a]) : l = a :: l.drop 1 := by
  match l, h with
  | x :: l, h => simp at h; subst h; rfl
/-- A step. -/
structure OpV where
  kind : Int
  nm : Bs
  vl : Bs
  wh : Nat
  n : Int
  k0 : Int
  k1 : Int
  z0 : Int
  z1 : Int
def opC (o : OpV) : List Value := [.int .i64 o.kind, strV o.nm, strV o.vl, .int .u8 (o.wh : Nat), .int .i64 o.n, .int .i64 o.k0, .int .i64 o.k1, .int .i64 o.z0, .int .i64 o.z1]
theorem opC_len (o : OpV) : (opC o).length = 9 := rfl
/-- A step's numbers are numbers. -/
structure StOk (o : OpV) : Prop where
  kd : -9223372036854775808 ≤ o.kind ∧ o.kind ≤ 9223372036854775807
  wh : o.wh < 256
  n : -9223372036854775808 ≤ o.n ∧ o.n ≤ 9223372036854775807
  k0 : -9223372036854775808 ≤ o.k0 ∧ o.k0 ≤ 9223372036854775807
  k1 : -9223372036854775808 ≤ o.k1 ∧ o.k1 ≤ 9223372036854775807
  z0 : -9223372036854775808 ≤ o.z0 ∧ o.z0 ≤ 9223372036854775807
  z1 : -9223372036854775808 ≤ o.z1 ∧ o.z1 ≤ 9223372036854775807
  nl : o.nm.length ≤ 140737488355328
  vl : o.vl.length ≤ 140737488355328
abbrev OpT := Int × ByteArray × ByteArray × Int × Int × (Int × Int) × (Int × Int) × Unit
def rOp : Rd OpT := rSeq 1 (rInt .i64) (rSeq 1 rStr (rSeq 1 rStr (rSeq 1 (rInt .u8) (rSeq 1 (rInt .i64) (rSeq 2 (rSeq 1 (rInt .i64) (rInt .i64)) (rSeq 2 (rSeq 1 (rInt .i64) (rInt .i64)) rNil))))))
theorem reads_op : Reads Try.prog 33 9 rOp := reads_struct Try.underlying33 (by kernel_rfl) (.cons rfl (reads_int Try.underlying3 (by kernel_rfl)) (.cons rfl (reads_str Try.underlying9 (by kernel_rfl)) (.cons rfl (reads_str Try.underlying9 (by kernel_rfl)) (.cons rfl (reads_int Try.underlying5 (by kernel_rfl)) (.cons rfl (reads_int Try.underlying3 (by kernel_rfl))
  (.cons rfl (reads_arr2 Try.underlying31 (by kernel_rfl) (reads_int Try.underlying3 (by kernel_rfl))) (.cons rfl (reads_arr2 Try.underlying31 (by kernel_rfl) (reads_int Try.underlying3 (by kernel_rfl))) (.nil _))))))))
def opOf (x : OpT) : OpV := ⟨x.1, x.2.1.data.toList, x.2.2.1.data.toList, x.2.2.2.1.toNat, x.2.2.2.2.1, x.2.2.2.2.2.1.1, x.2.2.2.2.2.1.2, x.2.2.2.2.2.2.1.1, x.2.2.2.2.2.2.1.2⟩
theorem two_of {W : World} {cs : List Value} {p : Int × Int} (h : rSeq 1 (rInt .i64) (rInt .i64) W (cs.take 2) p) : cs = .int .i64 p.1 :: .int .i64 p.2 :: cs.drop 2 ∧ (-9223372036854775808 ≤ p.1 ∧ p.1 ≤ 9223372036854775807) ∧ -9223372036854775808 ≤ p.2 ∧ p.2 ≤ 9223372036854775807 := by
  obtain ⟨⟨h1, w1⟩, h2, w2⟩ := h
  refine ⟨?_, bd_i64 w1, bd_i64 w2⟩
  match cs, h1, h2 with
  | [], h1, _ => simp at h1
  | [x], _, h2 => simp at h2
  | x :: y :: cs, h1, h2 => simp at h1 h2; subst h1; subst h2; rfl
theorem op_of {W : World} {cs : List Value} {x : OpT} (h : rOp W cs x) : cs = opC (opOf x) ∧ StOk (opOf x) := by
  obtain ⟨⟨h1, w1⟩, ⟨h2, w2⟩, ⟨h3, w3⟩, ⟨h4, w4⟩, ⟨h5, w5⟩, h6, h7, h8⟩ := h
  obtain ⟨e6, a6, b6⟩ := two_of h6
  obtain ⟨e7, a7, b7⟩ := two_of h7
  obtain ⟨k1, k2⟩ := bd_u8 w4
  refine ⟨?_, bd_i64 w1, by show x.2.2.2.1.toNat < 256; omega, bd_i64 w5, a6, b6, a7, b7, by show x.2.1.data.toList.length ≤ _; rw [str_size9]; exact w2, by show x.2.2.1.data.toList.length ≤ _; rw [str_size9]; exact w3⟩
  have e8 : List.drop 2 (List.drop 2 (List.drop 1 (List.drop 1 (List.drop 1 (List.drop 1 (List.drop 1 cs)))))) = [] := h8
  have e1 := take_one h1
  have e2 := take_one h2
  have e3 := take_one h3
  have e4 := take_one h4
  have e5 := take_one h5
  rw [e8] at e7
  rw [e7] at e6
  rw [e6] at e5
  rw [e5] at e4
  rw [e4] at e3
  rw [e3] at e2
  rw [e2] at e1
  rw [e1, str_bs, str_bs]
  have e9 : ((x.2.2.2.1.toNat : Nat) : Int) = x.2.2.2.1 := by omega
  unfold opC opOf
  dsimp only
  rw [e9]
theorem ops_of {W : World} {cs : List Value} {x : Option Addr × Nat × List OpT} (h : rSlice 9 88 rOp W cs x) : cs = [.slice x.1 (x.2.2.map opOf).length x.2.1] ∧ Recs 9 opC W x.1 x.2.1 (x.2.2.map opOf) ∧ ∀ o ∈ x.2.2.map opOf, StOk o := by
  obtain ⟨h1, n1, l1, cells1, c1, s1, r1⟩ := h
  refine ⟨by rw [h1, List.length_map], ?_, fun o ho => ?_⟩
  · refine Recs.ofCells opC_len (fun h => by simpa using n1 h) (by rw [List.length_map]; omega) (by simpa using c1) s1 fun i p hp => ?_
    simp only [List.getElem?_map, Option.map_eq_some_iff] at hp
    obtain ⟨y, hy, rfl⟩ := hp
    exact (op_of (r1 i y hy)).1
  · rw [List.mem_map] at ho
    obtain ⟨y, hy, rfl⟩ := ho
    obtain ⟨i, hi, rfl⟩ := List.getElem_of_mem hy
    exact (op_of (r1 i _ (List.getElem?_eq_getElem hi))).2
end Go.Proofs.Ytidcdfilfccigaa
