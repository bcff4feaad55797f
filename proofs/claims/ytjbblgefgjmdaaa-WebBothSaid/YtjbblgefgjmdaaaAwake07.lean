/- Walk over the law's example. -/
import Derived.Test.YtjbblgefgjmdaaaSent07
namespace Go.Proofs.Ytjbblgefgjmdaaa
set_option linter.unusedVariables false
set_option linter.unusedSimpArgs false
set_option linter.unnecessarySimpa false
open Go.RowKit

theorem WebAt.ofNew {w0 w w' : World} {l : List Asn} {TS TE : TypeId} {A1 A2 : Option Addr} {c1 c2 : Nat} {x : Wb} (h : Sat w0 w' l) {i j : Nat} (hi : l[i]? = some (row TS 2 (.slice A1 x.spots.length c1) x.spots.length (x.spots.flatMap spC))) (hj : l[j]? = some (row TE 8 (.slice A2 x.edges.length c2) x.edges.length (x.edges.flatMap edC)))
    (hs : x.spots.length ≤ 1000 ∧ x.edges.length ≤ 1000) : WebAt w' A1 c1 A2 c2 x := WebAt.ofRows h hi hj ⟨by omega, by omega⟩
def x0 : Wb := ⟨[(0, 0), (0, 0)], [⟨0, 1, 5, 3, 0, 0, 0, 0⟩]⟩
def x1 : Wb := ⟨[(0, 0), (0, 0)], [⟨0, 1, 3, 5, 0, 0, 0, 0⟩]⟩
theorem x0_ok : x0.Ok := by
  refine ⟨fun e he => ?_, fun p hp => ?_⟩
  · simp [x0] at he; subst he
    exact ⟨⟨by decide, by decide⟩, ⟨by decide, by decide⟩, ⟨by decide, by decide⟩, ⟨by decide, by decide⟩, ⟨by decide, by decide⟩, ⟨by decide, by decide⟩, ⟨by decide, by decide⟩, ⟨by decide, by decide⟩⟩
  · simp [x0] at hp; subst hp
    exact ⟨⟨by decide, by decide⟩, ⟨by decide, by decide⟩⟩
theorem x0_sent : sentP x0 0 0 2 = (x1, 0) := by
  have hc : chkP x0 = 0 := by decide
  have h := sent_at (x := x0) (k := 0) hc (by decide) 0 2
  rw [show ((0 : Nat) : Int) = 0 from rfl] at h
  rw [h]
  rfl
set_option maxRecDepth 100000 in
set_option maxHeartbeats 2000000 in
theorem awake_any (w : World) : Calls Try.prog 8 #[] w fun e w' => e = .returned (.bool true) ∧ Below w.heap.size w w' := by
  have hmk : ∀ w, (Instr.makeSlice 22 (.int .i64 2) (.int .i64 2)).run Try.prog w = .ok (.slice (some ⟨w.heap.size, 0, none⟩) 2 2) (w.alloc (.cells #[.int .i64 0, .int .i64 0, .int .i64 0, .int .i64 0] 70)) := fun _ => by kernel_rfl
  have heq : ∀ w, (binOp .eql 49 (.agg #[.int .u64 3, .int .u64 5]) (.agg #[.int .u64 3, .int .u64 5])).run Try.prog w = .ok (.bool true) w := fun _ => by kernel_rfl
  have h1 := (((Sat.pushRest w).alloc #[.int .i64 0, .int .i64 0, .int .i64 0, .int .i64 0] 70).alloc #[.int .i64 0, .int .i64 1, .int .u64 5, .int .u64 3, .int .u64 0, .int .u64 0, .int .u64 0, .int .u64 0] 80).alloc #[.slice (some ⟨w.heap.size, 0, none⟩) 2 2, .slice (some ⟨w.heap.size + 1, 0, none⟩) 1 1] 25
  try simp only [List.cons_append, List.nil_append, List.set_cons_succ, List.set_cons_zero, Nat.zero_add, Nat.reduceAdd, World.size_alloc, World.size_drew] at h1
  have hwa : WebAt _ (some ⟨w.heap.size, 0, none⟩) 2 (some ⟨w.heap.size + 1, 0, none⟩) 1 x0 := ⟨⟨(fun h => by cases h), box_src h1 (i := 1) rfl, by decide⟩, ⟨(fun h => by cases h), box_src h1 (i := 2) rfl, by decide⟩⟩
  have ht := to_any _ _ _ _ _ x0 hwa x0_ok ⟨by decide, by decide⟩
  have HT := Lib.hid ht
  have H1 := Lib.hid h1
  clear h1 hwa ht
  go_enter Try.func8, Try.ntmps8
  go_wp2_with fail
  refine (HT.out).mono ?_
  rintro e w2 ⟨A1, c1, A2, c2, rfl, g⟩
  have h2 := H1.out.pushThings g
  try simp only [List.cons_append, List.nil_append, List.set_cons_succ, List.set_cons_zero, Nat.zero_add, Nat.reduceAdd, World.size_alloc, World.size_drew] at h2
  have H2 := Lib.hid h2
  clear g h2
  have hw2 := WebAt.ofNew (x := x0) (w := w) H2.out (i := 4) (j := 5) rfl rfl ⟨by decide, by decide⟩
  have hse := sent_any _ A1 c1 A2 c2 x0 hw2 x0_ok 0 0 2 ⟨by decide, by decide⟩ ⟨by decide, by decide⟩ ⟨by decide, by decide⟩
  rw [x0_sent] at hse
  have HSE := Lib.hid hse
  clear hw2 hse
  go_wp2_with fail
  refine HSE.out.mono ?_
  rintro e w5 ⟨A3, c3, A4, c4, rfl, hw5, hb⟩
  have h5 := H2.out.grow hb
  obtain ⟨g, off, rfl, hg, hc⟩ := hw5.e.at edC_len (by decide) (i := 0) (by decide)
  have q2 : w5.cell? ⟨g, off + 2, none⟩ = some (.int .u64 3) := by have := hc 2 _ rfl; simpa [x1] using this
  have q3 : w5.cell? ⟨g, off + 3, none⟩ = some (.int .u64 5) := by have := hc 3 _ rfl; simpa [x1] using this
  have hl1 : x1.spots.length = 2 := rfl
  have hl2 : x1.edges.length = 1 := rfl
  have hb9 := (h5.alloc #[.slice A3 x1.spots.length c3, .slice (some ⟨g, off, none⟩) x1.edges.length c4] 31).below (i := 0) rfl
  rw [hl1, hl2] at hb9
  have HB9 := Lib.hid hb9
  have HL1 := Lib.hid hl1
  simp only [hl1, hl2]
  clear h5 hb hc hw5 hb9 hl1 hl2
  go_wp2
  go_ret
  exact ⟨rfl, HB9.out⟩
end Go.Proofs.Ytjbblgefgjmdaaa
