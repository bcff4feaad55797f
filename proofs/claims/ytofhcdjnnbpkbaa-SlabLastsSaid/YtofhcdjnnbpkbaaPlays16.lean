/- Walk over the law SlabPlays; its argument as it reads. -/
import Derived.Test.YtofhcdjnnbpkbaaIs16
import Derived.Test.YtofhcdjnnbpkbaaRead
import Derived.Test.YtofhcdjnnbpkbaaEnd
import Derived.LoopTactic
namespace Go.Proofs.Ytofhcdjnnbpkbaa
set_option linter.unusedVariables false
set_option linter.unusedSimpArgs false
set_option linter.unnecessarySimpa false
open Go.RowKit

abbrev OpT := Int × Int × Int × (Option Addr × Nat × List Int) × Unit
def rOp : Rd OpT := rSeq 1 (rInt .i64) (rSeq 1 (rInt .i64) (rSeq 1 (rInt .i64) (rSeq 1 (rSlice 1 1 (rInt .u8)) rNil)))
theorem reads_op : Reads Try.prog 27 4 rOp :=
  reads_struct Try.underlying27 (by kernel_rfl) (.cons rfl (reads_int Try.underlying3 (by kernel_rfl)) (.cons rfl (reads_int Try.underlying3 (by kernel_rfl)) (.cons rfl (reads_int Try.underlying3 (by kernel_rfl))
    (.cons rfl (reads_slice Try.underlying25 (by kernel_rfl) (by kernel_rfl) (by decide) (reads_int Try.underlying5 (by kernel_rfl))) (.nil _)))))
theorem reads_ops : Reads Try.prog 22 1 (rSlice 4 48 rOp) := reads_slice Try.underlying22 (by kernel_rfl) (by kernel_rfl) (by decide) reads_op

/-- A step, written out. -/
structure OpAt (W : World) (cs : List Value) (x : OpT) : Prop where
  cells : cs = [.int .i64 x.1, .int .i64 x.2.1, .int .i64 x.2.2.1, .slice x.2.2.2.1.1 x.2.2.2.1.2.2.length x.2.2.2.1.2.1]
  wf0 : -9223372036854775808 ≤ x.1 ∧ x.1 ≤ 9223372036854775807
  wf1 : -9223372036854775808 ≤ x.2.1 ∧ x.2.1 ≤ 9223372036854775807
  wf2 : -9223372036854775808 ≤ x.2.2.1 ∧ x.2.2.1 ≤ 9223372036854775807
  none_ : x.2.2.2.1.1 = none → x.2.2.2.1.2.2.length = 0 ∧ x.2.2.2.1.2.1 = 0
  len : x.2.2.2.1.2.2.length ≤ 140737488355328
  src : SrcOf W x.2.2.2.1.1 (bytesOf x.2.2.2.1.2.2)
theorem take_one {α : Type} {l : List α} {a : α} (h : l.take 1 = [a]) : l = a :: l.drop 1 := by
  match l, h with
  | x :: l, h => simp at h; subst h; rfl
theorem bytes_read {W : World} {k : Nat} (hk : k = 1) {xs : List Int} {cells : List Value} (hl : cells.length = xs.length * k) (h : ∀ (i : Nat) (x : Int), xs[i]? = some x → rInt .u8 W ((cells.drop (i * k)).take k) x) : cells = bytesOf xs := by
  subst hk
  apply List.ext_getElem?
  intro i
  by_cases hi : i < xs.length
  · have h1 := (h i _ (List.getElem?_eq_getElem hi)).1
    rw [Nat.mul_one] at h1
    have h2 : (List.take 1 (List.drop i cells))[0]? = some (.int .u8 xs[i]) := by rw [h1]; rfl
    rw [List.getElem?_take_of_lt (by omega), List.getElem?_drop] at h2
    simpa [bytesOf, hi] using h2
  · rw [List.getElem?_eq_none (by omega), List.getElem?_eq_none (by simp [bytesOf]; omega)]
theorem op_at {W : World} {cs : List Value} {x : OpT} (h : rOp W cs x) : OpAt W cs x := by
  obtain ⟨⟨h1, w1⟩, ⟨h2, w2⟩, ⟨h3, w3⟩, ⟨h4, n4, l4, cells, c1, c2, c3⟩, h5⟩ := h
  have e5 : List.drop 1 (List.drop 1 (List.drop 1 (List.drop 1 cs))) = [] := h5
  have e1 := take_one h1
  have e2 := take_one h2
  have e3 := take_one h3
  have e4 := take_one h4
  have hb : cells = bytesOf x.2.2.2.1.2.2 := bytes_read rfl c1 c3
  rw [e5] at e4
  rw [e4] at e3
  rw [e3] at e2
  rw [e2] at e1
  refine ⟨e1, bd_i64 w1, bd_i64 w2, bd_i64 w3, n4, by omega, by rw [← hb]; exact c2⟩

/-- The elements' cells. -/
theorem elem_cells {W : World} {A : Option Addr} {cells : List Value} {k : Nat} {cs : List Value} {i : Nat} (hs : SrcOf W A cells) (h : (cells.drop (i * k)).take k = cs) (hk : cs.length = k) (hne : 0 < k) :
    ∃ ad, ∀ a, A = some a → a = ad := by
  cases A with
  | none => exact ⟨⟨0, 0, none⟩, fun a h => by cases h⟩
  | some ad => exact ⟨ad, fun a h => by cases h; rfl⟩
theorem src_plain {W : World} {A : Option Addr} {cells : List Value} (hs : SrcOf W A cells) (hA : A = none → cells = []) (hne : cells ≠ []) : ∃ b off, A = some ⟨b, off, none⟩ ∧ b < W.heap.size ∧ ∀ (j : Nat) (u : Value), cells[j]? = some u → W.cell? ⟨b, off + j, none⟩ = some u := by
  cases A with
  | none => exact absurd (hA rfl) hne
  | some ad =>
    obtain ⟨b, off, s⟩ := ad
    have h0 := src_lt hs _ rfl hne
    have hsp : s = none := by
      match cells, hne with
      | u :: us, _ =>
        have h1 := hs _ rfl 0 u rfl
        have := World.cell?_spot h1
        unfold Addr.add at this
        split at this <;> simp_all
    subst hsp
    refine ⟨b, off, rfl, h0, fun j u hj => ?_⟩
    have h1 := hs _ rfl j u hj
    have e : (⟨b, off, none⟩ : Addr).add j = ⟨b, off + j, none⟩ := by unfold Addr.add; split <;> simp_all
    rwa [e] at h1
theorem cells_at {cells cs : List Value} {i k : Nat} (h : (cells.drop (i * k)).take k = cs) {j : Nat} {u : Value} (hj : cs[j]? = some u) : cells[i * k + j]? = some u := by
  have hjk : j < k := by
    have h1 := (List.getElem?_eq_some_iff.1 hj).1
    rw [← h] at h1
    simp at h1; omega
  rw [← h, List.getElem?_take_of_lt hjk, List.getElem?_drop] at hj
  exact hj

set_option maxRecDepth 100000 in
set_option maxHeartbeats 2000000 in
theorem plays_any (W : World) (A : Option Addr) (c : Nat) (ops : List OpT) (hA : A = none → ops.length = 0 ∧ c = 0) (hb : ops.length * 48 ≤ 140737488355328) (cells : List Value) (hl : cells.length = ops.length * 4) (hs : SrcOf W A cells)
    (hel : ∀ (i : Nat) (x : OpT), ops[i]? = some x → rOp W ((cells.drop (i * 4)).take 4) x) :
    Calls Try.prog 4 #[.slice A ops.length c] W fun e w' => e = .returned (.bool true) ∧ Below W.heap.size W w' := by
  have h0 := Sat.pushRest W
  have HN := Lib.hid (new_sat h0)
  have hA' : A = none → cells = [] := fun h => List.eq_nil_of_length_eq_zero (by rw [hl, (hA h).1])
  have hrd : ∀ (k : Nat) (x : OpT), ops[k]? = some x → ∃ b off, A = some ⟨b, off, none⟩ ∧ b < W.heap.size ∧ W.cell? ⟨b, off + k * 4, none⟩ = some (.int .i64 x.1) ∧ W.cell? ⟨b, off + k * 4 + 1, none⟩ = some (.int .i64 x.2.1) ∧
      W.cell? ⟨b, off + k * 4 + 2, none⟩ = some (.int .i64 x.2.2.1) ∧ W.cell? ⟨b, off + k * 4 + 3, none⟩ = some (.slice x.2.2.2.1.1 x.2.2.2.1.2.2.length x.2.2.2.1.2.1) ∧ OpAt W ((cells.drop (k * 4)).take 4) x := by
    intro k x hx
    have hk : k < ops.length := (List.getElem?_eq_some_iff.1 hx).1
    have ho := op_at (hel k x hx)
    obtain ⟨b, off, rfl, hlt, hc⟩ := src_plain hs hA' (by rintro rfl; simp at hl; omega)
    have key : ∀ (j : Nat) (u : Value), [Value.int .i64 x.1, .int .i64 x.2.1, .int .i64 x.2.2.1, .slice x.2.2.2.1.1 x.2.2.2.1.2.2.length x.2.2.2.1.2.1][j]? = some u → W.cell? ⟨b, off + k * 4 + j, none⟩ = some u := by
      intro j u hj
      have := hc _ u (cells_at ho.cells hj)
      rwa [← Nat.add_assoc] at this
    exact ⟨b, off, rfl, hlt, key 0 _ rfl, key 1 _ rfl, key 2 _ rfl, key 3 _ rfl, ho⟩
  have HRD := Lib.hid hrd
  have hlen : ops.length ≤ 9223372036854775807 := by omega
  clear hA hs hel hrd hA' hl h0
  go_enter Try.func4, Try.ntmps4
  go_wp2_with fail
  refine HN.out.mono ?_
  rintro e w1 ⟨rfl, h1⟩
  simp only [List.cons_append, List.nil_append, List.set_cons_succ, List.set_cons_zero] at h1
  go_wp2_with fail
  refine (rnew_sat h1).mono ?_
  rintro e w2 ⟨rfl, h2⟩
  simp only [List.cons_append, List.nil_append, List.set_cons_succ, List.set_cons_zero] at h2
  clear h1 HN
  obtain ⟨g, hg⟩ : ∃ g, W.heap.size = g := ⟨_, rfl⟩
  obtain ⟨m, hm⟩ : ∃ m, w1.heap.size = m := ⟨_, rfl⟩
  rw [hm] at h2 ⊢
  have HG := Lib.hid hg
  clear hm hg
  go_wp2
  go_loopw [5, 12] (fun n i wr => ∃ (k : Nat) (st : St) (q : Int), k ≤ ops.length ∧ k ≤ 60 ∧ i = .int .i64 k ∧ n = .int .i64 q ∧ 0 ≤ q ∧ q ≤ 524288 ∧ st.In k ∧ Sat W wr [rest W (· < W.heap.size), slabA W.heap.size st, refA m st]) (fun _ i _ => ops.length - (intOf i).toNat)
  case atStart => exact ⟨0, st0, 0, Nat.zero_le _, by omega, rfl, rfl, by omega, by omega, st0_in, h2⟩
  case round =>
    obtain ⟨k, st, q, hk, hk6, rfl, rfl, hq0, hq1, hin, hS⟩ := hrel
    clear h2
    by_cases hlt : k < ops.length
    · obtain ⟨b, off, rfl, hblt, c0, c1, c2, c3, ho⟩ := HRD.out k ops[k] (List.getElem?_eq_getElem hlt)
      generalize ops[k] = x at *
      obtain ⟨kind, a, z, ⟨Ap, cp, P⟩, u⟩ := x
      dsimp only at c0 c1 c2 c3
      obtain ⟨-, f0, f1, f2, hn, hpl, hsrc⟩ := ho
      dsimp only at f0 f1 f2 hn hpl hsrc
      have hr : ∀ o, wr.cell? ⟨b, o, none⟩ = W.cell? ⟨b, o, none⟩ := fun o => World.cell?_of_block (a := ⟨b, o, none⟩) (hS.fact (i := 0) rfl b hblt)
      rw [← hr] at c0 c1 c2 c3
      have hbw := oldLt hS (i := 0) rfl hblt
      have hS2 := hS.alloc #[.int .i64 kind, .int .i64 a, .int .i64 z, .slice Ap P.length cp] 27
      simp only [List.cons_append, List.nil_append, List.set_cons_succ, List.set_cons_zero] at hS2
      have HS2 := Lib.hid hS2
      have HS := Lib.hid hS
      have HSR := Lib.hid hsrc
      have HNN := Lib.hid hn
      clear hS2 hS hsrc hn hr HRD
      rcases (show (60 ≤ k) ∨ (k < 60 ∧ 524288 < q + P.length) ∨ (k < 60 ∧ q + P.length ≤ 524288) by omega) with h6 | ⟨h6, h7⟩ | ⟨h6, h7⟩
      · go_wp2_with fail
        refine (awake_any _).mono ?_
        rintro e w3 ⟨rfl, hbl⟩
        go_wp2
        go_ret
        exact ⟨rfl, (HS2.out.below (i := 0) rfl).trans (hbl.mono (by have := HS2.out.1.size; simpa using this))⟩
      · go_wp2_with fail
        refine (awake_any _).mono ?_
        rintro e w3 ⟨rfl, hbl⟩
        go_wp2
        go_ret
        exact ⟨rfl, (HS2.out.below (i := 0) rfl).trans (hbl.mono (by have := HS2.out.1.size; simpa using this))⟩
      · go_wp2_with fail
        refine (HS2.out.call2 (i := 1) (j := 2) (A := slabA W.heap.size st) (B := refA m st) (A' := slabA W.heap.size (opS st kind a z P)) (B' := refA m (opS st kind a z P)) (Q := fun e => e = .returned (.bool true)) rfl rfl (by decide) (fun F hF ha => does_at _ W.heap.size m st k hin (by omega) kind a z f1.1 f1.2 P Ap cp HNN.out (src_rest HS2.out (i := 0) rfl HSR.out (src_lt HSR.out)) hpl F hF (fun ad had hne => ha 0 _ ad.block (by decide) (by decide) rfl (fun G hG => (hG.2 ad.block (src_lt HSR.out ad had (by simpa [bytesOf] using hne))).2.1)))).mono ?_
        rintro e w3 ⟨rfl, h3⟩
        simp only [List.cons_append, List.nil_append, List.set_cons_succ, List.set_cons_zero] at h3
        go_wp2_with fail
        refine (is_sat h3 (i := 1) (j := 2) rfl rfl (hin.ops kind a z P f1.2) (by omega)).mono ?_
        rintro e w4 ⟨rfl, h4⟩
        go_wp2
        go_roundw
        case rel => exact ⟨k + 1, opS st kind a z P, q + P.length, by omega, by omega, by go_num, rfl, by omega, by omega, hin.ops kind a z P f1.2, h4.left (l := [_, _, _]) (l' := [_])⟩
        case measure => simp [intOf]; omega
    · have HS := Lib.hid hS
      clear hS HRD
      go_wp2_with fail
      refine (awake_any _).mono ?_
      rintro e w3 ⟨rfl, hbl⟩
      go_wp2
      go_ret
      exact ⟨rfl, (HS.out.below (i := 0) rfl).trans (hbl.mono HS.out.1.size)⟩
end Go.Proofs.Ytofhcdjnnbpkbaa
