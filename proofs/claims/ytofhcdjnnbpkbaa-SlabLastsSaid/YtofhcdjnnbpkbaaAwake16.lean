/- Walk over the law's example. -/
import Derived.Test.YtofhcdjnnbpkbaaSlabSat
namespace Go.Proofs.Ytofhcdjnnbpkbaa
set_option linter.unusedVariables false
set_option linter.unusedSimpArgs false
set_option linter.unnecessarySimpa false
open Go.RowKit

theorem src_blk {w0 w : World} {l : List Asn} (h : Sat w0 w l) {i b : Nat} {T : TypeId} {q : Nat × Nat} {C : Array Value} (hi : l[i]? = some (blk b (.cells C T q))) : SrcOf w (some ⟨b, 0, none⟩) C.toList := by
  obtain ⟨F, _, hb⟩ := h.get hi
  intro ad had j u hj
  cases had
  have e : (⟨b, 0, none⟩ : Addr).add j = ⟨b, j, none⟩ := by unfold Addr.add; split <;> simp_all
  rw [e]
  simp [World.cell?, hb] at hj ⊢
  exact hj
theorem away_blk {w : World} {l : List Asn} {i j b : Nat} {o : Obj} {P : List Int} {k : Nat} (hj : l[j]? = some (blk b o)) (hij : j ≠ i) : Away w l i (some ⟨b, k, none⟩) P :=
  fun ad had _ => ⟨j, _, hij, hj, fun G hG => by cases had; exact hG.1 ▸ rfl⟩

set_option maxRecDepth 100000 in
set_option maxHeartbeats 1000000 in
theorem awake_any (w : World) : Calls Try.prog 15 #[] w fun e w' => e = .returned (.bool true) ∧ Below w.heap.size w w' := by
  have h0 := Sat.pushRest w
  have HN := Lib.hid (new_sat h0)
  have hcv : ∀ (w : World) (c : Nat) (A : Option Addr) (n : Nat) (xs : List Int), w.ownsRow 0 5 1 (.slice A n c) n (bytesOf xs) → (convert 25 9 (.slice A n c)).run Try.prog w = .ok (.string (strOfNums xs)) w :=
    fun w c A n xs h => conv_row _ _ _ Try.underlying25 Try.underlying5 Try.underlying9 h
  have HCV := Lib.hid hcv
  have kc := fun (w : World) (C : Array Value) (n c : Nat) => Lib.run_convert_bytes_const (P := Try.prog) w 25 5 C n c Try.underlying25 Try.underlying5
  clear hcv
  go_enter Try.func15, Try.ntmps15
  go_wp2_with fail
  refine HN.out.mono ?_
  rintro e w1 ⟨rfl, h1⟩
  simp only [List.cons_append, List.nil_append, List.set_cons_succ, List.set_cons_zero] at h1
  have haa := h1.allocBlk (.cells #[.int .u8 97, .int .u8 98] 5 (2, 3))
  simp only [List.cons_append, List.nil_append, List.set_cons_succ, List.set_cons_zero] at haa
  have HAa := Lib.hid haa
  clear haa
  go_wp2_with fail
  refine (append_sat HAa.out (i := 1) rfl st0_in (by decide) [97, 98] (some ⟨_, 0, none⟩) 2 (fun h => by cases h) (src_blk HAa.out (i := 2) rfl) (away_blk (j := 2) rfl (by decide)) (by decide)).mono ?_
  rintro e w2 ⟨rfl, h2⟩
  simp only [List.cons_append, List.nil_append, List.set_cons_succ, List.set_cons_zero] at h2
  clear h1
  have i1 := st0_in.app [97, 98]
  go_wp2_with fail
  refine (sync_sat h2 (i := 1) rfl i1 (by decide)).mono ?_
  rintro e w3 ⟨rfl, h3⟩
  simp only [List.cons_append, List.nil_append, List.set_cons_succ, List.set_cons_zero] at h3
  clear h2
  have i2 := i1.syn
  have h3' := h3.left (l := [_, _]) (l' := [_])
  clear h3
  have hab := h3'.allocBlk (.cells #[.int .u8 99, .int .u8 100] 5 (2, 3))
  simp only [List.cons_append, List.nil_append, List.set_cons_succ, List.set_cons_zero] at hab
  have HAb := Lib.hid hab
  clear hab
  go_wp2_with fail
  refine (append_sat HAb.out (i := 1) rfl i2 (by decide) [99, 100] (some ⟨_, 0, none⟩) 2 (fun h => by cases h) (src_blk HAb.out (i := 2) rfl) (away_blk (j := 2) rfl (by decide)) (by decide)).mono ?_
  rintro e w4 ⟨rfl, h4⟩
  simp only [List.cons_append, List.nil_append, List.set_cons_succ, List.set_cons_zero] at h4
  clear h3'
  have i3 := i2.app [99, 100]
  go_wp2_with fail
  refine (crash_sat h4 (i := 1) rfl i3 (by decide) 1 1).mono ?_
  rintro e w5 ⟨rfl, h5⟩
  simp only [List.cons_append, List.nil_append, List.set_cons_succ, List.set_cons_zero] at h5
  clear h4
  have i4 := i3.crs 1 1
  go_wp2_with fail
  refine (read_sat h5 (i := 1) rfl i4 (by decide)).mono ?_
  rintro e w6 ⟨A, c, rfl, h6⟩
  simp only [List.cons_append, List.nil_append, List.set_cons_succ, List.set_cons_zero] at h6
  clear h5
  have e1 : rdS (crS (appS (syS (appS st0 [97, 98])) [99, 100]) 1 1) = [97, 98, 99, 0] := by decide
  have e2 : upE (crS (appS (syS (appS st0 [97, 98])) [99, 100]) 1 1).down = 0 := by decide
  rw [e1, e2]
  rw [e1] at h6
  simp only [List.length_cons, List.length_nil, Nat.zero_add, Nat.reduceAdd] at h6
  clear e1 e2
  have hv := HCV.out _ _ _ _ _ (h6.rowOf (i := 3) rfl)
  have e3 : strOfNums [97, 98, 99, 0] = ⟨#[97, 98, 99, 0]⟩ := rfl
  rw [e3] at hv
  clear e3
  have hb := h6.below (i := 0) rfl
  clear kc
  go_wp2
  go_ret
  exact ⟨rfl, hb⟩
end Go.Proofs.Ytofhcdjnnbpkbaa
