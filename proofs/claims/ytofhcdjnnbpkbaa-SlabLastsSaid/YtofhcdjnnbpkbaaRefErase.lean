/- Walks over the document's slab: Erase. -/
import Derived.Test.YtofhcdjnnbpkbaaRefSync
namespace Go.Proofs.Ytofhcdjnnbpkbaa
set_option linter.unusedVariables false
set_option linter.unusedSimpArgs false
set_option linter.unnecessarySimpa false
open Go.RowKit

set_option maxRecDepth 100000 in
set_option maxHeartbeats 1000000 in
theorem rerase_any (w : World) (m : Nat) (st : St) (ok : st.Ok) (F : Nat → Prop) (h : (refA m st).sat F w) :
    Calls Try.prog 26 #[.pointer (some ⟨m, 0, none⟩)] w fun e w' => e = .returned (.int .i64 (syE st)) ∧ ∃ F', (refA m (erS st)).sat F' w' ∧ Moves F F' w w' := by
  obtain ⟨S, L, steps, fuse, down⟩ := st
  obtain ⟨o1, o2, o3, o4, o5⟩ := ok
  have h0 := Sat.ofOne h
  obtain ⟨As, cs, Al, cl, hS⟩ := refA_open h0
  dsimp only [List.cons_append, List.nil_append] at *
  have hk := hS.all
  simp only [allFacts, box_facts, row_facts, cellFacts, Nat.zero_add, Nat.reduceAdd, true_and, and_true] at hk
  have hstep := rstep_any w m ⟨S, L, steps, fuse, down⟩ ⟨o1, o2, o3, o4, o5⟩
  have HT := Lib.hid hstep
  have H0 := Lib.hid h0
  clear h0 hstep h
  cases down with
  | true =>
    go_enter Try.func26, Try.ntmps26
    go_wp2
    go_ret
    exact ⟨rfl, (refA_shut (l := [_]) hS).toMoves⟩
  | false =>
    have e1 : syE ⟨S, L, steps, fuse, false⟩ = stE fuse := rfl
    have e2 : erS ⟨S, L, steps, fuse, false⟩ = ⟨if fuse = 0 then S else [], if fuse = 0 then L else [], stS steps fuse, stF fuse, stD fuse false⟩ := rfl
    rw [e1, e2]
    clear e1 e2
    go_enter Try.func26, Try.ntmps26
    go_wp2_with fail
    refine (Sat.call1 (i := 0) H0.out rfl (fun F hF _ => HT.out F hF)).mono ?_
    clear hS hk
    rintro e w2 ⟨rfl, h2⟩
    simp only [List.set_cons_zero, rstp] at h2
    obtain ⟨As, cs, Al, cl, hS⟩ := refA_open h2
    dsimp only [List.cons_append, List.nil_append] at hS
    have hk := hS.all
    simp only [allFacts, box_facts, row_facts, emp_facts, cellFacts, Nat.zero_add, Nat.reduceAdd, true_and, and_true] at hk
    rcases (show fuse = 0 ∨ fuse ≠ 0 by omega) with h0 | h0
    · subst h0
      have e0 : rpow ⟨S, L, steps, 0, false⟩ = false := rfl
      rw [e0]
      clear e0
      go_wp2
      go_ret
      exact ⟨rfl, h2.toMoves⟩
    · have e0 : rpow ⟨S, L, steps, fuse, false⟩ = true := by unfold rpow; simp [h0]
      have e3 : stE fuse = 0 := if_neg h0
      rw [e0]
      have E3 := Lib.hid e3
      clear e0 e3 h2
      go_wp2
      go_ret
      rw [E3.out]
      try simp only [if_neg h0]
      exact ⟨rfl, (refA_shut (l := [_]) (((((hS.set 0 rfl 0 (.slice none 0 0)).set 0 rfl 1 (.slice none 0 0)).nilRow 5 1).nilRow 5 1).pick [0, 1, 4, 5] (by decide))).toMoves⟩
end Go.Proofs.Ytofhcdjnnbpkbaa
