/- The document's slab, as it lies in memory; its small calls. -/
import Derived.Test.YtofhcdjnnbpkbaaBytes
import Derived.Test.YtofhcdjnnbpkbaaSlabNils
namespace Go.Proofs.Ytofhcdjnnbpkbaa
set_option linter.unusedVariables false
set_option linter.unusedSimpArgs false
set_option linter.unnecessarySimpa false
open Go.RowKit

/-- The document's slab at m. -/
def refA (m : Nat) (st : St) : Asn := some_ fun p : (Option Addr × Nat) × (Option Addr × Nat) =>
  star2 (star2 (box m 49 [.slice p.1.1 st.S.length p.1.2, .slice p.2.1 st.L.length p.2.2, .int .i64 st.fuse, .int .i64 st.steps, .bool st.down])
    (row 5 1 (.slice p.2.1 st.L.length p.2.2) st.L.length (bytesOf st.L))) (row 5 1 (.slice p.1.1 st.S.length p.1.2) st.S.length (bytesOf st.S))

section
variable {w0 w : World} {l : List Asn} {m : Nat} {st : St}
theorem refA_open (h : Sat w0 w (refA m st :: l)) : ∃ As cs Al cl, Sat w0 w (box m 49 [.slice As st.S.length cs, .slice Al st.L.length cl, .int .i64 st.fuse, .int .i64 st.steps, .bool st.down] :: l ++
    [row 5 1 (.slice As st.S.length cs) st.S.length (bytesOf st.S), row 5 1 (.slice Al st.L.length cl) st.L.length (bytesOf st.L)]) := by
  obtain ⟨⟨⟨As, cs⟩, ⟨Al, cl⟩⟩, h1⟩ := h.open_some (i := 0) rfl
  have h2 := (h1.open2 (i := 0) rfl).open2 (i := 0) rfl
  refine ⟨As, cs, Al, cl, ?_⟩
  simpa using h2
theorem refA_shut {As Al : Option Addr} {cs cl nS nL : Nat} (h : Sat w0 w (box m 49 [.slice As nS cs, .slice Al nL cl, .int .i64 st.fuse, .int .i64 st.steps, .bool st.down] :: l ++
    [row 5 1 (.slice As nS cs) nS (bytesOf st.S), row 5 1 (.slice Al nL cl) nL (bytesOf st.L)])) : Sat w0 w (refA m st :: l) := by
  have e1 := (h.rowOf (T := 5) (k := 1) (v := .slice As nS cs) (n := nS) (xs := bytesOf st.S) (i := l.length + 1) (by simp)).1
  have e2 := (h.rowOf (T := 5) (k := 1) (v := .slice Al nL cl) (n := nL) (xs := bytesOf st.L) (i := l.length + 1 + 1) (by simp)).1
  simp [bytesOf] at e1 e2
  subst e1; subst e2
  have h1 : Sat w0 w ((box m 49 [.slice As st.S.length cs, .slice Al st.L.length cl, .int .i64 st.fuse, .int .i64 st.steps, .bool st.down] :: l ++ [row 5 1 (.slice As st.S.length cs) st.S.length (bytesOf st.S)]) ++ [row 5 1 (.slice Al st.L.length cl) st.L.length (bytesOf st.L)]) := by simpa using h
  have h2 := h1.shut2 (i := 0) rfl
  have h3 := Sat.shut2 (l := star2 (box m 49 [.slice As st.S.length cs, .slice Al st.L.length cl, .int .i64 st.fuse, .int .i64 st.steps, .bool st.down]) (row 5 1 (.slice Al st.L.length cl) st.L.length (bytesOf st.L)) :: l) (by simpa using h2) (i := 0) rfl
  have h4 := Sat.shut_some (f := fun p : (Option Addr × Nat) × (Option Addr × Nat) =>
  star2 (star2 (box m 49 [.slice p.1.1 st.S.length p.1.2, .slice p.2.1 st.L.length p.2.2, .int .i64 st.fuse, .int .i64 st.steps, .bool st.down])
    (row 5 1 (.slice p.2.1 st.L.length p.2.2) st.L.length (bytesOf st.L))) (row 5 1 (.slice p.1.1 st.S.length p.1.2) st.S.length (bytesOf st.S))) h3 (i := 0) ((As, cs), (Al, cl)) rfl
  have h5 := h4
  simp only [List.set_cons_zero] at h5
  exact h5
end

/-- What a step answers, and leaves. -/
def rpow (st : St) : Bool := decide (st.fuse ≠ 0)
def rstp (st : St) : St := { st with steps := stS st.steps st.fuse, fuse := stF st.fuse, down := stD st.fuse st.down }

theorem rstep_any (w : World) (m : Nat) (st : St) (ok : st.Ok) (F : Nat → Prop) (h : (refA m st).sat F w) : Calls Try.prog 29 #[.pointer (some ⟨m, 0, none⟩)] w fun e w' =>
    e = .returned (.bool (rpow st)) ∧ ∃ F', (refA m (rstp st)).sat F' w' ∧ Moves F F' w w' := by
  obtain ⟨S, L, steps, fuse, down⟩ := st
  obtain ⟨o1, o2, o3, o4, o5⟩ := ok
  obtain ⟨As, cs, Al, cl, hS⟩ := refA_open (Sat.ofOne h)
  dsimp only [List.cons_append, List.nil_append] at *
  have hk := hS.all
  simp only [allFacts, box_facts, row_facts, cellFacts, Nat.zero_add, Nat.reduceAdd, true_and, and_true] at hk
  obtain ⟨⟨⟨c0, f0, c1, f1, c2, f2, c3, f3, c4, f4⟩, hlt⟩, -⟩ := hk
  rcases (show fuse = 0 ∨ 0 < fuse ∨ fuse < 0 by omega) with h0 | h0 | h0
  · subst h0
    go_enter Try.func29, Try.ntmps29
    go_wp2
    go_ret
    exact ⟨rfl, (refA_shut (l := [_]) (hS.set 0 rfl 4 _)).toMoves⟩
  · have e1 : rstp ⟨S, L, steps, fuse, down⟩ = ⟨S, L, steps + 1, fuse - 1, down⟩ := by unfold rstp stS stF stD; simp [h0]; omega
    have e2 : rpow ⟨S, L, steps, fuse, down⟩ = true := by unfold rpow; simp; omega
    rw [e1, e2]
    clear e1 e2
    go_enter Try.func29, Try.ntmps29
    go_wp2
    go_ret
    exact ⟨rfl, (refA_shut (l := [_]) ((hS.set 0 rfl 2 _).set 0 rfl 3 _)).toMoves⟩
  · have e1 : rstp ⟨S, L, steps, fuse, down⟩ = ⟨S, L, steps + 1, fuse, down⟩ := by unfold rstp stS stF stD; simp; omega
    have e2 : rpow ⟨S, L, steps, fuse, down⟩ = true := by unfold rpow; simp; omega
    rw [e1, e2]
    clear e1 e2
    go_enter Try.func29, Try.ntmps29
    go_wp2
    go_ret
    exact ⟨rfl, (refA_shut (l := [_]) (hS.set 0 rfl 3 _)).toMoves⟩
end Go.Proofs.Ytofhcdjnnbpkbaa
