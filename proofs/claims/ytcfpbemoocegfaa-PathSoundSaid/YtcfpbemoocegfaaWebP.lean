/- Webs: plain. -/
import Derived.Test.YtcfpbemoocegfaaMoneyP
import Derived.Test.YtcfpbemoocegfaaRecs
namespace Go.Proofs.Ytcfpbemoocegfaa
set_option linter.unusedVariables false
set_option linter.unusedSimpArgs false
set_option linter.unnecessarySimpa false
open Go Go.RowKit

structure Edg where
  a : Int
  b : Int
  c0 : Int
  c1 : Int
  b0 : Int
  r0 : Int
  b1 : Int
  r1 : Int
def I64 (a : Int) : Prop := -9223372036854775808 ≤ a ∧ a ≤ 9223372036854775807
structure Edg.Ok (e : Edg) : Prop where
  a : I64 e.a
  b : I64 e.b
  c0 : U64 e.c0
  c1 : U64 e.c1
  b0 : U64 e.b0
  r0 : U64 e.r0
  b1 : U64 e.b1
  r1 : U64 e.r1
structure Wb where
  spots : List (Int × Int)
  edges : List Edg
structure Wb.Ok (x : Wb) : Prop where
  e : ∀ e ∈ x.edges, e.Ok
  s : ∀ p ∈ x.spots, I64 p.1 ∧ I64 p.2
def spC (p : Int × Int) : List Value := [.int .i64 p.1, .int .i64 p.2]
def edC (e : Edg) : List Value := [.int .i64 e.a, .int .i64 e.b, .int .u64 e.c0, .int .u64 e.c1, .int .u64 e.b0, .int .u64 e.r0, .int .u64 e.b1, .int .u64 e.r1]
theorem spC_len (p : Int × Int) : (spC p).length = 2 := rfl
theorem edC_len (e : Edg) : (edC e).length = 8 := rfl
/-- May an edge not be, among n nodes? -/
def badE (n : Int) (e : Edg) : Prop := e.a < 0 ∨ n ≤ e.a ∨ e.b < 0 ∨ n ≤ e.b ∨ e.a = e.b
instance (n : Int) (e : Edg) : Decidable (badE n e) := by unfold badE; infer_instance
def anyBad (n : Int) (l : List Edg) : Prop := ∃ e ∈ l, badE n e
instance (n : Int) (l : List Edg) : Decidable (anyBad n l) := by unfold anyBad; infer_instance
def chkP (x : Wb) : Int := if 8 < x.spots.length ∨ 16 < x.edges.length then 8 else if anyBad x.spots.length x.edges then 1 else 0
theorem chk_bad {x : Wb} (h : ¬ (8 < x.spots.length ∨ 16 < x.edges.length)) {k : Nat} (hk : k < x.edges.length) (hb : badE x.spots.length x.edges[k]) : chkP x = 1 := by
  unfold chkP; rw [if_neg h, if_pos ⟨_, List.getElem_mem hk, hb⟩]
theorem chk_good {x : Wb} (h : ¬ (8 < x.spots.length ∨ 16 < x.edges.length)) (hg : ∀ k (hk : k < x.edges.length), ¬ badE x.spots.length x.edges[k]) : chkP x = 0 := by
  unfold chkP; rw [if_neg h, if_neg]
  rintro ⟨e, he, hb⟩
  obtain ⟨i, hi, rfl⟩ := List.getElem_of_mem he
  exact hg i hi hb
theorem chk_zero {x : Wb} (h : chkP x = 0) : x.spots.length ≤ 8 ∧ x.edges.length ≤ 16 ∧ ∀ e ∈ x.edges, ¬ badE x.spots.length e := by
  unfold chkP at h
  split at h
  · cases h
  · rename_i h1
    split at h
    · cases h
    · rename_i h2
      exact ⟨by omega, by omega, fun e he hb => h2 ⟨e, he, hb⟩⟩
theorem chk_cases (x : Wb) : chkP x = 8 ∨ chkP x = 1 ∨ chkP x = 0 := by
  unfold chkP; split
  · simp
  · split <;> simp
def sideP (e : Edg) (n : Int) : Int := if e.a = n then 0 else if e.b = n then 1 else -1
def Edg.can (e : Edg) (s : Int) : Int := if s = 0 then e.c0 else e.c1
def Edg.endp (e : Edg) (s : Int) : Int := if s = 0 then e.a else e.b
def Edg.base (e : Edg) (s : Int) : Int := if s = 0 then e.b0 else e.b1
def Edg.rate (e : Edg) (s : Int) : Int := if s = 0 then e.r0 else e.r1
structure Stp where
  edge : Int
  to : Int
  can : Int
  base : Int
  rate : Int
def stC (s : Stp) : List Value := [.int .i64 s.edge, .int .i64 s.to, .int .u64 s.can, .int .u64 s.base, .int .u64 s.rate]
theorem stC_len (s : Stp) : (stC s).length = 5 := rfl
/-- The way out of n over an edge. -/
def stpOf (i : Nat) (e : Edg) (n : Int) : List Stp := if e.a = n then [⟨i, e.b, e.c0, e.b0, e.r0⟩] else if e.b = n then [⟨i, e.a, e.c1, e.b1, e.r1⟩] else []
def stepsF (n : Int) : Nat → List Edg → List Stp
  | _, [] => []
  | i, e :: l => stpOf i e n ++ stepsF n (i + 1) l
def stepsP (x : Wb) (n : Int) : List Stp := if chkP x = 0 then stepsF n 0 x.edges else []
theorem stepsF_app (n : Int) : ∀ (l m : List Edg) (i : Nat), stepsF n i (l ++ m) = stepsF n i l ++ stepsF n (i + l.length) m
  | [], m, i => by simp [stepsF]
  | e :: l, m, i => by
    simp only [List.cons_append, stepsF]
    rw [stepsF_app n l m (i + 1), List.append_assoc, List.length_cons, show i + 1 + l.length = i + (l.length + 1) from by omega]
theorem stepsF_snoc (n : Int) {l : List Edg} {k : Nat} (hk : k < l.length) : stepsF n 0 (l.take (k + 1)) = stepsF n 0 (l.take k) ++ stpOf k l[k] n := by
  rw [List.take_succ_eq_append_getElem hk, stepsF_app]
  simp [stepsF, Nat.min_eq_left (Nat.le_of_lt hk)]
theorem stpOf_len (i : Nat) (e : Edg) (n : Int) : (stpOf i e n).length ≤ 1 := by
  unfold stpOf; split
  · simp
  · split <;> simp
theorem stepsF_len (n : Int) : ∀ (l : List Edg) (i : Nat), (stepsF n i l).length ≤ l.length
  | [], i => by simp [stepsF]
  | e :: l, i => by
    have := stepsF_len n l (i + 1)
    have := stpOf_len i e n
    simp only [stepsF, List.length_append, List.length_cons]; omega
/-- What a step is. -/
theorem stepsF_mem {n : Int} : ∀ {l : List Edg} {i : Nat} {s : Stp}, s ∈ stepsF n i l → ∃ k : Nat, ∃ hk : k < l.length, s.edge = ((i + k : Nat) : Int) ∧ s ∈ stpOf (i + k) l[k] n
  | e :: l, i, s, h => by
    simp only [stepsF, List.mem_append] at h
    rcases h with h | h
    · refine ⟨0, by simp, ?_, by simpa using h⟩
      unfold stpOf at h
      split at h
      · simp at h; subst h; simp
      · split at h
        · simp at h; subst h; simp
        · cases h
    · obtain ⟨k, hk, h1, h2⟩ := stepsF_mem h
      refine ⟨k + 1, by simp; omega, by rw [h1]; congr 1; omega, ?_⟩
      rw [show i + (k + 1) = i + 1 + k from by omega]
      exact h2
theorem stpOf_side {i : Nat} {e : Edg} {n : Int} {s : Stp} (h : s ∈ stpOf i e n) : (sideP e n = 0 ∨ sideP e n = 1) ∧ s = ⟨i, e.endp (1 - sideP e n), e.can (sideP e n), e.base (sideP e n), e.rate (sideP e n)⟩ := by
  unfold stpOf at h; unfold sideP
  split at h
  · rename_i h1
    simp at h; subst h
    simp [h1, Edg.endp, Edg.can, Edg.base, Edg.rate]
  · rename_i h1
    split at h
    · rename_i h2
      simp at h; subst h
      simp [h1, h2, Edg.endp, Edg.can, Edg.base, Edg.rate]
    · cases h
theorem side_cases (e : Edg) (n : Int) : (sideP e n = 0 ∧ e.a = n) ∨ (sideP e n = 1 ∧ e.b = n ∧ e.a ≠ n) ∨ (sideP e n = -1 ∧ e.a ≠ n ∧ e.b ≠ n) := by
  unfold sideP
  split
  · simp_all
  · split <;> simp_all
/-- All that edges hold, one by one. -/
def cansP (l : List Edg) : List Int := l.flatMap fun e => [e.c0, e.c1]
def allP (x : Wb) : Int × Int := sumP 0 (cansP x.edges)
theorem cansP_snoc {l : List Edg} {k : Nat} (hk : k < l.length) : cansP (l.take (k + 1)) = cansP (l.take k) ++ [l[k].c0, l[k].c1] := by
  unfold cansP
  rw [List.take_succ_eq_append_getElem hk, List.flatMap_append]; simp
theorem cansP_len (l : List Edg) : (cansP l).length = 2 * l.length := by
  unfold cansP
  induction l with
  | nil => rfl
  | cons e l ih => simp only [List.flatMap_cons, List.length_append, ih, List.length_cons]; simp; omega
theorem cansP_u {l : List Edg} (h : ∀ e ∈ l, e.Ok) : ∀ a ∈ cansP l, 0 ≤ a ∧ a < 18446744073709551616 := by
  intro a ha
  unfold cansP at ha
  simp only [List.mem_flatMap] at ha
  obtain ⟨e, he, h1⟩ := ha
  have := h e he
  simp at h1
  rcases h1 with rfl | rfl
  · exact this.c0
  · exact this.c1
/-- An amount sent over an edge, from a side. -/
def Edg.sent (e : Edg) (s n : Int) : Edg := if s = 0 then { e with c0 := e.c0 - n, c1 := e.c1 + n } else { e with c1 := e.c1 - n, c0 := e.c0 + n }
def noWeb : Wb := ⟨[], []⟩
def sentP (x : Wb) (edge node n : Int) : Wb × Int :=
  if chkP x ≠ 0 then (noWeb, chkP x) else
  if h : 0 ≤ edge ∧ edge.toNat < x.edges.length then
    (if sideP x.edges[edge.toNat] node < 0 then (noWeb, 1) else
     if x.edges[edge.toNat].can (sideP x.edges[edge.toNat] node) < n then (noWeb, 28) else
     if (addP (x.edges[edge.toNat].can (1 - sideP x.edges[edge.toNat] node)) n).2 = 0 then (⟨x.spots, x.edges.set edge.toNat (x.edges[edge.toNat].sent (sideP x.edges[edge.toNat] node) n)⟩, 0) else (noWeb, (addP (x.edges[edge.toNat].can (1 - sideP x.edges[edge.toNat] node)) n).2))
  else (noWeb, 1)
end Go.Proofs.Ytcfpbemoocegfaa
