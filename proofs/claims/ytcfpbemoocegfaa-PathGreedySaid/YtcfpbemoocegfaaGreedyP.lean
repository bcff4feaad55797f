/- The way that always goes nearer. Plain. -/
import Derived.Test.YtcfpbemoocegfaaPathP
import Derived.Test.YtcfpbemoocegfaaNearP
namespace Go.Proofs.Ytcfpbemoocegfaa
set_option linter.unusedVariables false
set_option linter.unusedSimpArgs false
set_option linter.unnecessarySimpa false
open Go Go.RowKit

def goalP (x : Wb) (to : Int) : Int × Int := x.spots.getD to.toNat (0, 0)
def farTo (x : Wb) (to n : Int) : Int := farI (goalP x n).1 (goalP x n).2 (goalP x to).1 (goalP x to).2
def isTo (nx am : Int) (s : Stp) : Bool := decide (s.to = nx ∧ am ≤ s.can)
def ixTo (x : Wb) (n nx am : Int) : Nat := (stepsP x n).findIdx (isTo nx am)
def edgeTo (x : Wb) (n nx am : Int) : Int := ((stepsP x n).getD (ixTo x n nx am) dftStp).edge
/-- Can it not go on? -/
def stuckP (x : Wb) (to am : Int) (N E : List Int) : Prop := nearP x (N.getLastD 0) (goalP x to) am < 0 ∨ 7 ≤ E.length ∨ farTo x to (N.getLastD 0) ≤ farTo x to (nearP x (N.getLastD 0) (goalP x to) am)
instance (x : Wb) (to am : Int) (N E : List Int) : Decidable (stuckP x to am N E) := by unfold stuckP; infer_instance
def goP (x : Wb) (to am : Int) : Nat → List Int → List Int → Option (List Int × List Int)
  | 0, _, _ => none
  | f + 1, N, E => if N.getLastD 0 = to then some (N, E) else if stuckP x to am N E then none else
    goP x to am f (N ++ [nearP x (N.getLastD 0) (goalP x to) am]) (E ++ [edgeTo x (N.getLastD 0) (nearP x (N.getLastD 0) (goalP x to) am) am])
def greedyP (x : Wb) (from_ to am : Int) : Rt × Int :=
  if rightP x from_ to am ≠ 0 then (noRt, rightP x from_ to am) else
  match goP x to am 8 [from_] [] with
  | none => (noRt, 27)
  | some (N, E) => match fillP x N E am with
    | none => (noRt, 27)
    | some r => (r, 0)
theorem near_step {x : Wb} {n am : Int} {t : Int × Int} (h : ¬ nearP x n t am < 0) : ∃ s ∈ stepsP x n, s.to = nearP x n t am ∧ am ≤ s.can := by
  unfold nearP bestP at h ⊢
  split at h
  · exact absurd (by decide) h
  · rename_i h0
    rw [if_neg h0]
    have hb := nb_bd t (spotsOf x (fltP x n am (stepsP x n).length)) (fltP x n am (stepsP x n).length).length
    have hl : (nb t (spotsOf x (fltP x n am (stepsP x n).length)) (fltP x n am (stepsP x n).length).length).toNat < (fltP x n am (stepsP x n).length).length := by omega
    rw [List.getD_eq_getElem?_getD, List.getElem?_eq_getElem hl, Option.getD_some]
    have hm := List.getElem_mem hl
    refine ⟨_, fltP_mem hm, rfl, ?_⟩
    unfold fltP at hm
    exact of_decide_eq_true (List.mem_filter.1 hm).2
theorem ix_lt {x : Wb} {n nx am : Int} (h : ∃ s ∈ stepsP x n, s.to = nx ∧ am ≤ s.can) : ixTo x n nx am < (stepsP x n).length := by
  obtain ⟨s, hs, h1⟩ := h
  exact List.findIdx_lt_length_of_exists ⟨s, hs, decide_eq_true h1⟩
theorem ix_at {x : Wb} {n nx am : Int} (h : ixTo x n nx am < (stepsP x n).length) : ∃ s, (stepsP x n)[ixTo x n nx am]? = some s ∧ s.to = nx ∧ am ≤ s.can ∧ edgeTo x n nx am = s.edge := by
  refine ⟨_, List.getElem?_eq_getElem h, ?_, ?_, ?_⟩
  · exact (of_decide_eq_true (List.findIdx_getElem (w := h) : isTo nx am _ = true)).1
  · exact (of_decide_eq_true (List.findIdx_getElem (w := h) : isTo nx am _ = true)).2
  · unfold edgeTo; rw [List.getD_eq_getElem?_getD, List.getElem?_eq_getElem h]; rfl
theorem go_there {x : Wb} {to am : Int} {f : Nat} {N E : List Int} (h : N.getLastD 0 = to) : goP x to am (f + 1) N E = some (N, E) := by
  unfold goP; rw [if_pos h]
theorem go_stuck {x : Wb} {to am : Int} {f : Nat} {N E : List Int} (h : N.getLastD 0 ≠ to) (hs : stuckP x to am N E) : goP x to am (f + 1) N E = none := by
  unfold goP; rw [if_neg h, if_pos hs]
theorem go_on {x : Wb} {to am : Int} {f : Nat} {N E : List Int} (h : N.getLastD 0 ≠ to) (hs : ¬ stuckP x to am N E) : goP x to am (f + 1) N E = goP x to am f (N ++ [nearP x (N.getLastD 0) (goalP x to) am]) (E ++ [edgeTo x (N.getLastD 0) (nearP x (N.getLastD 0) (goalP x to) am) am]) := by
  conv => lhs; unfold goP
  rw [if_neg h, if_neg hs]
theorem way_next {x : Wb} {N E : List Int} {nx am : Int} (hw : WayOk x N E) (h : ∃ s ∈ stepsP x (N.getLastD 0), s.to = nx ∧ am ≤ s.can) : WayOk x (N ++ [nx]) (E ++ [edgeTo x (N.getLastD 0) nx am]) := by
  obtain ⟨s, hs, h1, _, h2⟩ := ix_at (ix_lt h)
  rw [h2, ← h1]
  exact way_snoc hw (List.mem_of_getElem? hs)
end Go.Proofs.Ytcfpbemoocegfaa
