/- Routes that are found: what holds of them. Plain. -/
import Derived.Test.YtcfpbemoocegfaaPathP
namespace Go.Proofs.Ytcfpbemoocegfaa
set_option linter.unusedVariables false
set_option linter.unusedSimpArgs false
set_option linter.unnecessarySimpa false
open Go Go.RowKit

/-- A route from one node to another one. -/
structure Good (x : Wb) (from_ to am : Int) (r : Rt) : Prop where
  way : WayOk x r.nodes r.edges
  few : r.edges.length ≤ 7
  hd : r.nodes.head? = some from_
  last : r.nodes.getLastD 0 = to
  nodup : r.nodes.Nodup
  fill : fillP x r.nodes r.edges am = some r
theorem fill_eq {x : Wb} {N E : List Int} {am : Int} {r : Rt} (h : fillP x N E am = some r) : r = ⟨N, E, (backP am (feesP x N E)).1⟩ ∧ (backP am (feesP x N E)).2 = 0 ∧ canB x N E (backP am (feesP x N E)).1 = true := by
  unfold fillP at h
  split at h
  · rename_i h0
    split at h
    · rename_i h1
      simp only [Option.some.injEq] at h
      exact ⟨h.symm, h0, h1⟩
    · cases h
  · cases h
theorem Good.amts {x : Wb} {from_ to am : Int} {r : Rt} (h : Good x from_ to am r) : r.amts = (backP am (feesP x r.nodes r.edges)).1 ∧ (backP am (feesP x r.nodes r.edges)).2 = 0 ∧ r.amts.length = r.edges.length - 1 + 1 := by
  obtain ⟨e, h0, _⟩ := fill_eq h.fill
  have ha : r.amts = (backP am (feesP x r.nodes r.edges)).1 := by conv => lhs; rw [e]
  refine ⟨ha, h0, ?_⟩
  rw [ha, backP_len _ h0, feesP_len h.way.len]
theorem ways_good {x : Wb} {from_ to am : Int} : ∀ (f : Nat) (N E : List Int) (R : List Rt), WayOk x N E → E.length + f ≤ 8 → N.head? = some from_ → N.Nodup → (∀ r ∈ R, Good x from_ to am r) → ∀ r ∈ waysP x to am f N E R, Good x from_ to am r
  | 0, N, E, R, _, _, _, _, h, r, hr => h r hr
  | f + 1, N, E, R, hw, hl, hh, hn, h, r, hr => by
    unfold waysP at hr
    split at hr
    · exact h r hr
    · split at hr
      · rename_i hlt
        cases hf : fillP x N E am with
        | none => rw [hf] at hr; exact h r hr
        | some q =>
          rw [hf] at hr
          rcases List.mem_append.1 hr with hr | hr
          · exact h r hr
          · rw [List.mem_singleton] at hr
            subst hr
            obtain ⟨e, _, _⟩ := fill_eq hf
            have e1 : r.nodes = N := by rw [e]
            have e2 : r.edges = E := by rw [e]
            exact ⟨by rw [e1, e2]; exact hw, by rw [e2]; omega, by rw [e1]; exact hh, by rw [e1]; exact hlt, by rw [e1]; exact hn, by rw [e1, e2]; exact hf⟩
      · split at hr
        · exact h r hr
        · rename_i h7
          have hfold : ∀ (L : List Stp) (R : List Rt), (∀ s ∈ L, s ∈ stepsP x (N.getLastD 0)) → (∀ r ∈ R, Good x from_ to am r) → ∀ r ∈ L.foldl (fun R s => if s.to ∈ N then R else waysP x to am f (N ++ [s.to]) (E ++ [s.edge]) R) R, Good x from_ to am r := by
            intro L
            induction L with
            | nil => intro R _ hR r hr; exact hR r hr
            | cons s L ih =>
              intro R hL hR r hr
              rw [List.foldl_cons] at hr
              refine ih _ (fun s' hs' => hL s' (List.mem_cons_of_mem _ hs')) ?_ r hr
              intro r' hr'
              split at hr'
              · exact hR r' hr'
              · rename_i hin
                refine ways_good f _ _ R (way_snoc hw (hL s List.mem_cons_self)) (by simp; omega) ?_ ?_ hR r' hr'
                · cases N with
                  | nil => simp at hh
                  | cons a N => simpa using hh
                · rw [List.nodup_append]
                  exact ⟨hn, by simp, fun a ha b hb => by simp at hb; subst hb; exact fun e => hin (e ▸ ha)⟩
          exact hfold _ R (fun s hs => hs) h r hr
theorem all_good {x : Wb} {from_ to am : Int} {r : Rt} (h : r ∈ allRt x from_ to am) : Good x from_ to am r := by
  unfold allRt at h
  split at h
  · exact ways_good 8 [from_] [] [] (way_one x from_) (by simp) rfl (by simp) (fun r hr => by cases hr) r h
  · cases h
theorem all_few (x : Wb) (from_ to am : Int) : (allRt x from_ to am).length ≤ 32 := by
  unfold allRt
  split
  · exact (ways_pre x to am 8 [from_] [] []).2 (by simp)
  · simp
theorem all_ok {x : Wb} {from_ to am : Int} (h : rightP x from_ to am = 0) : waysP x to am 8 [from_] [] [] = allRt x from_ to am := by unfold allRt; rw [if_pos h]
theorem all_none {x : Wb} {from_ to am : Int} (h : rightP x from_ to am ≠ 0) : allRt x from_ to am = [] := by unfold allRt; rw [if_neg h]
/-- The best, element by element. -/
theorem head_of {l : List Int} {v : Int} (h : l[0]? = some v) : l.headD 0 = v := by
  cases l with
  | nil => simp at h
  | cons a l => simpa using h
theorem better_of {a b : Rt} {u v : Int} (ha : a.amts[0]? = some u) (hb : b.amts[0]? = some v) : betterP a b ↔ (u < v ∨ (u = v ∧ a.edges.length < b.edges.length)) := by
  unfold betterP; rw [head_of ha, head_of hb]
theorem better_yes {a b : Rt} {u v : Int} (ha : a.amts[0]? = some u) (hb : b.amts[0]? = some v) (h : u < v ∨ (u = v ∧ a.edges.length < b.edges.length)) : betterP a b := (better_of ha hb).2 h
theorem better_no {a b : Rt} {u v : Int} (ha : a.amts[0]? = some u) (hb : b.amts[0]? = some v) (h : ¬ (u < v ∨ (u = v ∧ a.edges.length < b.edges.length))) : ¬ betterP a b := fun q => h ((better_of ha hb).1 q)
theorem bestIx_yes {R : List Rt} {i : Nat} {m mb : Rt} (h1 : R[i + 1]? = some m) (h2 : R[bestIx R i]? = some mb) (h : betterP m mb) : bestIx R (i + 1) = i + 1 := by
  conv => lhs; unfold bestIx
  rw [List.getD_eq_getElem?_getD, List.getD_eq_getElem?_getD, h1, h2]
  exact if_pos h
theorem bestIx_no {R : List Rt} {i : Nat} {m mb : Rt} (h1 : R[i + 1]? = some m) (h2 : R[bestIx R i]? = some mb) (h : ¬ betterP m mb) : bestIx R (i + 1) = bestIx R i := by
  conv => lhs; unfold bestIx
  rw [List.getD_eq_getElem?_getD, List.getD_eq_getElem?_getD, h1, h2]
  exact if_neg h
theorem best_err {x : Wb} {from_ to am : Int} (h : rightP x from_ to am ≠ 0) : bestRt x from_ to am = (noRt, rightP x from_ to am) := if_pos h
theorem best_none {x : Wb} {from_ to am : Int} (h0 : rightP x from_ to am = 0) (h : allRt x from_ to am = []) : bestRt x from_ to am = (noRt, 27) := by
  unfold bestRt; rw [if_neg (by simp [h0]), if_pos h]
theorem best_some {x : Wb} {from_ to am : Int} {m : Rt} (h0 : rightP x from_ to am = 0) (h : (allRt x from_ to am)[bestIx (allRt x from_ to am) ((allRt x from_ to am).length - 1)]? = some m) : bestRt x from_ to am = (m, 0) := by
  unfold bestRt
  rw [if_neg (by simp [h0]), if_neg (fun e => by rw [e] at h; simp at h), List.getD_eq_getElem?_getD, h]
  rfl
theorem right_chk {x : Wb} {from_ to am : Int} (h : chkP x ≠ 0) : rightP x from_ to am = chkP x := if_pos h
theorem right_bad {x : Wb} {from_ to am : Int} (h : chkP x = 0) (hb : from_ < 0 ∨ (x.spots.length : Int) ≤ from_ ∨ to < 0 ∨ (x.spots.length : Int) ≤ to ∨ from_ = to ∨ am = 0) : rightP x from_ to am = 1 := by
  unfold rightP; rw [if_neg (by simp [h]), if_pos hb]
theorem right_ok {x : Wb} {from_ to am : Int} (h : chkP x = 0) (hb : ¬ (from_ < 0 ∨ (x.spots.length : Int) ≤ from_ ∨ to < 0 ∨ (x.spots.length : Int) ≤ to ∨ from_ = to ∨ am = 0)) : rightP x from_ to am = 0 := by
  unfold rightP; rw [if_neg (by simp [h]), if_neg hb]
theorem right_zero {x : Wb} {from_ to am : Int} (h : rightP x from_ to am = 0) : chkP x = 0 ∧ ¬ (from_ < 0 ∨ (x.spots.length : Int) ≤ from_ ∨ to < 0 ∨ (x.spots.length : Int) ≤ to ∨ from_ = to ∨ am = 0) := by
  by_cases hc : chkP x = 0
  · refine ⟨hc, fun hb => ?_⟩
    rw [right_bad hc hb] at h; cases h
  · rw [right_chk hc] at h; exact absurd h hc
end Go.Proofs.Ytcfpbemoocegfaa
