/- Routes: what each route of All keeps. Plain. -/
import Derived.Test.YtcfpbemoocegfaaPathP
import Derived.Test.YtcfpbemoocegfaaGmap
namespace Go.Proofs.Ytcfpbemoocegfaa
set_option linter.unusedVariables false
set_option linter.unusedSimpArgs false
set_option linter.unnecessarySimpa false
open Go Go.RowKit

theorem backP_fall {a : Int} (ha : U64 a) : ∀ (l : List (Int × Int)), P64 l → (backP a l).2 = 0 → (backP a l).1.Pairwise (fun u v => v ≤ u) ∧ (backP a l).1.getLast? = some a
  | [], _, _ => ⟨by simp [backP], by simp [backP]⟩
  | f :: l, hl, h => by
    have hl' : P64 l := fun p hp => hl p (by simp [hp])
    have hhd := backP_hd_u ha l hl'
    unfold backP at h ⊢
    split at h
    · rename_i h1
      split at h
      · rename_i h2
        rw [if_pos h1, if_pos h2]
        obtain ⟨i1, i2⟩ := backP_fall ha l hl' h1
        obtain ⟨_, h3, h4⟩ := overP_ok hhd (hl f (by simp)).1 (hl f (by simp)).2 h2
        refine ⟨?_, ?_⟩
        · rw [List.pairwise_cons]
          refine ⟨fun v hv => ?_, i1⟩
          rw [h3]
          have : v ≤ (backP a l).1.headD 0 := by
            cases hb : (backP a l).1 with
            | nil => rw [hb] at hv; cases hv
            | cons y m =>
              rw [hb] at hv i1
              rw [List.pairwise_cons] at i1
              rcases List.mem_cons.1 hv with rfl | hv
              · exact Int.le_refl _
              · exact i1.1 v hv
          have := h4.1
          omega
        · rw [List.getLast?_cons, i2]; rfl
      · exact absurd h (by assumption)
    · exact absurd h (by assumption)
theorem good_one {x : Wb} {from_ to am : Int} {r : Rt} (h : Good x from_ to am r) (hr : rightP x from_ to am = 0) : 1 ≤ r.edges.length := by
  obtain ⟨_, h2⟩ := right_zero hr
  cases he : r.edges with
  | cons e E => simp
  | nil =>
    exfalso
    have h3 := h.way.len
    rw [he] at h3
    have h4 := h.hd
    have h5 := h.last
    cases hn : r.nodes with
    | nil => rw [hn] at h4; simp at h4
    | cons a N =>
      rw [hn] at h3 h4 h5
      have hN : N = [] := List.eq_nil_of_length_eq_zero (by simpa using h3)
      subst hN
      simp at h4 h5
      exact h2 (by rw [← h4, ← h5]; simp)
structure Snd (x : Wb) (from_ to am : Int) (r : Rt) : Prop where
  way : WayOk x r.nodes r.edges
  few : r.edges.length ≤ 7
  one : 1 ≤ r.edges.length
  alen : r.amts.length = r.edges.length
  hd : r.nodes[0]? = some from_
  last : r.nodes[r.edges.length]? = some to
  alast : r.amts[r.edges.length - 1]? = some am
  nodup : r.nodes.Nodup
  can : ∀ (i : Nat) (n e a : Int), r.nodes[i]? = some n → r.edges[i]? = some e → r.amts[i]? = some a → a ≤ canAt x n e
  fall : ∀ (i j : Nat) (a b : Int), i < j → r.amts[i]? = some a → r.amts[j]? = some b → b ≤ a
  au : ∀ a ∈ r.amts, U64 a
theorem good_snd {x : Wb} {from_ to am : Int} {r : Rt} (ok : x.Ok) (ha : U64 am) (h : Good x from_ to am r) (hr : rightP x from_ to am = 0) : Snd x from_ to am r := by
  have h1 := good_one h hr
  obtain ⟨e1, e2, e3⟩ := h.amts
  obtain ⟨p1, p2⟩ := backP_fall ha _ (feesP_u ok r.nodes r.edges) e2
  rw [← e1] at p1 p2
  have hl := h.way.len
  refine ⟨h.way, h.few, h1, by omega, ?_, ?_, ?_, h.nodup, ?_, ?_, ?_⟩
  · have := h.hd; rwa [List.head?_eq_getElem?] at this
  · have h5 := last_ne h.way
    rw [hl, Nat.add_sub_cancel, h.last] at h5; exact h5
  · rw [List.getLast?_eq_getElem?] at p2
    rw [show r.edges.length - 1 = r.amts.length - 1 from by omega]; exact p2
  · obtain ⟨q1, _, q3⟩ := fill_eq h.fill
    intro i n e a g1 g2 g3
    refine canB_at q3 i n e a g1 g2 ?_
    rw [← e1]; exact g3
  · intro i j a b hij g1 g2
    obtain ⟨i1, i2⟩ := List.getElem?_eq_some_iff.1 g1
    obtain ⟨j1, j2⟩ := List.getElem?_eq_some_iff.1 g2
    have := List.pairwise_iff_getElem.1 p1 i j i1 j1 hij
    omega
  · intro a ha'
    rw [e1] at ha'
    exact backP_u ha _ (feesP_u ok _ _) a ha'
theorem bestIx_min (R : List Rt) : ∀ (k j : Nat), j ≤ k → (R.getD (bestIx R k) noRt).amts.headD 0 ≤ (R.getD j noRt).amts.headD 0
  | 0, j, h => by
    obtain rfl : j = 0 := by omega
    exact Int.le_refl _
  | k + 1, j, h => by
    have hk : ∀ j, j ≤ k → (R.getD (bestIx R k) noRt).amts.headD 0 ≤ (R.getD j noRt).amts.headD 0 := fun j hj => bestIx_min R k j hj
    unfold bestIx
    split
    · rename_i hb
      unfold betterP at hb
      by_cases hj : j = k + 1
      · rw [hj]; exact Int.le_refl _
      · have := hk j (by omega)
        omega
    · rename_i hb
      unfold betterP at hb
      by_cases hj : j = k + 1
      · rw [hj]; omega
      · exact hk j (by omega)
/-- What the best one is, as a place among all. -/
theorem best_of {x : Wb} {from_ to am : Int} {m : Rt} (h : (bestRt x from_ to am).2 = 0) (hm : m = (bestRt x from_ to am).1) : rightP x from_ to am = 0 ∧ allRt x from_ to am ≠ [] ∧ m = (allRt x from_ to am).getD (bestIx (allRt x from_ to am) ((allRt x from_ to am).length - 1)) noRt := by
  unfold bestRt at h hm
  split at h
  · rename_i hr; exact absurd h hr
  · rename_i hr
    split at h
    · cases h
    · rename_i hn
      rw [if_neg hr, if_neg hn] at hm
      exact ⟨by simpa using hr, hn, hm⟩
theorem best_iff {x : Wb} {from_ to am : Int} (hr : rightP x from_ to am = 0) : ((bestRt x from_ to am).2 = 0 ↔ 0 < (allRt x from_ to am).length) := by
  unfold bestRt
  rw [if_neg (by simp [hr])]
  split
  · rename_i h; simp [h]
  · rename_i h
    exact ⟨fun _ => List.length_pos_iff.2 h, fun _ => rfl⟩
theorem best_min {x : Wb} {from_ to am : Int} {m q : Rt} {k : Nat} {u v : Int} (h : (bestRt x from_ to am).2 = 0) (hm : m = (bestRt x from_ to am).1) (hq : (allRt x from_ to am)[k]? = some q) (hu : m.amts[0]? = some u) (hv : q.amts[0]? = some v) : u ≤ v := by
  obtain ⟨_, _, h3⟩ := best_of h hm
  have hk := (List.getElem?_eq_some_iff.1 hq).1
  have := bestIx_min (allRt x from_ to am) ((allRt x from_ to am).length - 1) k (by omega)
  rw [← h3, List.getD_eq_getElem?_getD (l := allRt x from_ to am) (i := k), hq, Option.getD_some, head_of hu, head_of hv] at this
  exact this
theorem snd_step {x : Wb} {from_ to am : Int} {r : Rt} (h : Snd x from_ to am r) {i : Nat} {n m e a : Int} (hn : r.nodes[i]? = some n) (hm : r.nodes[i + 1]? = some m) (he : r.edges[i]? = some e) (ha : r.amts[i]? = some a) :
    ∃ (j : Nat) (ed : Edg), e = j ∧ x.edges[j]? = some ed ∧ ((sideP ed n = 0 ∧ ed.a = n ∧ ed.b = m ∧ a ≤ ed.c0) ∨ (sideP ed n = 1 ∧ ed.a ≠ n ∧ ed.b = n ∧ ed.a = m ∧ a ≤ ed.c1)) := by
  obtain ⟨j, hj, ed, h1, h2, h3⟩ := h.way.at_ i n e hn he
  have h4 := h3 m hm
  have h5 := h.can i n e a hn he ha
  refine ⟨j, ed, hj, h1, ?_⟩
  subst hj
  unfold canAt at h5
  rw [edge_of h1] at h5
  rcases side_cases ed n with ⟨s1, s2⟩ | ⟨s1, s2, s3⟩ | ⟨s1, _⟩
  · left; rw [s1] at h4 h5; exact ⟨s1, s2, by simpa [Edg.endp] using h4, by simpa [Edg.can] using h5⟩
  · right; rw [s1] at h4 h5; exact ⟨s1, s3, s2, by simpa [Edg.endp] using h4, by simpa [Edg.can] using h5⟩
  · omega
/-- The map of nodes that were seen holds only those. -/
theorem seen_not {N : List Int} {es : List Ent} {i : Nat} {n : Int} (hd : N.Nodup) (hn : N[i]? = some n) (h : ∀ k v, getM es k = some v → k ∈ N.take i) : getM es n = none := by
  cases hg : getM es n with
  | none => rfl
  | some v =>
    exfalso
    obtain ⟨hi, he⟩ := List.getElem?_eq_some_iff.1 hn
    obtain ⟨j, hj, hj2⟩ := List.getElem_of_mem (h n v hg)
    rw [List.length_take] at hj
    rw [List.getElem_take] at hj2
    have := (List.pairwise_iff_getElem.1 hd) j i (by omega) hi (by omega)
    exact this (hj2.trans he.symm)
theorem seen_put {N : List Int} {es : List Ent} {i : Nat} {n : Int} {v0 : Value} {ck : Nat} (hn : N[i]? = some n) (h : ∀ k v, getM es k = some v → k ∈ N.take i) : ∀ k v, getM (putM es n v0 ck) k = some v → k ∈ N.take (i + 1) := by
  intro k v hk
  rw [List.take_add_one, hn, Option.toList_some, List.mem_append, List.mem_singleton]
  by_cases hkn : k = n
  · exact .inr hkn
  · left
    refine h k v ?_
    rw [← hk]
    unfold getM putM
    split
    · rename_i q hq
      obtain ⟨hql, hq1, -⟩ := List.findIdx?_eq_some_iff_getElem.1 hq
      have hq1' : es[q].1 = n := by simpa using hq1
      clear hq hk h
      congr 1
      induction es generalizing q with
      | nil => simp at hql
      | cons p es ih =>
        cases q with
        | zero =>
          simp only [List.getElem_cons_zero] at hq1'
          simp only [List.modify_zero_cons, List.find?_cons]
          have h1 : (p.1 == k) = false := by rw [hq1']; simp; omega
          have h2 : (n == k) = false := by simp; omega
          simp [h1, h2]
        | succ q =>
          simp only [List.modify_succ_cons, List.find?_cons]
          cases hc : p.1 == k with
          | true => rfl
          | false => exact ih q (by simpa using hql) (by simpa using hq1) (by simpa using hq1')
    · rw [List.find?_append]
      have h2 : (n == k) = false := by simp; omega
      cases es.find? (fun p => p.1 == k) <;> simp [h2]
end Go.Proofs.Ytcfpbemoocegfaa
