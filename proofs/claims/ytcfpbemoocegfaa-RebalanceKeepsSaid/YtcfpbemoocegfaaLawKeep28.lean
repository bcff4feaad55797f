/- What a plan that is paid keeps: plain. -/
import Derived.Test.YtcfpbemoocegfaaCyc0
import Derived.Test.YtcfpbemoocegfaaPayP8
import Derived.Test.YtcfpbemoocegfaaSends8
import Derived.Test.YtcfpbemoocegfaaCyc1
import Derived.Test.YtcfpbemoocegfaaWebFrom
namespace Go.Proofs.Ytcfpbemoocegfaa
set_option linter.unusedVariables false
set_option linter.unusedSimpArgs false
set_option linter.unnecessarySimpa false
open Go Go.RowKit

theorem want_off {N A : List Int} {n : Int} : ∀ k, (∀ j, j < k → N.getD j 0 ≠ n) → wantP N A n k = 0
  | 0, _ => rfl
  | k + 1, h => by
    rw [wantP, want_off k fun j hj => h j (by omega), if_neg (fun q => h k (by omega) q.1), if_neg (fun q => h k (by omega) q.1)]; rfl
theorem want_on {N A : List Int} {n : Int} {i : Nat} (hi : N.getD i 0 = n) : ∀ k, i < k → (∀ j, j < k → j ≠ i → N.getD j 0 ≠ n) → wantP N A n k = (if 0 < i then A.getD (i - 1) 0 else 0) - (if i < A.length then A.getD i 0 else 0)
  | 0, h, _ => by omega
  | k + 1, h, ho => by
    by_cases hk : i = k
    · subst hk
      rw [wantP, want_off i fun j hj => ho j (by omega) (by omega)]
      simp only [hi, true_and, Int.zero_add]
    · have hk2 := ho k (by omega) (Ne.symm hk)
      have z1 : (if N.getD k 0 = n ∧ 0 < k then A.getD (k - 1) 0 else 0) = 0 := if_neg fun q => hk2 q.1
      have z2 : (if N.getD k 0 = n ∧ k < A.length then A.getD k 0 else 0) = 0 := if_neg fun q => hk2 q.1
      rw [wantP, want_on hi k (by omega) fun j hj hne => ho j (by omega) hne, z1, z2]; omega
section
variable {x : Wb} {from_ to am : Int} {r : Rt}
theorem snd_inj (hs : Snd x from_ to am r) {i j : Nat} {n : Int} (hi : r.nodes[i]? = some n) (hj : r.nodes[j]? = some n) : i = j :=
  (List.getElem?_inj (List.getElem?_eq_some_iff.1 hi).1 hs.nodup).1 (hi.trans hj.symm)
/-- What goes to a node over a route is no less than this. -/
theorem flow_low (hs : Snd x from_ to am r) {u : Int} (hu : r.amts[0]? = some u) (n : Int) : (if n = to then am else 0) - (if n = from_ then u else 0) ≤ flowP x n (trips r.edges r.nodes r.amts) := by
  have h1 := hs.way.len; have h2 := hs.alen; have h3 := hs.one
  rw [← want_all hs n]
  by_cases hn : n ∈ r.nodes
  · obtain ⟨i, hil, hi⟩ := List.getElem_of_mem hn
    have hi' : r.nodes[i]? = some n := by rw [List.getElem?_eq_getElem hil, hi]
    have hoth : ∀ j, j < r.nodes.length → j ≠ i → r.nodes.getD j 0 ≠ n := by
      intro j hj hne he
      rw [List.getD_eq_getElem?_getD, List.getElem?_eq_getElem hj] at he
      exact hne (snd_inj hs (n := n) (by rw [List.getElem?_eq_getElem hj]; exact congrArg some he) hi')
    rw [want_on (getD_of hi') r.nodes.length hil hoth]
    by_cases h0 : i = 0
    · subst h0
      have hf : n = from_ := by have := hi'.symm.trans hs.hd; injection this
      have hnt : n ≠ to := fun e => by
        have := snd_inj hs (n := n) hi' (by rw [e]; exact hs.last); omega
      simp only [if_neg hnt, if_pos hf, if_neg (show ¬ 0 < 0 by omega), if_pos (show 0 < r.amts.length by omega), getD_of hu]
      omega
    · have hnf : n ≠ from_ := fun e => h0 (snd_inj hs (n := n) hi' (by rw [e]; exact hs.hd))
      have hi0 : 0 < i := by omega
      by_cases hl : i = r.edges.length
      · subst hl
        have ht : n = to := by have := hi'.symm.trans hs.last; injection this
        simp only [if_pos ht, if_neg hnf, if_pos hi0, if_neg (show ¬ r.edges.length < r.amts.length by omega), getD_of hs.alast]
        omega
      · have hnt : n ≠ to := fun e => hl (snd_inj hs (n := n) hi' (by rw [e]; exact hs.last))
        have ha : r.amts[i - 1]? = some (r.amts[i - 1]'(by omega)) := List.getElem?_eq_getElem (by omega)
        have hb : r.amts[i]? = some (r.amts[i]'(by omega)) := List.getElem?_eq_getElem (by omega)
        have := hs.fall (i - 1) i _ _ (by omega) ha hb
        simp only [if_neg hnt, if_neg hnf, if_pos hi0, if_pos (show i < r.amts.length by omega), getD_of ha, getD_of hb]
        omega
  · have hnt : n ≠ to := fun e => hn (by rw [e]; exact List.mem_of_getElem? hs.last)
    have hnf : n ≠ from_ := fun e => hn (by rw [e]; exact List.mem_of_getElem? hs.hd)
    rw [want_off r.nodes.length fun j hj he => hn (by rw [← he, List.getD_eq_getElem?_getD, List.getElem?_eq_getElem hj]; exact List.getElem_mem hj)]
    simp only [if_neg hnt, if_neg hnf]
    omega
end
theorem cut_can {n : Int} {e : Edg} (h : e.Ok) (s : Int) : (cutE n e).can s ≤ e.can s := by
  have h0 := h.c0.1; have h1 := h.c1.1
  unfold cutE
  split
  · omega
  · unfold Edg.can; dsimp only; split <;> assumption
theorem cut_side (n : Int) (e : Edg) (m : Int) : sideP (cutE n e) m = sideP e m := by
  unfold cutE; split <;> rfl
/-- A send on the way between: it is over no channel of the node. -/
theorem mid_trip {x : Wb} (ok : x.Ok) {node fst lst q : Int} {m : Rt} (hs : Snd (withoutP x node) fst lst q m) (hq : 0 < q) {t : Int × Int × Int} (ht : t ∈ trips m.edges m.nodes m.amts) : ∃ (k : Nat) (ed : Edg), t.1 = k ∧ x.edges[k]? = some ed ∧ sideP ed node = -1 ∧ 0 ≤ sideP ed t.2.1 ∧ t.2.2 ≤ ed.can (sideP ed t.2.1) ∧ 0 ≤ t.2.2 ∧ edgeAt (withoutP x node) t.1 = edgeAt x t.1 := by
  obtain ⟨i, h1, h2, h3⟩ := trip_of ht
  obtain ⟨k, ed', hk, q1, q2, q3, q4⟩ := trips_ok hs t ht
  have q5 : (x.edges.map (cutE node))[k]? = some ed' := q1
  rw [List.getElem?_map, Option.map_eq_some_iff] at q5
  obtain ⟨ed, q6, q7⟩ := q5
  have hok := ok.e ed (List.mem_of_getElem? q6)
  rw [← q7, cut_side] at q2 q3
  have hlast : q ≤ t.2.2 := by
    have hl := hs.alen; have ho := hs.one
    have hi := (List.getElem?_eq_some_iff.1 h3).1
    by_cases hlt : i < m.edges.length - 1
    · exact hs.fall i (m.edges.length - 1) _ _ hlt h3 hs.alast
    · have : i = m.edges.length - 1 := by omega
      rw [this, hs.alast] at h3; injection h3 with h3; omega
  have hn : sideP ed node = -1 := by
    rcases side_cases ed node with ⟨h, _⟩ | ⟨h, _⟩ | ⟨h, _⟩
    · exfalso
      rw [cutE_at (by omega)] at q3
      unfold Edg.can at q3; dsimp only at q3
      split at q3 <;> omega
    · exfalso
      rw [cutE_at (by omega)] at q3
      unfold Edg.can at q3; dsimp only at q3
      split at q3 <;> omega
    · exact h
  have hsame : cutE node ed = ed := by unfold cutE; rw [if_pos (by omega)]
  rw [hsame] at q3 q7
  refine ⟨k, ed, hk, q6, hn, q2, q3, q4, ?_⟩
  rw [hk, edge_of q6, edge_of q1, q7]
theorem trips_cons (e n a : Int) (E N A : List Int) : trips (e :: E) (n :: N) (a :: A) = (e, n, a) :: trips E N A := rfl
theorem trips_snoc {E N A : List Int} {e n a : Int} {M : List Int} (h1 : N.length = E.length + 1) (h2 : A.length = E.length) (hn : N[E.length]? = some n) : trips (E ++ [e]) (N ++ M) (A ++ [a]) = trips E N A ++ [(e, n, a)] := by
  induction E generalizing N A with
  | nil =>
    match N, A, h1, h2 with
    | [y], [], _, _ =>
      simp at hn; subst hn
      simp [trips]
  | cons f E ih =>
    match N, A, h1, h2 with
    | y :: N, z :: A, h1, h2 =>
      simp only [List.cons_append, trips_cons]
      rw [ih (by simpa using h1) (by simpa using h2) (by simpa using hn)]
section
variable {x : Wb} (ok : x.Ok) {node am : Int} (ha : U64 am) {r : Rt} {ko ki : Nat} {eo ei : Edg} {s t : Nat} {q fst lst p : Int} {m : Rt} (h : CycOk x node am r ko ki eo ei s t q fst lst p m)
include h
theorem CycOk.trips_eq : trips r.edges r.nodes r.amts = ((ko : Int), node, p) :: (trips m.edges m.nodes m.amts ++ [((ki : Int), lst, am)]) := by
  rw [h.hr]
  dsimp only
  rw [trips_cons]
  rcases h.mid with ⟨hfl, rfl, _⟩ | ⟨j, ej, sj, u, hm⟩
  · rw [hfl]; rfl
  · have hd := hm.hs.hd
    have h1 := hm.hs.way.len; have h2 := hm.hs.alen
    have hN : fst :: (m.nodes.drop 1 ++ [node]) = m.nodes ++ [node] := by
      cases hn : m.nodes with
      | nil => rw [hn] at hd; simp at hd
      | cons a N => rw [hn] at hd; simp at hd; subst hd; rfl
    rw [hN, trips_snoc h1 h2 hm.hs.last]
theorem CycOk.apart : fst ≠ node ∧ lst ≠ node ∧ sideP ei lst = ((1 - t : Nat) : Int) ∧ eo.endp (s : Int) = node ∧ ei.endp (t : Int) = node := by
  obtain ⟨z1, z2, z3⟩ := chk_zero h.at_.hc
  have bo := z3 eo (List.mem_of_getElem? h.at_.ho)
  have bi := z3 ei (List.mem_of_getElem? h.at_.hi)
  unfold badE at bo bi
  have hs := h.at_.hs; have ht := h.at_.ht; have hF := h.hF; have hL := h.hL
  have hs2 := h.at_.s2; have ht2 := h.at_.t2
  have key : ∀ (e : Edg) (k : Nat), k < 2 → sideP e node = (k : Int) → e.a ≠ e.b → e.endp (k : Int) = node ∧ e.endp ((1 - k : Nat) : Int) ≠ node ∧ sideP e (e.endp ((1 - k : Nat) : Int)) = ((1 - k : Nat) : Int) := by
    intro e k hk hsd hne
    rcases side_cases e node with ⟨g1, g2⟩ | ⟨g1, g2, g3⟩ | ⟨g1, _⟩
    · have : k = 0 := by omega
      subst this
      refine ⟨g2, fun e' => ?_, ?_⟩
      · have : e.b = node := e'
        omega
      · show sideP e e.b = 1
        unfold sideP; rw [if_neg hne, if_pos rfl]
    · have : k = 1 := by omega
      subst this
      refine ⟨g2, fun e' => g3 e', ?_⟩
      show sideP e e.a = 0
      unfold sideP; rw [if_pos rfl]
    · omega
  obtain ⟨a1, a2, _⟩ := key eo s hs2 hs (fun e => bo (by simp [e]))
  obtain ⟨b1, b2, b3⟩ := key ei t ht2 ht (fun e => bi (by simp [e]))
  rw [hF] at a2
  rw [hL] at b2 b3
  exact ⟨a2, b2, b3, a1, b1⟩
include ok ha
theorem CycOk.pos : 0 < am ∧ 0 < q ∧ 0 ≤ p := by
  have h1 := h.at_.nz; have h2 := ha.1; have h3 := h.q1; have h4 := (h.pq ok).1
  omega
theorem CycOk.tripsOk : ∀ tr ∈ trips r.edges r.nodes r.amts, TripOk x tr := by
  obtain ⟨p1, p2, p3⟩ := h.pos ok ha
  obtain ⟨a1, a2, a3, a4, a5⟩ := h.apart
  rw [h.trips_eq]
  intro tr htr
  rcases List.mem_cons.1 htr with rfl | htr
  · exact ⟨ko, eo, rfl, h.at_.ho, by rw [h.at_.hs]; omega, by rw [h.at_.hs]; exact h.can, p3⟩
  · rcases List.mem_append.1 htr with htr | htr
    · rcases h.mid with ⟨_, rfl, _⟩ | ⟨j, ej, sj, u, hm⟩
      · simp [noRt, trips] at htr
      · obtain ⟨k, ed, q1, q2, _, q4, q5, q6, _⟩ := mid_trip ok hm.hs p2 htr
        exact ⟨k, ed, q1, q2, q4, q5, q6⟩
    · simp at htr; subst htr
      exact ⟨ki, ei, rfl, h.at_.hi, by dsimp only; rw [a3]; omega, by dsimp only; rw [a3]; exact h.room, by have := ha.1; exact this⟩
theorem CycOk.nodup : ((trips r.edges r.nodes r.amts).map (·.1)).Nodup := by
  obtain ⟨p1, p2, p3⟩ := h.pos ok ha
  have hmid : ∀ k : Nat, ∀ ed, x.edges[k]? = some ed → 0 ≤ sideP ed node → (k : Int) ∉ (trips m.edges m.nodes m.amts).map (·.1) := by
    intro k ed hed hsd hmem
    rw [List.mem_map] at hmem
    obtain ⟨tr, htr, hk⟩ := hmem
    rcases h.mid with ⟨_, rfl, _⟩ | ⟨j, ej, sj, u, hm⟩
    · simp [noRt, trips] at htr
    · obtain ⟨k', ed', q1, q2, q3, _⟩ := mid_trip ok hm.hs p2 htr
      have : k' = k := by omega
      subst this
      rw [hed] at q2; cases q2
      omega
  rw [h.trips_eq, List.map_cons, List.map_append, List.map_singleton, List.nodup_cons, List.nodup_append]
  have hs := h.at_.hs; have ht := h.at_.ht
  refine ⟨fun hm => ?_, ?_, by simp, ?_⟩
  · rcases List.mem_append.1 hm with hm | hm
    · exact hmid ko eo h.at_.ho (by omega) hm
    · simp at hm; exact h.at_.ne (by exact_mod_cast hm)
  · rcases h.mid with ⟨_, rfl, _⟩ | ⟨j, ej, sj, u, hm⟩
    · simp [noRt, trips]
    · rw [trips_fst hm.hs]; exact edges_nodup hm.hs
  · intro a hA b hB
    simp at hB; subst hB
    intro e
    exact hmid ki ei h.at_.hi (by omega) (e ▸ hA)
theorem CycOk.tripsU : ∀ tr ∈ trips r.edges r.nodes r.amts, U64 tr.2.2 := by
  rw [h.trips_eq]
  intro tr htr
  rcases List.mem_cons.1 htr with rfl | htr
  · exact (h.pq ok).2
  · rcases List.mem_append.1 htr with htr | htr
    · obtain ⟨i, _, _, h3⟩ := trip_of htr
      rcases h.mid with ⟨_, rfl, _⟩ | ⟨j, ej, sj, u, hm⟩
      · simp [noRt] at h3
      · exact hm.hs.au _ (List.mem_of_getElem? h3)
    · simp at htr; subst htr; exact ha
theorem CycOk.flow (n : Int) : (n = node → flowP x n (trips r.edges r.nodes r.amts) = am - p) ∧ (n ≠ node → 0 ≤ flowP x n (trips r.edges r.nodes r.amts)) := by
  obtain ⟨p1, p2, p3⟩ := h.pos ok ha
  obtain ⟨a1, a2, a3, a4, a5⟩ := h.apart
  have f1 : flow1 x n ((ko : Int), node, p) = (if fst = n then p else 0) - (if node = n then p else 0) := by
    unfold flow1 destP; dsimp only
    rw [edge_of h.at_.ho, h.at_.hs, two_sub h.at_.s2, h.hF]
  have f2 : flow1 x n ((ki : Int), lst, am) = (if node = n then am else 0) - (if lst = n then am else 0) := by
    unfold flow1 destP; dsimp only
    rw [edge_of h.at_.hi, a3, show (1 : Int) - ((1 - t : Nat) : Int) = (t : Int) from by have := h.at_.t2; omega, a5]
  rw [h.trips_eq]
  simp only [flowP, flowP_app, f1, f2, Int.add_zero]
  rcases h.mid with ⟨hfl, rfl, hpq⟩ | ⟨j, ej, sj, u, hm⟩
  · have h0 : flowP x n (trips noRt.edges noRt.nodes noRt.amts) = 0 := rfl
    rw [h0]
    have := h.q1
    constructor
    · intro hn
      rw [if_neg (fun e => a1 (e.trans hn)), if_pos hn.symm, if_pos hn.symm, if_neg (fun e => a2 (e.trans hn))]; omega
    · intro hn
      rw [if_neg (Ne.symm hn), if_neg (Ne.symm hn), hfl]
      split <;> omega
  · have hfe : flowP (withoutP x node) n (trips m.edges m.nodes m.amts) = flowP x n (trips m.edges m.nodes m.amts) := flowP_congr n _ fun tr htr => by
      obtain ⟨_, _, _, _, _, _, _, _, q9⟩ := mid_trip ok hm.hs p2 htr
      exact q9
    have hlow := flow_low hm.hs hm.u0 n
    rw [hfe] at hlow
    have hu := hm.hs.au u (List.mem_of_getElem? hm.u0)
    have hokj := ok.e ej (List.mem_of_getElem? hm.hej)
    have hov := (over_fit hu (hokj.base (sj : Int)) (hokj.rate (sj : Int)) (by rw [hm.ov])).1
    rw [hm.ov] at hov
    dsimp only at hov
    have := h.q1
    constructor
    · intro hn
      have hz : ∀ L : List (Int × Int × Int), (∀ tr ∈ L, tr ∈ trips m.edges m.nodes m.amts) → flowP x n L = 0 := by
        intro L
        induction L with
        | nil => intro _; rfl
        | cons tr L ih =>
          intro hL
          obtain ⟨k, ed, q1, q2, q3, q4, _⟩ := mid_trip ok hm.hs p2 (hL tr (by simp))
          have hsrc : tr.2.1 ≠ n := fun e => by rw [e, hn] at q4; omega
          have hdst : destP x tr ≠ n := fun e => by
            unfold destP at e
            rw [q1, edge_of q2] at e
            rcases side_cases ed node with ⟨g, _⟩ | ⟨g, _⟩ | ⟨_, g1, g2⟩
            · omega
            · omega
            · unfold Edg.endp at e
              split at e
              · exact g1 (e.trans hn)
              · exact g2 (e.trans hn)
          rw [flowP, ih fun t' ht' => hL t' (by simp [ht'])]
          unfold flow1
          rw [if_neg hdst, if_neg hsrc]; rfl
      rw [hz _ fun _ h => h, if_neg (fun e => a1 (e.trans hn)), if_pos hn.symm, if_pos hn.symm, if_neg (fun e => a2 (e.trans hn))]; omega
    · intro hn
      rw [if_neg (Ne.symm hn), if_neg (Ne.symm hn)]
      have e1 : (if fst = n then p else 0) = (if n = fst then p else 0) := by simp only [eq_comm]
      have e2 : (if lst = n then am else 0) = (if n = lst then am else 0) := by simp only [eq_comm]
      rw [e1, e2]
      revert hlow
      split <;> split <;> intro hlow <;> omega
end
theorem outs_one {x : Wb} (ok : x.Ok) {k : Nat} {ed : Edg} (hed : x.edges[k]? = some ed) (n : Int) : ed.out n ≤ outs x n := totE_one (fun e => e.out n) x.edges k ed (fun e he => by
  have h := ok.e e he; have h1 := h.c0.1; have h2 := h.c1.1
  show 0 ≤ e.out n
  unfold Edg.out
  split
  · exact h1
  · split
    · exact h2
    · exact Int.le_refl _) hed
theorem sent_can (e : Edg) (a : Int) : ∀ {t : Nat}, t < 2 → (e.sent ((1 - t : Nat) : Int) a).can (t : Int) = e.can (t : Int) + a
  | 0, _ => rfl
  | 1, _ => rfl
set_option maxHeartbeats 1000000 in
theorem keeps {x : Wb} (ok : x.Ok) {node out in_ am : Int} (ha : U64 am) {r : Rt} (hq : cycP x node out in_ am = (r, 0)) (hh : (allP x).2 = 0) {y : Wb} {er : Int} (hg : goX x r.edges r.nodes r.amts = (y, er)) :
    er = 0 ∧ y.edges.length = x.edges.length ∧ allP y = allP x ∧ chkP x = 0 ∧ (∃ (ki : Nat) (ei eiy : Edg) (t : Nat), in_ = (ki : Nat) ∧ x.edges[ki]? = some ei ∧ y.edges[ki]? = some eiy ∧ sideP ei node = (t : Int) ∧ t < 2 ∧ eiy.can (t : Int) = ei.can (t : Int) + am) ∧
    (∀ n, n = node → (sendsP y n).1 = (sendsP x n).1 - cFee r am 0 ∧ 0 ≤ (sendsP x n).1 - cFee r am 0 ∧ 0 ≤ cFee r am 0) ∧ (∀ n, n ≠ node → (sendsP x n).1 ≤ (sendsP y n).1) ∧ 0 < r.edges.length ∧ (∀ a ∈ r.amts, U64 a) ∧ y.Ok ∧ y.spots.length ≤ x.spots.length := by
  obtain ⟨ko, ki, eo, ei, s, t, q, fst, lst, p, m, rfl, rfl, hk⟩ := cyc_good ok ha hq
  have hc := hk.at_.hc
  obtain ⟨l1, l2, l3, l4⟩ := hk.lens
  have hlens : lensP r.edges r.nodes r.amts := ⟨l3.symm, l4⟩
  have h1 := goX_in hg hlens
  unfold goR at h1
  rw [if_pos hc] at h1
  obtain ⟨i1, i2⟩ := goL_pass (trips r.edges r.nodes r.amts) x ok hc (hk.tripsOk ok ha) (hk.tripsU ok ha) (hk.nodup ok ha)
  rw [h1] at i1 i2
  obtain ⟨hall1, hall2⟩ := all_holds ok hh
  have he : er = 0 := by
    rcases i1 with i1 | ⟨_, i1⟩
    · exact i1
    · omega
  obtain ⟨j1, j2, j3, j4, j5, j6, j7⟩ := i2 he
  have hau : ∀ a ∈ r.amts, U64 a := fun a haa => by
    obtain ⟨i, hi, hia⟩ := List.getElem_of_mem haa
    have hl : i < r.edges.length := by omega
    have ht := hk.tripsU ok ha _ (List.mem_of_getElem? (trip_at (List.getElem?_eq_getElem hl) (List.getElem?_eq_getElem (by omega : i < r.nodes.length)) (List.getElem?_eq_getElem hi)))
    rw [← hia]; exact ht
  obtain ⟨hoky, hsy, _⟩ := goX_fit ok hau hg
  have hfee : cFee r am 0 = p - am := by rw [hk.hr]; rfl
  obtain ⟨a1, a2, a3, a4, a5⟩ := hk.apart
  have hpq := (hk.pq ok).1; have hq1 := hk.q1
  have sx : ∀ n, sendsP x n = (outs x n, 0) := fun n => sends_fit ok hc hall2 n
  have sy : ∀ n, sendsP y n = (outs y n, 0) := fun n => sends_fit hoky j1 (by rw [j3]; exact hall2) n
  refine ⟨he, j5, ?_, hc, ?_, fun n hn => ?_, fun n hn => ?_, by rw [hk.hr]; simp, hau, hoky, hsy⟩
  · rw [holds_all hoky (by rw [j3]; exact hall2), holds_all ok hall2, j3]
  · have hmem : ((ki : Int), lst, am) ∈ trips r.edges r.nodes r.amts := by rw [hk.trips_eq]; simp
    have := j7 _ hmem ki ei rfl hk.at_.hi
    dsimp only at this
    rw [a3] at this
    exact ⟨ki, ei, _, t, rfl, hk.at_.hi, this, hk.at_.ht, hk.at_.t2, sent_can ei am hk.at_.t2⟩
  · have hf := (hk.flow ok ha n).1 hn
    rw [sx, sy]
    dsimp only
    rw [j2 n, hf, hfee]
    have h2 := outs_one ok hk.at_.ho n
    have h3 : eo.can (s : Int) = eo.out n := by
      rw [hn]
      rcases side_cases eo node with ⟨g1, g2⟩ | ⟨g1, g2, g3⟩ | ⟨g1, _⟩
      · have : s = 0 := by have := hk.at_.hs; omega
        subst this; unfold Edg.out; rw [if_pos g2]; rfl
      · have : s = 1 := by have := hk.at_.hs; omega
        subst this; unfold Edg.out; rw [if_neg g3, if_pos g2]; rfl
      · have := hk.at_.hs; omega
    have h4 := hk.can
    have h5 := ha.1
    refine ⟨by omega, by omega, by omega⟩
  · have hf := (hk.flow ok ha n).2 hn
    rw [sx, sy]
    dsimp only
    rw [j2 n]; omega
open Go Go.RowKit

set_option maxRecDepth 100000 in
set_option maxHeartbeats 4000000 in
theorem plango_any (w : World) (As : Option Addr) (cs : Nat) (Ae : Option Addr) (ce : Nat) (x : Wb) (h : WebAt w As cs Ae ce x) (ok : x.Ok) (An : Option Addr) (cn : Nat) (N : List Int) (hN : Recs 1 iC_i64 w An cn N) (Aed : Option Addr) (ced : Nat) (E : List Int) (hE : Recs 1 iC_i64 w Aed ced E) (Aa : Option Addr) (ca : Nat) (A : List Int) (hA : Recs 1 iC_u64 w Aa ca A) (hAu : ∀ a ∈ A, U64 a) (fe : Int) (l1 : x.spots.length ≤ 1000) (l2 : x.edges.length ≤ 1000) {yr : Wb} {er2 : Int} (hg : goX x E N A = (yr, er2)) (hz : ¬ (lensP E N A ∧ E.length = 0 ∧ er2 = 0)) : Calls Try.prog 51 #[.agg #[.slice An N.length cn, .slice Aed E.length ced, .slice Aa A.length ca, .int .u64 fe], .agg #[.slice As x.spots.length cs, .slice Ae x.edges.length ce]] w fun e w' => ∃ A1 c1 A2 c2, e = .returned (.tuple #[.agg #[.slice A1 yr.spots.length c1, .slice A2 yr.edges.length c2], .int .i64 er2]) ∧ Sat w w' [rest w (· < w.heap.size), row 107 2 (.slice A1 yr.spots.length c1) yr.spots.length (yr.spots.flatMap spC), row 62 8 (.slice A2 yr.edges.length c2) yr.edges.length (yr.edges.flatMap edC)] := by
 refine enter 17 Try.func51 rfl rfl rfl fun a F => ?_
 have S := Sat.pushRest w
 refine s_reg ?_
 refine l_do F rfl rfl (op_box S _ _ (.agg #[.slice An N.length cn, .slice Aed E.length ced, .slice Aa A.length ca, .int .u64 fe]) F rfl (by kernel_rfl) fun b1 z S a F => ?_)
 refine l_do F rfl rfl (op_box S _ _ (.agg #[.slice As x.spots.length cs, .slice Ae x.edges.length ce]) F rfl (by kernel_rfl) fun b2 z S a F => ?_)
 refine l_do F rfl rfl (op_alloc S _ (.agg #[.slice none 0 0, .slice none 0 0]) rfl (by kernel_rfl) fun b3 z S a F => ?_)
 refine l_pure 1 (fun L => (5, .int .i64 0) :: L) F (by kernel_rfl) fun a F => ?_
 refine l_then ?_
 refine s_reg ?_
 refine l_pure 1 (fun L => (6, .pointer (some ⟨b1, 0, none⟩)) :: L) F (by kernel_rfl) fun a F => ?_
 refine l_do F rfl rfl (op_load _ _ (some ⟨b1, 0, none⟩) 0 (.slice An N.length cn) F rfl (by kernel_rfl) (by kernel_rfl) (cBox S 1 rfl (j := 0) rfl) (fun a F => ?_))
 refine l_pure 1 (fun L => (8, .pointer (some ⟨b1, 1, none⟩)) :: L) F (by kernel_rfl) fun a F => ?_
 refine l_do F rfl rfl (op_load _ _ (some ⟨b1, 0, none⟩) 1 (.slice Aed E.length ced) F rfl (by kernel_rfl) (by kernel_rfl) (cBox S 1 rfl (j := 1) rfl) (fun a F => ?_))
 refine l_pure 1 (fun L => (10, .pointer (some ⟨b1, 2, none⟩)) :: L) F (by kernel_rfl) fun a F => ?_
 refine l_do F rfl rfl (op_load _ _ (some ⟨b1, 0, none⟩) 2 (.slice Aa A.length ca) F rfl (by kernel_rfl) (by kernel_rfl) (cBox S 1 rfl (j := 2) rfl) (fun a F => ?_))
 refine l_pure 1 (fun L => (12, .agg #[.slice An N.length cn, .slice Aed E.length ced, .slice Aa A.length ca]) :: L) F (by kernel_rfl) fun a F => ?_
 refine l_do F rfl rfl (op_loadK _ _ (some ⟨b2, 0, none⟩) 0 [.slice As x.spots.length cs, .slice Ae x.edges.length ce] F rfl (by kernel_rfl) (by kernel_rfl) (by kernel_rfl) (by simp) (cBoxK S 2 rfl 0 (by kernel_rfl)) (fun a F => ?_))
 refine l_do F rfl rfl (op_fn F (by kernel_rfl) (goes_new _ As cs Ae ce x (h.move S rfl) ok An cn N (hN.mono (src_rest S (i := 0) rfl hN.src (src_lt hN.src))) Aed ced E (hE.mono (src_rest S (i := 0) rfl hE.src (src_lt hE.src))) Aa ca A (hA.mono (src_rest S (i := 0) rfl hA.src (src_lt hA.src))) hAu l1 l2 hg hz) ?_)
 rintro e z ⟨A4, c5, A6, c7, rfl, g⟩
 have S := S.pushThings g
 refine ⟨_, rfl, ?_⟩
 intro a F
 refine l_pure 2 (fun L => (16, .int .i64 er2) :: (15, .agg #[.slice A4 yr.spots.length c5, .slice A6 yr.edges.length c7]) :: L) F (by kernel_rfl) fun a F => ?_
 refine l_do F rfl rfl (op_storeB S 3 _ _ _ b3 0 (.agg #[.slice A4 yr.spots.length c5, .slice A6 yr.edges.length c7]) F rfl rfl (by kernel_rfl) (by kernel_rfl) (by kernel_rfl) (by kernel_rfl) (by kernel_rfl) fun z S a F => ?_)
 refine l_pure 1 (fun L => (5, .int .i64 er2) :: L) F (by kernel_rfl) fun a F => ?_
 refine l_then ?_
 refine wp_ret ?_
 exact fin F [.cell 4 32, .tmp 5] [.agg #[.slice A4 yr.spots.length c5, .slice A6 yr.edges.length c7], .int .i64 er2] rfl ⟨⟨_, by kernel_rfl, resK S 3 (cs := [.slice A4 yr.spots.length c5, .slice A6 yr.edges.length c7]) rfl (by kernel_rfl) (by kernel_rfl) (by simp)⟩, by kernel_rfl, trivial⟩ (.tuple #[.agg #[.slice A4 yr.spots.length c5, .slice A6 yr.edges.length c7], .int .i64 er2]) rfl ⟨A4, c5, A6, c7, rfl, S.pick [0, 4, 5] (by decide)⟩
set_option maxRecDepth 100000 in
set_option maxHeartbeats 4000000 in
theorem keeps_law (w : World) (As : Option Addr) (cs : Nat) (Ae : Option Addr) (ce : Nat) (x : Wb) (h : WebAt w As cs Ae ce x) (ok : x.Ok) (node out in_ am : Int) (hua : U64 am) : Calls Try.prog 13 #[.agg #[.slice As x.spots.length cs, .slice Ae x.edges.length ce], .int .i64 node, .int .i64 out, .int .i64 in_, .int .u64 am] w fun e w' => e = .returned (.bool true) ∧ Below w.heap.size w w' := by
 refine enter 154 Try.func13 rfl rfl rfl fun a F => ?_
 obtain ⟨r, er, hq⟩ : ∃ r er, cycP x node out in_ am = (r, er) := ⟨_, _, rfl⟩
 obtain ⟨⟨hm1, hm2, hm3⟩, _⟩ := cyc_fit ok hua hq
 have S := Sat.pushRest w
 refine s_reg ?_
 refine l_do F rfl rfl (op_box S _ _ (.agg #[.slice As x.spots.length cs, .slice Ae x.edges.length ce]) F rfl (by kernel_rfl) fun b1 z S a F => ?_)
 refine l_pure 1 (fun L => (10, .bool false) :: L) F (by kernel_rfl) fun a F => ?_
 refine l_then ?_
 refine wp_seq ?_
 refine s_reg ?_
 refine l_do F rfl rfl (op_loadK _ _ (some ⟨b1, 0, none⟩) 0 [.slice As x.spots.length cs, .slice Ae x.edges.length ce] F rfl (by kernel_rfl) (by kernel_rfl) (by kernel_rfl) (by simp) (cBoxK S 1 rfl 0 (by kernel_rfl)) (fun a F => ?_))
 cases hb2 : (lightP x) with
 | false =>
  refine l_do F rfl rfl (op_fn F (by kernel_rfl) (light_any _ As cs Ae ce x) ?_)
  rintro e z ⟨rfl, hb⟩
  have S := S.grow hb
  refine ⟨_, rfl, ?_⟩
  rw [hb2]
  intro a F
  refine l_pure 1 (fun L => (29, .bool true) :: L) F (by kernel_rfl) fun a F => ?_
  refine l_then ?_
  refine c_t F rfl ?_
  refine s_reg ?_
  refine l_do F rfl rfl (op_fn F (by kernel_rfl) (awake28_any _) ?_)
  rintro e z ⟨rfl, hb⟩
  have S := S.grow hb
  refine ⟨_, rfl, ?_⟩
  intro a F
  refine l_pure 1 (fun L => (10, .bool true) :: L) F (by kernel_rfl) fun a F => ?_
  refine l_then ?_
  refine wp_ret ?_
  refine then_r (?_)
  exact fin F [.tmp 10] [.bool true] rfl ⟨by kernel_rfl, trivial⟩ (.bool true) rfl ⟨rfl, S.below (i := 0) rfl⟩
 | true =>
  obtain ⟨l1, l2, l3, l4⟩ := light_small hb2
  refine l_do F rfl rfl (op_fn F (by kernel_rfl) (light_any _ As cs Ae ce x) ?_)
  rintro e z ⟨rfl, hb⟩
  have S := S.grow hb
  refine ⟨_, rfl, ?_⟩
  rw [hb2]
  intro a F
  refine l_pure 1 (fun L => (29, .bool false) :: L) F (by kernel_rfl) fun a F => ?_
  refine l_then ?_
  refine c_f F rfl ?_
  refine wp_skip ?_
  refine then_n ?_
  refine s_reg ?_
  refine l_do F rfl rfl (op_loadK _ _ (some ⟨b1, 0, none⟩) 0 [.slice As x.spots.length cs, .slice Ae x.edges.length ce] F rfl (by kernel_rfl) (by kernel_rfl) (by kernel_rfl) (by simp) (cBoxK S 1 rfl 0 (by kernel_rfl)) (fun a F => ?_))
  refine l_do F rfl rfl (op_fn F (by kernel_rfl) (to_any _ As cs Ae ce x (h.move S rfl) ok ⟨l1, l2⟩) ?_)
  rintro e z ⟨A3, c4, A5, c6, rfl, g⟩
  have S := S.pushThings g
  refine ⟨_, rfl, ?_⟩
  intro a F
  refine l_do F rfl rfl (op_alloc S _ (.agg #[.slice none 0 0, .slice none 0 0]) rfl (by kernel_rfl) fun b7 z S a F => ?_)
  refine l_do F rfl rfl (op_storeB S 4 _ _ _ b7 0 (.agg #[.slice A3 x.spots.length c4, .slice A5 x.edges.length c6]) F rfl rfl (by kernel_rfl) (by kernel_rfl) (by kernel_rfl) (by kernel_rfl) (by kernel_rfl) fun z S a F => ?_)
  refine l_then ?_
  refine s_reg ?_
  refine l_do F rfl rfl (op_loadK _ _ (some ⟨b7, 0, none⟩) 0 [.slice A3 x.spots.length c4, .slice A5 x.edges.length c6] F rfl (by kernel_rfl) (by kernel_rfl) (by kernel_rfl) (by simp) (cBoxK S 4 rfl 0 (by kernel_rfl)) (fun a F => ?_))
  refine l_do F rfl rfl (op_fn F (by kernel_rfl) (all_any _ A3 c4 A5 c6 x (WebAt.ofNew (x := x) (w := w) S (i := 2) (j := 3) rfl rfl ⟨l1, l2⟩) ok (by omega)) ?_)
  rintro e z ⟨rfl, hb⟩
  have S := S.grow hb
  refine ⟨_, rfl, ?_⟩
  intro a F
  refine l_pure 5 (fun L => (13, .int .i64 ((allP x).2)) :: (12, .int .u64 ((allP x).1)) :: (37, .int .i64 ((allP x).2)) :: (36, .int .u64 ((allP x).1)) :: (33, .tuple #[.int .u64 ((allP x).1), .int .i64 ((allP x).2)]) :: L) F (by kernel_rfl) fun a F => ?_
  refine l_then ?_
  refine s_reg ?_
  refine l_do F rfl rfl (op_loadK _ _ (some ⟨b7, 0, none⟩) 0 [.slice A3 x.spots.length c4, .slice A5 x.edges.length c6] F rfl (by kernel_rfl) (by kernel_rfl) (by kernel_rfl) (by simp) (cBoxK S 4 rfl 0 (by kernel_rfl)) (fun a F => ?_))
  refine l_pure 4 (fun L => (43, .int .u64 am) :: (42, .int .i64 in_) :: (41, .int .i64 out) :: (40, .int .i64 node) :: L) F (by kernel_rfl) fun a F => ?_
  refine l_do F rfl rfl (op_fn F (by kernel_rfl) (pcycle_at _ A3 c4 A5 c6 x (WebAt.ofNew (x := x) (w := w) S (i := 2) (j := 3) rfl rfl ⟨l1, l2⟩) ok node out in_ am hua l1 l2 hq) ?_)
  rintro e z ⟨P1, e1, P2, e2, P3, e3, rfl, g⟩
  have S := S.pushThings g
  refine ⟨_, rfl, ?_⟩
  intro a F
  refine l_pure 3 (fun L => (46, .int .i64 er) :: (45, .agg #[.slice P1 r.nodes.length e1, .slice P2 r.edges.length e2, .slice P3 r.amts.length e3, .int .u64 (cFee r am er)]) :: (38, .tuple #[.agg #[.slice P1 r.nodes.length e1, .slice P2 r.edges.length e2, .slice P3 r.amts.length e3, .int .u64 (cFee r am er)], .int .i64 er]) :: L) F (by kernel_rfl) fun a F => ?_
  refine l_do F rfl rfl (op_alloc S _ (.agg #[.slice none 0 0, .slice none 0 0, .slice none 0 0, .int .u64 0]) rfl (by kernel_rfl) fun b8 z S a F => ?_)
  refine l_do F rfl rfl (op_storeB S 8 _ _ _ b8 0 (.agg #[.slice P1 r.nodes.length e1, .slice P2 r.edges.length e2, .slice P3 r.amts.length e3, .int .u64 (cFee r am er)]) F rfl rfl (by kernel_rfl) (by kernel_rfl) (by kernel_rfl) (by kernel_rfl) (by kernel_rfl) fun z S a F => ?_)
  refine l_pure 1 (fun L => (15, .int .i64 er) :: L) F (by kernel_rfl) fun a F => ?_
  refine l_then ?_
  refine wp_seq ?_
  refine s_reg ?_
  refine l_pure 1 (fun L => (47, .int .i64 er) :: L) F (by kernel_rfl) fun a F => ?_
  by_cases ht9 : (er : Int) = (0 : Int)
  ·
   skip
   have her := ht9
   refine l_do F rfl rfl (op_pure F (v0 := .bool ((er : Int) != (0 : Int))) (v := .bool false) (by kernel_rfl) (neqF ht9) fun a F => ?_)
   refine l_pure 2 (fun L => (50, .int .i64 ((allP x).2)) :: (49, .bool false) :: L) F (by kernel_rfl) fun a F => ?_
   by_cases ht10 : ((allP x).2 : Int) = (0 : Int)
   ·
    skip
    have hh := ht10
    have hq0 := hq
    rw [her] at hq0
    obtain ⟨yr, er2, hg⟩ : ∃ yr er2, goX x r.edges r.nodes r.amts = (yr, er2) := ⟨_, _, rfl⟩
    obtain ⟨he2, hlen, hally, hc, ⟨ki, ei, eiy, t, rfl, hei, heiy, hsd, ht2, hcn⟩, hnode, hoth, hpos, hau, oky, hsy⟩ := keeps ok hua hq0 hh hg
    have hy1 : yr.spots.length ≤ 1000 := by omega
    have hy2 : yr.edges.length ≤ 1000 := by omega
    have hfe : cFee r am er = cFee r am 0 := by rw [her]
    obtain ⟨hc1, hc2⟩ := (ok.e ei (List.mem_of_getElem? hei)).can (t : Int)
    obtain ⟨hc3, hc4⟩ := (oky.e eiy (List.mem_of_getElem? heiy)).can (t : Int)
    obtain ⟨ha1, ha2⟩ := hua
    refine l_do F rfl rfl (op_pure F (v0 := .bool (((allP x).2 : Int) != (0 : Int))) (v := .bool false) (by kernel_rfl) (neqF ht10) fun a F => ?_)
    refine l_pure 1 (fun L => (52, .bool false) :: L) F (by kernel_rfl) fun a F => ?_
    refine l_then ?_
    refine c_f F rfl ?_
    refine wp_skip ?_
    refine then_n ?_
    refine s_reg ?_
    refine l_do F rfl rfl (op_loadK _ _ (some ⟨b8, 0, none⟩) 0 [.slice P1 r.nodes.length e1, .slice P2 r.edges.length e2, .slice P3 r.amts.length e3, .int .u64 (cFee r am er)] F rfl (by kernel_rfl) (by kernel_rfl) (by kernel_rfl) (by simp) (cBoxK S 8 rfl 0 (by kernel_rfl)) (fun a F => ?_))
    refine l_do F rfl rfl (op_loadK _ _ (some ⟨b7, 0, none⟩) 0 [.slice A3 x.spots.length c4, .slice A5 x.edges.length c6] F rfl (by kernel_rfl) (by kernel_rfl) (by kernel_rfl) (by simp) (cBoxK S 4 rfl 0 (by kernel_rfl)) (fun a F => ?_))
    refine l_do F rfl rfl (op_fn F (by kernel_rfl) (plango_any _ A3 c4 A5 c6 x (WebAt.ofNew (x := x) (w := w) S (i := 2) (j := 3) rfl rfl ⟨l1, l2⟩) ok P1 e1 r.nodes (Recs.ofRow (S.rowOf (i := 5) rfl) (by omega)) P2 e2 r.edges (Recs.ofRow (S.rowOf (i := 6) rfl) (by omega)) P3 e3 r.amts (Recs.ofRow (S.rowOf (i := 7) rfl) (by omega)) hau (cFee r am er) l1 l2 hg (fun h9 => absurd h9.2.1 (by omega))) ?_)
    rintro e z ⟨A11, c12, A13, c14, rfl, g⟩
    have S := S.pushThings g
    refine ⟨_, rfl, ?_⟩
    intro a F
    refine l_pure 3 (fun L => (59, .int .i64 er2) :: (58, .agg #[.slice A11 yr.spots.length c12, .slice A13 yr.edges.length c14]) :: (54, .tuple #[.agg #[.slice A11 yr.spots.length c12, .slice A13 yr.edges.length c14], .int .i64 er2]) :: L) F (by kernel_rfl) fun a F => ?_
    refine l_do F rfl rfl (op_alloc S _ (.agg #[.slice none 0 0, .slice none 0 0]) rfl (by kernel_rfl) fun b15 z S a F => ?_)
    refine l_do F rfl rfl (op_storeB S 11 _ _ _ b15 0 (.agg #[.slice A11 yr.spots.length c12, .slice A13 yr.edges.length c14]) F rfl rfl (by kernel_rfl) (by kernel_rfl) (by kernel_rfl) (by kernel_rfl) (by kernel_rfl) fun z S a F => ?_)
    have S : Sat w z [rest w (· < w.heap.size), box b1 25 [.slice As x.spots.length cs, .slice Ae x.edges.length ce], row 107 2 (.slice A3 x.spots.length c4) x.spots.length (x.spots.flatMap spC), row 62 8 (.slice A5 x.edges.length c6) x.edges.length (x.edges.flatMap edC), box b7 32 [.slice A3 x.spots.length c4, .slice A5 x.edges.length c6], row 3 1 (.slice P1 r.nodes.length e1) r.nodes.length (r.nodes.flatMap iC_i64), row 3 1 (.slice P2 r.edges.length e2) r.edges.length (r.edges.flatMap iC_i64), row 26 1 (.slice P3 r.amts.length e3) r.amts.length (r.amts.flatMap iC_u64), box b8 92 [.slice P1 r.nodes.length e1, .slice P2 r.edges.length e2, .slice P3 r.amts.length e3, .int .u64 (cFee r am er)], row 107 2 (.slice A11 yr.spots.length c12) yr.spots.length (yr.spots.flatMap spC), row 62 8 (.slice A13 yr.edges.length c14) yr.edges.length (yr.edges.flatMap edC), box b15 32 [.slice A11 yr.spots.length c12, .slice A13 yr.edges.length c14]] := S
    refine l_pure 1 (fun L => (17, .int .i64 er2) :: L) F (by kernel_rfl) fun a F => ?_
    refine l_then ?_
    refine wp_seq ?_
    refine s_reg ?_
    refine l_pure 1 (fun L => (60, .int .i64 er2) :: L) F (by kernel_rfl) fun a F => ?_
    refine l_do F rfl rfl (op_pure F (v0 := .bool ((er2 : Int) != (0 : Int))) (v := .bool false) (by kernel_rfl) (neqF he2) fun a F => ?_)
    refine l_pure 2 (fun L => (63, .pointer (some ⟨b15, 1, none⟩)) :: (62, .bool false) :: L) F (by kernel_rfl) fun a F => ?_
    refine l_do F rfl rfl (op_load _ _ (some ⟨b15, 0, none⟩) 1 (.slice A13 yr.edges.length c14) F rfl (by kernel_rfl) (by kernel_rfl) (cBox S 11 rfl (j := 1) rfl) (fun a F => ?_))
    refine l_pure 2 (fun L => (66, .pointer (some ⟨b7, 1, none⟩)) :: (65, .int .i64 (yr.edges.length : Nat)) :: L) F (by kernel_rfl) fun a F => ?_
    refine l_do F rfl rfl (op_load _ _ (some ⟨b7, 0, none⟩) 1 (.slice A5 x.edges.length c6) F rfl (by kernel_rfl) (by kernel_rfl) (cBox S 4 rfl (j := 1) rfl) (fun a F => ?_))
    refine l_pure 1 (fun L => (68, .int .i64 (x.edges.length : Nat)) :: L) F (by kernel_rfl) fun a F => ?_
    refine l_do F rfl rfl (op_pure F (v0 := .bool (((yr.edges.length : Nat) : Int) != ((x.edges.length : Nat) : Int))) (v := .bool false) (by kernel_rfl) (neqF (by rw [hlen])) fun a F => ?_)
    refine l_pure 1 (fun L => (70, .bool false) :: L) F (by kernel_rfl) fun a F => ?_
    refine l_then ?_
    refine c_f F rfl ?_
    refine wp_skip ?_
    refine then_n ?_
    refine s_reg ?_
    refine l_do F rfl rfl (op_loadK _ _ (some ⟨b15, 0, none⟩) 0 [.slice A11 yr.spots.length c12, .slice A13 yr.edges.length c14] F rfl (by kernel_rfl) (by kernel_rfl) (by kernel_rfl) (by simp) (cBoxK S 11 rfl 0 (by kernel_rfl)) (fun a F => ?_))
    refine l_do F rfl rfl (op_fn F (by kernel_rfl) (from_any _ A11 c12 A13 c14 yr (WebAt.ofNew (x := yr) (w := w) S (i := 9) (j := 10) rfl rfl ⟨hy1, hy2⟩) oky ⟨hy1, hy2⟩) ?_)
    rintro e z ⟨A16, c17, A18, c19, rfl, g⟩
    have S := S.pushThings g
    refine ⟨_, rfl, ?_⟩
    intro a F
    refine l_do F rfl rfl (op_alloc S _ (.agg #[.slice none 0 0, .slice none 0 0]) rfl (by kernel_rfl) fun b20 z S a F => ?_)
    refine l_do F rfl rfl (op_storeB S 14 _ _ _ b20 0 (.agg #[.slice A16 yr.spots.length c17, .slice A18 yr.edges.length c19]) F rfl rfl (by kernel_rfl) (by kernel_rfl) (by kernel_rfl) (by kernel_rfl) (by kernel_rfl) fun z S a F => ?_)
    refine l_then ?_
    refine s_reg ?_
    refine l_do F rfl rfl (op_loadK _ _ (some ⟨b15, 0, none⟩) 0 [.slice A11 yr.spots.length c12, .slice A13 yr.edges.length c14] F rfl (by kernel_rfl) (by kernel_rfl) (by kernel_rfl) (by simp) (cBoxK S 11 rfl 0 (by kernel_rfl)) (fun a F => ?_))
    refine l_do F rfl rfl (op_fn F (by kernel_rfl) (all_any _ A11 c12 A13 c14 yr (WebAt.ofNew (x := yr) (w := w) S (i := 9) (j := 10) rfl rfl ⟨hy1, hy2⟩) oky (by omega)) ?_)
    rintro e z ⟨rfl, hb⟩
    have S := S.grow hb
    refine ⟨_, rfl, ?_⟩
    intro a F
    refine l_pure 5 (fun L => (20, .int .i64 ((allP yr).2)) :: (19, .int .u64 ((allP yr).1)) :: (77, .int .i64 ((allP yr).2)) :: (76, .int .u64 ((allP yr).1)) :: (73, .tuple #[.int .u64 ((allP yr).1), .int .i64 ((allP yr).2)]) :: L) F (by kernel_rfl) fun a F => ?_
    refine l_then ?_
    refine s_reg ?_
    refine l_pure 1 (fun L => (78, .pointer (some ⟨b7, 1, none⟩)) :: L) F (by kernel_rfl) fun a F => ?_
    refine l_do F rfl rfl (op_load _ _ (some ⟨b7, 0, none⟩) 1 (.slice A5 x.edges.length c6) F rfl (by kernel_rfl) (by kernel_rfl) (cBox S 4 rfl (j := 1) rfl) (fun a F => ?_))
    refine l_pure 1 (fun L => (80, .int .i64 (ki : Nat)) :: L) F (by kernel_rfl) fun a F => ?_
    refine l_do F rfl rfl (op_index _ 62 _ _ A5 x.edges.length c6 ki 8 .i64 F rfl (by kernel_rfl) (by kernel_rfl) (by kernel_rfl) (by kernel_rfl) (get_lt hei) (row_some S 3 rfl (m := ki) (get_lt hei)) (fun a F => ?_))
    refine l_do F rfl rfl (op_loadK _ _ A5 (ki * 8) [.int .i64 ei.a, .int .i64 ei.b, .int .u64 ei.c0, .int .u64 ei.c1, .int .u64 ei.b0, .int .u64 ei.r0, .int .u64 ei.b1, .int .u64 ei.r1] F rfl (by kernel_rfl) (by kernel_rfl) (by kernel_rfl) (by simp) (cRecK0 S 3 edC_len rfl hei (by kernel_rfl)) (fun a F => ?_))
    refine l_pure 1 (fun L => (83, .int .i64 node) :: L) F (by kernel_rfl) fun a F => ?_
    refine l_do F rfl rfl (op_fn F (by kernel_rfl) (side_at hsd _) ?_)
    rintro e z ⟨rfl, hb⟩
    have S := S.grow hb
    refine ⟨_, rfl, ?_⟩
    intro a F
    refine l_pure 1 (fun L => (21, .int .i64 (t : Nat)) :: L) F (by kernel_rfl) fun a F => ?_
    refine l_then ?_
    refine wp_seq ?_
    refine wp_seq ?_
    have hn21 : Option.isSome A5 = true := (row_some S 3 rfl (m := ki) (get_lt hei))
    refine region_gx (fun D => fun (_ : Unit) => [rest w (· < w.heap.size), box b1 25 [.slice As x.spots.length cs, .slice Ae x.edges.length ce], row 107 2 (.slice A3 x.spots.length c4) x.spots.length (x.spots.flatMap spC), row 62 8 (.slice A5 x.edges.length c6) x.edges.length (x.edges.flatMap edC), box b7 32 [.slice A3 x.spots.length c4, .slice A5 x.edges.length c6], row 3 1 (.slice P1 r.nodes.length e1) r.nodes.length (r.nodes.flatMap iC_i64), row 3 1 (.slice P2 r.edges.length e2) r.edges.length (r.edges.flatMap iC_i64), row 26 1 (.slice P3 r.amts.length e3) r.amts.length (r.amts.flatMap iC_u64), box b8 92 [.slice P1 r.nodes.length e1, .slice P2 r.edges.length e2, .slice P3 r.amts.length e3, .int .u64 (cFee r am er)], row 107 2 (.slice A11 yr.spots.length c12) yr.spots.length (yr.spots.flatMap spC), row 62 8 (.slice A13 yr.edges.length c14) yr.edges.length (yr.edges.flatMap edC), box b15 32 [.slice A11 yr.spots.length c12, .slice A13 yr.edges.length c14], row 106 2 (.slice A16 yr.spots.length c17) yr.spots.length (yr.spots.flatMap spC), row 104 8 (.slice A18 yr.edges.length c19) yr.edges.length (yr.edges.flatMap edC), box b20 25 [.slice A16 yr.spots.length c17, .slice A18 yr.edges.length c19]]) (fun (_ : Unit) => [.int .i64 ((allP yr).2), .bool false, .bool false, .int .u64 ((allP yr).1), .int .u64 ((allP x).1), .bool false, .bool false, .bool false, .pointer (some ⟨b15, 1, none⟩), .slice A13 yr.edges.length c14, .int .i64 (ki : Nat), .int .i64 (t : Nat), ptrA A13 (ki * 8), ptrA A13 (ki * 8 + 2), ptrA A13 (ki * 8 + 2 + t * 1), .int .u64 (eiy.can (t : Nat)), .pointer (some ⟨b7, 1, none⟩), .slice A5 x.edges.length c6, .int .i64 (ki : Nat), .int .i64 (t : Nat), ptrA A5 (ki * 8), ptrA A5 (ki * 8 + 2), ptrA A5 (ki * 8 + 2 + t * 1), .int .u64 (ei.can (t : Nat)), .int .u64 am, .int .u64 ((ei.can (t : Nat)) + am), .bool false, .bool false]) [(1, [], [5, 9, 12, 13, 14, 15, 17, 20, 21, 22, 23, 25, 26]), (5, [1], [9, 12, 13, 14, 15, 17, 20, 21, 22, 23, 25, 26]), (9, [1, 5], [12, 13, 14, 15, 26]), (12, [1, 5, 9], [13, 14, 15, 26]), (13, [1, 5, 9, 12], [14, 15, 26]), (14, [1, 5, 9, 12, 13], [15, 26]), (15, [1, 5, 9, 12, 13, 14], [26]), (17, [1, 5], [20, 21, 22, 23, 25, 26]), (20, [1, 5, 17], [21, 22, 23, 25, 26]), (21, [1, 5, 17, 20], [22, 23, 25, 26]), (22, [1, 5, 17, 20, 21], [23, 25, 26]), (23, [1, 5, 17, 20, 21, 22], [25, 26]), (25, [1, 5, 17, 20, 21, 22, 23], [26]), (26, [1, 5, 9, 12, 13, 14, 15, 17, 20, 21, 22, 23, 25], [])] () rfl (by kernel_rfl) (by kernel_rfl) F S.drew ?_ ?_ ?_ ?_ ?_
    · rintro ⟨⟩; rfl
    · rintro ⟨⟩; kernel_rfl
    ·
     intro D D' x h
     cases x
     rfl
    ·
     refine ⟨?_, ?_⟩
     ·
      refine ⟨_, rfl, rfl, by kernel_rfl, ?_⟩
      rintro D ⟨⟩ a z S F
      refine ⟨by kernel_rfl, ?_⟩
      exact op_pure F (v0 := .bool (((allP yr).2 : Int) != (0 : Int))) (v := .bool false) (by kernel_rfl) (neqF (by rw [hally]; exact hh)) ⟨(), rfl, (SameB.refl _ _ rfl), S⟩
     refine ⟨?_, ?_⟩
     ·
      refine ⟨_, rfl, rfl, by kernel_rfl, ?_⟩
      rintro D ⟨⟩ a z S F
      refine ⟨by kernel_rfl, ?_⟩
      exact op_pure F (v0 := .bool (((allP yr).1 : Int) != ((allP x).1 : Int))) (v := .bool false) (by kernel_rfl) (neqF (by rw [hally])) ⟨(), rfl, (SameB.refl _ _ rfl), S⟩
     refine ⟨?_, ?_⟩
     ·
      refine ⟨_, rfl, rfl, by kernel_rfl, ?_⟩
      rintro D ⟨⟩ a z S F
      refine ⟨by kernel_rfl, ?_⟩
      exact op_load _ _ (some ⟨b15, 0, none⟩) 1 (.slice A13 yr.edges.length c14) F rfl (by kernel_rfl) (by kernel_rfl) (cBox S 11 rfl (j := 1) rfl) (⟨(), rfl, (SameB.refl _ _ rfl), S⟩)
     refine ⟨?_, ?_⟩
     ·
      refine ⟨_, rfl, rfl, by kernel_rfl, ?_⟩
      rintro D ⟨⟩ a z S F
      refine ⟨by kernel_rfl, ?_⟩
      exact op_index _ 62 _ _ A13 yr.edges.length c14 ki 8 .i64 F rfl (by kernel_rfl) (by kernel_rfl) (by kernel_rfl) (by kernel_rfl) (get_lt heiy) (row_some S 10 rfl (m := ki) (get_lt heiy)) (⟨(), rfl, (SameB.refl _ _ rfl), S⟩)
     refine ⟨?_, ?_⟩
     ·
      refine ⟨_, rfl, rfl, by kernel_rfl, ?_⟩
      rintro D ⟨⟩ a z S F
      refine ⟨by kernel_rfl, ?_⟩
      exact op_field _ _ _ A13 (ki * 8) 2 F rfl (by kernel_rfl) (by kernel_rfl) (row_some S 10 rfl (m := ki) (get_lt heiy)) (⟨(), rfl, (SameB.refl _ _ rfl), S⟩)
     refine ⟨?_, ?_⟩
     ·
      refine ⟨_, rfl, rfl, by kernel_rfl, ?_⟩
      rintro D ⟨⟩ a z S F
      refine ⟨by kernel_rfl, ?_⟩
      exact op_indexArr _ 26 _ _ A13 (ki * 8 + 2) 2 t 1 .i64 F rfl (by kernel_rfl) (by kernel_rfl) (by kernel_rfl) (by kernel_rfl) (by omega) (row_some S 10 rfl (m := ki) (get_lt heiy)) (⟨(), rfl, (SameB.refl _ _ rfl), S⟩)
     refine ⟨?_, ?_⟩
     ·
      refine ⟨_, rfl, rfl, by kernel_rfl, ?_⟩
      rintro D ⟨⟩ a z S F
      refine ⟨by kernel_rfl, ?_⟩
      exact op_load _ _ A13 (ki * 8 + 2 + t * 1) (.int .u64 (eiy.can (t : Nat))) F rfl (by kernel_rfl) (by kernel_rfl) (cell_off (cRec S 10 edC_len rfl (2 + t * 1) heiy (edC_can eiy (m := t) (by omega))) (by omega)) (⟨(), rfl, (SameB.refl _ _ rfl), S⟩)
     refine ⟨?_, ?_⟩
     ·
      refine ⟨_, rfl, rfl, by kernel_rfl, ?_⟩
      rintro D ⟨⟩ a z S F
      refine ⟨by kernel_rfl, ?_⟩
      exact op_load _ _ (some ⟨b7, 0, none⟩) 1 (.slice A5 x.edges.length c6) F rfl (by kernel_rfl) (by kernel_rfl) (cBox S 4 rfl (j := 1) rfl) (⟨(), rfl, (SameB.refl _ _ rfl), S⟩)
     refine ⟨?_, ?_⟩
     ·
      refine ⟨_, rfl, rfl, by kernel_rfl, ?_⟩
      rintro D ⟨⟩ a z S F
      refine ⟨by kernel_rfl, ?_⟩
      exact op_index _ 62 _ _ A5 x.edges.length c6 ki 8 .i64 F rfl (by kernel_rfl) (by kernel_rfl) (by kernel_rfl) (by kernel_rfl) (get_lt hei) hn21 (⟨(), rfl, (SameB.refl _ _ rfl), S⟩)
     refine ⟨?_, ?_⟩
     ·
      refine ⟨_, rfl, rfl, by kernel_rfl, ?_⟩
      rintro D ⟨⟩ a z S F
      refine ⟨by kernel_rfl, ?_⟩
      exact op_field _ _ _ A5 (ki * 8) 2 F rfl (by kernel_rfl) (by kernel_rfl) hn21 (⟨(), rfl, (SameB.refl _ _ rfl), S⟩)
     refine ⟨?_, ?_⟩
     ·
      refine ⟨_, rfl, rfl, by kernel_rfl, ?_⟩
      rintro D ⟨⟩ a z S F
      refine ⟨by kernel_rfl, ?_⟩
      exact op_indexArr _ 26 _ _ A5 (ki * 8 + 2) 2 t 1 .i64 F rfl (by kernel_rfl) (by kernel_rfl) (by kernel_rfl) (by kernel_rfl) (by omega) hn21 (⟨(), rfl, (SameB.refl _ _ rfl), S⟩)
     refine ⟨?_, ?_⟩
     ·
      refine ⟨_, rfl, rfl, by kernel_rfl, ?_⟩
      rintro D ⟨⟩ a z S F
      refine ⟨by kernel_rfl, ?_⟩
      exact op_load _ _ A5 (ki * 8 + 2 + t * 1) (.int .u64 (ei.can (t : Nat))) F rfl (by kernel_rfl) (by kernel_rfl) (cell_off (cRec S 3 edC_len rfl (2 + t * 1) hei (edC_can ei (m := t) (by omega))) (by omega)) (⟨(), rfl, (SameB.refl _ _ rfl), S⟩)
     refine ⟨?_, ?_⟩
     ·
      refine ⟨_, rfl, rfl, by kernel_rfl, ?_⟩
      rintro D ⟨⟩ a z S F
      refine ⟨by kernel_rfl, ?_⟩
      exact op_pure F (v0 := .int .u64 (IntKind.wrap .u64 ((ei.can (t : Nat)) + am))) (v := .int .u64 ((ei.can (t : Nat)) + am)) (by kernel_rfl) (wr_u64 (by omega) (by omega)) ⟨(), rfl, (SameB.refl _ _ rfl), S⟩
     refine ⟨?_, ?_⟩
     ·
      refine ⟨_, rfl, rfl, by kernel_rfl, ?_⟩
      rintro D ⟨⟩ a z S F
      refine ⟨by kernel_rfl, ?_⟩
      exact op_pure F (v0 := .bool ((eiy.can (t : Nat) : Int) != ((ei.can (t : Nat)) + am : Int))) (v := .bool false) (by kernel_rfl) (neqF hcn) ⟨(), rfl, (SameB.refl _ _ rfl), S⟩
     trivial
    ·
     rintro ⟨⟩ a z F S
     have F := F.sub (l := [(1, .int .i64 node), (5, .pointer (some ⟨b1, 0, none⟩)), (14, .pointer (some ⟨b8, 0, none⟩)), (18, .pointer (some ⟨b20, 0, none⟩)), (112, .bool false)]) ⟨by kernel_rfl, by kernel_rfl, by kernel_rfl, by kernel_rfl, by kernel_rfl, trivial⟩
     have S : Sat w z [rest w (· < w.heap.size), box b1 25 [.slice As x.spots.length cs, .slice Ae x.edges.length ce], row 107 2 (.slice A3 x.spots.length c4) x.spots.length (x.spots.flatMap spC), row 62 8 (.slice A5 x.edges.length c6) x.edges.length (x.edges.flatMap edC), box b7 32 [.slice A3 x.spots.length c4, .slice A5 x.edges.length c6], row 3 1 (.slice P1 r.nodes.length e1) r.nodes.length (r.nodes.flatMap iC_i64), row 3 1 (.slice P2 r.edges.length e2) r.edges.length (r.edges.flatMap iC_i64), row 26 1 (.slice P3 r.amts.length e3) r.amts.length (r.amts.flatMap iC_u64), box b8 92 [.slice P1 r.nodes.length e1, .slice P2 r.edges.length e2, .slice P3 r.amts.length e3, .int .u64 (cFee r am er)], row 107 2 (.slice A11 yr.spots.length c12) yr.spots.length (yr.spots.flatMap spC), row 62 8 (.slice A13 yr.edges.length c14) yr.edges.length (yr.edges.flatMap edC), box b15 32 [.slice A11 yr.spots.length c12, .slice A13 yr.edges.length c14], row 106 2 (.slice A16 yr.spots.length c17) yr.spots.length (yr.spots.flatMap spC), row 104 8 (.slice A18 yr.edges.length c19) yr.edges.length (yr.edges.flatMap edC), box b20 25 [.slice A16 yr.spots.length c17, .slice A18 yr.edges.length c19]] := S
     refine then_n ?_
     refine c_f F rfl ?_
     refine wp_skip ?_
     refine then_n ?_
     refine wp_seq ?_
     refine s_reg ?_
     refine l_pure 1 (fun L => (113, .pointer (some ⟨b1, 0, none⟩)) :: L) F (by kernel_rfl) fun a F => ?_
     refine l_do F rfl rfl (op_load _ _ (some ⟨b1, 0, none⟩) 0 (.slice As x.spots.length cs) F rfl (by kernel_rfl) (by kernel_rfl) (cBox S 1 rfl (j := 0) rfl) (fun a F => ?_))
     refine l_pure 2 (fun L => (116, .int .i64 0) :: (115, .int .i64 (x.spots.length : Nat)) :: L) F (by kernel_rfl) fun a F => ?_
     refine l_then ?_
     refine wp_block ?_
     refine wp_loop_m (fun m a z => ∃ (q : Nat), m = x.spots.length - q ∧ (q ≤ x.spots.length) ∧ Fr a 154 [(1, .int .i64 node), (5, .pointer (some ⟨b1, 0, none⟩)), (14, .pointer (some ⟨b8, 0, none⟩)), (18, .pointer (some ⟨b20, 0, none⟩)), (115, .int .i64 (x.spots.length : Nat)), (116, .int .i64 (q : Nat))] ∧ Sat w z [rest w (· < w.heap.size), box b1 25 [.slice As x.spots.length cs, .slice Ae x.edges.length ce], row 107 2 (.slice A3 x.spots.length c4) x.spots.length (x.spots.flatMap spC), row 62 8 (.slice A5 x.edges.length c6) x.edges.length (x.edges.flatMap edC), box b7 32 [.slice A3 x.spots.length c4, .slice A5 x.edges.length c6], row 3 1 (.slice P1 r.nodes.length e1) r.nodes.length (r.nodes.flatMap iC_i64), row 3 1 (.slice P2 r.edges.length e2) r.edges.length (r.edges.flatMap iC_i64), row 26 1 (.slice P3 r.amts.length e3) r.amts.length (r.amts.flatMap iC_u64), box b8 92 [.slice P1 r.nodes.length e1, .slice P2 r.edges.length e2, .slice P3 r.amts.length e3, .int .u64 (cFee r am er)], row 107 2 (.slice A11 yr.spots.length c12) yr.spots.length (yr.spots.flatMap spC), row 62 8 (.slice A13 yr.edges.length c14) yr.edges.length (yr.edges.flatMap edC), box b15 32 [.slice A11 yr.spots.length c12, .slice A13 yr.edges.length c14], row 106 2 (.slice A16 yr.spots.length c17) yr.spots.length (yr.spots.flatMap spC), row 104 8 (.slice A18 yr.edges.length c19) yr.edges.length (yr.edges.flatMap edC), box b20 25 [.slice A16 yr.spots.length c17, .slice A18 yr.edges.length c19]]) _ ⟨0, rfl, Nat.zero_le _, F.sub ⟨by kernel_rfl, by kernel_rfl, by kernel_rfl, by kernel_rfl, by kernel_rfl, by kernel_rfl, trivial⟩, S⟩ ?_
     rintro m a z ⟨q, hm, hf22, F, S⟩
     refine s_reg ?_
     by_cases ht23 : ((q : Nat) : Int) < ((x.spots.length : Nat) : Int)
     ·
      skip
      refine l_do F rfl rfl (op_pure F (v0 := .bool (decide (((q : Nat) : Int) < ((x.spots.length : Nat) : Int)))) (v := .bool true) (by kernel_rfl) (lssT ht23) fun a F => ?_)
      refine l_then ?_
      refine wp_seq ?_
      refine c_t F rfl ?_
      refine wp_skip ?_
      refine then_n ?_
      refine wp_seq ?_
      refine wp_block ?_
      refine s_reg ?_
      refine l_pure 2 (fun L => (22, .int .i64 (q : Nat)) :: (118, .int .i64 (q : Nat)) :: L) F (by kernel_rfl) fun a F => ?_
      refine l_then ?_
      refine s_reg ?_
      refine l_do F rfl rfl (op_loadK _ _ (some ⟨b1, 0, none⟩) 0 [.slice As x.spots.length cs, .slice Ae x.edges.length ce] F rfl (by kernel_rfl) (by kernel_rfl) (by kernel_rfl) (by simp) (cBoxK S 1 rfl 0 (by kernel_rfl)) (fun a F => ?_))
      refine l_pure 1 (fun L => (121, .int .i64 (q : Nat)) :: L) F (by kernel_rfl) fun a F => ?_
      refine l_do F rfl rfl (op_fn F (by kernel_rfl) (sends28_any _ As cs Ae ce x (h.move S rfl) ok (q : Nat)) ?_)
      rintro e z ⟨rfl, hb⟩
      have S := S.grow hb
      refine ⟨_, rfl, ?_⟩
      intro a F
      refine l_pure 5 (fun L => (24, .int .i64 ((sendsP x (q : Nat)).2)) :: (23, .int .u64 ((sendsP x (q : Nat)).1)) :: (124, .int .i64 ((sendsP x (q : Nat)).2)) :: (123, .int .u64 ((sendsP x (q : Nat)).1)) :: (119, .tuple #[.int .u64 ((sendsP x (q : Nat)).1), .int .i64 ((sendsP x (q : Nat)).2)]) :: L) F (by kernel_rfl) fun a F => ?_
      refine l_then ?_
      refine s_reg ?_
      refine l_do F rfl rfl (op_loadK _ _ (some ⟨b20, 0, none⟩) 0 [.slice A16 yr.spots.length c17, .slice A18 yr.edges.length c19] F rfl (by kernel_rfl) (by kernel_rfl) (by kernel_rfl) (by simp) (cBoxK S 14 rfl 0 (by kernel_rfl)) (fun a F => ?_))
      refine l_pure 1 (fun L => (127, .int .i64 (q : Nat)) :: L) F (by kernel_rfl) fun a F => ?_
      refine l_do F rfl rfl (op_fn F (by kernel_rfl) (sends28_any _ A16 c17 A18 c19 yr (WebAt.ofNew (x := yr) (w := w) S (i := 12) (j := 13) rfl rfl ⟨hy1, hy2⟩) oky (q : Nat)) ?_)
      rintro e z ⟨rfl, hb⟩
      have S := S.grow hb
      refine ⟨_, rfl, ?_⟩
      intro a F
      refine l_pure 5 (fun L => (26, .int .i64 ((sendsP yr (q : Nat)).2)) :: (25, .int .u64 ((sendsP yr (q : Nat)).1)) :: (130, .int .i64 ((sendsP yr (q : Nat)).2)) :: (129, .int .u64 ((sendsP yr (q : Nat)).1)) :: (125, .tuple #[.int .u64 ((sendsP yr (q : Nat)).1), .int .i64 ((sendsP yr (q : Nat)).2)]) :: L) F (by kernel_rfl) fun a F => ?_
      refine l_then ?_
      refine s_reg ?_
      refine l_pure 2 (fun L => (132, .int .i64 node) :: (131, .int .i64 (q : Nat)) :: L) F (by kernel_rfl) fun a F => ?_
      by_cases ht24 : ((q : Nat) : Int) = (node : Int)
      ·
       skip
       obtain ⟨hn1, hn2, hn3⟩ := hnode (q : Nat) ht24
       obtain ⟨hs1, hs2⟩ := sends_u ok (q : Nat)
       refine l_do F rfl rfl (op_pure F (v0 := .bool (((q : Nat) : Int) == (node : Int))) (v := .bool true) (by kernel_rfl) (eqlT ht24) fun a F => ?_)
       refine l_pure 4 (fun L => (137, .pointer (some ⟨b8, 3, none⟩)) :: (136, .int .u64 ((sendsP x (q : Nat)).1)) :: (135, .int .u64 ((sendsP yr (q : Nat)).1)) :: (134, .bool true) :: L) F (by kernel_rfl) fun a F => ?_
       refine l_do F rfl rfl (op_load _ _ (some ⟨b8, 0, none⟩) 3 (.int .u64 (cFee r am er)) F rfl (by kernel_rfl) (by kernel_rfl) (cBox S 8 rfl (j := 3) rfl) (fun a F => ?_))
       refine l_do F rfl rfl (op_pure F (v0 := .int .u64 (IntKind.wrap .u64 (((sendsP x (q : Nat)).1) - (cFee r am er)))) (v := .int .u64 (((sendsP x (q : Nat)).1) - cFee r am er)) (by kernel_rfl) (wr_u64 (by omega) (by omega)) fun a F => ?_)
       refine l_do F rfl rfl (op_pure F (v0 := .bool (((sendsP yr (q : Nat)).1 : Int) != (((sendsP x (q : Nat)).1) - cFee r am er : Int))) (v := .bool false) (by kernel_rfl) (neqF (by omega)) fun a F => ?_)
       refine l_pure 4 (fun L => (144, .int .i64 node) :: (143, .int .i64 (q : Nat)) :: (142, .bool false) :: (141, .bool false) :: L) F (by kernel_rfl) fun a F => ?_
       refine l_do F rfl rfl (op_pure F (v0 := .bool (((q : Nat) : Int) != (node : Int))) (v := .bool false) (by kernel_rfl) (neqF ht24) fun a F => ?_)
       refine l_pure 6 (fun L => (151, .bool false) :: (150, .bool false) :: (149, undef) :: (148, undef) :: (147, undef) :: (146, .bool false) :: L) F (by kernel_rfl) fun a F => ?_
       refine l_then ?_
       refine c_f F rfl ?_
       refine wp_skip ?_
       refine inb_n ?_
       refine then_n ?_
       refine wp_region_list ?_
       refine l_do F rfl rfl (op_pure F (v0 := .int .i64 (IntKind.wrap .i64 ((q : Nat) + 1))) (v := .int .i64 (q + 1 : Nat)) (by kernel_rfl) (wrn_i64 (by omega) (by omega) (by omega)) fun a F => ?_)
       refine l_pure 1 (fun L => (116, .int .i64 (q + 1 : Nat)) :: L) F (by kernel_rfl) fun a F => ?_
       refine l_then ?_
       exact ⟨_, (by omega), q + 1, rfl, (by omega), F.sub ⟨by kernel_rfl, by kernel_rfl, by kernel_rfl, by kernel_rfl, by kernel_rfl, by kernel_rfl, trivial⟩, S⟩
      ·
       skip
       have hoq := hoth (q : Nat) ht24
       refine l_do F rfl rfl (op_pure F (v0 := .bool (((q : Nat) : Int) == (node : Int))) (v := .bool false) (by kernel_rfl) (eqlF ht24) fun a F => ?_)
       refine l_pure 11 (fun L => (144, .int .i64 node) :: (143, .int .i64 (q : Nat)) :: (142, .bool false) :: (141, .bool false) :: (140, undef) :: (139, undef) :: (138, undef) :: (137, undef) :: (136, undef) :: (135, undef) :: (134, .bool false) :: L) F (by kernel_rfl) fun a F => ?_
       refine l_do F rfl rfl (op_pure F (v0 := .bool (((q : Nat) : Int) != (node : Int))) (v := .bool true) (by kernel_rfl) (neqT ht24) fun a F => ?_)
       refine l_pure 3 (fun L => (148, .int .u64 ((sendsP x (q : Nat)).1)) :: (147, .int .u64 ((sendsP yr (q : Nat)).1)) :: (146, .bool true) :: L) F (by kernel_rfl) fun a F => ?_
       refine l_do F rfl rfl (op_pure F (v0 := .bool (decide (((sendsP yr (q : Nat)).1 : Int) < ((sendsP x (q : Nat)).1 : Int)))) (v := .bool false) (by kernel_rfl) (lssF (by omega)) fun a F => ?_)
       refine l_pure 2 (fun L => (151, .bool false) :: (150, .bool false) :: L) F (by kernel_rfl) fun a F => ?_
       refine l_then ?_
       refine c_f F rfl ?_
       refine wp_skip ?_
       refine inb_n ?_
       refine then_n ?_
       refine wp_region_list ?_
       refine l_do F rfl rfl (op_pure F (v0 := .int .i64 (IntKind.wrap .i64 ((q : Nat) + 1))) (v := .int .i64 (q + 1 : Nat)) (by kernel_rfl) (wrn_i64 (by omega) (by omega) (by omega)) fun a F => ?_)
       refine l_pure 1 (fun L => (116, .int .i64 (q + 1 : Nat)) :: L) F (by kernel_rfl) fun a F => ?_
       refine l_then ?_
       exact ⟨_, (by omega), q + 1, rfl, (by omega), F.sub ⟨by kernel_rfl, by kernel_rfl, by kernel_rfl, by kernel_rfl, by kernel_rfl, by kernel_rfl, trivial⟩, S⟩
     ·
      skip
      refine l_do F rfl rfl (op_pure F (v0 := .bool (decide (((q : Nat) : Int) < ((x.spots.length : Nat) : Int)))) (v := .bool false) (by kernel_rfl) (lssF ht23) fun a F => ?_)
      refine l_then ?_
      refine wp_seq ?_
      refine c_f F rfl ?_
      refine wp_exit ?_
      refine then_x ?_
      refine then_x ?_
      refine inb_x ?_
      refine then_n ?_
      refine s_reg ?_
      refine l_do F rfl rfl (op_fn F (by kernel_rfl) (awake28_any _) ?_)
      rintro e z ⟨rfl, hb⟩
      have S := S.grow hb
      refine ⟨_, rfl, ?_⟩
      intro a F
      refine l_pure 1 (fun L => (10, .bool true) :: L) F (by kernel_rfl) fun a F => ?_
      refine l_then ?_
      refine wp_ret ?_
      exact fin F [.tmp 10] [.bool true] rfl ⟨by kernel_rfl, trivial⟩ (.bool true) rfl ⟨rfl, S.below (i := 0) rfl⟩
   ·
    skip
    refine l_do F rfl rfl (op_pure F (v0 := .bool (((allP x).2 : Int) != (0 : Int))) (v := .bool true) (by kernel_rfl) (neqT ht10) fun a F => ?_)
    refine l_pure 1 (fun L => (52, .bool true) :: L) F (by kernel_rfl) fun a F => ?_
    refine l_then ?_
    refine c_t F rfl ?_
    refine s_reg ?_
    refine l_do F rfl rfl (op_fn F (by kernel_rfl) (awake28_any _) ?_)
    rintro e z ⟨rfl, hb⟩
    have S := S.grow hb
    refine ⟨_, rfl, ?_⟩
    intro a F
    refine l_pure 1 (fun L => (10, .bool true) :: L) F (by kernel_rfl) fun a F => ?_
    refine l_then ?_
    refine wp_ret ?_
    refine then_r (?_)
    exact fin F [.tmp 10] [.bool true] rfl ⟨by kernel_rfl, trivial⟩ (.bool true) rfl ⟨rfl, S.below (i := 0) rfl⟩
  ·
   skip
   have her := ht9
   refine l_do F rfl rfl (op_pure F (v0 := .bool ((er : Int) != (0 : Int))) (v := .bool true) (by kernel_rfl) (neqT ht9) fun a F => ?_)
   refine l_pure 4 (fun L => (52, .bool true) :: (51, undef) :: (50, undef) :: (49, .bool true) :: L) F (by kernel_rfl) fun a F => ?_
   refine l_then ?_
   refine c_t F rfl ?_
   refine s_reg ?_
   refine l_do F rfl rfl (op_fn F (by kernel_rfl) (awake28_any _) ?_)
   rintro e z ⟨rfl, hb⟩
   have S := S.grow hb
   refine ⟨_, rfl, ?_⟩
   intro a F
   refine l_pure 1 (fun L => (10, .bool true) :: L) F (by kernel_rfl) fun a F => ?_
   refine l_then ?_
   refine wp_ret ?_
   refine then_r (?_)
   exact fin F [.tmp 10] [.bool true] rfl ⟨by kernel_rfl, trivial⟩ (.bool true) rfl ⟨rfl, S.below (i := 0) rfl⟩
end Go.Proofs.Ytcfpbemoocegfaa
