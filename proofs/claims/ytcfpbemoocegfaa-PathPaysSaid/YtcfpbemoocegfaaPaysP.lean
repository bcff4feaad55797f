/- What the best route's payment comes to, node by node: plain. -/
import Derived.Test.YtcfpbemoocegfaaPassP
import Derived.Test.YtcfpbemoocegfaaGoes
namespace Go.Proofs.Ytcfpbemoocegfaa
set_option linter.unusedVariables false
set_option linter.unusedSimpArgs false
set_option linter.unnecessarySimpa false
open Go Go.RowKit

/-- What a route's first nodes have more, and less. -/
def wantP (N A : List Int) (n : Int) : Nat → Int
  | 0 => 0
  | i + 1 => wantP N A n i + (if N.getD i 0 = n ∧ 0 < i then A.getD (i - 1) 0 else 0) - (if N.getD i 0 = n ∧ i < A.length then A.getD i 0 else 0)
theorem getD_of {l : List Int} {i : Nat} {a : Int} (h : l[i]? = some a) : l.getD i 0 = a := by rw [List.getD_eq_getElem?_getD, h]; rfl
theorem take_snoc_of {α : Type} {l : List α} {i : Nat} {a : α} (h : l[i]? = some a) : l.take (i + 1) = l.take i ++ [a] := by rw [List.take_add_one, h]; rfl
theorem trip_at {E N A : List Int} {i : Nat} {e n a : Int} (h1 : E[i]? = some e) (h2 : N[i]? = some n) (h3 : A[i]? = some a) : (trips E N A)[i]? = some (e, n, a) := by
  unfold trips
  rw [List.getElem?_zip_eq_some]
  exact ⟨h1, by rw [List.getElem?_zip_eq_some]; exact ⟨h2, h3⟩⟩
theorem trip_of {E N A : List Int} {t : Int × Int × Int} (h : t ∈ trips E N A) : ∃ i : Nat, E[i]? = some t.1 ∧ N[i]? = some t.2.1 ∧ A[i]? = some t.2.2 := by
  obtain ⟨i, hi, he⟩ := List.getElem_of_mem h
  have h1 : (trips E N A)[i]? = some t := by rw [List.getElem?_eq_getElem hi, he]
  unfold trips at h1
  rw [List.getElem?_zip_eq_some, List.getElem?_zip_eq_some] at h1
  exact ⟨i, h1.1, h1.2.1, h1.2.2⟩
section
variable {x : Wb} {from_ to am : Int} {r : Rt}
theorem snd_el (hs : Snd x from_ to am r) {i : Nat} (hi : i < r.edges.length) : ∃ n m e a, r.nodes[i]? = some n ∧ r.nodes[i + 1]? = some m ∧ r.edges[i]? = some e ∧ r.amts[i]? = some a := by
  have h1 := hs.way.len; have h2 := hs.alen
  exact ⟨_, _, _, _, List.getElem?_eq_getElem (by omega), List.getElem?_eq_getElem (by omega), List.getElem?_eq_getElem hi, List.getElem?_eq_getElem (by omega)⟩
theorem want_flow (hs : Snd x from_ to am r) (n : Int) : ∀ i, i ≤ r.edges.length → wantP r.nodes r.amts n (i + 1) = flowP x n ((trips r.edges r.nodes r.amts).take i) - (if r.nodes.getD i 0 = n ∧ i < r.amts.length then r.amts.getD i 0 else 0)
  | 0, _ => by
    simp only [wantP, List.take_zero, flowP]
    rw [if_neg (by omega : ¬ (r.nodes.getD 0 0 = n ∧ 0 < 0))]; omega
  | i + 1, hi => by
    have ih := want_flow hs n i (by omega)
    obtain ⟨n1, m1, e1, a1, h1, h2, h3, h4⟩ := snd_el hs (i := i) (by omega)
    have hl := hs.alen
    have hd : destP x (e1, n1, a1) = m1 := by
      obtain ⟨j, hj, ed, q1, q2, q3⟩ := hs.way.at_ i n1 e1 h1 h3
      unfold destP; dsimp only; rw [hj, edge_of q1]; exact q3 m1 h2
    have ht : flowP x n ((trips r.edges r.nodes r.amts).take (i + 1)) = flowP x n ((trips r.edges r.nodes r.amts).take i) + ((if m1 = n then a1 else 0) - (if n1 = n then a1 else 0)) := by
      rw [take_snoc_of (trip_at h3 h1 h4), flowP_app]
      simp only [flowP, flow1, hd, Int.add_zero]
    rw [wantP, ih, ht, getD_of h1, getD_of h2, getD_of h4, show i + 1 - 1 = i from rfl, getD_of h4]
    have e1' : (if n1 = n ∧ i < r.amts.length then a1 else 0) = (if n1 = n then a1 else 0) := by
      by_cases h : n1 = n
      · rw [if_pos ⟨h, by omega⟩, if_pos h]
      · rw [if_neg (fun q => h q.1), if_neg h]
    have e2' : (if m1 = n ∧ 0 < i + 1 then a1 else 0) = (if m1 = n then a1 else 0) := by
      by_cases h : m1 = n
      · rw [if_pos ⟨h, by omega⟩, if_pos h]
      · rw [if_neg (fun q => h q.1), if_neg h]
    rw [e1', e2']; omega
theorem want_all (hs : Snd x from_ to am r) (n : Int) : wantP r.nodes r.amts n r.nodes.length = flowP x n (trips r.edges r.nodes r.amts) := by
  have h := want_flow hs n r.edges.length (Nat.le_refl _)
  have h1 := hs.way.len; have h2 := hs.alen
  rw [h1, h, List.take_of_length_le (by unfold trips; rw [List.length_zip]; omega), if_neg (by omega)]; omega
theorem edges_nodup (hs : Snd x from_ to am r) : r.edges.Nodup := by
  rw [List.nodup_iff_pairwise_ne] at *
  rw [List.pairwise_iff_getElem]
  intro i k hi hk hik he
  have hl := hs.way.len
  obtain ⟨n1, m1, e1, a1, h1, h2, h3, h4⟩ := snd_el hs hi
  obtain ⟨n2, m2, e2, a2, g1, g2, g3, g4⟩ := snd_el hs hk
  rw [List.getElem?_eq_getElem hi] at h3; rw [List.getElem?_eq_getElem hk] at g3
  cases h3; cases g3
  obtain ⟨j, ed, hj, q1, q2⟩ := snd_step hs h1 h2 (List.getElem?_eq_getElem hi) h4
  obtain ⟨j', ed', hj', p1, p2⟩ := snd_step hs g1 g2 (List.getElem?_eq_getElem hk) g4
  have hjj : j = j' := by have := hj.symm.trans (he.trans hj'); omega
  subst hjj
  rw [q1] at p1; cases p1
  have hne : ∀ (a b : Nat) (u v : Int), a ≠ b → r.nodes[a]? = some u → r.nodes[b]? = some v → u ≠ v := by
    intro a b u v hab hu hv huv
    have hla := (List.getElem?_eq_some_iff.1 hu).1
    exact hab ((List.getElem?_inj hla hs.nodup).1 (by rw [hu, hv, huv]))
  have d1 := hne i k n1 n2 (by omega) h1 g1
  have d2 := hne i (k + 1) n1 m2 (by omega) h1 g2
  have d3 := hne k (k + 1) n2 m2 (by omega) g1 g2
  rcases q2 with ⟨_, b1, b2, _⟩ | ⟨_, _, b1, b2, _⟩ <;> rcases p2 with ⟨_, c1, c2, _⟩ | ⟨_, _, c1, c2, _⟩ <;> omega
theorem trips_fst (hs : Snd x from_ to am r) : (trips r.edges r.nodes r.amts).map (·.1) = r.edges := by
  unfold trips
  exact List.map_fst_zip (by have := hs.way.len; have := hs.alen; rw [List.length_zip]; omega)
theorem trips_ok (hs : Snd x from_ to am r) : ∀ t ∈ trips r.edges r.nodes r.amts, TripOk x t := by
  intro t ht
  obtain ⟨i, h1, h2, h3⟩ := trip_of ht
  obtain ⟨j, hj, ed, q1, q2, _⟩ := hs.way.at_ i _ _ h2 h1
  have h4 := hs.can i _ _ _ h2 h1 h3
  unfold canAt at h4
  rw [hj, edge_of q1] at h4
  exact ⟨j, ed, hj, q1, q2, h4, (hs.au _ (List.mem_of_getElem? h3)).1⟩
theorem snd_lens (hs : Snd x from_ to am r) : lensP r.edges r.nodes r.amts := ⟨hs.alen.symm, hs.way.len⟩
/-- Such a route can be paid, unless a channel would hold too much. -/
theorem pays_ok (ok : x.Ok) (hc : chkP x = 0) (hs : Snd x from_ to am r) {y : Wb} {er : Int} (hg : goX x r.edges r.nodes r.amts = (y, er)) :
    (er = 0 ∨ (er = 11 ∧ 18446744073709551616 ≤ holds x)) ∧ (er = 0 → chkP y = 0 ∧ (∀ n, outs y n = outs x n + wantP r.nodes r.amts n r.nodes.length) ∧ holds y = holds x ∧ y.spots = x.spots ∧ y.edges.length = x.edges.length) := by
  have h1 := goX_in hg (snd_lens hs)
  unfold goR at h1
  rw [if_pos hc] at h1
  obtain ⟨i1, i2⟩ := goL_pass (trips r.edges r.nodes r.amts) x ok hc (trips_ok hs) (fun t ht => by obtain ⟨i, _, _, h3⟩ := trip_of ht; exact hs.au _ (List.mem_of_getElem? h3)) (by rw [trips_fst hs]; exact edges_nodup hs)
  rw [h1] at i1 i2
  refine ⟨i1, fun h0 => ?_⟩
  obtain ⟨q1, q2, q3, q4, q5, _, _⟩ := i2 h0
  exact ⟨q1, fun n => by rw [q2 n, want_all hs], q3, q4, q5⟩
end
theorem want_at {N A : List Int} {n : Int} {k : Nat} {nk : Int} (h : N[k]? = some nk) : wantP N A n (k + 1) = wantP N A n k + (if nk = n ∧ 0 < k then A.getD (k - 1) 0 else 0) - (if nk = n ∧ k < A.length then A.getD k 0 else 0) := by rw [wantP, getD_of h]
theorem wadd (a b : Int) : IntKind.wrap .u64 (IntKind.wrap .u64 a + b) = IntKind.wrap .u64 (a + b) := by
  rw [IntKind.wrap_u64, IntKind.wrap_u64, IntKind.wrap_u64]; omega
theorem wsub (a b : Int) : IntKind.wrap .u64 (IntKind.wrap .u64 a - b) = IntKind.wrap .u64 (a - b) := by
  rw [IntKind.wrap_u64, IntKind.wrap_u64, IntKind.wrap_u64]; omega
section
variable {N A : List Int} {n s wv nk a b : Int} {k : Nat} (h : N[k]? = some nk) (hw : wv = IntKind.wrap .u64 (s + wantP N A n k))
include h hw
theorem want_00 (hn : nk ≠ n) : wv = IntKind.wrap .u64 (s + wantP N A n (k + 1)) := by
  rw [want_at h, if_neg (fun q => hn q.1), if_neg (fun q => hn q.1), hw]; simp
theorem want_11 (hn : nk = n) (hk : 0 < k) (ha : A[k - 1]? = some a) (hb : A[k]? = some b) : IntKind.wrap .u64 (IntKind.wrap .u64 (wv + a) - b) = IntKind.wrap .u64 (s + wantP N A n (k + 1)) := by
  rw [want_at h, if_pos ⟨hn, hk⟩, if_pos ⟨hn, (List.getElem?_eq_some_iff.1 hb).1⟩, getD_of ha, getD_of hb, hw, wadd, wsub]; congr 1; omega
theorem want_10 (hn : nk = n) (hk : 0 < k) (ha : A[k - 1]? = some a) (hl : ¬ k < A.length) : IntKind.wrap .u64 (wv + a) = IntKind.wrap .u64 (s + wantP N A n (k + 1)) := by
  rw [want_at h, if_pos ⟨hn, hk⟩, if_neg (fun q => hl q.2), getD_of ha, hw, wadd]; congr 1; omega
theorem want_01 (hn : nk = n) (hk : ¬ 0 < k) (hb : A[k]? = some b) : IntKind.wrap .u64 (wv - b) = IntKind.wrap .u64 (s + wantP N A n (k + 1)) := by
  rw [want_at h, if_neg (fun q => hk q.2), if_pos ⟨hn, (List.getElem?_eq_some_iff.1 hb).1⟩, getD_of hb, hw, wsub]; congr 1; omega
end
theorem sends_u {x : Wb} (ok : x.Ok) (n : Int) : U64 (sendsP x n).1 := by
  unfold sendsP
  refine sumP_u _ _ ⟨by decide, by decide⟩ fun a ha => ⟨canL_nn ok n a ha, ?_⟩
  unfold canL stepsP at ha
  split at ha
  · rw [List.mem_map] at ha
    obtain ⟨s, hs, rfl⟩ := ha
    obtain ⟨k, hk, _, h2⟩ := stepsF_mem hs
    obtain ⟨_, h4⟩ := stpOf_side h2
    have h5 := ok.e _ (List.getElem_mem hk)
    rw [h4]
    have h6 := h5.c0.2; have h7 := h5.c1.2
    dsimp only [Edg.can]
    split <;> assumption
  · simp at ha
theorem pays_fin {x y : Wb} (oky : y.Ok) (hc : chkP x = 0) (hcy : chkP y = 0) {N A : List Int} {n wv : Int} {k : Nat} (h0 : (sendsP x n).2 = 0) (h1 : (sendsP y n).2 = 0) (ho : outs y n = outs x n + wantP N A n N.length) (hk : N.length ≤ k) (hk2 : k ≤ N.length) (hw : wv = IntKind.wrap .u64 ((sendsP x n).1 + wantP N A n k)) : (sendsP y n).1 = wv := by
  have hkk : k = N.length := by omega
  have hu := sends_u oky n
  unfold U64 at hu
  rw [hw, sends_is hc h0, hkk, ← ho, ← sends_is hcy h1, IntKind.wrap_u64]
  omega
end Go.Proofs.Ytcfpbemoocegfaa
