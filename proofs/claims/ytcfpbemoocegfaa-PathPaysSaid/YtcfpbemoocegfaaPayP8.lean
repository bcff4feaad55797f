/- What sends along a way come to: plain. -/
import Derived.Test.YtcfpbemoocegfaaWebI
import Derived.Test.YtcfpbemoocegfaaSoundP
import Derived.Test.YtcfpbemoocegfaaGoes
namespace Go.Proofs.Ytcfpbemoocegfaa
set_option linter.unusedVariables false
set_option linter.unusedSimpArgs false
set_option linter.unnecessarySimpa false
open Go Go.RowKit

/-- A sum over edges. -/
def totE (g : Edg → Int) : List Edg → Int
  | [] => 0
  | e :: l => g e + totE g l
theorem totE_set (g : Edg → Int) : ∀ (l : List Edg) (k : Nat) (e e' : Edg), l[k]? = some e → totE g (l.set k e') = totE g l - g e + g e'
  | [], k, e, e', h => by simp at h
  | a :: l, 0, e, e', h => by
    simp at h; subst h
    simp only [List.set_cons_zero, totE]; omega
  | a :: l, k + 1, e, e', h => by
    simp only [List.getElem?_cons_succ] at h
    simp only [List.set_cons_succ, totE, totE_set g l k e e' h]; omega
theorem totE_le (g h : Edg → Int) : ∀ (l : List Edg), (∀ e ∈ l, g e ≤ h e) → totE g l ≤ totE h l
  | [], _ => Int.le_refl _
  | a :: l, hl => by
    have h1 := hl a (by simp)
    have h2 := totE_le g h l fun e he => hl e (by simp [he])
    simp only [totE]; omega
theorem totE_nn (g : Edg → Int) : ∀ (l : List Edg), (∀ e ∈ l, 0 ≤ g e) → 0 ≤ totE g l
  | [], _ => Int.le_refl _
  | a :: l, hl => by
    have h1 := hl a (by simp)
    have h2 := totE_nn g l fun e he => hl e (by simp [he])
    simp only [totE]; omega
theorem totE_one (g : Edg → Int) : ∀ (l : List Edg) (k : Nat) (e : Edg), (∀ e ∈ l, 0 ≤ g e) → l[k]? = some e → g e ≤ totE g l
  | [], k, e, _, h => by simp at h
  | a :: l, 0, e, hl, h => by
    simp at h; subst h
    have h2 := totE_nn g l fun e he => hl e (by simp [he])
    simp only [totE]; omega
  | a :: l, k + 1, e, hl, h => by
    simp only [List.getElem?_cons_succ] at h
    have h1 := hl a (by simp)
    have h2 := totE_one g l k e (fun e he => hl e (by simp [he])) h
    simp only [totE]; omega
/-- What a node can send over an edge, and over all. -/
def Edg.out (e : Edg) (n : Int) : Int := if e.a = n then e.c0 else if e.b = n then e.c1 else 0
def outs (x : Wb) (n : Int) : Int := totE (fun e => e.out n) x.edges
def holds (x : Wb) : Int := totE (fun e => e.c0 + e.c1) x.edges
def sumL : List Int → Int
  | [] => 0
  | a :: l => a + sumL l
theorem sumL_app : ∀ (l m : List Int), sumL (l ++ m) = sumL l + sumL m
  | [], m => by simp [sumL]
  | a :: l, m => by simp only [List.cons_append, sumL, sumL_app l m]; omega
theorem sumL_nn : ∀ (l : List Int), (∀ a ∈ l, 0 ≤ a) → 0 ≤ sumL l
  | [], _ => Int.le_refl _
  | a :: l, h => by
    have h1 := h a (by simp)
    have h2 := sumL_nn l fun b hb => h b (by simp [hb])
    simp only [sumL]; omega
theorem sumP_is : ∀ (l : List Int) (s : Int), (sumP s l).2 = 0 → (sumP s l).1 = s + sumL l
  | [], s, _ => by simp [sumP, sumL]
  | a :: l, s, h => by
    unfold sumP at h ⊢
    split at h
    · rename_i h1
      rw [if_pos h1, sumP_is l _ h]; simp only [sumL]; omega
    · cases h
theorem sumP_fit : ∀ (l : List Int) (s : Int), (∀ a ∈ l, 0 ≤ a) → s + sumL l < 18446744073709551616 → sumP s l = (s + sumL l, 0)
  | [], s, _, _ => by simp [sumP, sumL]
  | a :: l, s, h, hs => by
    have h1 := h a (by simp)
    have h2 := sumL_nn l fun b hb => h b (by simp [hb])
    simp only [sumL] at hs
    unfold sumP
    rw [if_pos (by omega), sumP_fit l _ (fun b hb => h b (by simp [hb])) (by omega)]
    simp only [sumL, Prod.mk.injEq, and_true]; omega
theorem sumP_big : ∀ (l : List Int) (s : Int), (∀ a ∈ l, 0 ≤ a) → (sumP s l).2 = 0 → s + sumL l < 18446744073709551616 ∨ l = []
  | [], s, _, _ => .inr rfl
  | a :: l, s, h, hs => by
    left
    unfold sumP at hs
    split at hs
    · rename_i h1
      rcases sumP_big l _ (fun b hb => h b (by simp [hb])) hs with h2 | rfl
      · simp only [sumL]; omega
      · simp only [sumL]; omega
    · cases hs
/-- All ways out of a node: how much may go. -/
def canL (x : Wb) (n : Int) : List Int := (stepsP x n).map Stp.can
def sendsP (x : Wb) (n : Int) : Int × Int := sumP 0 (canL x n)
theorem stepsF_sum (n : Int) : ∀ (l : List Edg) (i : Nat), sumL ((stepsF n i l).map Stp.can) = totE (fun e => e.out n) l
  | [], i => rfl
  | e :: l, i => by
    simp only [stepsF, List.map_append, sumL_app, totE, stepsF_sum n l (i + 1)]
    have : sumL ((stpOf i e n).map Stp.can) = e.out n := by
      unfold stpOf Edg.out
      split
      · simp [sumL]
      · split <;> simp [sumL]
    omega
theorem canL_sum {x : Wb} (hc : chkP x = 0) (n : Int) : sumL (canL x n) = outs x n := by
  unfold canL stepsP outs
  rw [if_pos hc, stepsF_sum]
theorem canL_nn {x : Wb} (ok : x.Ok) (n : Int) : ∀ a ∈ canL x n, 0 ≤ a := by
  intro a ha
  unfold canL stepsP at ha
  split at ha
  · rw [List.mem_map] at ha
    obtain ⟨s, hs, rfl⟩ := ha
    obtain ⟨k, hk, _, h2⟩ := stepsF_mem hs
    obtain ⟨_, h4⟩ := stpOf_side h2
    have h5 := ok.e _ (List.getElem_mem hk)
    rw [h4]
    have h6 := h5.c0.1; have h7 := h5.c1.1
    dsimp only [Edg.can]
    split <;> assumption
  · simp at ha
theorem sends_is {x : Wb} (hc : chkP x = 0) {n : Int} (h : (sendsP x n).2 = 0) : (sendsP x n).1 = outs x n := by
  unfold sendsP at h ⊢
  rw [sumP_is _ _ h, canL_sum hc]; omega
theorem outs_le {x : Wb} (ok : x.Ok) (n : Int) : outs x n ≤ holds x := totE_le _ _ _ fun e he => by
  have h := ok.e e he; have h1 := h.c0.1; have h2 := h.c1.1
  unfold Edg.out
  split
  · omega
  · split <;> omega
theorem sends_fit {x : Wb} (ok : x.Ok) (hc : chkP x = 0) (hh : holds x < 18446744073709551616) (n : Int) : sendsP x n = (outs x n, 0) := by
  have h1 := outs_le ok n
  unfold sendsP
  rw [sumP_fit _ _ (canL_nn ok n) (by rw [canL_sum hc]; omega), canL_sum hc]; simp
theorem cansP_sum : ∀ (l : List Edg), sumL (cansP l) = totE (fun e => e.c0 + e.c1) l
  | [] => rfl
  | e :: l => by
    have := cansP_sum l
    unfold cansP at this ⊢
    simp only [List.flatMap_cons, sumL_app, totE, this, sumL]; omega
theorem all_holds {x : Wb} (ok : x.Ok) (h : (allP x).2 = 0) : (allP x).1 = holds x ∧ holds x < 18446744073709551616 := by
  unfold allP at h ⊢
  have h1 := sumP_is _ _ h
  rw [cansP_sum] at h1
  refine ⟨by rw [h1]; unfold holds; omega, ?_⟩
  have hn : ∀ a ∈ cansP x.edges, 0 ≤ a := fun a ha => (cansP_u ok.e a ha).1
  rcases sumP_big _ _ hn h with h2 | h2
  · rw [cansP_sum] at h2; unfold holds; omega
  · have h3 := cansP_sum x.edges
    rw [h2] at h3
    unfold holds; rw [← h3]; simp [sumL]
theorem holds_all {x : Wb} (ok : x.Ok) (hh : holds x < 18446744073709551616) : allP x = (holds x, 0) := by
  unfold allP
  rw [sumP_fit _ _ (fun a ha => (cansP_u ok.e a ha).1) (by rw [cansP_sum]; unfold holds at hh; omega), cansP_sum]; unfold holds; simp

/-- A send that there can be: channel, node, amount. -/
def TripOk (x : Wb) (t : Int × Int × Int) : Prop := ∃ (k : Nat) (ed : Edg), t.1 = k ∧ x.edges[k]? = some ed ∧ 0 ≤ sideP ed t.2.1 ∧ t.2.2 ≤ ed.can (sideP ed t.2.1) ∧ 0 ≤ t.2.2
def destP (x : Wb) (t : Int × Int × Int) : Int := (edgeAt x t.1).endp (1 - sideP (edgeAt x t.1) t.2.1)
def flow1 (x : Wb) (m : Int) (t : Int × Int × Int) : Int := (if destP x t = m then t.2.2 else 0) - (if t.2.1 = m then t.2.2 else 0)
def flowP (x : Wb) (m : Int) : List (Int × Int × Int) → Int
  | [] => 0
  | t :: L => flow1 x m t + flowP x m L
theorem flowP_app (x : Wb) (m : Int) : ∀ (L M : List (Int × Int × Int)), flowP x m (L ++ M) = flowP x m L + flowP x m M
  | [], M => by simp [flowP]
  | t :: L, M => by simp only [List.cons_append, flowP, flowP_app x m L M]; omega
theorem flowP_congr {x y : Wb} (m : Int) : ∀ (L : List (Int × Int × Int)), (∀ t ∈ L, edgeAt y t.1 = edgeAt x t.1) → flowP y m L = flowP x m L
  | [], _ => rfl
  | t :: L, h => by
    have h1 := flowP_congr m L fun t' ht => h t' (by simp [ht])
    have h2 := h t (by simp)
    unfold flowP flow1 destP
    rw [h1, h2]
theorem sent_out {ed : Edg} (hne : ed.a ≠ ed.b) {s : Int} (hs : s = 0 ∨ s = 1) (a m : Int) : (ed.sent s a).out m = ed.out m + ((if ed.endp (1 - s) = m then a else 0) - (if ed.endp s = m then a else 0)) := by
  rcases hs with rfl | rfl
  · simp only [Edg.sent, Edg.out, Edg.endp]
    split <;> split <;> simp_all <;> omega
  · simp only [Edg.sent, Edg.out, Edg.endp]
    split <;> split <;> simp_all <;> omega
theorem sent_ends (ed : Edg) (s a : Int) : (ed.sent s a).a = ed.a ∧ (ed.sent s a).b = ed.b ∧ (ed.sent s a).c0 + (ed.sent s a).c1 = ed.c0 + ed.c1 := by
  unfold Edg.sent
  split <;> refine ⟨rfl, rfl, ?_⟩ <;> dsimp only <;> omega
theorem chk_set {x : Wb} {k : Nat} {ed ed' : Edg} (hed : x.edges[k]? = some ed) (ha : ed'.a = ed.a) (hb : ed'.b = ed.b) (hc : chkP x = 0) : chkP ⟨x.spots, x.edges.set k ed'⟩ = 0 := by
  obtain ⟨h1, h2, h3⟩ := chk_zero hc
  refine chk_good (by simp only [List.length_set]; omega) fun j hj => ?_
  have hj' : j < x.edges.length := by simpa using hj
  show ¬ badE (x.spots.length : Int) (x.edges.set k ed')[j]
  rw [List.getElem_set]
  split
  · have := h3 ed (List.mem_of_getElem? hed)
    unfold badE at this ⊢
    rw [ha, hb]; exact this
  · exact h3 _ (List.getElem_mem hj')
theorem edgeAt_of {x : Wb} {k : Nat} : edgeAt x k = x.edges.getD k dftEdg := by unfold edgeAt; rw [Int.toNat_natCast]
theorem tripOk_congr {x y : Wb} {t : Int × Int × Int} (h : ∀ k : Nat, t.1 = k → y.edges[k]? = x.edges[k]?) (ht : TripOk x t) : TripOk y t := by
  obtain ⟨k, ed, h1, h2, h3, h4, h5⟩ := ht
  exact ⟨k, ed, h1, by rw [h k h1]; exact h2, h3, h4, h5⟩
/-- One send that there can be: it goes, or it is too much. -/
theorem trip_one {x : Wb} (ok : x.Ok) (hc : chkP x = 0) {k : Nat} {ed : Edg} {n a : Int} (hed : x.edges[k]? = some ed) (hs : 0 ≤ sideP ed n) (ha : a ≤ ed.can (sideP ed n)) (h0 : 0 ≤ a) :
    (sentP x k n a = (⟨x.spots, x.edges.set k (ed.sent (sideP ed n) a)⟩, 0) ∨ (sentP x k n a = (noWeb, 11) ∧ 18446744073709551616 ≤ holds x)) := by
  by_cases ho : (addP (ed.can (1 - sideP ed n)) a).2 = 0
  · exact .inl (sentP_ok hc hed rfl hs (by omega) ho)
  · right
    have h1 := sentP_over hc hed rfl hs (by omega : ¬ ed.can (sideP ed n) < a) ho
    unfold addP at ho h1
    split at ho
    · exact absurd rfl ho
    · rename_i h2
      rw [if_neg h2] at h1
      refine ⟨h1, ?_⟩
      have h3 := totE_one (fun e => e.c0 + e.c1) x.edges k ed (fun e he => by have h := ok.e e he; have := h.c0.1; have := h.c1.1; show (0 : Int) ≤ e.c0 + e.c1; omega) hed
      unfold holds
      have h4 : ed.can (1 - sideP ed n) + ed.can (sideP ed n) = ed.c0 + ed.c1 := by
        rcases side_cases ed n with ⟨e, _⟩ | ⟨e, _⟩ | ⟨e, _⟩
        · rw [e]; simp [Edg.can]; omega
        · rw [e]; simp [Edg.can]
        · omega
      have h5 : ed.c0 + ed.c1 ≤ totE (fun e => e.c0 + e.c1) x.edges := h3
      omega
/-- Sends over unlike channels. -/
theorem goL_pass : ∀ (L : List (Int × Int × Int)) (x : Wb), x.Ok → chkP x = 0 → (∀ t ∈ L, TripOk x t) → (∀ t ∈ L, U64 t.2.2) → (L.map (·.1)).Nodup →
    ((goL x L).2 = 0 ∨ ((goL x L).2 = 11 ∧ 18446744073709551616 ≤ holds x)) ∧ ((goL x L).2 = 0 → chkP (goL x L).1 = 0 ∧ (∀ m, outs (goL x L).1 m = outs x m + flowP x m L) ∧ holds (goL x L).1 = holds x ∧ (goL x L).1.spots = x.spots ∧ (goL x L).1.edges.length = x.edges.length ∧
      (∀ k : Nat, (k : Int) ∉ L.map (·.1) → (goL x L).1.edges[k]? = x.edges[k]?) ∧ ∀ t ∈ L, ∀ (k : Nat) (ed : Edg), t.1 = k → x.edges[k]? = some ed → (goL x L).1.edges[k]? = some (ed.sent (sideP ed t.2.1) t.2.2))
  | [], x, _, hc, _, _, _ => ⟨.inl rfl, fun _ => ⟨hc, fun m => by simp [goL, flowP], rfl, rfl, rfl, fun k _ => rfl, fun t ht => by simp at ht⟩⟩
  | t :: L, x, ok, hc, ht, hu, hn => by
    obtain ⟨te, tn, ta⟩ := t
    obtain ⟨k, ed, hk, hed, hs, ha, h0⟩ := ht (te, tn, ta) (by simp)
    try dsimp only at hk hs ha h0
    subst hk
    rw [List.map_cons, List.nodup_cons] at hn
    have hua := hu _ (by simp : ((k : Int), tn, ta) ∈ ((k : Int), tn, ta) :: L)
    dsimp only at hua
    rcases trip_one ok hc hed hs ha h0 with h1 | ⟨h1, h2⟩
    · have hso := (sent_ok8 ok (edge := (k : Int)) (node := tn) hua).1
      rw [h1] at hso
      have hgo : goL x (((k : Int), tn, ta) :: L) = goL ⟨x.spots, x.edges.set k (ed.sent (sideP ed tn) ta)⟩ L := goL_on h1 rfl
      have hx1 : ∀ j : Nat, j ≠ k → (x.edges.set k (ed.sent (sideP ed tn) ta))[j]? = x.edges[j]? := fun j hj => List.getElem?_set_ne (Ne.symm hj)
      have hne : ∀ t ∈ L, ∀ j : Nat, t.1 = j → j ≠ k := fun t htL j hj e => hn.1 (by rw [List.mem_map]; exact ⟨t, htL, by rw [hj, e]⟩)
      obtain ⟨se1, se2, se3⟩ := sent_ends ed (sideP ed tn) ta
      have hc1 := chk_set hed se1 se2 hc
      obtain ⟨i1, i2⟩ := goL_pass L _ hso hc1 (fun t htL => tripOk_congr (x := x) (fun j hj => hx1 j (hne t htL j hj)) (ht t (by simp [htL]))) (fun t htL => hu t (by simp [htL])) hn.2
      have hbad := (chk_zero hc).2.2 ed (List.mem_of_getElem? hed)
      have hnab : ed.a ≠ ed.b := fun e => hbad (by unfold badE; simp [e])
      have hs01 : sideP ed tn = 0 ∨ sideP ed tn = 1 := by
        rcases side_cases ed tn with ⟨e, _⟩ | ⟨e, _⟩ | ⟨e, _⟩
        · exact .inl e
        · exact .inr e
        · omega
      have hend : ed.endp (sideP ed tn) = tn := by
        rcases side_cases ed tn with ⟨e, e2⟩ | ⟨e, e2, _⟩ | ⟨e, _⟩
        · rw [e]; simpa [Edg.endp] using e2
        · rw [e]; simpa [Edg.endp] using e2
        · omega
      have hh : holds ⟨x.spots, x.edges.set k (ed.sent (sideP ed tn) ta)⟩ = holds x := by
        unfold holds
        dsimp only
        rw [totE_set _ _ _ _ _ hed]; (try dsimp only); omega
      have hout : ∀ m, outs ⟨x.spots, x.edges.set k (ed.sent (sideP ed tn) ta)⟩ m = outs x m + flow1 x m ((k : Int), tn, ta) := by
        intro m
        unfold outs flow1 destP
        dsimp only
        rw [totE_set _ _ _ _ _ hed, sent_out hnab hs01, edge_of hed, hend]; omega
      have hflow : ∀ m, flowP ⟨x.spots, x.edges.set k (ed.sent (sideP ed tn) ta)⟩ m L = flowP x m L := fun m => flowP_congr m L fun t htL => by
        obtain ⟨j, ed', hj, hed', _⟩ := ht t (by simp [htL])
        rw [hj, edge_of hed']
        exact edge_of (by rw [← hed']; exact hx1 j (hne t htL j hj))
      rw [hgo]
      rw [hh] at i1
      refine ⟨i1, fun hz => ?_⟩
      obtain ⟨q1, q2, q3, q4, q5, q6, q7⟩ := i2 hz
      refine ⟨q1, fun m => ?_, by rw [q3, hh], q4, by rw [q5]; simp, fun j hj => ?_, ?_⟩
      · rw [q2 m, hout m, hflow m]; simp only [flowP]; omega
      · rw [List.map_cons, List.mem_cons, not_or] at hj
        rw [q6 j hj.2]
        exact hx1 j fun e => hj.1 (by rw [e])
      · intro t htL j ed' hj hed'
        rcases List.mem_cons.1 htL with rfl | htL
        · dsimp only at hj ⊢
          have : k = j := by omega
          subst this
          rw [hed] at hed'; cases hed'
          rw [q6 k hn.1]
          dsimp only
          exact List.getElem?_set_self (List.getElem?_eq_some_iff.1 hed).1
        · exact q7 t htL j ed' hj (by rw [← hed']; exact hx1 j (hne t htL j hj))
    · have hgo : goL x (((k : Int), tn, ta) :: L) = (noWeb, 11) := goL_off h1 (by decide)
      rw [hgo]
      exact ⟨.inr ⟨rfl, h2⟩, fun h => by cases h⟩
open Go Go.RowKit

/-- What a route's first nodes have more, and less. -/
def wantP (N A : List Int) (n : Int) : Nat → Int
  | 0 => 0
  | i + 1 => wantP N A n i + (if N.getD i 0 = n ∧ 0 < i then A.getD (i - 1) 0 else 0) - (if N.getD i 0 = n ∧ i < A.length then A.getD i 0 else 0)
theorem getD_of {l : List Int} {i : Nat} {a : Int} (h : l[i]? = some a) : l.getD i 0 = a := by rw [List.getD_eq_getElem?_getD, h]; rfl
theorem take_snoc_of {α : Type} {l : List α} {i : Nat} {a : α} (h : l[i]? = some a) : l.take (i + 1) = l.take i ++ [a] := by rw [List.take_add_one, h]; rfl
theorem trip_at {E N A : List Int} {i : Nat} {e n a : Int} (h1 : E[i]? = some e) (h2 : N[i]? = some n) (h3 : A[i]? = some a) : (trips E N A)[i]? = some (e, n, a) := by
  unfold trips
  rw [List.getElem?_zip_eq_some]
  exact ⟨h1, by rw [List.getElem?_zip_eq_some]; exact ⟨h2, h3⟩⟩
theorem trip_of {E N A : List Int} {t : Int × Int × Int} (h : t ∈ trips E N A) : ∃ i : Nat, E[i]? = some t.1 ∧ N[i]? = some t.2.1 ∧ A[i]? = some t.2.2 := by
  obtain ⟨i, hi, he⟩ := List.getElem_of_mem h
  have h1 : (trips E N A)[i]? = some t := by rw [List.getElem?_eq_getElem hi, he]
  unfold trips at h1
  rw [List.getElem?_zip_eq_some, List.getElem?_zip_eq_some] at h1
  exact ⟨i, h1.1, h1.2.1, h1.2.2⟩
section
variable {x : Wb} {from_ to am : Int} {r : Rt}
theorem snd_el (hs : Snd x from_ to am r) {i : Nat} (hi : i < r.edges.length) : ∃ n m e a, r.nodes[i]? = some n ∧ r.nodes[i + 1]? = some m ∧ r.edges[i]? = some e ∧ r.amts[i]? = some a := by
  have h1 := hs.way.len; have h2 := hs.alen
  exact ⟨_, _, _, _, List.getElem?_eq_getElem (by omega), List.getElem?_eq_getElem (by omega), List.getElem?_eq_getElem hi, List.getElem?_eq_getElem (by omega)⟩
theorem want_flow (hs : Snd x from_ to am r) (n : Int) : ∀ i, i ≤ r.edges.length → wantP r.nodes r.amts n (i + 1) = flowP x n ((trips r.edges r.nodes r.amts).take i) - (if r.nodes.getD i 0 = n ∧ i < r.amts.length then r.amts.getD i 0 else 0)
  | 0, _ => by
    simp only [wantP, List.take_zero, flowP]
    rw [if_neg (by omega : ¬ (r.nodes.getD 0 0 = n ∧ 0 < 0))]; omega
  | i + 1, hi => by
    have ih := want_flow hs n i (by omega)
    obtain ⟨n1, m1, e1, a1, h1, h2, h3, h4⟩ := snd_el hs (i := i) (by omega)
    have hl := hs.alen
    have hd : destP x (e1, n1, a1) = m1 := by
      obtain ⟨j, hj, ed, q1, q2, q3⟩ := hs.way.at_ i n1 e1 h1 h3
      unfold destP; dsimp only; rw [hj, edge_of q1]; exact q3 m1 h2
    have ht : flowP x n ((trips r.edges r.nodes r.amts).take (i + 1)) = flowP x n ((trips r.edges r.nodes r.amts).take i) + ((if m1 = n then a1 else 0) - (if n1 = n then a1 else 0)) := by
      rw [take_snoc_of (trip_at h3 h1 h4), flowP_app]
      simp only [flowP, flow1, hd, Int.add_zero]
    rw [wantP, ih, ht, getD_of h1, getD_of h2, getD_of h4, show i + 1 - 1 = i from rfl, getD_of h4]
    have e1' : (if n1 = n ∧ i < r.amts.length then a1 else 0) = (if n1 = n then a1 else 0) := by
      by_cases h : n1 = n
      · rw [if_pos ⟨h, by omega⟩, if_pos h]
      · rw [if_neg (fun q => h q.1), if_neg h]
    have e2' : (if m1 = n ∧ 0 < i + 1 then a1 else 0) = (if m1 = n then a1 else 0) := by
      by_cases h : m1 = n
      · rw [if_pos ⟨h, by omega⟩, if_pos h]
      · rw [if_neg (fun q => h q.1), if_neg h]
    rw [e1', e2']; omega
theorem want_all (hs : Snd x from_ to am r) (n : Int) : wantP r.nodes r.amts n r.nodes.length = flowP x n (trips r.edges r.nodes r.amts) := by
  have h := want_flow hs n r.edges.length (Nat.le_refl _)
  have h1 := hs.way.len; have h2 := hs.alen
  rw [h1, h, List.take_of_length_le (by unfold trips; rw [List.length_zip]; omega), if_neg (by omega)]; omega
theorem edges_nodup (hs : Snd x from_ to am r) : r.edges.Nodup := by
  rw [List.nodup_iff_pairwise_ne] at *
  rw [List.pairwise_iff_getElem]
  intro i k hi hk hik he
  have hl := hs.way.len
  obtain ⟨n1, m1, e1, a1, h1, h2, h3, h4⟩ := snd_el hs hi
  obtain ⟨n2, m2, e2, a2, g1, g2, g3, g4⟩ := snd_el hs hk
  rw [List.getElem?_eq_getElem hi] at h3; rw [List.getElem?_eq_getElem hk] at g3
  cases h3; cases g3
  obtain ⟨j, ed, hj, q1, q2⟩ := snd_step hs h1 h2 (List.getElem?_eq_getElem hi) h4
  obtain ⟨j', ed', hj', p1, p2⟩ := snd_step hs g1 g2 (List.getElem?_eq_getElem hk) g4
  have hjj : j = j' := by have := hj.symm.trans (he.trans hj'); omega
  subst hjj
  rw [q1] at p1; cases p1
  have hne : ∀ (a b : Nat) (u v : Int), a ≠ b → r.nodes[a]? = some u → r.nodes[b]? = some v → u ≠ v := by
    intro a b u v hab hu hv huv
    have hla := (List.getElem?_eq_some_iff.1 hu).1
    exact hab ((List.getElem?_inj hla hs.nodup).1 (by rw [hu, hv, huv]))
  have d1 := hne i k n1 n2 (by omega) h1 g1
  have d2 := hne i (k + 1) n1 m2 (by omega) h1 g2
  have d3 := hne k (k + 1) n2 m2 (by omega) g1 g2
  rcases q2 with ⟨_, b1, b2, _⟩ | ⟨_, _, b1, b2, _⟩ <;> rcases p2 with ⟨_, c1, c2, _⟩ | ⟨_, _, c1, c2, _⟩ <;> omega
theorem trips_fst (hs : Snd x from_ to am r) : (trips r.edges r.nodes r.amts).map (·.1) = r.edges := by
  unfold trips
  exact List.map_fst_zip (by have := hs.way.len; have := hs.alen; rw [List.length_zip]; omega)
theorem trips_ok (hs : Snd x from_ to am r) : ∀ t ∈ trips r.edges r.nodes r.amts, TripOk x t := by
  intro t ht
  obtain ⟨i, h1, h2, h3⟩ := trip_of ht
  obtain ⟨j, hj, ed, q1, q2, _⟩ := hs.way.at_ i _ _ h2 h1
  have h4 := hs.can i _ _ _ h2 h1 h3
  unfold canAt at h4
  rw [hj, edge_of q1] at h4
  exact ⟨j, ed, hj, q1, q2, h4, (hs.au _ (List.mem_of_getElem? h3)).1⟩
theorem snd_lens (hs : Snd x from_ to am r) : lensP r.edges r.nodes r.amts := ⟨hs.alen.symm, hs.way.len⟩
/-- Such a route can be paid, unless a channel would hold too much. -/
theorem pays_ok (ok : x.Ok) (hc : chkP x = 0) (hs : Snd x from_ to am r) {y : Wb} {er : Int} (hg : goX x r.edges r.nodes r.amts = (y, er)) :
    (er = 0 ∨ (er = 11 ∧ 18446744073709551616 ≤ holds x)) ∧ (er = 0 → chkP y = 0 ∧ (∀ n, outs y n = outs x n + wantP r.nodes r.amts n r.nodes.length) ∧ holds y = holds x ∧ y.spots = x.spots ∧ y.edges.length = x.edges.length) := by
  have h1 := goX_in hg (snd_lens hs)
  unfold goR at h1
  rw [if_pos hc] at h1
  obtain ⟨i1, i2⟩ := goL_pass (trips r.edges r.nodes r.amts) x ok hc (trips_ok hs) (fun t ht => by obtain ⟨i, _, _, h3⟩ := trip_of ht; exact hs.au _ (List.mem_of_getElem? h3)) (by rw [trips_fst hs]; exact edges_nodup hs)
  rw [h1] at i1 i2
  refine ⟨i1, fun h0 => ?_⟩
  obtain ⟨q1, q2, q3, q4, q5, _, _⟩ := i2 h0
  exact ⟨q1, fun n => by rw [q2 n, want_all hs], q3, q4, q5⟩
end
theorem want_at {N A : List Int} {n : Int} {k : Nat} {nk : Int} (h : N[k]? = some nk) : wantP N A n (k + 1) = wantP N A n k + (if nk = n ∧ 0 < k then A.getD (k - 1) 0 else 0) - (if nk = n ∧ k < A.length then A.getD k 0 else 0) := by rw [wantP, getD_of h]
theorem wadd (a b : Int) : IntKind.wrap .u64 (IntKind.wrap .u64 a + b) = IntKind.wrap .u64 (a + b) := by
  rw [IntKind.wrap_u64, IntKind.wrap_u64, IntKind.wrap_u64]; omega
theorem wsub (a b : Int) : IntKind.wrap .u64 (IntKind.wrap .u64 a - b) = IntKind.wrap .u64 (a - b) := by
  rw [IntKind.wrap_u64, IntKind.wrap_u64, IntKind.wrap_u64]; omega
section
variable {N A : List Int} {n s wv nk a b : Int} {k : Nat} (h : N[k]? = some nk) (hw : wv = IntKind.wrap .u64 (s + wantP N A n k))
include h hw
theorem want_00 (hn : nk ≠ n) : wv = IntKind.wrap .u64 (s + wantP N A n (k + 1)) := by
  rw [want_at h, if_neg (fun q => hn q.1), if_neg (fun q => hn q.1), hw]; simp
theorem want_11 (hn : nk = n) (hk : 0 < k) (ha : A[k - 1]? = some a) (hb : A[k]? = some b) : IntKind.wrap .u64 (IntKind.wrap .u64 (wv + a) - b) = IntKind.wrap .u64 (s + wantP N A n (k + 1)) := by
  rw [want_at h, if_pos ⟨hn, hk⟩, if_pos ⟨hn, (List.getElem?_eq_some_iff.1 hb).1⟩, getD_of ha, getD_of hb, hw, wadd, wsub]; congr 1; omega
theorem want_10 (hn : nk = n) (hk : 0 < k) (ha : A[k - 1]? = some a) (hl : ¬ k < A.length) : IntKind.wrap .u64 (wv + a) = IntKind.wrap .u64 (s + wantP N A n (k + 1)) := by
  rw [want_at h, if_pos ⟨hn, hk⟩, if_neg (fun q => hl q.2), getD_of ha, hw, wadd]; congr 1; omega
theorem want_01 (hn : nk = n) (hk : ¬ 0 < k) (hb : A[k]? = some b) : IntKind.wrap .u64 (wv - b) = IntKind.wrap .u64 (s + wantP N A n (k + 1)) := by
  rw [want_at h, if_neg (fun q => hk q.2), if_pos ⟨hn, (List.getElem?_eq_some_iff.1 hb).1⟩, getD_of hb, hw, wsub]; congr 1; omega
end
theorem sends_u {x : Wb} (ok : x.Ok) (n : Int) : U64 (sendsP x n).1 := by
  unfold sendsP
  refine sumP_u _ _ ⟨by decide, by decide⟩ fun a ha => ⟨canL_nn ok n a ha, ?_⟩
  unfold canL stepsP at ha
  split at ha
  · rw [List.mem_map] at ha
    obtain ⟨s, hs, rfl⟩ := ha
    obtain ⟨k, hk, _, h2⟩ := stepsF_mem hs
    obtain ⟨_, h4⟩ := stpOf_side h2
    have h5 := ok.e _ (List.getElem_mem hk)
    rw [h4]
    have h6 := h5.c0.2; have h7 := h5.c1.2
    dsimp only [Edg.can]
    split <;> assumption
  · simp at ha
theorem pays_fin {x y : Wb} (oky : y.Ok) (hc : chkP x = 0) (hcy : chkP y = 0) {N A : List Int} {n wv : Int} {k : Nat} (h0 : (sendsP x n).2 = 0) (h1 : (sendsP y n).2 = 0) (ho : outs y n = outs x n + wantP N A n N.length) (hk : N.length ≤ k) (hk2 : k ≤ N.length) (hw : wv = IntKind.wrap .u64 ((sendsP x n).1 + wantP N A n k)) : (sendsP y n).1 = wv := by
  have hkk : k = N.length := by omega
  have hu := sends_u oky n
  unfold U64 at hu
  rw [hw, sends_is hc h0, hkk, ← ho, ← sends_is hcy h1, IntKind.wrap_u64]
  omega
end Go.Proofs.Ytcfpbemoocegfaa
