/- What sends along a way come to: plain. -/
import Derived.Test.YtcfpbemoocegfaaWebI
import Derived.Test.YtcfpbemoocegfaaSoundP
namespace Go.Proofs.Ytcfpbemoocegfaa
set_option linter.unusedVariables false
set_option linter.unusedSimpArgs false
set_option linter.unnecessarySimpa false
open Go Go.RowKit

/-- A sum over edges. -/
def totE (g : Edg → Int) : List Edg → Int
  | [] => 0
  | e :: l => g e + totE g l
theorem totE_set (g : Edg → Int) : ∀ (l : List Edg) (k : Nat) (e e' : Edg), l[k]? = some e → totE g (l.set k e') = totE g l - g e + g e'
  | [], k, e, e', h => by simp at h
  | a :: l, 0, e, e', h => by
    simp at h; subst h
    simp only [List.set_cons_zero, totE]; omega
  | a :: l, k + 1, e, e', h => by
    simp only [List.getElem?_cons_succ] at h
    simp only [List.set_cons_succ, totE, totE_set g l k e e' h]; omega
theorem totE_le (g h : Edg → Int) : ∀ (l : List Edg), (∀ e ∈ l, g e ≤ h e) → totE g l ≤ totE h l
  | [], _ => Int.le_refl _
  | a :: l, hl => by
    have h1 := hl a (by simp)
    have h2 := totE_le g h l fun e he => hl e (by simp [he])
    simp only [totE]; omega
theorem totE_nn (g : Edg → Int) : ∀ (l : List Edg), (∀ e ∈ l, 0 ≤ g e) → 0 ≤ totE g l
  | [], _ => Int.le_refl _
  | a :: l, hl => by
    have h1 := hl a (by simp)
    have h2 := totE_nn g l fun e he => hl e (by simp [he])
    simp only [totE]; omega
theorem totE_one (g : Edg → Int) : ∀ (l : List Edg) (k : Nat) (e : Edg), (∀ e ∈ l, 0 ≤ g e) → l[k]? = some e → g e ≤ totE g l
  | [], k, e, _, h => by simp at h
  | a :: l, 0, e, hl, h => by
    simp at h; subst h
    have h2 := totE_nn g l fun e he => hl e (by simp [he])
    simp only [totE]; omega
  | a :: l, k + 1, e, hl, h => by
    simp only [List.getElem?_cons_succ] at h
    have h1 := hl a (by simp)
    have h2 := totE_one g l k e (fun e he => hl e (by simp [he])) h
    simp only [totE]; omega
/-- What a node can send over an edge, and over all. -/
def Edg.out (e : Edg) (n : Int) : Int := if e.a = n then e.c0 else if e.b = n then e.c1 else 0
def outs (x : Wb) (n : Int) : Int := totE (fun e => e.out n) x.edges
def holds (x : Wb) : Int := totE (fun e => e.c0 + e.c1) x.edges
def sumL : List Int → Int
  | [] => 0
  | a :: l => a + sumL l
theorem sumL_app : ∀ (l m : List Int), sumL (l ++ m) = sumL l + sumL m
  | [], m => by simp [sumL]
  | a :: l, m => by simp only [List.cons_append, sumL, sumL_app l m]; omega
theorem sumL_nn : ∀ (l : List Int), (∀ a ∈ l, 0 ≤ a) → 0 ≤ sumL l
  | [], _ => Int.le_refl _
  | a :: l, h => by
    have h1 := h a (by simp)
    have h2 := sumL_nn l fun b hb => h b (by simp [hb])
    simp only [sumL]; omega
theorem sumP_is : ∀ (l : List Int) (s : Int), (sumP s l).2 = 0 → (sumP s l).1 = s + sumL l
  | [], s, _ => by simp [sumP, sumL]
  | a :: l, s, h => by
    unfold sumP at h ⊢
    split at h
    · rename_i h1
      rw [if_pos h1, sumP_is l _ h]; simp only [sumL]; omega
    · cases h
theorem sumP_fit : ∀ (l : List Int) (s : Int), (∀ a ∈ l, 0 ≤ a) → s + sumL l < 18446744073709551616 → sumP s l = (s + sumL l, 0)
  | [], s, _, _ => by simp [sumP, sumL]
  | a :: l, s, h, hs => by
    have h1 := h a (by simp)
    have h2 := sumL_nn l fun b hb => h b (by simp [hb])
    simp only [sumL] at hs
    unfold sumP
    rw [if_pos (by omega), sumP_fit l _ (fun b hb => h b (by simp [hb])) (by omega)]
    simp only [sumL, Prod.mk.injEq, and_true]; omega
theorem sumP_big : ∀ (l : List Int) (s : Int), (∀ a ∈ l, 0 ≤ a) → (sumP s l).2 = 0 → s + sumL l < 18446744073709551616 ∨ l = []
  | [], s, _, _ => .inr rfl
  | a :: l, s, h, hs => by
    left
    unfold sumP at hs
    split at hs
    · rename_i h1
      rcases sumP_big l _ (fun b hb => h b (by simp [hb])) hs with h2 | rfl
      · simp only [sumL]; omega
      · simp only [sumL]; omega
    · cases hs
/-- All ways out of a node: how much may go. -/
def canL (x : Wb) (n : Int) : List Int := (stepsP x n).map Stp.can
def sendsP (x : Wb) (n : Int) : Int × Int := sumP 0 (canL x n)
theorem stepsF_sum (n : Int) : ∀ (l : List Edg) (i : Nat), sumL ((stepsF n i l).map Stp.can) = totE (fun e => e.out n) l
  | [], i => rfl
  | e :: l, i => by
    simp only [stepsF, List.map_append, sumL_app, totE, stepsF_sum n l (i + 1)]
    have : sumL ((stpOf i e n).map Stp.can) = e.out n := by
      unfold stpOf Edg.out
      split
      · simp [sumL]
      · split <;> simp [sumL]
    omega
theorem canL_sum {x : Wb} (hc : chkP x = 0) (n : Int) : sumL (canL x n) = outs x n := by
  unfold canL stepsP outs
  rw [if_pos hc, stepsF_sum]
theorem canL_nn {x : Wb} (ok : x.Ok) (n : Int) : ∀ a ∈ canL x n, 0 ≤ a := by
  intro a ha
  unfold canL stepsP at ha
  split at ha
  · rw [List.mem_map] at ha
    obtain ⟨s, hs, rfl⟩ := ha
    obtain ⟨k, hk, _, h2⟩ := stepsF_mem hs
    obtain ⟨_, h4⟩ := stpOf_side h2
    have h5 := ok.e _ (List.getElem_mem hk)
    rw [h4]
    have h6 := h5.c0.1; have h7 := h5.c1.1
    dsimp only [Edg.can]
    split <;> assumption
  · simp at ha
theorem sends_is {x : Wb} (hc : chkP x = 0) {n : Int} (h : (sendsP x n).2 = 0) : (sendsP x n).1 = outs x n := by
  unfold sendsP at h ⊢
  rw [sumP_is _ _ h, canL_sum hc]; omega
theorem outs_le {x : Wb} (ok : x.Ok) (n : Int) : outs x n ≤ holds x := totE_le _ _ _ fun e he => by
  have h := ok.e e he; have h1 := h.c0.1; have h2 := h.c1.1
  unfold Edg.out
  split
  · omega
  · split <;> omega
theorem sends_fit {x : Wb} (ok : x.Ok) (hc : chkP x = 0) (hh : holds x < 18446744073709551616) (n : Int) : sendsP x n = (outs x n, 0) := by
  have h1 := outs_le ok n
  unfold sendsP
  rw [sumP_fit _ _ (canL_nn ok n) (by rw [canL_sum hc]; omega), canL_sum hc]; simp
theorem cansP_sum : ∀ (l : List Edg), sumL (cansP l) = totE (fun e => e.c0 + e.c1) l
  | [] => rfl
  | e :: l => by
    have := cansP_sum l
    unfold cansP at this ⊢
    simp only [List.flatMap_cons, sumL_app, totE, this, sumL]; omega
theorem all_holds {x : Wb} (ok : x.Ok) (h : (allP x).2 = 0) : (allP x).1 = holds x ∧ holds x < 18446744073709551616 := by
  unfold allP at h ⊢
  have h1 := sumP_is _ _ h
  rw [cansP_sum] at h1
  refine ⟨by rw [h1]; unfold holds; omega, ?_⟩
  have hn : ∀ a ∈ cansP x.edges, 0 ≤ a := fun a ha => (cansP_u ok.e a ha).1
  rcases sumP_big _ _ hn h with h2 | h2
  · rw [cansP_sum] at h2; unfold holds; omega
  · have h3 := cansP_sum x.edges
    rw [h2] at h3
    unfold holds; rw [← h3]; simp [sumL]
theorem holds_all {x : Wb} (ok : x.Ok) (hh : holds x < 18446744073709551616) : allP x = (holds x, 0) := by
  unfold allP
  rw [sumP_fit _ _ (fun a ha => (cansP_u ok.e a ha).1) (by rw [cansP_sum]; unfold holds at hh; omega), cansP_sum]; unfold holds; simp

/-- A send that there can be: channel, node, amount. -/
def TripOk (x : Wb) (t : Int × Int × Int) : Prop := ∃ (k : Nat) (ed : Edg), t.1 = k ∧ x.edges[k]? = some ed ∧ 0 ≤ sideP ed t.2.1 ∧ t.2.2 ≤ ed.can (sideP ed t.2.1) ∧ 0 ≤ t.2.2
def destP (x : Wb) (t : Int × Int × Int) : Int := (edgeAt x t.1).endp (1 - sideP (edgeAt x t.1) t.2.1)
def flow1 (x : Wb) (m : Int) (t : Int × Int × Int) : Int := (if destP x t = m then t.2.2 else 0) - (if t.2.1 = m then t.2.2 else 0)
def flowP (x : Wb) (m : Int) : List (Int × Int × Int) → Int
  | [] => 0
  | t :: L => flow1 x m t + flowP x m L
theorem flowP_app (x : Wb) (m : Int) : ∀ (L M : List (Int × Int × Int)), flowP x m (L ++ M) = flowP x m L + flowP x m M
  | [], M => by simp [flowP]
  | t :: L, M => by simp only [List.cons_append, flowP, flowP_app x m L M]; omega
theorem flowP_congr {x y : Wb} (m : Int) : ∀ (L : List (Int × Int × Int)), (∀ t ∈ L, edgeAt y t.1 = edgeAt x t.1) → flowP y m L = flowP x m L
  | [], _ => rfl
  | t :: L, h => by
    have h1 := flowP_congr m L fun t' ht => h t' (by simp [ht])
    have h2 := h t (by simp)
    unfold flowP flow1 destP
    rw [h1, h2]
theorem sent_out {ed : Edg} (hne : ed.a ≠ ed.b) {s : Int} (hs : s = 0 ∨ s = 1) (a m : Int) : (ed.sent s a).out m = ed.out m + ((if ed.endp (1 - s) = m then a else 0) - (if ed.endp s = m then a else 0)) := by
  rcases hs with rfl | rfl
  · simp only [Edg.sent, Edg.out, Edg.endp]
    split <;> split <;> simp_all <;> omega
  · simp only [Edg.sent, Edg.out, Edg.endp]
    split <;> split <;> simp_all <;> omega
theorem sent_ends (ed : Edg) (s a : Int) : (ed.sent s a).a = ed.a ∧ (ed.sent s a).b = ed.b ∧ (ed.sent s a).c0 + (ed.sent s a).c1 = ed.c0 + ed.c1 := by
  unfold Edg.sent
  split <;> refine ⟨rfl, rfl, ?_⟩ <;> dsimp only <;> omega
theorem chk_set {x : Wb} {k : Nat} {ed ed' : Edg} (hed : x.edges[k]? = some ed) (ha : ed'.a = ed.a) (hb : ed'.b = ed.b) (hc : chkP x = 0) : chkP ⟨x.spots, x.edges.set k ed'⟩ = 0 := by
  obtain ⟨h1, h2, h3⟩ := chk_zero hc
  refine chk_good (by simp only [List.length_set]; omega) fun j hj => ?_
  have hj' : j < x.edges.length := by simpa using hj
  show ¬ badE (x.spots.length : Int) (x.edges.set k ed')[j]
  rw [List.getElem_set]
  split
  · have := h3 ed (List.mem_of_getElem? hed)
    unfold badE at this ⊢
    rw [ha, hb]; exact this
  · exact h3 _ (List.getElem_mem hj')
theorem edgeAt_of {x : Wb} {k : Nat} : edgeAt x k = x.edges.getD k dftEdg := by unfold edgeAt; rw [Int.toNat_natCast]
theorem tripOk_congr {x y : Wb} {t : Int × Int × Int} (h : ∀ k : Nat, t.1 = k → y.edges[k]? = x.edges[k]?) (ht : TripOk x t) : TripOk y t := by
  obtain ⟨k, ed, h1, h2, h3, h4, h5⟩ := ht
  exact ⟨k, ed, h1, by rw [h k h1]; exact h2, h3, h4, h5⟩
/-- One send that there can be: it goes, or it is too much. -/
theorem trip_one {x : Wb} (ok : x.Ok) (hc : chkP x = 0) {k : Nat} {ed : Edg} {n a : Int} (hed : x.edges[k]? = some ed) (hs : 0 ≤ sideP ed n) (ha : a ≤ ed.can (sideP ed n)) (h0 : 0 ≤ a) :
    (sentP x k n a = (⟨x.spots, x.edges.set k (ed.sent (sideP ed n) a)⟩, 0) ∨ (sentP x k n a = (noWeb, 11) ∧ 18446744073709551616 ≤ holds x)) := by
  by_cases ho : (addP (ed.can (1 - sideP ed n)) a).2 = 0
  · exact .inl (sentP_ok hc hed rfl hs (by omega) ho)
  · right
    have h1 := sentP_over hc hed rfl hs (by omega : ¬ ed.can (sideP ed n) < a) ho
    unfold addP at ho h1
    split at ho
    · exact absurd rfl ho
    · rename_i h2
      rw [if_neg h2] at h1
      refine ⟨h1, ?_⟩
      have h3 := totE_one (fun e => e.c0 + e.c1) x.edges k ed (fun e he => by have h := ok.e e he; have := h.c0.1; have := h.c1.1; show (0 : Int) ≤ e.c0 + e.c1; omega) hed
      unfold holds
      have h4 : ed.can (1 - sideP ed n) + ed.can (sideP ed n) = ed.c0 + ed.c1 := by
        rcases side_cases ed n with ⟨e, _⟩ | ⟨e, _⟩ | ⟨e, _⟩
        · rw [e]; simp [Edg.can]; omega
        · rw [e]; simp [Edg.can]
        · omega
      have h5 : ed.c0 + ed.c1 ≤ totE (fun e => e.c0 + e.c1) x.edges := h3
      omega
/-- Sends over unlike channels. -/
theorem goL_pass : ∀ (L : List (Int × Int × Int)) (x : Wb), x.Ok → chkP x = 0 → (∀ t ∈ L, TripOk x t) → (∀ t ∈ L, U64 t.2.2) → (L.map (·.1)).Nodup →
    ((goL x L).2 = 0 ∨ ((goL x L).2 = 11 ∧ 18446744073709551616 ≤ holds x)) ∧ ((goL x L).2 = 0 → chkP (goL x L).1 = 0 ∧ (∀ m, outs (goL x L).1 m = outs x m + flowP x m L) ∧ holds (goL x L).1 = holds x ∧ (goL x L).1.spots = x.spots ∧ (goL x L).1.edges.length = x.edges.length ∧
      (∀ k : Nat, (k : Int) ∉ L.map (·.1) → (goL x L).1.edges[k]? = x.edges[k]?) ∧ ∀ t ∈ L, ∀ (k : Nat) (ed : Edg), t.1 = k → x.edges[k]? = some ed → (goL x L).1.edges[k]? = some (ed.sent (sideP ed t.2.1) t.2.2))
  | [], x, _, hc, _, _, _ => ⟨.inl rfl, fun _ => ⟨hc, fun m => by simp [goL, flowP], rfl, rfl, rfl, fun k _ => rfl, fun t ht => by simp at ht⟩⟩
  | t :: L, x, ok, hc, ht, hu, hn => by
    obtain ⟨te, tn, ta⟩ := t
    obtain ⟨k, ed, hk, hed, hs, ha, h0⟩ := ht (te, tn, ta) (by simp)
    try dsimp only at hk hs ha h0
    subst hk
    rw [List.map_cons, List.nodup_cons] at hn
    have hua := hu _ (by simp : ((k : Int), tn, ta) ∈ ((k : Int), tn, ta) :: L)
    dsimp only at hua
    rcases trip_one ok hc hed hs ha h0 with h1 | ⟨h1, h2⟩
    · have hso := (sent_ok8 ok (edge := (k : Int)) (node := tn) hua).1
      rw [h1] at hso
      have hgo : goL x (((k : Int), tn, ta) :: L) = goL ⟨x.spots, x.edges.set k (ed.sent (sideP ed tn) ta)⟩ L := goL_on h1 rfl
      have hx1 : ∀ j : Nat, j ≠ k → (x.edges.set k (ed.sent (sideP ed tn) ta))[j]? = x.edges[j]? := fun j hj => List.getElem?_set_ne (Ne.symm hj)
      have hne : ∀ t ∈ L, ∀ j : Nat, t.1 = j → j ≠ k := fun t htL j hj e => hn.1 (by rw [List.mem_map]; exact ⟨t, htL, by rw [hj, e]⟩)
      obtain ⟨se1, se2, se3⟩ := sent_ends ed (sideP ed tn) ta
      have hc1 := chk_set hed se1 se2 hc
      obtain ⟨i1, i2⟩ := goL_pass L _ hso hc1 (fun t htL => tripOk_congr (x := x) (fun j hj => hx1 j (hne t htL j hj)) (ht t (by simp [htL]))) (fun t htL => hu t (by simp [htL])) hn.2
      have hbad := (chk_zero hc).2.2 ed (List.mem_of_getElem? hed)
      have hnab : ed.a ≠ ed.b := fun e => hbad (by unfold badE; simp [e])
      have hs01 : sideP ed tn = 0 ∨ sideP ed tn = 1 := by
        rcases side_cases ed tn with ⟨e, _⟩ | ⟨e, _⟩ | ⟨e, _⟩
        · exact .inl e
        · exact .inr e
        · omega
      have hend : ed.endp (sideP ed tn) = tn := by
        rcases side_cases ed tn with ⟨e, e2⟩ | ⟨e, e2, _⟩ | ⟨e, _⟩
        · rw [e]; simpa [Edg.endp] using e2
        · rw [e]; simpa [Edg.endp] using e2
        · omega
      have hh : holds ⟨x.spots, x.edges.set k (ed.sent (sideP ed tn) ta)⟩ = holds x := by
        unfold holds
        dsimp only
        rw [totE_set _ _ _ _ _ hed]; (try dsimp only); omega
      have hout : ∀ m, outs ⟨x.spots, x.edges.set k (ed.sent (sideP ed tn) ta)⟩ m = outs x m + flow1 x m ((k : Int), tn, ta) := by
        intro m
        unfold outs flow1 destP
        dsimp only
        rw [totE_set _ _ _ _ _ hed, sent_out hnab hs01, edge_of hed, hend]; omega
      have hflow : ∀ m, flowP ⟨x.spots, x.edges.set k (ed.sent (sideP ed tn) ta)⟩ m L = flowP x m L := fun m => flowP_congr m L fun t htL => by
        obtain ⟨j, ed', hj, hed', _⟩ := ht t (by simp [htL])
        rw [hj, edge_of hed']
        exact edge_of (by rw [← hed']; exact hx1 j (hne t htL j hj))
      rw [hgo]
      rw [hh] at i1
      refine ⟨i1, fun hz => ?_⟩
      obtain ⟨q1, q2, q3, q4, q5, q6, q7⟩ := i2 hz
      refine ⟨q1, fun m => ?_, by rw [q3, hh], q4, by rw [q5]; simp, fun j hj => ?_, ?_⟩
      · rw [q2 m, hout m, hflow m]; simp only [flowP]; omega
      · rw [List.map_cons, List.mem_cons, not_or] at hj
        rw [q6 j hj.2]
        exact hx1 j fun e => hj.1 (by rw [e])
      · intro t htL j ed' hj hed'
        rcases List.mem_cons.1 htL with rfl | htL
        · dsimp only at hj ⊢
          have : k = j := by omega
          subst this
          rw [hed] at hed'; cases hed'
          rw [q6 k hn.1]
          dsimp only
          exact List.getElem?_set_self (List.getElem?_eq_some_iff.1 hed).1
        · exact q7 t htL j ed' hj (by rw [← hed']; exact hx1 j (hne t htL j hj))
    · have hgo : goL x (((k : Int), tn, ta) :: L) = (noWeb, 11) := goL_off h1 (by decide)
      rw [hgo]
      exact ⟨.inr ⟨rfl, h2⟩, fun h => by cases h⟩
open Go Go.RowKit

/-- What channels that lead out of a set can send to others. -/
def Edg.cut (T : Int → Bool) (e : Edg) : Int := if T e.a = true ∧ T e.b = false then e.c0 else if T e.b = true ∧ T e.a = false then e.c1 else 0
def cutP (y : Wb) (T : Int → Bool) : Int := totE (fun e => e.cut T) y.edges
def bI (b : Bool) : Int := if b = true then 1 else 0
theorem cutP_nn {y : Wb} (ok : y.Ok) (T : Int → Bool) : 0 ≤ cutP y T := totE_nn _ _ fun e he => by
  have h := ok.e e he; have h0 := h.c0.1; have h1 := h.c1.1
  show 0 ≤ e.cut T
  unfold Edg.cut
  split
  · exact h0
  · split
    · exact h1
    · exact Int.le_refl _
theorem cutP_le {y : Wb} (ok : y.Ok) (T : Int → Bool) : cutP y T ≤ holds y := totE_le _ _ _ fun e he => by
  have h := ok.e e he; have h0 := h.c0.1; have h1 := h.c1.1
  show e.cut T ≤ e.c0 + e.c1
  unfold Edg.cut
  split
  · omega
  · split <;> omega
theorem totE_zero (g : Edg → Int) : ∀ (l : List Edg), (∀ e ∈ l, g e = 0) → totE g l = 0
  | [], _ => rfl
  | a :: l, h => by rw [totE, h a (by simp), totE_zero g l fun e he => h e (by simp [he])]; rfl
theorem two_subI {s : Nat} (h : s < 2) : (1 : Int) - (s : Int) = ((1 - s : Nat) : Int) := by omega
/-- The same web, but for what its channels can send. -/
structure ResOf (x y : Wb) : Prop where
  ok : y.Ok
  spots : y.spots = x.spots
  len : y.edges.length = x.edges.length
  at_ : ∀ (i : Nat) (e f : Edg), x.edges[i]? = some e → y.edges[i]? = some f → f.a = e.a ∧ f.b = e.b ∧ f.c0 + f.c1 = e.c0 + e.c1
theorem ResOf.refl {x : Wb} (ok : x.Ok) : ResOf x x := ⟨ok, rfl, rfl, fun i e f h1 h2 => by rw [h1] at h2; cases h2; exact ⟨rfl, rfl, rfl⟩⟩
theorem side_ends {e f : Edg} (ha : f.a = e.a) (hb : f.b = e.b) (n : Int) : sideP f n = sideP e n := by unfold sideP; rw [ha, hb]
theorem endp_ends {e f : Edg} (ha : f.a = e.a) (hb : f.b = e.b) (s : Int) : f.endp s = e.endp s := by unfold Edg.endp; rw [ha, hb]
/-- One send. -/
def put1 (y : Wb) (i : Nat) (f : Edg) (s : Nat) (am : Int) : Wb := ⟨y.spots, y.edges.set i (f.sent (s : Int) am)⟩
theorem sent_cut {f : Edg} {s : Nat} (hs : s < 2) (T : Int → Bool) (am : Int) : (f.sent (s : Int) am).cut T = f.cut T - am * (bI (T (f.endp (s : Int))) - bI (T (f.endp ((1 - s : Nat) : Int)))) := by
  match s, hs with
  | 0, _ =>
    show Edg.cut T ⟨f.a, f.b, f.c0 - am, f.c1 + am, f.b0, f.r0, f.b1, f.r1⟩ = f.cut T - am * (bI (T f.a) - bI (T f.b))
    unfold Edg.cut bI
    cases T f.a <;> cases T f.b <;> simp <;> omega
  | 1, _ =>
    show Edg.cut T ⟨f.a, f.b, f.c0 + am, f.c1 - am, f.b0, f.r0, f.b1, f.r1⟩ = f.cut T - am * (bI (T f.b) - bI (T f.a))
    unfold Edg.cut bI
    cases T f.a <;> cases T f.b <;> simp <;> omega
theorem sent_out' {f : Edg} (hne : f.a ≠ f.b) {s : Nat} (hs : s < 2) (am n : Int) : (f.sent (s : Int) am).out n = f.out n + ((if f.endp ((1 - s : Nat) : Int) = n then am else 0) - (if f.endp (s : Int) = n then am else 0)) := by
  have h := sent_out hne (s := (s : Int)) (by omega) am n
  rw [two_subI hs] at h
  exact h
theorem put1_res {x y : Wb} (h : ResOf x y) {i : Nat} {f : Edg} (hf : y.edges[i]? = some f) {s : Nat} (hs : s < 2) {am : Int} (h0 : 0 ≤ am) (hle : am ≤ f.can (s : Int)) (hsum : f.c0 + f.c1 < 18446744073709551616) : ResOf x (put1 y i f s am) := by
  have hok := h.ok.e f (List.mem_of_getElem? hf)
  have hc : (f.sent (s : Int) am).a = f.a ∧ (f.sent (s : Int) am).b = f.b ∧ (f.sent (s : Int) am).c0 + (f.sent (s : Int) am).c1 = f.c0 + f.c1 := sent_ends f _ _
  have hu0 := hok.c0; have hu1 := hok.c1
  unfold U64 at hu0 hu1
  have hnew : (f.sent (s : Int) am).Ok := by
    match s, hs with
    | 0, _ =>
      have hle : am ≤ f.c0 := hle
      exact ⟨hok.a, hok.b, ⟨by show 0 ≤ f.c0 - am; omega, by show f.c0 - am < _; omega⟩, ⟨by show 0 ≤ f.c1 + am; omega, by show f.c1 + am < _; omega⟩, hok.b0, hok.r0, hok.b1, hok.r1⟩
    | 1, _ =>
      have hle : am ≤ f.c1 := hle
      exact ⟨hok.a, hok.b, ⟨by show 0 ≤ f.c0 + am; omega, by show f.c0 + am < _; omega⟩, ⟨by show 0 ≤ f.c1 - am; omega, by show f.c1 - am < _; omega⟩, hok.b0, hok.r0, hok.b1, hok.r1⟩
  refine ⟨⟨fun e he => ?_, h.ok.s⟩, h.spots, by unfold put1; dsimp only; rw [List.length_set]; exact h.len, fun j e g h1 h2 => ?_⟩
  · rcases List.mem_or_eq_of_mem_set he with he | he
    · exact h.ok.e e he
    · rw [he]; exact hnew
  · unfold put1 at h2; dsimp only at h2
    by_cases hj : j = i
    · subst hj
      rw [List.getElem?_set_self (List.getElem?_eq_some_iff.1 hf).1] at h2
      cases h2
      obtain ⟨e1, e2, e3⟩ := h.at_ j e f h1 hf
      exact ⟨hc.1.trans e1, hc.2.1.trans e2, hc.2.2.trans e3⟩
    · rw [List.getElem?_set_ne (Ne.symm hj)] at h2
      exact h.at_ j e g h1 h2
theorem put1_cut {y : Wb} {i : Nat} {f : Edg} (hf : y.edges[i]? = some f) {s : Nat} (hs : s < 2) (am : Int) (T : Int → Bool) : cutP (put1 y i f s am) T = cutP y T - am * (bI (T (f.endp (s : Int))) - bI (T (f.endp ((1 - s : Nat) : Int)))) := by
  unfold cutP put1
  dsimp only
  rw [totE_set _ _ _ _ _ hf]
  have := sent_cut (f := f) hs T am
  try dsimp only
  omega
theorem put1_out {y : Wb} {i : Nat} {f : Edg} (hf : y.edges[i]? = some f) (hne : f.a ≠ f.b) {s : Nat} (hs : s < 2) (am n : Int) : outs (put1 y i f s am) n = outs y n + ((if f.endp ((1 - s : Nat) : Int) = n then am else 0) - (if f.endp (s : Int) = n then am else 0)) := by
  unfold outs put1
  dsimp only
  rw [totE_set _ _ _ _ _ hf]
  have := sent_out' (f := f) hne hs am n
  try dsimp only
  omega
/-- A way from one node to another one, told from its end: channel, end that sends, who sends, to whom. -/
structure Hop where
  i : Nat
  s : Nat
  u : Int
  v : Int
def HopOk (y : Wb) (h : Hop) (am : Int) : Prop := ∃ f, y.edges[h.i]? = some f ∧ h.s < 2 ∧ f.endp (h.s : Int) = h.u ∧ f.endp ((1 - h.s : Nat) : Int) = h.v ∧ f.a ≠ f.b ∧ am ≤ f.can (h.s : Int)
/-- The hops, from the end back to the beginning. -/
def BackTo (from_ : Int) : Int → List Hop → Prop
  | v, [] => v = from_
  | v, h :: L => h.v = v ∧ v ≠ from_ ∧ BackTo from_ h.u L
def put1H (y : Wb) (am : Int) (h : Hop) : Wb := match y.edges[h.i]? with
  | some f => put1 y h.i f h.s am
  | none => y
def pushL (y : Wb) (am : Int) : List Hop → Wb
  | [] => y
  | h :: L => pushL (put1H y am h) am L
theorem put1H_of {y : Wb} {am : Int} {h : Hop} {f : Edg} (hf : y.edges[h.i]? = some f) : put1H y am h = put1 y h.i f h.s am := by unfold put1H; rw [hf]
theorem put1H_far {y : Wb} {am : Int} {h : Hop} {j : Nat} (hj : j ≠ h.i) : (put1H y am h).edges[j]? = y.edges[j]? := by
  unfold put1H
  split
  · unfold put1; dsimp only; rw [List.getElem?_set_ne (Ne.symm hj)]
  · rfl
theorem hop_far {y : Wb} {am a2 : Int} {g h : Hop} (hne : h.i ≠ g.i) (hh : HopOk y h am) : HopOk (put1H y a2 g) h am := by
  obtain ⟨f, h1, h2⟩ := hh
  exact ⟨f, by rw [put1H_far hne]; exact h1, h2⟩
/-- Sends along a way. -/
theorem pushL_all {x : Wb} {from_ am : Int} (h0 : 0 ≤ am) (hsum : ∀ e ∈ x.edges, e.c0 + e.c1 < 18446744073709551616) : ∀ (L : List Hop) (y : Wb) (v : Int), ResOf x y → BackTo from_ v L → (∀ h ∈ L, HopOk y h am) → (L.map Hop.i).Nodup →
    ResOf x (pushL y am L) ∧ (∀ T, cutP (pushL y am L) T = cutP y T - am * (bI (T from_) - bI (T v))) ∧ ∀ n, outs (pushL y am L) n = outs y n + ((if v = n then am else 0) - (if from_ = n then am else 0))
  | [], y, v, hr, hb, _, _ => by
    have hv : v = from_ := hb
    subst hv
    exact ⟨hr, fun T => by unfold pushL; rw [Int.sub_self, Int.mul_zero, Int.sub_zero], fun n => by unfold pushL; omega⟩
  | h :: L, y, v, hr, hb, ho, hn => by
    obtain ⟨hb1, hb2, hb3⟩ := hb
    obtain ⟨f, hf, hs, hu, hv, hne, hle⟩ := ho h (by simp)
    rw [List.map_cons, List.nodup_cons] at hn
    have hi := (List.getElem?_eq_some_iff.1 hf).1
    have hx : x.edges[h.i]? = some (x.edges[h.i]'(by rw [← hr.len]; exact hi)) := List.getElem?_eq_getElem _
    obtain ⟨_, _, e3⟩ := hr.at_ h.i _ f hx hf
    have hs9 : f.c0 + f.c1 < 18446744073709551616 := by rw [e3]; exact hsum _ (List.mem_of_getElem? hx)
    have hr1 := put1_res hr hf hs h0 hle hs9
    have hw : put1H y am h = put1 y h.i f h.s am := put1H_of hf
    have hfar : ∀ g ∈ L, HopOk (put1H y am h) g am := fun g hg => hop_far (fun e => hn.1 (by rw [← e]; exact List.mem_map_of_mem hg)) (ho g (by simp [hg]))
    obtain ⟨i1, i2, i3⟩ := pushL_all h0 hsum L (put1H y am h) h.u (by rw [hw]; exact hr1) hb3 hfar hn.2
    unfold pushL
    refine ⟨i1, fun T => ?_, fun n => ?_⟩
    · rw [i2 T, hw, put1_cut hf hs am T, hu, hv, hb1, Int.sub_sub, ← Int.mul_add]
      congr 2; omega
    · rw [i3 n, hw, put1_out hf hne hs am n, hu, hv, hb1]; omega
theorem pushL_far {am : Int} : ∀ (L : List Hop) (y : Wb) (j : Nat), j ∉ L.map Hop.i → (pushL y am L).edges[j]? = y.edges[j]?
  | [], _, _, _ => rfl
  | h :: L, y, j, hj => by
    rw [List.map_cons, List.mem_cons, not_or] at hj
    unfold pushL
    rw [pushL_far L _ j hj.2, put1H_far hj.1]
open Go Go.RowKit

def negs : List Int → Nat
  | [] => 0
  | b :: l => (if b < 0 then 1 else 0) + negs l
theorem negs_set : ∀ (l : List Int) (v : Nat) (b b' : Int), l[v]? = some b → b < 0 → 0 ≤ b' → negs (l.set v b') + 1 = negs l
  | [], v, b, b', h, _, _ => by simp at h
  | a :: l, 0, b, b', h, h1, h2 => by
    simp at h; subst h
    simp only [List.set_cons_zero, negs]
    rw [if_neg (by omega), if_pos h1]; omega
  | a :: l, v + 1, b, b', h, h1, h2 => by
    simp only [List.getElem?_cons_succ] at h
    have := negs_set l v b b' h h1 h2
    simp only [List.set_cons_succ, negs]; omega
theorem negs_rep : ∀ n, negs (List.replicate n (-1)) = n
  | 0 => rfl
  | n + 1 => by rw [List.replicate_succ, negs, negs_rep n, if_pos (by decide)]; omega
/-- What is known of the nodes found so far. Q: in the order in which they were found. -/
structure Bfs (x y : Wb) (fr : Nat) (by_ : List Int) (Q : List Nat) : Prop where
  len : by_.length = x.spots.length
  cnt : Q.length + negs by_ = x.spots.length
  mem : ∀ v : Nat, v ∈ Q ↔ ∃ b, by_[v]? = some b ∧ 0 ≤ b
  nodup : Q.Nodup
  hd : Q[0]? = some fr
  src : by_[fr]? = some (x.edges.length : Int)
  par : ∀ (j v : Nat), Q[j]? = some v → j ≠ 0 → ∃ (i s u ju : Nat) (f : Edg), by_[v]? = some (i : Int) ∧ y.edges[i]? = some f ∧ s < 2 ∧ f.endp (s : Int) = (u : Int) ∧ f.endp ((1 - s : Nat) : Int) = (v : Int) ∧ 0 < f.can (s : Int) ∧ Q[ju]? = some u ∧ ju < j
/-- Each channel before the k-th one that leads out of a node leads to one that was found. -/
def Part (y : Wb) (Q : List Nat) (u k : Nat) : Prop := ∀ (i : Nat) (f : Edg) (s : Nat), i < k → y.edges[i]? = some f → s < 2 → f.endp (s : Int) = (u : Int) → 0 < f.can (s : Int) → ∃ v : Nat, v ∈ Q ∧ f.endp ((1 - s : Nat) : Int) = (v : Int)
def Done (y : Wb) (Q : List Nat) (h : Nat) : Prop := ∀ (j u : Nat), j < h → Q[j]? = some u → Part y Q u y.edges.length
theorem Part.more {y : Wb} {Q : List Nat} {u k : Nat} (h : Part y Q u k) (v : Nat) : Part y (Q ++ [v]) u k := fun i f s h1 h2 h3 h4 h5 => by
  obtain ⟨q, h6, h7⟩ := h i f s h1 h2 h3 h4 h5
  exact ⟨q, by simp [h6], h7⟩
theorem Done.more {y : Wb} {Q : List Nat} {h : Nat} (hd : Done y Q h) (hl : h ≤ Q.length) (v : Nat) : Done y (Q ++ [v]) h := fun j u hj hu => by
  rw [List.getElem?_append_left (by omega)] at hu
  exact (hd j u hj hu).more v
theorem bfs_start {x y : Wb} {fr : Nat} (hf : fr < x.spots.length) : Bfs x y fr ((List.replicate x.spots.length (-1)).set fr (x.edges.length : Int)) [fr] := by
  have hg : (List.replicate x.spots.length (-1 : Int))[fr]? = some (-1) := by rw [List.getElem?_replicate, if_pos hf]
  refine ⟨by simp, ?_, fun v => ?_, by simp, rfl, ?_, fun j v hv hj => ?_⟩
  · have := negs_set _ fr (-1) (x.edges.length : Int) hg (by decide) (by omega)
    rw [negs_rep] at this
    simp only [List.length_singleton]; omega
  · constructor
    · intro hv
      simp at hv; subst hv
      exact ⟨_, by rw [List.getElem?_set_self (by simpa using hf)], by omega⟩
    · rintro ⟨b, hb, h0⟩
      by_cases hv : v = fr
      · simp [hv]
      · rw [List.getElem?_set_ne (Ne.symm hv), List.getElem?_replicate] at hb
        split at hb
        · cases hb; omega
        · cases hb
  · rw [List.getElem?_set_self (by simpa using hf)]
  · match j, hj with
    | j + 1, _ => simp at hv
theorem bfs_more {x y : Wb} {fr : Nat} {by_ : List Int} {Q : List Nat} (h : Bfs x y fr by_ Q) {k s u ju v : Nat} {f : Edg} {b : Int} (hk : y.edges[k]? = some f) (hs : s < 2) (hu : f.endp (s : Int) = (u : Int)) (hv : f.endp ((1 - s : Nat) : Int) = (v : Int)) (hc : 0 < f.can (s : Int)) (hju : Q[ju]? = some u) (hb : by_[v]? = some b) (hn : b < 0) : Bfs x y fr (by_.set v (k : Int)) (Q ++ [v]) := by
  have hvl := (List.getElem?_eq_some_iff.1 hb).1
  have hvQ : v ∉ Q := fun hm => by
    obtain ⟨b', h1, h2⟩ := (h.mem v).1 hm
    rw [hb] at h1; cases h1; omega
  have hne : ∀ q, q ∈ Q → q ≠ v := fun q hq e => hvQ (e ▸ hq)
  have hQ0 : 0 < Q.length := (List.getElem?_eq_some_iff.1 h.hd).1
  refine ⟨by rw [List.length_set]; exact h.len, ?_, fun q => ?_, ?_, by rw [List.getElem?_append_left hQ0]; exact h.hd, ?_, fun j q hq hj => ?_⟩
  · have := negs_set by_ v b (k : Int) hb hn (by omega)
    have := h.cnt
    simp only [List.length_append, List.length_singleton]; omega
  · rw [List.mem_append, List.mem_singleton]
    constructor
    · rintro (hq | rfl)
      · obtain ⟨b', h1, h2⟩ := (h.mem q).1 hq
        exact ⟨b', by rw [List.getElem?_set_ne (Ne.symm (hne q hq))]; exact h1, h2⟩
      · exact ⟨_, List.getElem?_set_self hvl, by omega⟩
    · rintro ⟨b', h1, h2⟩
      by_cases hq : q = v
      · exact .inr hq
      · rw [List.getElem?_set_ne (Ne.symm hq)] at h1
        exact .inl ((h.mem q).2 ⟨b', h1, h2⟩)
  · rw [List.nodup_append]
    exact ⟨h.nodup, by simp, fun a ha b' hb' => by simp at hb'; subst hb'; exact hne a ha⟩
  · rw [List.getElem?_set_ne (Ne.symm (hne fr (List.mem_of_getElem? h.hd)))]; exact h.src
  · by_cases hjl : j < Q.length
    · rw [List.getElem?_append_left hjl] at hq
      obtain ⟨i', s', u', ju', f', q1, q2, q3, q4, q5, q6, q7, q8⟩ := h.par j q hq hj
      exact ⟨i', s', u', ju', f', by rw [List.getElem?_set_ne (Ne.symm (hne q (List.mem_of_getElem? hq)))]; exact q1, q2, q3, q4, q5, q6, by rw [List.getElem?_append_left (by omega)]; exact q7, q8⟩
    · rw [List.getElem?_append_right (by omega)] at hq
      have hj0 : j - Q.length = 0 := by
        have := (List.getElem?_eq_some_iff.1 hq).1
        simp at this; omega
      rw [hj0] at hq
      simp at hq; subst hq
      have hjul := (List.getElem?_eq_some_iff.1 hju).1
      exact ⟨k, s, u, ju, f, List.getElem?_set_self hvl, hk, hs, hu, hv, hc, by rw [List.getElem?_append_left hjul]; exact hju, by omega⟩
theorem part_next {y : Wb} {Q : List Nat} {u k : Nat} (h : Part y Q u k) {f : Edg} (hk : y.edges[k]? = some f) (hf : ∀ s : Nat, s < 2 → f.endp (s : Int) = (u : Int) → 0 < f.can (s : Int) → ∃ v : Nat, v ∈ Q ∧ f.endp ((1 - s : Nat) : Int) = (v : Int)) : Part y Q u (k + 1) := fun i g s h1 h2 h3 h4 h5 => by
  by_cases hi : i = k
  · subst hi
    rw [hk] at h2; cases h2
    exact hf s h3 h4 h5
  · exact h i g s (by omega) h2 h3 h4 h5
theorem done_next {y : Wb} {Q : List Nat} {h u : Nat} (hd : Done y Q h) (hu : Q[h]? = some u) (hp : Part y Q u y.edges.length) : Done y Q (h + 1) := fun j q hj hq => by
  by_cases he : j = h
  · subst he; rw [hu] at hq; cases hq; exact hp
  · exact hd j q (by omega) hq
/-- How nodes are come to. -/
structure RchOk (x y : Wb) (fr : Nat) (by_ : List Int) : Prop where
  bfs : ∃ Q, Bfs x y fr by_ Q ∧ Done y Q Q.length
theorem RchOk.len {x y : Wb} {fr : Nat} {by_ : List Int} (h : RchOk x y fr by_) : by_.length = x.spots.length := by
  obtain ⟨Q, h1, _⟩ := h.bfs; exact h1.len
/-- Was a node come to? -/
def come (by_ : List Int) (v : Int) : Bool := decide (0 ≤ v) && decide (0 ≤ by_.getD v.toNat (-1))
theorem come_iff {by_ : List Int} {v : Nat} : come by_ (v : Int) = true ↔ ∃ b, by_[v]? = some b ∧ 0 ≤ b := by
  unfold come
  rw [Bool.and_eq_true, decide_eq_true_eq, decide_eq_true_eq, Int.toNat_natCast, List.getD_eq_getElem?_getD]
  constructor
  · rintro ⟨_, h⟩
    cases hb : by_[v]? with
    | none => rw [hb] at h; simp at h
    | some b => rw [hb] at h; exact ⟨b, rfl, by simpa using h⟩
  · rintro ⟨b, hb, h0⟩
    rw [hb]
    exact ⟨by omega, by simpa using h0⟩
theorem RchOk.from_ {x y : Wb} {fr : Nat} {by_ : List Int} (h : RchOk x y fr by_) : come by_ (fr : Int) = true := by
  obtain ⟨Q, h1, _⟩ := h.bfs
  exact come_iff.2 ⟨_, h1.src, by omega⟩
/-- No channel that leads out of what was come to can send anything. -/
theorem RchOk.closed {x y : Wb} {fr : Nat} {by_ : List Int} (h : RchOk x y fr by_) {i : Nat} {f : Edg} {s : Nat} (hi : y.edges[i]? = some f) (hs : s < 2) (hu : come by_ (f.endp (s : Int)) = true) (hc : 0 < f.can (s : Int)) : come by_ (f.endp ((1 - s : Nat) : Int)) = true := by
  obtain ⟨Q, h1, h2⟩ := h.bfs
  have h0 : 0 ≤ f.endp (s : Int) := by
    unfold come at hu
    rw [Bool.and_eq_true, decide_eq_true_eq] at hu
    exact hu.1
  obtain ⟨u, hu'⟩ : ∃ u : Nat, f.endp (s : Int) = u := ⟨(f.endp (s : Int)).toNat, by omega⟩
  rw [hu'] at hu
  have hm := (h1.mem u).2 (come_iff.1 hu)
  obtain ⟨j, hj, hju⟩ := List.getElem_of_mem hm
  obtain ⟨v, hv, hve⟩ := h2 j u hj (by rw [List.getElem?_eq_getElem hj, hju]) i f s (List.getElem?_eq_some_iff.1 hi).1 hi hs hu' hc
  rw [hve]
  exact come_iff.2 ((h1.mem v).1 hv)
/-- The hops back to the beginning. -/
theorem RchOk.way {x y : Wb} {fr : Nat} {by_ : List Int} (h : RchOk x y fr by_) (hab : ∀ (i : Nat) (f : Edg), y.edges[i]? = some f → f.a ≠ f.b) {v : Nat} (hv : come by_ (v : Int) = true) : ∃ L : List Hop, BackTo (fr : Int) (v : Int) L ∧ (∀ g ∈ L, HopOk y g 1) ∧ (L.map Hop.i).Nodup ∧ ∀ g ∈ L, ∃ u q : Nat, g.u = (u : Int) ∧ g.v = (q : Int) ∧ by_[q]? = some (g.i : Int) ∧ q < x.spots.length ∧ u < x.spots.length := by
  obtain ⟨Q, h1, h2⟩ := h.bfs
  have hQ : ∀ q, q ∈ Q → q < x.spots.length := fun q hq => by
    obtain ⟨b, hb, _⟩ := (h1.mem q).1 hq
    rw [← h1.len]; exact (List.getElem?_eq_some_iff.1 hb).1
  have key : ∀ (j : Nat) (v : Nat), Q[j]? = some v → ∃ L : List Hop, BackTo (fr : Int) (v : Int) L ∧ (∀ g ∈ L, HopOk y g 1) ∧ (L.map Hop.i).Nodup ∧ (∀ g ∈ L, ∃ u q jq : Nat, g.u = (u : Int) ∧ g.v = (q : Int) ∧ by_[q]? = some (g.i : Int) ∧ Q[jq]? = some q ∧ u ∈ Q ∧ jq ≤ j) := by
    intro j
    induction j using Nat.strongRecOn with
    | _ j ih =>
      intro v hv
      by_cases hj : j = 0
      · subst hj
        have : v = fr := by have := hv.symm.trans h1.hd; injection this
        subst this
        exact ⟨[], rfl, fun g hg => by simp at hg, by simp, fun g hg => by simp at hg⟩
      · obtain ⟨i, s, u, ju, f, q1, q2, q3, q4, q5, q6, q7, q8⟩ := h1.par j v hv hj
        obtain ⟨L, l1, l2, l3, l4⟩ := ih ju q8 u q7
        have hvfr : (v : Int) ≠ (fr : Int) := fun e => hj (by
          have : v = fr := by omega
          subst this
          exact (List.getElem?_inj (List.getElem?_eq_some_iff.1 hv).1 h1.nodup).1 (hv.trans h1.hd.symm))
        refine ⟨⟨i, s, u, v⟩ :: L, ⟨rfl, hvfr, l1⟩, fun g hg => ?_, ?_, fun g hg => ?_⟩
        · rcases List.mem_cons.1 hg with rfl | hg
          · exact ⟨f, q2, q3, q4, q5, hab i f q2, by show 1 ≤ f.can (s : Int); omega⟩
          · exact l2 g hg
        · rw [List.map_cons, List.nodup_cons]
          refine ⟨fun hm => ?_, l3⟩
          rw [List.mem_map] at hm
          obtain ⟨g, hg, hgi⟩ := hm
          obtain ⟨u', q', jq', m1, m2, m3, m4, m5, m6⟩ := l4 g hg
          obtain ⟨f', p1, p2, p3, p4, _⟩ := l2 g hg
          dsimp only at hgi
          rw [hgi, q2] at p1
          cases p1
          -- the channel's ends are u and v; q' is found before v, and q' isn't u's forerunner's
          have hq'v : q' ≠ v := fun e => by
            subst e
            have := (List.getElem?_inj (List.getElem?_eq_some_iff.1 m4).1 h1.nodup).1 (m4.trans hv.symm)
            omega
          rw [m2] at p4; rw [m1] at p3
          -- ends: endp s = u, endp (1-s) = v
          have hcase : g.s = s ∨ g.s = 1 - s := by omega
          rcases hcase with e | e
          · rw [e, q5] at p4
            exact hq'v (by omega)
          · rw [e] at p3 p4
            rw [q5] at p3
            rw [show 1 - (1 - s) = s from by omega, q4] at p4
            -- g sends from v: v was found before q' = u; but u was found before v
            have hu'v : u' = v := by omega
            subst hu'v
            have : q' = u := by omega
            subst this
            have := (List.getElem?_inj (List.getElem?_eq_some_iff.1 m4).1 h1.nodup).1 (m4.trans q7.symm)
            by_cases hjq : jq' = 0
            · have hf0 : q' = fr := by rw [hjq] at m4; have := m4.symm.trans h1.hd; injection this
              have hbk : ∀ (L : List Hop) (w : Int), BackTo (fr : Int) w L → ∀ g ∈ L, g.v ≠ (fr : Int) := by
                intro L
                induction L with
                | nil => intro w _ g hg; simp at hg
                | cons a L ihL =>
                  intro w hb g hg
                  obtain ⟨b1, b2, b3⟩ := hb
                  rcases List.mem_cons.1 hg with rfl | hg
                  · rw [b1]; exact b2
                  · exact ihL _ b3 g hg
              exact hbk L _ l1 g hg (by rw [m2, hf0])
            · obtain ⟨i2, s2, u2, ju2, f2, r1, r2, r3, r4, r5, r6, r7, r8⟩ := h1.par jq' q' m4 hjq
              rw [m3] at r1
              have hii : i2 = i := by
                have : (g.i : Int) = (i2 : Int) := by injection r1
                omega
              subst hii
              rw [q2] at r2; cases r2
              have hs2 : s2 = s ∨ s2 = 1 - s := by omega
              rcases hs2 with e2 | e2
              · rw [e2, q5] at r5
                omega
              · rw [e2] at r4
                rw [q5] at r4
                have : u2 = u' := by omega
                subst this
                have := (List.getElem?_inj (List.getElem?_eq_some_iff.1 r7).1 h1.nodup).1 (r7.trans hv.symm)
                omega
        · rcases List.mem_cons.1 hg with rfl | hg
          · exact ⟨u, v, j, rfl, rfl, q1, hv, List.mem_of_getElem? q7, Nat.le_refl _⟩
          · obtain ⟨u', q', jq', m1, m2, m3, m4, m5, m6⟩ := l4 g hg
            exact ⟨u', q', jq', m1, m2, m3, m4, m5, by omega⟩
  have hm := (h1.mem v).2 (come_iff.1 hv)
  obtain ⟨j, hj, hjv⟩ := List.getElem_of_mem hm
  obtain ⟨L, l1, l2, l3, l4⟩ := key j v (by rw [List.getElem?_eq_getElem hj, hjv])
  refine ⟨L, l1, l2, l3, fun g hg => ?_⟩
  obtain ⟨u, q, jq, m1, m2, m3, m4, m5, _⟩ := l4 g hg
  exact ⟨u, q, m1, m2, m3, hQ q (List.mem_of_getElem? m4), hQ u m5⟩
end Go.Proofs.Ytcfpbemoocegfaa
