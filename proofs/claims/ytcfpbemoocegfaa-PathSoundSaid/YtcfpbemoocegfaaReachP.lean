/- To which nodes a way leads: plain. -/
import Derived.Test.YtcfpbemoocegfaaSortP
import Derived.Test.YtcfpbemoocegfaaWebP
namespace Go.Proofs.Ytcfpbemoocegfaa
set_option linter.unusedVariables false
set_option linter.unusedSimpArgs false
set_option linter.unnecessarySimpa false
open Go Go.RowKit

/-- b is come to from n, over steps that can send am. -/
inductive Rch (x : Wb) (am n : Int) : Int → Prop
  | refl : Rch x am n n
  | step {a : Int} {s : Stp} : Rch x am n a → s ∈ stepsP x a → am ≤ s.can → Rch x am n s.to
def inWeb (x : Wb) (n : Int) : Prop := chkP x = 0 ∧ 0 ≤ n ∧ n < x.spots.length
open Classical in
noncomputable def reachP (x : Wb) (n am : Int) : List Int := if inWeb x n then ((List.range x.spots.length).filter fun (i : Nat) => decide (Rch x am n ((i : Nat) : Int))).map (fun (i : Nat) => (i : Int)) else []
theorem step_to {x : Wb} {a : Int} {s : Stp} (h : s ∈ stepsP x a) : 0 ≤ s.to ∧ s.to < x.spots.length := by
  unfold stepsP at h
  split at h
  · rename_i hc
    obtain ⟨_, _, hb⟩ := chk_zero hc
    obtain ⟨k, hk, _, h2⟩ := stepsF_mem h
    have h3 := hb _ (List.getElem_mem hk)
    unfold badE at h3
    obtain ⟨hs, rfl⟩ := stpOf_side h2
    unfold Edg.endp
    rcases hs with hs | hs <;> simp [hs] <;> omega
  · cases h
theorem Rch.range {x : Wb} {am n b : Int} (h : Rch x am n b) (hn : 0 ≤ n ∧ n < x.spots.length) : 0 ≤ b ∧ b < x.spots.length := by
  cases h with
  | refl => exact hn
  | step _ hs _ => exact step_to hs
theorem strict_len : ∀ (X : List Int) (b n : Int), X.Pairwise (· < ·) → (∀ a ∈ X, b ≤ a ∧ a < n) → (X.length : Int) ≤ max 0 (n - b)
  | [], b, n, _, _ => by simp; omega
  | a :: X, b, n, hp, h => by
    rw [List.pairwise_cons] at hp
    have h0 := h a (by simp)
    have := strict_len X (a + 1) n hp.2 fun c hc => ⟨by have := hp.1 c hc; omega, (h c (by simp [hc])).2⟩
    simp only [List.length_cons]; omega
theorem nodup_len {X : List Int} {n : Nat} (hd : X.Nodup) (h : ∀ a ∈ X, 0 ≤ a ∧ a < n) : X.length ≤ n := by
  have := strict_len (isort X) 0 n (isort_strict hd) fun a ha => h a (isort_mem.1 ha)
  rw [isort_len] at this; omega
theorem range_strict : ∀ (n : Nat) (p : Nat → Bool), (((List.range n).filter p).map (fun (i : Nat) => (i : Int))).Pairwise (· < ·) := by
  intro n p
  rw [List.pairwise_map]
  exact (List.Pairwise.filter p List.pairwise_lt_range).imp fun h => by omega
theorem reach_mem {x : Wb} {n am a : Int} (hn : inWeb x n) : a ∈ reachP x n am ↔ Rch x am n a := by
  unfold reachP
  rw [if_pos hn]
  simp only [List.mem_map, List.mem_filter, List.mem_range, decide_eq_true_eq]
  constructor
  · rintro ⟨i, ⟨_, h⟩, rfl⟩; exact h
  · intro h
    have := h.range hn.2
    exact ⟨a.toNat, ⟨by omega, by rw [Int.toNat_of_nonneg this.1]; exact h⟩, Int.toNat_of_nonneg this.1⟩
theorem reach_strict (x : Wb) (n am : Int) : (reachP x n am).Pairwise (· < ·) := by
  unfold reachP
  split
  · exact range_strict _ _
  · exact List.Pairwise.nil
theorem reach_len (x : Wb) (n am : Int) : (reachP x n am).length ≤ 8 := by
  unfold reachP
  split
  · rename_i h
    have := (chk_zero h.1).1
    have h2 := List.length_filter_le (fun i => @decide (Rch x am n ((i : Nat) : Int)) (Classical.propDecidable _)) (List.range x.spots.length)
    simp only [List.length_map, List.length_range] at h2 ⊢
    omega
  · simp
theorem reach_none {x : Wb} {n am : Int} (h : ¬ inWeb x n) : reachP x n am = [] := if_neg h

/-- The program's search: i nodes are looked at, and j steps of the next one. -/
structure BInv (x : Wb) (am n : Int) (X : List Int) (i : Nat) : Prop where
  nd : X.Nodup
  st : n ∈ X
  r : ∀ b ∈ X, Rch x am n b
  c : ∀ k, k < i → ∀ a, X[k]? = some a → ∀ s ∈ stepsP x a, am ≤ s.can → s.to ∈ X
theorem BInv.start (x : Wb) (am n : Int) : BInv x am n [n] 0 := ⟨by simp, by simp, fun b hb => by simp at hb; subst hb; exact .refl, fun k hk => absurd hk (Nat.not_lt_zero k)⟩
theorem BInv.len {x : Wb} {am n : Int} {X : List Int} {i : Nat} (h : BInv x am n X i) (hn : inWeb x n) : X.length ≤ 8 := by
  have := nodup_len h.nd fun a ha => (h.r a ha).range hn.2
  have := (chk_zero hn.1).1
  omega
theorem BInv.add {x : Wb} {am n : Int} {X : List Int} {i j : Nat} {a : Int} {s : Stp} (h : BInv x am n X i) (hi : i < X.length) (ha : X[i]? = some a) (hs : (stepsP x a)[j]? = some s) (hc : am ≤ s.can) (hx : s.to ∉ X) (hj : ∀ t ∈ (stepsP x a).take j, am ≤ t.can → t.to ∈ X) :
    BInv x am n (X ++ [s.to]) i ∧ (X ++ [s.to])[i]? = some a ∧ ∀ t ∈ (stepsP x a).take (j + 1), am ≤ t.can → t.to ∈ X ++ [s.to] := by
  refine ⟨⟨?_, by simp [h.st], ?_, ?_⟩, ?_, ?_⟩
  · rw [List.nodup_append]
    exact ⟨h.nd, by simp, fun a ha b hb e => hx (by simp at hb; rw [← hb, ← e]; exact ha)⟩
  · intro b hb
    rcases List.mem_append.1 hb with hb | hb
    · exact h.r b hb
    · simp at hb; subst hb
      exact .step (h.r a (List.mem_of_getElem? ha)) (List.mem_of_getElem? hs) hc
  · intro k hk b hb t ht htc
    rw [List.getElem?_append_left (by omega)] at hb
    exact List.mem_append_left _ (h.c k hk b hb t ht htc)
  · rw [List.getElem?_append_left hi]; exact ha
  · intro t ht htc
    rw [List.take_add_one, hs] at ht
    rcases List.mem_append.1 ht with ht | ht
    · exact List.mem_append_left _ (hj t ht htc)
    · simp at ht; subst ht; simp
theorem BInv.skip {x : Wb} {X : List Int} {j : Nat} {a am : Int} {s : Stp} (hs : (stepsP x a)[j]? = some s) (hx : ¬ am ≤ s.can ∨ s.to ∈ X) (hj : ∀ t ∈ (stepsP x a).take j, am ≤ t.can → t.to ∈ X) : ∀ t ∈ (stepsP x a).take (j + 1), am ≤ t.can → t.to ∈ X := by
  intro t ht htc
  rw [List.take_add_one, hs] at ht
  rcases List.mem_append.1 ht with ht | ht
  · exact hj t ht htc
  · simp at ht; subst ht
    rcases hx with hx | hx
    · exact absurd htc hx
    · exact hx
theorem BInv.next {x : Wb} {am n : Int} {X : List Int} {i : Nat} {a : Int} (h : BInv x am n X i) (ha : X[i]? = some a) (hj : ∀ t ∈ (stepsP x a).take (stepsP x a).length, am ≤ t.can → t.to ∈ X) : BInv x am n X (i + 1) := by
  refine ⟨h.nd, h.st, h.r, fun k hk b hb t ht htc => ?_⟩
  rcases (show k < i ∨ k = i by omega) with h1 | rfl
  · exact h.c k h1 b hb t ht htc
  · rw [ha] at hb; cases hb
    exact hj t (by rw [List.take_length]; exact ht) htc
theorem BInv.done {x : Wb} {am n : Int} {X : List Int} (h : BInv x am n X X.length) (hn : inWeb x n) : isort X = reachP x n am := by
  refine sorted_eq (isort_strict h.nd) (reach_strict x n am) fun a => ?_
  rw [isort_mem, reach_mem hn]
  refine ⟨h.r a, fun hr => ?_⟩
  induction hr with
  | refl => exact h.st
  | step _ hs hc ih =>
    obtain ⟨k, hk, e⟩ := List.getElem_of_mem ih
    exact h.c k hk _ (by rw [List.getElem?_eq_getElem hk, e]) _ hs hc

/-- The document's: round by round, marks of nodes. -/
structure MInv (x : Wb) (am n : Int) (B : List Bool) : Prop where
  len : B.length = x.spots.length
  st : B[n.toNat]? = some true
  r : ∀ b : Nat, B[b]? = some true → Rch x am n b
def MClosed (x : Wb) (am : Int) (B : List Bool) : Prop := ∀ a : Nat, B[a]? = some true → ∀ s ∈ stepsP x a, am ≤ s.can → B[s.to.toNat]? = some true
def LeM (A B : List Bool) : Prop := ∀ i : Nat, A[i]? = some true → B[i]? = some true
theorem LeM.count : ∀ {A B : List Bool}, A.length = B.length → LeM A B → A = B ∨ A.count true < B.count true
  | [], [], _, _ => .inl rfl
  | [], _ :: _, h, _ => by simp at h
  | _ :: _, [], h, _ => by simp at h
  | a :: A, b :: B, hl, h => by
    have hl' : A.length = B.length := by simpa using hl
    have ht : LeM A B := fun i hi => by have := h (i + 1) (by simpa using hi); simpa using this
    have h0 := h 0
    simp only [List.getElem?_cons_zero, Option.some.injEq] at h0
    rcases LeM.count hl' ht with rfl | hlt
    · cases a <;> cases b <;> simp at h0 ⊢
    · right
      cases a <;> cases b <;> simp at h0 ⊢ <;> omega
theorem MInv.start {x : Wb} {am n : Int} (hn : inWeb x n) : MInv x am n ((List.replicate x.spots.length false).set n.toNat true) := by
  obtain ⟨_, h0, h1⟩ := hn
  refine ⟨by simp, by rw [List.getElem?_set_self (by simp; omega)], fun b hb => ?_⟩
  by_cases h : n.toNat = b
  · subst h; rw [Int.toNat_of_nonneg h0]; exact .refl
  · rw [List.getElem?_set_ne h] at hb
    simp [List.getElem?_replicate] at hb
theorem MInv.mark {x : Wb} {am n : Int} {B : List Bool} {m : Nat} {s : Stp} (h : MInv x am n B) (hm : B[m]? = some true) (hs : s ∈ stepsP x m) (hc : am ≤ s.can) : MInv x am n (B.set s.to.toNat true) ∧ LeM B (B.set s.to.toNat true) ∧ (B.set s.to.toNat true)[s.to.toNat]? = some true := by
  have ht := step_to hs
  have hl : s.to.toNat < B.length := by rw [h.len]; omega
  have le : LeM B (B.set s.to.toNat true) := by
    intro i hi
    by_cases e : s.to.toNat = i
    · subst e; rw [List.getElem?_set_self hl]
    · rw [List.getElem?_set_ne e]; exact hi
  refine ⟨⟨by simp [h.len], le _ h.st, fun b hb => ?_⟩, le, by rw [List.getElem?_set_self hl]⟩
  by_cases e : s.to.toNat = b
  · subst e; rw [Int.toNat_of_nonneg ht.1]
    exact .step (h.r m hm) hs hc
  · rw [List.getElem?_set_ne e] at hb; exact h.r b hb
/-- In a round that began with B0: nodes before m are looked at. -/
structure NInv (x : Wb) (am n : Int) (B0 B : List Bool) (m : Nat) : Prop where
  i : MInv x am n B
  le : LeM B0 B
  c : ∀ k : Nat, k < m → B0[k]? = some true → ∀ s ∈ stepsP x k, am ≤ s.can → B[s.to.toNat]? = some true
theorem NInv.start {x : Wb} {am n : Int} {B : List Bool} (h : MInv x am n B) : NInv x am n B B 0 := ⟨h, fun _ h => h, fun k hk => absurd hk (Nat.not_lt_zero k)⟩
theorem NInv.mark {x : Wb} {am n : Int} {B0 B : List Bool} {m j : Nat} {s : Stp} (h : NInv x am n B0 B m) (hm : B[m]? = some true) (hs : (stepsP x m)[j]? = some s) (hc : am ≤ s.can) (hj : ∀ t ∈ (stepsP x m).take j, am ≤ t.can → B[t.to.toNat]? = some true) :
    NInv x am n B0 (B.set s.to.toNat true) m ∧ (B.set s.to.toNat true)[m]? = some true ∧ ∀ t ∈ (stepsP x m).take (j + 1), am ≤ t.can → (B.set s.to.toNat true)[t.to.toNat]? = some true := by
  obtain ⟨h1, h2, h3⟩ := h.i.mark hm (List.mem_of_getElem? hs) hc
  refine ⟨⟨h1, fun i hi => h2 i (h.le i hi), fun k hk hb t ht htc => h2 _ (h.c k hk hb t ht htc)⟩, h2 _ hm, fun t ht htc => ?_⟩
  rw [List.take_add_one, hs] at ht
  rcases List.mem_append.1 ht with ht | ht
  · exact h2 _ (hj t ht htc)
  · simp at ht; subst ht; exact h3
theorem NInv.pass {x : Wb} {am : Int} {B : List Bool} {m j : Nat} {s : Stp} (hs : (stepsP x m)[j]? = some s) (hc : ¬ am ≤ s.can) (hj : ∀ t ∈ (stepsP x m).take j, am ≤ t.can → B[t.to.toNat]? = some true) : ∀ t ∈ (stepsP x m).take (j + 1), am ≤ t.can → B[t.to.toNat]? = some true := by
  intro t ht htc
  rw [List.take_add_one, hs] at ht
  rcases List.mem_append.1 ht with ht | ht
  · exact hj t ht htc
  · simp at ht; subst ht; exact absurd htc hc
theorem NInv.next {x : Wb} {am n : Int} {B0 B : List Bool} {m : Nat} (h : NInv x am n B0 B m) (hj : B[m]? = some true → ∀ t ∈ stepsP x m, am ≤ t.can → B[t.to.toNat]? = some true) : NInv x am n B0 B (m + 1) := by
  refine ⟨h.i, h.le, fun k hk hb t ht htc => ?_⟩
  rcases (show k < m ∨ k = m by omega) with h1 | rfl
  · exact h.c k h1 hb t ht htc
  · exact hj (h.le _ hb) t ht htc
theorem MClosed.all {x : Wb} {am n : Int} {B : List Bool} (h : MInv x am n B) (hn : inWeb x n) (hc : MClosed x am B) {b : Int} (hb : Rch x am n b) : B[b.toNat]? = some true := by
  induction hb with
  | refl => exact h.st
  | step ha hs hcan ih =>
    have := ha.range hn.2
    exact hc _ ih _ (by rw [Int.toNat_of_nonneg this.1]; exact hs) hcan
theorem NInv.round {x : Wb} {am n : Int} {B0 B : List Bool} {r : Nat} (h : NInv x am n B0 B x.spots.length) (h0 : MInv x am n B0) (hn : inWeb x n) (hr : MClosed x am B0 ∨ r + 1 ≤ B0.count true) : MClosed x am B ∨ r + 1 + 1 ≤ B.count true := by
  rcases LeM.count (by rw [h0.len, h.i.len]) h.le with rfl | hlt
  · left
    intro a ha s hs hc
    exact h.c a (by have := (List.getElem?_eq_some_iff.1 ha).1; rw [h0.len] at this; exact this) ha s hs hc
  · rcases hr with hr | hr
    · have hle : LeM B B0 := by
        intro i hi
        have := MClosed.all h0 hn hr (h.i.r i hi)
        simpa using this
      rcases LeM.count (by rw [h0.len, h.i.len]) hle with e | e
      · rw [e] at hlt; omega
      · omega
    · right; omega
theorem MInv.done {x : Wb} {am n : Int} {B : List Bool} (h : MInv x am n B) (hn : inWeb x n) (hr : MClosed x am B ∨ x.spots.length + 1 ≤ B.count true) : ((List.range x.spots.length).filter fun i => B[i]? == some true).map (fun (i : Nat) => (i : Int)) = reachP x n am := by
  have hc : MClosed x am B := by
    rcases hr with hr | hr
    · exact hr
    · have := List.count_le_length (a := true) (l := B)
      rw [h.len] at this; omega
  refine sorted_eq (range_strict _ _) (reach_strict x n am) fun a => ?_
  rw [reach_mem hn]
  simp only [List.mem_map, List.mem_filter, List.mem_range, beq_iff_eq]
  constructor
  · rintro ⟨i, ⟨_, hi⟩, rfl⟩
    exact h.r i hi
  · intro ha
    have := ha.range hn.2
    exact ⟨a.toNat, ⟨by omega, MClosed.all h hn hc ha⟩, Int.toNat_of_nonneg this.1⟩
theorem bool_at {B : List Bool} {m : Nat} (h : m < B.length) : B[m]? = some false ∨ B[m]? = some true := by
  rw [List.getElem?_eq_getElem h]
  cases B[m] <;> simp
/-- The marked ones of the first k. -/
def marked (B : List Bool) (k : Nat) : List Int := ((List.range k).filter fun i => B[i]? == some true).map (fun (i : Nat) => (i : Int))
theorem marked_yes {B : List Bool} {k : Nat} (h : B[k]? = some true) : marked B (k + 1) = marked B k ++ [(k : Int)] := by
  unfold marked
  rw [List.range_succ, List.filter_append]
  simp [h]
theorem marked_no {B : List Bool} {k : Nat} (h : B[k]? = some false) : marked B (k + 1) = marked B k := by
  unfold marked
  rw [List.range_succ, List.filter_append]
  simp [h]
theorem marked_len (B : List Bool) (k : Nat) : (marked B k).length ≤ k := by
  unfold marked
  have := List.length_filter_le (fun i => B[i]? == some true) (List.range k)
  simp only [List.length_map, List.length_range] at this ⊢
  exact this
end Go.Proofs.Ytcfpbemoocegfaa
