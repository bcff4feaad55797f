/- Webs: each channel is a step of both of its ends; who reaches by more reaches by less: plain. -/
import Derived.Test.YtjbblgefgjmdaaaReachP
namespace Go.Proofs.Ytjbblgefgjmdaaa
set_option linter.unusedVariables false
set_option linter.unusedSimpArgs false
set_option linter.unnecessarySimpa false
open Go Go.RowKit

def isStp (i : Nat) (to can : Int) (s : Stp) : Bool := decide (s.edge = i ∧ s.to = to ∧ s.can = can)
theorem cnt_stepsF (n to can : Int) : ∀ (l : List Edg) (b i : Nat), (stepsF n b l).countP (isStp (b + i) to can) = match l[i]? with | some e => (stpOf (b + i) e n).countP (isStp (b + i) to can) | none => 0
  | [], b, i => by simp [stepsF]
  | e :: l, b, i => by
    have miss : ∀ (c d : Nat) (f : Edg), c ≠ d → (stpOf c f n).countP (isStp d to can) = 0 := by
      intro c d f hcd
      rw [List.countP_eq_zero]
      intro s hs
      unfold stpOf at hs
      split at hs
      · simp at hs; subst hs; simp [isStp]; omega
      · split at hs
        · simp at hs; subst hs; simp [isStp]; omega
        · cases hs
    have none_ : ∀ (l : List Edg) (b d : Nat), d < b → (stepsF n b l).countP (isStp d to can) = 0 := by
      intro l
      induction l with
      | nil => intro b d _; simp [stepsF]
      | cons f l ih =>
        intro b d hd
        rw [stepsF, List.countP_append, miss b d f (by omega), ih (b + 1) d (by omega)]
    rw [stepsF, List.countP_append]
    cases i with
    | zero => rw [none_ l (b + 1) (b + 0) (by omega)]; simp
    | succ i =>
      rw [miss b (b + (i + 1)) e (by omega), show b + (i + 1) = b + 1 + i from by omega, cnt_stepsF n to can l (b + 1) i]
      simp
theorem cnt_a {x : Wb} (hc : chkP x = 0) {i : Nat} {e : Edg} (he : x.edges[i]? = some e) : (stepsP x e.a).countP (isStp i e.b e.c0) = 1 := by
  have h := cnt_stepsF e.a e.b e.c0 x.edges 0 i
  rw [Nat.zero_add, he] at h
  rw [show stepsP x e.a = stepsF e.a 0 x.edges from if_pos hc, h]
  simp [stpOf, isStp]
theorem cnt_b {x : Wb} (hc : chkP x = 0) {i : Nat} {e : Edg} (he : x.edges[i]? = some e) : (stepsP x e.b).countP (isStp i e.a e.c1) = 1 := by
  have h := cnt_stepsF e.b e.a e.c1 x.edges 0 i
  rw [Nat.zero_add, he] at h
  have hne : e.a ≠ e.b := by
    obtain ⟨_, _, hb⟩ := chk_zero hc
    exact fun h => hb e (List.mem_of_getElem? he) (.inr (.inr (.inr (.inr h))))
  rw [show stepsP x e.b = stepsF e.b 0 x.edges from if_pos hc, h]
  simp [stpOf, isStp, hne]
theorem cnt_yes {l : List Stp} {p : Stp → Bool} {j : Nat} {s : Stp} (hs : l[j]? = some s) (h : p s = true) : (l.take (j + 1)).countP p = (l.take j).countP p + 1 := by
  rw [List.take_add_one, hs, List.countP_append]; simp [h]
theorem cnt_no {l : List Stp} {p : Stp → Bool} {j : Nat} {s : Stp} (hs : l[j]? = some s) (h : p s = false) : (l.take (j + 1)).countP p = (l.take j).countP p := by
  rw [List.take_add_one, hs, List.countP_append]; simp [h]
theorem Rch.mono {x : Wb} {lo hi n b : Int} (hl : lo ≤ hi) (h : Rch x hi n b) : Rch x lo n b := by
  induction h with
  | refl => exact .refl
  | step _ hs hc ih => exact .step ih hs (by omega)
theorem filter_sub {α : Type} {p q : α → Bool} (h : ∀ a, p a = true → q a = true) : ∀ l : List α, (l.filter p).Sublist (l.filter q)
  | [] => .slnil
  | a :: l => by
    rw [List.filter_cons, List.filter_cons]
    by_cases hp : p a = true
    · rw [if_pos hp, if_pos (h a hp)]; exact (filter_sub h l).cons_cons a
    · rw [if_neg hp]
      split
      · exact (filter_sub h l).cons a
      · exact filter_sub h l
theorem reach_sub {x : Wb} {n lo hi : Int} (h : lo ≤ hi) : (reachP x n hi).Sublist (reachP x n lo) := by
  unfold reachP
  split
  · exact (filter_sub (fun i hi => by simp only [decide_eq_true_eq] at hi ⊢; exact hi.mono h) _).map _
  · exact .slnil
theorem reach_self {x : Wb} {n am : Int} (hn : inWeb x n) : n ∈ reachP x n am := (reach_mem hn).2 .refl
/-- One list is found in another one, greedily. -/
theorem greedy_yes {F M : List Int} {j k : Nat} {f : Int} (hf : F[j]? = some f) (hm : M[k]? = some f) (h : (F.drop j).Sublist (M.drop k)) : (F.drop (j + 1)).Sublist (M.drop (k + 1)) := by
  obtain ⟨h1, rfl⟩ := List.getElem?_eq_some_iff.1 hf
  obtain ⟨h2, e⟩ := List.getElem?_eq_some_iff.1 hm
  rw [List.drop_eq_getElem_cons h1, List.drop_eq_getElem_cons h2, e] at h
  exact (List.cons_sublist_cons).1 h
theorem sub_skip {f m : Int} (hne : ¬ f = m) {F M : List Int} (h : (f :: F).Sublist (m :: M)) : (f :: F).Sublist M := by
  generalize hG : f :: F = G at h
  cases h with
  | cons _ h => exact h
  | cons_cons _ h => injection hG with h1; exact absurd h1 hne
theorem greedy_no {F M : List Int} {j k : Nat} {f m : Int} (hf : F[j]? = some f) (hm : M[k]? = some m) (hne : ¬ f = m) (h : (F.drop j).Sublist (M.drop k)) : (F.drop j).Sublist (M.drop (k + 1)) := by
  obtain ⟨h1, rfl⟩ := List.getElem?_eq_some_iff.1 hf
  obtain ⟨h2, rfl⟩ := List.getElem?_eq_some_iff.1 hm
  rw [List.drop_eq_getElem_cons h1, List.drop_eq_getElem_cons h2] at h
  rw [List.drop_eq_getElem_cons h1]
  exact sub_skip hne h
theorem greedy_out {F M : List Int} {j k : Nat} (hf : F.length ≤ j) : (F.drop j).Sublist (M.drop k) := by
  rw [List.drop_of_length_le hf]; exact List.nil_sublist _
theorem greedy_end {F M : List Int} {j k : Nat} (hj : j ≤ F.length) (hk : M.length ≤ k) (h : (F.drop j).Sublist (M.drop k)) : j = F.length := by
  rw [List.drop_of_length_le hk] at h
  have := List.eq_nil_of_sublist_nil h
  rw [List.drop_eq_nil_iff] at this
  omega
theorem drop_mem {M : List Int} {k : Nat} {n m : Int} (hm : M[k]? = some m) (h : n ∈ M.drop k) (hne : ¬ m = n) : n ∈ M.drop (k + 1) := by
  obtain ⟨h1, rfl⟩ := List.getElem?_eq_some_iff.1 hm
  rw [List.drop_eq_getElem_cons h1] at h
  rcases List.mem_cons.1 h with h | h
  · exact absurd h.symm hne
  · exact h
end Go.Proofs.Ytjbblgefgjmdaaa
