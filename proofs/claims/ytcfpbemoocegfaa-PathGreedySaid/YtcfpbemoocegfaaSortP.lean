/- A list sorted by insertion, and what a list's index is. Plain. -/
namespace Go.Proofs.Ytcfpbemoocegfaa
set_option linter.unusedVariables false
set_option linter.unusedSimpArgs false
set_option linter.unnecessarySimpa false

/-- Where v stands in a list, from k on; -1: nowhere. -/
def idxF (v : Int) : List Int → Int → Int
  | [], _ => -1
  | x :: l, k => if v = x then k else idxF v l (k + 1)
theorem idxF_at {v : Int} : ∀ {X : List Int} {k : Nat} {b : Int}, (∀ i, i < k → X[i]? ≠ some v) → X[k]? = some v → idxF v X b = b + k
  | [], k, b, _, h => by simp at h
  | x :: X, 0, b, _, h => by simp at h; simp [idxF, h]
  | x :: X, k + 1, b, hn, h => by
    have h0 : v ≠ x := fun e => hn 0 (by omega) (by simp [e])
    unfold idxF
    rw [if_neg h0, idxF_at (X := X) (k := k) (b := b + 1) (fun i hi => by have := hn (i + 1) (by omega); simpa using this) (by simpa using h)]
    omega
theorem idxF_none {v : Int} : ∀ {X : List Int} {b : Int}, (∀ i : Nat, X[i]? ≠ some v) → idxF v X b = -1
  | [], b, _ => rfl
  | x :: X, b, hn => by
    have h0 : v ≠ x := fun e => hn 0 (by simp [e])
    unfold idxF
    rw [if_neg h0]
    exact idxF_none fun i => by have := hn (i + 1); simpa using this
theorem idxF_mem {v : Int} : ∀ {X : List Int} {b : Int}, 0 ≤ b → (0 ≤ idxF v X b ↔ v ∈ X)
  | [], b, _ => by simp [idxF]
  | x :: X, b, hb => by
    unfold idxF
    by_cases h : v = x
    · rw [if_pos h]; simp [h, hb]
    · rw [if_neg h, idxF_mem (X := X) (b := b + 1) (by omega)]; simp [h]

/-- The j-th goes down as long as it is less. -/
def sink : Nat → List Int → List Int
  | 0, X => X
  | j + 1, X => match X[j]?, X[j + 1]? with
    | some a, some b => if b < a then sink j ((X.set (j + 1) a).set j b) else X
    | _, _ => X
theorem sink_len : ∀ (j : Nat) (X : List Int), (sink j X).length = X.length
  | 0, X => rfl
  | j + 1, X => by
    unfold sink
    split
    · split
      · rw [sink_len j]; simp
      · rfl
    · rfl
theorem sink_yes {j : Nat} {X : List Int} {a b : Int} (ha : X[j]? = some a) (hb : X[j + 1]? = some b) (h : b < a) : sink (j + 1) X = sink j ((X.set (j + 1) a).set j b) := by
  rw [sink, ha, hb]; simp [h]
theorem sink_no {j : Nat} {X : List Int} {a b : Int} (ha : X[j]? = some a) (hb : X[j + 1]? = some b) (h : ¬ b < a) : sink (j + 1) X = X := by
  rw [sink, ha, hb]; simp [h]
/-- Sorted by insertion: from the i-th on, n of them. -/
def isortF : Nat → Nat → List Int → List Int
  | 0, _, X => X
  | n + 1, i, X => isortF n (i + 1) (sink i X)
def isort (X : List Int) : List Int := isortF (X.length - 1) 1 X
theorem isortF_len : ∀ (n i : Nat) (X : List Int), (isortF n i X).length = X.length
  | 0, _, _ => rfl
  | n + 1, i, X => by rw [isortF, isortF_len n, sink_len]
theorem isort_len (X : List Int) : (isort X).length = X.length := isortF_len _ _ _

theorem set_split {X : List Int} {j : Nat} {a b : Int} (ha : X[j]? = some a) (hb : X[j + 1]? = some b) : ∃ P R : List Int, X = P ++ a :: b :: R ∧ P.length = j ∧ (X.set (j + 1) a).set j b = P ++ b :: a :: R := by
  have h1 := List.getElem?_eq_some_iff.1 ha
  have h2 := List.getElem?_eq_some_iff.1 hb
  obtain ⟨l1, e1⟩ := h1
  obtain ⟨l2, e2⟩ := h2
  have hx : X = X.take j ++ a :: b :: X.drop (j + 2) := by
    conv => lhs; rw [← List.take_append_drop j X, List.drop_eq_getElem_cons l1, e1, List.drop_eq_getElem_cons l2, e2]
  have hl : (X.take j).length = j := by simp; omega
  refine ⟨X.take j, X.drop (j + 2), hx, hl, ?_⟩
  conv => lhs; rw [hx]
  rw [List.set_append_right _ _ (by omega), hl, Nat.add_sub_cancel_left]
  simp only [List.set_cons_succ, List.set_cons_zero]
  rw [List.set_append_right _ _ (by omega), hl, Nat.sub_self]
  rfl
theorem sink_perm : ∀ (j : Nat) (X : List Int), (sink j X).Perm X
  | 0, X => List.Perm.refl _
  | j + 1, X => by
    unfold sink
    split
    · rename_i a b ha hb
      split
      · refine (sink_perm j _).trans ?_
        obtain ⟨P, R, h1, _, h2⟩ := set_split ha hb
        rw [h2, h1]
        exact (List.Perm.swap a b R).append_left P
      · exact List.Perm.refl _
    · exact List.Perm.refl _
theorem isortF_perm : ∀ (n i : Nat) (X : List Int), (isortF n i X).Perm X
  | 0, _, X => List.Perm.refl _
  | n + 1, i, X => (isortF_perm n (i + 1) _).trans (sink_perm i X)
theorem isort_perm (X : List Int) : (isort X).Perm X := isortF_perm _ _ _
/-- Sorted, but for the j-th among the first i + 1. -/
theorem sink_sorted : ∀ (j : Nat) (P : List Int) (b : Int) (M R : List Int), P.length = j → (P ++ M).Pairwise (· ≤ ·) → (∀ m ∈ M, b ≤ m) → ∃ Q : List Int, sink j (P ++ b :: M ++ R) = Q ++ R ∧ Q.Pairwise (· ≤ ·) ∧ Q.length = (P ++ b :: M).length
  | 0, P, b, M, R, hP, hs, hb => by
    obtain rfl := List.eq_nil_of_length_eq_zero hP
    refine ⟨b :: M, rfl, ?_, rfl⟩
    rw [List.pairwise_cons]
    exact ⟨hb, by simpa using hs⟩
  | j + 1, P, b, M, R, hP, hs, hb => by
    obtain ⟨P', a, rfl⟩ : ∃ P' a, P = P' ++ [a] := by
      rcases List.eq_nil_or_concat P with h | ⟨P', a, h⟩
      · subst h; simp at hP
      · exact ⟨P', a, by rw [h, List.concat_eq_append]⟩
    have hl : P'.length = j := by simpa using hP
    have ha : (P' ++ [a] ++ b :: M ++ R)[j]? = some a := by
      rw [List.append_assoc, List.append_assoc, List.getElem?_append_right (by omega), hl, Nat.sub_self]; rfl
    have hb' : (P' ++ [a] ++ b :: M ++ R)[j + 1]? = some b := by
      rw [List.append_assoc, List.getElem?_append_right (by simp [hl])]; simp [hl]
    by_cases h : b < a
    · rw [sink_yes ha hb' h]
      have e : ((P' ++ [a] ++ b :: M ++ R).set (j + 1) a).set j b = P' ++ b :: (a :: M) ++ R := by
        simp only [List.append_assoc, List.singleton_append, List.cons_append]
        rw [List.set_append_right _ _ (by omega), hl, Nat.add_sub_cancel_left]
        simp only [List.set_cons_succ, List.set_cons_zero]
        rw [List.set_append_right _ _ (by omega), hl, Nat.sub_self]
        rfl
      rw [e]
      have hs' : (P' ++ (a :: M)).Pairwise (· ≤ ·) := by simpa using hs
      have hm : ∀ m ∈ a :: M, b ≤ m := by
        intro m hm
        rcases List.mem_cons.1 hm with rfl | hm
        · omega
        · exact hb m hm
      obtain ⟨Q, h1, h2, h3⟩ := sink_sorted j P' b (a :: M) R hl hs' hm
      exact ⟨Q, h1, h2, by rw [h3]; simp <;> omega⟩
    · rw [sink_no ha hb' h]
      refine ⟨P' ++ [a] ++ b :: M, by simp, ?_, rfl⟩
      rw [List.pairwise_append] at hs ⊢
      obtain ⟨s1, s2, s3⟩ := hs
      refine ⟨s1, ?_, ?_⟩
      · rw [List.pairwise_cons]; exact ⟨hb, s2⟩
      · intro x hx y hy
        rcases List.mem_cons.1 hy with rfl | hy
        · have : x ≤ a := by
            rw [List.pairwise_append] at s1
            rcases List.mem_append.1 hx with hx | hx
            · exact s1.2.2 x hx a (by simp)
            · simp at hx; omega
          omega
        · exact s3 x hx y hy
theorem isortF_sorted : ∀ (n i : Nat) (P R : List Int), P.length = i → P.Pairwise (· ≤ ·) → R.length = n → (isortF n i (P ++ R)).Pairwise (· ≤ ·)
  | 0, i, P, R, _, hs, hR => by
    obtain rfl := List.eq_nil_of_length_eq_zero hR
    simpa [isortF] using hs
  | n + 1, i, P, b :: R, hP, hs, hR => by
    rw [isortF]
    obtain ⟨Q, h1, h2, h3⟩ := sink_sorted i P b [] R hP (by simpa using hs) (by simp)
    have e : P ++ b :: R = P ++ b :: [] ++ R := by simp
    rw [e, h1]
    exact isortF_sorted n (i + 1) Q R (by rw [h3]; simp <;> omega) h2 (by simpa using hR)
  | n + 1, i, P, [], _, _, hR => by simp at hR
theorem isort_sorted (X : List Int) : (isort X).Pairwise (· ≤ ·) := by
  match X with
  | [] => simp [isort, isortF]
  | a :: R =>
    have := isortF_sorted R.length 1 [a] R rfl (by simp) rfl
    simpa [isort] using this
/-- Two sorted lists that hold the same, none twice, are the same. -/
theorem sorted_eq : ∀ {X Y : List Int}, X.Pairwise (· < ·) → Y.Pairwise (· < ·) → (∀ a, a ∈ X ↔ a ∈ Y) → X = Y
  | [], [], _, _, _ => rfl
  | [], y :: Y, _, _, h => absurd ((h y).2 (by simp)) (by simp)
  | x :: X, [], _, _, h => absurd ((h x).1 (by simp)) (by simp)
  | x :: X, y :: Y, hX, hY, h => by
    rw [List.pairwise_cons] at hX hY
    have e : x = y := by
      have h1 := (h x).1 (by simp)
      have h2 := (h y).2 (by simp)
      rcases List.mem_cons.1 h1 with h1 | h1
      · exact h1
      · rcases List.mem_cons.1 h2 with h2 | h2
        · exact h2.symm
        · have := hX.1 y h2; have := hY.1 x h1; omega
    subst e
    congr 1
    refine sorted_eq hX.2 hY.2 fun a => ?_
    have := h a
    constructor
    · intro ha
      rcases List.mem_cons.1 (this.1 (by simp [ha])) with e | e
      · subst e; have := hX.1 a ha; omega
      · exact e
    · intro ha
      rcases List.mem_cons.1 (this.2 (by simp [ha])) with e | e
      · subst e; have := hY.1 a ha; omega
      · exact e
theorem isort_strict {X : List Int} (h : X.Nodup) : (isort X).Pairwise (· < ·) := by
  have h1 := isort_sorted X
  have h2 : (isort X).Nodup := (isort_perm X).nodup_iff.2 h
  have : (isort X).Pairwise (fun a b => a ≤ b ∧ a ≠ b) := List.Pairwise.and h1 h2
  exact this.imp fun ⟨a, b⟩ => by omega
theorem isort_mem {X : List Int} {a : Int} : a ∈ isort X ↔ a ∈ X := (isort_perm X).mem_iff
end Go.Proofs.Ytcfpbemoocegfaa
