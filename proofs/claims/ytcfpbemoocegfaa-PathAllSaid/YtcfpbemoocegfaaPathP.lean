/- Routes: plain. -/
import Derived.Test.YtcfpbemoocegfaaFeesP
import Derived.Test.YtcfpbemoocegfaaReachP
namespace Go.Proofs.Ytcfpbemoocegfaa
set_option linter.unusedVariables false
set_option linter.unusedSimpArgs false
set_option linter.unnecessarySimpa false
open Go Go.RowKit

structure Rt where
  nodes : List Int
  edges : List Int
  amts : List Int
def noRt : Rt := ⟨[], [], []⟩
def dftEdg : Edg := ⟨0, 0, 0, 0, 0, 0, 0, 0⟩
def edgeAt (x : Wb) (e : Int) : Edg := x.edges.getD e.toNat dftEdg
def feeAt (x : Wb) (n e : Int) : Int × Int := ((edgeAt x e).base (sideP (edgeAt x e) n), (edgeAt x e).rate (sideP (edgeAt x e) n))
def canAt (x : Wb) (n e : Int) : Int := (edgeAt x e).can (sideP (edgeAt x e) n)
/-- The fees along a way, from its second channel on. -/
def feesP (x : Wb) (N E : List Int) : List (Int × Int) := ((N.zip E).drop 1).map fun p => feeAt x p.1 p.2
/-- Can each amount go? -/
def canB (x : Wb) : List Int → List Int → List Int → Bool
  | n :: N, e :: E, a :: A => decide (a ≤ canAt x n e) && canB x N E A
  | _, _, _ => true
def fillP (x : Wb) (N E : List Int) (am : Int) : Option Rt :=
  if (backP am (feesP x N E)).2 = 0 then (if canB x N E (backP am (feesP x N E)).1 = true then some ⟨N, E, (backP am (feesP x N E)).1⟩ else none) else none
/-- A way over channels that are there. -/
structure WayOk (x : Wb) (N E : List Int) : Prop where
  len : N.length = E.length + 1
  at_ : ∀ (i : Nat) (n e : Int), N[i]? = some n → E[i]? = some e → ∃ j : Nat, e = j ∧ ∃ ed, x.edges[j]? = some ed ∧ 0 ≤ sideP ed n ∧ ∀ m, N[i + 1]? = some m → ed.endp (1 - sideP ed n) = m
theorem edge_of {x : Wb} {j : Nat} {ed : Edg} (h : x.edges[j]? = some ed) : edgeAt x j = ed := by
  unfold edgeAt; rw [Int.toNat_natCast, List.getD_eq_getElem?_getD, h]; rfl
theorem canB_at {x : Wb} : ∀ {N E A : List Int}, canB x N E A = true → ∀ (i : Nat) (n e a : Int), N[i]? = some n → E[i]? = some e → A[i]? = some a → a ≤ canAt x n e
  | n :: N, e :: E, a :: A, h, i, n', e', a', h1, h2, h3 => by
    unfold canB at h
    rw [Bool.and_eq_true, decide_eq_true_eq] at h
    cases i with
    | zero => simp at h1 h2 h3; subst h1; subst h2; subst h3; exact h.1
    | succ i => exact canB_at h.2 i n' e' a' (by simpa using h1) (by simpa using h2) (by simpa using h3)
  | [], _, _, _, i, _, _, _, h1, _, _ => by simp at h1
  | _ :: _, [], _, _, i, _, _, _, _, h2, _ => by simp at h2
  | _ :: _, _ :: _, [], _, i, _, _, _, _, _, h3 => by simp at h3
theorem canB_of {x : Wb} : ∀ {N E A : List Int}, (∀ (i : Nat) (n e a : Int), N[i]? = some n → E[i]? = some e → A[i]? = some a → a ≤ canAt x n e) → canB x N E A = true
  | n :: N, e :: E, a :: A, h => by
    unfold canB
    rw [Bool.and_eq_true, decide_eq_true_eq]
    exact ⟨h 0 n e a rfl rfl rfl, canB_of fun i n' e' a' h1 h2 h3 => h (i + 1) n' e' a' (by simpa using h1) (by simpa using h2) (by simpa using h3)⟩
  | [], _, _, _ => by simp [canB]
  | _ :: _, [], _, _ => by simp [canB]
  | _ :: _, _ :: _, [], _ => by simp [canB]
theorem canB_no {x : Wb} {N E A : List Int} {i : Nat} {n e a : Int} (h1 : N[i]? = some n) (h2 : E[i]? = some e) (h3 : A[i]? = some a) (h : canAt x n e < a) : canB x N E A = false := by
  cases hb : canB x N E A with
  | false => rfl
  | true => have := canB_at hb i n e a h1 h2 h3; omega
theorem feesP_len {x : Wb} {N E : List Int} (h : N.length = E.length + 1) : (feesP x N E).length = E.length - 1 := by
  unfold feesP
  simp only [List.length_map, List.length_drop, List.length_zip]; omega
theorem feesP_at {x : Wb} {N E : List Int} {i : Nat} {n e : Int} (h1 : N[i + 1]? = some n) (h2 : E[i + 1]? = some e) : (feesP x N E)[i]? = some (feeAt x n e) := by
  unfold feesP
  rw [List.getElem?_map, List.getElem?_drop, show 1 + i = i + 1 from by omega]
  have : (N.zip E)[i + 1]? = some (n, e) := by
    rw [List.getElem?_zip_eq_some]; exact ⟨h1, h2⟩
  rw [this]; rfl
theorem feesP_u {x : Wb} (ok : x.Ok) (N E : List Int) : P64 (feesP x N E) := by
  intro p hp
  unfold feesP at hp
  rw [List.mem_map] at hp
  obtain ⟨q, _, rfl⟩ := hp
  have hd : (edgeAt x q.2).Ok := by
    unfold edgeAt
    rw [List.getD_eq_getElem?_getD]
    cases h : x.edges[q.2.toNat]? with
    | none => exact ⟨⟨by decide, by decide⟩, ⟨by decide, by decide⟩, ⟨by decide, by decide⟩, ⟨by decide, by decide⟩, ⟨by decide, by decide⟩, ⟨by decide, by decide⟩, ⟨by decide, by decide⟩, ⟨by decide, by decide⟩⟩
    | some ed => exact ok.e ed (List.mem_of_getElem? h)
  unfold feeAt Edg.base Edg.rate
  constructor
  · dsimp only; split
    · exact hd.b0
    · exact hd.b1
  · dsimp only; split
    · exact hd.r0
    · exact hd.r1
theorem fill_some {x : Wb} {N E : List Int} {am : Int} (h0 : (backP am (feesP x N E)).2 = 0) (h1 : canB x N E (backP am (feesP x N E)).1 = true) : fillP x N E am = some ⟨N, E, (backP am (feesP x N E)).1⟩ := by
  unfold fillP; rw [if_pos h0, if_pos h1]
theorem fill_err {x : Wb} {N E : List Int} {am : Int} (h0 : (backP am (feesP x N E)).2 ≠ 0) : fillP x N E am = none := by
  unfold fillP; rw [if_neg h0]
theorem fill_no {x : Wb} {N E : List Int} {am : Int} (h1 : canB x N E (backP am (feesP x N E)).1 = false) : fillP x N E am = none := by
  unfold fillP
  split
  · rw [if_neg (by rw [h1]; simp)]
  · rfl

/-- The fees of the first i channels. -/
def feesT (x : Wb) (N E : List Int) (i : Nat) : List (Int × Int) := (((N.zip E).take i).drop 1).map fun p => feeAt x p.1 p.2
theorem feesT_zero (x : Wb) (N E : List Int) : feesT x N E 0 = [] := rfl
theorem feesT_one (x : Wb) (N E : List Int) : feesT x N E 1 = [] := by
  unfold feesT
  rw [List.drop_of_length_le (by rw [List.length_take]; omega)]; rfl
theorem feesT_add {x : Wb} {N E : List Int} {i : Nat} {n e : Int} {f : Int × Int} (hi : 0 < i) (h1 : N[i]? = some n) (h2 : E[i]? = some e) (hf : feeAt x n e = f) : feesT x N E (i + 1) = feesT x N E i ++ [f] := by
  unfold feesT
  have hz : (N.zip E)[i]? = some (n, e) := by rw [List.getElem?_zip_eq_some]; exact ⟨h1, h2⟩
  have hl := (List.getElem?_eq_some_iff.1 hz).1
  rw [List.take_add_one, hz, Option.toList_some, List.drop_append, List.map_append]
  have h0 : 1 - ((N.zip E).take i).length = 0 := by rw [List.length_take]; omega
  rw [h0, List.drop_zero, List.map_cons, List.map_nil, hf]
theorem feesT_all {x : Wb} {N E : List Int} (h : N.length = E.length + 1) : feesT x N E E.length = feesP x N E := by
  unfold feesT feesP
  rw [List.take_of_length_le (by rw [List.length_zip]; omega)]
theorem feesT_len {x : Wb} {N E : List Int} {i : Nat} (h : N.length = E.length + 1) (hi : i ≤ E.length) : (feesT x N E i).length = i - 1 := by
  unfold feesT
  simp only [List.length_map, List.length_drop, List.length_take, List.length_zip]; omega
theorem fee_at0 {x : Wb} {j : Nat} {ed : Edg} {n : Int} (h : x.edges[j]? = some ed) (hs : sideP ed n = 0) : feeAt x n j = (ed.b0, ed.r0) := by
  unfold feeAt; rw [edge_of h, hs]; rfl
theorem fee_at1 {x : Wb} {j : Nat} {ed : Edg} {n : Int} (h : x.edges[j]? = some ed) (hs : sideP ed n = 1) : feeAt x n j = (ed.b1, ed.r1) := by
  unfold feeAt; rw [edge_of h, hs]; rfl
theorem can_at0 {x : Wb} {j : Nat} {ed : Edg} {n : Int} (h : x.edges[j]? = some ed) (hs : sideP ed n = 0) : canAt x n j = ed.c0 := by
  unfold canAt; rw [edge_of h, hs]; rfl
theorem can_at1 {x : Wb} {j : Nat} {ed : Edg} {n : Int} (h : x.edges[j]? = some ed) (hs : sideP ed n = 1) : canAt x n j = ed.c1 := by
  unfold canAt; rw [edge_of h, hs]; rfl
/-- The first i amounts can go. -/
def CanTo (x : Wb) (N E A : List Int) (i : Nat) : Prop := ∀ (q : Nat), q < i → ∀ (n e a : Int), N[q]? = some n → E[q]? = some e → A[q]? = some a → a ≤ canAt x n e
theorem CanTo.zero (x : Wb) (N E A : List Int) : CanTo x N E A 0 := fun q hq => absurd hq (Nat.not_lt_zero q)
theorem CanTo.next {x : Wb} {N E A : List Int} {i : Nat} {n e a : Int} (h : CanTo x N E A i) (h1 : N[i]? = some n) (h2 : E[i]? = some e) (h3 : A[i]? = some a) (ha : a ≤ canAt x n e) : CanTo x N E A (i + 1) := fun q hq n9 e9 a9 g1 g2 g3 => by
  by_cases hi : q = i
  · subst hi
    rw [h1] at g1; rw [h2] at g2; rw [h3] at g3
    cases g1; cases g2; cases g3; exact ha
  · exact h q (by omega) n9 e9 a9 g1 g2 g3
theorem CanTo.all {x : Wb} {N E A : List Int} {i : Nat} (h : CanTo x N E A i) (hi : E.length ≤ i) : canB x N E A = true := canB_of fun q n e a g1 g2 g3 => h q (by have := (List.getElem?_eq_some_iff.1 g2).1; omega) n e a g1 g2 g3

/-- All routes that begin with a way, behind those found so far. -/
def waysP (x : Wb) (to am : Int) : Nat → List Int → List Int → List Rt → List Rt
  | 0, _, _, R => R
  | f + 1, N, E, R =>
    if 32 ≤ R.length then R else
    if N.getLastD 0 = to then (match fillP x N E am with | some r => R ++ [r] | none => R) else
    if E.length = 7 then R else
    (stepsP x (N.getLastD 0)).foldl (fun R s => if s.to ∈ N then R else waysP x to am f (N ++ [s.to]) (E ++ [s.edge]) R) R
/-- The first j steps. -/
def waysJ (x : Wb) (to am : Int) (f : Nat) (N E : List Int) (R : List Rt) (j : Nat) : List Rt := ((stepsP x (N.getLastD 0)).take j).foldl (fun R s => if s.to ∈ N then R else waysP x to am f (N ++ [s.to]) (E ++ [s.edge]) R) R
theorem ways_full {x : Wb} {to am : Int} {f : Nat} {N E : List Int} {R : List Rt} (h : 32 ≤ R.length) : waysP x to am f N E R = R := by
  cases f with
  | zero => rfl
  | succ f => unfold waysP; rw [if_pos h]
theorem fold_full {x : Wb} {to am : Int} {f : Nat} {N E : List Int} : ∀ (L : List Stp) (R : List Rt), 32 ≤ R.length → L.foldl (fun R s => if s.to ∈ N then R else waysP x to am f (N ++ [s.to]) (E ++ [s.edge]) R) R = R
  | [], R, _ => rfl
  | s :: L, R, h => by
    rw [List.foldl_cons]
    have : (if s.to ∈ N then R else waysP x to am f (N ++ [s.to]) (E ++ [s.edge]) R) = R := by
      split
      · rfl
      · exact ways_full h
    rw [this]; exact fold_full L R h
theorem ways_pre (x : Wb) (to am : Int) : ∀ (f : Nat) (N E : List Int) (R : List Rt), R.length ≤ (waysP x to am f N E R).length ∧ (R.length ≤ 32 → (waysP x to am f N E R).length ≤ 32)
  | 0, N, E, R => ⟨Nat.le_refl _, fun h => h⟩
  | f + 1, N, E, R => by
    have hf : ∀ (L : List Stp) (R : List Rt), R.length ≤ (L.foldl (fun R s => if s.to ∈ N then R else waysP x to am f (N ++ [s.to]) (E ++ [s.edge]) R) R).length ∧ (R.length ≤ 32 → (L.foldl (fun R s => if s.to ∈ N then R else waysP x to am f (N ++ [s.to]) (E ++ [s.edge]) R) R).length ≤ 32) := by
      intro L
      induction L with
      | nil => intro R; exact ⟨Nat.le_refl _, fun h => h⟩
      | cons s L ih =>
        intro R
        rw [List.foldl_cons]
        obtain ⟨a, b⟩ := ih (if s.to ∈ N then R else waysP x to am f (N ++ [s.to]) (E ++ [s.edge]) R)
        have h1 : R.length ≤ (if s.to ∈ N then R else waysP x to am f (N ++ [s.to]) (E ++ [s.edge]) R).length ∧ (R.length ≤ 32 → (if s.to ∈ N then R else waysP x to am f (N ++ [s.to]) (E ++ [s.edge]) R).length ≤ 32) := by
          split
          · exact ⟨Nat.le_refl _, fun h => h⟩
          · exact ways_pre x to am f _ _ R
        exact ⟨Nat.le_trans h1.1 a, fun h => b (h1.2 h)⟩
    unfold waysP
    split
    · exact ⟨Nat.le_refl _, fun h => h⟩
    · rename_i hlt
      split
      · split
        · simp; omega
        · exact ⟨Nat.le_refl _, fun h => h⟩
      · split
        · exact ⟨Nat.le_refl _, fun h => h⟩
        · exact hf _ R
theorem waysJ_zero (x : Wb) (to am : Int) (f : Nat) (N E : List Int) (R : List Rt) : waysJ x to am f N E R 0 = R := by simp [waysJ]
theorem waysJ_in {x : Wb} {to am : Int} {f : Nat} {N E : List Int} {R : List Rt} {j : Nat} {s : Stp} (hs : (stepsP x (N.getLastD 0))[j]? = some s) (h : s.to ∈ N) : waysJ x to am f N E R (j + 1) = waysJ x to am f N E R j := by
  unfold waysJ
  rw [List.take_add_one, hs]
  simp [h]
theorem waysJ_go {x : Wb} {to am : Int} {f : Nat} {N E : List Int} {R : List Rt} {j : Nat} {s : Stp} (hs : (stepsP x (N.getLastD 0))[j]? = some s) (h : s.to ∉ N) : waysJ x to am f N E R (j + 1) = waysP x to am f (N ++ [s.to]) (E ++ [s.edge]) (waysJ x to am f N E R j) := by
  unfold waysJ
  rw [List.take_add_one, hs]
  simp [h]
theorem waysJ_end {x : Wb} {to am : Int} {f : Nat} {N E : List Int} {R : List Rt} (h0 : R.length < 32) (h1 : ¬ N.getLastD 0 = to) (h2 : ¬ E.length = 7) : waysP x to am (f + 1) N E R = waysJ x to am f N E R (stepsP x (N.getLastD 0)).length := by
  conv => lhs; unfold waysP
  rw [if_neg (by omega), if_neg h1, if_neg h2]
  unfold waysJ
  rw [List.take_length]
theorem waysJ_stop {x : Wb} {to am : Int} {f : Nat} {N E : List Int} {R : List Rt} {j : Nat} (h : 32 ≤ (waysJ x to am f N E R j).length) : waysJ x to am f N E R (stepsP x (N.getLastD 0)).length = waysJ x to am f N E R j := by
  by_cases hj : j ≤ (stepsP x (N.getLastD 0)).length
  · unfold waysJ at h ⊢
    rw [List.take_length]
    conv => lhs; rw [← List.take_append_drop j (stepsP x (N.getLastD 0)), List.foldl_append]
    exact fold_full _ _ h
  · unfold waysJ
    rw [List.take_of_length_le (Nat.le_refl _), List.take_of_length_le (i := j) (by omega)]
theorem ways_there {x : Wb} {to am : Int} {f : Nat} {N E : List Int} {R : List Rt} (h0 : R.length < 32) (h1 : N.getLastD 0 = to) : waysP x to am (f + 1) N E R = (match fillP x N E am with | some r => R ++ [r] | none => R) := by
  conv => lhs; unfold waysP
  rw [if_neg (by omega), if_pos h1]
theorem ways_long {x : Wb} {to am : Int} {f : Nat} {N E : List Int} {R : List Rt} (h0 : R.length < 32) (h1 : ¬ N.getLastD 0 = to) (h2 : E.length = 7) : waysP x to am (f + 1) N E R = R := by
  conv => lhs; unfold waysP
  rw [if_neg (by omega), if_neg h1, if_pos h2]
theorem last_snoc (N : List Int) (a b : Int) : (N ++ [a]).getLastD b = a := by simp [List.getLastD_eq_getLast?]
theorem way_snoc {x : Wb} {N E : List Int} (h : WayOk x N E) {s : Stp} (hs : s ∈ stepsP x (N.getLastD 0)) : WayOk x (N ++ [s.to]) (E ++ [s.edge]) := by
  refine ⟨by simp [h.len], fun i n e hn he => ?_⟩
  by_cases hi : i < E.length
  · rw [List.getElem?_append_left (by rw [h.len]; omega)] at hn
    rw [List.getElem?_append_left hi] at he
    obtain ⟨j, hj, ed, h1, h2, h3⟩ := h.at_ i n e hn he
    refine ⟨j, hj, ed, h1, h2, fun m hm => h3 m ?_⟩
    rw [List.getElem?_append_left (by rw [h.len]; omega)] at hm
    exact hm
  · have hie : i = E.length := by
      have := (List.getElem?_eq_some_iff.1 he).1
      simp at this; omega
    subst hie
    rw [List.getElem?_append_right (Nat.le_refl _)] at he
    simp at he
    subst he
    rw [List.getElem?_append_left (by rw [h.len]; omega)] at hn
    have hl : N.getLastD 0 = n := by
      rw [List.getLastD_eq_getLast?, List.getLast?_eq_getElem?, h.len, Nat.add_sub_cancel, hn]; rfl
    rw [hl] at hs
    have hz : stepsP x n = stepsF n 0 x.edges := by
      unfold stepsP at hs ⊢
      split
      · rfl
      · rename_i hc; rw [if_neg hc] at hs; cases hs
    rw [hz] at hs
    obtain ⟨k, hk, h1, h2⟩ := stepsF_mem hs
    obtain ⟨h3, h4⟩ := stpOf_side h2
    refine ⟨k, by rw [h1]; congr 1; omega, x.edges[k], List.getElem?_eq_getElem hk, by omega, fun m hm => ?_⟩
    rw [List.getElem?_append_right (by rw [h.len]; exact Nat.le_refl _), h.len, Nat.sub_self] at hm
    simp at hm
    rw [← hm, h4]
theorem way_one (x : Wb) (n : Int) : WayOk x [n] [] := ⟨rfl, fun i n e _ he => by simp at he⟩

/-- The best: cheaper, or as cheap and shorter; the first of such. -/
def betterP (a b : Rt) : Prop := a.amts.headD 0 < b.amts.headD 0 ∨ (a.amts.headD 0 = b.amts.headD 0 ∧ a.edges.length < b.edges.length)
instance (a b : Rt) : Decidable (betterP a b) := by unfold betterP; infer_instance
def bestIx (R : List Rt) : Nat → Nat
  | 0 => 0
  | k + 1 => if betterP (R.getD (k + 1) noRt) (R.getD (bestIx R k) noRt) then k + 1 else bestIx R k
theorem bestIx_le (R : List Rt) : ∀ k, bestIx R k ≤ k
  | 0 => Nat.le_refl _
  | k + 1 => by
    unfold bestIx
    have := bestIx_le R k
    split <;> omega
def rightP (x : Wb) (from_ to am : Int) : Int := if chkP x ≠ 0 then chkP x else if from_ < 0 ∨ (x.spots.length : Int) ≤ from_ ∨ to < 0 ∨ (x.spots.length : Int) ≤ to ∨ from_ = to ∨ am = 0 then 1 else 0
def allRt (x : Wb) (from_ to am : Int) : List Rt := if rightP x from_ to am = 0 then waysP x to am 8 [from_] [] [] else []
def bestRt (x : Wb) (from_ to am : Int) : Rt × Int := if rightP x from_ to am ≠ 0 then (noRt, rightP x from_ to am) else if allRt x from_ to am = [] then (noRt, 27) else ((allRt x from_ to am).getD (bestIx (allRt x from_ to am) ((allRt x from_ to am).length - 1)) noRt, 0)
open Go Go.RowKit

/-- A route from one node to another one. -/
structure Good (x : Wb) (from_ to am : Int) (r : Rt) : Prop where
  way : WayOk x r.nodes r.edges
  few : r.edges.length ≤ 7
  hd : r.nodes.head? = some from_
  last : r.nodes.getLastD 0 = to
  nodup : r.nodes.Nodup
  fill : fillP x r.nodes r.edges am = some r
theorem fill_eq {x : Wb} {N E : List Int} {am : Int} {r : Rt} (h : fillP x N E am = some r) : r = ⟨N, E, (backP am (feesP x N E)).1⟩ ∧ (backP am (feesP x N E)).2 = 0 ∧ canB x N E (backP am (feesP x N E)).1 = true := by
  unfold fillP at h
  split at h
  · rename_i h0
    split at h
    · rename_i h1
      simp only [Option.some.injEq] at h
      exact ⟨h.symm, h0, h1⟩
    · cases h
  · cases h
theorem Good.amts {x : Wb} {from_ to am : Int} {r : Rt} (h : Good x from_ to am r) : r.amts = (backP am (feesP x r.nodes r.edges)).1 ∧ (backP am (feesP x r.nodes r.edges)).2 = 0 ∧ r.amts.length = r.edges.length - 1 + 1 := by
  obtain ⟨e, h0, _⟩ := fill_eq h.fill
  have ha : r.amts = (backP am (feesP x r.nodes r.edges)).1 := by conv => lhs; rw [e]
  refine ⟨ha, h0, ?_⟩
  rw [ha, backP_len _ h0, feesP_len h.way.len]
theorem ways_good {x : Wb} {from_ to am : Int} : ∀ (f : Nat) (N E : List Int) (R : List Rt), WayOk x N E → E.length + f ≤ 8 → N.head? = some from_ → N.Nodup → (∀ r ∈ R, Good x from_ to am r) → ∀ r ∈ waysP x to am f N E R, Good x from_ to am r
  | 0, N, E, R, _, _, _, _, h, r, hr => h r hr
  | f + 1, N, E, R, hw, hl, hh, hn, h, r, hr => by
    unfold waysP at hr
    split at hr
    · exact h r hr
    · split at hr
      · rename_i hlt
        cases hf : fillP x N E am with
        | none => rw [hf] at hr; exact h r hr
        | some q =>
          rw [hf] at hr
          rcases List.mem_append.1 hr with hr | hr
          · exact h r hr
          · rw [List.mem_singleton] at hr
            subst hr
            obtain ⟨e, _, _⟩ := fill_eq hf
            have e1 : r.nodes = N := by rw [e]
            have e2 : r.edges = E := by rw [e]
            exact ⟨by rw [e1, e2]; exact hw, by rw [e2]; omega, by rw [e1]; exact hh, by rw [e1]; exact hlt, by rw [e1]; exact hn, by rw [e1, e2]; exact hf⟩
      · split at hr
        · exact h r hr
        · rename_i h7
          have hfold : ∀ (L : List Stp) (R : List Rt), (∀ s ∈ L, s ∈ stepsP x (N.getLastD 0)) → (∀ r ∈ R, Good x from_ to am r) → ∀ r ∈ L.foldl (fun R s => if s.to ∈ N then R else waysP x to am f (N ++ [s.to]) (E ++ [s.edge]) R) R, Good x from_ to am r := by
            intro L
            induction L with
            | nil => intro R _ hR r hr; exact hR r hr
            | cons s L ih =>
              intro R hL hR r hr
              rw [List.foldl_cons] at hr
              refine ih _ (fun s' hs' => hL s' (List.mem_cons_of_mem _ hs')) ?_ r hr
              intro r' hr'
              split at hr'
              · exact hR r' hr'
              · rename_i hin
                refine ways_good f _ _ R (way_snoc hw (hL s List.mem_cons_self)) (by simp; omega) ?_ ?_ hR r' hr'
                · cases N with
                  | nil => simp at hh
                  | cons a N => simpa using hh
                · rw [List.nodup_append]
                  exact ⟨hn, by simp, fun a ha b hb => by simp at hb; subst hb; exact fun e => hin (e ▸ ha)⟩
          exact hfold _ R (fun s hs => hs) h r hr
theorem all_good {x : Wb} {from_ to am : Int} {r : Rt} (h : r ∈ allRt x from_ to am) : Good x from_ to am r := by
  unfold allRt at h
  split at h
  · exact ways_good 8 [from_] [] [] (way_one x from_) (by simp) rfl (by simp) (fun r hr => by cases hr) r h
  · cases h
theorem all_few (x : Wb) (from_ to am : Int) : (allRt x from_ to am).length ≤ 32 := by
  unfold allRt
  split
  · exact (ways_pre x to am 8 [from_] [] []).2 (by simp)
  · simp
theorem all_ok {x : Wb} {from_ to am : Int} (h : rightP x from_ to am = 0) : waysP x to am 8 [from_] [] [] = allRt x from_ to am := by unfold allRt; rw [if_pos h]
theorem all_none {x : Wb} {from_ to am : Int} (h : rightP x from_ to am ≠ 0) : allRt x from_ to am = [] := by unfold allRt; rw [if_neg h]
/-- The best, element by element. -/
theorem head_of {l : List Int} {v : Int} (h : l[0]? = some v) : l.headD 0 = v := by
  cases l with
  | nil => simp at h
  | cons a l => simpa using h
theorem better_of {a b : Rt} {u v : Int} (ha : a.amts[0]? = some u) (hb : b.amts[0]? = some v) : betterP a b ↔ (u < v ∨ (u = v ∧ a.edges.length < b.edges.length)) := by
  unfold betterP; rw [head_of ha, head_of hb]
theorem better_yes {a b : Rt} {u v : Int} (ha : a.amts[0]? = some u) (hb : b.amts[0]? = some v) (h : u < v ∨ (u = v ∧ a.edges.length < b.edges.length)) : betterP a b := (better_of ha hb).2 h
theorem better_no {a b : Rt} {u v : Int} (ha : a.amts[0]? = some u) (hb : b.amts[0]? = some v) (h : ¬ (u < v ∨ (u = v ∧ a.edges.length < b.edges.length))) : ¬ betterP a b := fun q => h ((better_of ha hb).1 q)
theorem bestIx_yes {R : List Rt} {i : Nat} {m mb : Rt} (h1 : R[i + 1]? = some m) (h2 : R[bestIx R i]? = some mb) (h : betterP m mb) : bestIx R (i + 1) = i + 1 := by
  conv => lhs; unfold bestIx
  rw [List.getD_eq_getElem?_getD, List.getD_eq_getElem?_getD, h1, h2]
  exact if_pos h
theorem bestIx_no {R : List Rt} {i : Nat} {m mb : Rt} (h1 : R[i + 1]? = some m) (h2 : R[bestIx R i]? = some mb) (h : ¬ betterP m mb) : bestIx R (i + 1) = bestIx R i := by
  conv => lhs; unfold bestIx
  rw [List.getD_eq_getElem?_getD, List.getD_eq_getElem?_getD, h1, h2]
  exact if_neg h
theorem best_err {x : Wb} {from_ to am : Int} (h : rightP x from_ to am ≠ 0) : bestRt x from_ to am = (noRt, rightP x from_ to am) := if_pos h
theorem best_none {x : Wb} {from_ to am : Int} (h0 : rightP x from_ to am = 0) (h : allRt x from_ to am = []) : bestRt x from_ to am = (noRt, 27) := by
  unfold bestRt; rw [if_neg (by simp [h0]), if_pos h]
theorem best_some {x : Wb} {from_ to am : Int} {m : Rt} (h0 : rightP x from_ to am = 0) (h : (allRt x from_ to am)[bestIx (allRt x from_ to am) ((allRt x from_ to am).length - 1)]? = some m) : bestRt x from_ to am = (m, 0) := by
  unfold bestRt
  rw [if_neg (by simp [h0]), if_neg (fun e => by rw [e] at h; simp at h), List.getD_eq_getElem?_getD, h]
  rfl
theorem right_chk {x : Wb} {from_ to am : Int} (h : chkP x ≠ 0) : rightP x from_ to am = chkP x := if_pos h
theorem right_bad {x : Wb} {from_ to am : Int} (h : chkP x = 0) (hb : from_ < 0 ∨ (x.spots.length : Int) ≤ from_ ∨ to < 0 ∨ (x.spots.length : Int) ≤ to ∨ from_ = to ∨ am = 0) : rightP x from_ to am = 1 := by
  unfold rightP; rw [if_neg (by simp [h]), if_pos hb]
theorem right_ok {x : Wb} {from_ to am : Int} (h : chkP x = 0) (hb : ¬ (from_ < 0 ∨ (x.spots.length : Int) ≤ from_ ∨ to < 0 ∨ (x.spots.length : Int) ≤ to ∨ from_ = to ∨ am = 0)) : rightP x from_ to am = 0 := by
  unfold rightP; rw [if_neg (by simp [h]), if_neg hb]
theorem right_zero {x : Wb} {from_ to am : Int} (h : rightP x from_ to am = 0) : chkP x = 0 ∧ ¬ (from_ < 0 ∨ (x.spots.length : Int) ≤ from_ ∨ to < 0 ∨ (x.spots.length : Int) ≤ to ∨ from_ = to ∨ am = 0) := by
  by_cases hc : chkP x = 0
  · refine ⟨hc, fun hb => ?_⟩
    rw [right_bad hc hb] at h; cases h
  · rw [right_chk hc] at h; exact absurd h hc
open Go Go.RowKit

structure RInv (x : Wb) (N E : List Int) (am : Int) (i : Nat) (X : List Int) : Prop where
  eq : X = (backP am ((feesP x N E).drop i)).1
  ok : (backP am ((feesP x N E).drop i)).2 = 0
theorem RInv.start (x : Wb) {N E : List Int} (am : Int) (h : N.length = E.length + 1) : RInv x N E am (E.length - 1) [am] := by
  have : (feesP x N E).drop (E.length - 1) = [] := List.drop_of_length_le (by rw [feesP_len h]; exact Nat.le_refl _)
  exact ⟨by rw [this]; rfl, by rw [this]; rfl⟩
theorem RInv.len {x : Wb} {N E : List Int} {am : Int} {i : Nat} {X : List Int} (h : RInv x N E am i X) (hl : N.length = E.length + 1) : X.length = E.length - 1 - i + 1 := by
  rw [h.eq, backP_len _ h.ok, List.length_drop, feesP_len hl]
theorem RInv.hd {x : Wb} {N E : List Int} {am : Int} {i : Nat} {X : List Int} {u : Int} (h : RInv x N E am i X) (ok : x.Ok) (ha : U64 am) (hu : X[0]? = some u) : U64 u := by
  have h1 := feesP_u ok N E
  have h2 : P64 ((feesP x N E).drop i) := fun p hp => h1 p (List.mem_of_mem_drop hp)
  refine backP_u ha _ h2 u ?_
  rw [← h.eq]
  exact List.mem_of_getElem? hu
theorem RInv.step {x : Wb} {N E : List Int} {am : Int} {i : Nat} {X : List Int} {n e b r u : Int} (h : RInv x N E am i X) (hl : N.length = E.length + 1) (hi : 0 < i) (hE : i < E.length) (hn : N[i]? = some n) (he : E[i]? = some e) (hf : feeAt x n e = (b, r)) (hu : X[0]? = some u) :
    ((overP b r u).2 = 0 → RInv x N E am (i - 1) ((overP b r u).1 :: X)) ∧ ((overP b r u).2 ≠ 0 → fillP x N E am = none) := by
  obtain ⟨j, rfl⟩ : ∃ j, i = j + 1 := ⟨i - 1, by omega⟩
  have hj : j < (feesP x N E).length := by rw [feesP_len hl]; omega
  have hF := feesP_at (x := x) hn he
  rw [hf] at hF
  have hFj : (feesP x N E)[j] = (b, r) := by rw [List.getElem?_eq_getElem hj] at hF; exact Option.some.inj hF
  obtain ⟨h1, h2⟩ := backP_step (a := am) hj h.ok
  have hhd : (backP am ((feesP x N E).drop (j + 1))).1.headD 0 = u := by rw [← h.eq]; exact head_of hu
  rw [hFj, hhd, ← h.eq] at h1
  rw [hFj, hhd] at h2
  rw [Nat.add_sub_cancel]
  refine ⟨fun h0 => ⟨by rw [h1 h0], by rw [h1 h0]⟩, fun h0 => fill_err (by rw [h2 h0]; exact h0)⟩
theorem RInv.done {x : Wb} {N E : List Int} {am : Int} {i : Nat} {X : List Int} (h : RInv x N E am i X) (hi : i = 0) : X = (backP am (feesP x N E)).1 ∧ (backP am (feesP x N E)).2 = 0 := by
  subst hi
  exact ⟨h.eq, h.ok⟩
theorem ways_le {x : Wb} {to am : Int} {f : Nat} {N E : List Int} {R : List Rt} (h : R.length ≤ 32) : (waysP x to am f N E R).length ≤ 32 := (ways_pre x to am f N E R).2 h
theorem last_ne {x : Wb} {N E : List Int} (hw : WayOk x N E) : N[N.length - 1]? = some (N.getLastD 0) := by
  have := hw.len
  rw [List.getLastD_eq_getLast?, List.getLast?_eq_getElem?]
  cases hq : N[N.length - 1]? with
  | none => rw [List.getElem?_eq_none_iff] at hq; omega
  | some v => rfl
end Go.Proofs.Ytcfpbemoocegfaa
