/- Ideals: accounts in a row, and a payment along them: plain. -/
import Derived.Test.YtecgpkjigbhneaaIdlX
namespace Go.Proofs.Ytecgpkjigbhneaa
set_option linter.unusedVariables false
set_option linter.unusedSimpArgs false
set_option linter.unnecessarySimpa false
section
variable {P : Program} {a : Act} {n : Nat} {L : List (Nat × Value)} {o : Oper} {w : World} {R : Value → World → Prop}
/-- A rest. -/
theorem op_rem (T T' : TypeId) (x y : Operand) (k : IntKind) (p q : Int) {v : Int} (F : Fr a n L) (ho : o.op = .binOp .rem T x y T') (hx : val? L x = some (.int k p)) (hy : val? L y = some (.int k q)) (hq : ¬ q = 0) (hv : p.tmod q = v) (hR : R (.int k v) w) : OpR P a w o R := by
  refine op_run (v := .int k v) (w' := w) ?_ hR
  unfold execOp
  simp only [ho, F.val hx, F.val hy]
  subst hv
  simp [eqGuard, binOp, Op.intDiv, hq]
end
open Go Go.RowKit

def chainE (i : Nat) : List (Nat × Nat) := (List.range i).map fun (j : Nat) => (j, j + 1)
theorem chainE_snoc (i : Nat) : chainE (i + 1) = chainE i ++ [(i, i + 1)] := by unfold chainE; rw [List.range_succ, List.map_append]; rfl
theorem chainE_len (i : Nat) : (chainE i).length = i := by unfold chainE; simp
theorem chainE_at {i j : Nat} (h : j < i) : (chainE i)[j]? = some (j, j + 1) := by unfold chainE; simp [h]
def edgesK (i : Nat) : List Int := (List.range i).map fun (j : Nat) => (j : Int)
theorem edgesK_snoc (i : Nat) : edgesK (i + 1) = edgesK i ++ [(i : Int)] := by unfold edgesK; rw [List.range_succ, List.map_append]; rfl
theorem edgesK_len (i : Nat) : (edgesK i).length = i := by unfold edgesK; simp
theorem edgesK_at {i j : Nat} (h : j < i) : (edgesK i)[j]? = some (j : Int) := by unfold edgesK; simp [h]
/-- Some channels opened, one behind the other. -/
def chI (H : List Int) (i : Nat) : Idl := ⟨H, chainE i, List.replicate i (200, 100), []⟩
structure ChOk (H : List Int) (k i : Nat) : Prop where
  len : H.length = k + 1
  up : ∀ j, i < j → j ≤ k → H[j]? = some 1000
  at_ : ∃ x, H[i]? = some x ∧ 900 ≤ x
  le : ∀ x ∈ H, 0 ≤ x ∧ x ≤ 1000
theorem ch_start (k : Nat) : ChOk (List.replicate (k + 1) 1000) k 0 := ⟨by simp, fun j _ h => by rw [List.getElem?_replicate, if_pos (by omega)], ⟨1000, by simp, by omega⟩, fun x hx => by rw [List.mem_replicate] at hx; omega⟩
theorem ch_open {H : List Int} {k i : Nat} (h : ChOk H k i) (hi : i < k) (hk : k ≤ 6) : ∃ H', openP (chI H i) (i : Int) ((i + 1 : Nat) : Int) 200 100 = (chI H' (i + 1), (i : Int), 0) ∧ ChOk H' k (i + 1) := by
  obtain ⟨x, hx, h9⟩ := h.at_
  have hy := h.up (i + 1) (by omega) (by omega)
  refine ⟨(H.set i (x - 200)).set (i + 1) (1000 - 100), ?_, ?_⟩
  · rw [open_ok (I := chI H i) (p := 200) (q := 100) hx hy (by omega) (by show ¬ 16 ≤ (chainE i).length; rw [chainE_len]; omega) (by omega)]
    unfold chI
    rw [chainE_snoc, List.replicate_succ']
    dsimp only
    rw [chainE_len]
  · refine ⟨by simp [h.len], fun j h1 h2 => ?_, ⟨900, ?_, by omega⟩, fun y hy => ?_⟩
    · rw [List.getElem?_set_ne (by omega), List.getElem?_set_ne (by omega)]
      exact h.up j (by omega) h2
    · rw [List.getElem?_set_self (by simp [h.len]; omega)]; rfl
    · have hx9 := h.le x (List.mem_of_getElem? hx)
      rcases List.mem_or_eq_of_mem_set hy with hy | rfl
      · rcases List.mem_or_eq_of_mem_set hy with hy | rfl
        · exact h.le y hy
        · omega
      · omega
theorem ch_new {k : Nat} (h1 : 1 ≤ k) (h2 : k ≤ 6) : newE (List.replicate (k + 1) 1000) = 0 := by
  have : k = 1 ∨ k = 2 ∨ k = 3 ∨ k = 4 ∨ k = 5 ∨ k = 6 := by omega
  rcases this with rfl | rfl | rfl | rfl | rfl | rfl <;> decide
/-- Amounts that never rise. -/
structure AmOk (L : List Int) (lv : Int) : Prop where
  lo : 1 ≤ lv
  hi : lv ≤ 100
  each : ∀ a ∈ L, lv ≤ a ∧ a ≤ 100
  fall : ∀ (j : Nat) (a b : Int), L[j]? = some a → L[j + 1]? = some b → b ≤ a
theorem am_start : AmOk [] 100 := ⟨by omega, by omega, fun a ha => by simp at ha, fun j a b h => by simp at h⟩
theorem am_snoc {L : List Int} {lv v : Int} (h : AmOk L lv) (h1 : 1 ≤ v) (h2 : v ≤ lv) : AmOk (L ++ [v]) v := by
  have hh := h.hi
  refine ⟨h1, by omega, fun a ha => ?_, fun j a b ha hb => ?_⟩
  · rcases List.mem_append.1 ha with ha | ha
    · have := h.each a ha; omega
    · simp at ha; subst ha; omega
  · rcases Nat.lt_trichotomy (j + 1) L.length with hj | hj | hj
    · rw [List.getElem?_append_left (by omega)] at ha
      rw [List.getElem?_append_left hj] at hb
      exact h.fall j a b ha hb
    · rw [List.getElem?_append_left (by omega)] at ha
      rw [List.getElem?_append_right (by omega), hj, Nat.sub_self] at hb
      simp at hb; subst hb
      have := h.each a (List.mem_of_getElem? ha); omega
    · rw [List.getElem?_append_right (by omega), List.getElem?_eq_none (by simp; omega)] at hb
      cases hb
/-- The legs, and what ends can spend behind them. -/
def legsK (L : List Int) (j : Nat) : List Leg := (List.range j).map fun (t : Nat) => ⟨t, 0, L.getD t 0⟩
def freeK (L : List Int) (k j : Nat) : List (Int × Int) := (List.range k).map fun (t : Nat) => if t < j then (200 - L.getD t 0, 100) else (200, 100)
theorem legsK_snoc (L : List Int) (j : Nat) : legsK L (j + 1) = legsK L j ++ [⟨j, 0, L.getD j 0⟩] := by unfold legsK; rw [List.range_succ, List.map_append]; rfl
theorem freeK_at {L : List Int} {k j t : Nat} (h : t < k) : (freeK L k j)[t]? = some (if t < j then (200 - L.getD t 0, 100) else (200, 100)) := by unfold freeK; simp [h]
theorem freeK_zero (L : List Int) (k : Nat) : freeK L k 0 = List.replicate k (200, 100) := by
  apply List.ext_getElem?
  intro t
  by_cases h : t < k
  · rw [freeK_at h, if_neg (by omega), List.getElem?_replicate, if_pos h]
  · rw [List.getElem?_eq_none (by unfold freeK; simp; omega), List.getElem?_eq_none (by simp; omega)]
theorem freeK_set {L : List Int} {k j : Nat} (h : j < k) : (freeK L k j).set j (200 - L.getD j 0, 100) = freeK L k (j + 1) := by
  apply List.ext_getElem?
  intro t
  by_cases ht : t < k
  · by_cases hj : j = t
    · subst hj
      rw [List.getElem?_set_self (by unfold freeK; simp; omega), freeK_at ht, if_pos (by omega)]
    · rw [List.getElem?_set_ne hj, freeK_at ht, freeK_at ht]
      by_cases h2 : t < j
      · rw [if_pos h2, if_pos (by omega)]
      · rw [if_neg h2, if_neg (by omega)]
  · rw [List.getElem?_eq_none (by unfold freeK; simp; omega), List.getElem?_eq_none (by unfold freeK; simp; omega)]
theorem ch_beg {L : List Int} {k : Nat} (hl : L.length = k) {lv : Int} (ha : AmOk L lv) : ∀ j, j ≤ k → begF (chainE k) (List.replicate k (200, 100)) 0 none (edgesK k) L = comb (legsK L j) (begF (chainE k) (freeK L k j) (j : Int) (pvOf L j) ((edgesK k).drop j) (L.drop j))
  | 0, _ => by rw [freeK_zero]; rfl
  | j + 1, hj => by
    rw [ch_beg hl ha j (by omega)]
    have hL : L[j]? = some (L.getD j 0) := by rw [List.getD_eq_getElem?_getD, List.getElem?_eq_getElem (by omega)]; rfl
    have he := ha.each _ (List.mem_of_getElem? hL)
    have hlo := ha.lo
    have hno : ¬ (L.getD j 0 = 0 ∨ ∃ p, pvOf L j = some p ∧ p < L.getD j 0) := fun h => h.elim (fun h => by omega) (pv_no (by
      by_cases h0 : j = 0
      · exact .inl h0
      · have hp : L[j - 1]? = some (L[j - 1]'(by omega)) := List.getElem?_eq_getElem _
        exact .inr ⟨_, hp, by have := ha.fall (j - 1) _ _ hp (by rw [show j - 1 + 1 = j from by omega]; exact hL); omega⟩))
    have hgo := beg_go (ends := chainE k) (F := freeK L k j) (fr := (j : Int)) (a := L.getD j 0) (pv := pvOf L j) (E := edgesK k) (A := L) (k := j) (n := j) (s := 0) (f := (200, 100)) (d := (j, j + 1)) (L := legsK L j) hL (edgesK_at (by omega)) (side_left (chainE_at (by omega))) hno (by rw [freeK_at (by omega), if_neg (by omega)]) (by show ¬ (200 : Int) < L.getD j 0; omega) (chainE_at (by omega))
    rw [hgo, legsK_snoc]
    have e1 : addN ((200, 100) : Int × Int) 0 (-L.getD j 0) = (200 - L.getD j 0, 100) := rfl
    rw [e1, freeK_set (by omega)]
    rfl
theorem ch_begin {H L : List Int} {k : Nat} (h1 : 1 ≤ k) (h2 : k ≤ 6) (hl : L.length = k) {lv : Int} (ha : AmOk L lv) : begP (chI H k) 5 0 (edgesK k) L = (⟨H, chainE k, freeK L k k, [⟨5, 0, legsK L k⟩]⟩, 0) := by
  have hb := ch_beg hl ha k (Nat.le_refl _)
  rw [show (edgesK k).drop k = [] from by rw [List.drop_eq_nil_iff, edgesK_len]; omega, beg_done] at hb
  have := beg_ok (I := chI H k) (id := 5) (fr := 0) (E := edgesK k) (A := L) (by rw [edgesK_len, hl]; omega) rfl hb
  exact this
def paidK (L : List Int) (k j : Nat) (paid : Bool) : List (Int × Int) := (List.range k).map fun (t : Nat) => if t < j then (if paid = true then (200 - L.getD t 0, 100 + L.getD t 0) else (200, 100)) else (200 - L.getD t 0, 100)
theorem paidK_at {L : List Int} {k j t : Nat} {paid : Bool} (h : t < k) : (paidK L k j paid)[t]? = some (if t < j then (if paid = true then (200 - L.getD t 0, 100 + L.getD t 0) else (200, 100)) else (200 - L.getD t 0, 100)) := by unfold paidK; simp [h]
theorem ch_pay {L : List Int} {k : Nat} {paid : Bool} : ∀ j, j ≤ k → payL paid (freeK L k k) (legsK L j) = paidK L k j paid
  | 0, _ => by
    show freeK L k k = _
    apply List.ext_getElem?
    intro t
    by_cases h : t < k
    · rw [freeK_at h, paidK_at h, if_pos h, if_neg (show ¬ t < 0 from by omega)]
    · rw [List.getElem?_eq_none (by unfold freeK; simp; omega), List.getElem?_eq_none (by unfold paidK; simp; omega)]
  | j + 1, hj => by
    rw [legsK_snoc, payL_app, ch_pay j (by omega), payL_cons]
    show addF (paidK L k j paid) j (if paid = true then 1 - 0 else 0) (L.getD j 0) = _
    rw [addF_of (paidK_at (by omega)), if_neg (show ¬ j < j from Nat.lt_irrefl j)]
    apply List.ext_getElem?
    intro t
    by_cases ht : t < k
    · by_cases htj : j = t
      · subst htj
        rw [List.getElem?_set_self (by unfold paidK; simp; omega), paidK_at ht, if_pos (show j < j + 1 from Nat.lt_succ_self j)]
        cases paid
        · simp [addN]
        · simp [addN]
      · rw [List.getElem?_set_ne htj, paidK_at ht, paidK_at ht]
        by_cases h2 : t < j
        · rw [if_pos h2, if_pos (show t < j + 1 from by omega)]
        · rw [if_neg h2, if_neg (show ¬ t < j + 1 from by omega)]
    · rw [List.getElem?_eq_none (by unfold paidK; simp; omega), List.getElem?_eq_none (by unfold paidK; simp; omega)]
theorem ch_end {H L : List Int} {k : Nat} (paid : Bool) : endP ⟨H, chainE k, freeK L k k, [⟨5, 0, legsK L k⟩]⟩ 5 paid = (⟨H, chainE k, paidK L k k paid, [⟨5, if paid = true then 1 else 2, legsK L k⟩]⟩, 0) := by
  rw [end_ok (i := 0) (p := ⟨5, 0, legsK L k⟩) rfl rfl rfl]
  dsimp only
  rw [ch_pay k (Nat.le_refl _)]
  rfl
theorem ch_end2 {H : List Int} {F : List (Int × Int)} {G : List Leg} {k : Nat} (paid b : Bool) : endP ⟨H, chainE k, F, [⟨5, if paid = true then 1 else 2, G⟩]⟩ 5 b = (⟨H, chainE k, F, [⟨5, if paid = true then 1 else 2, G⟩]⟩, 3) :=
  end_state (i := 0) (p := ⟨5, if paid = true then 1 else 2, G⟩) rfl rfl (by cases paid <;> simp)
/-- What an account has, in channels and beside them. -/
def worthTo (I : Idl) (who : Int) : Nat → Int
  | 0 => hasP I who
  | t + 1 => worthTo I who t + freeP I (t : Int) who
def inE (F : List (Int × Int)) (i m : Nat) : Int := (if i < m then (F.getD i (0, 0)).1 else 0) + (if 0 < i ∧ i - 1 < m then (F.getD (i - 1) (0, 0)).2 else 0)
theorem free_chain {H : List Int} {F : List (Int × Int)} {l : List Pay} {k i t : Nat} (hF : F.length = k) (ht : t < k) : freeP ⟨H, chainE k, F, l⟩ (t : Int) (i : Int) = (if i = t then (F.getD t (0, 0)).1 else if i = t + 1 then (F.getD t (0, 0)).2 else 0) := by
  have hf : F[t]? = some (F.getD t (0, 0)) := by rw [List.getD_eq_getElem?_getD, List.getElem?_eq_getElem (by omega)]; rfl
  by_cases h1 : i = t
  · subst h1
    rw [if_pos rfl, free_is (I := ⟨H, chainE k, F, l⟩) (s := 0) (side_left (chainE_at ht)) hf]; rfl
  · rw [if_neg h1]
    by_cases h2 : i = t + 1
    · subst h2
      rw [if_pos rfl, free_is (I := ⟨H, chainE k, F, l⟩) (s := 1) (side_right (chainE_at ht) (by omega)) hf]; rfl
    · rw [if_neg h2]
      refine free_no ?_
      show (sideP24 (chainE k) (t : Int) (i : Int)).2 ≠ 0
      unfold sideP24
      rw [if_neg (by rw [chainE_len]; omega), Int.toNat_natCast, getD_of (chainE_at ht)]
      dsimp only
      rw [if_neg (by omega), if_neg (by omega)]; decide
theorem worth_chain {H : List Int} {F : List (Int × Int)} {l : List Pay} {k i : Nat} (hF : F.length = k) {x : Int} (hx : H[i]? = some x) : ∀ m, m ≤ k → worthTo ⟨H, chainE k, F, l⟩ (i : Int) m = x + inE F i m
  | 0, _ => by
    unfold worthTo inE
    rw [has_is (I := ⟨H, chainE k, F, l⟩) hx]
    (repeat' split) <;> omega
  | m + 1, hm => by
    unfold worthTo
    rw [worth_chain hF hx m (by omega), free_chain hF (by omega)]
    unfold inE
    by_cases h1 : i = m
    · subst h1
      (repeat' split) <;> omega
    · by_cases h2 : i = m + 1
      · subst h2
        rw [if_neg (show ¬ m + 1 = m from by omega), if_pos (show m + 1 = m + 1 from rfl)]
        simp only [Nat.add_sub_cancel]
        (repeat' split) <;> omega
      · (repeat' split) <;> omega
theorem getD_at {F : List (Int × Int)} {t : Nat} {f : Int × Int} (h : F[t]? = some f) : F.getD t (0, 0) = f := getD_of h
/-- Ahead of the payment, and behind it. -/
theorem worth_was {H : List Int} {k i : Nat} {x : Int} (hx : H[i]? = some x) : worthTo (chI H k) (i : Int) k = x + (if i < k then 200 else 0) + (if 0 < i ∧ i - 1 < k then 100 else 0) := by
  unfold chI
  rw [worth_chain (by simp) hx k (Nat.le_refl _)]
  unfold inE
  have hr : ∀ t, t < k → (List.replicate k ((200, 100) : Int × Int)).getD t (0, 0) = (200, 100) := fun t ht => getD_of (by rw [List.getElem?_replicate, if_pos ht])
  by_cases h1 : i < k
  · rw [if_pos h1, if_pos h1, hr i h1]
    by_cases h0 : 0 < i ∧ i - 1 < k
    · rw [if_pos h0, if_pos h0, hr (i - 1) h0.2]; dsimp only; omega
    · rw [if_neg h0, if_neg h0]; dsimp only; omega
  · rw [if_neg h1, if_neg h1]
    by_cases h0 : 0 < i ∧ i - 1 < k
    · rw [if_pos h0, if_pos h0, hr (i - 1) h0.2]; dsimp only; omega
    · rw [if_neg h0, if_neg h0]; omega
theorem worth_now {H L : List Int} {l : List Pay} {k i : Nat} {x : Int} {paid : Bool} (hx : H[i]? = some x) : worthTo ⟨H, chainE k, paidK L k k paid, l⟩ (i : Int) k = x + (if i < k then (if paid = true then 200 - L.getD i 0 else 200) else 0) + (if 0 < i ∧ i - 1 < k then (if paid = true then 100 + L.getD (i - 1) 0 else 100) else 0) := by
  rw [worth_chain (by unfold paidK; simp) hx k (Nat.le_refl _)]
  unfold inE
  have hr : ∀ t, t < k → (paidK L k k paid).getD t (0, 0) = (if paid = true then (200 - L.getD t 0, 100 + L.getD t 0) else (200, 100)) := fun t ht => getD_of (by rw [paidK_at ht, if_pos ht])
  cases paid
  · by_cases h1 : i < k
    · rw [if_pos h1, if_pos h1, hr i h1]
      by_cases h0 : 0 < i ∧ i - 1 < k
      · rw [if_pos h0, if_pos h0, hr (i - 1) h0.2]; simp; omega
      · rw [if_neg h0, if_neg h0]; simp
    · rw [if_neg h1, if_neg h1]
      by_cases h0 : 0 < i ∧ i - 1 < k
      · rw [if_pos h0, if_pos h0, hr (i - 1) h0.2]; simp
      · rw [if_neg h0, if_neg h0]; simp
  · by_cases h1 : i < k
    · rw [if_pos h1, if_pos h1, hr i h1]
      by_cases h0 : 0 < i ∧ i - 1 < k
      · rw [if_pos h0, if_pos h0, hr (i - 1) h0.2]; simp; omega
      · rw [if_neg h0, if_neg h0]; simp
    · rw [if_neg h1, if_neg h1]
      by_cases h0 : 0 < i ∧ i - 1 < k
      · rw [if_pos h0, if_pos h0, hr (i - 1) h0.2]; simp
      · rw [if_neg h0, if_neg h0]; simp
theorem worth_le {I : Idl} (ok : IOk I) (who : Int) : ∀ t, t ≤ I.ends.length → 0 ≤ worthTo I who t ∧ worthTo I who t ≤ sumI I.has + sumF (I.free.take t)
  | 0, _ => by
    have hn := sumI_nn _ ok.hu
    show 0 ≤ hasP I who ∧ hasP I who ≤ sumI I.has + 0
    unfold hasP
    split
    · rename_i h
      obtain ⟨n, rfl, hn'⟩ := inB_t h
      have := sumI_one I.has n I.has[n] ok.hu (List.getElem?_eq_getElem hn')
      rw [Int.toNat_natCast, getD_of (List.getElem?_eq_getElem hn')]; omega
    · omega
  | t + 1, ht => by
    obtain ⟨h1, h2⟩ := worth_le ok who t (by omega)
    have hf : I.free[t]? = some (I.free[t]'(by rw [ok.fl]; omega)) := List.getElem?_eq_getElem _
    generalize I.free[t]'(by rw [ok.fl]; omega) = f at hf
    have hfn := ok.fu f (List.mem_of_getElem? hf)
    have hs : sumF (I.free.take (t + 1)) = sumF (I.free.take t) + (f.1 + f.2) := by rw [List.take_add_one, hf]; exact sumF_app _ _
    have hfr : 0 ≤ freeP I (t : Int) who ∧ freeP I (t : Int) who ≤ f.1 + f.2 := by
      unfold freeP
      split
      · omega
      · rw [Int.toNat_natCast, getD_of hf]
        unfold frN
        split <;> omega
    unfold worthTo
    omega
theorem worth_fit {I : Idl} (ok : IOk I) (who : Int) (t : Nat) (ht : t ≤ I.ends.length) : 0 ≤ worthTo I who t ∧ worthTo I who t < 18446744073709551616 := by
  have h := worth_le ok who t ht
  have h2 := ok.sums
  have h3 : sumF (I.free.take t) ≤ sumF I.free := by
    have e : sumF I.free = sumF (I.free.take t) + sumF (I.free.drop t) := by
      unfold sumF
      rw [← sumI_app, ← List.map_append, List.take_append_drop]
    have := sumF_nn (l := I.free.drop t) fun f hf => ok.fu f (List.mem_of_mem_drop hf)
    omega
  omega
def fill24 (n i : Nat) : List Int := List.replicate i 1000 ++ List.replicate (n - i) 0
theorem fill24_zero (n : Nat) : fill24 n 0 = List.replicate n 0 := by unfold fill24; simp
theorem fill24_len {n i : Nat} (h : i ≤ n) : (fill24 n i).length = n := by unfold fill24; simp; omega
theorem fill24_get {n i : Nat} (h : i < n) : (fill24 n i)[i]? = some 0 := by
  unfold fill24
  rw [List.getElem?_append_right (by simp), List.length_replicate, Nat.sub_self, List.getElem?_replicate, if_pos (by omega)]
theorem fill24_set {n i : Nat} (h : i < n) : (fill24 n i).set i 1000 = fill24 n (i + 1) := by
  unfold fill24
  rw [List.set_append_right _ _ (by simp), List.length_replicate, Nat.sub_self, show n - i = (n - (i + 1)) + 1 from by omega, List.replicate_succ, List.set_cons_zero, List.replicate_succ']
  simp
theorem fill24_all (n : Nat) : fill24 n n = List.replicate n 1000 := by unfold fill24; simp
def wasL (H : List Int) (k i : Nat) : List Int := (List.range i).map fun (j : Nat) => worthTo (chI H k) (j : Int) k
theorem wasL_snoc (H : List Int) (k i : Nat) : wasL H k (i + 1) = wasL H k i ++ [worthTo (chI H k) (i : Int) k] := by unfold wasL; rw [List.range_succ, List.map_append]; rfl
theorem wasL_len (H : List Int) (k i : Nat) : (wasL H k i).length = i := by unfold wasL; simp
theorem wasL_at {H : List Int} {k i j : Nat} (h : j < i) : (wasL H k i)[j]? = some (worthTo (chI H k) (j : Int) k) := by unfold wasL; simp [h]
theorem was_fit {H : List Int} {k i : Nat} (h : ChOk H k k) (hi : i ≤ k) : 0 ≤ worthTo (chI H k) (i : Int) k ∧ worthTo (chI H k) (i : Int) k ≤ 1300 ∧ (i < k → 200 ≤ worthTo (chI H k) (i : Int) k) := by
  have hx : H[i]? = some (H[i]'(by rw [h.len]; omega)) := List.getElem?_eq_getElem _
  have hl := h.le _ (List.mem_of_getElem? hx)
  rw [worth_was hx]
  (repeat' split) <;> omega
/-- Behind the payment. -/
theorem worth_paid {H L : List Int} {l : List Pay} {k i : Nat} (h : ChOk H k k) (hi : i ≤ k) : worthTo ⟨H, chainE k, paidK L k k true, l⟩ (i : Int) k = worthTo (chI H k) (i : Int) k + (if 0 < i then L.getD (i - 1) 0 else 0) - (if i < k then L.getD i 0 else 0) := by
  have hx : H[i]? = some (H[i]'(by rw [h.len]; omega)) := List.getElem?_eq_getElem _
  rw [worth_was hx, worth_now hx]
  simp only [if_true]
  by_cases h0 : 0 < i
  · rw [if_pos (show 0 < i ∧ i - 1 < k from ⟨h0, by omega⟩), if_pos (show 0 < i ∧ i - 1 < k from ⟨h0, by omega⟩), if_pos h0]
    (repeat' split) <;> omega
  · rw [if_neg (show ¬ (0 < i ∧ i - 1 < k) from fun h => h0 h.1), if_neg (show ¬ (0 < i ∧ i - 1 < k) from fun h => h0 h.1), if_neg h0]
    (repeat' split) <;> omega
theorem worth_back {H L : List Int} {l : List Pay} {k i : Nat} (h : ChOk H k k) (hi : i ≤ k) : worthTo ⟨H, chainE k, paidK L k k false, l⟩ (i : Int) k = worthTo (chI H k) (i : Int) k := by
  have hx : H[i]? = some (H[i]'(by rw [h.len]; omega)) := List.getElem?_eq_getElem _
  rw [worth_was hx, worth_now hx]
  simp only [Bool.false_eq_true, if_false]
end Go.Proofs.Ytecgpkjigbhneaa
