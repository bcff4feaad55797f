/- Shares: plain. -/
import Derived.Test.YtonjibjghijacaaMoneyP
namespace Go.Proofs.Ytonjibjghijacaa
set_option linter.unusedVariables false
set_option linter.unusedSimpArgs false
set_option linter.unnecessarySimpa false
open Go

def partsP (a all : Int) (ws : List Int) : List Int := ws.map fun w => a * w / all
/-- One more for each that has a weight, as long as something is left. -/
def bumpP : Int → List Int → List Int → List Int
  | left, w :: ws, p :: ps => if 0 < left ∧ 0 < w then (p + 1) :: bumpP (left - 1) ws ps else p :: bumpP left ws ps
  | _, _, _ => []
def leftP : Int → List Int → Int
  | left, [] => left
  | left, w :: ws => if 0 < left ∧ 0 < w then leftP (left - 1) ws else leftP left ws
def nzP : List Int → Int
  | [] => 0
  | w :: ws => (if 0 < w then 1 else 0) + nzP ws
def shareP (a : Int) (ws : List Int) : List Int × Int :=
  if (sumP 0 ws).2 = 0 then (if (sumP 0 ws).1 = 0 then ([], 1) else (bumpP (a - (partsP a (sumP 0 ws).1 ws).sum) ws (partsP a (sumP 0 ws).1 ws), 0)) else ([], (sumP 0 ws).2)
theorem bumpP_cons (left w p : Int) (ws ps : List Int) : bumpP left (w :: ws) (p :: ps) = if 0 < left ∧ 0 < w then (p + 1) :: bumpP (left - 1) ws ps else p :: bumpP left ws ps := by rw [bumpP]
theorem leftP_cons (left w : Int) (ws : List Int) : leftP left (w :: ws) = if 0 < left ∧ 0 < w then leftP (left - 1) ws else leftP left ws := by rw [leftP]
def W64 (l : List Int) : Prop := ∀ a ∈ l, 0 ≤ a ∧ a < 18446744073709551616
theorem W64.tail {w : Int} {ws : List Int} (h : W64 (w :: ws)) : W64 ws := fun a ha => h a (by simp [ha])
theorem sum_nn : ∀ {l : List Int}, (∀ a ∈ l, 0 ≤ a) → 0 ≤ l.sum
  | [], _ => by simp
  | a :: l, h => by
    have h1 := h a (by simp)
    have h2 := sum_nn (l := l) fun b hb => h b (by simp [hb])
    rw [List.sum_cons]; omega
theorem sumP_eq : ∀ (l : List Int) (s : Int), s < 18446744073709551616 → (sumP s l).2 = 0 → (sumP s l).1 = s + l.sum ∧ s + l.sum < 18446744073709551616
  | [], s, h, _ => by simp [sumP]; exact h
  | a :: l, s, h, he => by
    unfold sumP at he ⊢
    split at he
    · rename_i hlt
      rw [if_pos hlt]
      have := sumP_eq l (s + a) hlt he
      rw [List.sum_cons]
      omega
    · cases he
theorem sumP_of : ∀ (l : List Int) (s : Int), (∀ a ∈ l, 0 ≤ a) → s + l.sum < 18446744073709551616 → sumP s l = (s + l.sum, 0)
  | [], s, _, _ => by simp [sumP]
  | a :: l, s, hn, h => by
    have h2 := sum_nn (l := l) fun b hb => hn b (by simp [hb])
    rw [List.sum_cons] at h ⊢
    unfold sumP
    rw [if_pos (by omega), sumP_of l (s + a) (fun b hb => hn b (by simp [hb])) (by omega)]
    congr 1; omega
theorem leftP_le : ∀ (ws : List Int) (left : Int), 0 ≤ left → 0 ≤ leftP left ws ∧ leftP left ws ≤ left
  | [], left, h => ⟨h, Int.le_refl _⟩
  | w :: ws, left, h => by
    unfold leftP
    split
    · have := leftP_le ws (left - 1) (by omega); omega
    · exact leftP_le ws left h
theorem bumpP_len : ∀ (ws ps : List Int) (left : Int), ws.length = ps.length → (bumpP left ws ps).length = ps.length
  | [], [], _, _ => rfl
  | w :: ws, p :: ps, left, h => by
    rw [bumpP_cons]
    split <;> simp [bumpP_len ws ps _ (by simpa using h)]
theorem bumpP_zero : ∀ (ws ps : List Int), ws.length = ps.length → bumpP 0 ws ps = ps
  | [], [], _ => rfl
  | w :: ws, p :: ps, h => by
    rw [bumpP_cons, if_neg (by omega), bumpP_zero ws ps (by simpa using h)]
theorem bumpP_app : ∀ (ws ps vs qs : List Int) (left : Int), ws.length = ps.length → bumpP left (ws ++ vs) (ps ++ qs) = bumpP left ws ps ++ bumpP (leftP left ws) vs qs
  | [], [], vs, qs, left, _ => rfl
  | w :: ws, p :: ps, vs, qs, left, h => by
    simp only [List.cons_append]
    rw [bumpP_cons, bumpP_cons, leftP_cons]
    split
    · rw [bumpP_app ws ps vs qs _ (by simpa using h)]; rfl
    · rw [bumpP_app ws ps vs qs _ (by simpa using h)]; rfl
theorem leftP_app : ∀ (ws vs : List Int) (left : Int), leftP left (ws ++ vs) = leftP (leftP left ws) vs
  | [], _, _ => rfl
  | w :: ws, vs, left => by
    simp only [List.cons_append]
    rw [leftP_cons, leftP_cons]
    split <;> rw [leftP_app]
theorem bumpP_sum : ∀ (ws ps : List Int) (left : Int), ws.length = ps.length → 0 ≤ left → left ≤ nzP ws → (bumpP left ws ps).sum = ps.sum + left
  | [], [], left, _, h0, h1 => by simp [bumpP, nzP] at *; omega
  | w :: ws, p :: ps, left, h, h0, h1 => by
    rw [bumpP_cons]
    unfold nzP at h1
    split
    · rename_i hc
      rw [if_pos hc.2] at h1
      rw [List.sum_cons, List.sum_cons, bumpP_sum ws ps _ (by simpa using h) (by omega) (by omega)]
      omega
    · rename_i hc
      rw [List.sum_cons, List.sum_cons]
      by_cases hl : left = 0
      · subst hl
        rw [bumpP_zero ws ps (by simpa using h)]; omega
      · rw [if_neg (by omega)] at h1
        rw [bumpP_sum ws ps _ (by simpa using h) (by omega) (by omega)]; omega
theorem nz_nn : ∀ (ws : List Int), 0 ≤ nzP ws
  | [] => by simp [nzP]
  | w :: ws => by
    have := nz_nn ws
    unfold nzP; split <;> omega
/-- What the parts come to. -/
theorem parts_sum {a all : Int} (ha : 0 ≤ a) (hal : 0 < all) : ∀ (ws : List Int), (∀ w ∈ ws, 0 ≤ w) → all * (partsP a all ws).sum ≤ a * ws.sum ∧ a * ws.sum ≤ all * (partsP a all ws).sum + (all - 1) * nzP ws
  | [], _ => by simp [partsP, nzP]
  | w :: ws, h => by
    have ih := parts_sum ha hal ws fun x hx => h x (by simp [hx])
    have hw := h w (by simp)
    have e : partsP a all (w :: ws) = a * w / all :: partsP a all ws := rfl
    rw [e, List.sum_cons, List.sum_cons, Int.mul_add, Int.mul_add]
    have h1 := Int.mul_ediv_add_emod (a * w) all
    have h2 := Int.emod_nonneg (a * w) (show all ≠ 0 by omega)
    have h3 := Int.emod_lt_of_pos (a * w) hal
    unfold nzP
    rw [Int.mul_add]
    split
    · rw [Int.mul_one]; omega
    · have : w = 0 := by omega
      subst this
      simp at h1 h2 h3 ⊢
      omega
theorem parts_le {a all : Int} (ha : 0 ≤ a) (hal : 0 < all) {ws : List Int} (h : ∀ w ∈ ws, 0 ≤ w) (hs : ws.sum ≤ all) : (partsP a all ws).sum ≤ a := by
  have h1 := (parts_sum ha hal ws h).1
  have h2 : a * ws.sum ≤ a * all := Int.mul_le_mul_of_nonneg_left hs ha
  have h3 : all * (partsP a all ws).sum ≤ all * a := by rw [Int.mul_comm all a]; omega
  exact Int.le_of_mul_le_mul_left h3 hal
theorem parts_nz {a all : Int} (ha : 0 ≤ a) (hal : 0 < all) {ws : List Int} (h : ∀ w ∈ ws, 0 ≤ w) (hs : ws.sum = all) : a - (partsP a all ws).sum ≤ nzP ws := by
  have h1 := (parts_sum ha hal ws h).2
  have hn := nz_nn ws
  rw [hs] at h1
  have h2 : (all - 1) * nzP ws ≤ all * nzP ws := Int.mul_le_mul_of_nonneg_right (by omega) hn
  have h3 : all * a ≤ all * ((partsP a all ws).sum + nzP ws) := by rw [Int.mul_add, Int.mul_comm all a]; omega
  have := Int.le_of_mul_le_mul_left h3 hal
  omega
theorem parts_nn {a all : Int} (ha : 0 ≤ a) (hal : 0 < all) {ws : List Int} (h : ∀ w ∈ ws, 0 ≤ w) : ∀ p ∈ partsP a all ws, 0 ≤ p := by
  intro p hp
  simp only [partsP, List.mem_map] at hp
  obtain ⟨w, hw, rfl⟩ := hp
  exact Int.ediv_nonneg (Int.mul_nonneg ha (h w hw)) (by omega)
theorem sum_take_le {l : List Int} (h : ∀ a ∈ l, 0 ≤ a) (k : Nat) : (l.take k).sum ≤ l.sum := by
  conv => rhs; rw [← List.take_append_drop k l]
  rw [List.sum_append]
  have := sum_nn (l := l.drop k) fun a ha => h a (List.mem_of_mem_drop ha)
  omega
theorem mem_le_sum {l : List Int} (h : ∀ a ∈ l, 0 ≤ a) {x : Int} (hx : x ∈ l) : x ≤ l.sum := by
  induction l with
  | nil => cases hx
  | cons a l ih =>
    have h2 := sum_nn (l := l) fun b hb => h b (by simp [hb])
    have h1 := h a (by simp)
    rw [List.sum_cons]
    rcases List.mem_cons.1 hx with rfl | hx
    · omega
    · have := ih (fun b hb => h b (by simp [hb])) hx; omega
theorem parts_take (a all : Int) (ws : List Int) (k : Nat) : (partsP a all ws).take k = partsP a all (ws.take k) := by simp [partsP, List.map_take]
theorem parts_len (a all : Int) (ws : List Int) : (partsP a all ws).length = ws.length := by simp [partsP]
theorem parts_snoc {a all : Int} {ws : List Int} {k : Nat} (hk : k < ws.length) : partsP a all (ws.take (k + 1)) = partsP a all (ws.take k) ++ [a * ws.getD k 0 / all] := by
  rw [List.take_succ_eq_append_getElem hk]; unfold partsP; rw [List.map_append]; simp [hk]
/-- Behind k steps of the second round. -/
def bst (left : Int) (ws ps : List Int) (k : Nat) : List Int := bumpP left (ws.take k) (ps.take k) ++ ps.drop k
theorem bst_zero (left : Int) (ws ps : List Int) : bst left ws ps 0 = ps := by simp [bst, bumpP]
theorem bst_all {left : Int} {ws ps : List Int} (h : ws.length = ps.length) : bst left ws ps ws.length = bumpP left ws ps := by
  unfold bst
  rw [List.take_length, h, List.take_length, List.drop_length, List.append_nil]
theorem bst_len {left : Int} {ws ps : List Int} {k : Nat} (h : ws.length = ps.length) (hk : k ≤ ws.length) : (bst left ws ps k).length = ps.length := by
  unfold bst
  rw [List.length_append, bumpP_len _ _ _ (by simp [h]), List.length_take, List.length_drop]; omega
theorem bst_get {left : Int} {ws ps : List Int} {k : Nat} (h : ws.length = ps.length) (hk : k < ws.length) : (bst left ws ps k).getD k 0 = ps.getD k 0 := by
  unfold bst
  have hl : (bumpP left (ws.take k) (ps.take k)).length = k := by rw [bumpP_len _ _ _ (by simp [h])]; simp; omega
  rw [List.getD_eq_getElem?_getD, List.getElem?_append_right (by omega), hl]
  simp [List.getD_eq_getElem?_getD]
theorem bst_yes {left : Int} {ws ps : List Int} {k : Nat} (h : ws.length = ps.length) (hk : k < ws.length) (h1 : 0 < leftP left (ws.take k)) (h2 : 0 < ws.getD k 0) :
    (bst left ws ps k).set k (ps.getD k 0 + 1) = bst left ws ps (k + 1) ∧ leftP left (ws.take (k + 1)) = leftP left (ws.take k) - 1 := by
  have hg : ws.getD k 0 = ws[k] := by simp [hk]
  have hp : ps.getD k 0 = ps[k]'(by omega) := by simp [show k < ps.length by omega]
  rw [hg] at h2
  have hl : (bumpP left (ws.take k) (ps.take k)).length = k := by rw [bumpP_len _ _ _ (by simp [h])]; simp; omega
  constructor
  · unfold bst
    rw [List.take_succ_eq_append_getElem hk, List.take_succ_eq_append_getElem (show k < ps.length by omega), bumpP_app _ _ _ _ _ (by simp [h]), List.set_append_right _ _ (by omega), hl, Nat.sub_self, List.append_assoc]
    congr 1
    rw [List.drop_eq_getElem_cons (show k < ps.length by omega), List.set_cons_zero]
    rw [bumpP_cons, if_pos ⟨h1, h2⟩, hp]
    simp [bumpP]
  · rw [List.take_succ_eq_append_getElem hk, leftP_app]
    rw [leftP_cons, if_pos ⟨h1, h2⟩]; rfl
theorem bst_no {left : Int} {ws ps : List Int} {k : Nat} (h : ws.length = ps.length) (hk : k < ws.length) (h1 : ¬ (0 < leftP left (ws.take k) ∧ 0 < ws.getD k 0)) :
    bst left ws ps (k + 1) = bst left ws ps k ∧ leftP left (ws.take (k + 1)) = leftP left (ws.take k) := by
  have hg : ws.getD k 0 = ws[k] := by simp [hk]
  rw [hg] at h1
  constructor
  · unfold bst
    rw [List.take_succ_eq_append_getElem hk, List.take_succ_eq_append_getElem (show k < ps.length by omega), bumpP_app _ _ _ _ _ (by simp [h]), List.append_assoc]
    congr 1
    rw [List.drop_eq_getElem_cons (show k < ps.length by omega)]
    rw [bumpP_cons, if_neg h1]
    simp [bumpP]
  · rw [List.take_succ_eq_append_getElem hk, leftP_app]
    rw [leftP_cons, if_neg h1]; rfl
/-- With nothing left all is done. -/
theorem bst_stop {left : Int} {ws ps : List Int} {k : Nat} (h : ws.length = ps.length) (hk : k ≤ ws.length) (h1 : leftP left (ws.take k) = 0) : bst left ws ps k = bumpP left ws ps := by
  have e := bumpP_app (ws.take k) (ps.take k) (ws.drop k) (ps.drop k) left (by simp [h])
  rw [List.take_append_drop, List.take_append_drop, h1, bumpP_zero _ _ (by simp [h])] at e
  rw [e]; rfl
theorem bumpP_none : ∀ {ws ps : List Int} {left : Int} {i : Nat}, ws.length = ps.length → ws.getD i 0 = 0 → (bumpP left ws ps).getD i 0 = ps.getD i 0
  | [], [], left, i, _, _ => by simp [bumpP]
  | w :: ws, p :: ps, left, 0, h, h0 => by
    simp at h0; subst h0
    rw [bumpP_cons, if_neg (by omega)]; rfl
  | w :: ws, p :: ps, left, i + 1, h, h0 => by
    have ih := fun lf => bumpP_none (ws := ws) (ps := ps) (left := lf) (i := i) (by simpa using h) (by simpa using h0)
    rw [bumpP_cons]
    split
    · rw [List.getD_cons_succ, List.getD_cons_succ]; exact ih _
    · rw [List.getD_cons_succ, List.getD_cons_succ]; exact ih _
theorem part_whole {a m d : Int} (ha : U64 a) (hm : 0 ≤ m) (hd : 0 < d) (h : m ≤ d) : partP a m d = (a * m / d, 0) ∧ U64 (a * m / d) := by
  have h1 : a * m ≤ a * d := Int.mul_le_mul_of_nonneg_left h ha.1
  have h2 : a * m / d ≤ a := Int.ediv_le_of_le_mul hd h1
  have h3 := Int.ediv_nonneg (Int.mul_nonneg ha.1 hm) (show 0 ≤ d by omega)
  have := ha.2
  unfold partP
  rw [if_neg (by omega), if_pos (by omega)]
  exact ⟨rfl, h3, by omega⟩
/-- What is known of a sharing that goes. -/
structure Shares (a all : Int) (ws : List Int) : Prop where
  pos : 0 < all
  sum : ws.sum = all
  nn : ∀ w ∈ ws, 0 ≤ w
theorem Shares.part {a all : Int} {ws : List Int} (h : Shares a all ws) (ha : U64 a) {k : Nat} (hk : k < ws.length) : partP a (ws.getD k 0) all = (a * ws.getD k 0 / all, 0) ∧ U64 (a * ws.getD k 0 / all) := by
  have hm : ws.getD k 0 ∈ ws := by simp [hk]
  exact part_whole ha (h.nn _ hm) h.pos (by rw [← h.sum]; exact mem_le_sum h.nn hm)
theorem Shares.take {a all : Int} {ws : List Int} (h : Shares a all ws) (ha : U64 a) (k : Nat) : 0 ≤ (partsP a all (ws.take k)).sum ∧ (partsP a all (ws.take k)).sum ≤ a := by
  have hn := fun w hw => h.nn w (List.mem_of_mem_take (i := k) hw)
  refine ⟨sum_nn (parts_nn ha.1 h.pos hn), parts_le ha.1 h.pos hn ?_⟩
  rw [← h.sum]; exact sum_take_le h.nn k
theorem Shares.step {a all : Int} {ws : List Int} {k : Nat} (hk : k < ws.length) : (partsP a all (ws.take (k + 1))).sum = (partsP a all (ws.take k)).sum + a * ws.getD k 0 / all := by
  rw [parts_snoc hk, List.sum_append]; simp
theorem Shares.left {a all : Int} {ws : List Int} (h : Shares a all ws) (ha : U64 a) : 0 ≤ a - (partsP a all ws).sum ∧ a - (partsP a all ws).sum ≤ nzP ws := by
  have h1 := (h.take ha ws.length).2
  rw [List.take_length] at h1
  exact ⟨by omega, parts_nz ha.1 h.pos h.nn h.sum⟩
theorem Shares.total {a all : Int} {ws : List Int} (h : Shares a all ws) (ha : U64 a) : (bumpP (a - (partsP a all ws).sum) ws (partsP a all ws)).sum = a := by
  have h1 := h.left ha
  rw [bumpP_sum _ _ _ (parts_len a all ws).symm h1.1 h1.2]; omega
/-- Room for one more. -/
theorem Shares.room {a all : Int} {ws : List Int} (h : Shares a all ws) (ha : U64 a) {k : Nat} (hk : k < ws.length) (hl : 0 < leftP (a - (partsP a all ws).sum) (ws.take k)) : 0 ≤ (partsP a all ws).getD k 0 ∧ (partsP a all ws).getD k 0 + 1 ≤ a := by
  have h1 := leftP_le (ws.take k) (a - (partsP a all ws).sum) (h.left ha).1
  have hn := parts_nn (all := all) ha.1 h.pos h.nn
  have hm : (partsP a all ws).getD k 0 ∈ partsP a all ws := by simp [hk, parts_len]
  have := mem_le_sum hn hm
  exact ⟨hn _ hm, by omega⟩
theorem bump_nn : ∀ (ws ps : List Int) (left : Int), (∀ p ∈ ps, 0 ≤ p) → ∀ p ∈ bumpP left ws ps, 0 ≤ p
  | w :: ws, q :: ps, left, h, p, hp => by
    rw [bumpP_cons] at hp
    have hq := h q (by simp)
    have ht := fun x hx => h x (List.mem_cons_of_mem q hx)
    split at hp
    · rcases List.mem_cons.1 hp with rfl | hp
      · omega
      · exact bump_nn ws ps _ ht p hp
    · rcases List.mem_cons.1 hp with rfl | hp
      · omega
      · exact bump_nn ws ps _ ht p hp
  | [], ps, _, _, p, hp => by cases ps <;> simp [bumpP] at hp
  | _ :: _, [], _, _, p, hp => by simp [bumpP] at hp
theorem Shares.u {a all : Int} {ws : List Int} (h : Shares a all ws) (ha : U64 a) : ∀ p ∈ bumpP (a - (partsP a all ws).sum) ws (partsP a all ws), U64 p := by
  intro p hp
  have hn := bump_nn ws (partsP a all ws) (a - (partsP a all ws).sum) (parts_nn ha.1 h.pos h.nn)
  have h1 := mem_le_sum hn hp
  rw [h.total ha] at h1
  exact ⟨hn p hp, by have := ha.2; omega⟩
theorem Shares.none {a all : Int} {ws : List Int} {i : Nat} (h0 : ws.getD i 0 = 0) : (bumpP (a - (partsP a all ws).sum) ws (partsP a all ws)).getD i 0 = 0 := by
  rw [bumpP_none (parts_len a all ws).symm h0]
  simp only [List.getD_eq_getElem?_getD] at h0 ⊢
  simp only [partsP, List.getElem?_map]
  cases hw : ws[i]? with
  | none => rfl
  | some w =>
    rw [hw] at h0
    simp at h0
    subst h0
    simp
theorem shares_of {a : Int} {ws : List Int} (hu : W64 ws) (h : (sumP 0 ws).2 = 0) (h2 : (sumP 0 ws).1 ≠ 0) : Shares a (sumP 0 ws).1 ws ∧ U64 (sumP 0 ws).1 := by
  have h3 := sumP_eq ws 0 (by decide) h
  have hn := fun w hw => (hu w hw).1
  have h4 := sum_nn hn
  exact ⟨⟨by omega, by omega, hn⟩, by omega, by omega⟩
end Go.Proofs.Ytonjibjghijacaa
