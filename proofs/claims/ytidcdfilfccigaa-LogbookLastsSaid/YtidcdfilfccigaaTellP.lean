/- Plain: what whole records tell, and torn ones. -/
import Derived.Test.YtidcdfilfccigaaLgP
namespace Go.Proofs.Ytidcdfilfccigaa
set_option linter.unusedVariables false
set_option linter.unusedSimpArgs false
set_option linter.unnecessarySimpa false
open Go Go.RowKit

theorem be4_n4 {N : Nat} (h : N < 4294967296) : n4 (UInt8.ofNat (N / 2 ^ 24)) (UInt8.ofNat (N / 2 ^ 16)) (UInt8.ofNat (N / 2 ^ 8)) (UInt8.ofNat (N / 2 ^ 0)) = N := by
  unfold n4
  simp only [UInt8.toNat_ofNat', Nat.reducePow]
  omega
theorem be4_n4p {N : Nat} (h : N < 4294967296) (q : Bs) : n4p (be4 N ++ q) = N := be4_n4 h
theorem rec_parts (k : UInt8) (n v q : Bs) : recP k n v ++ q = be4 (2 + n.length + v.length) ++ ((k :: UInt8.ofNat n.length :: (n ++ v)) ++ (165 :: q)) := by
  simp [recP]
theorem next_rec {k : UInt8} {n v q : Bs} (hn : n.length ≤ 255) (hv : v.length ≤ 1000000) : nextP (recP k n v ++ q) = some (k, n, v, q) := by
  have hN : n4p (recP k n v ++ q) = 2 + n.length + v.length := by rw [rec_parts]; exact be4_n4p (by omega) _
  have hl : (recP k n v ++ q).length = 7 + n.length + v.length + q.length := by rw [List.length_append, recP_len]
  have h5 : (recP k n v ++ q).getD 5 0 = UInt8.ofNat n.length := by rw [rec_parts]; rfl
  have h4 : (recP k n v ++ q).getD 4 0 = k := by rw [rec_parts]; rfl
  have h5n : ((recP k n v ++ q).getD 5 0).toNat = n.length := by rw [h5]; simp; omega
  have hml : (k :: UInt8.ofNat n.length :: (n ++ v)).length = 2 + n.length + v.length := by simp; omega
  have ht : (recP k n v ++ q).take (4 + (2 + n.length + v.length)) = be4 (2 + n.length + v.length) ++ (k :: UInt8.ofNat n.length :: (n ++ v)) := by
    rw [rec_parts, ← List.append_assoc]
    exact List.take_left' (by rw [List.length_append, be4_len, hml])
  have hb : bodyP (recP k n v ++ q) (2 + n.length + v.length) = k :: UInt8.ofNat n.length :: (n ++ v) := by
    unfold bodyP
    rw [ht]
    exact List.drop_left' (be4_len _)
  have hg : (recP k n v ++ q).getD (4 + (2 + n.length + v.length)) 0 = 165 := by
    rw [rec_parts, ← List.append_assoc]
    simp only [List.getD]
    rw [List.getElem?_append_right (by rw [List.length_append, be4_len, hml]; omega), List.length_append, be4_len, hml, Nat.sub_self]
    rfl
  have hd : (recP k n v ++ q).drop (5 + (2 + n.length + v.length)) = q := by
    rw [show recP k n v ++ q = (be4 (2 + n.length + v.length) ++ (k :: UInt8.ofNat n.length :: (n ++ v)) ++ [165]) ++ q from by rw [rec_parts]; simp]
    exact List.drop_left' (by rw [List.length_append, List.length_append, be4_len, hml]; simp; omega)
  unfold nextP
  rw [if_neg (by omega), hN, if_neg (by rw [hl, hg]; rintro (h | h | h); omega; omega; exact h rfl), if_neg (by rw [h5n]; omega), h4, h5n, hb, hd]
  have e1 : ((k :: UInt8.ofNat n.length :: (n ++ v)).take (2 + n.length)).drop 2 = n := by
    rw [show k :: UInt8.ofNat n.length :: (n ++ v) = ([k, UInt8.ofNat n.length] ++ n) ++ v from by simp, List.take_left' (by simp; omega)]
    exact List.drop_left' rfl
  have e2 : (k :: UInt8.ofNat n.length :: (n ++ v)).drop (2 + n.length) = v := by
    rw [show k :: UInt8.ofNat n.length :: (n ++ v) = ([k, UInt8.ofNat n.length] ++ n) ++ v from by simp]
    exact List.drop_left' (by simp; omega)
  rw [e1, e2]
theorem zeros_at (c : Bs) (z i : Nat) (h : c.length ≤ i) : (c ++ List.replicate z 0).getD i 0 = 0 := by
  simp only [List.getD]
  rw [List.getElem?_append_right h, List.getElem?_replicate]
  split <;> rfl
/-- A torn record. -/
theorem next_torn {k : UInt8} {n v : Bs} (hn : n.length ≤ 255) (hv : v.length ≤ 1000000) {j : Nat} (hj : j < (recP k n v).length) (z : Nat) : nextP ((recP k n v).take j ++ List.replicate z 0) = none := by
  rw [recP_len] at hj
  have hjl : ((recP k n v).take j).length = j := by rw [List.length_take, recP_len]; omega
  have key : j ≤ 4 + n4p ((recP k n v).take j ++ List.replicate z 0) := by
    by_cases h4 : j ≤ 4
    · omega
    · have e : n4p ((recP k n v).take j ++ List.replicate z 0) = 2 + n.length + v.length := by
        have e1 : recP k n v = be4 (2 + n.length + v.length) ++ ((k :: UInt8.ofNat n.length :: (n ++ v)) ++ [165]) := by have := rec_parts k n v []; rwa [List.append_nil] at this
        rw [e1, List.take_append, be4_len, List.take_of_length_le (by rw [be4_len]; omega), List.append_assoc]
        exact be4_n4p (by omega) _
      omega
  unfold nextP
  split
  · rfl
  · rw [if_pos]
    refine .inr (.inr fun h => ?_)
    rw [zeros_at _ _ _ (by rw [hjl]; exact key)] at h
    exact absurd h (by decide)
theorem next_zeros (z : Nat) : nextP (List.replicate z 0) = none := next_torn (k := 0) (n := []) (v := []) (by decide) (by decide) (j := 0) (by rw [recP_len]; simp) z
theorem next_nil : nextP [] = none := rfl
section
variable {life : Nat} {sl : Bool} {L : List NV} {n v q : Bs}
theorem tell_begin (h : life < 4294967296) : tellP (recP 1 [] (be4 life) ++ q) = tellG false (life, false, []) q := by
  unfold tellP
  rw [tellG_some (next_rec (by simp) (by rw [be4_len]; omega)), if_neg (by decide), if_pos rfl, if_neg (by rw [be4_len]; omega)]
  rw [show n4p (be4 life) = life from be4_n4 h]
theorem tell_entry (hn : n.length ≤ 255) (hv : v.length ≤ 1000000) : tellG false (life, sl, L) (recP 2 n v ++ q) = tellG false (life, sl, putN L (n, v)) q := by
  rw [tellG_some (next_rec hn hv), if_neg (by decide), if_neg (by decide), if_pos rfl]
theorem tell_gone (hn : n.length ≤ 255) : tellG false (life, sl, L) (recP 3 n [] ++ q) = tellG false (life, sl, delN L n) q := by
  rw [tellG_some (next_rec hn (by decide)), if_neg (by decide), if_neg (by decide), if_neg (by decide), if_pos rfl]
theorem tell_seal : tellG false (life, sl, L) (recP 4 [] [] ++ q) = tellG false (life, true, L) q := by
  rw [tellG_some (next_rec (by decide) (by decide)), if_neg (by decide), if_neg (by decide), if_neg (by decide), if_neg (by decide), if_pos rfl]
end
theorem put_last {L : List NV} {x : NV} (h : ∀ y ∈ L, y.1 < x.1) : putN L x = L ++ [x] := by
  unfold putN
  rw [List.filter_eq_self.2 (fun y hy => decide_eq_true (h y hy)), List.filter_eq_nil_iff.2 (fun y hy => by simp only [decide_eq_true_eq]; exact fun h9 => bs_lt_irrefl _ (bs_lt_trans h9 (h y hy)))]
theorem tell_ents {life : Nat} {sl : Bool} {q : Bs} : ∀ (M L : List NV), Rises (M ++ L) → (∀ x ∈ L, x.1.length ≤ 255) → (∀ x ∈ L, x.2.length ≤ 262144) → tellG false (life, sl, M) (entsP L ++ q) = tellG false (life, sl, M ++ L) q
  | M, [], _, _, _ => by simp [entsP]
  | M, x :: L, hr, hn, hv => by
    have e : entsP (x :: L) ++ q = recP 2 x.1 x.2 ++ (entsP L ++ q) := by unfold entsP; simp
    have hlt : ∀ y ∈ M, y.1 < x.1 := fun y hy => (List.pairwise_append.1 hr).2.2 y hy x (List.mem_cons_self ..)
    have hx2 := hv x (List.mem_cons_self ..)
    rw [e, tell_entry (hn x (List.mem_cons_self ..)) (by omega), put_last hlt, tell_ents (M ++ [x]) L (by simpa using hr) (fun y hy => hn y (List.mem_cons_of_mem _ hy)) (fun y hy => hv y (List.mem_cons_of_mem _ hy))]
    simp
/-- Bytes that tell a sealed life, whatever is behind them. -/
def Tells (c : Bs) (life : Nat) (L : List NV) : Prop := ∀ q, tellP (c ++ q) = tellG false (life, true, L) q
theorem all_tells {life : Nat} {L : List NV} (hl : life < 4294967296) (hr : Rises L) (hn : ∀ x ∈ L, x.1.length ≤ 255) (hv : ∀ x ∈ L, x.2.length ≤ 262144) : Tells (allP life L) life L := by
  intro q
  unfold allP
  rw [List.append_assoc, List.append_assoc, tell_begin hl, tell_ents [] L (by simpa using hr) hn hv, tell_seal]
  rfl
theorem Tells.put {c : Bs} {life : Nat} {L : List NV} (h : Tells c life L) {n v : Bs} (hn : n.length ≤ 255) (hv : v.length ≤ 4096) : Tells (c ++ recP 2 n v) life (putN L (n, v)) := by
  intro q; rw [List.append_assoc, h, tell_entry hn (by omega)]
theorem Tells.del {c : Bs} {life : Nat} {L : List NV} (h : Tells c life L) {n : Bs} (hn : n.length ≤ 255) : Tells (c ++ recP 3 n []) life (delN L n) := by
  intro q; rw [List.append_assoc, h, tell_gone hn]
theorem Tells.torn {c q : Bs} {life : Nat} {L : List NV} (h : Tells c life L) (hq : nextP q = none) : tellP (c ++ q) = (life, true, L) := by rw [h, tellG_none hq]
theorem Tells.whole {c : Bs} {life : Nat} {L : List NV} (h : Tells c life L) : tellP c = (life, true, L) := by have := h.torn (q := []) next_nil; rwa [List.append_nil] at this
/-- A record, whatever it says. -/
def IsRec (r : Bs) : Prop := ∃ k n v, r = recP k n v ∧ n.length ≤ 255 ∧ v.length ≤ 1000000
theorem IsRec.torn {r : Bs} (h : IsRec r) {j : Nat} (hj : j < r.length) (z : Nat) : nextP (r.take j ++ List.replicate z 0) = none := by
  obtain ⟨k, n, v, rfl, hn, hv⟩ := h
  exact next_torn hn hv hj z
/-- Records cut anywhere. -/
theorem cut_recs : ∀ (rs : List Bs) (k : Nat), (∀ r ∈ rs, IsRec r) → ∃ j t, j ≤ rs.length ∧ rs.flatten.take k = (rs.take j).flatten ++ t ∧ (∀ z, nextP (t ++ List.replicate z 0) = none) ∧ (j = rs.length → t = [])
  | [], k, _ => ⟨0, [], Nat.le_refl _, by simp, fun z => by simpa using next_zeros z, fun _ => rfl⟩
  | r :: rs, k, h => by
    by_cases hk : k < r.length
    · refine ⟨0, r.take k, Nat.zero_le _, ?_, fun z => (h r (List.mem_cons_self ..)).torn hk z, fun e => by simp at e⟩
      rw [List.flatten_cons, List.take_append_of_le_length (by omega)]
      rfl
    · obtain ⟨j, t, h1, h2, h3, h4⟩ := cut_recs rs (k - r.length) fun x hx => h x (List.mem_cons_of_mem _ hx)
      refine ⟨j + 1, t, by simp; omega, ?_, h3, fun e => h4 (by simpa using e)⟩
      rw [List.flatten_cons, List.take_append, List.take_of_length_le (by omega), h2, List.take_succ_cons, List.flatten_cons, List.append_assoc]
/-- The records of a new life. -/
def allRs (life : Nat) (L : List NV) : List Bs := recP 1 [] (be4 life) :: (L.map fun y => recP 2 y.1 y.2) ++ [recP 4 [] []]
theorem allRs_flat (life : Nat) (L : List NV) : (allRs life L).flatten = allP life L := by
  unfold allRs allP entsP
  simp [List.flatMap_def]
theorem allRs_recs {life : Nat} {L : List NV} (hn : ∀ x ∈ L, x.1.length ≤ 255) (hv : ∀ x ∈ L, x.2.length ≤ 262144) : ∀ r ∈ allRs life L, IsRec r := by
  intro r hr
  unfold allRs at hr
  rcases List.mem_append.1 hr with hr | hr
  · rcases List.mem_cons.1 hr with rfl | hr
    · exact ⟨_, _, _, rfl, by simp, by rw [be4_len]; omega⟩
    · obtain ⟨x, hx, rfl⟩ := List.mem_map.1 hr
      have := hv x hx
      exact ⟨_, _, _, rfl, hn x hx, by omega⟩
  · simp at hr; subst hr; exact ⟨_, _, _, rfl, by simp, by simp⟩
/-- A new life that is torn isn't sealed. -/
theorem torn_unsealed {life : Nat} {L : List NV} (hl : life < 4294967296) (hr : Rises L) (hn : ∀ x ∈ L, x.1.length ≤ 255) (hv : ∀ x ∈ L, x.2.length ≤ 262144) {j : Nat} (hj : j < (allRs life L).length) {q : Bs} (hq : nextP q = none) : (tellP (((allRs life L).take j).flatten ++ q)).2.1 = false := by
  cases j with
  | zero => simp only [List.take_zero, List.flatten_nil, List.nil_append]; unfold tellP; rw [tellG_none hq]
  | succ i =>
    have hi : i ≤ L.length := by unfold allRs at hj; simp at hj; omega
    have e : ((allRs life L).take (i + 1)).flatten = recP 1 [] (be4 life) ++ entsP (L.take i) := by
      unfold allRs entsP
      rw [List.cons_append, List.take_succ_cons, List.flatten_cons, List.take_append_of_le_length (by simpa using hi), ← List.map_take, List.flatMap_def]
    rw [e, List.append_assoc, tell_begin hl, tell_ents [] (L.take i) (by rw [List.nil_append]; exact List.Pairwise.sublist (List.take_sublist i L) hr) (fun x hx => hn x (List.mem_of_mem_take hx)) (fun x hx => hv x (List.mem_of_mem_take hx)), tellG_none hq]
end Go.Proofs.Ytidcdfilfccigaa
