/- Plain: what whole records tell, and torn ones. -/
import Derived.Test.YtidcdfilfccigaaLgP
namespace Go.Proofs.Ytidcdfilfccigaa
set_option linter.unusedVariables false
set_option linter.unusedSimpArgs false
set_option linter.unnecessarySimpa false
open Go Go.RowKit

theorem be4_n4 {N : Nat} (h : N < 4294967296) : n4 (UInt8.ofNat (N / 2 ^ 24)) (UInt8.ofNat (N / 2 ^ 16)) (UInt8.ofNat (N / 2 ^ 8)) (UInt8.ofNat (N / 2 ^ 0)) = N := by
  unfold n4
  simp only [UInt8.toNat_ofNat', Nat.reducePow]
  omega
theorem be4_n4p {N : Nat} (h : N < 4294967296) (q : Bs) : n4p (be4 N ++ q) = N := be4_n4 h
theorem rec_parts (k : UInt8) (n v q : Bs) : recP k n v ++ q = be4 (2 + n.length + v.length) ++ ((k :: UInt8.ofNat n.length :: (n ++ v)) ++ (165 :: q)) := by
  simp [recP]
theorem next_rec {k : UInt8} {n v q : Bs} (hn : n.length ≤ 255) (hv : v.length ≤ 1000000) : nextP (recP k n v ++ q) = some (k, n, v, q) := by
  have hN : n4p (recP k n v ++ q) = 2 + n.length + v.length := by rw [rec_parts]; exact be4_n4p (by omega) _
  have hl : (recP k n v ++ q).length = 7 + n.length + v.length + q.length := by rw [List.length_append, recP_len]
  have h5 : (recP k n v ++ q).getD 5 0 = UInt8.ofNat n.length := by rw [rec_parts]; rfl
  have h4 : (recP k n v ++ q).getD 4 0 = k := by rw [rec_parts]; rfl
  have h5n : ((recP k n v ++ q).getD 5 0).toNat = n.length := by rw [h5]; simp; omega
  have hml : (k :: UInt8.ofNat n.length :: (n ++ v)).length = 2 + n.length + v.length := by simp; omega
  have ht : (recP k n v ++ q).take (4 + (2 + n.length + v.length)) = be4 (2 + n.length + v.length) ++ (k :: UInt8.ofNat n.length :: (n ++ v)) := by
    rw [rec_parts, ← List.append_assoc]
    exact List.take_left' (by rw [List.length_append, be4_len, hml])
  have hb : bodyP (recP k n v ++ q) (2 + n.length + v.length) = k :: UInt8.ofNat n.length :: (n ++ v) := by
    unfold bodyP
    rw [ht]
    exact List.drop_left' (be4_len _)
  have hg : (recP k n v ++ q).getD (4 + (2 + n.length + v.length)) 0 = 165 := by
    rw [rec_parts, ← List.append_assoc]
    simp only [List.getD]
    rw [List.getElem?_append_right (by rw [List.length_append, be4_len, hml]; omega), List.length_append, be4_len, hml, Nat.sub_self]
    rfl
  have hd : (recP k n v ++ q).drop (5 + (2 + n.length + v.length)) = q := by
    rw [show recP k n v ++ q = (be4 (2 + n.length + v.length) ++ (k :: UInt8.ofNat n.length :: (n ++ v)) ++ [165]) ++ q from by rw [rec_parts]; simp]
    exact List.drop_left' (by rw [List.length_append, List.length_append, be4_len, hml]; simp; omega)
  unfold nextP
  rw [if_neg (by omega), hN, if_neg (by rw [hl, hg]; rintro (h | h | h); omega; omega; exact h rfl), if_neg (by rw [h5n]; omega), h4, h5n, hb, hd]
  have e1 : ((k :: UInt8.ofNat n.length :: (n ++ v)).take (2 + n.length)).drop 2 = n := by
    rw [show k :: UInt8.ofNat n.length :: (n ++ v) = ([k, UInt8.ofNat n.length] ++ n) ++ v from by simp, List.take_left' (by simp; omega)]
    exact List.drop_left' rfl
  have e2 : (k :: UInt8.ofNat n.length :: (n ++ v)).drop (2 + n.length) = v := by
    rw [show k :: UInt8.ofNat n.length :: (n ++ v) = ([k, UInt8.ofNat n.length] ++ n) ++ v from by simp]
    exact List.drop_left' (by simp; omega)
  rw [e1, e2]
section
variable {life : Nat} {sl : Bool} {L : List NV} {n v q : Bs}
theorem tell_entry (hn : n.length ≤ 255) (hv : v.length ≤ 1000000) : tellG false (life, sl, L) (recP 2 n v ++ q) = tellG false (life, sl, putN L (n, v)) q := by
  rw [tellG_some (next_rec hn hv), if_neg (by decide), if_neg (by decide), if_pos rfl]
end
/-- Bytes that tell a sealed life, whatever is behind them. -/
def Tells (c : Bs) (life : Nat) (L : List NV) : Prop := ∀ q, tellP (c ++ q) = tellG false (life, true, L) q
theorem Tells.put {c : Bs} {life : Nat} {L : List NV} (h : Tells c life L) {n v : Bs} (hn : n.length ≤ 255) (hv : v.length ≤ 4096) : Tells (c ++ recP 2 n v) life (putN L (n, v)) := by
  intro q; rw [List.append_assoc, h, tell_entry hn (by omega)]
end Go.Proofs.Ytidcdfilfccigaa
