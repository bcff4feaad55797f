/- Ideals: what each step comes to, case by case: plain. -/
import Derived.Test.YtecgpkjigbhneaaIdlQ
namespace Go.Proofs.Ytecgpkjigbhneaa
set_option linter.unusedVariables false
set_option linter.unusedSimpArgs false
set_option linter.unnecessarySimpa false
open Go Go.RowKit

/-- Is there an account? -/
def inB (n : Nat) (who : Int) : Bool := decide (0 ≤ who ∧ who < (n : Int))
theorem inB_t {n : Nat} {who : Int} (h : inB n who = true) : ∃ k : Nat, who = (k : Int) ∧ k < n := by
  have := of_decide_eq_true h
  exact ⟨who.toNat, by omega, by omega⟩
theorem inB_f {n : Nat} {who : Int} (h : inB n who = false) : who < 0 ∨ (n : Int) ≤ who := by
  have := of_decide_eq_false h
  omega
section
variable {I : Idl} {id who am : Int} {n u s : Nat} {h : Int} {f : Int × Int}
theorem put_err (hs : (sideP24 I.ends id who).2 ≠ 0) : putP I id who am = (I, (sideP24 I.ends id who).2) := if_pos hs
theorem put_zero (hs : (sideP24 I.ends id who).2 = 0) (ha : am = 0) : putP I id who am = (I, 1) := by unfold putP; rw [if_neg (by omega), if_pos ha]
theorem put_under (hs : sideP24 I.ends id (u : Int) = ((s : Int), 0)) (ha : ¬ am = 0) (hh : I.has[u]? = some h) (hle : h < am) : putP I id (u : Int) am = (I, 12) := by
  unfold putP; rw [hs, if_neg (by simp), if_neg ha, Int.toNat_natCast, getD_of hh, if_pos hle]
theorem put_ok (hs : sideP24 I.ends (n : Int) (u : Int) = ((s : Int), 0)) (ha : ¬ am = 0) (hh : I.has[u]? = some h) (hle : ¬ h < am) (hf : I.free[n]? = some f) : putP I (n : Int) (u : Int) am = (⟨I.has.set u (h - am), I.ends, I.free.set n (addN f s am), I.pays⟩, 0) := by
  unfold putP; rw [hs, if_neg (by simp), if_neg ha, Int.toNat_natCast, Int.toNat_natCast, getD_of hh, if_neg hle, addF_of hf, Int.toNat_natCast]
theorem spend_err (hs : (sideP24 I.ends id who).2 ≠ 0) : spendP I id who am = (0, (sideP24 I.ends id who).2) := if_pos hs
theorem spend_zero (hs : (sideP24 I.ends id who).2 = 0) (ha : am = 0) : spendP I id who am = (0, 1) := by unfold spendP; rw [if_neg (by omega), if_pos ha]
theorem spend_room (hs : sideP24 I.ends (n : Int) who = ((s : Int), 0)) (ha : ¬ am = 0) (hf : I.free[n]? = some f) (hle : frN f s < am) : spendP I (n : Int) who am = (0, 28) := by
  unfold spendP; rw [hs, if_neg (by simp), if_neg ha, Int.toNat_natCast, getD_of hf, Int.toNat_natCast, if_pos hle]
theorem spend_is (hs : sideP24 I.ends (n : Int) who = ((s : Int), 0)) (ha : ¬ am = 0) (hf : I.free[n]? = some f) (hle : ¬ frN f s < am) : spendP I (n : Int) who am = ((s : Int), 0) := by
  unfold spendP; rw [hs, if_neg (by simp), if_neg ha, Int.toNat_natCast, getD_of hf, Int.toNat_natCast, if_neg hle]
theorem take_err {e : Int × Int} (h : spendP I id who am = e) (he : e.2 ≠ 0) : takeP I id who am = (I, e.2) := by subst h; exact if_pos he
theorem take_ok (hs : spendP I (n : Int) (u : Int) am = ((s : Int), 0)) (hh : I.has[u]? = some h) (hf : I.free[n]? = some f) : takeP I (n : Int) (u : Int) am = (⟨I.has.set u (h + am), I.ends, I.free.set n (addN f s (-am)), I.pays⟩, 0) := by
  unfold takeP; rw [hs, if_neg (by simp), Int.toNat_natCast, Int.toNat_natCast, getD_of hh, addF_of hf, Int.toNat_natCast]
theorem move_err {e : Int × Int} (h : spendP I id who am = e) (he : e.2 ≠ 0) : moveP I id who am = (I, e.2) := by subst h; exact if_pos he
theorem move_ok (hs : spendP I (n : Int) who am = ((s : Int), 0)) (hf : I.free[n]? = some f) : moveP I (n : Int) who am = (⟨I.has, I.ends, I.free.set n (addN (addN f s (-am)) (1 - s) am), I.pays⟩, 0) := by
  have h1 := (List.getElem?_eq_some_iff.1 hf).1
  unfold moveP; rw [hs, if_neg (by simp), Int.toNat_natCast, Int.toNat_natCast, addF_of (addF_get hf s (-am)), addF_of hf, List.set_set]
end
/-- Payments, by their numbers. -/
theorem find_at {l : List Pay} {id : Int} {i : Nat} {p : Pay} (hd : (l.map Pay.id).Nodup) (h : l[i]? = some p) (hid : p.id = id) : findP l id = some i := by
  obtain ⟨hi, he⟩ := List.getElem?_eq_some_iff.1 h
  unfold findP
  rw [List.findIdx?_eq_some_iff_getElem]
  refine ⟨hi, by rw [he]; simp [hid], fun j hj => ?_⟩
  have hji : j < l.length := by omega
  intro hq
  have h1 : (l.map Pay.id)[j]? = (l.map Pay.id)[i]? := by
    rw [List.getElem?_map, List.getElem?_map, List.getElem?_eq_getElem hji, h]
    simp only [Option.map_some]
    rw [hid, beq_iff_eq.1 hq]
  have := (List.getElem?_inj (by simpa using hji) hd).1 h1
  omega
theorem find_no {l : List Pay} {id : Int} (h : ∀ (i : Nat) (p : Pay), l[i]? = some p → p.id ≠ id) : findP l id = none := by
  unfold findP
  rw [List.findIdx?_eq_none_iff]
  intro p hp
  obtain ⟨i, hi, rfl⟩ := List.getElem_of_mem hp
  simpa using h i _ (List.getElem?_eq_getElem hi)
section
variable {I : Idl} {id fr : Int} {E A : List Int} {i : Nat} {p : Pay} {paid : Bool}
theorem beg_arg (h : E.length ≠ A.length ∨ E.length < 1 ∨ 7 < E.length) : begP I id fr E A = (I, 1) := if_pos h
theorem beg_twice (h : ¬ (E.length ≠ A.length ∨ E.length < 1 ∨ 7 < E.length)) (hf : findP I.pays id ≠ none) : begP I id fr E A = (I, 7) := by unfold begP; rw [if_neg h, if_pos hf]
theorem beg_err (h : ¬ (E.length ≠ A.length ∨ E.length < 1 ∨ 7 < E.length)) (hf : findP I.pays id = none) {r : Int × List (Int × Int) × List Leg} (hb : begF I.ends I.free fr none E A = r) (hr : r.1 ≠ 0) : begP I id fr E A = (I, r.1) := by
  subst hb; unfold begP; rw [if_neg h, if_neg (by simp [hf]), if_pos hr]
theorem beg_ok (h : ¬ (E.length ≠ A.length ∨ E.length < 1 ∨ 7 < E.length)) (hf : findP I.pays id = none) {F : List (Int × Int)} {L : List Leg} (hb : begF I.ends I.free fr none E A = (0, F, L)) : begP I id fr E A = (⟨I.has, I.ends, F, I.pays ++ [⟨id, 0, L⟩]⟩, 0) := by
  unfold begP; rw [if_neg h, if_neg (by simp [hf]), hb, if_neg (by simp)]
theorem end_none (hf : findP I.pays id = none) : endP I id paid = (I, 6) := by unfold endP; rw [hf]
theorem end_state (hf : findP I.pays id = some i) (hp : I.pays[i]? = some p) (hs : ¬ p.state = 0) : endP I id paid = (I, 3) := by unfold endP; rw [hf]; simp only [hp]; rw [if_pos hs]
theorem end_ok (hf : findP I.pays id = some i) (hp : I.pays[i]? = some p) (hs : p.state = 0) : endP I id paid = (⟨I.has, I.ends, payL paid I.free p.legs, I.pays.set i ⟨p.id, if paid = true then 1 else 2, p.legs⟩⟩, 0) := by
  unfold endP; rw [hf]; simp only [hp]; rw [if_neg (by omega)]
theorem close_none (h : id < 0 ∨ (I.ends.length : Int) ≤ id) : closeP I id = (I, 6) := by unfold closeP; exact if_pos h
theorem close_state {n : Nat} (h : n < I.ends.length) (ho : overL I.pays n) : closeP I (n : Int) = (I, 3) := by unfold closeP; rw [if_neg (by omega), Int.toNat_natCast, if_pos ho]
theorem close_ok {n a b : Nat} {x y : Int} {f : Int × Int} (he : I.ends[n]? = some (a, b)) (hf : I.free[n]? = some f) (hx : I.has[a]? = some x) (hy : I.has[b]? = some y) (ho : ¬ overL I.pays n) : closeP I (n : Int) = (⟨(I.has.set a (x + f.1)).set b (y + f.2), I.ends, I.free.set n (0, 0), I.pays⟩, 0) := by
  have h := (List.getElem?_eq_some_iff.1 he).1
  unfold closeP; rw [if_neg (by omega), Int.toNat_natCast, if_neg ho, getD_of he, getD_of hf]
  simp only [getD_of hx, getD_of hy]
end
end Go.Proofs.Ytecgpkjigbhneaa
