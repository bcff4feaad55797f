/- Kept and given back, moved there and back: the same till. Plain. -/
import Derived.Test.YtmcfmabnggffjaaTillMove
namespace Go.Proofs.Ytmcfmabnggffjaa
set_option linter.unusedVariables false
set_option linter.unusedSimpArgs false
set_option linter.unnecessarySimpa false
open Go

theorem back_sets {l : List Int} {i j : Nat} {n x y z : Int} (hx : l.getD i 0 = x) (hi : i < l.length) (hj : j < l.length) (hy : (l.set i (x - n)).getD j 0 = y)
    (hz : (((l.set i (x - n)).set j (y + n)).set j (y + n - n)).getD i 0 = z) : (((l.set i (x - n)).set j (y + n)).set j (y + n - n)).set i (z + n) = l := by
  have hx' : l[i] = x := by rw [← hx]; simp [hi]
  have hy' : y = if i = j then x - n else l[j] := by
    rw [← hy]; simp [hj, List.getElem?_set, hi]; split <;> simp_all
  have hz' : z = if j = i then y + n - n else x - n := by
    rw [← hz]; simp [hi, hj, List.getElem?_set]; split <;> simp_all
  apply List.ext_getElem (by simp)
  intro k h1 h2
  simp only [List.getElem_set]
  by_cases hik : i = k
  · subst hik
    rw [if_pos rfl, hz', hx']
    by_cases hji : j = i
    · subst hji
      rw [if_pos rfl, hy', if_pos rfl]; omega
    · rw [if_neg hji]; omega
  · rw [if_neg hik]
    by_cases hjk : j = k
    · subst hjk
      rw [if_pos rfl, hy', if_neg hik]; omega
    · rw [if_neg hjk, if_neg hjk, if_neg hik]
theorem keep_give {t : Tl} {who n : Int} (k0 : 0 ≤ t.kept) (n0 : 0 ≤ n) (hk : keepE t who n = 0) : giveE (keepS t who n) who n = 0 ∧ giveS (keepS t who n) who n = t := by
  have hi : t.inB who := by
    unfold keepE at hk; split at hk
    · assumption
    · cases hk
  have hg := give_after k0 hk hi n0
  refine ⟨hg, ?_⟩
  obtain ⟨i, rfl, hil⟩ := Tl.inB_nat hi
  unfold giveS; rw [if_pos hg]
  have hs : keepS t i n = { t with has := t.has.set i (t.has.getD i 0 - n), kept := t.kept + n } := by unfold keepS; rw [if_pos hk, Int.toNat_natCast]
  rw [hs]
  simp only [Int.toNat_natCast, Int.add_sub_cancel]
  have h1 : (t.has.set i (t.has.getD i 0 - n)).getD i 0 = t.has.getD i 0 - n := by simp [hil]
  rw [h1, List.set_set, Int.sub_add_cancel]
  have h2 : t.has.set i (t.has.getD i 0) = t.has := by
    apply List.ext_getElem (by simp)
    intro k a b
    rw [List.getElem_set]
    split
    · rename_i e; subst e; simp [b]
    · rfl
  rw [h2]
theorem move_back {t : Tl} {a b n : Int} (ok : t.Ok) (n0 : 0 ≤ n) (hm : moveE t a b n = 0) : moveE (moveS t a b n) b a n = 0 ∧ moveS (moveS t a b n) b a n = t := by
  have hab : t.inB a ∧ t.inB b := by
    unfold moveE at hm; split at hm
    · assumption
    · cases hm
  obtain ⟨i, rfl, hi⟩ := Tl.inB_nat hab.1
  obtain ⟨j, rfl, hj⟩ := Tl.inB_nat hab.2
  have hx : ¬ t.has.getD i 0 < n := by
    unfold moveE at hm; rw [if_pos hab, Int.toNat_natCast] at hm
    intro h; rw [if_pos h] at hm; cases hm
  obtain ⟨e1, s1⟩ := move_ok hi hj rfl hx ok.k0 n0
  have hy0 : 0 ≤ (t.has.set i (t.has.getD i 0 - n)).getD j 0 := ((ok.h.set ⟨by omega, by have := (ok.h.getD hi).2; omega⟩).getD (by simpa using hj)).1
  obtain ⟨y, hy⟩ : ∃ y, (t.has.set i (t.has.getD i 0 - n)).getD j 0 = y := ⟨_, rfl⟩
  rw [hy] at s1 hy0
  have hg : ((t.has.set i (t.has.getD i 0 - n)).set j (y + n)).getD j 0 = y + n := by simp [hj]
  have h2 := move_ok (t := { t with has := (t.has.set i (t.has.getD i 0 - n)).set j (y + n) }) (i := j) (j := i) (n := n) (x := y + n) (by simpa using hj) (by simpa using hi) hg (by omega) ok.k0 n0
  rw [s1]
  refine ⟨h2.1, h2.2.trans ?_⟩
  dsimp only
  rw [back_sets rfl hi hj hy rfl]
end Go.Proofs.Ytmcfmabnggffjaa
