/- Ideals: a payment that comes back; accounts in a row: plain. -/
import Derived.Test.YtecgpkjigbhneaaIdlX
namespace Go.Proofs.Ytecgpkjigbhneaa
set_option linter.unusedVariables false
set_option linter.unusedSimpArgs false
set_option linter.unnecessarySimpa false
open Go Go.RowKit

/-- Two ideals that look alike. -/
structure SameI (I K : Idl) : Prop where
  has : K.has = I.has
  ends : K.ends = I.ends
  free : K.free = I.free
  held : heldP K.pays = heldP I.pays
theorem SameI.hasP {I K : Idl} (h : SameI I K) (who : Int) : hasP K who = hasP I who := by unfold Proofs.Ytecgpkjigbhneaa.hasP; rw [h.has]
theorem SameI.freeP {I K : Idl} (h : SameI I K) (id who : Int) : freeP K id who = freeP I id who := by unfold Proofs.Ytecgpkjigbhneaa.freeP; rw [h.ends, h.free]
theorem SameI.tot {I K : Idl} (h : SameI I K) : totI K = totI I := by unfold totI; rw [h.held, h.has, h.free]
theorem beg_same {I : Idl} {id fr : Int} {E A : List Int} (h : (begP I id fr E A).2 ≠ 0) : SameI I (begP I id fr E A).1 := by
  have : (begP I id fr E A).1 = I := by
    unfold begP at h ⊢
    split
    · rfl
    · rename_i h1
      rw [if_neg h1] at h
      split
      · rfl
      · rename_i h2
        rw [if_neg h2] at h
        split
        · rfl
        · rename_i h3
          rw [if_neg h3] at h
          exact absurd rfl h
  rw [this]; exact ⟨rfl, rfl, rfl, rfl⟩
theorem beg_zero {I : Idl} {id fr : Int} {E A : List Int} (h : (begP I id fr E A).2 = 0) : findP I.pays id = none ∧ begP I id fr E A = (⟨I.has, I.ends, (begF I.ends I.free fr none E A).2.1, I.pays ++ [⟨id, 0, (begF I.ends I.free fr none E A).2.2⟩]⟩, 0) := by
  unfold begP at h ⊢
  split
  · rename_i h1; rw [if_pos h1] at h; cases h
  · rename_i h1
    rw [if_neg h1] at h
    split
    · rename_i h2; rw [if_pos h2] at h; cases h
    · rename_i h2
      rw [if_neg h2] at h
      split
      · rename_i h3; rw [if_pos h3] at h; exact absurd h h3
      · refine ⟨?_, rfl⟩
        cases hq : findP I.pays id with
        | none => rfl
        | some i => exact absurd (by rw [hq]; simp) h2
theorem back_same {I : Idl} (ok : IOk I) {id fr : Int} {E A : List Int} (hA : ∀ a ∈ A, 0 ≤ a) (h : (begP I id fr E A).2 = 0) : (endP (begP I id fr E A).1 id false).2 = 0 ∧ SameI I (endP (begP I id fr E A).1 id false).1 := by
  obtain ⟨hf, hb⟩ := beg_zero h
  have okK := (beg_keeps ok (id := id) (fr := fr) (E := E) hA).1
  obtain ⟨_, _, _, _, _, i6⟩ := begF_ok E A I.free fr none ok.fl ok.fu hA
  rw [hb] at okK ⊢
  generalize begF I.ends I.free fr none E A = r at okK i6 ⊢
  have hp : (I.pays ++ [(⟨id, 0, r.2.2⟩ : Pay)])[I.pays.length]? = some ⟨id, 0, r.2.2⟩ := by simp
  have he := end_ok (I := ⟨I.has, I.ends, r.2.1, I.pays ++ [⟨id, 0, r.2.2⟩]⟩) (paid := false) (find_at okK.ids hp rfl) hp rfl
  dsimp only at he ⊢
  rw [he]
  refine ⟨rfl, rfl, rfl, i6, ?_⟩
  show heldP ((I.pays ++ [(⟨id, 0, r.2.2⟩ : Pay)]).set I.pays.length ⟨id, 2, r.2.2⟩) = heldP I.pays
  rw [List.set_append_right _ _ (Nat.le_refl _), Nat.sub_self, List.set_cons_zero]
  unfold heldP
  rw [List.map_append, sumI_app]
  simp [sumI, heldOf]
end Go.Proofs.Ytecgpkjigbhneaa
