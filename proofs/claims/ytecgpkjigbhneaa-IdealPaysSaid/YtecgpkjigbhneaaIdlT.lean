/- The document's ideal: what the walks lean on. -/
import Derived.Test.YtecgpkjigbhneaaIdlS
namespace Go.Proofs.Ytecgpkjigbhneaa
set_option linter.unusedVariables false
set_option linter.unusedSimpArgs false
set_option linter.unnecessarySimpa false
open Go Go.RowKit

/-- Where a payment stands. -/
def findV (l : List Pay) (id : Int) : Int := match findP l id with
  | some i => (i : Int)
  | none => -1
theorem find_first {l : List Pay} {id : Int} {i : Nat} {p : Pay} (h : l[i]? = some p) (hid : p.id = id) (hb : ∀ (j : Nat) (q : Pay), j < i → l[j]? = some q → q.id ≠ id) : findP l id = some i := by
  obtain ⟨hi, he⟩ := List.getElem?_eq_some_iff.1 h
  unfold findP
  rw [List.findIdx?_eq_some_iff_getElem]
  refine ⟨hi, by rw [he]; simp [hid], fun j hj => ?_⟩
  simpa using hb j _ hj (List.getElem?_eq_getElem (by omega))
theorem findV_some {l : List Pay} {id : Int} {i : Nat} (h : findP l id = some i) : findV l id = (i : Int) := by unfold findV; rw [h]
theorem findV_none {l : List Pay} {id : Int} (h : findP l id = none) : findV l id = -1 := by unfold findV; rw [h]
theorem rlook_cases {qs : List PayR} {l : List Pay} (h : qs.map PayR.p = l) (cid : Int) : (findP l cid = none ∧ findV l cid = -1) ∨ (∃ (iq : Nat) (q : PayR), findP l cid = some iq ∧ qs[iq]? = some q ∧ l[iq]? = some q.p ∧ q.p.id = cid ∧ findV l cid = (iq : Int)) := by
  cases hf : findP l cid with
  | none => exact .inl ⟨rfl, findV_none hf⟩
  | some i =>
    obtain ⟨p, hp, hid⟩ := find_some hf
    have hps : (qs.map PayR.p)[i]? = some p := by rw [h]; exact hp
    rw [List.getElem?_map] at hps
    cases hm : qs[i]? with
    | none => rw [hm] at hps; cases hps
    | some m =>
      rw [hm] at hps
      simp only [Option.map_some, Option.some.injEq] at hps
      subst hps
      exact .inr ⟨i, m, rfl, hm, hp, hid, findV_some hf⟩
theorem qs_at {qs : List PayR} {l : List Pay} (h : qs.map PayR.p = l) {i : Nat} {q : PayR} (hq : qs[i]? = some q) : l[i]? = some q.p := by rw [← h, List.getElem?_map, hq]; rfl
theorem qs_len {qs : List PayR} {l : List Pay} (h : qs.map PayR.p = l) : qs.length = l.length := by rw [← h, List.length_map]
theorem legRows_set {qs : List PayR} {i : Nat} {m m' : PayR} (hm : qs[i]? = some m) (h : legRows m' = legRows m) : (qs.set i m').flatMap legRows = qs.flatMap legRows := by
  have e : ∀ (l : List PayR), l.flatMap legRows = (l.map legRows).flatten := fun l => by rw [List.flatMap_def]
  rw [e, e, List.map_set, h, set_same24 (by simp [hm])]
/-- A payment's channel. -/
def overP1 (p : Pay) (n : Nat) (k : Nat) : Prop := p.state = 0 ∧ ∃ g ∈ p.legs.take k, g.edge = n
theorem overP1_zero (p : Pay) (n : Nat) : ¬ overP1 p n 0 := by rintro ⟨_, g, hg, _⟩; simp at hg
theorem overP1_next {p : Pay} {n k : Nat} {g : Leg} (h : ¬ overP1 p n k) (hg : p.legs[k]? = some g) (hn : ¬ (p.state = 0 ∧ (g.edge : Int) = (n : Int))) : ¬ overP1 p n (k + 1) := by
  rintro ⟨h1, x, hx, h2⟩
  rw [List.take_add_one, hg] at hx
  rcases List.mem_append.1 hx with hx | hx
  · exact h ⟨h1, x, hx, h2⟩
  · simp at hx; subst hx; exact hn ⟨h1, by omega⟩
def overTo (l : List Pay) (n i : Nat) : Prop := overL (l.take i) n
theorem overTo_zero (l : List Pay) (n : Nat) : ¬ overTo l n 0 := by rintro ⟨p, hp, _⟩; simp at hp
theorem overTo_next {l : List Pay} {n i : Nat} {p : Pay} (h : ¬ overTo l n i) (hp : l[i]? = some p) (hn : ¬ overP1 p n p.legs.length) : ¬ overTo l n (i + 1) := by
  rintro ⟨q, hq, h1, g, hg, h2⟩
  rw [List.take_add_one, hp] at hq
  rcases List.mem_append.1 hq with hq | hq
  · exact h ⟨q, hq, h1, g, hg, h2⟩
  · simp at hq; subst hq; exact hn ⟨h1, g, by rw [List.take_length]; exact hg, h2⟩
theorem overTo_all {l : List Pay} {n : Nat} (h : ¬ overTo l n l.length) : ¬ overL l n := by unfold overTo at h; rw [List.take_length] at h; exact h
theorem over_at {l : List Pay} {n : Nat} {p : Pay} {k i : Nat} {g : Leg} (hp : l[i]? = some p) (hs : p.state = 0) (hg : p.legs[k]? = some g) (he : (g.edge : Int) = (n : Int)) : overL l n := ⟨p, List.mem_of_getElem? hp, hs, g, List.mem_of_getElem? hg, by omega⟩
/-- The first payments' sums. -/
def heldTo (l : List Pay) (i : Nat) : Int := heldP (l.take i)
theorem heldTo_snoc {l : List Pay} {i : Nat} {p : Pay} (h : l[i]? = some p) : heldTo l (i + 1) = heldTo l i + heldOf p := by
  unfold heldTo heldP
  rw [List.take_add_one, h, List.map_append, sumI_app]
  simp [sumI]
theorem heldTo_le {I : Idl} (ok : IOk I) (i : Nat) : 0 ≤ heldTo I.pays i ∧ heldTo I.pays i ≤ heldP I.pays := by
  have h1 : 0 ≤ heldTo I.pays i := sumI_nn _ fun a ha => by
    rw [List.mem_map] at ha
    obtain ⟨p, hp, rfl⟩ := ha
    exact heldOf_nn ok (List.mem_of_mem_take hp)
  have h2 : 0 ≤ heldP (I.pays.drop i) := sumI_nn _ fun a ha => by
    rw [List.mem_map] at ha
    obtain ⟨p, hp, rfl⟩ := ha
    exact heldOf_nn ok (List.mem_of_mem_drop hp)
  have h3 : heldP I.pays = heldTo I.pays i + heldP (I.pays.drop i) := by
    unfold heldTo heldP
    rw [← sumI_app, ← List.map_append, List.take_append_drop]
  omega
def openTo (p : Pay) (k : Nat) : Int := if p.state = 0 then legSum (p.legs.take k) else 0
theorem openTo_zero (p : Pay) : openTo p 0 = 0 := by unfold openTo; split <;> rfl
theorem openTo_yes {p : Pay} {k : Nat} {g : Leg} (hs : p.state = 0) (h : p.legs[k]? = some g) : openTo p (k + 1) = openTo p k + g.am := by
  unfold openTo
  rw [if_pos hs, if_pos hs, List.take_add_one, h, legSum_app]
  simp [legSum, sumI]
theorem openTo_no {p : Pay} {k : Nat} (hs : ¬ p.state = 0) : openTo p (k + 1) = openTo p k := by unfold openTo; rw [if_neg hs, if_neg hs]
theorem openTo_all (p : Pay) : openTo p p.legs.length = heldOf p := by unfold openTo heldOf; rw [List.take_length]
theorem openTo_le {p : Pay} (h : ∀ x ∈ p.legs, 0 ≤ x.am) (k : Nat) : 0 ≤ openTo p k ∧ openTo p k ≤ heldOf p := by
  have h1 : 0 ≤ legSum (p.legs.take k) := legSum_nn fun x hx => h x (List.mem_of_mem_take hx)
  have h2 : 0 ≤ legSum (p.legs.drop k) := legSum_nn fun x hx => h x (List.mem_of_mem_drop hx)
  have h3 : legSum p.legs = legSum (p.legs.take k) + legSum (p.legs.drop k) := by rw [← legSum_app, List.take_append_drop]
  unfold openTo heldOf
  split <;> omega
/-- An end spends: the ideal behind it. -/
def spendI (I : Idl) (id who am : Int) : Idl := if (spendP I id who am).2 ≠ 0 then I else ⟨I.has, I.ends, addF I.free id.toNat (spendP I id who am).1.toNat (-am), I.pays⟩
theorem spendI_err {I : Idl} {id who am : Int} {e : Int × Int} (h : spendP I id who am = e) (he : e.2 ≠ 0) : spendI I id who am = I := by subst h; exact if_pos he
theorem spendI_ok {I : Idl} {n s : Nat} {who am : Int} {f : Int × Int} (hs : spendP I (n : Int) who am = ((s : Int), 0)) (hf : I.free[n]? = some f) : spendI I (n : Int) who am = ⟨I.has, I.ends, I.free.set n (addN f s (-am)), I.pays⟩ := by
  unfold spendI; rw [hs, if_neg (by simp), Int.toNat_natCast, addF_of hf, Int.toNat_natCast]
theorem spend_alt {I : Idl} (ok : IOk I) (cid who am : Int) : (∃ er : Int, er ≠ 0 ∧ spendP I cid who am = (0, er) ∧ spendI I cid who am = I) ∨
    (∃ (nn pa qa : Nat) (xf : Int × Int) (xh xk : Int), cid = (nn : Int) ∧ who = (pa : Int) ∧ I.ends[nn]? = some (pa, qa) ∧ I.free[nn]? = some xf ∧ I.has[pa]? = some xh ∧ I.has[qa]? = some xk ∧ am ≤ xf.1 ∧ spendP I (nn : Int) (pa : Int) am = (0, 0) ∧ spendI I (nn : Int) (pa : Int) am = ⟨I.has, I.ends, I.free.set nn (xf.1 - am, xf.2), I.pays⟩) ∨
    (∃ (nn pa qa : Nat) (xf : Int × Int) (xh xk : Int), cid = (nn : Int) ∧ who = (qa : Int) ∧ I.ends[nn]? = some (pa, qa) ∧ I.free[nn]? = some xf ∧ I.has[qa]? = some xh ∧ I.has[pa]? = some xk ∧ am ≤ xf.2 ∧ spendP I (nn : Int) (qa : Int) am = (1, 0) ∧ spendI I (nn : Int) (qa : Int) am = ⟨I.has, I.ends, I.free.set nn (xf.1, xf.2 - am), I.pays⟩) := by
  by_cases h : (spendP I cid who am).2 = 0
  · right
    obtain ⟨n, s, e, f, rfl, he, hs, hsd, hw, hf, hle, hne⟩ := spend_ok ok h
    obtain ⟨p, q⟩ := e
    have hp : spendP I (n : Int) who am = ((s : Int), 0) := Prod.ext hsd h
    have hin := ok.en _ (List.mem_of_getElem? he)
    have h1 : I.has[p]? = some (I.has[p]'hin.1) := List.getElem?_eq_getElem _
    have h2 : I.has[q]? = some (I.has[q]'hin.2.1) := List.getElem?_eq_getElem _
    have hi := spendI_ok hp hf
    match s, hs with
    | 0, _ =>
      have hw : who = (p : Int) := hw
      subst hw
      exact .inl ⟨n, p, q, f, _, _, rfl, rfl, he, hf, h1, h2, hle, hp, hi⟩
    | 1, _ =>
      have hw : who = (q : Int) := hw
      subst hw
      exact .inr ⟨n, p, q, f, _, _, rfl, rfl, he, hf, h2, h1, hle, hp, hi⟩
  · refine .inl ⟨(spendP I cid who am).2, h, ?_, spendI_err rfl h⟩
    have : (spendP I cid who am).1 = 0 := by
      unfold spendP at h ⊢
      split
      · rfl
      · rename_i h1
        rw [if_neg h1] at h
        split
        · rfl
        · rename_i h2
          rw [if_neg h2] at h
          split
          · rfl
          · rename_i h3
            rw [if_neg h3] at h
            exact absurd rfl h
    exact Prod.ext this rfl
end Go.Proofs.Ytecgpkjigbhneaa
