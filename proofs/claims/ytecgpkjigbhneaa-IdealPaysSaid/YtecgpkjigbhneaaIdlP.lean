/- Ideals: what channels come to if all go by the book: plain. -/
import Derived.Test.YtecgpkjigbhneaaMoneyP
namespace Go.Proofs.Ytecgpkjigbhneaa
set_option linter.unusedVariables false
set_option linter.unusedSimpArgs false
set_option linter.unnecessarySimpa false
open Go Go.RowKit

/-- A channel of a payment. -/
structure Leg where
  edge : Nat
  side : Nat
  am : Int
structure Pay where
  id : Int
  state : Int
  legs : List Leg
/-- An ideal: accounts, channels' ends, what each end can spend, payments. -/
structure Idl where
  has : List Int
  ends : List (Nat × Nat)
  free : List (Int × Int)
  pays : List Pay
def sumI : List Int → Int
  | [] => 0
  | a :: l => a + sumI l
theorem sumI_app : ∀ (l m : List Int), sumI (l ++ m) = sumI l + sumI m
  | [], m => by simp [sumI]
  | a :: l, m => by simp only [List.cons_append, sumI, sumI_app l m]; omega
theorem sumI_set : ∀ (l : List Int) (k : Nat) (a b : Int), l[k]? = some a → sumI (l.set k b) = sumI l - a + b
  | [], k, a, b, h => by simp at h
  | x :: l, 0, a, b, h => by
    simp at h; subst h
    simp only [List.set_cons_zero, sumI]; omega
  | x :: l, k + 1, a, b, h => by
    simp only [List.getElem?_cons_succ] at h
    simp only [List.set_cons_succ, sumI, sumI_set l k a b h]; omega
theorem sumI_nn : ∀ (l : List Int), (∀ a ∈ l, 0 ≤ a) → 0 ≤ sumI l
  | [], _ => Int.le_refl _
  | a :: l, h => by
    have h1 := h a (by simp)
    have h2 := sumI_nn l fun b hb => h b (by simp [hb])
    simp only [sumI]; omega
theorem sumI_one : ∀ (l : List Int) (k : Nat) (a : Int), (∀ a ∈ l, 0 ≤ a) → l[k]? = some a → 0 ≤ a ∧ a ≤ sumI l
  | [], k, a, _, h => by simp at h
  | x :: l, 0, a, hl, h => by
    simp at h; subst h
    have h2 := sumI_nn l fun b hb => hl b (by simp [hb])
    have h1 := hl x (by simp)
    simp only [sumI]; omega
  | x :: l, k + 1, a, hl, h => by
    simp only [List.getElem?_cons_succ] at h
    have h1 := hl x (by simp)
    have h2 := sumI_one l k a (fun b hb => hl b (by simp [hb])) h
    simp only [sumI]; omega
def sumF (l : List (Int × Int)) : Int := sumI (l.map fun f => f.1 + f.2)
theorem sumF_set {l : List (Int × Int)} {k : Nat} {f g : Int × Int} (h : l[k]? = some f) : sumF (l.set k g) = sumF l - (f.1 + f.2) + (g.1 + g.2) := by
  unfold sumF
  rw [List.map_set, sumI_set _ k (f.1 + f.2) _ (by simp [h])]
theorem sumF_app (l : List (Int × Int)) (f : Int × Int) : sumF (l ++ [f]) = sumF l + (f.1 + f.2) := by
  unfold sumF
  rw [List.map_append, sumI_app]; simp [sumI]
theorem sumF_nn {l : List (Int × Int)} (h : ∀ f ∈ l, 0 ≤ f.1 ∧ 0 ≤ f.2) : 0 ≤ sumF l := sumI_nn _ fun a ha => by
  rw [List.mem_map] at ha
  obtain ⟨f, hf, rfl⟩ := ha
  have := h f hf; omega
theorem sumF_one {l : List (Int × Int)} {k : Nat} {f : Int × Int} (h : ∀ f ∈ l, 0 ≤ f.1 ∧ 0 ≤ f.2) (hk : l[k]? = some f) : 0 ≤ f.1 ∧ 0 ≤ f.2 ∧ f.1 + f.2 ≤ sumF l := by
  have h1 := h f (List.mem_of_getElem? hk)
  have h2 := sumI_one (l.map fun f => f.1 + f.2) k (f.1 + f.2) (fun a ha => by
    rw [List.mem_map] at ha
    obtain ⟨g, hg, rfl⟩ := ha
    have := h g hg; omega) (by simp [hk])
  exact ⟨h1.1, h1.2, h2.2⟩
def legSum (l : List Leg) : Int := sumI (l.map Leg.am)
theorem legSum_app (l m : List Leg) : legSum (l ++ m) = legSum l + legSum m := by unfold legSum; rw [List.map_append, sumI_app]
def heldOf (p : Pay) : Int := if p.state = 0 then legSum p.legs else 0
def heldP (l : List Pay) : Int := sumI (l.map heldOf)
def totI (I : Idl) : Int := heldP I.pays + sumI I.has + sumF I.free
/-- An ideal that there can be. -/
structure IOk (I : Idl) : Prop where
  hl : I.has.length ≤ 8
  el : I.ends.length ≤ 16
  fl : I.free.length = I.ends.length
  en : ∀ e ∈ I.ends, e.1 < I.has.length ∧ e.2 < I.has.length ∧ e.1 ≠ e.2
  hu : ∀ a ∈ I.has, 0 ≤ a
  fu : ∀ f ∈ I.free, 0 ≤ f.1 ∧ 0 ≤ f.2
  lg : ∀ p ∈ I.pays, (p.state = 0 ∨ p.state = 1 ∨ p.state = 2) ∧ p.legs.length ≤ 7 ∧ ∀ l ∈ p.legs, l.edge < I.ends.length ∧ l.side < 2 ∧ 0 ≤ l.am
  ids : (I.pays.map Pay.id).Nodup
  tot : totI I < 18446744073709551616
theorem legSum_nn {l : List Leg} (h : ∀ x ∈ l, 0 ≤ x.am) : 0 ≤ legSum l := sumI_nn _ fun a ha => by
  rw [List.mem_map] at ha
  obtain ⟨f, hf, rfl⟩ := ha
  exact h f hf
theorem heldOf_nn {I : Idl} (ok : IOk I) {p : Pay} (hp : p ∈ I.pays) : 0 ≤ heldOf p := by
  unfold heldOf
  split
  · exact legSum_nn fun x hx => ((ok.lg p hp).2.2 x hx).2.2
  · exact Int.le_refl _
theorem held_nn {I : Idl} (ok : IOk I) : 0 ≤ heldP I.pays := sumI_nn _ fun a ha => by
  rw [List.mem_map] at ha
  obtain ⟨p, hp, rfl⟩ := ha
  exact heldOf_nn ok hp
theorem IOk.sums {I : Idl} (ok : IOk I) : 0 ≤ heldP I.pays ∧ 0 ≤ sumI I.has ∧ 0 ≤ sumF I.free ∧ heldP I.pays + sumI I.has + sumF I.free < 18446744073709551616 := ⟨held_nn ok, sumI_nn _ ok.hu, sumF_nn ok.fu, ok.tot⟩
/-- On which side of a channel an account is; an error. -/
def sideP24 (ends : List (Nat × Nat)) (id who : Int) : Int × Int :=
  if id < 0 ∨ (ends.length : Int) ≤ id then (0, 6) else if ((ends.getD id.toNat (0, 0)).1 : Int) = who then (0, 0) else if ((ends.getD id.toNat (0, 0)).2 : Int) = who then (1, 0) else (0, 1)
theorem side_cases24 (ends : List (Nat × Nat)) (id who : Int) : (sideP24 ends id who = (0, 6) ∧ (id < 0 ∨ (ends.length : Int) ≤ id)) ∨
    (∃ (n p q : Nat), id = (n : Int) ∧ who = (p : Int) ∧ ends[n]? = some (p, q) ∧ sideP24 ends (n : Int) (p : Int) = (0, 0)) ∨ (∃ (n p q : Nat), id = (n : Int) ∧ who = (q : Int) ∧ ends[n]? = some (p, q) ∧ p ≠ q ∧ sideP24 ends (n : Int) (q : Int) = (1, 0)) ∨
    (∃ (n p q : Nat), id = (n : Int) ∧ ends[n]? = some (p, q) ∧ who ≠ (p : Int) ∧ who ≠ (q : Int) ∧ sideP24 ends (n : Int) who = (0, 1)) := by
  by_cases h : id < 0 ∨ (ends.length : Int) ≤ id
  · exact .inl ⟨if_pos h, h⟩
  · right
    obtain ⟨n, rfl⟩ : ∃ n : Nat, id = (n : Int) := ⟨id.toNat, by omega⟩
    have hn : n < ends.length := by omega
    have he : ends[n]? = some (ends[n].1, ends[n].2) := List.getElem?_eq_getElem hn
    have hg : ends.getD n (0, 0) = (ends[n].1, ends[n].2) := by rw [List.getD_eq_getElem?_getD, he]; rfl
    generalize ends[n].1 = p at he hg
    generalize ends[n].2 = q at he hg
    have key : ∀ who : Int, sideP24 ends (n : Int) who = if (p : Int) = who then (0, 0) else if (q : Int) = who then (1, 0) else (0, 1) := fun who => by
      unfold sideP24
      rw [if_neg (by omega), Int.toNat_natCast, hg]
    by_cases h1 : (p : Int) = who
    · subst h1
      exact .inl ⟨n, p, q, rfl, rfl, he, by rw [key, if_pos rfl]⟩
    · by_cases h2 : (q : Int) = who
      · subst h2
        exact .inr (.inl ⟨n, p, q, rfl, rfl, he, by omega, by rw [key, if_neg h1, if_pos rfl]⟩)
      · exact .inr (.inr ⟨n, p, q, rfl, he, by omega, by omega, by rw [key, if_neg h1, if_neg h2]⟩)
/-- Opening a channel. -/
def openP (I : Idl) (a b p q : Int) : Idl × Int × Int :=
  if a < 0 ∨ (I.has.length : Int) ≤ a ∨ b < 0 ∨ (I.has.length : Int) ≤ b ∨ a = b then (I, 0, 1)
  else if 16 ≤ I.ends.length then (I, 0, 4)
  else if I.has.getD a.toNat 0 < p ∨ I.has.getD b.toNat 0 < q then (I, 0, 12)
  else (⟨(I.has.set a.toNat (I.has.getD a.toNat 0 - p)).set b.toNat (I.has.getD b.toNat 0 - q), I.ends ++ [(a.toNat, b.toNat)], I.free ++ [(p, q)], I.pays⟩, I.ends.length, 0)
theorem getD_of {α : Type} {l : List α} {n : Nat} {a d : α} (h : l[n]? = some a) : l.getD n d = a := by rw [List.getD_eq_getElem?_getD, h]; rfl
section
variable {I : Idl} {a b p q : Int}
theorem open_arg (h : a < 0 ∨ (I.has.length : Int) ≤ a ∨ b < 0 ∨ (I.has.length : Int) ≤ b ∨ a = b) : openP I a b p q = (I, 0, 1) := if_pos h
theorem open_full (h : ¬ (a < 0 ∨ (I.has.length : Int) ≤ a ∨ b < 0 ∨ (I.has.length : Int) ≤ b ∨ a = b)) (h2 : 16 ≤ I.ends.length) : openP I a b p q = (I, 0, 4) := by unfold openP; rw [if_neg h, if_pos h2]
theorem open_under {an bn : Nat} {x y : Int} (ha : I.has[an]? = some x) (hb : I.has[bn]? = some y) (hne : an ≠ bn) (h2 : ¬ 16 ≤ I.ends.length) (h3 : x < p ∨ y < q) : openP I (an : Int) (bn : Int) p q = (I, 0, 12) := by
  have h4 := (List.getElem?_eq_some_iff.1 ha).1; have h5 := (List.getElem?_eq_some_iff.1 hb).1
  unfold openP
  rw [if_neg (by omega), if_neg h2, Int.toNat_natCast, Int.toNat_natCast, getD_of ha, getD_of hb, if_pos h3]
theorem open_ok {an bn : Nat} {x y : Int} (ha : I.has[an]? = some x) (hb : I.has[bn]? = some y) (hne : an ≠ bn) (h2 : ¬ 16 ≤ I.ends.length) (h3 : ¬ (x < p ∨ y < q)) : openP I (an : Int) (bn : Int) p q = ((⟨(I.has.set an (x - p)).set bn (y - q), I.ends ++ [(an, bn)], I.free ++ [(p, q)], I.pays⟩ : Idl), (I.ends.length : Int), (0 : Int)) := by
  have h4 := (List.getElem?_eq_some_iff.1 ha).1; have h5 := (List.getElem?_eq_some_iff.1 hb).1
  unfold openP
  rw [if_neg (by omega), if_neg h2, Int.toNat_natCast, Int.toNat_natCast, getD_of ha, getD_of hb, if_neg h3]
end
/-- What an end can spend, anew. -/
def frN (f : Int × Int) (s : Nat) : Int := if s = 0 then f.1 else f.2
def addN (f : Int × Int) (s : Nat) (v : Int) : Int × Int := if s = 0 then (f.1 + v, f.2) else (f.1, f.2 + v)
def addF (F : List (Int × Int)) (n s : Nat) (v : Int) : List (Int × Int) := F.set n (addN (F.getD n (0, 0)) s v)
theorem addF_of {F : List (Int × Int)} {n : Nat} {f : Int × Int} (h : F[n]? = some f) (s : Nat) (v : Int) : addF F n s v = F.set n (addN f s v) := by unfold addF; rw [getD_of h]
theorem addF_len (F : List (Int × Int)) (n s : Nat) (v : Int) : (addF F n s v).length = F.length := List.length_set
theorem addF_sum {F : List (Int × Int)} {n : Nat} (hn : n < F.length) (s : Nat) (v : Int) : sumF (addF F n s v) = sumF F + v := by
  have h : F[n]? = some F[n] := List.getElem?_eq_getElem hn
  rw [addF_of h, sumF_set h]
  unfold addN
  split <;> dsimp only <;> omega
theorem addF_get {F : List (Int × Int)} {n : Nat} {f : Int × Int} (h : F[n]? = some f) (s : Nat) (v : Int) : (addF F n s v)[n]? = some (addN f s v) := by
  rw [addF_of h, List.getElem?_set_self (List.getElem?_eq_some_iff.1 h).1]
theorem addF_get_ne {F : List (Int × Int)} {n m : Nat} (hne : n ≠ m) (s : Nat) (v : Int) : (addF F n s v)[m]? = F[m]? := by unfold addF; rw [List.getElem?_set_ne hne]
theorem addN_comm (f : Int × Int) (s t : Nat) (v u : Int) : addN (addN f s v) t u = addN (addN f t u) s v := by
  unfold addN
  split <;> split <;> simp_all <;> omega
theorem addF_comm {F : List (Int × Int)} {n m : Nat} (hn : n < F.length) (hm : m < F.length) (s t : Nat) (v u : Int) : addF (addF F n s v) m t u = addF (addF F m t u) n s v := by
  have h1 : F[n]? = some F[n] := List.getElem?_eq_getElem hn
  have h2 : F[m]? = some F[m] := List.getElem?_eq_getElem hm
  by_cases hnm : n = m
  · subst hnm
    rw [addF_of (addF_get h1 s v), addF_of (addF_get h1 t u), addF_of h1, addF_of h1, List.set_set, List.set_set, addN_comm]
  · rw [addF_of (F := addF F n s v) (f := F[m]) (by rw [addF_get_ne hnm]; exact h2), addF_of (F := addF F m t u) (f := F[n]) (by rw [addF_get_ne (Ne.symm hnm)]; exact h1), addF_of h1, addF_of h2, List.set_comm _ _ hnm]
theorem addF_back {F : List (Int × Int)} {n : Nat} (hn : n < F.length) (s : Nat) (v : Int) : addF (addF F n s (-v)) n s v = F := by
  have h1 : F[n]? = some F[n] := List.getElem?_eq_getElem hn
  rw [addF_of (addF_get h1 s (-v)), addF_of h1, List.set_set]
  have key : ∀ f : Int × Int, addN (addN f s (-v)) s v = f := fun ⟨p, q⟩ => by
    unfold addN
    split <;> simp <;> omega
  rw [key]
  exact List.set_getElem_self hn
/-- Putting more in, taking out, paying the other side. -/
def putP (I : Idl) (id who am : Int) : Idl × Int :=
  if (sideP24 I.ends id who).2 ≠ 0 then (I, (sideP24 I.ends id who).2) else if am = 0 then (I, 1) else if I.has.getD who.toNat 0 < am then (I, 12)
  else (⟨I.has.set who.toNat (I.has.getD who.toNat 0 - am), I.ends, addF I.free id.toNat (sideP24 I.ends id who).1.toNat am, I.pays⟩, 0)
/-- An end spends: who it is, or why it can't. -/
def spendP (I : Idl) (id who am : Int) : Int × Int :=
  if (sideP24 I.ends id who).2 ≠ 0 then (0, (sideP24 I.ends id who).2) else if am = 0 then (0, 1) else if frN (I.free.getD id.toNat (0, 0)) (sideP24 I.ends id who).1.toNat < am then (0, 28) else ((sideP24 I.ends id who).1, 0)
def takeP (I : Idl) (id who am : Int) : Idl × Int :=
  if (spendP I id who am).2 ≠ 0 then (I, (spendP I id who am).2)
  else (⟨I.has.set who.toNat (I.has.getD who.toNat 0 + am), I.ends, addF I.free id.toNat (spendP I id who am).1.toNat (-am), I.pays⟩, 0)
def moveP (I : Idl) (id who am : Int) : Idl × Int :=
  if (spendP I id who am).2 ≠ 0 then (I, (spendP I id who am).2)
  else (⟨I.has, I.ends, addF (addF I.free id.toNat (spendP I id who am).1.toNat (-am)) id.toNat (1 - (spendP I id who am).1.toNat) am, I.pays⟩, 0)
/-- A payment's legs, one by one: an error, what ends can spend behind it, the legs. -/
def begF (ends : List (Nat × Nat)) : List (Int × Int) → Int → Option Int → List Int → List Int → Int × List (Int × Int) × List Leg
  | F, fr, pv, e :: E, a :: A =>
    if (sideP24 ends e fr).2 ≠ 0 then ((sideP24 ends e fr).2, F, [])
    else if a = 0 ∨ (∃ p, pv = some p ∧ p < a) then (1, F, [])
    else if frN (F.getD e.toNat (0, 0)) (sideP24 ends e fr).1.toNat < a then (28, F, [])
    else
      let r := begF ends (addF F e.toNat (sideP24 ends e fr).1.toNat (-a)) (if (sideP24 ends e fr).1 = 0 then ((ends.getD e.toNat (0, 0)).2 : Int) else ((ends.getD e.toNat (0, 0)).1 : Int)) (some a) E A
      (r.1, r.2.1, ⟨e.toNat, (sideP24 ends e fr).1.toNat, a⟩ :: r.2.2)
  | F, _, _, _, _ => (0, F, [])
def findP (l : List Pay) (id : Int) : Option Nat := l.findIdx? fun p => p.id == id
def begP (I : Idl) (id fr : Int) (E A : List Int) : Idl × Int :=
  if E.length ≠ A.length ∨ E.length < 1 ∨ 7 < E.length then (I, 1)
  else if findP I.pays id ≠ none then (I, 7)
  else if (begF I.ends I.free fr none E A).1 ≠ 0 then (I, (begF I.ends I.free fr none E A).1)
  else (⟨I.has, I.ends, (begF I.ends I.free fr none E A).2.1, I.pays ++ [⟨id, 0, (begF I.ends I.free fr none E A).2.2⟩]⟩, 0)
def payL (paid : Bool) : List (Int × Int) → List Leg → List (Int × Int)
  | F, [] => F
  | F, l :: L => payL paid (addF F l.edge (if paid = true then 1 - l.side else l.side) l.am) L
def endP (I : Idl) (id : Int) (paid : Bool) : Idl × Int :=
  match findP I.pays id with
  | none => (I, 6)
  | some i => match I.pays[i]? with
    | none => (I, 6)
    | some p => if p.state ≠ 0 then (I, 3) else (⟨I.has, I.ends, payL paid I.free p.legs, I.pays.set i ⟨p.id, if paid = true then 1 else 2, p.legs⟩⟩, 0)
/-- Does an open payment go over a channel? -/
def overL (l : List Pay) (n : Nat) : Prop := ∃ p ∈ l, p.state = 0 ∧ ∃ g ∈ p.legs, g.edge = n
open Classical in
noncomputable def closeP (I : Idl) (id : Int) : Idl × Int :=
  if id < 0 ∨ (I.ends.length : Int) ≤ id then (I, 6)
  else if overL I.pays id.toNat then (I, 3)
  else
    let e := I.ends.getD id.toNat (0, 0)
    let f := I.free.getD id.toNat (0, 0)
    (⟨(I.has.set e.1 (I.has.getD e.1 0 + f.1)).set e.2 (I.has.getD e.2 0 + f.2), I.ends, I.free.set id.toNat (0, 0), I.pays⟩, 0)
end Go.Proofs.Ytecgpkjigbhneaa
