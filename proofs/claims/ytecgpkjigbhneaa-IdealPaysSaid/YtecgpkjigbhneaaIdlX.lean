/- Ideals: a step, whichever; what it comes to: plain. -/
import Derived.Test.YtecgpkjigbhneaaIdlT
namespace Go.Proofs.Ytecgpkjigbhneaa
set_option linter.unusedVariables false
set_option linter.unusedSimpArgs false
set_option linter.unnecessarySimpa false
open Go Go.RowKit

/-- A step, as it lies in memory. -/
structure OpV where
  kind : Int
  a : Int
  b : Int
  n : Int
  m : Int
  id : Int
  Ar : Option Addr
  cr : Nat
  E : List Int
  As : Option Addr
  cs : Nat
  A : List Int
  y : Bool
def opC (o : OpV) : List Value := [.int .i64 o.kind, .int .i64 o.a, .int .i64 o.b, .int .u64 o.n, .int .u64 o.m, .int .u64 o.id, .slice o.Ar o.E.length o.cr, .slice o.As o.A.length o.cs, .bool o.y]
theorem opC_len (o : OpV) : (opC o).length = 9 := rfl
structure StOk (w : World) (o : OpV) : Prop where
  e : Recs 1 iC_i64 w o.Ar o.cr o.E
  a : Recs 1 iC_u64 w o.As o.cs o.A
  n : U64 o.n
  m : U64 o.m
  u : ∀ x ∈ o.A, U64 x
noncomputable def stepP (I : Idl) (o : OpV) : Idl :=
  if o.kind = 0 then (openP I o.a o.b o.n o.m).1 else if o.kind = 1 then (putP I o.a o.b o.n).1 else if o.kind = 2 then (takeP I o.a o.b o.n).1 else if o.kind = 3 then (moveP I o.a o.b o.n).1
  else if o.kind = 4 then (begP I o.id o.a o.E o.A).1 else if o.kind = 5 then (endP I o.id o.y).1 else if o.kind = 6 then (closeP I o.a).1 else I
section
variable {I : Idl} {o : OpV} (h0 : ¬ o.kind = 0) (h1 : ¬ o.kind = 1) (h2 : ¬ o.kind = 2) (h3 : ¬ o.kind = 3) (h4 : ¬ o.kind = 4) (h5 : ¬ o.kind = 5)
theorem step_0 (h : o.kind = 0) : stepP I o = (openP I o.a o.b o.n o.m).1 := if_pos h
theorem step_1 (h : o.kind = 1) : stepP I o = (putP I o.a o.b o.n).1 := by unfold stepP; rw [if_neg (by omega), if_pos h]
theorem step_2 (h : o.kind = 2) : stepP I o = (takeP I o.a o.b o.n).1 := by unfold stepP; rw [if_neg (by omega), if_neg (by omega), if_pos h]
theorem step_3 (h : o.kind = 3) : stepP I o = (moveP I o.a o.b o.n).1 := by unfold stepP; rw [if_neg (by omega), if_neg (by omega), if_neg (by omega), if_pos h]
theorem step_4 (h : o.kind = 4) : stepP I o = (begP I o.id o.a o.E o.A).1 := by unfold stepP; rw [if_neg (by omega), if_neg (by omega), if_neg (by omega), if_neg (by omega), if_pos h]
theorem step_5 (h : o.kind = 5) : stepP I o = (endP I o.id o.y).1 := by unfold stepP; rw [if_neg (by omega), if_neg (by omega), if_neg (by omega), if_neg (by omega), if_neg (by omega), if_pos h]
theorem step_6 (h : o.kind = 6) : stepP I o = (closeP I o.a).1 := by unfold stepP; rw [if_neg (by omega), if_neg (by omega), if_neg (by omega), if_neg (by omega), if_neg (by omega), if_neg (by omega), if_pos h]
include h0 h1 h2 h3 h4 h5 in
theorem step_7 (h : ¬ o.kind = 6) : stepP I o = I := by unfold stepP; rw [if_neg h0, if_neg h1, if_neg h2, if_neg h3, if_neg h4, if_neg h5, if_neg h]
end
theorem step_keeps {I : Idl} (ok : IOk I) {w : World} {o : OpV} (ho : StOk w o) : Keeps I (stepP I o) := by
  have hA : ∀ a ∈ o.A, 0 ≤ a := fun a ha => (ho.u a ha).1
  unfold stepP
  split
  · exact open_keeps ok ho.n.1 ho.m.1
  · split
    · exact put_keeps ok ho.n.1
    · split
      · exact take_keeps ok ho.n.1
      · split
        · exact move_keeps ok ho.n.1
        · split
          · exact beg_keeps ok hA
          · split
            · exact end_keeps ok
            · split
              · exact close_keeps ok
              · exact .refl ok
theorem step_pays (I : Idl) (o : OpV) : (stepP I o).pays.length ≤ I.pays.length + 1 := by
  have h0 : (openP I o.a o.b o.n o.m).1.pays = I.pays := by unfold openP; split <;> (try rfl); split <;> (try rfl); split <;> rfl
  have h1 : (putP I o.a o.b o.n).1.pays = I.pays := by unfold putP; split <;> (try rfl); split <;> (try rfl); split <;> rfl
  have h2 : (takeP I o.a o.b o.n).1.pays = I.pays := by unfold takeP; split <;> rfl
  have h3 : (moveP I o.a o.b o.n).1.pays = I.pays := by unfold moveP; split <;> rfl
  have h4 : (begP I o.id o.a o.E o.A).1.pays.length ≤ I.pays.length + 1 := by
    unfold begP; split
    · exact Nat.le_succ _
    · split
      · exact Nat.le_succ _
      · split
        · exact Nat.le_succ _
        · simp
  have h5 : (endP I o.id o.y).1.pays.length = I.pays.length := by
    unfold endP; split
    · rfl
    · split
      · rfl
      · split
        · rfl
        · simp
  have h6 : (closeP I o.a).1.pays = I.pays := by unfold closeP; split <;> (try rfl); split <;> rfl
  unfold stepP
  split
  · rw [h0]; omega
  · split
    · rw [h1]; omega
    · split
      · rw [h2]; omega
      · split
        · rw [h3]; omega
        · split
          · exact h4
          · split
            · rw [h5]; omega
            · split
              · rw [h6]; omega
              · omega
/-- A new ideal. -/
def newI (X : List Int) : Idl := ⟨X, [], [], []⟩
theorem sumP_sum : ∀ (l : List Int) (s : Int), (∀ a ∈ l, 0 ≤ a) → 0 ≤ s → s < 18446744073709551616 → (sumP s l).2 = 0 → s + sumI l < 18446744073709551616
  | [], s, _, _, h, _ => by simp only [sumI]; omega
  | a :: l, s, hn, hs, hl, h => by
    have ha := hn a (by simp)
    unfold sumP at h
    split at h
    · rename_i h1
      have := sumP_sum l _ (fun b hb => hn b (by simp [hb])) (by omega) (by omega) h
      simp only [sumI]; omega
    · cases h
theorem new_ok {X : List Int} (hu : ∀ a ∈ X, U64 a) (h : newE X = 0) : IOk (newI X) := by
  unfold newE at h
  split at h
  · cases h
  · rename_i h8
    have hn : ∀ a ∈ X, 0 ≤ a := fun a ha => (hu a ha).1
    have hs := sumP_sum X 0 hn (by omega) (by omega) h
    refine ⟨by show X.length ≤ 8; omega, by simp [newI], rfl, fun e he => by simp [newI] at he, hn, fun f hf => by simp [newI] at hf, fun p hp => by simp [newI] at hp, by simp [newI], ?_⟩
    show heldP [] + sumI X + sumF [] < _
    simp only [heldP, sumF, List.map_nil, sumI]; omega
theorem side_left {ends : List (Nat × Nat)} {n p q : Nat} (he : ends[n]? = some (p, q)) : sideP24 ends (n : Int) (p : Int) = (0, 0) := by
  have h := (List.getElem?_eq_some_iff.1 he).1
  unfold sideP24
  rw [if_neg (by omega), Int.toNat_natCast, getD_of he, if_pos rfl]
theorem side_right {ends : List (Nat × Nat)} {n p q : Nat} (he : ends[n]? = some (p, q)) (hne : p ≠ q) : sideP24 ends (n : Int) (q : Int) = (1, 0) := by
  have h := (List.getElem?_eq_some_iff.1 he).1
  unfold sideP24
  rw [if_neg (by omega), Int.toNat_natCast, getD_of he]
  dsimp only
  rw [if_neg (by omega), if_pos rfl]
theorem state_at {I : Idl} (ok : IOk I) {i : Nat} {p : Pay} (h : I.pays[i]? = some p) : stateP I p.id = (p.state, true) := state_is (find_at ok.ids h rfl) h
end Go.Proofs.Ytecgpkjigbhneaa
