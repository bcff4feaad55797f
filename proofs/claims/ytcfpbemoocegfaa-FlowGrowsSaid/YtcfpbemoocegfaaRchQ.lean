/- What the walks over flows lean on: rows of what still can go; steps of the search. -/
import Derived.Test.YtcfpbemoocegfaaFlowP
import Derived.Test.YtcfpbemoocegfaaGq
import Derived.Test.YtcfpbemoocegfaaReach07
namespace Go.Proofs.Ytcfpbemoocegfaa
set_option linter.unusedVariables false
set_option linter.unusedSimpArgs false
set_option linter.unnecessarySimpa false
open Go Go.RowKit

/-- What still can go over a channel. -/
def resC (e : Edg) : List Value := [.int .u64 e.c0, .int .u64 e.c1]
theorem resC_len (e : Edg) : (resC e).length = 2 := rfl
theorem sideN_cases (e : Edg) (n : Int) : (sideP e n = -1 ∧ e.a ≠ n ∧ e.b ≠ n) ∨ ∃ s : Nat, s < 2 ∧ sideP e n = (s : Int) ∧ e.endp (s : Int) = n := by
  rcases side_cases e n with ⟨h1, h2⟩ | ⟨h1, h2, _⟩ | ⟨h1, h2⟩
  · exact .inr ⟨0, by omega, h1, h2⟩
  · exact .inr ⟨1, by omega, h1, h2⟩
  · exact .inl ⟨h1, h2⟩
theorem resC_can (e : Edg) {m : Nat} (h : m < 2) : (resC e)[0 + m * 1]? = some (.int .u64 (e.can (m : Int))) := by
  match m, h with
  | 0, _ => rfl
  | 1, _ => rfl
theorem edC_end (e : Edg) {m : Nat} (h : m < 2) : (edC e)[0 + m * 1]? = some (.int .i64 (e.endp (m : Int))) := by
  match m, h with
  | 0, _ => rfl
  | 1, _ => rfl
theorem edC_can (e : Edg) {m : Nat} (h : m < 2) : (edC e)[2 + m * 1]? = some (.int .u64 (e.can (m : Int))) := by
  match m, h with
  | 0, _ => rfl
  | 1, _ => rfl
theorem cell_off {w : World} {A : Option Addr} {j j' : Nat} {v : Value} (h : cellA w A j v) (e : j' = j) : cellA w A j' v := e ▸ h
theorem Sat.rowX {w0 w : World} {l : List Asn} (S : Sat w0 w l) (i : Nat) {α : Type} {k : Nat} {f : α → List Value} {T : TypeId} {A : Option Addr} {c n : Nat} {X Y : List α} (h : X = Y) (hi : l[i]? = some (row T k (.slice A n c) n (X.flatMap f))) : Sat w0 w (l.set i (row T k (.slice A n c) n (Y.flatMap f))) := by
  subst h
  exact S.turn hi fun F hF => ⟨F, hF, fun _ h => h⟩
def minusT (n i : Nat) : List Int := List.replicate i (-1) ++ List.replicate (n - i) 0
theorem minusT_get {n i : Nat} (h : i < n) : (minusT n i)[i]? = some 0 := by
  unfold minusT
  rw [List.getElem?_append_right (by simp), List.length_replicate, Nat.sub_self, List.getElem?_replicate, if_pos (by omega)]
theorem minusT_set {n i : Nat} (h : i < n) : (minusT n i).set i (-1) = minusT n (i + 1) := by
  unfold minusT
  rw [List.set_append_right _ _ (by simp), List.length_replicate, Nat.sub_self, show n - i = (n - (i + 1)) + 1 from by omega, List.replicate_succ, List.set_cons_zero, List.replicate_succ']
  simp
theorem minusT_zero (n : Nat) : minusT n 0 = List.replicate n 0 := by unfold minusT; simp
theorem minusT_all {n i : Nat} (h : i ≤ n) (h2 : n ≤ i) : minusT n i = List.replicate n (-1) := by
  obtain rfl : i = n := by omega
  unfold minusT; simp
theorem minusT_len {n i : Nat} (h : i ≤ n) : (minusT n i).length = n := by unfold minusT; simp; omega
/-- The queue, as numbers. -/
def qI (Q : List Nat) : List Int := Q.map fun (v : Nat) => (v : Int)
theorem qI_next {Q : List Nat} {h : Nat} (hl : 0 < (qI (Q.drop h)).length) : ∃ (u : Nat) (tl : List Int), Q[h]? = some u ∧ tl = qI (Q.drop (h + 1)) ∧ qI (Q.drop h) = (u : Int) :: tl := by
  unfold qI at hl ⊢
  rw [List.length_map, List.length_drop] at hl
  refine ⟨Q[h]'(by omega), _, List.getElem?_eq_getElem (by omega), rfl, ?_⟩
  rw [List.drop_eq_getElem_cons (by omega : h < Q.length), List.map_cons]
theorem qI_snoc {Q : List Nat} {h v : Nat} {tl : List Int} (ht : tl = qI (Q.drop h)) (hh : h ≤ Q.length) : tl ++ [(v : Int)] = qI ((Q ++ [v]).drop h) := by
  unfold qI at ht ⊢
  rw [List.drop_append_of_le_length hh, List.map_append, ht]; rfl
theorem qI_end {Q : List Nat} {h : Nat} (hl : ¬ 0 < (qI (Q.drop h)).length) : Q.length ≤ h := by
  unfold qI at hl
  rw [List.length_map, List.length_drop] at hl; omega
theorem get_app {Q : List Nat} {h u v : Nat} (hu : Q[h]? = some u) : (Q ++ [v])[h]? = some u := by
  rw [List.getElem?_append_left (List.getElem?_eq_some_iff.1 hu).1]; exact hu
/-- A channel's ends are nodes. -/
theorem ends_in {x : Wb} (hc : chkP x = 0) {k : Nat} {e : Edg} (he : x.edges[k]? = some e) (m : Nat) : ∃ v : Nat, e.endp (m : Int) = (v : Int) ∧ v < x.spots.length := by
  obtain ⟨_, _, z3⟩ := chk_zero hc
  have hb := z3 e (List.mem_of_getElem? he)
  unfold badE at hb
  unfold Edg.endp
  split
  · exact ⟨e.a.toNat, by omega, by omega⟩
  · exact ⟨e.b.toNat, by omega, by omega⟩
theorem ends_ne {x y : Wb} (hc : chkP x = 0) (hr : ResOf x y) {k : Nat} {f : Edg} (hf : y.edges[k]? = some f) : f.a ≠ f.b := by
  have hk := (List.getElem?_eq_some_iff.1 hf).1
  have he : x.edges[k]? = some (x.edges[k]'(by rw [← hr.len]; exact hk)) := List.getElem?_eq_getElem _
  obtain ⟨e1, e2, _⟩ := hr.at_ k _ f he hf
  obtain ⟨_, _, z3⟩ := chk_zero hc
  have hb := z3 _ (List.mem_of_getElem? he)
  unfold badE at hb
  rw [e1, e2]
  intro e
  exact hb (by simp [e])
theorem hop_one {f : Edg} (hne : f.a ≠ f.b) {s s' : Nat} (hs : s < 2) (hs' : s' < 2) {n : Int} (h : f.endp (s : Int) = n) (h' : f.endp (s' : Int) = n) : s' = s := by
  have key : ∀ (p q : Nat), p < 2 → q < 2 → f.endp (p : Int) = f.endp (q : Int) → p = q := by
    intro p q hp hq he
    match p, hp, q, hq with
    | 0, _, 0, _ => rfl
    | 1, _, 1, _ => rfl
    | 0, _, 1, _ => exact absurd he hne
    | 1, _, 0, _ => exact absurd he.symm hne
  exact key s' s hs' hs (h'.trans h.symm)
section
variable {x y : Wb} {Q : List Nat} {u k : Nat} {e f : Edg} (hc : chkP x = 0) (hr : ResOf x y) (hp : Part y Q u k) (he : x.edges[k]? = some e) (hf : y.edges[k]? = some f)
include hc hr hp he hf
omit hc in
theorem part_none (h1 : e.a ≠ (u : Int)) (h2 : e.b ≠ (u : Int)) : Part y Q u (k + 1) := by
  obtain ⟨e1, e2, _⟩ := hr.at_ k e f he hf
  refine part_next hp hf fun s _ hu _ => ?_
  exfalso
  unfold Edg.endp at hu
  split at hu
  · exact h1 (by rw [← e1]; exact hu)
  · exact h2 (by rw [← e2]; exact hu)
theorem part_dry {s : Nat} (hs : s < 2) (hu : e.endp (s : Int) = (u : Int)) (hz : f.can (s : Int) = 0) : Part y Q u (k + 1) := by
  obtain ⟨e1, e2, _⟩ := hr.at_ k e f he hf
  refine part_next hp hf fun s' hs' hu' hc' => ?_
  exfalso
  have := hop_one (ends_ne hc hr hf) hs hs' (n := (u : Int)) (by rw [endp_ends e1 e2]; exact hu) hu'
  subst this
  omega
theorem part_seen {s v : Nat} (hs : s < 2) (hu : e.endp (s : Int) = (u : Int)) (hv : e.endp ((1 - s : Nat) : Int) = (v : Int)) (hm : v ∈ Q) : Part y Q u (k + 1) := by
  obtain ⟨e1, e2, _⟩ := hr.at_ k e f he hf
  refine part_next hp hf fun s' hs' hu' _ => ?_
  have := hop_one (ends_ne hc hr hf) hs hs' (n := (u : Int)) (by rw [endp_ends e1 e2]; exact hu) hu'
  subst this
  exact ⟨v, hm, by rw [endp_ends e1 e2]; exact hv⟩
end
/-- What an end can send, anew. -/
def Edg.setc (e : Edg) (s : Nat) (v : Int) : Edg := if s = 0 then ⟨e.a, e.b, v, e.c1, e.b0, e.r0, e.b1, e.r1⟩ else ⟨e.a, e.b, e.c0, v, e.b0, e.r0, e.b1, e.r1⟩
theorem setc_cells (e : Edg) {s : Nat} (h : s < 2) (v : Int) : setAt (resC e) (0 + s * 1) [.int .u64 v] = resC (e.setc s v) := by
  match s, h with
  | 0, _ => rfl
  | 1, _ => rfl
theorem setc_other (e : Edg) {s : Nat} (h : s < 2) (v : Int) : (e.setc s v).can ((1 - s : Nat) : Int) = e.can ((1 - s : Nat) : Int) := by
  match s, h with
  | 0, _ => rfl
  | 1, _ => rfl
theorem setc_sent (f : Edg) {s : Nat} (h : s < 2) (am : Int) : (f.setc s (f.can (s : Int) - am)).setc (1 - s) (f.can ((1 - s : Nat) : Int) + am) = f.sent (s : Int) am := by
  match s, h with
  | 0, _ => rfl
  | 1, _ => rfl
section
variable {P : Program} {a : Act} {n : Nat} {L : List (Nat × Value)} {o : Oper} {w0 w : World} {R : Value → World → Prop} {l : List Asn}
/-- A store into an end of a record. -/
theorem op_storeEnd (S : Sat w0 w l) (i : Nat) (T : TypeId) (x y : Operand) (A : Option Addr) (m s j : Nat) (v : Int) {Tr : TypeId} {N c : Nat} {X : List Edg} {e : Edg} (F : Fr a n L) (hm : X[m]? = some e) (hi : l[i]? = some (row Tr 2 (.slice A N c) N (X.flatMap resC))) (ho : o.op = .store T x y)
    (hx : val? L x = some (ptrA A j)) (hj : j = m * 2 + (0 + s * 1)) (hy : val? L y = some (.int .u64 v)) (hs : sizeT P T = some 1) (h2 : s < 2) (hR : ∀ w', Sat w0 w' (l.set i (row Tr 2 (.slice A N c) N ((X.set m (e.setc s v)).flatMap resC))) → R undef w') : OpR P a w o R := by
  obtain ⟨hml, he⟩ := List.getElem?_eq_some_iff.1 hm
  subst hj
  refine op_storeR S i T x y A (m * 2 + (0 + s * 1)) (.int .u64 v) F hi ho hx hy hs (by simp [Value.cells]) (by simp [Value.cells, Value.oneCell']) ?_ fun w' hS => hR w' ?_
  · rw [recs_len resC_len]
    have : (m + 1) * 2 ≤ X.length * 2 := Nat.mul_le_mul_right 2 hml
    simp [Value.cells]; omega
  · have h9 := setAt_field (f := resC) resC_len hml (t := 0 + s * 1) (vs := [.int .u64 v]) (e.setc s v) (by rw [he]; exact setc_cells e h2 v) (by simp; omega)
    rw [show (Value.int IntKind.u64 v).cells.toList = [.int .u64 v] from rfl] at hS
    rw [h9] at hS
    exact hS
end
/-- What a push comes to. -/
def PushOk (x y : Wb) (fr to : Nat) (most n : Int) (y' : Wb) : Prop :=
  (n = 0 ∧ y' = y ∧ ∃ by_, RchOk x y fr by_ ∧ come by_ (to : Int) = false) ∨ (0 < n ∧ n ≤ most ∧ ∃ L, y' = pushL y n L ∧ BackTo (fr : Int) (to : Int) L ∧ (∀ g ∈ L, HopOk y g n) ∧ (L.map Hop.i).Nodup)
end Go.Proofs.Ytcfpbemoocegfaa
