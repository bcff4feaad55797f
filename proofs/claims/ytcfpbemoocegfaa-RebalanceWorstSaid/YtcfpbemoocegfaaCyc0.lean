/- Ways out of a node over one channel and back over another one: plain. -/
import Derived.Test.YtcfpbemoocegfaaPathP
import Derived.Test.YtcfpbemoocegfaaGm
import Derived.Test.YtcfpbemoocegfaaBest
import Derived.Test.YtcfpbemoocegfaaClone8
import Derived.Test.YtcfpbemoocegfaaSoundP
namespace Go.Proofs.Ytcfpbemoocegfaa
set_option linter.unusedVariables false
set_option linter.unusedSimpArgs false
set_option linter.unnecessarySimpa false
open Go Go.RowKit

/-- A channel that can send nothing, where it is a node's. -/
def cutE (n : Int) (e : Edg) : Edg := if sideP e n < 0 then e else ⟨e.a, e.b, 0, 0, e.b0, e.r0, e.b1, e.r1⟩
def withoutP (x : Wb) (n : Int) : Wb := ⟨x.spots, x.edges.map (cutE n)⟩
theorem cutE_ok {n : Int} {e : Edg} (h : e.Ok) : (cutE n e).Ok := by
  have u0 : U64 0 := ⟨by decide, by decide⟩
  unfold cutE
  split
  · exact h
  · exact ⟨h.a, h.b, u0, u0, h.b0, h.r0, h.b1, h.r1⟩
theorem without_ok {x : Wb} (ok : x.Ok) (n : Int) : (withoutP x n).Ok := by
  refine ⟨fun e he => ?_, ok.s⟩
  obtain ⟨e', he', rfl⟩ := List.mem_map.1 he
  exact cutE_ok (ok.e e' he')
theorem without_len (x : Wb) (n : Int) : (withoutP x n).spots.length = x.spots.length ∧ (withoutP x n).edges.length = x.edges.length := ⟨rfl, List.length_map ..⟩
/-- The first channels cut. -/
def cutT (n : Int) (l : List Edg) (i : Nat) : List Edg := (l.take i).map (cutE n) ++ l.drop i
theorem cutT_len (n : Int) (l : List Edg) (i : Nat) : (cutT n l i).length = l.length := by unfold cutT; simp; omega
theorem cutT_zero (n : Int) (l : List Edg) : cutT n l 0 = l := by unfold cutT; simp
theorem cutT_all (n : Int) (l : List Edg) {i : Nat} (h : l.length ≤ i) : cutT n l i = l.map (cutE n) := by
  unfold cutT; rw [List.take_of_length_le h, List.drop_of_length_le h, List.append_nil]
theorem cutT_get {n : Int} {l : List Edg} {i : Nat} {e : Edg} (h : l[i]? = some e) : (cutT n l i)[i]? = some e := by
  obtain ⟨hi, he⟩ := List.getElem?_eq_some_iff.1 h
  unfold cutT
  rw [List.getElem?_append_right (by simp; omega)]
  simp only [List.length_map, List.length_take, List.getElem?_drop]
  rw [show i + (i - min i l.length) = i from by omega]; exact h
theorem cutT_set {n : Int} {l : List Edg} {i : Nat} {e : Edg} (h : l[i]? = some e) : (cutT n l i).set i (cutE n e) = cutT n l (i + 1) := by
  obtain ⟨hi, he⟩ := List.getElem?_eq_some_iff.1 h
  unfold cutT
  rw [List.set_append_right _ _ (by simp; omega)]
  simp only [List.length_map, List.length_take]
  rw [show i - min i l.length = 0 from by omega, List.take_add_one, h, List.map_append]
  rw [show List.drop i l = l[i] :: List.drop (i + 1) l from (List.getElem_cons_drop hi).symm, List.set_cons_zero]
  simp [-List.getElem_cons_drop]
theorem cutT_same {n : Int} {l : List Edg} {i : Nat} {e : Edg} (h : l[i]? = some e) (hs : sideP e n = -1) : cutT n l i = cutT n l (i + 1) := by
  rw [← cutT_set h]
  have he : cutE n e = e := by unfold cutE; rw [if_pos (by omega)]
  rw [he]
  have h2 := cutT_get (n := n) h
  apply List.ext_getElem?
  intro j
  by_cases hj : j = i
  · subst hj; rw [h2, List.getElem?_set_self (List.getElem?_eq_some_iff.1 h2).1]
  · rw [List.getElem?_set_ne (Ne.symm hj)]
theorem cutE_at {n : Int} {e : Edg} (hs : 0 ≤ sideP e n) : cutE n e = ⟨e.a, e.b, 0, 0, e.b0, e.r0, e.b1, e.r1⟩ := by unfold cutE; rw [if_neg (by omega)]

/-- At which end of a channel a node is; -1: at none, or there is no such channel. -/
def sideAt (x : Wb) (e n : Int) : Int := if 0 ≤ e ∧ e < x.edges.length then sideP (edgeAt x e) n else -1
def endsP (x : Wb) (e n : Int) : Int × Int × Int := if sideAt x e n < 0 then (0, 0, 1) else (sideAt x e n, (edgeAt x e).endp (1 - sideAt x e n), 0)
theorem sideAt_in {x : Wb} {k : Nat} {ed : Edg} (h : x.edges[k]? = some ed) (n : Int) : sideAt x k n = sideP ed n := by
  have := (List.getElem?_eq_some_iff.1 h).1
  unfold sideAt; rw [if_pos (by omega), edge_of h]
theorem sideAt_out {x : Wb} {e : Int} (h : e < 0 ∨ (x.edges.length : Int) ≤ e) (n : Int) : sideAt x e n = -1 := by unfold sideAt; rw [if_neg (by omega)]
theorem sideAt_cases (x : Wb) (e n : Int) : sideAt x e n = -1 ∨ (∃ (k : Nat) (ed : Edg), e = k ∧ x.edges[k]? = some ed ∧ sideAt x e n = 0 ∧ sideP ed n = 0) ∨ (∃ (k : Nat) (ed : Edg), e = k ∧ x.edges[k]? = some ed ∧ sideAt x e n = 1 ∧ sideP ed n = 1) := by
  by_cases h : e < 0 ∨ (x.edges.length : Int) ≤ e
  · exact .inl (sideAt_out h n)
  · obtain ⟨k, rfl⟩ : ∃ k : Nat, e = k := ⟨e.toNat, by omega⟩
    have hk : x.edges[k]? = some (x.edges[k]'(by omega)) := List.getElem?_eq_getElem (by omega)
    have h2 := sideAt_in hk n
    rcases side_cases (x.edges[k]'(by omega)) n with ⟨h1, _⟩ | ⟨h1, _⟩ | ⟨h1, _⟩
    · exact .inr (.inl ⟨k, _, rfl, hk, h2.trans h1, h1⟩)
    · exact .inr (.inr ⟨k, _, rfl, hk, h2.trans h1, h1⟩)
    · exact .inl (h2.trans h1)
theorem ends_bad {x : Wb} {e n : Int} (h : sideAt x e n = -1) : endsP x e n = (0, 0, 1) := by unfold endsP; rw [if_pos (by omega)]
theorem ends_good {x : Wb} {k : Nat} {ed : Edg} {n s : Int} (h : x.edges[k]? = some ed) (hs : sideP ed n = s) (h0 : 0 ≤ s) : endsP x k n = (s, ed.endp (1 - s), 0) := by
  unfold endsP; rw [sideAt_in h, hs, if_neg (by omega), edge_of h]
theorem ends_err (x : Wb) (e n : Int) : (endsP x e n).2.2 ≠ 0 ↔ sideAt x e n < 0 := by
  unfold endsP
  split <;> rename_i h <;> simp [h]

/-- The way between, what is asked ahead of it, or why there is none. -/
def cycMid (x : Wb) (node first last asked : Int) : Rt × Int × Int :=
  if first = last then (noRt, asked, 0) else
  if (bestRt (withoutP x node) first last asked).2 ≠ 0 then (noRt, 0, (bestRt (withoutP x node) first last asked).2) else
  if 5 < (bestRt (withoutP x node) first last asked).1.edges.length then (noRt, 0, 27) else
  if (overP ((edgeAt x ((bestRt (withoutP x node) first last asked).1.edges.headD 0)).base (sideP (edgeAt x ((bestRt (withoutP x node) first last asked).1.edges.headD 0)) first)) ((edgeAt x ((bestRt (withoutP x node) first last asked).1.edges.headD 0)).rate (sideP (edgeAt x ((bestRt (withoutP x node) first last asked).1.edges.headD 0)) first)) ((bestRt (withoutP x node) first last asked).1.amts.headD 0)).2 ≠ 0 then
    (noRt, 0, (overP ((edgeAt x ((bestRt (withoutP x node) first last asked).1.edges.headD 0)).base (sideP (edgeAt x ((bestRt (withoutP x node) first last asked).1.edges.headD 0)) first)) ((edgeAt x ((bestRt (withoutP x node) first last asked).1.edges.headD 0)).rate (sideP (edgeAt x ((bestRt (withoutP x node) first last asked).1.edges.headD 0)) first)) ((bestRt (withoutP x node) first last asked).1.amts.headD 0)).2)
  else ((bestRt (withoutP x node) first last asked).1, (overP ((edgeAt x ((bestRt (withoutP x node) first last asked).1.edges.headD 0)).base (sideP (edgeAt x ((bestRt (withoutP x node) first last asked).1.edges.headD 0)) first)) ((edgeAt x ((bestRt (withoutP x node) first last asked).1.edges.headD 0)).rate (sideP (edgeAt x ((bestRt (withoutP x node) first last asked).1.edges.headD 0)) first)) ((bestRt (withoutP x node) first last asked).1.amts.headD 0)).1, 0)
section
variable {x : Wb} {node first last asked : Int}
theorem mid_none (h : first = last) : cycMid x node first last asked = (noRt, asked, 0) := by unfold cycMid; rw [if_pos h]
theorem mid_err (h : first ≠ last) {r : Rt} {e : Int} (hb : bestRt (withoutP x node) first last asked = (r, e)) (he : e ≠ 0) : cycMid x node first last asked = (noRt, 0, e) := by
  unfold cycMid; rw [hb, if_neg h, if_pos he]
theorem mid_long (h : first ≠ last) {r : Rt} (hb : bestRt (withoutP x node) first last asked = (r, 0)) (hl : 5 < r.edges.length) : cycMid x node first last asked = (noRt, 0, 27) := by
  unfold cycMid; rw [hb, if_neg h, if_neg (by decide : ¬ (0 : Int) ≠ 0), if_pos hl]
theorem mid_in (h : first ≠ last) {r : Rt} (hb : bestRt (withoutP x node) first last asked = (r, 0)) (hl : r.edges.length ≤ 5) {k : Nat} {ed : Edg} {s u : Int} (he0 : r.edges[0]? = some (k : Int)) (hed : x.edges[k]? = some ed) (hs : sideP ed first = s) (hu : r.amts[0]? = some u) :
    cycMid x node first last asked = if (overP (ed.base s) (ed.rate s) u).2 ≠ 0 then (noRt, 0, (overP (ed.base s) (ed.rate s) u).2) else (r, (overP (ed.base s) (ed.rate s) u).1, 0) := by
  have h1 : r.edges.headD 0 = (k : Int) := by rw [List.headD_eq_head?_getD, List.head?_eq_getElem?, he0]; rfl
  have h2 : r.amts.headD 0 = u := by rw [List.headD_eq_head?_getD, List.head?_eq_getElem?, hu]; rfl
  have h3 : edgeAt x (r.edges.headD 0) = ed := by rw [h1]; exact edge_of hed
  unfold cycMid
  rw [if_neg h, hb, if_neg (by decide : ¬ (0 : Int) ≠ 0), if_neg (show ¬ 5 < r.edges.length by omega)]
  simp only [h3, hs, h2]
end
/-- The way out and back, or why there is none. -/
def cycP (x : Wb) (node out in_ am : Int) : Rt × Int :=
  if chkP x ≠ 0 then (noRt, chkP x) else
  if sideAt x out node < 0 ∨ sideAt x in_ node < 0 ∨ out = in_ ∨ am = 0 then (noRt, 1) else
  if (edgeAt x in_).can (1 - sideAt x in_ node) < am then (noRt, 28) else
  if (overP ((edgeAt x in_).base (1 - sideAt x in_ node)) ((edgeAt x in_).rate (1 - sideAt x in_ node)) am).2 ≠ 0 then (noRt, (overP ((edgeAt x in_).base (1 - sideAt x in_ node)) ((edgeAt x in_).rate (1 - sideAt x in_ node)) am).2) else
  if (cycMid x node ((edgeAt x out).endp (1 - sideAt x out node)) ((edgeAt x in_).endp (1 - sideAt x in_ node)) (overP ((edgeAt x in_).base (1 - sideAt x in_ node)) ((edgeAt x in_).rate (1 - sideAt x in_ node)) am).1).2.2 ≠ 0 then
    (noRt, (cycMid x node ((edgeAt x out).endp (1 - sideAt x out node)) ((edgeAt x in_).endp (1 - sideAt x in_ node)) (overP ((edgeAt x in_).base (1 - sideAt x in_ node)) ((edgeAt x in_).rate (1 - sideAt x in_ node)) am).1).2.2) else
  if (edgeAt x out).can (sideAt x out node) < (cycMid x node ((edgeAt x out).endp (1 - sideAt x out node)) ((edgeAt x in_).endp (1 - sideAt x in_ node)) (overP ((edgeAt x in_).base (1 - sideAt x in_ node)) ((edgeAt x in_).rate (1 - sideAt x in_ node)) am).1).2.1 then (noRt, 28) else
  (⟨node :: (edgeAt x out).endp (1 - sideAt x out node) :: ((cycMid x node ((edgeAt x out).endp (1 - sideAt x out node)) ((edgeAt x in_).endp (1 - sideAt x in_ node)) (overP ((edgeAt x in_).base (1 - sideAt x in_ node)) ((edgeAt x in_).rate (1 - sideAt x in_ node)) am).1).1.nodes.drop 1 ++ [node]),
    out :: ((cycMid x node ((edgeAt x out).endp (1 - sideAt x out node)) ((edgeAt x in_).endp (1 - sideAt x in_ node)) (overP ((edgeAt x in_).base (1 - sideAt x in_ node)) ((edgeAt x in_).rate (1 - sideAt x in_ node)) am).1).1.edges ++ [in_]),
    (cycMid x node ((edgeAt x out).endp (1 - sideAt x out node)) ((edgeAt x in_).endp (1 - sideAt x in_ node)) (overP ((edgeAt x in_).base (1 - sideAt x in_ node)) ((edgeAt x in_).rate (1 - sideAt x in_ node)) am).1).2.1 :: ((cycMid x node ((edgeAt x out).endp (1 - sideAt x out node)) ((edgeAt x in_).endp (1 - sideAt x in_ node)) (overP ((edgeAt x in_).base (1 - sideAt x in_ node)) ((edgeAt x in_).rate (1 - sideAt x in_ node)) am).1).1.amts ++ [am])⟩, 0)
theorem cyc_bad {x : Wb} {node out in_ am : Int} (h : chkP x ≠ 0) : cycP x node out in_ am = (noRt, chkP x) := by unfold cycP; rw [if_pos h]
theorem cyc_arg {x : Wb} {node out in_ am : Int} (hc : chkP x = 0) (h : sideAt x out node < 0 ∨ sideAt x in_ node < 0 ∨ out = in_ ∨ am = 0) : cycP x node out in_ am = (noRt, 1) := by
  unfold cycP; rw [if_neg (by omega), if_pos h]
/-- At which end a node is, as a number of an end. -/
theorem sideN_cases (e : Edg) (n : Int) : (sideP e n = -1 ∧ e.a ≠ n ∧ e.b ≠ n) ∨ ∃ s : Nat, s < 2 ∧ sideP e n = (s : Int) ∧ e.endp (s : Int) = n := by
  rcases side_cases e n with ⟨h1, h2⟩ | ⟨h1, h2, _⟩ | ⟨h1, h2⟩
  · exact .inr ⟨0, by omega, h1, h2⟩
  · exact .inr ⟨1, by omega, h1, h2⟩
  · exact .inl ⟨h1, h2⟩
theorem two_sub {s : Nat} (h : s < 2) : (1 : Int) - (s : Int) = ((1 - s : Nat) : Int) := by omega
theorem sideAtN_cases (x : Wb) (e n : Int) : sideAt x e n = -1 ∨ (∃ (k : Nat) (ed : Edg) (s : Nat), e = k ∧ x.edges[k]? = some ed ∧ sideAt x e n = (s : Int) ∧ sideP ed n = (s : Int) ∧ s < 2) := by
  rcases sideAt_cases x e n with h | ⟨k, ed, h1, h2, h3, h4⟩ | ⟨k, ed, h1, h2, h3, h4⟩
  · exact .inl h
  · exact .inr ⟨k, ed, 0, h1, h2, h3, h4, by omega⟩
  · exact .inr ⟨k, ed, 1, h1, h2, h3, h4, by omega⟩
theorem endsN {x : Wb} {k : Nat} {ed : Edg} {n : Int} {s : Nat} (h : x.edges[k]? = some ed) (hs : sideP ed n = (s : Int)) (h2 : s < 2) : endsP x k n = ((s : Int), ed.endp ((1 - s : Nat) : Int), 0) := by
  rw [ends_good h hs (by omega), two_sub h2]
theorem Edg.Ok.base {e : Edg} (h : e.Ok) (m : Int) : U64 (e.base m) := by unfold Edg.base; split; exact h.b0; exact h.b1
theorem Edg.Ok.rate {e : Edg} (h : e.Ok) (m : Int) : U64 (e.rate m) := by unfold Edg.rate; split; exact h.r0; exact h.r1
theorem Edg.Ok.can {e : Edg} (h : e.Ok) (m : Int) : U64 (e.can m) := by unfold Edg.can; split; exact h.c0; exact h.c1
theorem Edg.Ok.endp {e : Edg} (h : e.Ok) (m : Int) : I64 (e.endp m) := by unfold Edg.endp; split; exact h.a; exact h.b
theorem edC_end (e : Edg) {m : Nat} (h : m < 2) : (edC e)[0 + m * 1]? = some (.int .i64 (e.endp (m : Int))) := by
  match m, h with
  | 0, _ => rfl
  | 1, _ => rfl
theorem edC_can (e : Edg) {m : Nat} (h : m < 2) : (edC e)[2 + m * 1]? = some (.int .u64 (e.can (m : Int))) := by
  match m, h with
  | 0, _ => rfl
  | 1, _ => rfl
theorem edC_base (e : Edg) {m : Nat} (h : m < 2) : (edC e)[4 + m * 2]? = some (.int .u64 (e.base (m : Int))) := by
  match m, h with
  | 0, _ => rfl
  | 1, _ => rfl
theorem edC_rate (e : Edg) {m : Nat} (h : m < 2) : (edC e)[4 + m * 2 + 1]? = some (.int .u64 (e.rate (m : Int))) := by
  match m, h with
  | 0, _ => rfl
  | 1, _ => rfl
theorem cell_off {w : World} {A : Option Addr} {j j' : Nat} {v : Value} (h : cellA w A j v) (e : j' = j) : cellA w A j' v := e ▸ h
theorem two_cells {w : World} {A : Option Addr} {j : Nat} {u0 u1 : Value} (h0 : cellA w A j u0) (h1 : cellA w A (j + 1) u1) : ∀ i u, [u0, u1][i]? = some u → cellA w A (j + i) u
  | 0, u, h => by simp at h; subst h; exact h0
  | 1, u, h => by simp at h; subst h; exact h1
  | i + 2, u, h => by simp at h
/-- Where there are two such channels. -/
structure CycAt (x : Wb) (node am : Int) (ko ki : Nat) (eo ei : Edg) (s t : Nat) : Prop where
  hc : chkP x = 0
  ho : x.edges[ko]? = some eo
  hi : x.edges[ki]? = some ei
  hs : sideP eo node = (s : Int)
  ht : sideP ei node = (t : Int)
  s2 : s < 2
  t2 : t < 2
  ne : ¬ (ko : Int) = (ki : Int)
  nz : ¬ am = 0
section
variable {x : Wb} {node am : Int} {ko ki : Nat} {eo ei : Edg} {s t : Nat} {q fst lst : Int} (h : CycAt x node am ko ki eo ei s t)
include h
theorem cyc_in : cycP x node ko ki am =
    if ei.can ((1 - t : Nat) : Int) < am then (noRt, 28) else if (overP (ei.base ((1 - t : Nat) : Int)) (ei.rate ((1 - t : Nat) : Int)) am).2 ≠ 0 then (noRt, (overP (ei.base ((1 - t : Nat) : Int)) (ei.rate ((1 - t : Nat) : Int)) am).2) else
    if (cycMid x node (eo.endp ((1 - s : Nat) : Int)) (ei.endp ((1 - t : Nat) : Int)) (overP (ei.base ((1 - t : Nat) : Int)) (ei.rate ((1 - t : Nat) : Int)) am).1).2.2 ≠ 0 then (noRt, (cycMid x node (eo.endp ((1 - s : Nat) : Int)) (ei.endp ((1 - t : Nat) : Int)) (overP (ei.base ((1 - t : Nat) : Int)) (ei.rate ((1 - t : Nat) : Int)) am).1).2.2) else
    if eo.can (s : Int) < (cycMid x node (eo.endp ((1 - s : Nat) : Int)) (ei.endp ((1 - t : Nat) : Int)) (overP (ei.base ((1 - t : Nat) : Int)) (ei.rate ((1 - t : Nat) : Int)) am).1).2.1 then (noRt, 28) else
    (⟨node :: eo.endp ((1 - s : Nat) : Int) :: ((cycMid x node (eo.endp ((1 - s : Nat) : Int)) (ei.endp ((1 - t : Nat) : Int)) (overP (ei.base ((1 - t : Nat) : Int)) (ei.rate ((1 - t : Nat) : Int)) am).1).1.nodes.drop 1 ++ [node]),
      ko :: ((cycMid x node (eo.endp ((1 - s : Nat) : Int)) (ei.endp ((1 - t : Nat) : Int)) (overP (ei.base ((1 - t : Nat) : Int)) (ei.rate ((1 - t : Nat) : Int)) am).1).1.edges ++ [(ki : Int)]),
      (cycMid x node (eo.endp ((1 - s : Nat) : Int)) (ei.endp ((1 - t : Nat) : Int)) (overP (ei.base ((1 - t : Nat) : Int)) (ei.rate ((1 - t : Nat) : Int)) am).1).2.1 :: ((cycMid x node (eo.endp ((1 - s : Nat) : Int)) (ei.endp ((1 - t : Nat) : Int)) (overP (ei.base ((1 - t : Nat) : Int)) (ei.rate ((1 - t : Nat) : Int)) am).1).1.amts ++ [am])⟩, 0) := by
  have h1 : sideAt x ko node = s := (sideAt_in h.ho node).trans h.hs
  have h2 : sideAt x ki node = t := (sideAt_in h.hi node).trans h.ht
  unfold cycP
  rw [if_neg (by have := h.hc; omega), if_neg (by rw [h1, h2]; have := h.ne; have := h.nz; omega)]
  simp only [h1, h2, edge_of h.ho, edge_of h.hi, two_sub h.s2, two_sub h.t2]
theorem cyc_room1 (h1 : ei.can ((1 - t : Nat) : Int) < am) : cycP x node ko ki am = (noRt, 28) := by rw [cyc_in h, if_pos h1]
theorem cyc_fee (h1 : ¬ ei.can ((1 - t : Nat) : Int) < am) (h2 : (overP (ei.base ((1 - t : Nat) : Int)) (ei.rate ((1 - t : Nat) : Int)) am).2 ≠ 0) : cycP x node ko ki am = (noRt, (overP (ei.base ((1 - t : Nat) : Int)) (ei.rate ((1 - t : Nat) : Int)) am).2) := by rw [cyc_in h, if_neg h1, if_pos h2]
variable (h1 : ¬ ei.can ((1 - t : Nat) : Int) < am) (h2 : overP (ei.base ((1 - t : Nat) : Int)) (ei.rate ((1 - t : Nat) : Int)) am = (q, 0)) (hF : eo.endp ((1 - s : Nat) : Int) = fst) (hL : ei.endp ((1 - t : Nat) : Int) = lst)
include h1 h2 hF hL
theorem cyc_mid' {m : Rt} {p e : Int} (hm : cycMid x node fst lst q = (m, p, e)) (he : e ≠ 0) : cycP x node ko ki am = (noRt, e) := by
  rw [cyc_in h, if_neg h1, h2, if_neg (by decide : ¬ (0 : Int) ≠ 0), hF, hL, hm, if_pos he]
theorem cyc_room' {m : Rt} {p : Int} (hm : cycMid x node fst lst q = (m, p, 0)) (h3 : eo.can (s : Int) < p) : cycP x node ko ki am = (noRt, 28) := by
  rw [cyc_in h, if_neg h1, h2, if_neg (by decide : ¬ (0 : Int) ≠ 0), hF, hL, hm, if_neg (by decide : ¬ (0 : Int) ≠ 0), if_pos h3]
theorem cyc_ok' {m : Rt} {p : Int} (hm : cycMid x node fst lst q = (m, p, 0)) (h3 : ¬ eo.can (s : Int) < p) :
    cycP x node ko ki am = (⟨node :: fst :: (m.nodes.drop 1 ++ [node]), ko :: (m.edges ++ [(ki : Int)]), p :: (m.amts ++ [am])⟩, 0) := by
  rw [cyc_in h, if_neg h1, h2, if_neg (by decide : ¬ (0 : Int) ≠ 0), hF, hL, hm, if_neg (by decide : ¬ (0 : Int) ≠ 0), if_neg h3]
end
open Go Go.RowKit

theorem Sat.rowX {w0 w : World} {l : List Asn} (S : Sat w0 w l) (i : Nat) {α : Type} {k : Nat} {f : α → List Value} {T : TypeId} {A : Option Addr} {c n : Nat} {X Y : List α} (h : X = Y) (hi : l[i]? = some (row T k (.slice A n c) n (X.flatMap f))) : Sat w0 w (l.set i (row T k (.slice A n c) n (Y.flatMap f))) := by
  subst h
  exact S.turn hi fun F hF => ⟨F, hF, fun _ h => h⟩
theorem over_fit {b r a : Int} (ha : U64 a) (hb : U64 b) (hr : U64 r) (h : (overP b r a).2 = 0) : a ≤ (overP b r a).1 ∧ U64 (overP b r a).1 := by
  obtain ⟨h1, h2, h3⟩ := overP_ok ha hb hr h
  have h4 : (overP b r a).1 < 18446744073709551616 := by
    unfold overP at h ⊢
    rw [if_pos h1] at h ⊢
    have := addP_is h; omega
  unfold U64 at *
  omega
/-- The first channel of a way. -/
theorem first_edge {x : Wb} {node from_ to am : Int} {r : Rt} (hs : Snd (withoutP x node) from_ to am r) : ∃ (j : Nat) (ej : Edg) (sj : Nat), r.edges[0]? = some (j : Int) ∧ x.edges[j]? = some ej ∧ sideP ej from_ = (sj : Int) ∧ sj < 2 := by
  have h1 := hs.one; have h2 := hs.way.len; have h3 := hs.alen
  obtain ⟨j, ed, hj, q1, q2⟩ := snd_step hs hs.hd (List.getElem?_eq_getElem (by omega : 0 + 1 < r.nodes.length)) (List.getElem?_eq_getElem (by omega : 0 < r.edges.length)) (List.getElem?_eq_getElem (by omega : 0 < r.amts.length))
  have q3 : (x.edges.map (cutE node))[j]? = some ed := q1
  rw [List.getElem?_map, Option.map_eq_some_iff] at q3
  obtain ⟨ej, q4, q5⟩ := q3
  have hside : sideP ej from_ = sideP ed from_ := by
    rw [← q5]; unfold cutE
    split
    · rfl
    · rfl
  have q6 : r.edges[0]? = some (j : Int) := by rw [List.getElem?_eq_getElem (by omega : 0 < r.edges.length), hj]
  rcases q2 with ⟨h, _⟩ | ⟨h, _⟩
  · exact ⟨j, ej, 0, q6, q4, hside.trans h, by omega⟩
  · exact ⟨j, ej, 1, q6, q4, hside.trans h, by omega⟩
def cFee (r : Rt) (am er : Int) : Int := if er = 0 then r.amts.headD 0 - am else 0
theorem cFee_bad {r : Rt} {am er : Int} (h : er ≠ 0) : cFee r am er = 0 := if_neg h
theorem bag_tail {w0 w : World} {l : List Asn} (S : Sat w0 w l) (i : Nat) {R : List RtM} (hi : l[i]? = some (bag (R.flatMap rtRows))) {m : RtM} (hm : m ∈ R) (hl : m.r.nodes.length ≤ 1000) (h1 : 1 ≤ m.r.nodes.length) : Recs 1 iC_i64 w (if m.c1 = 1 then m.A1 else m.A1.map (·.add (1 * 1))) (m.c1 - 1) (m.r.nodes.drop 1) := by
  have hr := bag_row S i hi hm (d := ⟨3, 1, .slice m.A1 m.r.nodes.length m.c1, m.r.nodes.length, m.r.nodes.flatMap iC_i64⟩) (by simp [rtRows])
  have hb := bag_nodes S i hi hm hl
  have hcap : m.r.nodes.length ≤ m.c1 := by
    rcases hr.2 with ⟨h2, h3⟩ | ⟨_, _, _, h2, _, _, h3, _⟩
    · injection h2 with _ h4 h5; omega
    · injection h2 with _ h4 h5; omega
  have hne : m.A1 ≠ none := fun e => by have := (hb.none_ e).1; omega
  split
  · rename_i hc
    have hnil : m.r.nodes.drop 1 = [] := List.drop_of_length_le (by omega)
    rw [hnil]
    exact ⟨fun e => absurd e hne, fun ad _ j u hj => by simp at hj, by simp⟩
  · refine ⟨fun e => absurd (by simpa using e) hne, ?_, by rw [List.length_drop]; omega⟩
    rintro ad had j u hj
    rw [Option.map_eq_some_iff] at had
    obtain ⟨ad0, h0, rfl⟩ := had
    rw [add_add]
    refine hb.src ad0 h0 _ u ?_
    obtain ⟨a, t, ht⟩ : ∃ a t, m.r.nodes = a :: t := by
      match m.r.nodes, h1 with
      | a :: t, _ => exact ⟨a, t, rfl⟩
    rw [ht] at hj ⊢
    simp only [List.drop_succ_cons, List.drop_zero] at hj
    rw [List.flatMap_cons]
    show (iC_i64 a ++ t.flatMap iC_i64)[1 * 1 + j]? = some u
    rw [List.getElem?_append_right (by show 1 ≤ 1 * 1 + j; omega)]
    rw [show 1 * 1 + j - (iC_i64 a).length = j from by show 1 * 1 + j - 1 = j; omega]
    exact hj
theorem op_sliceT {P : Program} {a : Act} {nt : Nat} {L : List (Nat × Value)} {o : Oper} {R : Value → World → Prop} {w : World} (v : Value) (T e : TypeId) (x y : Operand) (A : Option Addr) (N c k : Nat) (kd : IntKind) (F : Fr a nt L) (ho : o.op = .slice T x (some y) none none) (hT : P.underlying T = some (.slice e)) (hk : sizeT P e = some k) (hx : val? L x = some (.slice A N c)) (hy : val? L y = some (.int kd 1)) (hm : 1 ≤ N) (hv : cutL A N c k = v) (hR : R v w) : OpR P a w o R :=
  op_sliceL T e x y A N c k kd F ho hT hk hx hy hm (hv ▸ hR)
set_option maxRecDepth 100000 in
set_option maxHeartbeats 4000000 in
theorem without_any (w : World) (As : Option Addr) (cs : Nat) (Ae : Option Addr) (ce : Nat) (x : Wb) (h : WebAt w As cs Ae ce x) (ok : x.Ok) (node : Int) (hl1 : x.spots.length ≤ 1000) (hl2 : x.edges.length ≤ 1000) : Calls Try.prog 83 #[.agg #[.slice As x.spots.length cs, .slice Ae x.edges.length ce], .int .i64 node] w fun e w' => ∃ A1 c1 A2 c2, e = .returned (.agg #[.slice A1 (withoutP x node).spots.length c1, .slice A2 (withoutP x node).edges.length c2]) ∧ Sat w w' [rest w (· < w.heap.size), row 107 2 (.slice A1 (withoutP x node).spots.length c1) (withoutP x node).spots.length ((withoutP x node).spots.flatMap spC), row 62 8 (.slice A2 (withoutP x node).edges.length c2) (withoutP x node).edges.length ((withoutP x node).edges.flatMap edC)] := by
 refine enter 36 Try.func83 rfl rfl rfl fun a F => ?_
 have S := Sat.pushRest w
 refine s_reg ?_
 refine l_do F rfl rfl (op_box S _ _ (.agg #[.slice As x.spots.length cs, .slice Ae x.edges.length ce]) F rfl (by kernel_rfl) fun b1 z S a F => ?_)
 refine l_do F rfl rfl (op_alloc S _ (.agg #[.slice none 0 0, .slice none 0 0]) rfl (by kernel_rfl) fun b2 z S a F => ?_)
 refine l_then ?_
 refine wp_seq ?_
 have S := S.pushEmp.pushEmp.pushEmp
 refine region_gx (fun D => fun ((A3, c4, A5, c6, b7) : Option Addr × Nat × Option Addr × Nat × Nat) => [rest w (· < w.heap.size), box b1 32 [.slice As x.spots.length cs, .slice Ae x.edges.length ce], box b2 32 [.slice none 0 0, .slice none 0 0], bif D 2 then row 107 2 (.slice A3 x.spots.length c4) x.spots.length (x.spots.flatMap spC) else emp, bif D 5 then row 62 8 (.slice A5 x.edges.length c6) x.edges.length (x.edges.flatMap edC) else emp, bif D 8 then box b7 32 [.slice A3 x.spots.length c4, .slice A5 x.edges.length c6] else (bif D 7 then box b7 32 [.slice none 0 0, .slice none 0 0] else emp)]) (fun ((A3, c4, A5, c6, b7) : Option Addr × Nat × Option Addr × Nat × Nat) => [.pointer (some ⟨b1, 0, none⟩), .slice As x.spots.length cs, .slice A3 x.spots.length c4, .pointer (some ⟨b1, 1, none⟩), .slice Ae x.edges.length ce, .slice A5 x.edges.length c6, .agg #[.slice A3 x.spots.length c4, .slice A5 x.edges.length c6], .pointer (some ⟨b7, 0, none⟩), undef]) [(1, [], [2, 5, 8]), (2, [1], [5, 8]), (4, [], [5, 8]), (5, [1, 2, 4], [8]), (7, [], [8]), (8, [1, 2, 4, 5, 7], [])] (none, 0, none, 0, 0) rfl (by kernel_rfl) (by kernel_rfl) F S.drew ?_ ?_ ?_ ?_ ?_
 · rintro ⟨A3, c4, A5, c6, b7⟩; rfl
 · rintro ⟨A3, c4, A5, c6, b7⟩; kernel_rfl
 ·
  intro D D' x h
  obtain ⟨A3, c4, A5, c6, b7⟩ := x
  simp only [h 2 (by decide), h 5 (by decide), h 7 (by decide), h 8 (by decide)]
 ·
  refine ⟨?_, ?_⟩
  ·
   refine ⟨_, rfl, rfl, by kernel_rfl, ?_⟩
   rintro D ⟨A3, c4, A5, c6, b7⟩ a z S F
   refine ⟨by kernel_rfl, ?_⟩
   exact op_load _ _ (some ⟨b1, 0, none⟩) 0 (.slice As x.spots.length cs) F rfl (by kernel_rfl) (by kernel_rfl) (cBox S 1 rfl (j := 0) rfl) (⟨(A3, c4, A5, c6, b7), rfl, (SameB.refl _ _ rfl), S⟩)
  refine ⟨?_, ?_⟩
  ·
   refine ⟨_, rfl, rfl, by kernel_rfl, ?_⟩
   rintro D ⟨A3, c4, A5, c6, b7⟩ a z S F
   refine ⟨by kernel_rfl, ?_⟩
   refine op_fn F (by kernel_rfl) (cloneS8_any _ As cs x.spots (h.move S rfl).s hl1) ?_
   rintro e z ⟨y8, y9, rfl, g⟩
   have S := S.fillThing 3 rfl g
   exact ⟨_, rfl, (y8, y9, A5, c6, b7), rfl, ⟨rfl, rfl, trivial, rfl, rfl, trivial, trivial, rfl, trivial, trivial⟩, S⟩
  refine ⟨?_, ?_⟩
  ·
   refine ⟨_, rfl, rfl, by kernel_rfl, ?_⟩
   rintro D ⟨A3, c4, A5, c6, b7⟩ a z S F
   refine ⟨by kernel_rfl, ?_⟩
   exact op_load _ _ (some ⟨b1, 0, none⟩) 1 (.slice Ae x.edges.length ce) F rfl (by kernel_rfl) (by kernel_rfl) (cBox S 1 rfl (j := 1) rfl) (⟨(A3, c4, A5, c6, b7), rfl, (SameB.refl _ _ rfl), S⟩)
  refine ⟨?_, ?_⟩
  ·
   refine ⟨_, rfl, rfl, by kernel_rfl, ?_⟩
   rintro D ⟨A3, c4, A5, c6, b7⟩ a z S F
   refine ⟨by kernel_rfl, ?_⟩
   refine op_fn F (by kernel_rfl) (cloneE8_any _ Ae ce x.edges (h.move S rfl).e hl2) ?_
   rintro e z ⟨y12, y13, rfl, g⟩
   have S := S.fillThing 4 rfl g
   exact ⟨_, rfl, (A3, c4, y12, y13, b7), rfl, ⟨rfl, rfl, rfl, rfl, rfl, trivial, trivial, rfl, trivial, trivial⟩, S⟩
  refine ⟨?_, ?_⟩
  ·
   refine ⟨_, rfl, rfl, by kernel_rfl, ?_⟩
   rintro D ⟨A3, c4, A5, c6, b7⟩ a z S F
   refine ⟨by kernel_rfl, ?_⟩
   exact op_allocF S 5 rfl _ (.agg #[.slice none 0 0, .slice none 0 0]) rfl (by kernel_rfl) fun y16 z S => ⟨(A3, c4, A5, c6, y16), rfl, ⟨rfl, rfl, rfl, rfl, rfl, rfl, rfl, trivial, trivial, trivial⟩, S⟩
  refine ⟨?_, ?_⟩
  ·
   refine ⟨_, rfl, rfl, by kernel_rfl, ?_⟩
   rintro D ⟨A3, c4, A5, c6, b7⟩ a z S F
   refine ⟨by kernel_rfl, ?_⟩
   exact op_storeB S 5 _ _ _ b7 0 (.agg #[.slice A3 x.spots.length c4, .slice A5 x.edges.length c6]) F rfl rfl (by kernel_rfl) (by kernel_rfl) (by kernel_rfl) (by kernel_rfl) (by kernel_rfl) fun z S => ⟨(A3, c4, A5, c6, b7), rfl, (SameB.refl _ _ rfl), S⟩
  trivial
 ·
  rintro ⟨A3, c4, A5, c6, b7⟩ a z F S
  have F := F.sub (l := [(1, .int .i64 node), (4, .pointer (some ⟨b2, 0, none⟩)), (5, .pointer (some ⟨b7, 0, none⟩))]) ⟨by kernel_rfl, by kernel_rfl, by kernel_rfl, trivial⟩
  have S : Sat w z [rest w (· < w.heap.size), box b1 32 [.slice As x.spots.length cs, .slice Ae x.edges.length ce], box b2 32 [.slice none 0 0, .slice none 0 0], row 107 2 (.slice A3 x.spots.length c4) x.spots.length (x.spots.flatMap spC), row 62 8 (.slice A5 x.edges.length c6) x.edges.length (x.edges.flatMap edC), box b7 32 [.slice A3 x.spots.length c4, .slice A5 x.edges.length c6]] := S
  refine then_n ?_
  refine wp_seq ?_
  refine s_reg ?_
  refine l_pure 1 (fun L => (14, .pointer (some ⟨b7, 1, none⟩)) :: L) F (by kernel_rfl) fun a F => ?_
  refine l_do F rfl rfl (op_load _ _ (some ⟨b7, 0, none⟩) 1 (.slice A5 x.edges.length c6) F rfl (by kernel_rfl) (by kernel_rfl) (cBox S 5 rfl (j := 1) rfl) (fun a F => ?_))
  refine l_pure 2 (fun L => (17, .int .i64 0) :: (16, .int .i64 (x.edges.length : Nat)) :: L) F (by kernel_rfl) fun a F => ?_
  refine l_then ?_
  refine wp_block ?_
  refine wp_loop_m (fun m a z => ∃ (i : Nat), m = x.edges.length - i ∧ (i ≤ x.edges.length) ∧ Fr a 36 [(1, .int .i64 node), (4, .pointer (some ⟨b2, 0, none⟩)), (5, .pointer (some ⟨b7, 0, none⟩)), (16, .int .i64 (x.edges.length : Nat)), (17, .int .i64 (i : Nat))] ∧ Sat w z [rest w (· < w.heap.size), box b1 32 [.slice As x.spots.length cs, .slice Ae x.edges.length ce], box b2 32 [.slice none 0 0, .slice none 0 0], row 107 2 (.slice A3 x.spots.length c4) x.spots.length (x.spots.flatMap spC), row 62 8 (.slice A5 x.edges.length c6) x.edges.length ((cutT node x.edges i).flatMap edC), box b7 32 [.slice A3 x.spots.length c4, .slice A5 x.edges.length c6]]) _ ⟨0, rfl, Nat.zero_le _, F.sub ⟨by kernel_rfl, by kernel_rfl, by kernel_rfl, by kernel_rfl, by kernel_rfl, trivial⟩, (S.rowX 4 (show x.edges = (cutT node x.edges 0) from (cutT_zero node x.edges).symm) rfl)⟩ ?_
  rintro m a z ⟨i, hm, hf17, F, S⟩
  refine s_reg ?_
  by_cases ht18 : ((i : Nat) : Int) < ((x.edges.length : Nat) : Int)
  ·
   skip
   obtain ⟨ed, hed⟩ : ∃ ed, x.edges[i]? = some ed := ⟨_, List.getElem?_eq_getElem (by omega)⟩
   refine l_do F rfl rfl (op_pure F (v0 := .bool (decide (((i : Nat) : Int) < ((x.edges.length : Nat) : Int)))) (v := .bool true) (by kernel_rfl) (lssT ht18) fun a F => ?_)
   refine l_then ?_
   refine wp_seq ?_
   refine c_t F rfl ?_
   refine wp_skip ?_
   refine then_n ?_
   refine wp_seq ?_
   refine wp_block ?_
   refine s_reg ?_
   refine l_pure 2 (fun L => (6, .int .i64 (i : Nat)) :: (19, .int .i64 (i : Nat)) :: L) F (by kernel_rfl) fun a F => ?_
   refine l_then ?_
   refine s_reg ?_
   refine l_pure 1 (fun L => (20, .pointer (some ⟨b7, 1, none⟩)) :: L) F (by kernel_rfl) fun a F => ?_
   refine l_do F rfl rfl (op_load _ _ (some ⟨b7, 0, none⟩) 1 (.slice A5 x.edges.length c6) F rfl (by kernel_rfl) (by kernel_rfl) (cBox S 5 rfl (j := 1) rfl) (fun a F => ?_))
   refine l_pure 1 (fun L => (22, .int .i64 (i : Nat)) :: L) F (by kernel_rfl) fun a F => ?_
   refine l_do F rfl rfl (op_index _ 62 _ _ A5 x.edges.length c6 i 8 .i64 F rfl (by kernel_rfl) (by kernel_rfl) (by kernel_rfl) (by kernel_rfl) (by have h9 := get_lt (cutT_get (n := node) hed); (try simp only [List.length_set] at h9); omega) (row_some S 4 rfl (m := i) (by have h9 := get_lt (cutT_get (n := node) hed); (try simp only [List.length_set] at h9); omega)) (fun a F => ?_))
   refine l_do F rfl rfl (op_loadK _ _ A5 (i * 8) [.int .i64 ed.a, .int .i64 ed.b, .int .u64 ed.c0, .int .u64 ed.c1, .int .u64 ed.b0, .int .u64 ed.r0, .int .u64 ed.b1, .int .u64 ed.r1] F rfl (by kernel_rfl) (by kernel_rfl) (by kernel_rfl) (by simp) (cRecK0 S 4 edC_len rfl (cutT_get (n := node) hed) (by kernel_rfl)) (fun a F => ?_))
   refine l_pure 1 (fun L => (25, .int .i64 node) :: L) F (by kernel_rfl) fun a F => ?_
   rcases sideN_cases ed node with ⟨hs, ha, hb1⟩ | ⟨s, hs2, hs, hse⟩
   ·
    skip
    refine l_do F rfl rfl (op_fn F (by kernel_rfl) (side_at hs _) ?_)
    rintro e z ⟨rfl, hb⟩
    have S := S.grow hb
    refine ⟨_, rfl, ?_⟩
    intro a F
    refine l_pure 1 (fun L => (27, .bool false) :: L) F (by kernel_rfl) fun a F => ?_
    refine l_then ?_
    refine c_f F rfl ?_
    refine wp_skip ?_
    refine inb_n ?_
    refine then_n ?_
    refine wp_region_list ?_
    refine l_do F rfl rfl (op_pure F (v0 := .int .i64 (IntKind.wrap .i64 ((i : Nat) + 1))) (v := .int .i64 (i + 1 : Nat)) (by kernel_rfl) (wrn_i64 (by omega) (by omega) (by omega)) fun a F => ?_)
    refine l_pure 1 (fun L => (17, .int .i64 (i + 1 : Nat)) :: L) F (by kernel_rfl) fun a F => ?_
    refine l_then ?_
    have S := S.rowX 4 (show (cutT node x.edges i) = (cutT node x.edges (i + 1)) from (cutT_same hed hs)) rfl
    exact ⟨_, (by omega), i + 1, rfl, (by omega), F.sub ⟨by kernel_rfl, by kernel_rfl, by kernel_rfl, by kernel_rfl, by kernel_rfl, trivial⟩, S⟩
   ·
    skip
    refine l_do F rfl rfl (op_fn F (by kernel_rfl) (side_at hs _) ?_)
    rintro e z ⟨rfl, hb⟩
    have S := S.grow hb
    refine ⟨_, rfl, ?_⟩
    intro a F
    refine l_do F rfl rfl (op_pure F (v0 := .bool (decide (((s : Nat) : Int) ≥ (0 : Int)))) (v := .bool true) (by kernel_rfl) (geqT (by omega)) fun a F => ?_)
    refine l_then ?_
    refine c_t F rfl ?_
    refine wp_region_list ?_
    refine l_pure 1 (fun L => (28, .pointer (some ⟨b7, 1, none⟩)) :: L) F (by kernel_rfl) fun a F => ?_
    refine l_do F rfl rfl (op_load _ _ (some ⟨b7, 0, none⟩) 1 (.slice A5 x.edges.length c6) F rfl (by kernel_rfl) (by kernel_rfl) (cBox S 5 rfl (j := 1) rfl) (fun a F => ?_))
    refine l_pure 2 (fun L => (31, .agg #[.int .u64 0, .int .u64 0]) :: (30, .int .i64 (i : Nat)) :: L) F (by kernel_rfl) fun a F => ?_
    refine l_do F rfl rfl (op_index _ 62 _ _ A5 x.edges.length c6 i 8 .i64 F rfl (by kernel_rfl) (by kernel_rfl) (by kernel_rfl) (by kernel_rfl) (by have h9 := get_lt (cutT_get (n := node) hed); (try simp only [List.length_set] at h9); omega) (row_some S 4 rfl (m := i) (by have h9 := get_lt (cutT_get (n := node) hed); (try simp only [List.length_set] at h9); omega)) (fun a F => ?_))
    refine l_do F rfl rfl (op_field _ _ _ A5 (i * 8) 2 F rfl (by kernel_rfl) (by kernel_rfl) (row_some S 4 rfl (m := i) (by have h9 := get_lt (cutT_get (n := node) hed); (try simp only [List.length_set] at h9); omega)) (fun a F => ?_))
    refine l_do F rfl rfl (op_storeRec S 4 _ _ _ A5 i 8 2 (.agg #[.int .u64 0, .int .u64 0]) (⟨ed.a, ed.b, 0, 0, ed.b0, ed.r0, ed.b1, ed.r1⟩ : Edg) F edC_len (cutT_get (n := node) hed) rfl rfl (by kernel_rfl) (by kernel_rfl) (by kernel_rfl) (by kernel_rfl) (by kernel_rfl) (by kernel_rfl) (by kernel_rfl) fun z S a F => ?_)
    refine l_nil (inb_n ?_)
    refine then_n ?_
    refine wp_region_list ?_
    refine l_do F rfl rfl (op_pure F (v0 := .int .i64 (IntKind.wrap .i64 ((i : Nat) + 1))) (v := .int .i64 (i + 1 : Nat)) (by kernel_rfl) (wrn_i64 (by omega) (by omega) (by omega)) fun a F => ?_)
    refine l_pure 1 (fun L => (17, .int .i64 (i + 1 : Nat)) :: L) F (by kernel_rfl) fun a F => ?_
    refine l_then ?_
    have S := S.rowX 4 (show ((cutT node x.edges i).set i (⟨ed.a, ed.b, 0, 0, ed.b0, ed.r0, ed.b1, ed.r1⟩ : Edg)) = (cutT node x.edges (i + 1)) from (by rw [← cutT_set hed, cutE_at (by omega)])) rfl
    exact ⟨_, (by omega), i + 1, rfl, (by omega), F.sub ⟨by kernel_rfl, by kernel_rfl, by kernel_rfl, by kernel_rfl, by kernel_rfl, trivial⟩, S⟩
  ·
   skip
   refine l_do F rfl rfl (op_pure F (v0 := .bool (decide (((i : Nat) : Int) < ((x.edges.length : Nat) : Int)))) (v := .bool false) (by kernel_rfl) (lssF ht18) fun a F => ?_)
   refine l_then ?_
   refine wp_seq ?_
   refine c_f F rfl ?_
   refine wp_exit ?_
   refine then_x ?_
   refine then_x ?_
   refine inb_x ?_
   refine then_n ?_
   refine s_reg ?_
   refine l_do F rfl rfl (op_loadK _ _ (some ⟨b7, 0, none⟩) 0 [.slice A3 x.spots.length c4, .slice A5 x.edges.length c6] F rfl (by kernel_rfl) (by kernel_rfl) (by kernel_rfl) (by simp) (cBoxK S 5 rfl 0 (by kernel_rfl)) (fun a F => ?_))
   refine l_do F rfl rfl (op_storeB S 2 _ _ _ b2 0 (.agg #[.slice A3 x.spots.length c4, .slice A5 x.edges.length c6]) F rfl rfl (by kernel_rfl) (by kernel_rfl) (by kernel_rfl) (by kernel_rfl) (by kernel_rfl) fun z S a F => ?_)
   refine l_then ?_
   refine wp_ret ?_
   have hX : (cutT node x.edges i) = (withoutP x node).edges := cutT_all node x.edges (by omega)
   have hXl : x.edges.length = (withoutP x node).edges.length := (without_len x node).2.symm
   have S := S.rowEq 4 hX hXl rfl
   exact fin F [.cell 4 32] [.agg #[.slice A3 x.spots.length c4, .slice A5 x.edges.length c6]] rfl ⟨⟨_, by kernel_rfl, resK S 2 (cs := [.slice A3 x.spots.length c4, .slice A5 x.edges.length c6]) rfl (by kernel_rfl) (by kernel_rfl) (by simp)⟩, trivial⟩ (.agg #[.slice A3 x.spots.length c4, .slice A5 x.edges.length c6]) rfl ⟨A3, c4, A5, c6, by rw [← hXl]; rfl, S.pick [0, 3, 4] (by decide)⟩
set_option maxRecDepth 100000 in
set_option maxHeartbeats 4000000 in
theorem ends_at (w : World) (As : Option Addr) (cs : Nat) (Ae : Option Addr) (ce : Nat) (x : Wb) (h : WebAt w As cs Ae ce x) (ok : x.Ok) (edge node : Int) {s q er : Int} (hv : endsP x edge node = (s, q, er)) : Calls Try.prog 81 #[.agg #[.slice As x.spots.length cs, .slice Ae x.edges.length ce], .int .i64 edge, .int .i64 node] w fun e w' => e = .returned (.tuple #[.int .i64 s, .int .i64 q, .int .i64 er]) ∧ Below w.heap.size w w' := by
 refine enter 35 Try.func81 rfl rfl rfl fun a F => ?_
 have S := Sat.pushRest w
 refine s_reg ?_
 refine l_do F rfl rfl (op_box S _ _ (.agg #[.slice As x.spots.length cs, .slice Ae x.edges.length ce]) F rfl (by kernel_rfl) fun b1 z S a F => ?_)
 refine l_pure 3 (fun L => (8, .int .i64 0) :: (7, .int .i64 0) :: (6, .int .i64 0) :: L) F (by kernel_rfl) fun a F => ?_
 refine l_then ?_
 refine wp_seq ?_
 refine s_reg ?_
 refine l_pure 1 (fun L => (10, .int .i64 edge) :: L) F (by kernel_rfl) fun a F => ?_
 by_cases ht2 : (edge : Int) < (0 : Int)
 ·
  skip
  have h9 := hv.symm.trans (ends_bad (sideAt_out (.inl ht2) node))
  simp only [Prod.mk.injEq] at h9
  obtain ⟨rfl, rfl, rfl⟩ := h9
  refine l_do F rfl rfl (op_pure F (v0 := .bool (decide ((edge : Int) < (0 : Int)))) (v := .bool true) (by kernel_rfl) (lssT ht2) fun a F => ?_)
  refine l_pure 7 (fun L => (18, .bool true) :: (17, undef) :: (16, undef) :: (15, undef) :: (14, undef) :: (13, undef) :: (12, .bool true) :: L) F (by kernel_rfl) fun a F => ?_
  refine l_then ?_
  refine c_t F rfl ?_
  refine s_reg ?_
  refine l_pure 3 (fun L => (8, .int .i64 1) :: (7, .int .i64 0) :: (6, .int .i64 0) :: L) F (by kernel_rfl) fun a F => ?_
  refine l_then ?_
  refine wp_ret ?_
  refine then_r (?_)
  exact fin F [.tmp 6, .tmp 7, .tmp 8] [.int .i64 0, .int .i64 0, .int .i64 1] rfl ⟨by kernel_rfl, by kernel_rfl, by kernel_rfl, trivial⟩ (.tuple #[.int .i64 0, .int .i64 0, .int .i64 1]) rfl ⟨rfl, S.below (i := 0) rfl⟩
 ·
  skip
  refine l_do F rfl rfl (op_pure F (v0 := .bool (decide ((edge : Int) < (0 : Int)))) (v := .bool false) (by kernel_rfl) (lssF ht2) fun a F => ?_)
  refine l_pure 3 (fun L => (14, .pointer (some ⟨b1, 1, none⟩)) :: (13, .int .i64 edge) :: (12, .bool false) :: L) F (by kernel_rfl) fun a F => ?_
  refine l_do F rfl rfl (op_load _ _ (some ⟨b1, 0, none⟩) 1 (.slice Ae x.edges.length ce) F rfl (by kernel_rfl) (by kernel_rfl) (cBox S 1 rfl (j := 1) rfl) (fun a F => ?_))
  refine l_pure 1 (fun L => (16, .int .i64 (x.edges.length : Nat)) :: L) F (by kernel_rfl) fun a F => ?_
  by_cases ht3 : ((x.edges.length : Nat) : Int) ≤ (edge : Int)
  ·
   skip
   have h9 := hv.symm.trans (ends_bad (sideAt_out (.inr (by omega)) node))
   simp only [Prod.mk.injEq] at h9
   obtain ⟨rfl, rfl, rfl⟩ := h9
   refine l_do F rfl rfl (op_pure F (v0 := .bool (decide ((edge : Int) ≥ ((x.edges.length : Nat) : Int)))) (v := .bool true) (by kernel_rfl) (geqT ht3) fun a F => ?_)
   refine l_pure 1 (fun L => (18, .bool true) :: L) F (by kernel_rfl) fun a F => ?_
   refine l_then ?_
   refine c_t F rfl ?_
   refine s_reg ?_
   refine l_pure 3 (fun L => (8, .int .i64 1) :: (7, .int .i64 0) :: (6, .int .i64 0) :: L) F (by kernel_rfl) fun a F => ?_
   refine l_then ?_
   refine wp_ret ?_
   refine then_r (?_)
   exact fin F [.tmp 6, .tmp 7, .tmp 8] [.int .i64 0, .int .i64 0, .int .i64 1] rfl ⟨by kernel_rfl, by kernel_rfl, by kernel_rfl, trivial⟩ (.tuple #[.int .i64 0, .int .i64 0, .int .i64 1]) rfl ⟨rfl, S.below (i := 0) rfl⟩
  ·
   skip
   obtain ⟨k, rfl⟩ : ∃ k : Nat, edge = k := ⟨edge.toNat, by omega⟩
   obtain ⟨ed, hed⟩ : ∃ ed, x.edges[k]? = some ed := ⟨_, List.getElem?_eq_getElem (by omega)⟩
   refine l_do F rfl rfl (op_pure F (v0 := .bool (decide (((k : Nat) : Int) ≥ ((x.edges.length : Nat) : Int)))) (v := .bool false) (by kernel_rfl) (geqF ht3) fun a F => ?_)
   refine l_pure 1 (fun L => (18, .bool false) :: L) F (by kernel_rfl) fun a F => ?_
   refine l_then ?_
   refine c_f F rfl ?_
   refine wp_skip ?_
   refine then_n ?_
   refine s_reg ?_
   refine l_pure 1 (fun L => (19, .pointer (some ⟨b1, 1, none⟩)) :: L) F (by kernel_rfl) fun a F => ?_
   refine l_do F rfl rfl (op_load _ _ (some ⟨b1, 0, none⟩) 1 (.slice Ae x.edges.length ce) F rfl (by kernel_rfl) (by kernel_rfl) (cBox S 1 rfl (j := 1) rfl) (fun a F => ?_))
   refine l_pure 1 (fun L => (21, .int .i64 (k : Nat)) :: L) F (by kernel_rfl) fun a F => ?_
   refine l_do F rfl rfl (op_index _ 62 _ _ Ae x.edges.length ce k 8 .i64 F rfl (by kernel_rfl) (by kernel_rfl) (by kernel_rfl) (by kernel_rfl) (get_lt hed) (recs_some h.e (m := k) (get_lt hed)) (fun a F => ?_))
   refine l_do F rfl rfl (op_loadK _ _ Ae (k * 8) [.int .i64 ed.a, .int .i64 ed.b, .int .u64 ed.c0, .int .u64 ed.c1, .int .u64 ed.b0, .int .u64 ed.r0, .int .u64 ed.b1, .int .u64 ed.r1] F rfl (by kernel_rfl) (by kernel_rfl) (by kernel_rfl) (by simp) (cOldK0 S 0 edC_len h.e rfl hed (by kernel_rfl)) (fun a F => ?_))
   refine l_do F rfl rfl (op_alloc S _ (.agg #[.int .i64 0, .int .i64 0, .int .u64 0, .int .u64 0, .int .u64 0, .int .u64 0, .int .u64 0, .int .u64 0]) rfl (by kernel_rfl) fun b4 z S a F => ?_)
   refine l_do F rfl rfl (op_storeB S 2 _ _ _ b4 0 (.agg #[.int .i64 ed.a, .int .i64 ed.b, .int .u64 ed.c0, .int .u64 ed.c1, .int .u64 ed.b0, .int .u64 ed.r0, .int .u64 ed.b1, .int .u64 ed.r1]) F rfl rfl (by kernel_rfl) (by kernel_rfl) (by kernel_rfl) (by kernel_rfl) (by kernel_rfl) fun z S a F => ?_)
   refine l_then ?_
   refine wp_seq ?_
   refine s_reg ?_
   refine l_do F rfl rfl (op_loadK _ _ (some ⟨b4, 0, none⟩) 0 [.int .i64 ed.a, .int .i64 ed.b, .int .u64 ed.c0, .int .u64 ed.c1, .int .u64 ed.b0, .int .u64 ed.r0, .int .u64 ed.b1, .int .u64 ed.r1] F rfl (by kernel_rfl) (by kernel_rfl) (by kernel_rfl) (by simp) (cBoxK S 2 rfl 0 (by kernel_rfl)) (fun a F => ?_))
   refine l_pure 1 (fun L => (25, .int .i64 node) :: L) F (by kernel_rfl) fun a F => ?_
   rcases sideN_cases ed node with ⟨hs, ha, hb1⟩ | ⟨s, hs2, hs, hse⟩
   ·
    skip
    have h9 := hv.symm.trans (ends_bad ((sideAt_in hed node).trans hs))
    simp only [Prod.mk.injEq] at h9
    obtain ⟨rfl, rfl, rfl⟩ := h9
    refine l_do F rfl rfl (op_fn F (by kernel_rfl) (side_at hs _) ?_)
    rintro e z ⟨rfl, hb⟩
    have S := S.grow hb
    refine ⟨_, rfl, ?_⟩
    intro a F
    refine l_pure 1 (fun L => (6, .int .i64 (-1)) :: L) F (by kernel_rfl) fun a F => ?_
    refine l_then ?_
    refine s_reg ?_
    refine l_pure 2 (fun L => (28, .bool true) :: (27, .int .i64 (-1)) :: L) F (by kernel_rfl) fun a F => ?_
    refine l_then ?_
    refine c_t F rfl ?_
    refine s_reg ?_
    refine l_pure 3 (fun L => (8, .int .i64 1) :: (7, .int .i64 0) :: (6, .int .i64 0) :: L) F (by kernel_rfl) fun a F => ?_
    refine l_then ?_
    refine wp_ret ?_
    refine then_r (?_)
    exact fin F [.tmp 6, .tmp 7, .tmp 8] [.int .i64 0, .int .i64 0, .int .i64 1] rfl ⟨by kernel_rfl, by kernel_rfl, by kernel_rfl, trivial⟩ (.tuple #[.int .i64 0, .int .i64 0, .int .i64 1]) rfl ⟨rfl, S.below (i := 0) rfl⟩
   ·
    skip
    have h9 := hv.symm.trans (endsN hed hs hs2)
    simp only [Prod.mk.injEq] at h9
    obtain ⟨rfl, rfl, rfl⟩ := h9
    refine l_do F rfl rfl (op_fn F (by kernel_rfl) (side_at hs _) ?_)
    rintro e z ⟨rfl, hb⟩
    have S := S.grow hb
    refine ⟨_, rfl, ?_⟩
    intro a F
    refine l_pure 1 (fun L => (6, .int .i64 (s : Nat)) :: L) F (by kernel_rfl) fun a F => ?_
    refine l_then ?_
    refine s_reg ?_
    refine l_pure 1 (fun L => (27, .int .i64 (s : Nat)) :: L) F (by kernel_rfl) fun a F => ?_
    refine l_do F rfl rfl (op_pure F (v0 := .bool (decide (((s : Nat) : Int) < (0 : Int)))) (v := .bool false) (by kernel_rfl) (lssF (by omega)) fun a F => ?_)
    refine l_then ?_
    refine c_f F rfl ?_
    refine wp_skip ?_
    refine then_n ?_
    refine wp_seq ?_
    refine region_gx (fun D => fun (_ : Unit) => [rest w (· < w.heap.size), box b1 32 [.slice As x.spots.length cs, .slice Ae x.edges.length ce], box b4 62 [.int .i64 ed.a, .int .i64 ed.b, .int .u64 ed.c0, .int .u64 ed.c1, .int .u64 ed.b0, .int .u64 ed.r0, .int .u64 ed.b1, .int .u64 ed.r1]]) (fun (_ : Unit) => [.int .i64 (s : Nat), .int .i64 (s : Nat), .int .i64 (1 - s : Nat), .pointer (some ⟨b4, 0, none⟩), ptrA (some ⟨b4, 0, none⟩) (0 + (1 - s) * 1), .int .i64 (ed.endp (1 - s : Nat)), .int .i64 (s : Nat), .int .i64 (ed.endp (1 - s : Nat)), .int .i64 0]) [(2, [], [4, 5]), (4, [2], [5]), (5, [2, 4], [])] () rfl (by kernel_rfl) (by kernel_rfl) F S.drew ?_ ?_ ?_ ?_ ?_
    · rintro ⟨⟩; rfl
    · rintro ⟨⟩; kernel_rfl
    ·
     intro D D' x h
     cases x
     rfl
    ·
     refine ⟨?_, ?_⟩
     ·
      refine ⟨_, rfl, rfl, by kernel_rfl, ?_⟩
      rintro D ⟨⟩ a z S F
      refine ⟨by kernel_rfl, ?_⟩
      exact op_pure F (v0 := .int .i64 (IntKind.wrap .i64 (1 - (s : Nat)))) (v := .int .i64 (1 - s : Nat)) (by kernel_rfl) (wrn_i64 (by omega) (by omega) (by omega)) ⟨(), rfl, (SameB.refl _ _ rfl), S⟩
     refine ⟨?_, ?_⟩
     ·
      refine ⟨_, rfl, rfl, by kernel_rfl, ?_⟩
      rintro D ⟨⟩ a z S F
      refine ⟨by kernel_rfl, ?_⟩
      exact op_indexArr _ 3 _ _ (some ⟨b4, 0, none⟩) (0) 2 (1 - s) 1 .i64 F rfl (by kernel_rfl) (by kernel_rfl) (by kernel_rfl) (by kernel_rfl) (by omega) rfl (⟨(), rfl, (SameB.refl _ _ rfl), S⟩)
     refine ⟨?_, ?_⟩
     ·
      refine ⟨_, rfl, rfl, by kernel_rfl, ?_⟩
      rintro D ⟨⟩ a z S F
      refine ⟨by kernel_rfl, ?_⟩
      exact op_load _ _ (some ⟨b4, 0, none⟩) (0 + (1 - s) * 1) (.int .i64 (ed.endp (1 - s : Nat))) F rfl (by kernel_rfl) (by kernel_rfl) (cell_off (cBox S 2 rfl (edC_end ed (m := 1 - s) (by omega))) (by omega)) (⟨(), rfl, (SameB.refl _ _ rfl), S⟩)
     trivial
    ·
     rintro ⟨⟩ a z F S
     have F := F.sub (l := [(6, .int .i64 (s : Nat)), (7, .int .i64 (ed.endp (1 - s : Nat))), (8, .int .i64 0)]) ⟨by kernel_rfl, by kernel_rfl, by kernel_rfl, trivial⟩
     have S : Sat w z [rest w (· < w.heap.size), box b1 32 [.slice As x.spots.length cs, .slice Ae x.edges.length ce], box b4 62 [.int .i64 ed.a, .int .i64 ed.b, .int .u64 ed.c0, .int .u64 ed.c1, .int .u64 ed.b0, .int .u64 ed.r0, .int .u64 ed.b1, .int .u64 ed.r1]] := S
     refine then_n ?_
     refine wp_ret ?_
     exact fin F [.tmp 6, .tmp 7, .tmp 8] [.int .i64 (s : Nat), .int .i64 (ed.endp (1 - s : Nat)), .int .i64 0] rfl ⟨by kernel_rfl, by kernel_rfl, by kernel_rfl, trivial⟩ (.tuple #[.int .i64 (s : Nat), .int .i64 (ed.endp (1 - s : Nat)), .int .i64 0]) rfl ⟨rfl, S.below (i := 0) rfl⟩
open Go Go.RowKit

theorem best_snd {y : Wb} (ok : y.Ok) {from_ to am : Int} (ha : U64 am) {m : Rt} (h : bestRt y from_ to am = (m, 0)) : Snd y from_ to am m := by
  have h0 : (bestRt y from_ to am).2 = 0 := by rw [h]
  obtain ⟨hr, hne, hm⟩ := best_of h0 (m := m) (by rw [h])
  have hl : 0 < (allRt y from_ to am).length := List.length_pos_iff.2 hne
  have hlt : bestIx (allRt y from_ to am) ((allRt y from_ to am).length - 1) < (allRt y from_ to am).length := by
    have := bestIx_le (allRt y from_ to am) ((allRt y from_ to am).length - 1); omega
  have hmem : m ∈ allRt y from_ to am := by
    rw [hm, List.getD_eq_getElem?_getD, List.getElem?_eq_getElem hlt]
    exact List.getElem_mem hlt
  exact good_snd ok ha (all_good hmem) hr
/-- Way between, told. -/
structure MidAt (x : Wb) (node fst lst q p : Int) (m : Rt) (j : Nat) (ej : Edg) (sj : Nat) (u : Int) : Prop where
  ne : fst ≠ lst
  hs : Snd (withoutP x node) fst lst q m
  few : m.edges.length ≤ 5
  e0 : m.edges[0]? = some (j : Int)
  hej : x.edges[j]? = some ej
  hsj : sideP ej fst = (sj : Int)
  sj2 : sj < 2
  u0 : m.amts[0]? = some u
  ov : overP (ej.base (sj : Int)) (ej.rate (sj : Int)) u = (p, 0)
theorem mid_cases {x : Wb} (ok : x.Ok) {node fst lst q p : Int} {m : Rt} (hq : U64 q) (h : cycMid x node fst lst q = (m, p, 0)) : (fst = lst ∧ m = noRt ∧ p = q) ∨ ∃ j ej sj u, MidAt x node fst lst q p m j ej sj u := by
  by_cases hfl : fst = lst
  · rw [mid_none hfl] at h
    cases h
    exact .inl ⟨hfl, rfl, rfl⟩
  · right
    have hb : bestRt (withoutP x node) fst lst q = ((bestRt (withoutP x node) fst lst q).1, (bestRt (withoutP x node) fst lst q).2) := rfl
    by_cases h0 : (bestRt (withoutP x node) fst lst q).2 = 0
    · rw [h0] at hb
      by_cases hl : 5 < (bestRt (withoutP x node) fst lst q).1.edges.length
      · rw [mid_long hfl hb hl] at h; cases h
      · have hs := best_snd (without_ok ok node) hq hb
        obtain ⟨j, ej, sj, e0, hej, hsj, hs2⟩ := first_edge hs
        have h1 := hs.one; have h2 := hs.alen
        have hu : (bestRt (withoutP x node) fst lst q).1.amts[0]? = some ((bestRt (withoutP x node) fst lst q).1.amts[0]'(by omega)) := List.getElem?_eq_getElem (by omega)
        rw [mid_in hfl hb (by omega) e0 hej hsj hu] at h
        split at h
        · rename_i h5
          have h6 := congrArg (fun z => z.2.2) h
          exact absurd h6 h5
        · rename_i h5
          have h5' := Decidable.of_not_not h5
          obtain ⟨h6, h7⟩ := Prod.mk.inj h
          obtain ⟨h8, _⟩ := Prod.mk.inj h7
          subst h6
          exact ⟨j, ej, sj, _, hfl, hs, by omega, e0, hej, hsj, hs2, hu, by rw [← h8, ← h5']⟩
    · rw [mid_err hfl hb h0] at h
      exact absurd (congrArg (fun z => z.2.2) h) h0
/-- Where there is a way out and back. -/
structure CycOk (x : Wb) (node am : Int) (r : Rt) (ko ki : Nat) (eo ei : Edg) (s t : Nat) (q fst lst p : Int) (m : Rt) : Prop where
  at_ : CycAt x node am ko ki eo ei s t
  room : am ≤ ei.can ((1 - t : Nat) : Int)
  ov : overP (ei.base ((1 - t : Nat) : Int)) (ei.rate ((1 - t : Nat) : Int)) am = (q, 0)
  hF : eo.endp ((1 - s : Nat) : Int) = fst
  hL : ei.endp ((1 - t : Nat) : Int) = lst
  q1 : am ≤ q
  qu : U64 q
  can : p ≤ eo.can (s : Int)
  hr : r = ⟨node :: fst :: (m.nodes.drop 1 ++ [node]), ko :: (m.edges ++ [(ki : Int)]), p :: (m.amts ++ [am])⟩
  mid : (fst = lst ∧ m = noRt ∧ p = q) ∨ ∃ j ej sj u, MidAt x node fst lst q p m j ej sj u
theorem cyc_good {x : Wb} (ok : x.Ok) {node out in_ am : Int} (ha : U64 am) {r : Rt} (h : cycP x node out in_ am = (r, 0)) : ∃ ko ki eo ei s t q fst lst p m, out = (ko : Nat) ∧ in_ = (ki : Nat) ∧ CycOk x node am r ko ki eo ei s t q fst lst p m := by
  by_cases hc : chkP x = 0
  · by_cases hargs : sideAt x out node < 0 ∨ sideAt x in_ node < 0 ∨ out = in_ ∨ am = 0
    · rw [cyc_arg hc hargs] at h; cases h
    · simp only [not_or] at hargs
      obtain ⟨a1, a2, a3, a4⟩ := hargs
      rcases sideAtN_cases x out node with b1 | ⟨ko, eo, s, rfl, b1, _, b2, b3⟩
      · omega
      · rcases sideAtN_cases x in_ node with c1 | ⟨ki, ei, t, rfl, c1, _, c2, c3⟩
        · omega
        · have hcy : CycAt x node am ko ki eo ei s t := ⟨hc, b1, c1, b2, c2, b3, c3, a3, a4⟩
          have hoki := ok.e ei (List.mem_of_getElem? c1)
          by_cases hroom : ei.can ((1 - t : Nat) : Int) < am
          · rw [cyc_room1 hcy hroom] at h; cases h
          · by_cases hfee : (overP (ei.base ((1 - t : Nat) : Int)) (ei.rate ((1 - t : Nat) : Int)) am).2 = 0
            · obtain ⟨f1, f2⟩ := over_fit ha (hoki.base _) (hoki.rate _) hfee
              obtain ⟨q, hov⟩ : ∃ q, overP (ei.base ((1 - t : Nat) : Int)) (ei.rate ((1 - t : Nat) : Int)) am = (q, 0) := ⟨_, Prod.ext rfl hfee⟩
              rw [hov] at f1 f2
              obtain ⟨m, p, e, hm⟩ : ∃ m p e, cycMid x node (eo.endp ((1 - s : Nat) : Int)) (ei.endp ((1 - t : Nat) : Int)) q = (m, p, e) := ⟨_, _, _, rfl⟩
              by_cases he : e = 0
              · subst he
                by_cases hcan : eo.can (s : Int) < p
                · rw [cyc_room' hcy hroom hov rfl rfl hm hcan] at h; cases h
                · rw [cyc_ok' hcy hroom hov rfl rfl hm hcan] at h
                  obtain ⟨hr, _⟩ := Prod.mk.inj h
                  exact ⟨ko, ki, eo, ei, s, t, q, _, _, p, m, rfl, rfl, hcy, by omega, hov, rfl, rfl, f1, f2, by omega, hr.symm, mid_cases ok f2 hm⟩
              · rw [cyc_mid' hcy hroom hov rfl rfl hm he] at h
                exact absurd (congrArg (·.2) h) he
            · rw [cyc_fee hcy hroom hfee] at h
              exact absurd (congrArg (·.2) h) hfee
  · rw [cyc_bad hc] at h
    exact absurd (congrArg (·.2) h) hc
theorem CycOk.pq {x : Wb} (ok : x.Ok) {node am : Int} {r : Rt} {ko ki : Nat} {eo ei : Edg} {s t : Nat} {q fst lst p : Int} {m : Rt} (h : CycOk x node am r ko ki eo ei s t q fst lst p m) : q ≤ p ∧ U64 p := by
  rcases h.mid with ⟨_, _, rfl⟩ | ⟨j, ej, sj, u, hm⟩
  · exact ⟨Int.le_refl _, h.qu⟩
  · have hokj := ok.e ej (List.mem_of_getElem? hm.hej)
    have hu := hm.hs.au u (List.mem_of_getElem? hm.u0)
    have h1 := over_fit hu (hokj.base (sj : Int)) (hokj.rate (sj : Int)) (by rw [hm.ov])
    rw [hm.ov] at h1
    have hge : q ≤ u := by
      by_cases h9 : m.edges.length = 1
      · have h8 := hm.hs.alast
        rw [h9, show 1 - 1 = 0 from rfl, hm.u0] at h8
        injection h8 with h8
        omega
      · have := hm.hs.one
        exact hm.hs.fall 0 (m.edges.length - 1) u _ (by omega) hm.u0 hm.hs.alast
    exact ⟨by omega, h1.2⟩
theorem CycOk.lens {x : Wb} {node am : Int} {r : Rt} {ko ki : Nat} {eo ei : Edg} {s t : Nat} {q fst lst p : Int} {m : Rt} (h : CycOk x node am r ko ki eo ei s t q fst lst p m) : r.nodes.length ≤ 8 ∧ r.edges.length ≤ 7 ∧ r.amts.length = r.edges.length ∧ r.nodes.length = r.edges.length + 1 := by
  rw [h.hr]
  rcases h.mid with ⟨_, rfl, _⟩ | ⟨j, ej, sj, u, hm⟩
  · simp [noRt]
  · have h1 := hm.hs.way.len; have h2 := hm.hs.alen; have h3 := hm.few; have h4 := hm.hs.one
    simp only [List.length_cons, List.length_append, List.length_drop, List.length_nil]
    omega
theorem cyc_none {x : Wb} {node out in_ am : Int} {r : Rt} {er : Int} (h : cycP x node out in_ am = (r, er)) (he : er ≠ 0) : r = noRt := by
  unfold cycP at h
  repeat' split at h
  all_goals (obtain ⟨h1, h2⟩ := Prod.mk.inj h; first | exact h1.symm | exact absurd h2.symm he)
theorem cyc_fit {x : Wb} (ok : x.Ok) {node out in_ am : Int} (ha : U64 am) {r : Rt} {er : Int} (h : cycP x node out in_ am = (r, er)) : (r.nodes.length ≤ 8 ∧ r.edges.length ≤ 7 ∧ r.amts.length = r.edges.length) ∧ (er = 0 → ∃ u, r.amts[0]? = some u ∧ cFee r am er = u - am ∧ am ≤ u ∧ u < 18446744073709551616) := by
  by_cases he : er = 0
  · subst he
    obtain ⟨ko, ki, eo, ei, s, t, q, fst, lst, p, m, _, _, hk⟩ := cyc_good ok ha h
    obtain ⟨l1, l2, l3, _⟩ := hk.lens
    obtain ⟨p1, p2⟩ := hk.pq ok
    have q1 := hk.q1
    refine ⟨⟨l1, l2, l3⟩, fun _ => ⟨p, by rw [hk.hr]; rfl, by rw [hk.hr]; rfl, by omega, p2.2⟩⟩
  · rw [cyc_none h he]
    exact ⟨⟨by decide, by decide, by decide⟩, fun h9 => absurd h9 he⟩
end Go.Proofs.Ytcfpbemoocegfaa
