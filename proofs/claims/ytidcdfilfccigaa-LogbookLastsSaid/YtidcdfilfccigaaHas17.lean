/- Maps from texts to texts, as they lie in memory. -/
import Derived.Test.YtidcdfilfccigaaLog17
namespace Go.Proofs.Ytidcdfilfccigaa
set_option linter.unusedVariables false
set_option linter.unusedSimpArgs false
set_option linter.unnecessarySimpa false
open Go Go.RowKit

/-- An entry of a map from texts to texts. -/
def LEnt.e2 (x : LEnt) : SEnt := (x.n, strV x.v, x.t)
structure HasS (es : List LEnt) (ck : Nat) (L : List NV) : Prop where
  ok : SOk (es.map LEnt.e2) ck
  pm : (es.map LEnt.nv).Perm L
theorem has_nil2 : HasS [] 0 [] := ⟨sok_nil, List.Perm.refl _⟩
theorem es_keys2 (es : List LEnt) : (es.map LEnt.e2).map (·.1) = es.map (·.n) := by rw [List.map_map]; rfl
theorem HasS.nd {ck : Nat} {es : List LEnt} {L : List NV} (h : HasS es ck L) : (es.map (·.n)).Nodup := by
  rw [← es_keys2]; exact h.ok.nd
theorem HasS.len {ck : Nat} {es : List LEnt} {L : List NV} (h : HasS es ck L) : es.length = L.length := by
  have := h.pm.length_eq; rwa [List.length_map] at this
theorem find_e2 (es : List LEnt) (n : Bs) : (es.map LEnt.e2).findIdx? (fun p => p.1 == n) = es.findIdx? (fun x => x.n == n) := by
  rw [List.findIdx?_map]; rfl
theorem modify_map_e2 (es : List LEnt) (n v : Bs) (i : Nat) : (es.map LEnt.e2).modify i (fun p => (n, strV v, p.2.2)) = (es.modify i fun x => ⟨n, v, none, 0, x.t⟩).map LEnt.e2 := by
  apply List.ext_getElem?
  intro j
  simp only [List.getElem?_map, List.getElem?_modify]
  cases es[j]? with
  | none => simp
  | some x => by_cases hij : i = j <;> simp [hij, LEnt.e2]
theorem es_stamps2 (es : List LEnt) : (es.map LEnt.e2).map (·.2.2) = es.map (·.t) := by rw [List.map_map]; rfl
theorem sok_of2 {es : List LEnt} {ck : Nat} (h1 : (es.map (·.n)).Nodup) (h2 : (es.map (·.t)).Nodup) (h3 : ∀ x ∈ es, x.t < ck) (h4 : ∀ x ∈ es, x.n.length ≤ 1000000) (h5 : es.length ≤ 1000000) : SOk (es.map LEnt.e2) ck := by
  refine ⟨by rw [es_keys2]; exact h1, by rw [es_stamps2]; exact h2, fun p hp => ?_, fun p hp => ?_, by rw [List.length_map]; exact h5⟩
  · obtain ⟨x, hx, rfl⟩ := List.mem_map.1 hp; exact h3 x hx
  · obtain ⟨x, hx, rfl⟩ := List.mem_map.1 hp; exact h4 x hx
theorem has_put2 {ck : Nat} {es : List LEnt} {L : List NV} (h : HasS es ck L) (n v : Bs) (hn : n.length ≤ 1000000) (hl : L.length < 1000000) :
    ∃ es', putS (es.map LEnt.e2) n (strV v) ck = es'.map LEnt.e2 ∧ HasS es' (putSC (es.map LEnt.e2) n ck) (putN L (n, v)) := by
  have hlen := h.len
  have h3 : ∀ x ∈ es, x.t < ck := fun x hx => h.ok.lt x.e2 (List.mem_map.2 ⟨x, hx, rfl⟩)
  have h4 : ∀ x ∈ es, x.n.length ≤ 1000000 := fun x hx => h.ok.ln x.e2 (List.mem_map.2 ⟨x, hx, rfl⟩)
  have hst : (es.map (·.t)).Nodup := by rw [← es_stamps2]; exact h.ok.st
  have hpp := put_perm L (n, v)
  cases hq : es.findIdx? (fun x => x.n == n) with
  | none =>
    refine ⟨es ++ [⟨n, v, none, 0, ck⟩], ?_, ?_, ?_⟩
    · unfold putS; rw [find_e2, hq, List.map_append]; rfl
    · show SOk _ (putSC (es.map LEnt.e2) n ck)
      unfold putSC; rw [find_e2, hq]
      have hno : ∀ x ∈ es, x.n ≠ n := fun x hx e => by
        rw [List.findIdx?_eq_none_iff] at hq
        have := hq x hx; simp [e] at this
      refine sok_of2 ?_ ?_ ?_ ?_ ?_
      · rw [List.map_append, List.nodup_append]
        refine ⟨h.nd, by simp, fun a ha b hb e => ?_⟩
        obtain ⟨x, hx, rfl⟩ := List.mem_map.1 ha
        simp at hb
        exact hno x hx (e.trans hb)
      · rw [List.map_append, List.nodup_append]
        refine ⟨hst, by simp, fun a ha b hb e => ?_⟩
        obtain ⟨x, hx, rfl⟩ := List.mem_map.1 ha
        simp at hb
        have := h3 x hx
        omega
      · intro x hx
        rcases List.mem_append.1 hx with hx | hx
        · have := h3 x hx; show x.t < ck + 1; omega
        · simp at hx; subst hx; exact Nat.lt_succ_self _
      · intro x hx
        rcases List.mem_append.1 hx with hx | hx
        · exact h4 x hx
        · simp at hx; subst hx; exact hn
      · rw [List.length_append]; simp; omega
    · rw [List.map_append]
      refine List.Perm.trans ?_ hpp.symm
      refine List.perm_append_comm.trans ?_
      refine List.Perm.cons _ ?_
      rw [← del_none hq]
      exact del_perm h.pm n
  | some i =>
    have hi := List.findIdx?_eq_some_iff_getElem.1 hq
    obtain ⟨hil, hi1, _⟩ := hi
    have hxi : es[i]? = some es[i] := List.getElem?_eq_getElem hil
    have hni : es[i].n = n := by simpa using hi1
    refine ⟨es.modify i fun x => ⟨n, v, none, 0, x.t⟩, ?_, ?_, ?_⟩
    · unfold putS; rw [find_e2, hq]; exact modify_map_e2 es n v i
    · show SOk _ (putSC (es.map LEnt.e2) n ck)
      unfold putSC; rw [find_e2, hq]
      refine sok_of2 ?_ ?_ ?_ ?_ ?_
      · rw [modify_names es n v none 0 i hxi hni]; exact h.nd
      · rw [modify_stamps]; exact hst
      · intro x hx
        have : x.t ∈ (es.modify i fun x => ⟨n, v, none, 0, x.t⟩).map (·.t) := List.mem_map.2 ⟨x, hx, rfl⟩
        rw [modify_stamps] at this
        obtain ⟨y, hy, e⟩ := List.mem_map.1 this
        have := h3 y hy
        rw [← e]; exact this
      · intro x hx
        have : x.n ∈ (es.modify i fun x => ⟨n, v, none, 0, x.t⟩).map (·.n) := List.mem_map.2 ⟨x, hx, rfl⟩
        rw [modify_names es n v none 0 i hxi hni] at this
        obtain ⟨y, hy, e⟩ := List.mem_map.1 this
        rw [← e]; exact h4 y hy
      · rw [List.length_modify]; omega
    · refine List.Perm.trans ?_ hpp.symm
      refine ((modify_perm _ es i _ hxi).map LEnt.nv).trans ?_
      rw [List.map_cons, erase_del n es h.nd i hq]
      exact List.Perm.cons _ (del_perm h.pm n)
theorem has_del2 {ck : Nat} {es : List LEnt} {L : List NV} (h : HasS es ck L) (n : Bs) :
    ∃ es', delS (es.map LEnt.e2) n = es'.map LEnt.e2 ∧ HasS es' ck (delN L n) := by
  cases hq : es.findIdx? (fun x => x.n == n) with
  | none =>
    refine ⟨es, ?_, h.ok, ?_⟩
    · unfold delS; rw [find_e2, hq]
    · exact (del_none hq ▸ del_perm h.pm n)
  | some i =>
    have hsub : (es.eraseIdx i).Sublist es := List.eraseIdx_sublist es i
    refine ⟨es.eraseIdx i, ?_, sok_of2 ?_ ?_ ?_ ?_ ?_, ?_⟩
    · unfold delS; rw [find_e2, hq]; exact erase_map _ es i
    · exact h.nd.sublist (hsub.map _)
    · have hst : (es.map (·.t)).Nodup := by rw [← es_stamps2]; exact h.ok.st
      exact hst.sublist (hsub.map _)
    · exact fun x hx => h.ok.lt x.e2 (List.mem_map.2 ⟨x, List.mem_of_mem_eraseIdx hx, rfl⟩)
    · exact fun x hx => h.ok.ln x.e2 (List.mem_map.2 ⟨x, List.mem_of_mem_eraseIdx hx, rfl⟩)
    · have h1 := h.ok.sz; have h2 := hsub.length_le; rw [List.length_map] at h1; exact Nat.le_trans h2 h1
    · show ((es.eraseIdx i).map LEnt.nv).Perm _
      rw [erase_del n es h.nd i hq]; exact del_perm h.pm n
theorem has_none2 {ck : Nat} {es : List LEnt} {L : List NV} (h : HasS es ck L) {n : Bs} (hg : getN L n = none) : getS (es.map LEnt.e2) n = none := by
  cases hq : getS (es.map LEnt.e2) n with
  | none => rfl
  | some v =>
    exfalso
    unfold getS at hq
    rw [Option.map_eq_some_iff] at hq
    obtain ⟨p, hp, _⟩ := hq
    have hm := List.mem_of_find?_eq_some hp
    have hn := List.find?_some hp
    obtain ⟨x, hx, rfl⟩ := List.mem_map.1 hm
    have hxn : x.n = n := by simpa [LEnt.e2] using hn
    have h2 : getN L n = some x.v := (find_mem ((h.pm.map _).nodup_iff.1 (by rw [es_names]; exact h.nd))).2 (h.pm.mem_iff.1 (List.mem_map.2 ⟨x, hx, by rw [← hxn]; rfl⟩))
    rw [h2] at hg; cases hg
theorem has_some2 {ck : Nat} {es : List LEnt} {L : List NV} (h : HasS es ck L) {n v : Bs} (hg : getN L n = some v) : getS (es.map LEnt.e2) n = some (strV v) := by
  have hnd : (L.map (·.1)).Nodup := (h.pm.map _).nodup_iff.1 (by rw [es_names]; exact h.nd)
  have hm := h.pm.mem_iff.2 ((find_mem hnd).1 hg)
  obtain ⟨x, hx, e⟩ := List.mem_map.1 hm
  obtain ⟨n', v', A, c, t⟩ := x
  simp only [LEnt.nv, Prod.mk.injEq] at e
  obtain ⟨rfl, rfl⟩ := e
  have hnd2 := h.ok.nd
  generalize hes : es.map LEnt.e2 = ps at hnd2
  have hp : ((n', strV v', t) : SEnt) ∈ ps := by rw [← hes]; exact List.mem_map.2 ⟨_, hx, rfl⟩
  show getS ps n' = _
  clear hes hx h hg hm hnd
  unfold getS
  induction ps with
  | nil => cases hp
  | cons p ps ih =>
    rw [List.map_cons, List.nodup_cons] at hnd2
    rw [List.find?_cons]
    by_cases h1 : p.1 = n'
    · rcases List.mem_cons.1 hp with rfl | hp
      · simp
      · exact absurd (List.mem_map.2 ⟨_, hp, rfl⟩) (h1 ▸ hnd2.1)
    · have h2 : (p.1 == n') = false := by simp [h1]
      rw [h2]
      rcases List.mem_cons.1 hp with rfl | hp
      · exact absurd rfl h1
      · exact ih hnd2.2 hp
end Go.Proofs.Ytidcdfilfccigaa
