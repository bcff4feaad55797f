/- Logbooks, as they lie in memory. -/
import Derived.Test.YtidcdfilfccigaaSd17
import Derived.Test.YtidcdfilfccigaaGs
import Derived.Test.YtidcdfilfccigaaKeys
namespace Go.Proofs.Ytidcdfilfccigaa
set_option linter.unusedVariables false
set_option linter.unusedSimpArgs false
set_option linter.unnecessarySimpa false
open Go Go.RowKit

/-- An entry of the program's map: name, value, where the value lies, its cap, its stamp. -/
structure LEnt where
  n : Bs
  v : Bs
  A : Option Addr
  c : Nat
  t : Nat
def LEnt.e (x : LEnt) : SEnt := (x.n, .slice x.A x.v.length x.c, x.t)
def LEnt.nv (x : LEnt) : NV := (x.n, x.v)
def LEnt.rw (x : LEnt) : RowD := ⟨5, 1, .slice x.A x.v.length x.c, x.v.length, x.v.flatMap yC⟩
structure HasM where
  ck : Nat
  es : List LEnt
  rs : List RowD
structure HasOk (m : HasM) (L : List NV) : Prop where
  ok : SOk (m.es.map LEnt.e) m.ck
  pm : (m.es.map LEnt.nv).Perm L
  ro : ∀ x ∈ m.es, x.rw ∈ m.rs
theorem es_keys (es : List LEnt) : (es.map LEnt.e).map (·.1) = es.map (·.n) := by rw [List.map_map]; rfl
theorem es_names (es : List LEnt) : (es.map LEnt.nv).map (·.1) = es.map (·.n) := by rw [List.map_map]; rfl
theorem HasOk.nd {ck : Nat} {es : List LEnt} {rs : List RowD} {L : List NV} (h : HasOk ⟨ck, es, rs⟩ L) : (es.map (·.n)).Nodup := by
  rw [← es_keys]; exact h.ok.nd
theorem HasOk.len {ck : Nat} {es : List LEnt} {rs : List RowD} {L : List NV} (h : HasOk ⟨ck, es, rs⟩ L) : es.length = L.length := by
  have := h.pm.length_eq; rwa [List.length_map] at this
theorem has_nil : HasOk ⟨0, [], []⟩ [] := ⟨sok_nil, List.Perm.refl _, nofun⟩
theorem erase_del (n : Bs) : ∀ (es : List LEnt), (es.map (·.n)).Nodup → ∀ i, es.findIdx? (fun x => x.n == n) = some i → (es.eraseIdx i).map LEnt.nv = delN (es.map LEnt.nv) n
  | [], _, i, h => by simp at h
  | x :: es, hn, i, h => by
    rw [List.map_cons, List.nodup_cons] at hn
    rw [List.findIdx?_cons] at h
    unfold delN
    rw [List.map_cons, List.filter_cons]
    by_cases hx : x.n = n
    · have h1 : (x.n == n) = true := by simp [hx]
      rw [h1] at h
      simp only [if_true, Option.some.injEq] at h
      subst h
      have h2 : (!(x.nv.1 == n)) = false := by rw [show x.nv.1 = x.n from rfl, h1]; rfl
      rw [h2, List.eraseIdx_cons_zero]
      simp only [Bool.false_eq_true, if_false]
      symm
      rw [List.filter_eq_self]
      intro y hy
      obtain ⟨z, hz, rfl⟩ := List.mem_map.1 hy
      have : z.n ≠ n := fun e => hn.1 (List.mem_map.2 ⟨z, hz, by rw [e, hx]⟩)
      show (!(z.n == n)) = true
      simp [this]
    · have h1 : (x.n == n) = false := by simp [hx]
      rw [h1] at h
      simp only [Bool.false_eq_true, if_false] at h
      have h2 : (!(x.nv.1 == n)) = true := by rw [show x.nv.1 = x.n from rfl, h1]; rfl
      rw [h2]
      cases hq : es.findIdx? (fun x => x.n == n) with
      | none => rw [hq] at h; cases h
      | some j =>
        rw [hq] at h
        simp only [Option.map_some, Option.some.injEq] at h
        subst h
        rw [List.eraseIdx_cons_succ, List.map_cons, erase_del n es hn.2 j hq]
        rfl
theorem del_none {n : Bs} {es : List LEnt} (h : es.findIdx? (fun x => x.n == n) = none) : delN (es.map LEnt.nv) n = es.map LEnt.nv := by
  unfold delN
  rw [List.filter_eq_self]
  intro y hy
  obtain ⟨z, hz, rfl⟩ := List.mem_map.1 hy
  rw [List.findIdx?_eq_none_iff] at h
  show (!(z.n == n)) = true
  rw [h z hz]; rfl
theorem modify_perm (f : LEnt → LEnt) : ∀ (es : List LEnt) (i : Nat) (x : LEnt), es[i]? = some x → (es.modify i f).Perm (f x :: es.eraseIdx i)
  | [], i, x, h => by simp at h
  | y :: es, 0, x, h => by simp at h; subst h; simp
  | y :: es, i + 1, x, h => by
    rw [List.getElem?_cons_succ] at h
    rw [List.modify_succ_cons, List.eraseIdx_cons_succ]
    exact ((modify_perm f es i x h).cons y).trans (List.Perm.swap _ _ _)
theorem find_e (es : List LEnt) (n : Bs) : (es.map LEnt.e).findIdx? (fun p => p.1 == n) = es.findIdx? (fun x => x.n == n) := by
  rw [List.findIdx?_map]; rfl
theorem modify_map_e (es : List LEnt) (n v : Bs) (A : Option Addr) (c i : Nat) : (es.map LEnt.e).modify i (fun p => (n, .slice A v.length c, p.2.2)) = (es.modify i fun x => ⟨n, v, A, c, x.t⟩).map LEnt.e := by
  apply List.ext_getElem?
  intro j
  simp only [List.getElem?_map, List.getElem?_modify]
  cases es[j]? with
  | none => simp
  | some x => by_cases hij : i = j <;> simp [hij, LEnt.e]
theorem modify_names (es : List LEnt) (n v : Bs) (A : Option Addr) (c i : Nat) {x : LEnt} (hx : es[i]? = some x) (hn : x.n = n) : (es.modify i fun x => ⟨n, v, A, c, x.t⟩).map (·.n) = es.map (·.n) := by
  apply List.ext_getElem?
  intro j
  simp only [List.getElem?_map, List.getElem?_modify]
  cases hj : es[j]? with
  | none => simp
  | some y => by_cases hij : i = j <;> simp [hij]; subst hij; rw [hx] at hj; cases hj; exact hn.symm
theorem modify_stamps (es : List LEnt) (n v : Bs) (A : Option Addr) (c i : Nat) : (es.modify i fun x => ⟨n, v, A, c, x.t⟩).map (·.t) = es.map (·.t) := by
  apply List.ext_getElem?
  intro j
  simp only [List.getElem?_map, List.getElem?_modify]
  cases hj : es[j]? with
  | none => simp
  | some y => by_cases hij : i = j <;> simp [hij]
theorem es_stamps (es : List LEnt) : (es.map LEnt.e).map (·.2.2) = es.map (·.t) := by rw [List.map_map]; rfl
theorem sok_of {es : List LEnt} {ck : Nat} (h1 : (es.map (·.n)).Nodup) (h2 : (es.map (·.t)).Nodup) (h3 : ∀ x ∈ es, x.t < ck) (h4 : ∀ x ∈ es, x.n.length ≤ 1000000) (h5 : es.length ≤ 1000000) : SOk (es.map LEnt.e) ck := by
  refine ⟨by rw [es_keys]; exact h1, by rw [es_stamps]; exact h2, fun p hp => ?_, fun p hp => ?_, by rw [List.length_map]; exact h5⟩
  · obtain ⟨x, hx, rfl⟩ := List.mem_map.1 hp; exact h3 x hx
  · obtain ⟨x, hx, rfl⟩ := List.mem_map.1 hp; exact h4 x hx
theorem del_perm {l l' : List NV} (h : l.Perm l') (n : Bs) : (delN l n).Perm (delN l' n) := h.filter _
/-- A value comes under a name. -/
theorem has_put {ck : Nat} {es : List LEnt} {rs : List RowD} {L : List NV} (h : HasOk ⟨ck, es, rs⟩ L) (n v : Bs) (A : Option Addr) (c : Nat) (hn : n.length ≤ 1000000) (hl : L.length < 1000000) :
    ∃ es', putS (es.map LEnt.e) n (.slice A v.length c) ck = es'.map LEnt.e ∧ HasOk ⟨putSC (es.map LEnt.e) n ck, es', rs ++ [⟨5, 1, .slice A v.length c, v.length, v.flatMap yC⟩]⟩ (putN L (n, v)) := by
  have hlen := h.len
  have h3 : ∀ x ∈ es, x.t < ck := fun x hx => h.ok.lt x.e (List.mem_map.2 ⟨x, hx, rfl⟩)
  have h4 : ∀ x ∈ es, x.n.length ≤ 1000000 := fun x hx => h.ok.ln x.e (List.mem_map.2 ⟨x, hx, rfl⟩)
  have hst : (es.map (·.t)).Nodup := by rw [← es_stamps]; exact h.ok.st
  have hpp := put_perm L (n, v)
  cases hq : es.findIdx? (fun x => x.n == n) with
  | none =>
    refine ⟨es ++ [⟨n, v, A, c, ck⟩], ?_, ?_, ?_, ?_⟩
    · unfold putS; rw [find_e, hq, List.map_append]; rfl
    · show SOk _ (putSC (es.map LEnt.e) n ck)
      unfold putSC; rw [find_e, hq]
      have hno : ∀ x ∈ es, x.n ≠ n := fun x hx e => by
        rw [List.findIdx?_eq_none_iff] at hq
        have := hq x hx; simp [e] at this
      refine sok_of ?_ ?_ ?_ ?_ ?_
      · rw [List.map_append, List.nodup_append]
        refine ⟨h.nd, by simp, fun a ha b hb e => ?_⟩
        obtain ⟨x, hx, rfl⟩ := List.mem_map.1 ha
        simp at hb
        exact hno x hx (e.trans hb)
      · rw [List.map_append, List.nodup_append]
        refine ⟨hst, by simp, fun a ha b hb e => ?_⟩
        obtain ⟨x, hx, rfl⟩ := List.mem_map.1 ha
        simp at hb
        have := h3 x hx
        omega
      · intro x hx
        rcases List.mem_append.1 hx with hx | hx
        · have := h3 x hx; show x.t < ck + 1; omega
        · simp at hx; subst hx; exact Nat.lt_succ_self _
      · intro x hx
        rcases List.mem_append.1 hx with hx | hx
        · exact h4 x hx
        · simp at hx; subst hx; exact hn
      · rw [List.length_append]; simp; omega
    · rw [List.map_append]
      refine List.Perm.trans ?_ hpp.symm
      refine List.perm_append_comm.trans ?_
      refine List.Perm.cons _ ?_
      rw [← del_none hq]
      exact del_perm h.pm n
    · intro x hx
      rcases List.mem_append.1 hx with hx | hx
      · exact List.mem_append_left _ (h.ro x hx)
      · simp at hx; subst hx; exact List.mem_append_right _ (List.mem_singleton.2 rfl)
  | some i =>
    have hi := List.findIdx?_eq_some_iff_getElem.1 hq
    obtain ⟨hil, hi1, _⟩ := hi
    have hxi : es[i]? = some es[i] := List.getElem?_eq_getElem hil
    have hni : es[i].n = n := by simpa using hi1
    refine ⟨es.modify i fun x => ⟨n, v, A, c, x.t⟩, ?_, ?_, ?_, ?_⟩
    · unfold putS; rw [find_e, hq]; exact modify_map_e es n v A c i
    · show SOk _ (putSC (es.map LEnt.e) n ck)
      unfold putSC; rw [find_e, hq]
      refine sok_of ?_ ?_ ?_ ?_ ?_
      · rw [modify_names es n v A c i hxi hni]; exact h.nd
      · rw [modify_stamps]; exact hst
      · intro x hx
        have : x.t ∈ (es.modify i fun x => ⟨n, v, A, c, x.t⟩).map (·.t) := List.mem_map.2 ⟨x, hx, rfl⟩
        rw [modify_stamps] at this
        obtain ⟨y, hy, e⟩ := List.mem_map.1 this
        have := h3 y hy
        rw [← e]; exact this
      · intro x hx
        have : x.n ∈ (es.modify i fun x => ⟨n, v, A, c, x.t⟩).map (·.n) := List.mem_map.2 ⟨x, hx, rfl⟩
        rw [modify_names es n v A c i hxi hni] at this
        obtain ⟨y, hy, e⟩ := List.mem_map.1 this
        rw [← e]; exact h4 y hy
      · rw [List.length_modify]; omega
    · refine List.Perm.trans ?_ hpp.symm
      refine ((modify_perm _ es i _ hxi).map LEnt.nv).trans ?_
      rw [List.map_cons, erase_del n es h.nd i hq]
      exact List.Perm.cons _ (del_perm h.pm n)
    · intro x hx
      rcases List.mem_cons.1 ((modify_perm _ es i _ hxi).mem_iff.1 hx) with rfl | hx
      · exact List.mem_append_right _ (List.mem_singleton.2 rfl)
      · exact List.mem_append_left _ (h.ro x (List.mem_of_mem_eraseIdx hx))
theorem has_del {ck : Nat} {es : List LEnt} {rs : List RowD} {L : List NV} (h : HasOk ⟨ck, es, rs⟩ L) (n : Bs) :
    ∃ es', delS (es.map LEnt.e) n = es'.map LEnt.e ∧ HasOk ⟨ck, es', rs⟩ (delN L n) := by
  cases hq : es.findIdx? (fun x => x.n == n) with
  | none =>
    refine ⟨es, ?_, h.ok, ?_, h.ro⟩
    · unfold delS; rw [find_e, hq]
    · exact (del_none hq ▸ del_perm h.pm n)
  | some i =>
    have hsub : (es.eraseIdx i).Sublist es := List.eraseIdx_sublist es i
    refine ⟨es.eraseIdx i, ?_, sok_of ?_ ?_ ?_ ?_ ?_, ?_, ?_⟩
    · unfold delS; rw [find_e, hq]; exact erase_map _ es i
    · exact h.nd.sublist (hsub.map _)
    · have hst : (es.map (·.t)).Nodup := by rw [← es_stamps]; exact h.ok.st
      exact hst.sublist (hsub.map _)
    · exact fun x hx => h.ok.lt x.e (List.mem_map.2 ⟨x, List.mem_of_mem_eraseIdx hx, rfl⟩)
    · exact fun x hx => h.ok.ln x.e (List.mem_map.2 ⟨x, List.mem_of_mem_eraseIdx hx, rfl⟩)
    · have h1 := h.ok.sz; have h2 := hsub.length_le; rw [List.length_map] at h1; exact Nat.le_trans h2 h1
    · show ((es.eraseIdx i).map LEnt.nv).Perm _
      rw [erase_del n es h.nd i hq]; exact del_perm h.pm n
    · exact fun x hx => h.ro x (List.mem_of_mem_eraseIdx hx)
theorem has_none {ck : Nat} {es : List LEnt} {rs : List RowD} {L : List NV} (h : HasOk ⟨ck, es, rs⟩ L) {n : Bs} (hg : getN L n = none) : getS (es.map LEnt.e) n = none := by
  cases hq : getS (es.map LEnt.e) n with
  | none => rfl
  | some v =>
    exfalso
    unfold getS at hq
    rw [Option.map_eq_some_iff] at hq
    obtain ⟨p, hp, _⟩ := hq
    have hm := List.mem_of_find?_eq_some hp
    have hn := List.find?_some hp
    obtain ⟨x, hx, rfl⟩ := List.mem_map.1 hm
    have hxn : x.n = n := by simpa [LEnt.e] using hn
    have h2 : getN L n = some x.v := (find_mem ((h.pm.map _).nodup_iff.1 (by rw [es_names]; exact h.nd))).2 (h.pm.mem_iff.1 (List.mem_map.2 ⟨x, hx, by rw [← hxn]; rfl⟩))
    rw [h2] at hg; cases hg
theorem has_some {ck : Nat} {es : List LEnt} {rs : List RowD} {L : List NV} (h : HasOk ⟨ck, es, rs⟩ L) {n v : Bs} (hg : getN L n = some v) : ∃ A c, getS (es.map LEnt.e) n = some (.slice A v.length c) ∧ (⟨5, 1, .slice A v.length c, v.length, v.flatMap yC⟩ : RowD) ∈ rs := by
  have hnd : (L.map (·.1)).Nodup := (h.pm.map _).nodup_iff.1 (by rw [es_names]; exact h.nd)
  have hm := h.pm.mem_iff.2 ((find_mem hnd).1 hg)
  obtain ⟨x, hx, e⟩ := List.mem_map.1 hm
  obtain ⟨n', v', A, c, t⟩ := x
  simp only [LEnt.nv, Prod.mk.injEq] at e
  obtain ⟨rfl, rfl⟩ := e
  refine ⟨A, c, ?_, h.ro _ hx⟩
  have hnd2 := h.ok.nd
  generalize hes : es.map LEnt.e = ps at hnd2
  have hp : ((n', .slice A v'.length c, t) : SEnt) ∈ ps := by rw [← hes]; exact List.mem_map.2 ⟨_, hx, rfl⟩
  show getS ps n' = _
  clear hes hx h hg hm hnd
  unfold getS
  induction ps with
  | nil => cases hp
  | cons p ps ih =>
    rw [List.map_cons, List.nodup_cons] at hnd2
    rw [List.find?_cons]
    by_cases h1 : p.1 = n'
    · rcases List.mem_cons.1 hp with rfl | hp
      · simp
      · exact absurd (List.mem_map.2 ⟨_, hp, rfl⟩) (h1 ▸ hnd2.1)
    · have h2 : (p.1 == n') = false := by simp [h1]
      rw [h2]
      rcases List.mem_cons.1 hp with rfl | hp
      · exact absurd rfl h1
      · exact ih hnd2.2 hp
theorem rises_at {L : List NV} (hr : Rises L) {i : Nat} {x : NV} (hx : L[i]? = some x) : getN L x.1 = some x.2 := (find_mem (rises_nodup hr)).2 (List.mem_of_getElem? hx)
theorem has_keys {ck : Nat} {es : List LEnt} {rs : List RowD} {L : List NV} (h : HasOk ⟨ck, es, rs⟩ L) (hr : Rises L) : keysOf (es.map LEnt.e) = L.map (·.1) := by
  unfold keysOf
  rw [es_keys, ← es_names]
  have h1 : ((es.map LEnt.nv).map (·.1)).mergeSort leB = (L.map (·.1)).mergeSort leB := mergeSort_of_perm (h.pm.map _)
  rw [h1]
  refine List.mergeSort_of_pairwise ?_
  rw [List.pairwise_map]
  exact hr.imp fun {a b} hab => by
    show leB a.1 b.1 = true
    unfold leB
    exact decide_eq_true (bs_le_of_lt hab)
/-- What a map holds. -/
def hasA (r : Nat) (L : List NV) : Asn := told (fun m : HasM => HasOk m L) fun m => [smapA r (m.es.map LEnt.e) m.ck, bag m.rs]
/-- A logbook. -/
structure Lb where
  on : Nat
  life : Nat
  L : List NV
  dead : Int
structure LbOk (lb : Lb) (k : Nat) : Prop where
  on : lb.on ≤ 1
  life : lb.life < 4294967296
  ri : Rises lb.L
  nm : ∀ x ∈ lb.L, x.1.length ≤ 255
  vl : ∀ x ∈ lb.L, x.2.length ≤ 262144
  ct : lb.L.length ≤ k
def lgBox (b g0 g1 : Nat) (on life : Nat) (r : Nat) (dead : Int) : Asn := box b 70 [pt g0 0, pt g1 0, .int .i64 (on : Nat), .int .u32 (life : Nat), .map (some r), .int .i64 dead]
def lgA (b g0 g1 : Nat) (lb : Lb) : Asn := told (fun m : Nat × HasM => HasOk m.2 lb.L) fun m => [lgBox b g0 g1 lb.on lb.life m.1 lb.dead, smapA m.1 (m.2.es.map LEnt.e) m.2.ck, bag m.2.rs]
section
variable {w0 w w1 : World} {G : Nat → Prop} {b g0 g1 : Nat}
theorem has_open {l : List Asn} {r : Nat} {L : List NV} (h : Sat w0 w (l ++ [hasA r L])) : ∃ ck es rs, HasOk ⟨ck, es, rs⟩ L ∧ Sat w0 w (l ++ [smapA r (es.map LEnt.e) ck, bag rs]) := by
  obtain ⟨⟨ck, es, rs⟩, hp, h1⟩ := Sat.openTold l h
  exact ⟨ck, es, rs, hp, h1⟩
theorem has_shut {l : List Asn} {r ck : Nat} {es : List LEnt} {rs : List RowD} {L : List NV} (hp : HasOk ⟨ck, es, rs⟩ L) (h : Sat w0 w (l ++ [smapA r (es.map LEnt.e) ck, bag rs])) : Sat w0 w (l ++ [hasA r L]) :=
  Sat.shutTold l (⟨ck, es, rs⟩ : HasM) hp h
theorem lg_open {s0 s1 : Sd} {lb : Lb} (h : Sat w0 w [lgA b g0 g1 lb, sdA g0 s0, sdA g1 s1, rest w1 G]) : ∃ r ck es rs, HasOk ⟨ck, es, rs⟩ lb.L ∧ Sat w0 w [rest w1 G, sdA g0 s0, sdA g1 s1, lgBox b g0 g1 lb.on lb.life r lb.dead, smapA r (es.map LEnt.e) ck, bag rs] := by
  obtain ⟨⟨r, ck, es, rs⟩, hp, h1⟩ := Sat.openTold [rest w1 G, sdA g0 s0, sdA g1 s1] (h.pick [3, 1, 2, 0] (by decide))
  exact ⟨r, ck, es, rs, hp, h1⟩
theorem lg_shut {s0 s1 : Sd} {L : List NV} {on life r ck : Nat} {dead : Int} {es : List LEnt} {rs : List RowD} (hp : HasOk ⟨ck, es, rs⟩ L) (h : Sat w0 w [rest w1 G, sdA g0 s0, sdA g1 s1, lgBox b g0 g1 on life r dead, smapA r (es.map LEnt.e) ck, bag rs]) : Sat w0 w [lgA b g0 g1 ⟨on, life, L, dead⟩, sdA g0 s0, sdA g1 s1, rest w1 G] := by
  have h1 := Sat.shutTold (p := fun m : Nat × HasM => HasOk m.2 (Lb.mk on life L dead).L) (f := fun m => [lgBox b g0 g1 on life m.1 dead, smapA m.1 (m.2.es.map LEnt.e) m.2.ck, bag m.2.rs]) [rest w1 G, sdA g0 s0, sdA g1 s1] (r, (⟨ck, es, rs⟩ : HasM)) hp h
  exact h1.pick [3, 1, 2, 0] (by decide)
/-- Without the slabs. -/
theorem lg_open1 {lb : Lb} (h : Sat w0 w [lgA b g0 g1 lb, rest w1 G]) : ∃ r ck es rs, HasOk ⟨ck, es, rs⟩ lb.L ∧ Sat w0 w [rest w1 G, lgBox b g0 g1 lb.on lb.life r lb.dead, smapA r (es.map LEnt.e) ck, bag rs] := by
  obtain ⟨⟨r, ck, es, rs⟩, hp, h1⟩ := Sat.openTold [rest w1 G] (h.pick [1, 0] (by decide))
  exact ⟨r, ck, es, rs, hp, h1⟩
theorem lg_shut1 {L : List NV} {on life r ck : Nat} {dead : Int} {es : List LEnt} {rs : List RowD} (hp : HasOk ⟨ck, es, rs⟩ L) (h : Sat w0 w [rest w1 G, lgBox b g0 g1 on life r dead, smapA r (es.map LEnt.e) ck, bag rs]) : Sat w0 w [lgA b g0 g1 ⟨on, life, L, dead⟩, rest w1 G] := by
  have h1 := Sat.shutTold (p := fun m : Nat × HasM => HasOk m.2 (Lb.mk on life L dead).L) (f := fun m => [lgBox b g0 g1 on life m.1 dead, smapA m.1 (m.2.es.map LEnt.e) m.2.ck, bag m.2.rs]) [rest w1 G] (r, (⟨ck, es, rs⟩ : HasM)) hp h
  exact h1.pick [1, 0] (by decide)
theorem bag_recs {l : List Asn} {i : Nat} {rs : List RowD} (S : Sat w0 w l) (hi : l[i]? = some (bag rs)) {A : Option Addr} {c : Nat} {X : Bs} (hr : (⟨5, 1, .slice A X.length c, X.length, X.flatMap yC⟩ : RowD) ∈ rs) (hl : X.length ≤ 1000000) : Recs 1 yC w A c X := Recs.ofRow (S.bagRow i hi hr) (by omega)
theorem sorted_at {l : List Asn} (S : Sat w0 w l) {i j r q : Nat} {es : List SEnt} {clock : Nat} (hi : l[i]? = some (smapA r es clock)) (hj : l[j]? = some (box q 68 [.map (some r)])) (ok : SOk es clock) {ks : List Bs} (hk : keysOf es = ks) :
    Calls Try.prog 39 #[.func (.func 68) #[] #[pt q 0]] w fun e w' => ∃ A c, e = .returned (.slice A ks.length c) ∧ Sat w0 w' (l ++ [row 9 1 (.slice A ks.length c) ks.length (ks.flatMap sC)]) := by
  subst hk
  exact sorted_sat S hi hj ok
end
end Go.Proofs.Ytidcdfilfccigaa
