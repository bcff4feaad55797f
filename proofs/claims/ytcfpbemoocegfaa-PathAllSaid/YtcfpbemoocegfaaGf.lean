/- Calls that turn some of the things, seen from outside; rows that are only read, as one thing. Plain: over any program. -/
import Derived.Test.YtcfpbemoocegfaaGo
namespace Go.Proofs.Ytcfpbemoocegfaa
set_option linter.unusedVariables false
set_option linter.unusedSimpArgs false
set_option linter.unnecessarySimpa false
open Go Go.RowKit

/-- Some places anew. -/
def setL : List Asn → List Nat → List Asn → List Asn
  | l, i :: is, A :: As => (setL l is As).set i A
  | l, _, _ => l
theorem setL_len : ∀ (l : List Asn) (is : List Nat) (As : List Asn), (setL l is As).length = l.length
  | l, [], _ => by unfold setL; rfl
  | l, _ :: _, [] => by unfold setL; rfl
  | l, i :: is, A :: As => by rw [setL, List.length_set, setL_len l is As]
theorem setL_at : ∀ (l : List Asn) (is : List Nat) (As : List Asn) (j : Nat), is.Nodup → is.length = As.length → j < l.length → (j ∉ is → (setL l is As)[j]? = l[j]?) ∧ ∀ (k : Nat), is[k]? = some j → (setL l is As)[j]? = As[k]?
  | l, [], [], j, _, _, _ => ⟨fun _ => rfl, fun k hk => by simp at hk⟩
  | l, i :: is, A :: As, j, hn, hl, hj => by
    rw [List.nodup_cons] at hn
    obtain ⟨h1, h2⟩ := setL_at l is As j hn.2 (by simpa using hl) hj
    have hj' : j < (setL l is As).length := by rw [setL_len]; exact hj
    refine ⟨fun hni => ?_, fun k hk => ?_⟩
    · have hne : i ≠ j := fun e => hni (by simp [e])
      rw [setL, List.getElem?_set_ne hne]
      exact h1 fun h => hni (by simp [h])
    · cases k with
      | zero =>
        simp at hk; subst hk
        rw [setL, List.getElem?_set_self hj']; simp
      | succ k =>
        simp at hk
        have hne : i ≠ j := fun e => hn.1 (by rw [e]; exact List.mem_of_getElem? hk)
        rw [setL, List.getElem?_set_ne hne]
        simpa using h2 k hk
  | l, [], _ :: _, j, _, hl, _ => by simp at hl
  | l, _ :: _, [], j, _, hl, _ => by simp at hl

/-- Some things, and what lies elsewhere: a call's view. -/
theorem Sat.frame {w0 w : World} {l : List Asn} (h : Sat w0 w l) (is : List Nat) (hn : is.Nodup) (hlt : ∀ i ∈ is, i < l.length) : ∃ G : Nat → Prop, Sat w w ((is.filterMap fun i => l[i]?) ++ [rest w G]) ∧
    (∀ (j : Nat) (B : Asn) (k : Nat), j ∉ is → l[j]? = some B → (∀ F, B.sat F w → F k) → G k) ∧ (∀ k, G k → k < w.heap.size) ∧
    ∀ (w' : World) (As' : List Asn), As'.length = is.length → Sat w w' (As' ++ [rest w G]) → Sat w0 w' (setL l is As') := by
  obtain ⟨hb, Fs, hl, hs, hd⟩ := h
  let G : Nat → Prop := fun k => ∃ (j : Nat) (F : Nat → Prop), j ∉ is ∧ Fs[j]? = some F ∧ F k
  have hGlt : ∀ k, G k → k < w.heap.size := by
    rintro k ⟨j, F, _, hF, hk⟩
    have hj : j < l.length := by rw [← hl]; exact (List.getElem?_eq_some_iff.1 hF).1
    exact (l[j]).lt F w k (hs j _ _ (List.getElem?_eq_getElem hj) hF) hk
  have hfm : ∀ (js : List Nat), (∀ i ∈ js, i < l.length) → (js.filterMap fun i => l[i]?).length = js.length ∧ (js.filterMap fun i => Fs[i]?).length = js.length ∧ ∀ (k i : Nat), js[k]? = some i → (js.filterMap fun i => l[i]?)[k]? = l[i]? ∧ (js.filterMap fun i => Fs[i]?)[k]? = Fs[i]? := by
    intro js
    induction js with
    | nil => intro _; exact ⟨rfl, rfl, fun k i hk => by simp at hk⟩
    | cons i js ih =>
      intro hlt
      obtain ⟨a, b, c⟩ := ih fun j hj => hlt j (by simp [hj])
      have h1 : l[i]? = some (l[i]'(hlt i (by simp))) := List.getElem?_eq_getElem (hlt i (by simp))
      have h2 : Fs[i]? = some (Fs[i]'(by rw [hl]; exact hlt i (by simp))) := List.getElem?_eq_getElem (by rw [hl]; exact hlt i (by simp))
      rw [List.filterMap_cons, List.filterMap_cons, h1, h2]
      refine ⟨by simp [a], by simp [b], fun k j hk => ?_⟩
      cases k with
      | zero => simp at hk; subst hk; simp [h1, h2]
      | succ k => simp at hk; simpa using c k j hk
  obtain ⟨la, lb, lat⟩ := hfm is hlt
  refine ⟨G, ⟨Below.refl _ _, (is.filterMap fun i => Fs[i]?) ++ [G], by simp [la, lb], ?_, ?_⟩, ?_, hGlt, ?_⟩
  · intro k A F hA hF
    by_cases hk : k < is.length
    · rw [List.getElem?_append_left (by omega)] at hA hF
      obtain ⟨e1, e2⟩ := lat k is[k] (List.getElem?_eq_getElem hk)
      rw [e1] at hA; rw [e2] at hF
      exact hs _ A F hA hF
    · rw [List.getElem?_append_right (by omega)] at hA hF
      have h0 : k - is.length = 0 := by
        have := (List.getElem?_eq_some_iff.1 hA).1
        simp at this; omega
      rw [la, h0] at hA; rw [lb, h0] at hF
      simp at hA hF
      subst hA; subst hF
      exact ⟨fun _ h => h, fun k hk => ⟨hGlt k hk, hk, rfl⟩⟩
  · have key : ∀ (a : Nat) (F : Nat → Prop), ((is.filterMap fun i => Fs[i]?) ++ [G])[a]? = some F → (∃ i, is[a]? = some i ∧ Fs[i]? = some F) ∨ (a = is.length ∧ F = G) := by
      intro a F hF
      by_cases ha : a < is.length
      · rw [List.getElem?_append_left (by omega)] at hF
        have hi : is[a]? = some is[a] := List.getElem?_eq_getElem ha
        rw [(lat a _ hi).2] at hF
        exact .inl ⟨_, hi, hF⟩
      · rw [List.getElem?_append_right (by omega)] at hF
        have h0 : a - is.length = 0 := by
          have := (List.getElem?_eq_some_iff.1 hF).1
          simp at this; omega
        rw [lb, h0] at hF
        simp at hF
        exact .inr ⟨by omega, hF.symm⟩
    intro a b F F2 k hF hF2 hne hk hk2
    rcases key a F hF with ⟨i, hi, h1⟩ | ⟨e1, rfl⟩ <;> rcases key b F2 hF2 with ⟨j, hj, h2⟩ | ⟨e2, rfl⟩
    · refine hd i j F F2 k h1 h2 (fun e => hne ?_) hk hk2
      subst e
      have ha := (List.getElem?_eq_some_iff.1 hi).1
      have hb := (List.getElem?_eq_some_iff.1 hj).1
      exact ((List.getElem?_inj ha hn).1 (hi.trans hj.symm))
    · obtain ⟨j, F', hj, hF', hk'⟩ := hk2
      exact hd i j F F' k h1 hF' (fun e => hj (e ▸ List.mem_of_getElem? hi)) hk hk'
    · obtain ⟨j', F', hj', hF', hk'⟩ := hk
      exact hd j j' F2 F' k h2 hF' (fun e => hj' (e ▸ List.mem_of_getElem? hj)) hk2 hk'
    · omega
  · intro j B k hj hB hF
    have hjl : j < l.length := (List.getElem?_eq_some_iff.1 hB).1
    have hFj : Fs[j]? = some (Fs[j]'(by omega)) := List.getElem?_eq_getElem (by omega)
    exact ⟨j, _, hj, hFj, hF _ (hs j B _ hB hFj)⟩
  · intro w' As' hlen h'
    obtain ⟨hb', Gs, gl, gs, gd⟩ := h'
    simp only [List.length_append, List.length_singleton] at gl
    have hG' := gs is.length (rest w G) (Gs[is.length]'(by omega)) (by rw [List.getElem?_append_right (by omega), hlen]; simp) (List.getElem?_eq_getElem (by omega))
    -- the new footprints
    let NF : Nat → Nat → Prop := fun j => match is.idxOf? j with
      | some k => Gs.getD k (fun _ => False)
      | none => Fs.getD j (fun _ => False)
    have hin : ∀ (k j : Nat), is[k]? = some j → is.idxOf? j = some k := by
      intro k j hk
      have hkl := (List.getElem?_eq_some_iff.1 hk).1
      have hm : j ∈ is := List.mem_of_getElem? hk
      cases hq : is.idxOf? j with
      | none => rw [List.idxOf?_eq_none_iff] at hq; exact absurd hm hq
      | some q =>
        have h2 : is[q]? = some j := by
          rw [List.idxOf?_eq_some_iff] at hq
          obtain ⟨hql, he, _⟩ := hq
          rw [List.getElem?_eq_getElem hql]; simpa using he
        rw [(List.getElem?_inj hkl hn).1 (hk.trans h2.symm)]
    have hout : ∀ j, j ∉ is → is.idxOf? j = none := fun j hj => List.idxOf?_eq_none_iff.2 hj
    have nfIn : ∀ (k j : Nat), is[k]? = some j → ∀ F, Gs[k]? = some F → NF j = F := by
      intro k j hk F hF
      simp only [NF, hin k j hk]
      simp [hF]
    have nfOut : ∀ j, j ∉ is → ∀ F, Fs[j]? = some F → NF j = F := by
      intro j hj F hF
      simp only [NF, hout j hj]
      simp [hF]
    have inner : ∀ k, k < is.length → Gs[k]? = some (Gs[k]!) := by
      intro k hk
      have : k < Gs.length := by omega
      simp [this]
    have apartG : ∀ k, k < is.length → ∀ F, Gs[k]? = some F → ∀ b, F b → ¬ G b := by
      intro k hk F hF b hb hg
      exact gd k is.length F _ b hF (List.getElem?_eq_getElem (by omega)) (by omega) hb (hG'.2 b hg).2.1
    refine ⟨⟨hb'.os.trans hb.os, hb'.tape.trans hb.tape, hb'.output.trans hb.output, Nat.le_trans hb.size hb'.size, fun k hk => absurd hk (Nat.not_lt_zero k)⟩, (List.range l.length).map NF, by simp [setL_len], ?_, ?_⟩
    · intro j A F hA hF
      have hj : j < l.length := by have := (List.getElem?_eq_some_iff.1 hA).1; rw [setL_len] at this; exact this
      rw [List.getElem?_map, List.getElem?_range hj] at hF
      simp only [Option.map_some, Option.some.injEq] at hF
      subst hF
      obtain ⟨s1, s2⟩ := setL_at l is As' j hn hlen.symm hj
      by_cases hm : j ∈ is
      · obtain ⟨k, hkl, hkj⟩ := List.getElem_of_mem hm
        have hk : is[k]? = some j := by rw [List.getElem?_eq_getElem hkl, hkj]
        rw [s2 k hk] at hA
        have hF : Gs[k]? = some (Gs[k]'(by omega)) := List.getElem?_eq_getElem (by omega)
        rw [nfIn k j hk _ hF]
        exact gs k A _ (by rw [List.getElem?_append_left (by omega)]; exact hA) hF
      · rw [s1 hm] at hA
        have hF : Fs[j]? = some (Fs[j]'(by omega)) := List.getElem?_eq_getElem (by omega)
        rw [nfOut j hm _ hF]
        refine A.stay _ w w' (hs j A _ hA hF) fun k hk => ?_
        exact (hG'.2 k ⟨j, _, hm, hF, hk⟩).2.2
    · intro i j F F2 k hF hF2 hne hk hk2
      have hi : i < l.length := by have := (List.getElem?_eq_some_iff.1 hF).1; simpa using this
      have hj : j < l.length := by have := (List.getElem?_eq_some_iff.1 hF2).1; simpa using this
      rw [List.getElem?_map, List.getElem?_range hi] at hF
      rw [List.getElem?_map, List.getElem?_range hj] at hF2
      simp only [Option.map_some, Option.some.injEq] at hF hF2
      subst hF; subst hF2
      have fi : Fs[i]? = some (Fs[i]'(by omega)) := List.getElem?_eq_getElem (by omega)
      have fj : Fs[j]? = some (Fs[j]'(by omega)) := List.getElem?_eq_getElem (by omega)
      by_cases hmi : i ∈ is <;> by_cases hmj : j ∈ is
      · obtain ⟨a, hal, ha⟩ := List.getElem_of_mem hmi
        obtain ⟨b, hbl, hb2⟩ := List.getElem_of_mem hmj
        have ga : Gs[a]? = some (Gs[a]'(by omega)) := List.getElem?_eq_getElem (by omega)
        have gb : Gs[b]? = some (Gs[b]'(by omega)) := List.getElem?_eq_getElem (by omega)
        rw [nfIn a i (by rw [List.getElem?_eq_getElem hal, ha]) _ ga] at hk
        rw [nfIn b j (by rw [List.getElem?_eq_getElem hbl, hb2]) _ gb] at hk2
        exact gd a b _ _ k ga gb (fun e => hne (by rw [← ha, ← hb2]; simp [e])) hk hk2
      · obtain ⟨a, hal, ha⟩ := List.getElem_of_mem hmi
        have ga : Gs[a]? = some (Gs[a]'(by omega)) := List.getElem?_eq_getElem (by omega)
        rw [nfIn a i (by rw [List.getElem?_eq_getElem hal, ha]) _ ga] at hk
        rw [nfOut j hmj _ fj] at hk2
        exact apartG a hal _ ga k hk ⟨j, _, hmj, fj, hk2⟩
      · obtain ⟨b, hbl, hb2⟩ := List.getElem_of_mem hmj
        have gb : Gs[b]? = some (Gs[b]'(by omega)) := List.getElem?_eq_getElem (by omega)
        rw [nfOut i hmi _ fi] at hk
        rw [nfIn b j (by rw [List.getElem?_eq_getElem hbl, hb2]) _ gb] at hk2
        exact apartG b hbl _ gb k hk2 ⟨i, _, hmi, fi, hk⟩
      · rw [nfOut i hmi _ fi] at hk
        rw [nfOut j hmj _ fj] at hk2
        exact hd i j _ _ k fi fj hne hk hk2

theorem Sat.frameB {w0 w : World} {l : List Asn} (h : Sat w0 w l) (is : List Nat) (hn : is.Nodup) (hlt : is.all (fun i => Nat.blt i l.length) = true) : ∃ G : Nat → Prop, Sat w w ((is.filterMap fun i => l[i]?) ++ [rest w G]) ∧
    (∀ (j : Nat) (B : Asn) (k : Nat), j ∉ is → l[j]? = some B → (∀ F, B.sat F w → F k) → G k) ∧ (∀ k, G k → k < w.heap.size) ∧
    ∀ (w' : World) (As' : List Asn), As'.length = is.length → Sat w w' (As' ++ [rest w G]) → Sat w0 w' (setL l is As') := h.frame is hn fun i hi => by
  have := List.all_eq_true.1 hlt i hi
  simpa [Nat.blt_eq] using this

/-- A row, told. -/
structure RowD where
  T : TypeId
  k : Nat
  v : Value
  n : Nat
  xs : List Value
/-- Rows that are only read, as one thing. -/
def bag (rs : List RowD) : Asn where
  sat F w := (∀ r ∈ rs, w.ownsRow 0 r.T r.k r.v r.n r.xs) ∧ ∀ b, F b ↔ ∃ r ∈ rs, r.v.ownBlock = some b
  facts _ := True
  stay := by
    rintro F w w' ⟨h1, h2⟩ hk
    exact ⟨fun r hr => ownsRow_of_block (h1 r hr) fun j hj => hk j ((h2 j).2 ⟨r, hr, hj⟩), h2⟩
  lt := by
    rintro F w k ⟨h1, h2⟩ hk
    obtain ⟨r, hr, hb⟩ := (h2 k).1 hk
    exact ((h1 r hr).lt k hb).2
  out := fun _ _ _ => trivial
section
variable {w0 w : World} {l : List Asn}
theorem Sat.bagRow (S : Sat w0 w l) (i : Nat) {rs : List RowD} (hi : l[i]? = some (bag rs)) {r : RowD} (hr : r ∈ rs) : w.ownsRow 0 r.T r.k r.v r.n r.xs := by
  obtain ⟨F, h, _⟩ := S.get hi
  exact h r hr
theorem Sat.pushBag (S : Sat w0 w l) : Sat w0 w (l ++ [bag []]) := S.push (F := fun _ => False) ⟨fun r hr => absurd hr List.not_mem_nil, fun b => ⟨fun h => h.elim, fun h => by obtain ⟨r, hr, _⟩ := h; exact absurd hr List.not_mem_nil⟩⟩ (fun k hk => hk.elim) (Below.refl _ _)
/-- A row comes to the others. -/
theorem Sat.bagAdd (S : Sat w0 w l) (i j : Nat) {rs : List RowD} {T : TypeId} {k n : Nat} {v : Value} {xs : List Value} (hi : l[i]? = some (bag rs)) (hj : l[j]? = some (row T k v n xs)) (hij : Nat.beq i j = false) : Sat w0 w ((l.set i (bag (rs ++ [⟨T, k, v, n, xs⟩]))).set j emp) := by
  have hne : i ≠ j := fun e => by rw [e, Nat.beq_refl] at hij; cases hij
  have h1 := S.join hi hj hne
  have hil : i < l.length := (List.getElem?_eq_some_iff.1 hi).1
  have hjl : j < l.length := (List.getElem?_eq_some_iff.1 hj).1
  have h2 := h1.turn (i := i) (A := star2 (bag rs) (row T k v n xs)) (A' := bag (rs ++ [⟨T, k, v, n, xs⟩])) (by rw [set2_at hne hil hjl, if_neg hne, if_pos rfl]) fun F hF => by
    obtain ⟨G, H, hA, hB, hd, hFF⟩ := hF
    refine ⟨F, ⟨fun r hr => ?_, fun b => ?_⟩, fun _ h => h⟩
    · rcases List.mem_append.1 hr with hr | hr
      · exact hA.1 r hr
      · simp at hr; subst hr; exact hB.2
    · rw [hFF, hA.2 b, hB.1]
      constructor
      · rintro (⟨r, hr, hb⟩ | hb)
        · exact ⟨r, List.mem_append_left _ hr, hb⟩
        · exact ⟨⟨T, k, v, n, xs⟩, by simp, hb⟩
      · rintro ⟨r, hr, hb⟩
        rcases List.mem_append.1 hr with hr | hr
        · exact .inl ⟨r, hr, hb⟩
        · simp at hr; subst hr; exact .inr hb
  have hz : ((l.set i (star2 (bag rs) (row T k v n xs))).set j emp).set i (bag (rs ++ [⟨T, k, v, n, xs⟩])) = (l.set i (bag (rs ++ [⟨T, k, v, n, xs⟩]))).set j emp := by
    apply List.ext_getElem?
    intro q
    rw [set2_at hne hil hjl]
    by_cases h2 : q = i
    · subst h2; rw [List.getElem?_set_self (by simpa using hil), if_neg hne, if_pos rfl]
    · rw [List.getElem?_set_ne (Ne.symm h2), set2_at hne hil hjl]; simp only [if_neg h2]
  rw [hz] at h2
  exact h2
/-- A row is cut off behind some elements. -/
theorem Sat.cutRow (S : Sat w0 w l) (i : Nat) {T : TypeId} {k n c : Nat} {A : Option Addr} {xs : List Value} (hi : l[i]? = some (row T k (.slice A n c) n xs)) (m : Nat) (hm : m ≤ n) : Sat w0 w (l.set i (row T k (.slice A m c) m (xs.take (m * k)))) := by
  refine S.turn hi fun F hF => ⟨fun b => (Value.slice A m c).ownBlock = some b, ⟨rfl, ?_⟩, ?_⟩
  · obtain ⟨rfl, hr⟩ := hF
    have hl := hr.1
    have hmk : m * k ≤ n * k := Nat.mul_le_mul_right k hm
    refine ⟨by rw [List.length_take, hl]; omega, ?_⟩
    rcases hr.2 with ⟨h1, h2⟩ | ⟨g', cap, cur, h1, h2, h3, h4, h5, h6, h7⟩
    · injection h1 with ha hn hc
      refine .inl ⟨?_, ?_⟩
      · rw [ha, hc, show m = 0 from by omega]
      · omega
    · injection h1 with ha hn hc
      refine .inr ⟨g', cap, cur, ?_, h2, h3, by omega, h5, h6, ?_⟩
      · rw [ha, hc]
      · rw [← h7, List.take_take, Nat.min_eq_left hmk]
  · intro b hb
    obtain ⟨rfl, _⟩ := hF
    show (Value.slice A n c).ownBlock = some b
    rw [← hb]; unfold Value.ownBlock
    cases A with
    | none => rfl
    | some ad => obtain ⟨x, y, z⟩ := ad; cases y <;> cases z <;> rfl
theorem Sat.cutRecs {α : Type} (S : Sat w0 w l) (i : Nat) {T : TypeId} {k n c : Nat} {f : α → List Value} {A : Option Addr} {X Y : List α} (hf : ∀ x, (f x).length = k) (hi : l[i]? = some (row T k (.slice A n c) n (X.flatMap f))) (hY : Y = X.take Y.length) (hn : Y.length ≤ n) : Sat w0 w (l.set i (row T k (.slice A Y.length c) Y.length (Y.flatMap f))) := by
  have h := S.cutRow i hi Y.length hn
  have e : ∀ (X : List α) (m : Nat), (X.flatMap f).take (m * k) = (X.take m).flatMap f := by
    intro X
    induction X with
    | nil => intro m; simp
    | cons x X ih =>
      intro m
      cases m with
      | zero => simp
      | succ m =>
        rw [List.flatMap_cons, List.take_append, hf x, List.take_of_length_le (by rw [hf x, Nat.succ_mul]; omega), show (m + 1) * k - k = m * k from by rw [Nat.succ_mul]; omega, ih m, List.take_succ_cons, List.flatMap_cons]
  rw [e, ← hY] at h
  exact h
/-- Old memory, of some blocks. -/
theorem cOldG (S : Sat w0 w l) (i : Nat) {α : Type} {k : Nat} {f : α → List Value} (hf : ∀ x, (f x).length = k) {A : Option Addr} {c : Nat} {X : List α} (h : Recs k f w0 A c X) {G : Nat → Prop} (hG : ∀ ad, A = some ad → X.flatMap f ≠ [] → G ad.block) (hi : l[i]? = some (rest w0 G)) {m : Nat} (t : Nat) {e : α} (hm : X[m]? = some e) {v : Value} (hj : (f e)[t]? = some v) : cellA w A (m * k + t) v :=
  recs_cell hf (h.mono (src_rest S hi h.src hG)) t hm hj
variable {P : Program} {a : Act} {nt : Nat} {L : List (Nat × Value)} {o : Oper} {R : Value → World → Prop}
/-- The first elements of a slice. -/
theorem op_sliceH (T e : TypeId) (x y : Operand) (A : Option Addr) (N c m k : Nat) (kd : IntKind) (F : Fr a nt L) (ho : o.op = .slice T x none (some y) none) (hT : P.underlying T = some (.slice e)) (hk : sizeT P e = some k) (hx : val? L x = some (.slice A N c)) (hy : val? L y = some (.int kd (m : Int))) (hm : m ≤ c) (hR : R (.slice A m c) w) : OpR P a w o R := by
  refine op_run (v := .slice A m c) (w' := w) ?_ hR
  unfold sizeT at hk
  cases hi' : P.info? e with
  | none => rw [hi'] at hk; cases hk
  | some i =>
    rw [hi'] at hk
    simp only [Option.map_some, Option.some.injEq] at hk
    unfold execOp
    simp only [ho, Option.map_none, Option.map_some, F.val hx, F.val hy]
    have hmi : (m : Int) ≤ (c : Int) := by omega
    simp only [Instr.sliceAt, run_underlying hT, Sem.run_bind, Result.andThen_ok, Instr.slice, Instr.sliceBounds, Instr.sliceBound, asIntOf, Sem.run_pure, sizeOf, tinfo hi', if_pos (And.intro (Int.natCast_nonneg m) hmi), Int.toNat_natCast, if_true]
    cases A <;> simp [Addr.add]
/-- A part of what a call turned stays where it was: the old ones stay among them. -/
theorem Sat.frameG (h : Sat w0 w l) (is : List Nat) (hn : is.Nodup) (hlt : ∀ i ∈ is, i < l.length) (j : Nat) (hj : j ∉ is) {w1 : World} {G0 : Nat → Prop} (hG0 : l[j]? = some (rest w1 G0)) : ∃ G : Nat → Prop, Sat w w ((is.filterMap fun i => l[i]?) ++ [rest w G]) ∧ (∀ k, G0 k → G k) ∧
    ∀ (w' : World) (As' : List Asn), As'.length = is.length → Sat w w' (As' ++ [rest w G]) → Sat w0 w' (setL l is As') := by
  obtain ⟨G, h1, h2, _, h4⟩ := h.frame is hn hlt
  exact ⟨G, h1, fun k hk => h2 j _ k hj hG0 fun F hF => (hF.2 k hk).2.1, h4⟩
/-- What a slice reaches lies in some blocks. -/
def InG (G : Nat → Prop) (A : Option Addr) (xs : List Value) : Prop := ∀ ad, A = some ad → xs ≠ [] → G ad.block
theorem InG.mono {G G' : Nat → Prop} {A : Option Addr} {xs : List Value} (h : InG G A xs) (hG : ∀ k, G k → G' k) : InG G' A xs := fun ad ha hx => hG _ (h ad ha hx)
theorem InG.row (S : Sat w0 w l) {is : List Nat} {G : Nat → Prop} (hin : ∀ (j : Nat) (B : Asn) (k : Nat), j ∉ is → l[j]? = some B → (∀ F, B.sat F w → F k) → G k) (j : Nat) (hj : j ∉ is) {T : TypeId} {k n c : Nat} {A : Option Addr} {xs : List Value} (hi : l[j]? = some (row T k (.slice A n c) n xs)) : InG G A xs := fun ad ha _ => by
  refine hin j _ _ hj hi fun F hF => ?_
  obtain ⟨rfl, hr⟩ := hF
  rcases hr.2 with ⟨h1, _⟩ | ⟨g', cap, cur, h1, _⟩
  · injection h1 with h1; rw [ha] at h1; cases h1
  · injection h1 with h1; rw [ha] at h1; cases h1; subst ha; rfl
theorem InG.rest {is : List Nat} {G : Nat → Prop} (hin : ∀ (j : Nat) (B : Asn) (k : Nat), j ∉ is → l[j]? = some B → (∀ F, B.sat F w → F k) → G k) (j : Nat) (hj : j ∉ is) {w1 : World} {G0 : Nat → Prop} (hi : l[j]? = some (Proofs.Ytcfpbemoocegfaa.rest w1 G0)) {A : Option Addr} {xs : List Value} (h : InG G0 A xs) : InG G A xs := fun ad ha hx => hin j _ _ hj hi fun F hF => (hF.2 _ (h ad ha hx)).2.1
theorem InG.all {w : World} {A : Option Addr} {xs : List Value} (h : SrcOf w A xs) : InG (· < w.heap.size) A xs := src_lt h
end
open Go Go.RowKit

def cutL (A : Option Addr) (n c k : Nat) : Value := .slice (if c = 1 then A else A.map (·.add (1 * k))) (n - 1) (c - 1)
section
variable {P : Program} {a : Act} {nt : Nat} {L : List (Nat × Value)} {o : Oper} {R : Value → World → Prop} {w : World}
theorem op_sliceL (T e : TypeId) (x y : Operand) (A : Option Addr) (N c k : Nat) (kd : IntKind) (F : Fr a nt L) (ho : o.op = .slice T x (some y) none none) (hT : P.underlying T = some (.slice e)) (hk : sizeT P e = some k) (hx : val? L x = some (.slice A N c)) (hy : val? L y = some (.int kd 1)) (hm : 1 ≤ N) (hR : R (cutL A N c k) w) : OpR P a w o R := by
  refine op_run (v := cutL A N c k) (w' := w) ?_ hR
  unfold sizeT at hk
  cases hi' : P.info? e with
  | none => rw [hi'] at hk; cases hk
  | some i =>
    rw [hi'] at hk
    simp only [Option.map_some, Option.some.injEq] at hk
    unfold execOp
    simp only [ho, Option.map_none, Option.map_some, F.val hx, F.val hy]
    have hmi : (1 : Int) ≤ (N : Int) := by omega
    simp only [Instr.sliceAt, run_underlying hT, Sem.run_bind, Result.andThen_ok, Instr.slice, Instr.sliceBounds, Instr.sliceBound, asIntOf, Sem.run_pure, sizeOf, tinfo hi', if_pos (And.intro (show (0 : Int) ≤ 1 by decide) hmi), Option.isSome_none, hk]
    simp [cutL, hk]
theorem op_indexL (T e : TypeId) (x ix : Operand) (A : Option Addr) (N c m k : Nat) (kd : IntKind) (F : Fr a nt L) (ho : o.op = .indexAddr T x ix) (hT : P.underlying T = some (.slice e)) (hk : sizeT P e = some k) (hx : val? L x = some (cutL A N c k)) (hi : val? L ix = some (.int kd (m : Int)))
    (hm : m + 1 < N) (hc : N ≤ c) (hA : A.isSome = true) (hR : R (ptrA A ((m + 1) * k)) w) : OpR P a w o R := by
  have h1 : ¬ c = 1 := by omega
  unfold cutL at hx
  rw [if_neg h1] at hx
  refine op_index T e x ix _ (N - 1) (c - 1) m k kd F ho hT hk hx hi (by omega) (by cases A <;> simp_all) ?_
  obtain ⟨ad, rfl⟩ := Option.isSome_iff_exists.1 hA
  have : ptrA ((some ad).map (·.add (1 * k))) (m * k) = ptrA (some ad) ((m + 1) * k) := by
    unfold ptrA
    simp only [Option.map_some, add_add]
    rw [show 1 * k + m * k = (m + 1) * k from by rw [Nat.add_mul, Nat.add_comm]]
  rw [this]
  exact hR
end
open Go Go.RowKit

theorem cReadK {w : World} {α : Type} {k : Nat} {f : α → List Value} (hf : ∀ x, (f x).length = k) {A : Option Addr} {c : Nat} {X : List α} (hh : Recs k f w A c X) {m : Nat} (j : Nat) {e : α} (hm : X[m]? = some e) {xs : List Value} (h : ((f e).drop j).take xs.length = xs) : ∀ t u, xs[t]? = some u → cellA w A (m * k + j + t) u := by
  intro t u hu
  rw [Nat.add_assoc]
  exact recs_cell hf hh (j + t) hm (drop_at h hu)
theorem cReadK0 {w : World} {α : Type} {k : Nat} {f : α → List Value} (hf : ∀ x, (f x).length = k) {A : Option Addr} {c : Nat} {X : List α} (hh : Recs k f w A c X) {m : Nat} {e : α} (hm : X[m]? = some e) {xs : List Value} (h : ((f e).drop 0).take xs.length = xs) : ∀ t u, xs[t]? = some u → cellA w A (m * k + t) u :=
  fun t u hu => cReadK hf hh 0 hm h t u hu
/-- Two new things at empty places. -/
theorem Sat.fillThing2 {w0 w w' : World} {l : List Asn} {A B : Asn} (S : Sat w0 w l) (i j : Nat) (hi : l[i]? = some emp) (hj : l[j]? = some emp) (hij : i ≠ j) (h : Sat w w' [rest w (· < w.heap.size), A, B]) : Sat w0 w' ((l.set i A).set j B) := by
  have h2 : Sat w w' [rest w (· < w.heap.size), star2 A B] := (h.join (i := 1) (j := 2) rfl rfl (by decide)).pick [0, 1] (by decide)
  have S1 := S.fillThing i hi h2
  have hil : i < l.length := (List.getElem?_eq_some_iff.1 hi).1
  have S2 := S1.part (i := i) (j := j) (C := emp) (List.getElem?_set_self hil) (by rw [List.getElem?_set_ne hij]; exact hj) hij
  rw [List.set_set] at S2
  exact S2
end Go.Proofs.Ytcfpbemoocegfaa
