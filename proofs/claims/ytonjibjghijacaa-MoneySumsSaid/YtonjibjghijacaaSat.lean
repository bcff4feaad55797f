/- Things that lie in memory, each in blocks of its own: what becomes of the others while one of them turns. Plain: over any program. -/
import Derived.Test.YtonjibjghijacaaMoves
namespace Go.Proofs.Ytonjibjghijacaa
set_option linter.unusedVariables false
set_option linter.unusedSimpArgs false
set_option linter.unnecessarySimpa false
open Go Go.RowKit

/-- A thing in memory, in blocks F. facts: what a walk wants to know of it. -/
structure Asn where
  sat : (Nat → Prop) → World → Prop
  facts : World → Prop
  stay : ∀ (F : Nat → Prop) (w w' : World), sat F w → (∀ k, F k → w'.heap[k]? = w.heap[k]?) → sat F w'
  lt : ∀ (F : Nat → Prop) (w : World) (k : Nat), sat F w → F k → k < w.heap.size
  out : ∀ (F : Nat → Prop) (w : World), sat F w → facts w

/-- Things that lie apart. -/
def Sat (w0 w : World) (l : List Asn) : Prop :=
  Below 0 w0 w ∧ ∃ Fs : List (Nat → Prop), Fs.length = l.length ∧ (∀ (i : Nat) (A : Asn) (F : Nat → Prop), l[i]? = some A → Fs[i]? = some F → A.sat F w) ∧
    (∀ (i j : Nat) (F G : Nat → Prop) (k : Nat), Fs[i]? = some F → Fs[j]? = some G → i ≠ j → F k → ¬ G k)

section
variable {w0 w : World} {l : List Asn}

theorem Sat.str (h : Sat w0 w l) : Below 0 w0 w := h.1
theorem Sat.nil (w : World) : Sat w w [] := ⟨Below.refl _ _, [], rfl, fun i A F h => by simp at h, fun i j F G k h => by simp at h⟩

theorem Sat.get (h : Sat w0 w l) {A : Asn} {i : Nat} (hi : l[i]? = some A) : ∃ F, A.sat F w := by
  obtain ⟨_, Fs, hl, hs, _⟩ := h
  have hlt : i < Fs.length := by rw [hl]; exact (List.getElem?_eq_some_iff.1 hi).1
  exact ⟨Fs[i], hs i A _ hi (List.getElem?_eq_getElem hlt)⟩
theorem Sat.fact (h : Sat w0 w l) {A : Asn} {i : Nat} (hi : l[i]? = some A) : A.facts w := by
  obtain ⟨F, hF⟩ := h.get hi
  exact A.out F w hF
theorem Sat.facts (h : Sat w0 w l) : ∀ A ∈ l, A.facts w := by
  intro A hA
  obtain ⟨i, hi, rfl⟩ := List.getElem_of_mem hA
  exact h.fact (List.getElem?_eq_getElem hi)

/-- One of them turns. -/
theorem Sat.step (h : Sat w0 w l) {A : Asn} {i : Nat} (hi : l[i]? = some A) : ∃ F, A.sat F w ∧ ∀ (w' : World) (A' : Asn) (F' : Nat → Prop), A'.sat F' w' → Moves F F' w w' → Sat w0 w' (l.set i A') := by
  obtain ⟨hb, Fs, hl, hs, hd⟩ := h
  have hil : i < l.length := (List.getElem?_eq_some_iff.1 hi).1
  have hif : i < Fs.length := by omega
  have hFi : Fs[i]? = some Fs[i] := List.getElem?_eq_getElem hif
  refine ⟨Fs[i], hs i A _ hi hFi, fun w' A' F' hA' hM => ⟨⟨hM.chg.os.trans hb.os, hM.chg.tape.trans hb.tape, hM.chg.output.trans hb.output, Nat.le_trans hb.size hM.chg.size, fun k hk => absurd hk (Nat.not_lt_zero k)⟩, Fs.set i F', by simp [hl], ?_, ?_⟩⟩
  · intro j B G hB hG
    by_cases hji : j = i
    · subst hji
      simp [hil] at hB
      simp [hif] at hG
      subst hB; subst hG
      exact hA'
    · rw [List.getElem?_set_ne (Ne.symm hji)] at hB hG
      have hBs := hs j B G hB hG
      refine B.stay G w w' hBs fun k hk => ?_
      exact hM.chg.block k (B.lt G w k hBs hk) fun hf => hd i j _ _ k hFi hG (Ne.symm hji) hf hk
  · intro j j2 G G2 k hG hG2 hne hk
    by_cases hji : j = i
    · subst hji
      simp [hif] at hG
      subst hG
      rw [List.getElem?_set_ne hne] at hG2
      intro hk2
      have hj2 : j2 < l.length := by rw [← hl]; exact (List.getElem?_eq_some_iff.1 hG2).1
      rcases hM.foot k hk with h1 | h1
      · exact hd j j2 _ _ k hFi hG2 hne h1 hk2
      · have := (l[j2]).lt G2 w k (hs j2 _ _ (List.getElem?_eq_getElem hj2) hG2) hk2
        omega
    · rw [List.getElem?_set_ne (Ne.symm hji)] at hG
      have hj : j < l.length := by rw [← hl]; exact (List.getElem?_eq_some_iff.1 hG).1
      by_cases hj2i : j2 = i
      · subst hj2i
        simp [hif] at hG2
        subst hG2
        intro hk2
        rcases hM.foot k hk2 with h1 | h1
        · exact hd j j2 _ _ k hG hFi hne hk h1
        · have := (l[j]).lt G w k (hs j _ _ (List.getElem?_eq_getElem hj) hG) hk
          omega
      · rw [List.getElem?_set_ne (Ne.symm hj2i)] at hG2
        exact hd j j2 _ _ k hG hG2 hne hk

/-- New memory alone. -/
theorem Sat.grow (h : Sat w0 w l) {w' : World} (hb : Below w.heap.size w w') : Sat w0 w' l := by
  obtain ⟨h0, Fs, hl, hs, hd⟩ := h
  refine ⟨h0.trans (hb.mono (Nat.zero_le _)), Fs, hl, fun i A F hA hF => ?_, hd⟩
  have := hs i A F hA hF
  exact A.stay F w w' this fun k hk => hb.block k (A.lt F w k this hk)
theorem Sat.drew (h : Sat w0 w l) : Sat w0 w.drew l := h.grow (Below.refl _ _).drew

/-- A new thing. -/
theorem Sat.push (h : Sat w0 w l) {w' : World} {A : Asn} {F : Nat → Prop} (hA : A.sat F w') (hF : ∀ k, F k → w.heap.size ≤ k) (hb : Below w.heap.size w w') : Sat w0 w' (l ++ [A]) := by
  have hg := h.grow hb
  obtain ⟨h0, Fs, hl, hs, hd⟩ := h
  refine ⟨hg.1, Fs ++ [F], by simp [hl], ?_, ?_⟩
  · intro i B G hB hG
    by_cases hi : i < l.length
    · rw [List.getElem?_append_left hi] at hB
      rw [List.getElem?_append_left (by omega)] at hG
      have := hs i B G hB hG
      exact B.stay G w w' this fun k hk => hb.block k (B.lt G w k this hk)
    · rw [List.getElem?_append_right (by omega)] at hB
      rw [List.getElem?_append_right (by omega), hl] at hG
      have hi0 : i - l.length = 0 := by
        have := (List.getElem?_eq_some_iff.1 hB).1
        simp at this; omega
      rw [hi0] at hB hG
      simp at hB hG
      subst hB; subst hG
      exact hA
  · intro i j G G2 k hG hG2 hne hk hk2
    have key : ∀ (i : Nat) (G : Nat → Prop), (Fs ++ [F])[i]? = some G → (i < Fs.length ∧ Fs[i]? = some G) ∨ (i = Fs.length ∧ G = F) := by
      intro i G hG
      by_cases hi : i < Fs.length
      · rw [List.getElem?_append_left hi] at hG; exact .inl ⟨hi, hG⟩
      · rw [List.getElem?_append_right (by omega)] at hG
        have hi0 : i - Fs.length = 0 := by
          have := (List.getElem?_eq_some_iff.1 hG).1
          simp at this; omega
        rw [hi0] at hG
        simp at hG
        exact .inr ⟨by omega, hG.symm⟩
    have old : ∀ (i : Nat) (G : Nat → Prop), i < Fs.length → Fs[i]? = some G → G k → k < w.heap.size := fun i G hi hG hk =>
      (l[i]'(by omega)).lt G w k (hs i _ _ (List.getElem?_eq_getElem (by omega)) hG) hk
    rcases key i G hG with ⟨hi, h1⟩ | ⟨hi, rfl⟩ <;> rcases key j G2 hG2 with ⟨hj, h2⟩ | ⟨hj, rfl⟩
    · exact hd i j _ _ k h1 h2 hne hk hk2
    · have := old i G hi h1 hk; have := hF k hk2; omega
    · have := old j G2 hj h2 hk2; have := hF k hk; omega
    · omega

/-- One of them is seen otherwise; some of its blocks may be left. -/
theorem Sat.turn (h : Sat w0 w l) {A A' : Asn} {i : Nat} (hi : l[i]? = some A) (hA : ∀ F, A.sat F w → ∃ F', A'.sat F' w ∧ ∀ k, F' k → F k) : Sat w0 w (l.set i A') := by
  obtain ⟨F, hF, h1⟩ := h.step hi
  obtain ⟨F', hF', h2⟩ := hA F hF
  exact h1 w A' F' hF' ⟨Chg.refl _ _, fun k hk => .inl (h2 k hk)⟩

/-- The last ones are let go. -/
theorem Sat.left {l' : List Asn} (h : Sat w0 w (l ++ l')) : Sat w0 w l := by
  obtain ⟨h0, Fs, hl, hs, hd⟩ := h
  simp at hl
  have at_ : ∀ (i : Nat) (F : Nat → Prop), (Fs.take l.length)[i]? = some F → i < l.length ∧ Fs[i]? = some F := by
    intro i F hF
    have hi := (List.getElem?_eq_some_iff.1 hF).1
    simp at hi
    have hi' : i < l.length := by omega
    rw [List.getElem?_take_of_lt hi'] at hF
    exact ⟨hi', hF⟩
  refine ⟨h0, Fs.take l.length, by simp [hl], fun i A F hA hF => ?_, fun i j F G k hF hG => hd i j F G k (at_ i F hF).2 (at_ j G hG).2⟩
  obtain ⟨hi, hF'⟩ := at_ i F hF
  exact hs i A F (by rw [List.getElem?_append_left hi]; exact hA) hF'

/-- Some of them, in another order. -/
theorem Sat.pick (h : Sat w0 w l) (is : List Nat) (hn : is.Nodup) : Sat w0 w (is.filterMap fun i => l[i]?) := by
  obtain ⟨hb, Fs, hl, hs, hd⟩ := h
  have key : ∀ (is : List Nat), is.Nodup → ∃ Gs : List (Nat → Prop), Gs.length = (is.filterMap fun i => l[i]?).length ∧
      (∀ (a : Nat) (G : Nat → Prop), Gs[a]? = some G → ∃ i ∈ is, Fs[i]? = some G ∧ l[i]? = (is.filterMap fun i => l[i]?)[a]?) ∧
      (∀ (a b : Nat) (G G' : Nat → Prop) (k : Nat), Gs[a]? = some G → Gs[b]? = some G' → a ≠ b → G k → ¬ G' k) := by
    intro is
    induction is with
    | nil => intro _; exact ⟨[], rfl, fun a G h => by simp at h, fun a b G G' k h => by simp at h⟩
    | cons i is ih =>
      intro hn
      obtain ⟨Gs, h1, h2, h3⟩ := ih (List.nodup_cons.1 hn).2
      have hni := (List.nodup_cons.1 hn).1
      by_cases hi : i < l.length
      · have hi' : i < Fs.length := by omega
        have e : l[i]? = some l[i] := List.getElem?_eq_getElem hi
        have hfm : ((i :: is).filterMap fun i => l[i]?) = l[i] :: (is.filterMap fun i => l[i]?) := by rw [List.filterMap_cons]; simp [e]
        rw [hfm]
        refine ⟨Fs[i] :: Gs, by simp [h1], ?_, ?_⟩
        · intro a G hG
          cases a with
          | zero => simp at hG; subst hG; exact ⟨i, by simp, List.getElem?_eq_getElem hi', by simp [e]⟩
          | succ a =>
            obtain ⟨j, hj, h4, h5⟩ := h2 a G (by simpa using hG)
            exact ⟨j, by simp [hj], h4, by simpa using h5⟩
        · intro a b G G' k hG hG' hne hk
          have hd' : ∀ (b : Nat) (G' : Nat → Prop), Gs[b]? = some G' → ∀ k, Fs[i] k → ¬ G' k := by
            intro b G' hG' k hk
            obtain ⟨j, hj, h4, _⟩ := h2 b G' hG'
            exact hd i j _ _ k (List.getElem?_eq_getElem hi') h4 (fun e => hni (e ▸ hj)) hk
          cases a with
          | zero =>
            simp at hG; subst hG
            cases b with
            | zero => exact absurd rfl hne
            | succ b => exact hd' b G' (by simpa using hG') k hk
          | succ a =>
            cases b with
            | zero => simp at hG'; subst hG'; exact fun hk' => hd' a G (by simpa using hG) k hk' hk
            | succ b => exact h3 a b G G' k (by simpa using hG) (by simpa using hG') (by omega) hk
      · have hfm : ((i :: is).filterMap fun i => l[i]?) = (is.filterMap fun i => l[i]?) := by rw [List.filterMap_cons]; simp [List.getElem?_eq_none (Nat.le_of_not_lt hi)]
        rw [hfm]
        refine ⟨Gs, h1, fun a G hG => ?_, h3⟩
        obtain ⟨j, hj, h4, h5⟩ := h2 a G hG
        exact ⟨j, by simp [hj], h4, h5⟩
  obtain ⟨Gs, h1, h2, h3⟩ := key is hn
  refine ⟨hb, Gs, h1, fun a A G hA hG => ?_, h3⟩
  obtain ⟨j, _, h4, h5⟩ := h2 a G hG
  exact hs j A G (h5.trans hA) h4

/-- Nothing. -/
def emp : Asn := ⟨fun F _ => ∀ k, ¬ F k, fun _ => True, fun _ _ _ h _ => h, fun _ _ k h hk => absurd hk (h k), fun _ _ _ => trivial⟩

theorem Sat.pushEmp (h : Sat w0 w l) : Sat w0 w (l ++ [emp]) := h.push (F := fun _ => False) (fun _ hk => hk) (fun _ hk => hk.elim) (Below.refl _ _)

/-- Several, as one. -/
def star2 (A B : Asn) : Asn where
  sat F w := ∃ G H, A.sat G w ∧ B.sat H w ∧ (∀ k, G k → ¬ H k) ∧ ∀ k, F k ↔ G k ∨ H k
  facts w := A.facts w ∧ B.facts w
  stay := by
    rintro F w w' ⟨G, H, hA, hB, hd, hF⟩ hk
    exact ⟨G, H, A.stay G w w' hA fun k h => hk k ((hF k).2 (.inl h)), B.stay H w w' hB fun k h => hk k ((hF k).2 (.inr h)), hd, hF⟩
  lt := by
    rintro F w k ⟨G, H, hA, hB, hd, hF⟩ hk
    rcases (hF k).1 hk with h | h
    · exact A.lt G w k hA h
    · exact B.lt H w k hB h
  out := by
    rintro F w ⟨G, H, hA, hB, hd, hF⟩
    exact ⟨A.out G w hA, B.out H w hB⟩

/-- Some value, and the thing with it. -/
def some_ {α : Type} (f : α → Asn) : Asn where
  sat F w := ∃ x, (f x).sat F w
  facts w := ∃ x, (f x).facts w
  stay := by rintro F w w' ⟨x, h⟩ hk; exact ⟨x, (f x).stay F w w' h hk⟩
  lt := by rintro F w k ⟨x, h⟩ hk; exact (f x).lt F w k h hk
  out := by rintro F w ⟨x, h⟩; exact ⟨x, (f x).out F w h⟩
/-- The thing, where p holds. -/
def when (p : Prop) (A : Asn) : Asn where
  sat F w := p ∧ A.sat F w
  facts w := p ∧ A.facts w
  stay := by rintro F w w' ⟨hp, h⟩ hk; exact ⟨hp, A.stay F w w' h hk⟩
  lt := by rintro F w k ⟨hp, h⟩ hk; exact A.lt F w k h hk
  out := by rintro F w ⟨hp, h⟩; exact ⟨hp, A.out F w h⟩

theorem set_self {α : Type} {l : List α} {i : Nat} {a : α} (h : l[i]? = some a) : l.set i a = l := by
  apply List.ext_getElem?
  intro j
  by_cases hj : j = i
  · subst hj; rw [h, List.getElem?_set_self (List.getElem?_eq_some_iff.1 h).1]
  · rw [List.getElem?_set_ne (Ne.symm hj)]

/-- The second goes to the end. -/
theorem Sat.open2 (h : Sat w0 w l) {A B : Asn} {i : Nat} (hi : l[i]? = some (star2 A B)) : Sat w0 w (l.set i A ++ [B]) := by
  obtain ⟨hb, Fs, hl, hs, hd⟩ := h
  have hil : i < l.length := (List.getElem?_eq_some_iff.1 hi).1
  have hif : i < Fs.length := by omega
  have hFi : Fs[i]? = some Fs[i] := List.getElem?_eq_getElem hif
  obtain ⟨G, H, hA, hB, hGH, hF⟩ := hs i _ _ hi hFi
  refine ⟨hb, Fs.set i G ++ [H], by simp [hl], ?_, ?_⟩
  · intro j C K hC hK
    by_cases hj : j < l.length
    · rw [List.getElem?_append_left (by simpa using hj)] at hC
      rw [List.getElem?_append_left (by simp; omega)] at hK
      by_cases hji : j = i
      · subst hji
        simp [hil] at hC; simp [hif] at hK
        subst hC; subst hK; exact hA
      · rw [List.getElem?_set_ne (Ne.symm hji)] at hC hK
        exact hs j C K hC hK
    · rw [List.getElem?_append_right (by simp; omega)] at hC
      rw [List.getElem?_append_right (by simp; omega)] at hK
      have hj0 : j - l.length = 0 := by
        have := (List.getElem?_eq_some_iff.1 hC).1
        simp at this; omega
      simp [hl, hj0] at hC hK
      subst hC; subst hK; exact hB
  · have key : ∀ (j : Nat) (K : Nat → Prop), (Fs.set i G ++ [H])[j]? = some K → (j < Fs.length ∧ j ≠ i ∧ Fs[j]? = some K) ∨ (j = i ∧ K = G) ∨ (j = Fs.length ∧ K = H) := by
      intro j K hK
      by_cases hj : j < Fs.length
      · rw [List.getElem?_append_left (by simpa using hj)] at hK
        by_cases hji : j = i
        · subst hji; simp [hif] at hK; exact .inr (.inl ⟨rfl, hK.symm⟩)
        · rw [List.getElem?_set_ne (Ne.symm hji)] at hK; exact .inl ⟨hj, hji, hK⟩
      · rw [List.getElem?_append_right (by simp; omega)] at hK
        have hj0 : j - Fs.length = 0 := by
          have := (List.getElem?_eq_some_iff.1 hK).1
          simp at this; omega
        simp [hj0] at hK
        exact .inr (.inr ⟨by omega, hK.symm⟩)
    intro j j2 K K2 k hK hK2 hne hk hk2
    have sub : ∀ (K : Nat → Prop), K = G ∨ K = H → K k → Fs[i] k := by
      rintro K (rfl | rfl) hk
      · exact (hF k).2 (.inl hk)
      · exact (hF k).2 (.inr hk)
    rcases key j K hK with ⟨a1, a2, a3⟩ | ⟨rfl, rfl⟩ | ⟨rfl, rfl⟩ <;> rcases key j2 K2 hK2 with ⟨b1, b2, b3⟩ | ⟨rfl, rfl⟩ | ⟨rfl, rfl⟩
    · exact hd j j2 _ _ k a3 b3 hne hk hk2
    · exact hd j _ _ _ k a3 hFi a2 hk (sub _ (.inl rfl) hk2)
    · exact hd j i _ _ k a3 hFi a2 hk (sub _ (.inr rfl) hk2)
    · exact hd _ j2 _ _ k hFi b3 (Ne.symm b2) (sub _ (.inl rfl) hk) hk2
    · exact hne rfl
    · exact hGH k hk hk2
    · exact hd i j2 _ _ k hFi b3 (Ne.symm b2) (sub _ (.inr rfl) hk) hk2
    · exact hGH k hk2 hk
    · exact hne rfl
/-- And back: the last one comes to one that is there. -/
theorem Sat.shut2 {A B : Asn} (h : Sat w0 w (l ++ [B])) {i : Nat} (hi : l[i]? = some A) : Sat w0 w (l.set i (star2 A B)) := by
  obtain ⟨hb, Fs, hl, hs, hd⟩ := h
  simp at hl
  have hil : i < l.length := (List.getElem?_eq_some_iff.1 hi).1
  have hif : i < Fs.length := by omega
  have hFi : Fs[i]? = some Fs[i] := List.getElem?_eq_getElem hif
  have hlf : l.length < Fs.length := by omega
  have hFl : Fs[l.length]? = some Fs[l.length] := List.getElem?_eq_getElem hlf
  have hA := hs i A _ (by rw [List.getElem?_append_left hil]; exact hi) hFi
  have hB := hs l.length B _ (by simp) hFl
  have hAB : ∀ k, Fs[i] k → ¬ Fs[l.length] k := fun k => hd i l.length _ _ k hFi hFl (by omega)
  refine ⟨hb, (Fs.take l.length).set i (fun k => Fs[i] k ∨ Fs[l.length] k), by simp [hl], ?_, ?_⟩
  · intro j C K hC hK
    have hj : j < l.length := by have := (List.getElem?_eq_some_iff.1 hC).1; simpa using this
    by_cases hji : j = i
    · subst hji
      rw [List.getElem?_set_self (by simpa using hil)] at hC
      rw [List.getElem?_set_self (by simp; omega)] at hK
      cases hC; cases hK
      exact ⟨_, _, hA, hB, hAB, fun k => Iff.rfl⟩
    · rw [List.getElem?_set_ne (Ne.symm hji)] at hC hK
      rw [List.getElem?_take_of_lt hj] at hK
      exact hs j C K (by rw [List.getElem?_append_left hj]; exact hC) hK
  · have key : ∀ (j : Nat) (K : Nat → Prop), ((Fs.take l.length).set i (fun k => Fs[i] k ∨ Fs[l.length] k))[j]? = some K → (j < l.length ∧ j ≠ i ∧ Fs[j]? = some K) ∨ (j = i ∧ K = fun k => Fs[i] k ∨ Fs[l.length] k) := by
      intro j K hK
      have hj : j < l.length := by have := (List.getElem?_eq_some_iff.1 hK).1; simp at this; omega
      by_cases hji : j = i
      · subst hji
        rw [List.getElem?_set_self (by simp; omega)] at hK
        cases hK
        exact .inr ⟨rfl, rfl⟩
      · rw [List.getElem?_set_ne (Ne.symm hji), List.getElem?_take_of_lt hj] at hK
        exact .inl ⟨hj, hji, hK⟩
    intro j j2 K K2 k hK hK2 hne hk hk2
    rcases key j K hK with ⟨a1, a2, a3⟩ | ⟨rfl, rfl⟩ <;> rcases key j2 K2 hK2 with ⟨b1, b2, b3⟩ | ⟨rfl, rfl⟩
    · exact hd j j2 _ _ k a3 b3 hne hk hk2
    · rcases hk2 with hk2 | hk2
      · exact hd j _ _ _ k a3 hFi a2 hk hk2
      · exact hd j _ _ _ k a3 hFl (by omega) hk hk2
    · rcases hk with hk | hk
      · exact hd _ j2 _ _ k hFi b3 (Ne.symm b2) hk hk2
      · exact hd _ j2 _ _ k hFl b3 (by omega) hk hk2
    · exact hne rfl
theorem Sat.open_some (h : Sat w0 w l) {α : Type} {f : α → Asn} {i : Nat} (hi : l[i]? = some (some_ f)) : ∃ x, Sat w0 w (l.set i (f x)) := by
  obtain ⟨F, ⟨x, hx⟩, h1⟩ := h.step hi
  exact ⟨x, h1 w (f x) F hx ⟨Chg.refl _ _, fun k hk => .inl hk⟩⟩
theorem Sat.shut_some (h : Sat w0 w l) {α : Type} {f : α → Asn} {i : Nat} (x : α) (hi : l[i]? = some (f x)) : Sat w0 w (l.set i (some_ f)) :=
  h.turn hi fun F hF => ⟨F, ⟨x, hF⟩, fun _ h => h⟩
theorem Sat.open_when (h : Sat w0 w l) {p : Prop} {A : Asn} {i : Nat} (hi : l[i]? = some (when p A)) : p ∧ Sat w0 w (l.set i A) := by
  obtain ⟨F, ⟨hp, hx⟩, h1⟩ := h.step hi
  exact ⟨hp, h1 w A F hx ⟨Chg.refl _ _, fun k hk => .inl hk⟩⟩
theorem Sat.shut_when (h : Sat w0 w l) {p : Prop} (hp : p) {A : Asn} {i : Nat} (hi : l[i]? = some A) : Sat w0 w (l.set i (when p A)) :=
  h.turn hi fun F hF => ⟨F, ⟨hp, hF⟩, fun _ h => h⟩

/-- What lay there at w0, in blocks G. -/
def rest (w0 : World) (G : Nat → Prop) : Asn where
  sat F w := (∀ k, F k → G k) ∧ (∀ k, G k → k < w.heap.size ∧ (F k) ∧ w.heap[k]? = w0.heap[k]?)
  facts w := ∀ k, G k → w.heap[k]? = w0.heap[k]?
  stay := by
    rintro F w w' ⟨h1, h2⟩ hk
    refine ⟨h1, fun k hg => ?_⟩
    obtain ⟨a, b, c⟩ := h2 k hg
    have e := hk k b
    refine ⟨?_, b, e.trans c⟩
    by_cases hlt : k < w'.heap.size
    · exact hlt
    · rw [Array.getElem?_eq_none (Nat.le_of_not_lt hlt), Array.getElem?_eq_getElem a] at e; cases e
  lt := by rintro F w k ⟨h1, h2⟩ hk; exact (h2 k (h1 k hk)).1
  out := by rintro F w ⟨h1, h2⟩ k hk; exact (h2 k hk).2.2
theorem Sat.pushRest (w : World) : Sat w w [rest w (· < w.heap.size)] :=
  ⟨Below.refl _ _, [(· < w.heap.size)], rfl, fun i A F hA hF => by
    have hi : i = 0 := by have := (List.getElem?_eq_some_iff.1 hA).1; simp at this; omega
    subst hi
    simp at hA hF
    subst hA; subst hF
    exact ⟨fun _ h => h, fun k hk => ⟨hk, hk, rfl⟩⟩, fun i j F G k hF hG hne => by
    have := (List.getElem?_eq_some_iff.1 hF).1; have := (List.getElem?_eq_some_iff.1 hG).1; simp at *; omega⟩
theorem Sat.below (h : Sat w0 w l) {i : Nat} (hi : l[i]? = some (rest w0 (· < w0.heap.size))) : Below w0.heap.size w0 w :=
  ⟨h.1.os, h.1.tape, h.1.output, h.1.size, fun k hk => h.fact hi k hk⟩
/-- One thing, and all else as it was: the frame of a call. -/
theorem Sat.ofOne {A : Asn} {F : Nat → Prop} (hA : A.sat F w) : Sat w w [A, rest w (fun k => k < w.heap.size ∧ ¬ F k)] := by
  refine ⟨Below.refl _ _, [F, fun k => k < w.heap.size ∧ ¬ F k], rfl, ?_, ?_⟩
  · intro i B G hB hG
    match i, hB, hG with
    | 0, hB, hG => simp at hB hG; subst hB; subst hG; exact hA
    | 1, hB, hG => simp at hB hG; subst hB; subst hG; exact ⟨fun _ h => h, fun k hk => ⟨hk.1, hk, rfl⟩⟩
    | i + 2, hB, _ => simp at hB
  · intro i j G H k hG hH hne hk
    match i, j, hG, hH, hne with
    | 0, 0, _, _, hne => exact absurd rfl hne
    | 0, 1, hG, hH, _ => simp at hG hH; subst hG; subst hH; exact fun h => h.2 hk
    | 1, 0, hG, hH, _ => simp at hG hH; subst hG; subst hH; exact hk.2
    | 1, 1, _, _, hne => exact absurd rfl hne
    | i + 2, _, hG, _, _ => simp at hG
    | 0, j + 2, _, hH, _ => simp at hH
    | 1, j + 2, _, hH, _ => simp at hH
theorem Sat.toMoves {A : Asn} {F : Nat → Prop} {w' : World} {l : List Asn} (h : Sat w w' (A :: rest w (fun k => k < w.heap.size ∧ ¬ F k) :: l)) : ∃ F', A.sat F' w' ∧ Moves F F' w w' := by
  obtain ⟨h0, Fs, hl, hs, hd⟩ := h
  match Fs, hl, hs, hd with
  | F1 :: F2 :: Fs, _, hs, hd =>
    have hA := hs 0 _ _ rfl rfl
    obtain ⟨h1, h2⟩ := hs 1 _ _ rfl rfl
    refine ⟨F1, hA, ⟨h0.os, h0.tape, h0.output, h0.size, fun k hk hn => (h2 k ⟨hk, hn⟩).2.2⟩, fun k hk => ?_⟩
    by_cases hF : F k
    · exact .inl hF
    · right
      refine Nat.le_of_not_lt fun hlt => ?_
      exact hd 0 1 _ _ k rfl rfl (by omega) hk (h2 k ⟨hlt, hF⟩).2.1
end

/-- The facts of a block's cells. -/
def cellFacts (w : World) (b : Nat) : Nat → List Value → Prop
  | _, [] => True
  | i, v :: vs => w.cell? ⟨b, i, none⟩ = some v ∧ w.frozen? ⟨b, i, none⟩ = false ∧ cellFacts w b (i + 1) vs
theorem cellFacts_of {w : World} {b : Nat} {T : TypeId} : ∀ (cs pre : List Value), w.heap[b]? = some (.cells (pre ++ cs).toArray T (0, 0)) → cellFacts w b pre.length cs
  | [], _, _ => trivial
  | v :: vs, pre, h => by
    refine ⟨?_, ?_, ?_⟩
    · simp [World.cell?, h]
    · simp [World.frozen?, h]
    · have := cellFacts_of vs (pre ++ [v]) (by simpa using h)
      simpa using this

/-- A block of known cells. -/
def box (b : Nat) (T : TypeId) (cs : List Value) : Asn where
  sat F w := F = (· = b) ∧ w.heap[b]? = some (.cells cs.toArray T (0, 0))
  facts w := cellFacts w b 0 cs ∧ b < w.heap.size
  stay := by rintro F w w' ⟨rfl, h⟩ hk; exact ⟨rfl, (hk b rfl).trans h⟩
  lt := by rintro F w k ⟨rfl, h⟩ rfl; exact (Array.getElem?_eq_some_iff.1 h).1
  out := by rintro F w ⟨rfl, h⟩; exact ⟨cellFacts_of cs [] h, (Array.getElem?_eq_some_iff.1 h).1⟩

/-- A row of one's own. -/
def row (T : TypeId) (k : Nat) (v : Value) (n : Nat) (xs : List Value) : Asn where
  sat F w := F = (fun b => v.ownBlock = some b) ∧ w.ownsRow 0 T k v n xs
  facts _ := True
  stay := by rintro F w w' ⟨rfl, h⟩ hk; exact ⟨rfl, ownsRow_of_block h fun j hj => hk j hj⟩
  lt := by rintro F w j ⟨rfl, h⟩ hj; exact (h.lt j hj).2
  out := fun _ _ _ => trivial

section
variable {w0 w : World} {l : List Asn}
theorem Sat.rowOf (h : Sat w0 w l) {i : Nat} {T : TypeId} {k : Nat} {v : Value} {n : Nat} {xs : List Value} (hi : l[i]? = some (row T k v n xs)) : w.ownsRow 0 T k v n xs := by
  obtain ⟨F, _, h⟩ := h.get hi
  exact h
theorem Sat.boxOf (h : Sat w0 w l) {i : Nat} {b : Nat} {T : TypeId} {cs : List Value} (hi : l[i]? = some (box b T cs)) : w.heap[b]? = some (.cells cs.toArray T (0, 0)) := by
  obtain ⟨F, _, h⟩ := h.get hi
  exact h

/-- A store. -/
theorem Sat.set (h : Sat w0 w l) (i : Nat) {b : Nat} {T : TypeId} {cs : List Value} (hi : l[i]? = some (box b T cs)) (j : Nat) (v : Value) : Sat w0 (w.setCell ⟨b, j, none⟩ v) (l.set i (box b T (cs.set j v))) := by
  obtain ⟨F, ⟨rfl, hb⟩, h1⟩ := h.step hi
  refine h1 _ _ (· = b) ⟨rfl, ?_⟩ ⟨Chg.setCell (F := (· = b)) (Chg.refl _ _) (.inl rfl) _, fun _ h => .inl h⟩
  simp [World.setCell, Array.getElem?_modify, hb]
/-- A new block. -/
theorem Sat.alloc (h : Sat w0 w l) (cs : Array Value) (T : TypeId) : Sat w0 (w.alloc (.cells cs T)) (l ++ [box w.heap.size T cs.toList]) :=
  h.push (F := (· = w.heap.size)) ⟨rfl, by simpa using heap_alloc_new w (.cells cs T)⟩ (fun k hk => by cases hk; exact Nat.le_refl _) ((Below.refl _ _).alloc (Nat.le_refl _) _)
/-- Any new block. -/
theorem Sat.allocAny (h : Sat w0 w l) (o : Obj) : Sat w0 (w.alloc o) l := h.grow ((Below.refl _ _).alloc (Nat.le_refl _) _)
/-- An empty row. -/
theorem Sat.nilRow (h : Sat w0 w l) (T : TypeId) (k : Nat) : Sat w0 w (l ++ [row T k (.slice none 0 0) 0 []]) :=
  h.push (F := fun b => (Value.slice none 0 0).ownBlock = some b) ⟨rfl, World.ownsRow_nil _ _ _ _⟩ (fun k hk => by cases hk) (Below.refl _ _)
/-- A row grows. -/
theorem Sat.grown (h : Sat w0 w l) (i : Nat) {T : TypeId} {k : Nat} {v v' : Value} {n n' : Nat} {xs xs' : List Value} (hi : l[i]? = some (row T k v n xs)) {w' : World}
    (hr : w'.ownsRow 0 T k v' n' xs') (hg : w.grownBy w' v.ownBlock) (hat : v'.ownBlock = v.ownBlock ∨ v'.ownBlock = some w.heap.size) : Sat w0 w' (l.set i (row T k v' n' xs')) := by
  obtain ⟨F, ⟨rfl, _⟩, h1⟩ := h.step hi
  refine h1 _ _ (fun b => v'.ownBlock = some b) ⟨rfl, hr⟩ ⟨(Chg.refl _ _).grown hg fun b hb => .inl hb, fun b hb => ?_⟩
  rcases hat with e | e
  · exact .inl (e.symm.trans hb)
  · rw [e] at hb; injection hb with hb; exact .inr (by omega)
/-- A new row. -/
theorem Sat.pushRow (h : Sat w0 w l) {T : TypeId} {k : Nat} {v : Value} {n : Nat} {xs : List Value} {w' : World} (hr : w'.ownsRow w.heap.size T k v n xs) (hb : Below w.heap.size w w') : Sat w0 w' (l ++ [row T k v n xs]) := by
  refine h.push (F := fun b => v.ownBlock = some b) ⟨rfl, ?_⟩ (fun b hb => (hr.lt b hb).1) hb
  refine ⟨hr.1, ?_⟩
  rcases hr.2 with h1 | ⟨g, cap, cur, h1, h2, h3⟩
  · exact .inl h1
  · exact .inr ⟨g, cap, cur, h1, Nat.zero_le _, h3⟩
/-- A store into a row. -/
theorem Sat.setRow (h : Sat w0 w l) (i : Nat) {T : TypeId} {k : Nat} {g n c : Nat} {xs : List Value} (hi : l[i]? = some (row T k (.slice (some ⟨g, 0, none⟩) n c) n xs)) (j : Nat) (hj : j < xs.length) (u : Value) :
    Sat w0 (w.setCell ⟨g, j, none⟩ u) (l.set i (row T k (.slice (some ⟨g, 0, none⟩) n c) n (xs.set j u))) := by
  obtain ⟨F, ⟨rfl, hr⟩, h1⟩ := h.step hi
  refine h1 _ _ _ ⟨rfl, ?_⟩ ⟨Chg.setCell (F := fun b => (Value.slice (some ⟨g, 0, none⟩) n c).ownBlock = some b) (Chg.refl _ _) (.inl rfl) _, fun _ h => .inl h⟩
  refine ⟨by simpa using hr.1, ?_⟩
  rcases hr.2 with ⟨h2, _⟩ | ⟨g', cap, cur, h2, _, h3, h4, h5, h6, h7⟩
  · cases h2
  · injection h2 with ha hn hc
    injection ha with ha
    injection ha with hg
    subst hg; subst hc
    refine .inr ⟨g, c, cur.setIfInBounds j u, rfl, Nat.zero_le _, ?_, h4, h5, by simpa using h6, ?_⟩
    · simp [World.setCell, Array.getElem?_modify, h3]
    · rw [Array.toList_setIfInBounds, List.take_set, h7]
end

/-- All facts, one by one. -/
def allFacts (w : World) : List Asn → Prop
  | [] => True
  | A :: l => A.facts w ∧ allFacts w l
theorem Sat.all {w0 w : World} {l : List Asn} (h : Sat w0 w l) : allFacts w l := by
  have key : ∀ m : List Asn, (∀ A ∈ m, A.facts w) → allFacts w m := by
    intro m
    induction m with
    | nil => intro _; trivial
    | cons A m ih => intro h; exact ⟨h A (by simp), ih fun B hB => h B (by simp [hB])⟩
  exact key l h.facts
theorem box_facts {w : World} {b : Nat} {T : TypeId} {cs : List Value} : (box b T cs).facts w = (cellFacts w b 0 cs ∧ b < w.heap.size) := rfl
theorem row_facts {w : World} {T : TypeId} {k : Nat} {v : Value} {n : Nat} {xs : List Value} : (row T k v n xs).facts w = True := rfl
theorem emp_facts {w : World} : emp.facts w = True := rfl

/-- One of them, what it doesn't meet, and how it may turn. -/
theorem Sat.apart {w0 w : World} {l : List Asn} (h : Sat w0 w l) {A : Asn} {i : Nat} (hi : l[i]? = some A) : ∃ F, A.sat F w ∧ (∀ (j : Nat) (B : Asn) (k : Nat), j ≠ i → l[j]? = some B → (∀ G, B.sat G w → G k) → ¬ F k) ∧
    ∀ (w' : World) (A' : Asn) (F' : Nat → Prop), A'.sat F' w' → Moves F F' w w' → Sat w0 w' (l.set i A') := by
  obtain ⟨hb, Fs, hl, hs, hd⟩ := id h
  have hil : i < l.length := (List.getElem?_eq_some_iff.1 hi).1
  have hif : i < Fs.length := by omega
  have hFi : Fs[i]? = some Fs[i] := List.getElem?_eq_getElem hif
  refine ⟨Fs[i], hs i A _ hi hFi, fun j B k hj hB hG => ?_, fun w' A' F' hA' hM => ?_⟩
  · have hjl : j < l.length := (List.getElem?_eq_some_iff.1 hB).1
    have hFj : Fs[j]? = some (Fs[j]'(by omega)) := List.getElem?_eq_getElem (by omega)
    exact hd j i _ _ k hFj hFi hj (hG _ (hs j B _ hB hFj))
  · -- as in step, over these footprints
    refine ⟨⟨hM.chg.os.trans hb.os, hM.chg.tape.trans hb.tape, hM.chg.output.trans hb.output, Nat.le_trans hb.size hM.chg.size, fun k hk => absurd hk (Nat.not_lt_zero k)⟩, Fs.set i F', by simp [hl], ?_, ?_⟩
    · intro j B G hB hG
      by_cases hji : j = i
      · subst hji
        simp [hil] at hB
        simp [hif] at hG
        subst hB; subst hG
        exact hA'
      · rw [List.getElem?_set_ne (Ne.symm hji)] at hB hG
        have hBs := hs j B G hB hG
        refine B.stay G w w' hBs fun k hk => ?_
        exact hM.chg.block k (B.lt G w k hBs hk) fun hf => hd i j _ _ k hFi hG (Ne.symm hji) hf hk
    · have key : ∀ (j : Nat) (G : Nat → Prop) (k : Nat), j ≠ i → (Fs.set i F')[j]? = some G → G k → F' k → False := by
        intro j G k hji hG hk hf
        rw [List.getElem?_set_ne (Ne.symm hji)] at hG
        have hj : j < l.length := by rw [← hl]; exact (List.getElem?_eq_some_iff.1 hG).1
        rcases hM.foot k hf with h1 | h1
        · exact hd j i _ _ k hG hFi hji hk h1
        · have := (l[j]).lt G w k (hs j _ _ (List.getElem?_eq_getElem hj) hG) hk
          omega
      intro j j2 G G2 k hG hG2 hne hk hk2
      by_cases hji : j = i
      · subst hji
        have e : G = F' := by rw [List.getElem?_set_self hif] at hG; exact (Option.some.inj hG).symm
        subst e
        exact key j2 G2 k (Ne.symm hne) hG2 hk2 hk
      · by_cases hj2 : j2 = i
        · subst hj2
          have e : G2 = F' := by rw [List.getElem?_set_self hif] at hG2; exact (Option.some.inj hG2).symm
          subst e
          exact key j G k hji hG hk hk2
        · rw [List.getElem?_set_ne (Ne.symm hji)] at hG
          rw [List.getElem?_set_ne (Ne.symm hj2)] at hG2
          exact hd j j2 _ _ k hG hG2 hne hk hk2

/-- A call that turns one thing. -/
theorem Sat.call1 {w0 w : World} {l : List Asn} (h : Sat w0 w l) {i : Nat} {A A' : Asn} (hi : l[i]? = some A) {P : Program} {f : FuncId} {args : Array Value} {Q : Ending → Prop}
    (hc : ∀ F, A.sat F w → (∀ (j : Nat) (B : Asn) (k : Nat), j ≠ i → l[j]? = some B → (∀ G, B.sat G w → G k) → ¬ F k) → Calls P f args w fun e w' => Q e ∧ ∃ F', A'.sat F' w' ∧ Moves F F' w w') : Calls P f args w fun e w' => Q e ∧ Sat w0 w' (l.set i A') := by
  obtain ⟨F, hF, ha, h1⟩ := h.apart hi
  refine (hc F hF ha).mono ?_
  rintro e w' ⟨hq, F', hA', hM⟩
  exact ⟨hq, h1 w' A' F' hA' hM⟩

theorem set2_at {α : Type} {l : List α} {i j : Nat} {a b : α} (hij : i ≠ j) (hi : i < l.length) (hj : j < l.length) (k : Nat) : ((l.set i a).set j b)[k]? = if k = j then some b else if k = i then some a else l[k]? := by
  by_cases h1 : k = j
  · subst h1; rw [if_pos rfl, List.getElem?_set_self (by simpa using hj)]
  · rw [if_neg h1, List.getElem?_set_ne (Ne.symm h1)]
    by_cases h2 : k = i
    · subst h2; rw [if_pos rfl, List.getElem?_set_self hi]
    · rw [if_neg h2, List.getElem?_set_ne (Ne.symm h2)]

/-- Two, as one: at the first one's place. -/
theorem Sat.join {w0 w : World} {l : List Asn} (h : Sat w0 w l) {A B : Asn} {i j : Nat} (hi : l[i]? = some A) (hj : l[j]? = some B) (hij : i ≠ j) : Sat w0 w ((l.set i (star2 A B)).set j emp) := by
  obtain ⟨hb, Fs, hl, hs, hd⟩ := h
  have hil : i < l.length := (List.getElem?_eq_some_iff.1 hi).1
  have hjl : j < l.length := (List.getElem?_eq_some_iff.1 hj).1
  have hif : i < Fs.length := by omega
  have hjf : j < Fs.length := by omega
  have hFi : Fs[i]? = some Fs[i] := List.getElem?_eq_getElem hif
  have hFj : Fs[j]? = some Fs[j] := List.getElem?_eq_getElem hjf
  refine ⟨hb, (Fs.set i (fun k => Fs[i] k ∨ Fs[j] k)).set j (fun _ => False), by simp [hl], ?_, ?_⟩
  · intro a C K hC hK
    rw [set2_at hij hil hjl] at hC
    rw [set2_at hij hif hjf] at hK
    by_cases h1 : a = j
    · rw [if_pos h1] at hC hK; cases hC; cases hK; exact fun k hk => hk
    · rw [if_neg h1] at hC hK
      by_cases h2 : a = i
      · rw [if_pos h2] at hC hK; cases hC; cases hK
        exact ⟨_, _, hs i A _ hi hFi, hs j B _ hj hFj, fun k => hd i j _ _ k hFi hFj hij, fun k => Iff.rfl⟩
      · rw [if_neg h2] at hC hK; exact hs a C K hC hK
  · have key : ∀ (a : Nat) (K : Nat → Prop) (k : Nat), ((Fs.set i (fun k => Fs[i] k ∨ Fs[j] k)).set j (fun _ => False))[a]? = some K → K k → (a = i ∧ (Fs[i] k ∨ Fs[j] k)) ∨ (a ≠ i ∧ a ≠ j ∧ Fs[a]? = some K) := by
      intro a K k hK hk
      rw [set2_at hij hif hjf] at hK
      by_cases h1 : a = j
      · rw [if_pos h1] at hK; cases hK; exact hk.elim
      · rw [if_neg h1] at hK
        by_cases h2 : a = i
        · rw [if_pos h2] at hK; cases hK; exact .inl ⟨h2, hk⟩
        · rw [if_neg h2] at hK; exact .inr ⟨h2, h1, hK⟩
    intro a b K K2 k hK hK2 hne hk hk2
    rcases key a K k hK hk with ⟨rfl, h1⟩ | ⟨h1, h2, h3⟩ <;> rcases key b K2 k hK2 hk2 with ⟨rfl, g1⟩ | ⟨g1, g2, g3⟩
    · exact hne rfl
    · rcases h1 with h1 | h1
      · exact hd _ b _ _ k hFi g3 (Ne.symm g1) h1 hk2
      · exact hd _ b _ _ k hFj g3 (Ne.symm g2) h1 hk2
    · rcases g1 with g1 | g1
      · exact hd _ a _ _ k hFi h3 (Ne.symm h1) g1 hk
      · exact hd _ a _ _ k hFj h3 (Ne.symm h2) g1 hk
    · exact hd a b _ _ k h3 g3 hne hk hk2
theorem Sat.part {w0 w : World} {l : List Asn} (h : Sat w0 w l) {A B C : Asn} {i j : Nat} (hi : l[i]? = some (star2 A B)) (hj : l[j]? = some C) (hij : i ≠ j) : Sat w0 w ((l.set i A).set j B) := by
  obtain ⟨hb, Fs, hl, hs, hd⟩ := h
  have hil : i < l.length := (List.getElem?_eq_some_iff.1 hi).1
  have hjl : j < l.length := (List.getElem?_eq_some_iff.1 hj).1
  have hif : i < Fs.length := by omega
  have hjf : j < Fs.length := by omega
  have hFi : Fs[i]? = some Fs[i] := List.getElem?_eq_getElem hif
  obtain ⟨G, H, hA, hB, hGH, hF⟩ := hs i _ _ hi hFi
  refine ⟨hb, (Fs.set i G).set j H, by simp [hl], ?_, ?_⟩
  · intro a D K hD hK
    rw [set2_at hij hil hjl] at hD
    rw [set2_at hij hif hjf] at hK
    by_cases h1 : a = j
    · rw [if_pos h1] at hD hK; cases hD; cases hK; exact hB
    · rw [if_neg h1] at hD hK
      by_cases h2 : a = i
      · rw [if_pos h2] at hD hK; cases hD; cases hK; exact hA
      · rw [if_neg h2] at hD hK; exact hs a D K hD hK
  · have key : ∀ (a : Nat) (K : Nat → Prop), ((Fs.set i G).set j H)[a]? = some K → (a = j ∧ K = H) ∨ (a = i ∧ K = G) ∨ (a ≠ i ∧ a ≠ j ∧ Fs[a]? = some K) := by
      intro a K hK
      rw [set2_at hij hif hjf] at hK
      by_cases h1 : a = j
      · rw [if_pos h1] at hK; cases hK; exact .inl ⟨h1, rfl⟩
      · rw [if_neg h1] at hK
        by_cases h2 : a = i
        · rw [if_pos h2] at hK; cases hK; exact .inr (.inl ⟨h2, rfl⟩)
        · rw [if_neg h2] at hK; exact .inr (.inr ⟨h2, h1, hK⟩)
    intro a b K K2 k hK hK2 hne hk hk2
    rcases key a K hK with ⟨rfl, rfl⟩ | ⟨rfl, rfl⟩ | ⟨h1, h2, h3⟩ <;> rcases key b K2 hK2 with ⟨rfl, rfl⟩ | ⟨rfl, rfl⟩ | ⟨g1, g2, g3⟩
    · exact hne rfl
    · exact hGH k hk2 hk
    · exact hd _ b _ _ k hFi g3 (Ne.symm g1) ((hF k).2 (.inr hk)) hk2
    · exact hGH k hk hk2
    · exact hne rfl
    · exact hd _ b _ _ k hFi g3 (Ne.symm g1) ((hF k).2 (.inl hk)) hk2
    · exact hd _ a _ _ k hFi h3 (Ne.symm h1) ((hF k).2 (.inr hk2)) hk
    · exact hd _ a _ _ k hFi h3 (Ne.symm h1) ((hF k).2 (.inl hk2)) hk
    · exact hd a b _ _ k h3 g3 hne hk hk2

/-- A call that turns two things. -/
theorem Sat.call2 {w0 w : World} {l : List Asn} (h : Sat w0 w l) {i j : Nat} {A B A' B' : Asn} (hi : l[i]? = some A) (hj : l[j]? = some B) (hij : i ≠ j) {P : Program} {f : FuncId} {args : Array Value} {Q : Ending → Prop}
    (hc : ∀ F, (star2 A B).sat F w → (∀ (a : Nat) (C : Asn) (k : Nat), a ≠ i → a ≠ j → l[a]? = some C → (∀ G, C.sat G w → G k) → ¬ F k) → Calls P f args w fun e w' => Q e ∧ ∃ F', (star2 A' B').sat F' w' ∧ Moves F F' w w') :
    Calls P f args w fun e w' => Q e ∧ Sat w0 w' ((l.set i A').set j B') := by
  have hil : i < l.length := (List.getElem?_eq_some_iff.1 hi).1
  have hjl : j < l.length := (List.getElem?_eq_some_iff.1 hj).1
  have h1 := h.join hi hj hij
  refine (h1.call1 (i := i) (A := star2 A B) (A' := star2 A' B') (Q := Q) (by rw [set2_at hij hil hjl, if_neg hij, if_pos rfl]) fun F hF ha => hc F hF fun a C k h2 h3 hC => ha a C k h2 (by rw [set2_at hij hil hjl, if_neg h3, if_neg h2]; exact hC)).mono ?_
  rintro e w' ⟨hq, hS⟩
  refine ⟨hq, ?_⟩
  have hz : ((l.set i (star2 A B)).set j emp).set i (star2 A' B') = (l.set i (star2 A' B')).set j emp := by
    apply List.ext_getElem?
    intro k
    rw [set2_at hij hil hjl]
    by_cases h2 : k = i
    · subst h2; rw [List.getElem?_set_self (by simpa using hil), if_neg hij, if_pos rfl]
    · rw [List.getElem?_set_ne (Ne.symm h2), set2_at hij hil hjl]; simp only [if_neg h2]
  rw [hz] at hS
  have h4 := hS.part (i := i) (j := j) (A := A') (B := B') (by rw [set2_at hij hil hjl, if_neg hij, if_pos rfl]) (C := emp) (by rw [set2_at hij hil hjl, if_pos rfl]) hij
  have hz2 : (((l.set i (star2 A' B')).set j emp).set i A').set j B' = (l.set i A').set j B' := by
    apply List.ext_getElem?
    intro k
    rw [set2_at hij hil hjl, set2_at hij (by simpa using hil) (by simpa using hjl), set2_at hij hil hjl]
    by_cases h1 : k = j
    · simp [h1]
    · simp only [if_neg h1]
      by_cases h2 : k = i
      · simp [h2]
      · simp only [if_neg h2]
  rw [hz2] at h4
  exact h4

/-- What lies in blocks G reads as before. -/
theorem src_rest {w0 w1 w : World} {l : List Asn} (h : Sat w0 w l) {i : Nat} {G : Nat → Prop} (hi : l[i]? = some (rest w1 G)) {A : Option Addr} {news : List Value} (hs : SrcOf w1 A news) (hA : ∀ ad, A = some ad → news ≠ [] → G ad.block) : SrcOf w A news := by
  intro ad had j u hj
  have h1 := hs ad had j u hj
  rw [← h1]
  have hb : (ad.add j).block = ad.block := by unfold Addr.add; split <;> rfl
  refine World.cell?_of_block ?_
  rw [hb]
  exact h.fact hi _ (hA ad had (by rintro rfl; simp at hj))
theorem src_lt {w : World} {A : Option Addr} {news : List Value} (hs : SrcOf w A news) : ∀ ad, A = some ad → news ≠ [] → ad.block < w.heap.size := by
  intro ad had hne
  match news, hne with
  | u :: us, _ =>
    have h1 := hs ad had 0 u rfl
    have hb : (ad.add 0).block = ad.block := by unfold Addr.add; split <;> rfl
    rw [← hb]
    exact World.block_lt_of_cell? w _ h1
theorem src_row {w : World} {B : Nat} {e : TypeId} {k : Nat} {A : Option Addr} {n c : Nat} {xs : List Value} (h : w.ownsRow B e k (.slice A n c) n xs) : SrcOf w A xs := by
  rintro ad rfl j u hj
  rcases h.2 with ⟨h1, _⟩ | ⟨g, cap, cur, h1, _⟩
  · cases h1
  · injection h1 with h1
    injection h1 with h1
    subst h1
    exact h.cells (g := g) rfl j u hj
theorem row_slice {w : World} {B : Nat} {e : TypeId} {k : Nat} {v : Value} {n : Nat} {xs : List Value} (h : w.ownsRow B e k v n xs) : ∃ A c, v = .slice A n c ∧ (A = none → n = 0 ∧ c = 0) := by
  rcases h.2 with ⟨h1, h2⟩ | ⟨g, cap, cur, h1, _⟩
  · subst h2; exact ⟨none, 0, h1, fun _ => ⟨rfl, rfl⟩⟩
  · exact ⟨some ⟨g, 0, none⟩, cap, h1, fun h => by cases h⟩
theorem row_none {w : World} {B : Nat} {e : TypeId} {k : Nat} {A : Option Addr} {n c : Nat} {xs : List Value} (h : w.ownsRow B e k (.slice A n c) n xs) : A = none → n = 0 ∧ c = 0 := by
  rintro rfl
  rcases h.2 with ⟨h1, h2⟩ | ⟨g, cap, cur, h1, _⟩
  · injection h1 with _ h3 h4; exact ⟨h3, h4⟩
  · cases h1

section
variable {P : Program} {w0 w : World} {l : List Asn}
/-- A row made of known cells. -/
theorem Sat.made (h : Sat w0 w l) (cs : Array Value) (T : TypeId) (k n c : Nat) (hc : cs.size = c * k) (hn : n ≤ c) (hm : c ≤ maxLen) : Sat w0 (w.alloc (.cells cs T)) (l ++ [row T k (.slice (some ⟨w.heap.size, 0, none⟩) n c) n (cs.toList.take (n * k))]) := by
  refine h.pushRow (T := T) (k := k) ?_ ((Below.refl _ _).alloc (Nat.le_refl _) _)
  refine ⟨?_, .inr ⟨w.heap.size, c, cs, rfl, Nat.le_refl _, heap_alloc_new w _, hn, hm, hc, rfl⟩⟩
  simp [hc, Nat.min_eq_left (Nat.mul_le_mul_right k hn)]
/-- append to a row that is one of them. -/
theorem wp_append_sat {o : Oper} {a : Act} {K : Act → World → Prop} {Q : Exit → Act → World → Prop} (s x : Operand) (t : TypeId)
    (ho : o.op = .call { callee := .builtin .append, args := #[s, x], argTypes := #[t, t] }) (hS : Sat w0 w l) (i : Nat)
    (e : TypeId) (z : Value) (size bytes : Nat) (ht : P.underlying t = some (.slice e)) (hinfo : (P.info? e).map (fun i => (i.zero, i.size, i.bytes)) = some (some z, size, bytes)) (hzs : z.cells.size = size) (hsz : 0 < size)
    (v : Value) (n : Nat) (xs : List Value) (hs : a.eval s = v) (hi : l[i]? = some (row e size v n xs))
    (A : Option Addr) (m c : Nat) (news : List Value) (hx : a.eval x = .slice A m c) (hA : A = none → m = 0 ∧ c = 0) (hl : news.length = m * size) (hnews : SrcOf w A news) (h1 : ∀ u ∈ news, u.oneCell' = true)
    (h63 : n + m ≤ maxLen) (hbytes : (n + m) * bytes ≤ 140737488355328)
    (h : ∀ A' c' w', Sat w0 w' (l.set i (row e size (.slice A' (n + m) c') (n + m) (xs ++ news))) → (A' = none → n + m = 0 ∧ c' = 0) → w.grownBy w' v.ownBlock → K (a.put o.dst (.slice A' (n + m) c')) w') : o.wp P a w K Q := by
  refine wp_append_row s x t ho 0 e z size bytes ht hinfo hzs hsz v n xs hs (hS.rowOf hi) A m c news hx hA hl hnews h1 h63 hbytes (Nat.zero_le _) ?_
  intro v' w' h2 h3 h4
  have h5 := hS.grown i hi h2 h3 h4
  obtain ⟨A', c', rfl, h6⟩ := row_slice h2
  exact h A' c' w' h5 h6 h3
theorem wpList_append_sat {ops : Array Oper} {rest : List Oper} {o : Oper} {a : Act} {Q : Exit → Act → World → Prop} (hgd : o.guard = none) (s x : Operand) (t : TypeId)
    (ho : o.op = .call { callee := .builtin .append, args := #[s, x], argTypes := #[t, t] }) (hS : Sat w0 w l) (i : Nat)
    (e : TypeId) (z : Value) (size bytes : Nat) (ht : P.underlying t = some (.slice e)) (hinfo : (P.info? e).map (fun i => (i.zero, i.size, i.bytes)) = some (some z, size, bytes)) (hzs : z.cells.size = size) (hsz : 0 < size)
    (v : Value) (n : Nat) (xs : List Value) (hs : a.eval s = v) (hi : l[i]? = some (row e size v n xs))
    (A : Option Addr) (m c : Nat) (news : List Value) (hx : a.eval x = .slice A m c) (hA : A = none → m = 0 ∧ c = 0) (hl : news.length = m * size) (hnews : SrcOf w A news) (h1 : ∀ u ∈ news, u.oneCell' = true)
    (h63 : n + m ≤ maxLen) (hbytes : (n + m) * bytes ≤ 140737488355328)
    (h : ∀ A' c' w', Sat w0 w' (l.set i (row e size (.slice A' (n + m) c') (n + m) (xs ++ news))) → (A' = none → n + m = 0 ∧ c' = 0) → w.grownBy w' v.ownBlock → wpList P ops Q rest (a.put o.dst (.slice A' (n + m) c')) w') : wpList P ops Q (o :: rest) a w :=
  wpList_plain hgd fun _ hK => wp_append_sat s x t ho hS i e z size bytes ht hinfo hzs hsz v n xs hs hi A m c news hx hA hl hnews h1 h63 hbytes fun A' c' w' h2 h3 h4 => hK _ _ (h A' c' w' h2 h3 h4)
end
/-- Cells of old blocks read as before. -/
theorem oldCells {w0 w1 w : World} {l : List Asn} (h : Sat w0 w l) {i : Nat} {G : Nat → Prop} (hi : l[i]? = some (rest w1 G)) {b : Nat} (hG : G b) : ∀ {cs : List Value} {j : Nat}, cellFacts w1 b j cs → cellFacts w b j cs
  | [], _, _ => trivial
  | _ :: _, _, ⟨h1, h2, h3⟩ => ⟨(World.cell?_of_block (a := ⟨b, _, none⟩) (h.fact hi b hG)).trans h1, (World.frozen?_of_block (a := ⟨b, _, none⟩) (h.fact hi b hG)).trans h2, oldCells h hi hG h3⟩
theorem oldLt {w0 w1 w : World} {l : List Asn} (h : Sat w0 w l) {i : Nat} {G : Nat → Prop} (hi : l[i]? = some (rest w1 G)) {b : Nat} (hG : G b) : b < w.heap.size := by
  obtain ⟨F, _, h2⟩ := h.get hi
  exact (h2 b hG).1
theorem rowOwn {w0 w : World} {l : List Asn} (h : Sat w0 w l) {i : Nat} {T : TypeId} {k : Nat} {v : Value} {n : Nat} {xs : List Value} (hi : l[i]? = some (row T k v n xs)) {j : Nat} (hj : l[j]? = some (rest w0 (· < w0.heap.size))) (hij : i ≠ j) : w.ownsRow w0.heap.size T k v n xs := by
  obtain ⟨F, hF, ha, _⟩ := h.apart hi
  have hr := hF.2
  refine ⟨hr.1, ?_⟩
  rcases hr.2 with h1 | ⟨g, cap, cur, h1, _, h3⟩
  · exact .inl h1
  · refine .inr ⟨g, cap, cur, h1, ?_, h3⟩
    refine Nat.le_of_not_lt fun hlt => ?_
    refine ha j _ g (fun e => hij e.symm) hj (fun G hG => (hG.2 g hlt).2.1) ?_
    rw [hF.1, h1]; rfl
theorem box_src {w0 w : World} {l : List Asn} (h : Sat w0 w l) {i : Nat} {b : Nat} {T : TypeId} {cs : List Value} (hi : l[i]? = some (box b T cs)) : SrcOf w (some ⟨b, 0, none⟩) cs := by
  intro ad had j u hj
  cases had
  have hb := h.boxOf hi
  have e : (⟨b, 0, none⟩ : Addr).add j = ⟨b, j, none⟩ := by unfold Addr.add; split <;> simp_all
  rw [e]
  simp [World.cell?, hb, hj]
/-- An element of a row of one-cell elements. -/
theorem row_at {w : World} {B : Nat} {T : TypeId} {A : Option Addr} {n c : Nat} {xs : List Value} (h : w.ownsRow B T 1 (.slice A n c) n xs) {j : Nat} (hj : j < n) : ∃ g, A = some ⟨g, 0, none⟩ ∧ (∀ u, xs[j]? = some u → w.cell? ⟨g, j, none⟩ = some u) ∧
    w.frozen? ⟨g, j, none⟩ = false ∧ g < w.heap.size := by
  rcases h.2 with ⟨h1, h2⟩ | ⟨g, cap, cur, h1, h2, h3, h4, h5, h6, h7⟩
  · omega
  · injection h1 with h1
    subst h1
    refine ⟨g, rfl, fun u hu => ?_, by simp [World.frozen?, h3], (Array.getElem?_eq_some_iff.1 h3).1⟩
    have := h.cells (g := g) rfl j u hu
    have e : (⟨g, 0, none⟩ : Addr).add j = ⟨g, j, none⟩ := by unfold Addr.add; split <;> simp_all
    rwa [e] at this
/-- A source, written out. -/
theorem src_plain {W : World} {A : Option Addr} {cells : List Value} (hs : SrcOf W A cells) (hA : A = none → cells = []) (hne : cells ≠ []) : ∃ b off, A = some ⟨b, off, none⟩ ∧ b < W.heap.size ∧ ∀ (j : Nat) (u : Value), cells[j]? = some u → W.cell? ⟨b, off + j, none⟩ = some u := by
  cases A with
  | none => exact absurd (hA rfl) hne
  | some ad =>
    obtain ⟨b, off, s⟩ := ad
    have h0 := src_lt hs _ rfl hne
    have hsp : s = none := by
      match cells, hne with
      | u :: us, _ =>
        have h1 := hs _ rfl 0 u rfl
        have := World.cell?_spot h1
        unfold Addr.add at this
        split at this <;> simp_all
    subst hsp
    refine ⟨b, off, rfl, h0, fun j u hj => ?_⟩
    have h1 := hs _ rfl j u hj
    have e : (⟨b, off, none⟩ : Addr).add j = ⟨b, off + j, none⟩ := by unfold Addr.add; split <;> simp_all
    rwa [e] at h1
theorem cells_at {cells cs : List Value} {i k : Nat} (h : (cells.drop (i * k)).take k = cs) {j : Nat} {u : Value} (hj : cs[j]? = some u) : cells[i * k + j]? = some u := by
  have hjk : j < k := by
    have h1 := (List.getElem?_eq_some_iff.1 hj).1
    rw [← h] at h1
    simp at h1; omega
  rw [← h, List.getElem?_take_of_lt hjk, List.getElem?_drop] at hj
  exact hj
/-- Words that read as xs. -/
def words (xs : List Int) : List Value := xs.map (Value.int .u64)
structure Words (w : World) (A : Option Addr) (c : Nat) (xs : List Int) : Prop where
  none_ : A = none → xs.length = 0 ∧ c = 0
  src : SrcOf w A (words xs)
  u : ∀ a ∈ xs, 0 ≤ a ∧ a < 18446744073709551616
  len : xs.length * 8 ≤ 140737488355328
theorem Words.at {w : World} {A : Option Addr} {c : Nat} {xs : List Int} (h : Words w A c xs) {k : Nat} (hk : k < xs.length) : ∃ b off, A = some ⟨b, off, none⟩ ∧ b < w.heap.size ∧ w.cell? ⟨b, off + k, none⟩ = some (.int .u64 (xs.getD k 0)) ∧ 0 ≤ xs.getD k 0 ∧ xs.getD k 0 < 18446744073709551616 := by
  have hg : xs[k]? = some (xs.getD k 0) := by simp [hk]
  obtain ⟨b, off, h1, h2, h3⟩ := src_plain h.src (fun hA => by have := (h.none_ hA).1; simp [words, List.eq_nil_of_length_eq_zero this]) (by intro e; simp [words] at e; subst e; simp at hk)
  have hu := h.u _ (List.mem_of_getElem? hg)
  exact ⟨b, off, h1, h2, h3 k _ (by simp [words, hk]), hu.1, hu.2⟩
theorem Words.mono {w w' : World} {A : Option Addr} {c : Nat} {xs : List Int} (h : Words w A c xs) (hs : SrcOf w' A (words xs)) : Words w' A c xs := ⟨h.none_, hs, h.u, h.len⟩
theorem take_snoc' {xs : List Int} {k : Nat} (hk : k < xs.length) : xs.take (k + 1) = xs.take k ++ [xs.getD k 0] := by
  rw [List.take_add_one]; simp [hk]
theorem row_ne_box {w0 w : World} {l : List Asn} (h : Sat w0 w l) {i j : Nat} {b : Nat} {T : TypeId} {cs : List Value} (hi : l[i]? = some (box b T cs)) {T' : TypeId} {k g n c : Nat} {xs : List Value} (hj : l[j]? = some (row T' k (.slice (some ⟨g, 0, none⟩) n c) n xs)) (hij : i ≠ j) : g ≠ b ∧ b ≠ g := by
  obtain ⟨F, hF, ha, _⟩ := h.apart hj
  have h1 := ha i _ b hij hi (fun G hG => by rw [hG.1])
  rw [hF.1] at h1
  refine ⟨fun e => h1 (by rw [e]; rfl), fun e => h1 (by rw [e]; rfl)⟩
end Go.Proofs.Ytonjibjghijacaa
