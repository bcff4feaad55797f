/- Lists of records in memory: each of k cells. Plain: over any program. -/
import Derived.Test.YtcfpbemoocegfaaSat
namespace Go.Proofs.Ytcfpbemoocegfaa
set_option linter.unusedVariables false
set_option linter.unusedSimpArgs false
set_option linter.unnecessarySimpa false
open Go Go.RowKit

section
variable {α : Type} {k : Nat} {f : α → List Value}
theorem recs_len (hf : ∀ x, (f x).length = k) : ∀ (L : List α), (L.flatMap f).length = L.length * k
  | [] => by simp
  | x :: L => by
    rw [List.flatMap_cons, List.length_append, recs_len hf L, hf, List.length_cons, Nat.succ_mul]; omega
theorem recs_at (hf : ∀ x, (f x).length = k) : ∀ {L : List α} {i j : Nat} (hi : i < L.length), j < k → (L.flatMap f)[i * k + j]? = (f L[i])[j]?
  | x :: L, 0, j, _, hj => by
    rw [List.flatMap_cons, List.getElem?_append_left (by rw [hf]; omega)]; simp
  | x :: L, i + 1, j, hi, hj => by
    have h1 : (i + 1) * k + j = (f x).length + (i * k + j) := by rw [hf, Nat.succ_mul]; omega
    rw [List.flatMap_cons, h1, List.getElem?_append_right (by omega), Nat.add_sub_cancel_left]
    have := recs_at hf (L := L) (i := i) (j := j) (by simpa using hi) hj
    simpa using this
theorem recs_set (hf : ∀ x, (f x).length = k) : ∀ {L : List α} {i j : Nat} {u : Value} {y : α} (hi : i < L.length), j < k → f y = (f L[i]).set j u → (L.flatMap f).set (i * k + j) u = (L.set i y).flatMap f
  | x :: L, 0, j, u, y, _, hj, hy => by
    simp only [List.set_cons_zero, List.flatMap_cons, Nat.zero_mul, Nat.zero_add]
    rw [List.set_append_left _ _ (by rw [hf]; omega)]
    simp at hy
    rw [hy]
  | x :: L, i + 1, j, u, y, hi, hj, hy => by
    have h1 : (i + 1) * k + j = (f x).length + (i * k + j) := by rw [hf, Nat.succ_mul]; omega
    simp only [List.set_cons_succ, List.flatMap_cons]
    rw [h1, List.set_append_right _ _ (by omega), Nat.add_sub_cancel_left]
    rw [recs_set hf (L := L) (i := i) (j := j) (u := u) (y := y) (by simpa using hi) hj (by simpa using hy)]
theorem recs_app (L M : List α) : (L ++ M).flatMap f = L.flatMap f ++ M.flatMap f := List.flatMap_append
theorem recs_one (x : α) : [x].flatMap f = f x := by simp

/-- A list of records, from A on. -/
structure Recs (k : Nat) (f : α → List Value) (w : World) (A : Option Addr) (c : Nat) (L : List α) : Prop where
  none_ : A = none → L.length = 0 ∧ c = 0
  src : SrcOf w A (L.flatMap f)
  len : L.length ≤ 140737488355328
theorem Recs.mono {w w' : World} {A : Option Addr} {c : Nat} {L : List α} (h : Recs k f w A c L) (hs : SrcOf w' A (L.flatMap f)) : Recs k f w' A c L := ⟨h.none_, hs, h.len⟩
theorem Recs.at (hf : ∀ x, (f x).length = k) (hk : 0 < k) {w : World} {A : Option Addr} {c : Nat} {L : List α} (h : Recs k f w A c L) {i : Nat} (hi : i < L.length) :
    ∃ b off, A = some ⟨b, off, none⟩ ∧ b < w.heap.size ∧ ∀ (j : Nat) (u : Value), (f L[i])[j]? = some u → w.cell? ⟨b, off + i * k + j, none⟩ = some u := by
  have hl := recs_len hf L
  have hne : L.flatMap f ≠ [] := by
    intro e
    rw [e] at hl
    have h1 : 1 * 1 ≤ L.length * k := Nat.mul_le_mul (by omega) hk
    simp at hl; omega
  obtain ⟨b, off, h1, h2, h3⟩ := src_plain h.src (fun hA => List.eq_nil_of_length_eq_zero (by rw [hl, (h.none_ hA).1]; simp)) hne
  refine ⟨b, off, h1, h2, fun j u hj => ?_⟩
  have hjk : j < k := by have := (List.getElem?_eq_some_iff.1 hj).1; rw [hf] at this; exact this
  rw [Nat.add_assoc]
  exact h3 _ u ((recs_at hf hi hjk).trans hj)
theorem Recs.ofRow {w : World} {B : Nat} {T : TypeId} {A : Option Addr} {c : Nat} {L : List α} (h : w.ownsRow B T k (.slice A L.length c) L.length (L.flatMap f)) (hl : L.length ≤ 140737488355328) : Recs k f w A c L :=
  ⟨row_none h, src_row h, hl⟩
theorem Recs.ofCells (hf : ∀ x, (f x).length = k) {w : World} {A : Option Addr} {c : Nat} {L : List α} {cells : List Value} (hn : A = none → L.length = 0 ∧ c = 0) (hb : L.length ≤ 140737488355328) (hl : cells.length = L.length * k) (hs : SrcOf w A cells)
    (he : ∀ (i : Nat) (x : α), L[i]? = some x → (cells.drop (i * k)).take k = f x) : Recs k f w A c L := by
  have e : cells = L.flatMap f := by
    apply List.ext_getElem?
    intro n
    by_cases hn : n < L.length * k
    · have hk : 0 < k := Nat.pos_of_ne_zero (by rintro rfl; simp at hn)
      have hi : n / k < L.length := Nat.div_lt_of_lt_mul (by rw [Nat.mul_comm]; exact hn)
      have hj : n % k < k := Nat.mod_lt _ hk
      have hnn : n = n / k * k + n % k := by rw [Nat.mul_comm]; exact (Nat.div_add_mod n k).symm
      have h1 := recs_at hf hi hj
      rw [← hnn] at h1
      rw [h1, ← he _ _ (List.getElem?_eq_getElem hi), List.getElem?_take_of_lt hj, List.getElem?_drop, ← hnn]
    · rw [List.getElem?_eq_none (by omega), List.getElem?_eq_none (by rw [recs_len hf]; omega)]
  subst e
  exact ⟨hn, hs, hb⟩
end
/-- New things. -/
theorem Sat.pushThings {w0 w w' : World} {l as : List Asn} (h : Sat w0 w l) (h2 : Sat w w' (rest w (· < w.heap.size) :: as)) : Sat w0 w' (l ++ as) := by
  have hb := h2.below (i := 0) rfl
  have hg := h.grow hb
  obtain ⟨h0, Fs, hl, hs, hd⟩ := h
  obtain ⟨_, Gs, gl, gs, gd⟩ := h2
  match Gs, gl, gs, gd with
  | G0 :: Gs, gl, gs, gd =>
    simp at gl
    have hG0 := gs 0 _ _ rfl rfl
    have old : ∀ (i : Nat) (F : Nat → Prop) (k : Nat), Fs[i]? = some F → F k → k < w.heap.size := fun i F k hi hk => by
      have hil : i < l.length := by rw [← hl]; exact (List.getElem?_eq_some_iff.1 hi).1
      exact (l[i]).lt F w k (hs i _ _ (List.getElem?_eq_getElem hil) hi) hk
    have new : ∀ (j : Nat) (G : Nat → Prop) (k : Nat), Gs[j]? = some G → G k → ¬ k < w.heap.size := fun j G k hj hk hlt =>
      gd 0 (j + 1) _ _ k rfl (by simpa using hj) (by omega) (hG0.2 k hlt).2.1 hk
    refine ⟨hg.1, Fs ++ Gs, by simp [hl, gl], ?_, ?_⟩
    · intro i A F hA hF
      by_cases hi : i < l.length
      · rw [List.getElem?_append_left hi] at hA
        rw [List.getElem?_append_left (by omega)] at hF
        have := hs i A F hA hF
        exact A.stay F w w' this fun k hk => hb.block k (A.lt F w k this hk)
      · rw [List.getElem?_append_right (by omega)] at hA
        rw [List.getElem?_append_right (by omega), hl] at hF
        exact gs (i - l.length + 1) A F (by simpa using hA) (by simpa using hF)
    · intro i j F G k hF hG hne hk hk2
      have key : ∀ (i : Nat) (F : Nat → Prop), (Fs ++ Gs)[i]? = some F → (i < Fs.length ∧ Fs[i]? = some F) ∨ (¬ i < Fs.length ∧ Gs[i - Fs.length]? = some F) := by
        intro i F hF
        by_cases hi : i < Fs.length
        · rw [List.getElem?_append_left hi] at hF; exact .inl ⟨hi, hF⟩
        · rw [List.getElem?_append_right (by omega)] at hF; exact .inr ⟨hi, hF⟩
      rcases key i F hF with ⟨a1, a2⟩ | ⟨a1, a2⟩ <;> rcases key j G hG with ⟨b1, b2⟩ | ⟨b1, b2⟩
      · exact hd i j F G k a2 b2 hne hk hk2
      · exact new _ G k b2 hk2 (old i F k a2 hk)
      · exact new _ F k a2 hk (old j G k b2 hk2)
      · exact gd (i - Fs.length + 1) (j - Fs.length + 1) F G k (by simpa using a2) (by simpa using b2) (by omega) hk hk2
theorem Sat.setRowK {w0 w : World} {l : List Asn} {α : Type} {k : Nat} {f : α → List Value} (hf : ∀ x, (f x).length = k) (h : Sat w0 w l) (p : Nat) {T : TypeId} {g c : Nat} {L : List α}
    (hp : l[p]? = some (row T k (.slice (some ⟨g, 0, none⟩) L.length c) L.length (L.flatMap f))) {i j : Nat} (hi : i < L.length) (hj : j < k) (u : Value) (y : α) (hy : f y = (f L[i]).set j u) :
    Sat w0 (w.setCell ⟨g, i * k + j, none⟩ u) (l.set p (row T k (.slice (some ⟨g, 0, none⟩) (L.set i y).length c) (L.set i y).length ((L.set i y).flatMap f))) := by
  have hlt : i * k + j < (L.flatMap f).length := by
    rw [recs_len hf]
    have h1 : (i + 1) * k ≤ L.length * k := Nat.mul_le_mul_right k hi
    rw [Nat.succ_mul] at h1; omega
  have := h.setRow p hp (i * k + j) hlt u
  rw [recs_set hf hi hj hy] at this
  simpa using this
end Go.Proofs.Ytcfpbemoocegfaa
