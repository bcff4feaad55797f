/- A till's state, plain. -/
import Derived.Test.YtmcfmabnggffjaaMoneyP
namespace Go.Proofs.Ytmcfmabnggffjaa
set_option linter.unusedVariables false
set_option linter.unusedSimpArgs false
set_option linter.unnecessarySimpa false
open Go

structure Tl where
  has : List Int
  next : List Int
  kept : Int
def U64s (l : List Int) : Prop := ∀ a ∈ l, 0 ≤ a ∧ a < 18446744073709551616
structure Tl.Ok (t : Tl) : Prop where
  len : t.next.length = t.has.length
  few : t.has.length ≤ 16
  h : U64s t.has
  n : U64s t.next
  k0 : 0 ≤ t.kept
  tot : t.has.sum + t.kept < 18446744073709551616
theorem sum_nonneg : ∀ {l : List Int}, U64s l → 0 ≤ l.sum
  | [], _ => by simp
  | a :: l, h => by
    have h1 := (h a (by simp)).1
    have h2 := sum_nonneg (l := l) fun b hb => h b (by simp [hb])
    rw [List.sum_cons]; omega
theorem sum_set : ∀ {l : List Int} {i : Nat} {b : Int}, i < l.length → (l.set i b).sum = l.sum - l.getD i 0 + b
  | a :: l, 0, b, _ => by simp [List.sum_cons]; omega
  | a :: l, i + 1, b, h => by
    have := sum_set (l := l) (i := i) (b := b) (by simpa using h)
    simp only [List.set_cons_succ, List.sum_cons, this, List.getD_cons_succ]; omega
theorem getD_le_sum : ∀ {l : List Int} {i : Nat}, U64s l → i < l.length → l.getD i 0 ≤ l.sum
  | a :: l, 0, h, _ => by
    have := sum_nonneg (l := l) fun b hb => h b (by simp [hb])
    simp [List.sum_cons]; omega
  | a :: l, i + 1, h, hi => by
    have h1 := (h a (by simp)).1
    have := getD_le_sum (l := l) (i := i) (fun b hb => h b (by simp [hb])) (by simpa using hi)
    simp only [List.getD_cons_succ, List.sum_cons]; omega
theorem U64s.set {l : List Int} {i : Nat} {b : Int} (h : U64s l) (hb : 0 ≤ b ∧ b < 18446744073709551616) : U64s (l.set i b) := by
  intro a ha
  rcases List.mem_or_eq_of_mem_set ha with h1 | rfl
  · exact h a h1
  · exact hb
theorem U64s.getD {l : List Int} {i : Nat} (h : U64s l) (hi : i < l.length) : 0 ≤ l.getD i 0 ∧ l.getD i 0 < 18446744073709551616 := by
  have : l.getD i 0 ∈ l := by simp [hi]
  exact h _ this

/-- May an account be named? -/
def Tl.inB (t : Tl) (who : Int) : Prop := 0 ≤ who ∧ who < t.has.length
instance (t : Tl) (who : Int) : Decidable (t.inB who) := by unfold Tl.inB; infer_instance
def inE (t : Tl) (who : Int) : Int := if t.inB who then 0 else 1
def ordE (t : Tl) (who n : Int) : Int := if t.inB who then (if t.next.getD who.toNat 0 = n then 0 else 22) else 1
def ordS (t : Tl) (who n : Int) : Tl := if ordE t who n = 0 then { t with next := t.next.set who.toNat ((n + 1) % 18446744073709551616) } else t
def keepE (t : Tl) (who n : Int) : Int := if t.inB who then (if t.has.getD who.toNat 0 < n then 12 else 0) else 1
def keepS (t : Tl) (who n : Int) : Tl := if keepE t who n = 0 then { t with has := t.has.set who.toNat (t.has.getD who.toNat 0 - n), kept := t.kept + n } else t
def giveE (t : Tl) (who n : Int) : Int := if t.inB who then (if t.kept < n then 12 else 0) else 1
def giveS (t : Tl) (who n : Int) : Tl := if giveE t who n = 0 then { t with has := t.has.set who.toNat (t.has.getD who.toNat 0 + n), kept := t.kept - n } else t
def moveE (t : Tl) (a b n : Int) : Int := if t.inB a ∧ t.inB b then (if t.has.getD a.toNat 0 < n then 12 else 0) else 1
def moveS (t : Tl) (a b n : Int) : Tl := if moveE t a b n = 0 then giveS (keepS t a n) b n else t
theorem Tl.inB_nat {t : Tl} {who : Int} (h : t.inB who) : ∃ i : Nat, who = i ∧ i < t.has.length := by
  obtain ⟨h0, h1⟩ := h
  exact ⟨who.toNat, by omega, by omega⟩
theorem Tl.Ok.ord {t : Tl} (h : t.Ok) (who n : Int) (hn : 0 ≤ n) : (ordS t who n).Ok := by
  unfold ordS
  split
  · exact ⟨by simp [h.len], h.few, h.h, h.n.set ⟨by omega, by omega⟩, h.k0, h.tot⟩
  · exact h
theorem Tl.Ok.keep {t : Tl} (h : t.Ok) (who n : Int) (hn : 0 ≤ n) : (keepS t who n).Ok ∧ (keepS t who n).has.sum + (keepS t who n).kept = t.has.sum + t.kept := by
  unfold keepS
  split
  · rename_i he
    unfold keepE at he
    split at he
    · rename_i hi
      obtain ⟨i, rfl, hil⟩ := Tl.inB_nat hi
      split at he
      · cases he
      · have hu := h.h.getD hil
        have ht := sum_set (b := t.has.getD i 0 - n) hil
        have := h.tot
        have := h.k0
        simp only [Int.toNat_natCast] at *
        refine ⟨⟨by simp [h.len], by simpa using h.few, h.h.set ⟨by omega, by omega⟩, h.n, by show 0 ≤ t.kept + n; omega, ?_⟩, ?_⟩
        · show (t.has.set i (t.has.getD i 0 - n)).sum + (t.kept + n) < _
          omega
        · show (t.has.set i (t.has.getD i 0 - n)).sum + (t.kept + n) = _
          omega
    · cases he
  · exact ⟨h, rfl⟩
theorem Tl.Ok.give {t : Tl} (h : t.Ok) (who n : Int) (hn : 0 ≤ n) : (giveS t who n).Ok ∧ (giveS t who n).has.sum + (giveS t who n).kept = t.has.sum + t.kept := by
  unfold giveS
  split
  · rename_i he
    unfold giveE at he
    split at he
    · rename_i hi
      obtain ⟨i, rfl, hil⟩ := Tl.inB_nat hi
      split at he
      · cases he
      · have hu := h.h.getD hil
        have hle := getD_le_sum h.h hil
        have ht := sum_set (b := t.has.getD i 0 + n) hil
        have := h.tot
        have := h.k0
        simp only [Int.toNat_natCast] at *
        refine ⟨⟨by simp [h.len], by simpa using h.few, h.h.set ⟨by omega, by omega⟩, h.n, by show 0 ≤ t.kept - n; omega, ?_⟩, ?_⟩
        · show (t.has.set i (t.has.getD i 0 + n)).sum + (t.kept - n) < _
          omega
        · show (t.has.set i (t.has.getD i 0 + n)).sum + (t.kept - n) = _
          omega
    · cases he
  · exact ⟨h, rfl⟩
theorem Tl.Ok.move {t : Tl} (h : t.Ok) (a b n : Int) (hn : 0 ≤ n) : (moveS t a b n).Ok ∧ (moveS t a b n).has.sum + (moveS t a b n).kept = t.has.sum + t.kept := by
  unfold moveS
  split
  · have h1 := h.keep a n hn
    have h2 := h1.1.give b n hn
    exact ⟨h2.1, h2.2.trans h1.2⟩
  · exact ⟨h, rfl⟩
end Go.Proofs.Ytmcfmabnggffjaa
