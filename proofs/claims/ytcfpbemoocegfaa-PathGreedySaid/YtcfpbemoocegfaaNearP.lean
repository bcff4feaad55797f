/- Which neighbour lies nearest: plain. -/
import Derived.Test.YtcfpbemoocegfaaChart7
import Derived.Test.YtcfpbemoocegfaaReachP
namespace Go.Proofs.Ytcfpbemoocegfaa
set_option linter.unusedVariables false
set_option linter.unusedSimpArgs false
set_option linter.unnecessarySimpa false
open Go Go.RowKit

def spotOf (x : Wb) (s : Stp) : Int × Int := x.spots.getD s.to.toNat (0, 0)
def spotsOf (x : Wb) (F : List Stp) : List (Int × Int) := F.map (spotOf x)
def dftStp : Stp := ⟨0, 0, 0, 0, 0⟩
/-- The best of some steps, and how far it is. -/
def bestP (x : Wb) (t : Int × Int) (F : List Stp) : Int := if nb t (spotsOf x F) F.length < 0 then -1 else (F.getD (nb t (spotsOf x F) F.length).toNat dftStp).to
def farP (x : Wb) (t : Int × Int) (F : List Stp) : Int := least t (spotsOf x F) F.length
def fltP (x : Wb) (n am : Int) (k : Nat) : List Stp := ((stepsP x n).take k).filter fun s => decide (am ≤ s.can)
def nearP (x : Wb) (n : Int) (t : Int × Int) (am : Int) : Int := bestP x t (fltP x n am (stepsP x n).length)
theorem fltP_yes {x : Wb} {n am : Int} {k : Nat} {s : Stp} (hs : (stepsP x n)[k]? = some s) (h : am ≤ s.can) : fltP x n am (k + 1) = fltP x n am k ++ [s] := by
  unfold fltP
  rw [List.take_add_one, hs, List.filter_append]
  simp [h]
theorem fltP_no {x : Wb} {n am : Int} {k : Nat} {s : Stp} (hs : (stepsP x n)[k]? = some s) (h : ¬ am ≤ s.can) : fltP x n am (k + 1) = fltP x n am k := by
  unfold fltP
  rw [List.take_add_one, hs, List.filter_append]
  simp [h]
theorem fltP_len (x : Wb) (n am : Int) (k : Nat) : (fltP x n am k).length ≤ k := by
  unfold fltP
  have := List.length_filter_le (fun s : Stp => decide (am ≤ s.can)) ((stepsP x n).take k)
  simp only [List.length_take] at this
  omega
theorem fltP_mem {x : Wb} {n am : Int} {k : Nat} {s : Stp} (h : s ∈ fltP x n am k) : s ∈ stepsP x n := by
  unfold fltP at h
  exact List.mem_of_mem_take (List.mem_filter.1 h).1
theorem farAt_app {t : Int × Int} {L : List (Int × Int)} {p : Int × Int} {i : Nat} (h : i < L.length) : farAt t (L ++ [p]) i = farAt t L i := by
  unfold farAt
  rw [List.getD_eq_getElem?_getD, List.getD_eq_getElem?_getD, List.getElem?_append_left h]
theorem nb_app {t : Int × Int} {L : List (Int × Int)} {p : Int × Int} : ∀ k, k ≤ L.length → nb t (L ++ [p]) k = nb t L k
  | 0, _ => rfl
  | k + 1, h => by
    have ih := nb_app (t := t) (L := L) (p := p) k (by omega)
    have hb := nb_bd t L k
    unfold nb
    rw [ih, farAt_app (by omega)]
    by_cases h0 : nb t L k < 0
    · simp [h0]
    · rw [farAt_app (by omega)]
theorem least_app {t : Int × Int} {L : List (Int × Int)} {p : Int × Int} {k : Nat} (h : k ≤ L.length) : least t (L ++ [p]) k = least t L k := by
  have hb := nb_bd t L k
  unfold least
  rw [nb_app k h]
  split
  · rfl
  · rw [farAt_app (by omega)]
theorem spotsOf_len (x : Wb) (F : List Stp) : (spotsOf x F).length = F.length := by simp [spotsOf]
theorem farAt_last {x : Wb} {t : Int × Int} {F : List Stp} {s : Stp} : farAt t (spotsOf x F ++ [spotOf x s]) F.length = farI t.1 t.2 (spotOf x s).1 (spotOf x s).2 := by
  unfold farAt
  rw [List.getD_eq_getElem?_getD, List.getElem?_append_right (by rw [spotsOf_len]; exact Nat.le_refl _), spotsOf_len]
  simp
theorem best_neg {x : Wb} {t : Int × Int} {F : List Stp} (hF : ∀ s ∈ F, 0 ≤ s.to) : bestP x t F < 0 ↔ nb t (spotsOf x F) F.length < 0 := by
  unfold bestP
  have hb := nb_bd t (spotsOf x F) F.length
  split
  · rename_i h; simp [h]
  · rename_i h
    have hl : (nb t (spotsOf x F) F.length).toNat < F.length := by omega
    rw [List.getD_eq_getElem?_getD, List.getElem?_eq_getElem hl]
    have := hF _ (List.getElem_mem hl)
    simp only [Option.getD_some]
    omega
theorem best_yes {x : Wb} {t : Int × Int} {F : List Stp} {s : Stp} (hF : ∀ s ∈ F, 0 ≤ s.to) (h0 : 0 ≤ farI t.1 t.2 (spotOf x s).1 (spotOf x s).2) (h : bestP x t F < 0 ∨ farI t.1 t.2 (spotOf x s).1 (spotOf x s).2 < farP x t F) :
    bestP x t (F ++ [s]) = s.to ∧ farP x t (F ++ [s]) = farI t.1 t.2 (spotOf x s).1 (spotOf x s).2 := by
  have e : spotsOf x (F ++ [s]) = spotsOf x F ++ [spotOf x s] := by simp [spotsOf]
  have hn := nb_yes (t := t) (L := spotsOf x F ++ [spotOf x s]) (k := F.length) (by rw [farAt_last]; exact h0) (by
    rw [nb_app _ (by rw [spotsOf_len]; exact Nat.le_refl _), least_app (by rw [spotsOf_len]; exact Nat.le_refl _), farAt_last]
    rcases h with h | h
    · exact .inl ((best_neg hF).1 h)
    · exact .inr h)
  rw [farAt_last] at hn
  have hl : (F ++ [s]).length = F.length + 1 := by simp
  unfold bestP farP
  rw [e, hl, hn.1, hn.2]
  refine ⟨?_, rfl⟩
  rw [if_neg (by omega)]
  simp
theorem best_no {x : Wb} {t : Int × Int} {F : List Stp} {s : Stp} (hF : ∀ s ∈ F, 0 ≤ s.to) (h : farI t.1 t.2 (spotOf x s).1 (spotOf x s).2 < 0 ∨ (¬ bestP x t F < 0 ∧ ¬ farI t.1 t.2 (spotOf x s).1 (spotOf x s).2 < farP x t F)) :
    bestP x t (F ++ [s]) = bestP x t F ∧ farP x t (F ++ [s]) = farP x t F := by
  have e : spotsOf x (F ++ [s]) = spotsOf x F ++ [spotOf x s] := by simp [spotsOf]
  have hk : F.length ≤ (spotsOf x F).length := by rw [spotsOf_len]; exact Nat.le_refl _
  have hn := nb_no (t := t) (L := spotsOf x F ++ [spotOf x s]) (k := F.length) (by
    rw [nb_app _ hk, least_app hk, farAt_last]
    rcases h with h | ⟨h, h'⟩
    · exact .inl h
    · exact .inr ⟨fun hc => h ((best_neg hF).2 hc), h'⟩)
  rw [nb_app _ hk, least_app hk] at hn
  have hl : (F ++ [s]).length = F.length + 1 := by simp
  have hb := nb_bd t (spotsOf x F) F.length
  unfold bestP farP
  rw [e, hl, hn.1, hn.2]
  refine ⟨?_, rfl⟩
  split
  · rfl
  · rw [List.getD_eq_getElem?_getD, List.getD_eq_getElem?_getD, List.getElem?_append_left (by omega)]
theorem best_at {x : Wb} {t : Int × Int} {F : List Stp} {m : Nat} {nd : Int} (h : nb t (spotsOf x F) (spotsOf x F).length = m) (hn : (F.map Stp.to)[m]? = some nd) : bestP x t F = nd := by
  rw [spotsOf_len] at h
  unfold bestP
  rw [h, if_neg (by omega), List.getD_eq_getElem?_getD]
  rw [List.getElem?_map] at hn
  cases hq : F[m]? with
  | none => rw [hq] at hn; cases hn
  | some q => rw [hq] at hn; simp at hn; simp [hq, hn]
theorem nbest_none {x : Wb} {t : Int × Int} {F : List Stp} (h : nb t (spotsOf x F) (spotsOf x F).length < 0) : bestP x t F = -1 := by
  rw [spotsOf_len] at h
  unfold bestP
  rw [if_pos h]
theorem spot_at {x : Wb} {s : Stp} {q : Nat} {p : Int × Int} (hq : s.to = q) (h : x.spots[q]? = some p) : spotOf x s = p := by
  unfold spotOf
  rw [hq, Int.toNat_natCast, List.getD_eq_getElem?_getD, h]; rfl
theorem rowOf_recs {w : World} {A : Option Addr} {c : Nat} {L : List (Int × Int)} (h : Recs 2 spC w A c L) : RowOf w A L := by
  intro h0
  obtain ⟨b, off, h1, h2, _⟩ := h.at spC_len (by decide) h0
  refine ⟨b, off, h1, h2, fun i p hp => ?_⟩
  obtain ⟨hi, rfl⟩ := List.getElem?_eq_some_iff.1 hp
  obtain ⟨b', off', h1', _, h3⟩ := h.at spC_len (by decide) hi
  rw [h1] at h1'
  cases h1'
  exact ⟨by have := h3 0 _ rfl; simpa using this, by have := h3 1 _ rfl; simpa using this⟩
end Go.Proofs.Ytcfpbemoocegfaa
