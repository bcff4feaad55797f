/- Walks over chart.Nearest and tollhouseref06.Nearest. -/
import Derived.Test.YtpmjigghboifdaaRef2
namespace Go.Proofs.Ytpmjigghboifdaa
open Go.RowKit Fl

theorem far_any (a b c d : Int) (w : World) : Calls Try.prog 22 #[.agg #[.int .i64 a, .int .i64 b], .agg #[.int .i64 c, .int .i64 d]] w fun e w' =>
    e = .returned (.int .i64 (farI a b c d)) ∧ Below w.heap.size w w' := by
  unfold farI
  rcases h : (inB a b && inB c d) with _ | _
  · exact far_no a b c d h w
  · rw [if_pos rfl]
    rw [Bool.and_eq_true] at h
    exact far_yes a b c d h.1 h.2 w

/-- How far the i-th spot of a list is. -/
def farAt (t : Int × Int) (L : List (Int × Int)) (i : Nat) : Int := farI t.1 t.2 (L.getD i (0, 0)).1 (L.getD i (0, 0)).2
/-- The nearest of the first k. -/
def nb (t : Int × Int) (L : List (Int × Int)) : Nat → Int
  | 0 => -1
  | k + 1 => if 0 ≤ farAt t L k ∧ (nb t L k < 0 ∨ farAt t L k < farAt t L (nb t L k).toNat) then k else nb t L k
theorem nb_bd (t : Int × Int) (L : List (Int × Int)) : ∀ k, -1 ≤ nb t L k ∧ nb t L k < k
  | 0 => by simp [nb]
  | k + 1 => by
    have := nb_bd t L k
    unfold nb
    split <;> omega
def least (t : Int × Int) (L : List (Int × Int)) (k : Nat) : Int := if nb t L k < 0 then 0 else farAt t L (nb t L k).toNat
theorem nb_yes {t : Int × Int} {L : List (Int × Int)} {k : Nat} (h0 : 0 ≤ farAt t L k) (h : nb t L k < 0 ∨ farAt t L k < least t L k) : nb t L (k + 1) = k ∧ least t L (k + 1) = farAt t L k := by
  have h1 : nb t L (k + 1) = k := by
    unfold nb
    rw [if_pos]
    refine ⟨h0, ?_⟩
    by_cases hn : nb t L k < 0
    · exact .inl hn
    · rcases h with h | h
      · exact absurd h hn
      · unfold least at h; rw [if_neg hn] at h; exact .inr h
  refine ⟨h1, ?_⟩
  unfold least
  rw [h1, if_neg (by omega)]
  simp
theorem nb_no {t : Int × Int} {L : List (Int × Int)} {k : Nat} (h : farAt t L k < 0 ∨ (¬ nb t L k < 0 ∧ ¬ farAt t L k < least t L k)) : nb t L (k + 1) = nb t L k ∧ least t L (k + 1) = least t L k := by
  have h1 : nb t L (k + 1) = nb t L k := by
    have e : nb t L (k + 1) = if 0 ≤ farAt t L k ∧ (nb t L k < 0 ∨ farAt t L k < farAt t L (nb t L k).toNat) then (k : Int) else nb t L k := rfl
    rw [e, if_neg]
    rintro ⟨a, b⟩
    rcases h with h | ⟨h, h'⟩
    · omega
    · unfold least at h'
      rw [if_neg h] at h'
      rcases b with b | b
      · exact h b
      · exact h' b
  exact ⟨h1, by unfold least; rw [h1]⟩

/-- The spots of a list lie in a row from a place in a block on. -/
def SpotsAt (w : World) (b off : Nat) (L : List (Int × Int)) : Prop := b < w.heap.size ∧ ∀ i p, L[i]? = some p → w.cell? ⟨b, off + i * 2, none⟩ = some (.int .i64 p.1) ∧ w.cell? ⟨b, off + i * 2 + 1, none⟩ = some (.int .i64 p.2)
theorem SpotsAt.below {w w' : World} {b off : Nat} {L : List (Int × Int)} (h : SpotsAt w b off L) {B : Nat} (hB : b < B) (hb : Below B w w') : SpotsAt w' b off L :=
  ⟨Nat.lt_of_lt_of_le h.1 hb.size, fun i p hp => by rw [hb.cell (p := ⟨b, off + i * 2, none⟩) hB, hb.cell (p := ⟨b, off + i * 2 + 1, none⟩) hB]; exact h.2 i p hp⟩
/-- A slice value that reads as a list of spots, nil let in. -/
def RowOf (w : World) (A : Option Addr) (L : List (Int × Int)) : Prop := 0 < L.length → ∃ b off, A = some ⟨b, off, none⟩ ∧ SpotsAt w b off L

/-- The box of the first argument, and all that was there. -/
def NRel (w : World) (t : Int × Int) (wr : World) : Prop := wr.cell? ⟨w.heap.size, 0, none⟩ = some (.int .i64 t.1) ∧ wr.cell? ⟨w.heap.size, 1, none⟩ = some (.int .i64 t.2) ∧ w.heap.size < wr.heap.size ∧ Below w.heap.size w wr
theorem NRel.keep {w wr w' : World} {t : Int × Int} (h : NRel w t wr) (hb : Below wr.heap.size wr w') : NRel w t w' := by
  obtain ⟨h0, h1, h2, h3⟩ := h
  exact ⟨(hb.cell (p := ⟨w.heap.size, 0, none⟩) h2).trans h0, (hb.cell (p := ⟨w.heap.size, 1, none⟩) h2).trans h1, Nat.lt_of_lt_of_le h2 hb.size, h3.trans (hb.mono h3.size)⟩
theorem NRel.alloc {w wr : World} {t : Int × Int} (h : NRel w t wr) (o : Obj) : NRel w t (wr.alloc o) := by
  obtain ⟨h0, h1, h2, h3⟩ := h
  exact ⟨(World.cell?_alloc_lt (a := ⟨w.heap.size, 0, none⟩) wr o h2).trans h0, (World.cell?_alloc_lt (a := ⟨w.heap.size, 1, none⟩) wr o h2).trans h1, by simp; omega, h3.alloc h3.size o⟩

theorem near_any (t : Int × Int) (L : List (Int × Int)) (A : Option Addr) (c : Nat) (w : World) (hr : RowOf w A L) (hl : L.length ≤ 9223372036854775807) : Calls Try.prog 24 #[.agg #[.int .i64 t.1, .int .i64 t.2], .slice A L.length c] w fun e w' =>
    e = .returned (.int .i64 (nb t L L.length)) ∧ Below w.heap.size w w' := by
  have HR := Lib.hid hr
  clear hr
  go_enter Try.func24, Try.ntmps24
  go_wp2
  go_loopw [5, 6, 12] (fun x y i wr => ∃ k : Nat, k ≤ L.length ∧ i = .int .i64 k ∧ x = .int .i64 (nb t L k) ∧ y = .int .i64 (least t L k) ∧ NRel w t wr) (fun _ _ i _ => L.length - (intOf i).toNat)
  case atStart => exact ⟨0, Nat.zero_le _, rfl, rfl, rfl, by go_simp, by go_simp, by simp, (Below.refl _ _).alloc (Nat.le_refl _) _⟩
  case round =>
    obtain ⟨k, hk, rfl, rfl, rfl, hn⟩ := hrel
    have HN := Lib.hid hn
    by_cases hlt : k < L.length
    · obtain ⟨b, off, rfl, hs⟩ := HR.out (by omega)
      obtain ⟨n0, n1, n2, hb⟩ := hn
      obtain ⟨c1, c2⟩ := (hs.below hs.1 hb).2 k L[k] (List.getElem?_eq_getElem hlt)
      have hf : Hid (farAt t L k = farI t.1 t.2 L[k].1 L[k].2) := by
        unfold Hid farAt
        rw [List.getD_eq_getElem?_getD, List.getElem?_eq_getElem hlt]; rfl
      have HY := Lib.hid (@nb_yes t L k)
      have HNO := Lib.hid (@nb_no t L k)
      have hF := far_any t.1 t.2 L[k].1 L[k].2
      rw [← hf.out] at hF
      have HF := Lib.hid hF
      clear hs hb HR hF
      generalize L[k].1 = x, L[k].2 = y at *
      generalize farAt t L k = d at *
      generalize nb t L k = m at *
      generalize least t L k = q at *
      rcases (show (d < 0) ∨ (0 ≤ d ∧ m < 0) ∨ (0 ≤ d ∧ 0 ≤ m ∧ d < q) ∨ (0 ≤ d ∧ 0 ≤ m ∧ q ≤ d) by omega) with h | ⟨h, h'⟩ | ⟨h, h', h''⟩ | ⟨h, h', h''⟩
      · have hx := HNO.out (.inl h)
        have HX := Lib.hid hx
        clear hx HY HNO
        go_wp2_with fail
        refine (HF.out _).mono ?_
        rintro e w1 ⟨rfl, hb1⟩
        have hN := (HN.out.alloc _).keep hb1
        clear hb1 n0 n1 n2 c1 c2
        go_wp2
        go_roundw
        case rel => exact ⟨k + 1, by omega, by go_num, by rw [HX.out.1], by rw [HX.out.2], hN⟩
        case measure => simp [intOf]; omega
      · have hx := HY.out h (.inl h')
        have HX := Lib.hid hx
        clear hx HY HNO
        go_wp2_with fail
        refine (HF.out _).mono ?_
        rintro e w1 ⟨rfl, hb1⟩
        have hN := (HN.out.alloc _).keep hb1
        clear hb1 n0 n1 n2 c1 c2
        go_wp2
        go_roundw
        case rel => exact ⟨k + 1, by omega, by go_num, by rw [HX.out.1], by rw [HX.out.2], hN⟩
        case measure => simp [intOf]; omega
      · have hx := HY.out h (.inr h'')
        have HX := Lib.hid hx
        clear hx HY HNO
        go_wp2_with fail
        refine (HF.out _).mono ?_
        rintro e w1 ⟨rfl, hb1⟩
        have hN := (HN.out.alloc _).keep hb1
        clear hb1 n0 n1 n2 c1 c2
        go_wp2
        go_roundw
        case rel => exact ⟨k + 1, by omega, by go_num, by rw [HX.out.1], by rw [HX.out.2], hN⟩
        case measure => simp [intOf]; omega
      · have hx := HNO.out (.inr ⟨by omega, by omega⟩)
        have HX := Lib.hid hx
        clear hx HY HNO
        go_wp2_with fail
        refine (HF.out _).mono ?_
        rintro e w1 ⟨rfl, hb1⟩
        have hN := (HN.out.alloc _).keep hb1
        clear hb1 n0 n1 n2 c1 c2
        go_wp2
        go_roundw
        case rel => exact ⟨k + 1, by omega, by go_num, by rw [HX.out.1], by rw [HX.out.2], hN⟩
        case measure => simp [intOf]; omega
    · have e : k = L.length := by omega
      subst e
      go_wp2
      go_ret
      exact ⟨rfl, HN.out.2.2.2⟩
end Go.Proofs.Ytpmjigghboifdaa
