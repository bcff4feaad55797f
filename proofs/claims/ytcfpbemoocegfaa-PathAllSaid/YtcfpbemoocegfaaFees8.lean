/- Part as the document says, of chapter 02. -/
import Derived.Test.YtcfpbemoocegfaaRDiv8
import Derived.Test.YtcfpbemoocegfaaMoves
import Derived.Test.YtcfpbemoocegfaaFeesP
import Derived.Test.YtcfpbemoocegfaaRecs
import Derived.Test.YtcfpbemoocegfaaChain
import Derived.Laws.MakeOwn
import Derived.LoopTactic
namespace Go.Proofs.Ytcfpbemoocegfaa
set_option linter.unusedVariables false
set_option linter.unusedSimpArgs false
set_option linter.unnecessarySimpa false
open Go.RowKit

set_option maxHeartbeats 1000000 in
theorem rpart_any (a m d : Int) (ha : U64 a) (hm : U64 m) (hd : U64 d) (w : World) : Calls Try.prog 122 #[.int .u64 a, .int .u64 m, .int .u64 d] w fun e w' =>
    e = .returned (.tuple #[.int .u64 (partP a m d).1, .int .i64 (partP a m d).2]) ∧ Below w.heap.size w w' := by
  have hq := wide_any a m ha hm w
  obtain ⟨p, hp⟩ : ∃ p, a * m = p := ⟨_, rfl⟩
  rw [hp] at hq
  have HQ := Lib.hid hq
  have HP := Lib.hid hp
  clear hp hq
  obtain ⟨d0, d1⟩ := hd
  rcases (show d = 0 ∨ 0 < d by omega) with h | h
  · subst h
    have hv : partP a m 0 = (0, 1) := by unfold partP; rw [if_pos rfl]
    have HV := Lib.hid hv
    clear hv
    go_enter Try.func122, Try.ntmps122
    go_wp2
    go_ret2
    rw [HV.out]
    exact ⟨rfl, Below.refl _ _⟩
  · have hd0 : (d == 0) = false := beq_eq_false_iff_ne.2 (by omega)
    have hdn : d ≠ 0 := by omega
    go_enter Try.func122, Try.ntmps122
    go_wp2_with fail
    refine HQ.out.mono ?_
    rintro e w1 ⟨w0, v1, v2, v3, rfl, hl, hbl⟩
    have HD := Lib.hid (rdiv_any p w0 v1 v2 v3 d hl h d1 w1)
    have HB := Lib.hid hbl
    clear hl hbl
    go_wp2_with fail
    refine HD.out.mono ?_
    rintro e w2 ⟨Q, L, O, rfl, ⟨p0, hL, q0, q1, r1, r2⟩, hb2⟩
    have HB2 := Lib.hid (HB.out.trans (hb2.mono HB.out.size))
    have l0 : 0 ≤ L := by rw [hL]; exact Int.emod_nonneg p (by omega)
    have HL := Lib.hid hL
    clear hb2 hL
    cases O with
    | true =>
      have hv : partP a m d = (0, 11) := by unfold partP; rw [if_neg hdn, HP.out, if_neg (by have := r2 rfl; omega)]
      have HV := Lib.hid hv
      clear hv
      clear r1 r2
      go_wp2
      go_ret2
      rw [HV.out]
      exact ⟨rfl, HB2.out⟩
    | false =>
      have hv : partP a m d = (Q, 0) := by unfold partP; rw [if_neg hdn, HP.out, if_pos (by have := r1 rfl; omega), ← r1 rfl]
      have HV := Lib.hid hv
      clear hv
      clear r1 r2
      go_wp2
      go_ret2
      rw [HV.out]
      exact ⟨rfl, HB2.out⟩
open Go.RowKit
set_option maxRecDepth 100000

set_option maxHeartbeats 1000000 in
theorem of_any (base rate a : Int) (hb : U64 base) (hr : U64 rate) (ha : U64 a) (w : World) : Calls Try.prog 106 #[.agg #[.int .u64 base, .int .u64 rate], .int .u64 a] w fun e w' =>
    e = .returned (.tuple #[.int .u64 (ofP base rate a).1, .int .i64 (ofP base rate a).2]) ∧ Below w.heap.size w w' := by
  have HP := Lib.hid (part_any a rate 1000000 ha hr ⟨by decide, by decide⟩)
  have hu := partP_u (d := 1000000) ha hr (by decide)
  unfold ofP
  generalize partP a rate 1000000 = x at *
  obtain ⟨v, e⟩ := x
  have HA := Lib.hid (add_any base v hb hu)
  dsimp only at *
  rcases (show e = 0 ∨ e ≠ 0 by omega) with h | h
  · subst h
    rw [if_pos rfl]
    go_enter Try.func106, Try.ntmps106
    go_wp2_with fail
    refine (HP.out _).mono ?_
    rintro e w1 ⟨rfl, hbl⟩
    obtain ⟨hc, hf⟩ := bcell hbl
    have hz := hbl.size
    simp only [World.size_alloc] at hc hf hz
    have HB := Lib.hid (((Below.refl _ w).alloc (Nat.le_refl _) _).trans (hbl.mono (by simp)))
    clear hbl
    go_wp2_with fail
    refine (HA.out _).mono ?_
    rintro e w2 ⟨rfl, rfl⟩
    go_wp2
    go_ret2
    exact ⟨rfl, HB.out⟩
  · have h2 : (e == 0) = false := beq_eq_false_iff_ne.2 h
    have h3 : (e != 0) = true := by simp [h]
    rw [if_neg h]
    go_enter Try.func106, Try.ntmps106
    go_wp2_with fail
    refine (HP.out _).mono ?_
    rintro e w1 ⟨rfl, hbl⟩
    have HB := Lib.hid (((Below.refl _ w).alloc (Nat.le_refl _) _).trans (hbl.mono (by simp)))
    clear hbl
    go_wp2
    go_ret2
    exact ⟨rfl, HB.out⟩
open Go.RowKit
set_option maxRecDepth 100000

def feeC (p : Int × Int) : List Value := [.int .u64 p.1, .int .u64 p.2]
theorem feeC_len (p : Int × Int) : (feeC p).length = 2 := rfl
theorem wordsR (xs : List Int) : words xs = xs.flatMap fun a => [Value.int .u64 a] := by
  unfold words
  induction xs with
  | nil => rfl
  | cons a l ih => simp at ih ⊢; exact ih
theorem info_u64 : (Try.prog.info? 26).map (fun i => (i.zero, i.size, i.bytes)) = some (some (.int .u64 0), 1, 8) := by kernel_rfl
theorem info_fee : (Try.prog.info? 59).map (fun i => (i.zero, i.size, i.bytes)) = some (some (.agg #[.int .u64 0, .int .u64 0]), 2, 16) := by kernel_rfl
theorem words_len (xs : List Int) : (words xs).length = xs.length := by simp [words]
theorem words_at {xs : List Int} {i : Nat} (h : i < xs.length) : (words xs)[i]? = some (.int .u64 (xs.getD i 0)) := by simp [words, h]
theorem words_set (xs : List Int) (i : Nat) (v : Int) : (words xs).set i (.int .u64 v) = words (xs.set i v) := by simp [words, List.map_set]

theorem mk_u64 (w : World) (z : Int) (n : Nat) (hz : z = n) (hn : n ≤ 100000) : (Instr.makeSlice 43 (.int .i64 z) (.int .i64 z)).run Try.prog w = .ok (.slice (some ⟨w.heap.size, 0, none⟩) n n) (w.alloc (.cells (Array.replicate n (.int .u64 0)) 26)) := by
  subst hz
  obtain ⟨i, hi, h1⟩ := Option.map_eq_some_iff.1 info_u64
  injection h1 with h1 h2
  injection h2 with h2 h3
  have h := run_make (P := Try.prog) w 43 26 i (.int .u64 0) Try.underlying43 hi h1 .i64 .i64 (n : Int) (n : Int) (by omega) (by omega) (by rw [h3]; omega) (by omega)
  rw [h2, Nat.mul_one] at h
  simp only [Int.toNat_natCast] at h
  rw [h]
  congr 3
  apply Array.ext
  · simp [madeCells]
  · intro j h1 h2
    simp [madeCells, Value.cells, Nat.mod_one]
set_option maxRecDepth 100000 in
set_option maxHeartbeats 2000000 in
theorem over_any (base rate a : Int) (hb : U64 base) (hr : U64 rate) (ha : U64 a) (w : World) : Calls Try.prog 82 #[.agg #[.int .u64 base, .int .u64 rate], .int .u64 a] w fun e w' =>
    e = .returned (.tuple #[.int .u64 (overP base rate a).1, .int .i64 (overP base rate a).2]) ∧ Below w.heap.size w w' := by
  have HP := Lib.hid (of_any base rate a hb hr ha)
  have hu := ofP_u hb hr ha
  unfold overP
  generalize ofP base rate a = x at *
  obtain ⟨v, e⟩ := x
  have HA := Lib.hid (add_any a v ha hu)
  dsimp only at *
  rcases (show e = 0 ∨ e ≠ 0 by omega) with h | h
  · subst h
    rw [if_pos rfl]
    go_enter Try.func82, Try.ntmps82
    go_wp2_with fail
    refine (HP.out _).mono ?_
    rintro e w1 ⟨rfl, hbl⟩
    obtain ⟨hc, hf⟩ := bcell hbl
    have hz := hbl.size
    simp only [World.size_alloc] at hc hf hz
    have HB := Lib.hid (((Below.refl _ w).alloc (Nat.le_refl _) _).trans (hbl.mono (by simp)))
    clear hbl
    go_wp2_with fail
    refine (HA.out _).mono ?_
    rintro e w2 ⟨rfl, rfl⟩
    go_wp2
    go_ret2
    exact ⟨rfl, HB.out⟩
  · have h2 : (e == 0) = false := beq_eq_false_iff_ne.2 h
    have h3 : (e != 0) = true := by simp [h]
    rw [if_neg h]
    go_enter Try.func82, Try.ntmps82
    go_wp2_with fail
    refine (HP.out _).mono ?_
    rintro e w1 ⟨rfl, hbl⟩
    have HB := Lib.hid (((Below.refl _ w).alloc (Nat.le_refl _) _).trans (hbl.mono (by simp)))
    clear hbl
    go_wp2
    go_ret2
    exact ⟨rfl, HB.out⟩
set_option maxRecDepth 100000 in
set_option maxHeartbeats 2000000 in
theorem rof_any (base rate a : Int) (hb : U64 base) (hr : U64 rate) (ha : U64 a) (w : World) : Calls Try.prog 107 #[.agg #[.int .u64 base, .int .u64 rate], .int .u64 a] w fun e w' =>
    e = .returned (.tuple #[.int .u64 (ofP base rate a).1, .int .i64 (ofP base rate a).2]) ∧ Below w.heap.size w w' := by
  have HP := Lib.hid (rpart_any a rate 1000000 ha hr ⟨by decide, by decide⟩)
  have hu := partP_u (d := 1000000) ha hr (by decide)
  unfold ofP
  generalize partP a rate 1000000 = x at *
  obtain ⟨v, e⟩ := x
  have HA := Lib.hid (radd_any base v hb hu)
  dsimp only at *
  rcases (show e = 0 ∨ e ≠ 0 by omega) with h | h
  · subst h
    rw [if_pos rfl]
    go_enter Try.func107, Try.ntmps107
    go_wp2_with fail
    refine (HP.out _).mono ?_
    rintro e w1 ⟨rfl, hbl⟩
    obtain ⟨hc, hf⟩ := bcell hbl
    have hz := hbl.size
    simp only [World.size_alloc] at hc hf hz
    have HB := Lib.hid (((Below.refl _ w).alloc (Nat.le_refl _) _).trans (hbl.mono (by simp)))
    clear hbl
    go_wp2_with fail
    refine (HA.out _).mono ?_
    rintro e w2 ⟨rfl, rfl⟩
    go_wp2
    go_ret2
    exact ⟨rfl, HB.out⟩
  · have h2 : (e == 0) = false := beq_eq_false_iff_ne.2 h
    have h3 : (e != 0) = true := by simp [h]
    rw [if_neg h]
    go_enter Try.func107, Try.ntmps107
    go_wp2_with fail
    refine (HP.out _).mono ?_
    rintro e w1 ⟨rfl, hbl⟩
    have HB := Lib.hid (((Below.refl _ w).alloc (Nat.le_refl _) _).trans (hbl.mono (by simp)))
    clear hbl
    go_wp2
    go_ret2
    exact ⟨rfl, HB.out⟩
set_option maxRecDepth 100000 in
set_option maxHeartbeats 2000000 in
theorem rover_any (base rate a : Int) (hb : U64 base) (hr : U64 rate) (ha : U64 a) (w : World) : Calls Try.prog 85 #[.agg #[.int .u64 base, .int .u64 rate], .int .u64 a] w fun e w' =>
    e = .returned (.tuple #[.int .u64 (overP base rate a).1, .int .i64 (overP base rate a).2]) ∧ Below w.heap.size w w' := by
  have HP := Lib.hid (rof_any base rate a hb hr ha)
  have hu := ofP_u hb hr ha
  unfold overP
  generalize ofP base rate a = x at *
  obtain ⟨v, e⟩ := x
  have HA := Lib.hid (radd_any a v ha hu)
  dsimp only at *
  rcases (show e = 0 ∨ e ≠ 0 by omega) with h | h
  · subst h
    rw [if_pos rfl]
    go_enter Try.func85, Try.ntmps85
    go_wp2_with fail
    refine (HP.out _).mono ?_
    rintro e w1 ⟨rfl, hbl⟩
    obtain ⟨hc, hf⟩ := bcell hbl
    have hz := hbl.size
    simp only [World.size_alloc] at hc hf hz
    have HB := Lib.hid (((Below.refl _ w).alloc (Nat.le_refl _) _).trans (hbl.mono (by simp)))
    clear hbl
    go_wp2_with fail
    refine (HA.out _).mono ?_
    rintro e w2 ⟨rfl, rfl⟩
    go_wp2
    go_ret2
    exact ⟨rfl, HB.out⟩
  · have h2 : (e == 0) = false := beq_eq_false_iff_ne.2 h
    have h3 : (e != 0) = true := by simp [h]
    rw [if_neg h]
    go_enter Try.func85, Try.ntmps85
    go_wp2_with fail
    refine (HP.out _).mono ?_
    rintro e w1 ⟨rfl, hbl⟩
    have HB := Lib.hid (((Below.refl _ w).alloc (Nat.le_refl _) _).trans (hbl.mono (by simp)))
    clear hbl
    go_wp2
    go_ret2
    exact ⟨rfl, HB.out⟩
end Go.Proofs.Ytcfpbemoocegfaa
