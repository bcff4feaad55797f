/- Walks over fees: an amount with its fee, a way's amounts; the law's list of fees; the same amounts? -/
import Derived.Test.YtonjibjghijacaaFeesP
import Derived.Test.YtonjibjghijacaaAwake02
import Derived.Test.YtonjibjghijacaaRecs
import Derived.Test.YtonjibjghijacaaChain
import Derived.Laws.MakeOwn
import Derived.LoopTactic
namespace Go.Proofs.Ytonjibjghijacaa
set_option linter.unusedVariables false
set_option linter.unusedSimpArgs false
set_option linter.unnecessarySimpa false
open Go.RowKit

def feeC (p : Int × Int) : List Value := [.int .u64 p.1, .int .u64 p.2]
theorem feeC_len (p : Int × Int) : (feeC p).length = 2 := rfl
theorem wordsR (xs : List Int) : words xs = xs.flatMap fun a => [Value.int .u64 a] := by
  unfold words
  induction xs with
  | nil => rfl
  | cons a l ih => simp at ih ⊢; exact ih
theorem info_u64 : (Try.prog.info? 22).map (fun i => (i.zero, i.size, i.bytes)) = some (some (.int .u64 0), 1, 8) := by kernel_rfl
theorem info_fee : (Try.prog.info? 43).map (fun i => (i.zero, i.size, i.bytes)) = some (some (.agg #[.int .u64 0, .int .u64 0]), 2, 16) := by kernel_rfl
theorem words_len (xs : List Int) : (words xs).length = xs.length := by simp [words]
theorem words_at {xs : List Int} {i : Nat} (h : i < xs.length) : (words xs)[i]? = some (.int .u64 (xs.getD i 0)) := by simp [words, h]
theorem words_set (xs : List Int) (i : Nat) (v : Int) : (words xs).set i (.int .u64 v) = words (xs.set i v) := by simp [words, List.map_set]
theorem words_app (a b : List Int) : words a ++ words b = words (a ++ b) := by simp [words]
theorem mk_u64 (w : World) (z : Int) (n : Nat) (hz : z = n) (hn : n ≤ 100000) : (Instr.makeSlice 36 (.int .i64 z) (.int .i64 z)).run Try.prog w = .ok (.slice (some ⟨w.heap.size, 0, none⟩) n n) (w.alloc (.cells (Array.replicate n (.int .u64 0)) 22)) := by
  subst hz
  obtain ⟨i, hi, h1⟩ := Option.map_eq_some_iff.1 info_u64
  injection h1 with h1 h2
  injection h2 with h2 h3
  have h := run_make (P := Try.prog) w 36 22 i (.int .u64 0) Try.underlying36 hi h1 .i64 .i64 (n : Int) (n : Int) (by omega) (by omega) (by rw [h3]; omega) (by omega)
  rw [h2, Nat.mul_one] at h
  simp only [Int.toNat_natCast] at h
  rw [h]
  congr 3
  apply Array.ext
  · simp [madeCells]
  · intro j h1 h2
    simp [madeCells, Value.cells, Nat.mod_one]
set_option maxRecDepth 100000 in
set_option maxHeartbeats 2000000 in
theorem over_any (base rate a : Int) (hb : U64 base) (hr : U64 rate) (ha : U64 a) (w : World) : Calls Try.prog 23 #[.agg #[.int .u64 base, .int .u64 rate], .int .u64 a] w fun e w' =>
    e = .returned (.tuple #[.int .u64 (overP base rate a).1, .int .i64 (overP base rate a).2]) ∧ Below w.heap.size w w' := by
  have HP := Lib.hid (of_any base rate a hb hr ha)
  have hu := ofP_u hb hr ha
  unfold overP
  generalize ofP base rate a = x at *
  obtain ⟨v, e⟩ := x
  have HA := Lib.hid (add_any a v ha hu)
  dsimp only at *
  rcases (show e = 0 ∨ e ≠ 0 by omega) with h | h
  · subst h
    rw [if_pos rfl]
    go_enter Try.func23, Try.ntmps23
    go_wp2_with fail
    refine (HP.out _).mono ?_
    rintro e w1 ⟨rfl, hbl⟩
    obtain ⟨hc, hf⟩ := bcell hbl
    have hz := hbl.size
    simp only [World.size_alloc] at hc hf hz
    have HB := Lib.hid (((Below.refl _ w).alloc (Nat.le_refl _) _).trans (hbl.mono (by simp)))
    clear hbl
    go_wp2_with fail
    refine (HA.out _).mono ?_
    rintro e w2 ⟨rfl, rfl⟩
    go_wp2
    go_ret2
    exact ⟨rfl, HB.out⟩
  · have h2 : (e == 0) = false := beq_eq_false_iff_ne.2 h
    have h3 : (e != 0) = true := by simp [h]
    rw [if_neg h]
    go_enter Try.func23, Try.ntmps23
    go_wp2_with fail
    refine (HP.out _).mono ?_
    rintro e w1 ⟨rfl, hbl⟩
    have HB := Lib.hid (((Below.refl _ w).alloc (Nat.le_refl _) _).trans (hbl.mono (by simp)))
    clear hbl
    go_wp2
    go_ret2
    exact ⟨rfl, HB.out⟩
set_option maxRecDepth 100000 in
set_option maxHeartbeats 2000000 in
theorem rof_any (base rate a : Int) (hb : U64 base) (hr : U64 rate) (ha : U64 a) (w : World) : Calls Try.prog 22 #[.agg #[.int .u64 base, .int .u64 rate], .int .u64 a] w fun e w' =>
    e = .returned (.tuple #[.int .u64 (ofP base rate a).1, .int .i64 (ofP base rate a).2]) ∧ Below w.heap.size w w' := by
  have HP := Lib.hid (rpart_any a rate 1000000 ha hr ⟨by decide, by decide⟩)
  have hu := partP_u (d := 1000000) ha hr (by decide)
  unfold ofP
  generalize partP a rate 1000000 = x at *
  obtain ⟨v, e⟩ := x
  have HA := Lib.hid (radd_any base v hb hu)
  dsimp only at *
  rcases (show e = 0 ∨ e ≠ 0 by omega) with h | h
  · subst h
    rw [if_pos rfl]
    go_enter Try.func22, Try.ntmps22
    go_wp2_with fail
    refine (HP.out _).mono ?_
    rintro e w1 ⟨rfl, hbl⟩
    obtain ⟨hc, hf⟩ := bcell hbl
    have hz := hbl.size
    simp only [World.size_alloc] at hc hf hz
    have HB := Lib.hid (((Below.refl _ w).alloc (Nat.le_refl _) _).trans (hbl.mono (by simp)))
    clear hbl
    go_wp2_with fail
    refine (HA.out _).mono ?_
    rintro e w2 ⟨rfl, rfl⟩
    go_wp2
    go_ret2
    exact ⟨rfl, HB.out⟩
  · have h2 : (e == 0) = false := beq_eq_false_iff_ne.2 h
    have h3 : (e != 0) = true := by simp [h]
    rw [if_neg h]
    go_enter Try.func22, Try.ntmps22
    go_wp2_with fail
    refine (HP.out _).mono ?_
    rintro e w1 ⟨rfl, hbl⟩
    have HB := Lib.hid (((Below.refl _ w).alloc (Nat.le_refl _) _).trans (hbl.mono (by simp)))
    clear hbl
    go_wp2
    go_ret2
    exact ⟨rfl, HB.out⟩
set_option maxRecDepth 100000 in
set_option maxHeartbeats 2000000 in
theorem rover_any (base rate a : Int) (hb : U64 base) (hr : U64 rate) (ha : U64 a) (w : World) : Calls Try.prog 38 #[.agg #[.int .u64 base, .int .u64 rate], .int .u64 a] w fun e w' =>
    e = .returned (.tuple #[.int .u64 (overP base rate a).1, .int .i64 (overP base rate a).2]) ∧ Below w.heap.size w w' := by
  have HP := Lib.hid (rof_any base rate a hb hr ha)
  have hu := ofP_u hb hr ha
  unfold overP
  generalize ofP base rate a = x at *
  obtain ⟨v, e⟩ := x
  have HA := Lib.hid (radd_any a v ha hu)
  dsimp only at *
  rcases (show e = 0 ∨ e ≠ 0 by omega) with h | h
  · subst h
    rw [if_pos rfl]
    go_enter Try.func38, Try.ntmps38
    go_wp2_with fail
    refine (HP.out _).mono ?_
    rintro e w1 ⟨rfl, hbl⟩
    obtain ⟨hc, hf⟩ := bcell hbl
    have hz := hbl.size
    simp only [World.size_alloc] at hc hf hz
    have HB := Lib.hid (((Below.refl _ w).alloc (Nat.le_refl _) _).trans (hbl.mono (by simp)))
    clear hbl
    go_wp2_with fail
    refine (HA.out _).mono ?_
    rintro e w2 ⟨rfl, rfl⟩
    go_wp2
    go_ret2
    exact ⟨rfl, HB.out⟩
  · have h2 : (e == 0) = false := beq_eq_false_iff_ne.2 h
    have h3 : (e != 0) = true := by simp [h]
    rw [if_neg h]
    go_enter Try.func38, Try.ntmps38
    go_wp2_with fail
    refine (HP.out _).mono ?_
    rintro e w1 ⟨rfl, hbl⟩
    have HB := Lib.hid (((Below.refl _ w).alloc (Nat.le_refl _) _).trans (hbl.mono (by simp)))
    clear hbl
    go_wp2
    go_ret2
    exact ⟨rfl, HB.out⟩
set_option maxRecDepth 100000 in
set_option maxHeartbeats 2000000 in
theorem fees_any (w : World) (A : Option Addr) (c : Nat) (l : List (Int × Int)) (h : Recs 2 feeC w A c l) (hl : l.length ≤ 1000) : Calls Try.prog 17 #[.slice A l.length c] w fun e w' => ∃ A' c', e = .returned (.slice A' l.length c') ∧ Sat w w' [rest w (· < w.heap.size), row 43 2 (.slice A' l.length c') l.length (l.flatMap feeC)] := by
  have H0 := Lib.hid ((Sat.pushRest w).nilRow 43 2)
  have HR := Lib.hid h
  clear h
  go_enter Try.func17, Try.ntmps17
  go_wp2
  go_loopw [3, 8] (fun v i wr => ∃ (k : Nat) (A' : Option Addr) (c' : Nat), k ≤ l.length ∧ i = .int .i64 k ∧ v = .slice A' k c' ∧ Sat w wr [rest w (· < w.heap.size), row 43 2 (.slice A' k c') k ((l.take k).flatMap feeC)]) (fun _ i _ => l.length - (intOf i).toNat)
  case atStart => exact ⟨0, none, 0, Nat.zero_le _, rfl, rfl, H0.out⟩
  case round =>
    obtain ⟨k, A', c', hk, rfl, rfl, hS⟩ := hrel
    clear H0
    by_cases hlt : k < l.length
    · have hR := HR.out.mono (src_rest hS (i := 0) rfl HR.out.src (src_lt HR.out.src))
      obtain ⟨b, off, rfl, hb, hc⟩ := hR.at feeC_len (by decide) hlt
      have c0 := hc 0 _ rfl
      have c1 := hc 1 _ rfl
      have htk : (l.take (k + 1)).flatMap feeC = (l.take k).flatMap feeC ++ feeC l[k] := by rw [List.take_succ_eq_append_getElem hlt, recs_app, recs_one]
      generalize l[k] = p at *
      obtain ⟨x, y⟩ := p
      dsimp only at c0 c1
      rw [Nat.add_zero] at c0
      have hS2 := (hS.alloc #[.int .u64 x, .int .u64 y] 46).alloc #[.int .u64 x, .int .u64 y] 43
      try simp only [List.cons_append, List.nil_append, List.set_cons_succ, List.set_cons_zero, Nat.zero_add, Nat.reduceAdd] at hS2
      have HS2 := Lib.hid hS2
      have HT := Lib.hid htk
      clear hR hc htk hS hS2
      go_wp2_with (first
        | (at_builtin; refine wpList_append_sat rfl _ _ 34 rfl HS2.out 1 43 (.agg #[.int .u64 0, .int .u64 0]) 2 16 Try.underlying34 info_fee rfl (by decide) (.slice A' k c') k ((l.take k).flatMap feeC) ?a0 rfl (some ⟨_, 0, none⟩) 1 1 [.int .u64 x, .int .u64 y] ?a1 (fun h => by cases h) ?a2 (box_src HS2.out (i := 3) rfl) ?a3 ?a4 ?a5 ?a6)
        | fail)
      try (case a0 => go_simp)
      try (case a1 => go_simp)
      try (case a2 => rfl)
      case a3 => (intro u hu; simp at hu; rcases hu with rfl | rfl <;> rfl)
      case a4 => unfold maxLen; omega
      case a5 => omega
      case a6 =>
        intro A2 c2 w3 h3 hA2 hg2
        try simp only [List.cons_append, List.nil_append, List.set_cons_succ, List.set_cons_zero, Nat.zero_add, Nat.reduceAdd] at h3
        have h4 := h3.left (l := [_, _]) (l' := [_, _])
        rw [show ((l.take k).flatMap feeC ++ [Value.int .u64 x, .int .u64 y]) = (l.take (k + 1)).flatMap feeC from HT.out.symm] at h4
        have H4 := Lib.hid h4
        clear hA2 hg2 h3 h4 c0 c1
        go_wp2
        go_roundw
        case rel => exact ⟨k + 1, A2, c2, by omega, by go_num, rfl, H4.out⟩
        case measure => (simp [intOf]; try omega)
    · obtain rfl : k = l.length := by omega
      rw [List.take_length] at hS
      have HS := Lib.hid hS
      clear hS
      go_wp2
      go_ret
      exact ⟨A', c', rfl, HS.out⟩
def UpRel (n : Nat) (i : Value) : Prop := ∃ k : Nat, k ≤ n ∧ i = .int .i64 k
set_option maxRecDepth 100000 in
set_option maxHeartbeats 2000000 in
theorem same_any (w : World) (A B : Option Addr) (c d : Nat) (xs : List Int) (h : Words w A c xs) (h2 : Words w B d xs) : Calls Try.prog 20 #[.slice A xs.length c, .slice B xs.length d] w fun e w' => e = .returned (.bool true) ∧ Below w.heap.size w w' := by
  have HA := Lib.hid h
  have HB := Lib.hid h2
  have H0 := Lib.hid (Sat.pushRest w)
  have hl := h.len
  have hll : xs.length ≤ 9223372036854775807 := by omega
  clear h h2
  go_enter Try.func20, Try.ntmps20
  go_wp2
  go_loopw [13] (fun i wr => ∃ k : Nat, k ≤ xs.length ∧ i = .int .i64 k ∧ Sat w wr [rest w (· < w.heap.size)]) (fun i _ => xs.length - (intOf i).toNat)
  case atStart => exact ⟨0, Nat.zero_le _, rfl, H0.out⟩
  case round =>
    obtain ⟨k, hk, rfl, hS⟩ := hrel
    clear H0
    by_cases hlt : k < xs.length
    · have hSd := hS.drew
      have hA := HA.out.mono (src_rest hSd (i := 0) rfl HA.out.src (src_lt HA.out.src))
      have hB := HB.out.mono (src_rest hSd (i := 0) rfl HB.out.src (src_lt HB.out.src))
      obtain ⟨b, off, rfl, hb, c0, -, -⟩ := hA.at hlt
      obtain ⟨b2, off2, rfl, hb2, d0, -, -⟩ := hB.at hlt
      generalize xs.getD k 0 = x at *
      have HS := Lib.hid hSd
      clear hS hSd hA hB
      go_wp2_with fail
      refine region_chain (E := []) (kn := [true, true, true, true, true, true, true, true, true]) (mask := [true, true, true, true, true, true, true, true, true]) (vs := [?vq0_0, ?vq0_1, ?vq0_2, ?vq0_3, ?vq0_4, ?vq0_5, ?vq0_6, ?vq0_7, ?vq0_8]) (S := fun w' => w' = wr.drew) (by kernel_rfl) (by kernel_rfl) (by kernel_rfl) (by kernel_rfl) (by kernel_rfl) ?hSq ?hchq
      case hSq => exact rfl
      case hchq =>
        refine chain_nil (by kernel_rfl) rfl ?opsq0 ?endq0
        case opsq0 =>
          simp only [OpsAt, fillT, List.setIfInBounds_toArray, List.set_cons_zero, List.set_cons_succ]
          refine ⟨.inl ⟨by rfl, opOk_pure fun wS hS => ?_⟩, ?_⟩
          · ((subst hS; go_simp)); try (with_reducible rfl)
          refine ⟨.inl ⟨by rfl, opOk_pure fun wS hS => ?_⟩, ?_⟩
          · ((subst hS; go_simp)); try (with_reducible rfl)
          refine ⟨.inl ⟨by rfl, opOk_pure fun wS hS => ?_⟩, ?_⟩
          · ((subst hS; go_simp)); try (with_reducible rfl)
          refine ⟨.inl ⟨by rfl, opOk_pure fun wS hS => ?_⟩, ?_⟩
          · ((subst hS; go_simp)); try (with_reducible rfl)
          refine ⟨.inl ⟨by rfl, opOk_pure fun wS hS => ?_⟩, ?_⟩
          · ((subst hS; go_simp)); try (with_reducible rfl)
          refine ⟨.inl ⟨by rfl, opOk_pure fun wS hS => ?_⟩, ?_⟩
          · ((subst hS; go_simp)); try (with_reducible rfl)
          refine ⟨.inl ⟨by rfl, opOk_pure fun wS hS => ?_⟩, ?_⟩
          · ((subst hS; go_simp)); try (with_reducible rfl)
          refine ⟨.inl ⟨by rfl, opOk_pure fun wS hS => ?_⟩, ?_⟩
          · ((subst hS; go_simp)); try (with_reducible rfl)
          refine ⟨.inl ⟨by rfl, opOk_pure fun wS hS => ?_⟩, ?_⟩
          · ((subst hS; go_simp)); try (with_reducible rfl)
          try trivial
        case endq0 =>
          intro wE hE
          simp only [fillT, List.setIfInBounds_toArray, List.set_cons_zero, List.set_cons_succ]
          rw [hE]
          go_wp2
          go_roundw
          case rel => exact ⟨k + 1, by omega, by go_num, HS.out⟩
          case measure => (simp [intOf]; try omega)
    · obtain rfl : k = xs.length := by omega
      have HS := Lib.hid hS
      clear hS
      go_wp2
      go_ret
      exact ⟨rfl, HS.out.below (i := 0) rfl⟩
end Go.Proofs.Ytonjibjghijacaa
