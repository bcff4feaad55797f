/- Walks over the till's calls: Order, Keep, Give. -/
import Derived.Test.YtmcfmabnggffjaaTill
namespace Go.Proofs.Ytmcfmabnggffjaa
set_option linter.unusedVariables false
set_option linter.unusedSimpArgs false
set_option linter.unnecessarySimpa false
open Go.RowKit

theorem wrap_u64 (n : Int) : IntKind.u64.wrap n = n % 18446744073709551616 := by rw [IntKind.wrap_u64]
theorem wrap_u {n : Int} (h0 : 0 ≤ n) (h1 : n < 18446744073709551616) : IntKind.u64.wrap n = n := by rw [IntKind.wrap_u64]; omega

set_option maxRecDepth 100000 in
set_option maxHeartbeats 1000000 in
theorem order_any (w : World) (m : Nat) (t : Tl) (ok : t.Ok) (who n : Int) (hn : U64 n) (F : Nat → Prop) (h : (tillX 54 m t).sat F w) : Calls Try.prog 15 #[.pointer (some ⟨m, 0, none⟩), .int .i64 who, .int .u64 n] w fun e w' => e = .returned (.int .i64 (ordE t who n)) ∧ ∃ F', (tillX 54 m (ordS t who n)).sat F' w' ∧ Moves F F' w w' := by
  obtain ⟨Ah, ch, An, cn, hS⟩ := tillX_open (Sat.ofOne h)
  dsimp only [List.cons_append, List.nil_append] at hS
  have hk := hS.all
  simp only [allFacts, tillB, wRow, box_facts, row_facts, emp_facts, cellFacts, Nat.zero_add, Nat.reduceAdd, true_and, and_true] at hk
  have HI := Lib.hid (in_any w m t F h who)
  have H := Lib.hid h
  clear h
  rcases (show t.inB who ∨ ¬ t.inB who from Decidable.em _) with hi | hi
  rotate_left 1
  · rw [show inE t who = 1 from if_neg hi] at HI
    have HH := Lib.hid hi
    clear hi
    have e1 : ordE t who n = 1 := if_neg HH.out
    have s1 : ordS t who n = t := by unfold ordS; rw [show ordE t who n = 1 from if_neg HH.out]; rfl
    rw [s1, e1]
    clear e1 s1
    go_enter Try.func15, Try.ntmps15
    go_wp2_with fail
    refine HI.out.mono ?_
    rintro e w1 ⟨rfl, rfl⟩
    go_wp2
    go_ret
    exact ⟨rfl, _, H.out, Moves.refl _ _⟩
  · rw [show inE t who = 0 from if_pos hi] at HI
    have HB := Lib.hid hi
    obtain ⟨i, rfl, hil⟩ := Tl.inB_nat hi
    have hl := ok.few
    have hln := ok.len
    obtain ⟨g, hg, hc, hfz, hglt⟩ := row_at (hS.rowOf (i := 3) rfl) (j := i) (by omega)
    have hci := hc _ (words_at (by omega))
    subst hg
    have hil2 : i < t.next.length := by omega
    have hu := (ok.n).getD hil2
    obtain ⟨x, hx⟩ : ∃ x, t.next.getD i 0 = x := ⟨_, rfl⟩
    rw [hx] at hci hu
    have HX := Lib.hid hx
    clear hx hi hc
    rcases (show x = n ∨ x ≠ n by omega) with hxn | hxn
    rotate_left 1
    · have b1 : (n == x) = false := beq_eq_false_iff_ne.2 (fun h => hxn h.symm)
      have b2 : (x == n) = false := beq_eq_false_iff_ne.2 hxn
      have b3 : (n != x) = true := by simp; omega
      have b4 : (x != n) = true := by simp [hxn]
      have HN := Lib.hid hxn
      clear hxn
      have e1 : ordE t (i : Int) n = 22 := by unfold ordE; rw [if_pos HB.out, Int.toNat_natCast, HX.out, if_neg HN.out]
      have s1 : ordS t (i : Int) n = t := by unfold ordS ordE; rw [if_pos HB.out, Int.toNat_natCast, HX.out, if_neg HN.out]; rfl
      rw [s1, e1]
      clear e1 s1
      go_enter Try.func15, Try.ntmps15
      go_wp2_with fail
      refine HI.out.mono ?_
      rintro e w1 ⟨rfl, rfl⟩
      go_wp2
      go_ret
      exact ⟨rfl, _, H.out, Moves.refl _ _⟩
    · subst hxn
      have e1 : ordE t (i : Int) x = 0 := by unfold ordE; rw [if_pos HB.out, Int.toNat_natCast, HX.out, if_pos rfl]
      have s1 : ordS t (i : Int) x = { t with next := t.next.set i ((x + 1) % 18446744073709551616) } := by unfold ordS; rw [e1, if_pos rfl, Int.toNat_natCast]
      rw [s1, e1]
      clear e1 s1
      have ew := wrap_u64 (x + 1)
      have ew2 : x + 1 < 18446744073709551616 → (x + 1) % 18446744073709551616 = x + 1 := fun h => by omega
      have HE := Lib.hid ew2
      clear ew2
      have hfin := tillX_shut (t := { t with next := t.next.set i ((x + 1) % 18446744073709551616) }) (l := [_]) (by have := hS.setRow 3 rfl i (by rw [words_len]; exact hil2) (.int .u64 ((x + 1) % 18446744073709551616)); rw [words_set] at this; unfold wRow at *; unfold tillB at *; simpa using this)
      have HFN := Lib.hid hfin
      clear hfin
      go_enter Try.func15, Try.ntmps15
      go_wp2_with fail
      refine HI.out.mono ?_
      rintro e w1 ⟨rfl, rfl⟩
      go_wp2
      go_ret
      exact ⟨rfl, HFN.out.toMoves⟩
set_option maxRecDepth 100000 in
set_option maxHeartbeats 1000000 in
theorem rorder_any (w : World) (m : Nat) (t : Tl) (ok : t.Ok) (who n : Int) (hn : U64 n) (F : Nat → Prop) (h : (tillX 59 m t).sat F w) : Calls Try.prog 20 #[.pointer (some ⟨m, 0, none⟩), .int .i64 who, .int .u64 n] w fun e w' => e = .returned (.int .i64 (ordE t who n)) ∧ ∃ F', (tillX 59 m (ordS t who n)).sat F' w' ∧ Moves F F' w w' := by
  obtain ⟨Ah, ch, An, cn, hS⟩ := tillX_open (Sat.ofOne h)
  dsimp only [List.cons_append, List.nil_append] at hS
  have hk := hS.all
  simp only [allFacts, tillB, wRow, box_facts, row_facts, emp_facts, cellFacts, Nat.zero_add, Nat.reduceAdd, true_and, and_true] at hk
  have HI := Lib.hid (rin_any w m t F h who)
  have H := Lib.hid h
  clear h
  rcases (show t.inB who ∨ ¬ t.inB who from Decidable.em _) with hi | hi
  rotate_left 1
  · rw [show decide (t.inB who) = false from by simp [hi]] at HI
    have HH := Lib.hid hi
    clear hi
    have e1 : ordE t who n = 1 := if_neg HH.out
    have s1 : ordS t who n = t := by unfold ordS; rw [show ordE t who n = 1 from if_neg HH.out]; rfl
    rw [s1, e1]
    clear e1 s1
    go_enter Try.func20, Try.ntmps20
    go_wp2_with fail
    refine HI.out.mono ?_
    rintro e w1 ⟨rfl, rfl⟩
    go_wp2
    go_ret
    exact ⟨rfl, _, H.out, Moves.refl _ _⟩
  · rw [show decide (t.inB who) = true from by simp [hi]] at HI
    have HB := Lib.hid hi
    obtain ⟨i, rfl, hil⟩ := Tl.inB_nat hi
    have hl := ok.few
    have hln := ok.len
    obtain ⟨g, hg, hc, hfz, hglt⟩ := row_at (hS.rowOf (i := 3) rfl) (j := i) (by omega)
    have hci := hc _ (words_at (by omega))
    subst hg
    have hil2 : i < t.next.length := by omega
    have hu := (ok.n).getD hil2
    obtain ⟨x, hx⟩ : ∃ x, t.next.getD i 0 = x := ⟨_, rfl⟩
    rw [hx] at hci hu
    have HX := Lib.hid hx
    clear hx hi hc
    rcases (show x = n ∨ x ≠ n by omega) with hxn | hxn
    rotate_left 1
    · have b1 : (n == x) = false := beq_eq_false_iff_ne.2 (fun h => hxn h.symm)
      have b2 : (x == n) = false := beq_eq_false_iff_ne.2 hxn
      have b3 : (n != x) = true := by simp; omega
      have b4 : (x != n) = true := by simp [hxn]
      have HN := Lib.hid hxn
      clear hxn
      have e1 : ordE t (i : Int) n = 22 := by unfold ordE; rw [if_pos HB.out, Int.toNat_natCast, HX.out, if_neg HN.out]
      have s1 : ordS t (i : Int) n = t := by unfold ordS ordE; rw [if_pos HB.out, Int.toNat_natCast, HX.out, if_neg HN.out]; rfl
      rw [s1, e1]
      clear e1 s1
      go_enter Try.func20, Try.ntmps20
      go_wp2_with fail
      refine HI.out.mono ?_
      rintro e w1 ⟨rfl, rfl⟩
      go_wp2
      go_ret
      exact ⟨rfl, _, H.out, Moves.refl _ _⟩
    · subst hxn
      have e1 : ordE t (i : Int) x = 0 := by unfold ordE; rw [if_pos HB.out, Int.toNat_natCast, HX.out, if_pos rfl]
      have s1 : ordS t (i : Int) x = { t with next := t.next.set i ((x + 1) % 18446744073709551616) } := by unfold ordS; rw [e1, if_pos rfl, Int.toNat_natCast]
      rw [s1, e1]
      clear e1 s1
      have ew := wrap_u64 (x + 1)
      have ew2 : x + 1 < 18446744073709551616 → (x + 1) % 18446744073709551616 = x + 1 := fun h => by omega
      have HE := Lib.hid ew2
      clear ew2
      have hfin := tillX_shut (t := { t with next := t.next.set i ((x + 1) % 18446744073709551616) }) (l := [_]) (by have := hS.setRow 3 rfl i (by rw [words_len]; exact hil2) (.int .u64 ((x + 1) % 18446744073709551616)); rw [words_set] at this; unfold wRow at *; unfold tillB at *; simpa using this)
      have HFN := Lib.hid hfin
      clear hfin
      go_enter Try.func20, Try.ntmps20
      go_wp2_with fail
      refine HI.out.mono ?_
      rintro e w1 ⟨rfl, rfl⟩
      go_wp2
      go_ret
      exact ⟨rfl, HFN.out.toMoves⟩
end Go.Proofs.Ytmcfmabnggffjaa
