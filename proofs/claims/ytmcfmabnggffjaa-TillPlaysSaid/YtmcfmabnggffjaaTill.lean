/- A till, as it lies in memory; the calls that only look. -/
import Derived.Test.YtmcfmabnggffjaaTillP
import Derived.Test.YtmcfmabnggffjaaSum
import Derived.Test.YtmcfmabnggffjaaChain
namespace Go.Proofs.Ytmcfmabnggffjaa
set_option linter.unusedVariables false
set_option linter.unusedSimpArgs false
set_option linter.unnecessarySimpa false
open Go.RowKit

def tillB (T m : Nat) (t : Tl) (Ah : Option Addr) (ch : Nat) (An : Option Addr) (cn : Nat) : Asn := box m T [.slice Ah t.has.length ch, .slice An t.next.length cn, .int .u64 t.kept]
def wRow (A : Option Addr) (c : Nat) (xs : List Int) : Asn := row 23 1 (.slice A xs.length c) xs.length (words xs)
/-- A till at m, of type T. -/
def tillX (T m : Nat) (t : Tl) : Asn := some_ fun p : (Option Addr × Nat) × (Option Addr × Nat) =>
  star2 (star2 (tillB T m t p.1.1 p.1.2 p.2.1 p.2.2) (wRow p.2.1 p.2.2 t.next)) (wRow p.1.1 p.1.2 t.has)
theorem words_len (xs : List Int) : (words xs).length = xs.length := by simp [words]
theorem words_at {xs : List Int} {i : Nat} (h : i < xs.length) : (words xs)[i]? = some (.int .u64 (xs.getD i 0)) := by simp [words, h]
theorem words_set (xs : List Int) (i : Nat) (v : Int) : (words xs).set i (.int .u64 v) = words (xs.set i v) := by simp [words, List.map_set]
theorem words_app (a b : List Int) : words a ++ words b = words (a ++ b) := by simp [words]
section
variable {w0 w : World} {l : List Asn} {T m : Nat} {t : Tl}
theorem tillX_open (h : Sat w0 w (tillX T m t :: l)) : ∃ Ah ch An cn, Sat w0 w (tillB T m t Ah ch An cn :: l ++ [wRow Ah ch t.has, wRow An cn t.next]) := by
  obtain ⟨⟨⟨Ah, ch⟩, ⟨An, cn⟩⟩, h1⟩ := h.open_some (i := 0) rfl
  have h2 := (h1.open2 (i := 0) rfl).open2 (i := 0) rfl
  exact ⟨Ah, ch, An, cn, by simpa using h2⟩
theorem tillX_shut {Ah An : Option Addr} {ch cn : Nat} (h : Sat w0 w (tillB T m t Ah ch An cn :: l ++ [wRow Ah ch t.has, wRow An cn t.next])) : Sat w0 w (tillX T m t :: l) := by
  have h1 : Sat w0 w ((tillB T m t Ah ch An cn :: l ++ [wRow Ah ch t.has]) ++ [wRow An cn t.next]) := by simpa using h
  have h2 := h1.shut2 (i := 0) rfl
  have h3 := Sat.shut2 (l := star2 (tillB T m t Ah ch An cn) (wRow An cn t.next) :: l) (by simpa using h2) (i := 0) rfl
  have h4 := Sat.shut_some (f := fun p : (Option Addr × Nat) × (Option Addr × Nat) => star2 (star2 (tillB T m t p.1.1 p.1.2 p.2.1 p.2.2) (wRow p.2.1 p.2.2 t.next)) (wRow p.1.1 p.1.2 t.has)) h3 (i := 0) ((Ah, ch), (An, cn)) rfl
  have h5 := h4
  simp only [List.set_cons_zero] at h5
  exact h5
/-- What a look finds. -/
theorem tillX_cells {F : Nat → Prop} (h : (tillX T m t).sat F w) : ∃ Ah ch An cn, w.cell? ⟨m, 0, none⟩ = some (.slice Ah t.has.length ch) ∧ w.cell? ⟨m, 1, none⟩ = some (.slice An t.next.length cn) ∧ w.cell? ⟨m, 2, none⟩ = some (.int .u64 t.kept) ∧ m < w.heap.size ∧
    w.ownsRow 0 23 1 (.slice Ah t.has.length ch) t.has.length (words t.has) ∧ w.ownsRow 0 23 1 (.slice An t.next.length cn) t.next.length (words t.next) := by
  obtain ⟨Ah, ch, An, cn, hS⟩ := tillX_open (Sat.ofOne h)
  have hk := hS.fact (i := 0) rfl
  unfold tillB at hk
  simp only [box_facts, cellFacts, Nat.zero_add, Nat.reduceAdd, and_true] at hk
  obtain ⟨⟨a, _, b, _, c, _⟩, d⟩ := hk
  exact ⟨Ah, ch, An, cn, a, b, c, d, hS.rowOf (i := 2) rfl, hS.rowOf (i := 3) rfl⟩
end
set_option maxHeartbeats 1000000 in
theorem in_any (w : World) (m : Nat) (t : Tl) (F : Nat → Prop) (h : (tillX 54 m t).sat F w) (who : Int) : Calls Try.prog 29 #[.pointer (some ⟨m, 0, none⟩), .int .i64 who] w fun e w' => e = .returned (.int .i64 (inE t who)) ∧ w' = w := by
  obtain ⟨Ah, ch, An, cn, c0, c1, c2, hm, hr, hn⟩ := tillX_cells h
  clear hr hn h
  rcases (show t.inB who ∨ ¬ t.inB who from Decidable.em _) with hi | hi
  · have e1 : inE t who = 0 := if_pos hi
    rw [e1]
    clear e1
    obtain ⟨i0, i1⟩ := hi
    go_enter Try.func29, Try.ntmps29
    go_wp2
    go_ret
    exact ⟨rfl, rfl⟩
  · have e1 : inE t who = 1 := if_neg hi
    rw [e1]
    clear e1
    rcases (show who < 0 ∨ (0 ≤ who ∧ (t.has.length : Int) ≤ who) by unfold Tl.inB at hi; omega) with h0 | ⟨h0, h1⟩
    · skip
      go_enter Try.func29, Try.ntmps29
      go_wp2
      go_ret
      exact ⟨rfl, rfl⟩
    · skip
      go_enter Try.func29, Try.ntmps29
      go_wp2
      go_ret
      exact ⟨rfl, rfl⟩
set_option maxHeartbeats 1000000 in
theorem rin_any (w : World) (m : Nat) (t : Tl) (F : Nat → Prop) (h : (tillX 59 m t).sat F w) (who : Int) : Calls Try.prog 31 #[.pointer (some ⟨m, 0, none⟩), .int .i64 who] w fun e w' => e = .returned (.bool (decide (t.inB who))) ∧ w' = w := by
  obtain ⟨Ah, ch, An, cn, c0, c1, c2, hm, hr, hn⟩ := tillX_cells h
  clear hr hn h
  rcases (show t.inB who ∨ ¬ t.inB who from Decidable.em _) with hi | hi
  · have e1 : decide (t.inB who) = true := by simp [hi]
    rw [e1]
    clear e1
    obtain ⟨i0, i1⟩ := hi
    go_enter Try.func31, Try.ntmps31
    go_wp2
    go_ret
    exact ⟨rfl, rfl⟩
  · have e1 : decide (t.inB who) = false := by simp [hi]
    rw [e1]
    clear e1
    rcases (show who < 0 ∨ (0 ≤ who ∧ (t.has.length : Int) ≤ who) by unfold Tl.inB at hi; omega) with h0 | ⟨h0, h1⟩
    · skip
      go_enter Try.func31, Try.ntmps31
      go_wp2
      go_ret
      exact ⟨rfl, rfl⟩
    · skip
      have hd : decide (who < (t.has.length : Int)) = false := by simp; omega
      go_enter Try.func31, Try.ntmps31
      go_wp2
      go_ret
      exact ⟨rfl, rfl⟩
set_option maxHeartbeats 1000000 in
theorem many_any (w : World) (m : Nat) (t : Tl) (F : Nat → Prop) (h : (tillX 54 m t).sat F w)  : Calls Try.prog 25 #[.pointer (some ⟨m, 0, none⟩)] w fun e w' => e = .returned (.int .i64 t.has.length) ∧ w' = w := by
  obtain ⟨Ah, ch, An, cn, c0, c1, c2, hm, hr, hn⟩ := tillX_cells h
  clear hr hn h
  go_enter Try.func25, Try.ntmps25
  go_wp2
  go_ret
  exact ⟨rfl, rfl⟩
set_option maxHeartbeats 1000000 in
theorem kept_any (w : World) (m : Nat) (t : Tl) (F : Nat → Prop) (h : (tillX 54 m t).sat F w)  : Calls Try.prog 14 #[.pointer (some ⟨m, 0, none⟩)] w fun e w' => e = .returned (.int .u64 t.kept) ∧ w' = w := by
  obtain ⟨Ah, ch, An, cn, c0, c1, c2, hm, hr, hn⟩ := tillX_cells h
  clear hr hn h
  go_enter Try.func14, Try.ntmps14
  go_wp2
  go_ret
  exact ⟨rfl, rfl⟩
set_option maxHeartbeats 1000000 in
theorem has_any (w : World) (m : Nat) (t : Tl) (F : Nat → Prop) (h : (tillX 54 m t).sat F w) (ok : t.Ok) (who : Int) : Calls Try.prog 13 #[.pointer (some ⟨m, 0, none⟩), .int .i64 who] w fun e w' => e = .returned (.int .u64 (if t.inB who then t.has.getD who.toNat 0 else 0)) ∧ w' = w := by
  obtain ⟨Ah, ch, An, cn, c0, c1, c2, hm, hr, hn⟩ := tillX_cells h
  have HI := Lib.hid (in_any w m t F h who)
  rcases (show t.inB who ∨ ¬ t.inB who from Decidable.em _) with hi | hi
  · rw [show inE t who = 0 from if_pos hi] at HI
    rw [if_pos hi]
    obtain ⟨i, rfl, hil⟩ := Tl.inB_nat hi
    have hl := ok.few
    have hln := ok.len
    obtain ⟨g, hg, hc, _, _⟩ := row_at hr (j := i) (by omega)
    have hci := hc _ (words_at (by omega))
    subst hg
    have hil2 : i < t.has.length := by omega
    simp only [Int.toNat_natCast]
    obtain ⟨x, hx⟩ : ∃ x, t.has.getD i 0 = x := ⟨_, rfl⟩
    rw [hx] at hci
    rw [hx]
    clear hr hn h hi hc hln hx
    go_enter Try.func13, Try.ntmps13
    go_wp2_with fail
    refine HI.out.mono ?_
    rintro e w1 ⟨rfl, rfl⟩
    go_wp2
    go_ret
    exact ⟨rfl, rfl⟩
  · rw [show inE t who = 1 from if_neg hi] at HI
    rw [if_neg hi]
    clear hr hn h hi
    go_enter Try.func13, Try.ntmps13
    go_wp2_with fail
    refine HI.out.mono ?_
    rintro e w1 ⟨rfl, rfl⟩
    go_wp2
    go_ret
    exact ⟨rfl, rfl⟩
set_option maxHeartbeats 1000000 in
theorem next_any (w : World) (m : Nat) (t : Tl) (F : Nat → Prop) (h : (tillX 54 m t).sat F w) (ok : t.Ok) (who : Int) : Calls Try.prog 16 #[.pointer (some ⟨m, 0, none⟩), .int .i64 who] w fun e w' => e = .returned (.int .u64 (if t.inB who then t.next.getD who.toNat 0 else 0)) ∧ w' = w := by
  obtain ⟨Ah, ch, An, cn, c0, c1, c2, hm, hr, hn⟩ := tillX_cells h
  have HI := Lib.hid (in_any w m t F h who)
  rcases (show t.inB who ∨ ¬ t.inB who from Decidable.em _) with hi | hi
  · rw [show inE t who = 0 from if_pos hi] at HI
    rw [if_pos hi]
    obtain ⟨i, rfl, hil⟩ := Tl.inB_nat hi
    have hl := ok.few
    have hln := ok.len
    obtain ⟨g, hg, hc, _, _⟩ := row_at hn (j := i) (by omega)
    have hci := hc _ (words_at (by omega))
    subst hg
    have hil2 : i < t.next.length := by omega
    simp only [Int.toNat_natCast]
    obtain ⟨x, hx⟩ : ∃ x, t.next.getD i 0 = x := ⟨_, rfl⟩
    rw [hx] at hci
    rw [hx]
    clear hr hn h hi hc hln hx
    go_enter Try.func16, Try.ntmps16
    go_wp2_with fail
    refine HI.out.mono ?_
    rintro e w1 ⟨rfl, rfl⟩
    go_wp2
    go_ret
    exact ⟨rfl, rfl⟩
  · rw [show inE t who = 1 from if_neg hi] at HI
    rw [if_neg hi]
    clear hr hn h hi
    go_enter Try.func16, Try.ntmps16
    go_wp2_with fail
    refine HI.out.mono ?_
    rintro e w1 ⟨rfl, rfl⟩
    go_wp2
    go_ret
    exact ⟨rfl, rfl⟩
end Go.Proofs.Ytmcfmabnggffjaa
