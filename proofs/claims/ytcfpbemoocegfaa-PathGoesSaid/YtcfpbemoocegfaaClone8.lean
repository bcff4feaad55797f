/- Clones of webs' rows. -/
import Derived.Test.YtcfpbemoocegfaaWebI
import Derived.Test.YtcfpbemoocegfaaSteps
import Derived.Test.YtcfpbemoocegfaaReach07
import Derived.Test.YtcfpbemoocegfaaAddA
namespace Go.Proofs.Ytcfpbemoocegfaa
set_option linter.unusedVariables false
set_option linter.unusedSimpArgs false
set_option linter.unnecessarySimpa false
open Go Go.RowKit

set_option maxRecDepth 100000 in
set_option maxHeartbeats 2000000 in
theorem cloneS8_any (w : World) (A : Option Addr) (c : Nat) (l : List (Int × Int)) (h : Recs 2 spC w A c l) (hl : l.length ≤ 1000) : Calls Try.prog 96 #[.slice A l.length c] w fun e w' => ∃ A' c', e = .returned (.slice A' l.length c') ∧ Sat w w' [rest w (· < w.heap.size), row 107 2 (.slice A' l.length c') l.length (l.flatMap spC)] := by
  have q : ∀ (w : World) (a : Option Addr) (n c n' c' : Nat), (binOp .eql 29 (.slice a n c) (.slice none n' c')).run Try.prog w = .ok (.bool a.isNone) w := fun w a n c n' c' => Lib.run_eql_slice_nil w _ _ a n c n' c' Try.underlying29
  cases A with
  | none =>
    obtain ⟨hl0, rfl⟩ := h.none_ rfl
    obtain rfl := List.eq_nil_of_length_eq_zero hl0
    have H0 := Lib.hid ((Sat.pushRest w).nilRow 107 2)
    clear h hl0
    go_enter Try.func96, Try.ntmps96
    go_wp2
    go_ret
    exact ⟨none, 0, rfl, H0.out⟩
  | some ad =>
    have hm := (Sat.pushRest w).made #[] 107 2 0 0 rfl (Nat.le_refl _) (Nat.zero_le _)
    try simp only [List.cons_append, List.nil_append, List.set_cons_succ, List.set_cons_zero, Nat.zero_add, Nat.reduceAdd, World.size_alloc] at hm
    have HM := Lib.hid hm
    have HS := Lib.hid h.src
    clear h hm
    go_enter Try.func96, Try.ntmps96
    go_wp2_with (first
      | (at_builtin; refine wpList_append_sat rfl _ _ 29 rfl HM.out 1 107 (.agg #[.int .i64 0, .int .i64 0]) 2 16 Try.underlying29 info_sp rfl (by decide) (.slice (some ⟨_, 0, none⟩) 0 0) 0 [] ?a0 rfl (some ad) l.length c (l.flatMap spC) ?a1 (fun h => by cases h) ?a2 (src_rest HM.out (i := 0) rfl HS.out (src_lt HS.out)) ?a3 ?a4 ?a5 ?a6)
      | fail)
    try (case a0 => go_simp)
    try (case a1 => go_simp)
    try (case a2 => exact recs_len spC_len l)
    case a3 => (intro u hu; simp only [List.mem_flatMap] at hu; obtain ⟨p, _, hp⟩ := hu; simp [spC] at hp; rcases hp with rfl | rfl <;> rfl)
    case a4 => unfold maxLen; omega
    case a5 => omega
    case a6 =>
      intro A2 c2 w3 h3 hA2 hg2
      try simp only [List.cons_append, List.nil_append, List.set_cons_succ, List.set_cons_zero, Nat.zero_add, Nat.reduceAdd, World.size_alloc] at h3
      have H3 := Lib.hid h3
      clear h3 hA2 hg2
      go_wp2
      go_ret
      exact ⟨A2, c2, rfl, H3.out⟩
set_option maxRecDepth 100000 in
set_option maxHeartbeats 2000000 in
theorem cloneE8_any (w : World) (A : Option Addr) (c : Nat) (l : List Edg) (h : Recs 8 edC w A c l) (hl : l.length ≤ 1000) : Calls Try.prog 97 #[.slice A l.length c] w fun e w' => ∃ A' c', e = .returned (.slice A' l.length c') ∧ Sat w w' [rest w (· < w.heap.size), row 62 8 (.slice A' l.length c') l.length (l.flatMap edC)] := by
  have q : ∀ (w : World) (a : Option Addr) (n c n' c' : Nat), (binOp .eql 30 (.slice a n c) (.slice none n' c')).run Try.prog w = .ok (.bool a.isNone) w := fun w a n c n' c' => Lib.run_eql_slice_nil w _ _ a n c n' c' Try.underlying30
  cases A with
  | none =>
    obtain ⟨hl0, rfl⟩ := h.none_ rfl
    obtain rfl := List.eq_nil_of_length_eq_zero hl0
    have H0 := Lib.hid ((Sat.pushRest w).nilRow 62 8)
    clear h hl0
    go_enter Try.func97, Try.ntmps97
    go_wp2
    go_ret
    exact ⟨none, 0, rfl, H0.out⟩
  | some ad =>
    have hm := (Sat.pushRest w).made #[] 62 8 0 0 rfl (Nat.le_refl _) (Nat.zero_le _)
    try simp only [List.cons_append, List.nil_append, List.set_cons_succ, List.set_cons_zero, Nat.zero_add, Nat.reduceAdd, World.size_alloc] at hm
    have HM := Lib.hid hm
    have HS := Lib.hid h.src
    clear h hm
    go_enter Try.func97, Try.ntmps97
    go_wp2_with (first
      | (at_builtin; refine wpList_append_sat rfl _ _ 30 rfl HM.out 1 62 (.agg #[.int .i64 0, .int .i64 0, .int .u64 0, .int .u64 0, .int .u64 0, .int .u64 0, .int .u64 0, .int .u64 0]) 8 64 Try.underlying30 info_ed rfl (by decide) (.slice (some ⟨_, 0, none⟩) 0 0) 0 [] ?a0 rfl (some ad) l.length c (l.flatMap edC) ?a1 (fun h => by cases h) ?a2 (src_rest HM.out (i := 0) rfl HS.out (src_lt HS.out)) ?a3 ?a4 ?a5 ?a6)
      | fail)
    try (case a0 => go_simp)
    try (case a1 => go_simp)
    try (case a2 => exact recs_len edC_len l)
    case a3 => (intro u hu; simp only [List.mem_flatMap] at hu; obtain ⟨p, _, hp⟩ := hu; simp [edC] at hp; rcases hp with rfl | rfl | rfl | rfl | rfl | rfl | rfl | rfl <;> rfl)
    case a4 => unfold maxLen; omega
    case a5 => omega
    case a6 =>
      intro A2 c2 w3 h3 hA2 hg2
      try simp only [List.cons_append, List.nil_append, List.set_cons_succ, List.set_cons_zero, Nat.zero_add, Nat.reduceAdd, World.size_alloc] at h3
      have H3 := Lib.hid h3
      clear h3 hA2 hg2
      go_wp2
      go_ret
      exact ⟨A2, c2, rfl, H3.out⟩
theorem Sat.rowEq {w0 w : World} {l : List Asn} (S : Sat w0 w l) (i : Nat) {α : Type} {k : Nat} {f : α → List Value} {T : TypeId} {A : Option Addr} {c n : Nat} {X Y : List α} (h : X = Y) (hn : n = Y.length) (hi : l[i]? = some (row T k (.slice A n c) n (X.flatMap f))) : Sat w0 w (l.set i (row T k (.slice A Y.length c) Y.length (Y.flatMap f))) := by
  subst h; subst hn
  exact S.turn hi fun F hF => ⟨F, hF, fun _ h => h⟩
end Go.Proofs.Ytcfpbemoocegfaa
