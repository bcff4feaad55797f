/- Walk over the document's slab: Crash. -/
import Derived.Test.YtofhcdjnnbpkbaaRefRead
import Derived.LoopTactic
namespace Go.Proofs.Ytofhcdjnnbpkbaa
set_option linter.unusedVariables false
set_option linter.unusedSimpArgs false
set_option linter.unnecessarySimpa false
open Go.RowKit

/-- What is kept of the first k bytes that may be lost. -/
def crB (L : List Int) (keep zeros : Int) : Nat → List Int
  | 0 => []
  | k + 1 => if (k : Int) < keep then crB L keep zeros k ++ [L.getD k 0] else if (keep < 0 ∧ (k : Int) < zeros) ∨ (0 ≤ keep ∧ (k : Int) - keep < zeros) then crB L keep zeros k ++ [0] else crB L keep zeros k
theorem crB_len (L : List Int) (keep zeros : Int) : ∀ k, (crB L keep zeros k).length ≤ k
  | 0 => by simp [crB]
  | k + 1 => by
    have := crB_len L keep zeros k
    unfold crB
    split
    · simp; omega
    · split
      · simp; omega
      · omega
theorem crB_eq (L : List Int) (keep zeros : Int) : ∀ k, k ≤ L.length → crB L keep zeros k = L.take (min k (max 0 keep).toNat) ++ List.replicate (min (k - (max 0 keep).toNat) (max 0 zeros).toNat) 0
  | 0, _ => by simp [crB]
  | k + 1, hk => by
    have ih := crB_eq L keep zeros k (by omega)
    unfold crB
    by_cases h1 : (k : Int) < keep
    · rw [if_pos h1, ih]
      have e1 : min k (max 0 keep).toNat = k := by omega
      have e2 : k - (max 0 keep).toNat = 0 := by omega
      have e3 : min (k + 1) (max 0 keep).toNat = k + 1 := by omega
      have e4 : k + 1 - (max 0 keep).toNat = 0 := by omega
      rw [e1, e2, e3, e4, List.take_add_one, List.getElem?_eq_getElem (by omega : k < L.length)]
      simp [List.getD, (by omega : k < L.length)]
    · have e1 : min k (max 0 keep).toNat = (max 0 keep).toNat := by omega
      have e3 : min (k + 1) (max 0 keep).toNat = (max 0 keep).toNat := by omega
      rw [if_neg h1]
      by_cases h2 : (keep < 0 ∧ (k : Int) < zeros) ∨ (0 ≤ keep ∧ (k : Int) - keep < zeros)
      · have e4 : min (k + 1 - (max 0 keep).toNat) (max 0 zeros).toNat = min (k - (max 0 keep).toNat) (max 0 zeros).toNat + 1 := by omega
        rw [if_pos h2, ih, e1, e3, e4, List.replicate_succ', List.append_assoc]
      · have e4 : min (k + 1 - (max 0 keep).toNat) (max 0 zeros).toNat = min (k - (max 0 keep).toNat) (max 0 zeros).toNat := by omega
        rw [if_neg h2, ih, e1, e3, e4]
theorem crB_end (st : St) (keep zeros : Int) : st.S ++ crB st.L keep zeros st.L.length = (crS st keep zeros).S := by
  rw [crB_eq st.L keep zeros _ (Nat.le_refl _)]
  unfold crS kept zeroed kept
  simp only [List.append_assoc]
  congr 3 <;> omega

set_option maxRecDepth 100000 in
set_option maxHeartbeats 2000000 in
theorem rcrash_any (w : World) (m : Nat) (st : St) (ok : st.Ok) (F : Nat → Prop) (h : (refA m st).sat F w) (keep zeros : Int) (k0 : -9223372036854775808 ≤ keep) (k1 : keep ≤ 9223372036854775807) :
    Calls Try.prog 27 #[.pointer (some ⟨m, 0, none⟩), .int .i64 keep, .int .i64 zeros] w fun e w' => e = .returned (.tuple #[]) ∧ ∃ F', (refA m (crS st keep zeros)).sat F' w' ∧ Moves F F' w w' := by
  obtain ⟨S, L, steps, fuse, down⟩ := st
  obtain ⟨o1, o2, o3, o4, o5⟩ := ok
  have h0 := Sat.ofOne h
  obtain ⟨As, cs, Al, cl, hS⟩ := refA_open h0
  dsimp only [List.cons_append, List.nil_append] at *
  have hk := hS.all
  simp only [allFacts, box_facts, row_facts, cellFacts, Nat.zero_add, Nat.reduceAdd, true_and, and_true] at hk
  have HS := Lib.hid hS
  have HSn := Lib.hid (row_none (hS.rowOf (i := 2) rfl))
  have hall : ∀ wr v n xs, Sat w wr [box m 49 [.slice As S.length cs, .slice Al L.length cl, .int .i64 fuse, .int .i64 steps, .bool down], rest w (fun k => k < w.heap.size ∧ ¬ F k), row 5 1 (.slice As S.length cs) S.length (bytesOf S), row 5 1 (.slice Al L.length cl) L.length (bytesOf L), row 5 1 v n xs] → ∀ j : Nat, j < L.length → ∃ g, Al = some ⟨g, 0, none⟩ ∧ wr.cell? ⟨g, j, none⟩ = some (.int .u8 (L.getD j 0)) := by
    intro wr v n xs h j hj
    have hr := h.rowOf (i := 3) rfl
    rcases hr.2 with ⟨h1, h2⟩ | ⟨g, cap, cur, h1, _⟩
    · omega
    · injection h1 with h1
      refine ⟨g, h1, ?_⟩
      have := hr.cells (g := g) (by rw [h1]; rfl) j (.int .u8 (L.getD j 0)) (by simp [bytesOf, hj])
      have e : (⟨g, 0, none⟩ : Addr).add j = ⟨g, j, none⟩ := by unfold Addr.add; split <;> simp_all
      rw [← e]
      exact this
  have HALL := Lib.hid hall
  have HEND := Lib.hid (crB_end ⟨S, L, steps, fuse, down⟩ keep zeros)
  have hm0 := hS.made #[] 5 1 0 0 rfl (Nat.le_refl _) (Nat.zero_le _)
  simp only [List.cons_append, List.nil_append] at hm0
  have HM := Lib.hid hm0
  have HM1 := Lib.hid (src_row (hm0.rowOf (i := 2) rfl))
  clear hall hm0 h0 h
  go_enter Try.func27, Try.ntmps27
  go_wp2_with (first
    | (at_builtin; refine wpList_append_sat rfl _ _ 25 rfl HM.out 4 5 (.int .u8 0) 1 1 Try.underlying25 info_u8 rfl (by decide) (.slice (some ⟨w.heap.size, 0, none⟩) 0 0) 0 [] ?a0 rfl As S.length cs (bytesOf S) ?a1 HSn.out ?a2 HM1.out ?a3 ?a4 ?a5 ?a6)
    | fail)
  try (case a0 => go_simp)
  try (case a1 => go_simp)
  try (case a2 => simp [bytesOf])
  case a3 => intro u hu; simp [bytesOf] at hu; obtain ⟨x, _, rfl⟩ := hu; rfl
  case a4 => unfold maxLen; omega
  case a5 => omega
  case a6 =>
    intro A1 c1 w3 h3 hA1 hg1
    try simp only [List.cons_append, List.nil_append, List.set_cons_succ, List.set_cons_zero, Nat.zero_add] at h3 hA1
    have hk2 := h3.all
    simp only [allFacts, box_facts, row_facts, emp_facts, cellFacts, Nat.zero_add, Nat.reduceAdd, true_and, and_true] at hk2
    clear hA1 hg1 hS
    go_wp2
    clear hk
    go_loopw [6, 7] (fun b i wr => ∃ k : Nat, k ≤ L.length ∧ i = .int .i64 k ∧ ∃ A c, b = .slice A (S ++ crB L keep zeros k).length c ∧ Sat w wr [box m 49 [.slice As S.length cs, .slice Al L.length cl, .int .i64 fuse, .int .i64 steps, .bool down], rest w (fun k => k < w.heap.size ∧ ¬ F k), row 5 1 (.slice As S.length cs) S.length (bytesOf S), row 5 1 (.slice Al L.length cl) L.length (bytesOf L), row 5 1 (.slice A (S ++ crB L keep zeros k).length c) (S ++ crB L keep zeros k).length (bytesOf (S ++ crB L keep zeros k))]) (fun _ i _ => L.length - (intOf i).toNat)
    case atStart => exact ⟨0, Nat.zero_le _, rfl, A1, c1, by simp [crB], by simpa [crB] using h3⟩
    case round =>
      obtain ⟨k, hk1, rfl, A, c, rfl, hR⟩ := hrel
      clear hk2 h3
      have hk := hR.all
      simp only [allFacts, box_facts, row_facts, emp_facts, cellFacts, Nat.zero_add, Nat.reduceAdd, true_and, and_true] at hk
      have hl := crB_len L keep zeros k
      have hlB : (S ++ crB L keep zeros k).length ≤ 262144 - L.length + k := by simp; omega
      generalize hB : S ++ crB L keep zeros k = B at *
      by_cases hlt : k < L.length
      · obtain ⟨g, hg, hcell⟩ := HALL.out _ _ _ _ hR k hlt
        subst hg
        rcases (show (k : Int) < keep ∨ keep ≤ (k : Int) by omega) with h1 | h1
        · generalize hx : L.getD k 0 = x at hcell
          have hB1 : S ++ crB L keep zeros (k + 1) = B ++ [x] := by rw [← hB, crB, if_pos h1, hx]; try simp
          have HB1 := Lib.hid hB1
          clear hB1 hB
          clear hx
          go_wp2_with (first
            | (at_builtin; refine wpList_append_sat rfl _ _ 25 rfl (hR.alloc #[.int .u8 x] 5) 4 5 (.int .u8 0) 1 1 Try.underlying25 info_u8 rfl (by decide) (.slice A B.length c) B.length (bytesOf B) ?xa0 rfl (some ⟨wr.heap.size, 0, none⟩) 1 1 [.int .u8 x] ?xa1 (fun h => by cases h) ?xa2 (box_src (hR.alloc #[.int .u8 x] 5) (i := 5) rfl) ?xa3 ?xa4 ?xa5 ?xa6)
            | fail)
          try (case xa0 => go_simp)
          try (case xa1 => go_simp)
          try (case xa2 => simp)
          case xa3 => first | rfl | (intro u hu; simp at hu; subst hu; rfl)
          case xa4 => unfold maxLen; omega
          case xa5 => omega
          case xa6 =>
            intro A2 c2 w4 h4 hA2 hg2
            try simp only [List.cons_append, List.nil_append, List.set_cons_succ, List.set_cons_zero, Nat.zero_add] at h4 hA2
            rw [bytes_one, bytes_app] at h4
            have H4 := Lib.hid h4
            clear h4 hA2 hg2
            go_wp2
            go_roundw
            case rel => exact ⟨k + 1, by omega, by go_num, A2, c2, by rw [HB1.out]; simp, by rw [HB1.out]; simpa using H4.out.pick [0, 1, 2, 3, 4] (by decide)⟩
            case measure => simp [intOf]; omega
        · rcases (show keep < 0 ∨ 0 ≤ keep by omega) with h2 | h2
          · rcases (show (k : Int) < zeros ∨ zeros ≤ (k : Int) by omega) with h3 | h3
            · skip
              have hB1 : S ++ crB L keep zeros (k + 1) = B ++ [0] := by rw [← hB, crB, if_neg (by omega), if_pos (by omega)]; try simp
              have HB1 := Lib.hid hB1
              clear hB1 hB
              go_wp2_with (first
                | (at_builtin; refine wpList_append_sat rfl _ _ 25 rfl (hR.alloc #[.int .u8 0] 5) 4 5 (.int .u8 0) 1 1 Try.underlying25 info_u8 rfl (by decide) (.slice A B.length c) B.length (bytesOf B) ?xb0 rfl (some ⟨wr.heap.size, 0, none⟩) 1 1 [.int .u8 0] ?xb1 (fun h => by cases h) ?xb2 (box_src (hR.alloc #[.int .u8 0] 5) (i := 5) rfl) ?xb3 ?xb4 ?xb5 ?xb6)
                | fail)
              try (case xb0 => go_simp)
              try (case xb1 => go_simp)
              try (case xb2 => simp)
              case xb3 => first | rfl | (intro u hu; simp at hu; subst hu; rfl)
              case xb4 => unfold maxLen; omega
              case xb5 => omega
              case xb6 =>
                intro A2 c2 w4 h4 hA2 hg2
                try simp only [List.cons_append, List.nil_append, List.set_cons_succ, List.set_cons_zero, Nat.zero_add] at h4 hA2
                rw [bytes_one, bytes_app] at h4
                have H4 := Lib.hid h4
                clear h4 hA2 hg2
                go_wp2
                go_roundw
                case rel => exact ⟨k + 1, by omega, by go_num, A2, c2, by rw [HB1.out]; simp, by rw [HB1.out]; simpa using H4.out.pick [0, 1, 2, 3, 4] (by decide)⟩
                case measure => simp [intOf]; omega
            · skip
              have hB1 : S ++ crB L keep zeros (k + 1) = B := by rw [← hB, crB, if_neg (by omega), if_neg (by omega)]; try simp
              have HB1 := Lib.hid hB1
              clear hB1 hB
              go_wp2
              go_roundw
              case rel => exact ⟨k + 1, by omega, by go_num, A, c, by rw [HB1.out], by rw [HB1.out]; exact hR⟩
              case measure => simp [intOf]; omega
          · rcases (show (k : Int) - keep < zeros ∨ zeros ≤ (k : Int) - keep by omega) with h3 | h3
            · skip
              have hB1 : S ++ crB L keep zeros (k + 1) = B ++ [0] := by rw [← hB, crB, if_neg (by omega), if_pos (by omega)]; try simp
              have HB1 := Lib.hid hB1
              clear hB1 hB
              go_wp2_with (first
                | (at_builtin; refine wpList_append_sat rfl _ _ 25 rfl (hR.alloc #[.int .u8 0] 5) 4 5 (.int .u8 0) 1 1 Try.underlying25 info_u8 rfl (by decide) (.slice A B.length c) B.length (bytesOf B) ?xc0 rfl (some ⟨wr.heap.size, 0, none⟩) 1 1 [.int .u8 0] ?xc1 (fun h => by cases h) ?xc2 (box_src (hR.alloc #[.int .u8 0] 5) (i := 5) rfl) ?xc3 ?xc4 ?xc5 ?xc6)
                | fail)
              try (case xc0 => go_simp)
              try (case xc1 => go_simp)
              try (case xc2 => simp)
              case xc3 => first | rfl | (intro u hu; simp at hu; subst hu; rfl)
              case xc4 => unfold maxLen; omega
              case xc5 => omega
              case xc6 =>
                intro A2 c2 w4 h4 hA2 hg2
                try simp only [List.cons_append, List.nil_append, List.set_cons_succ, List.set_cons_zero, Nat.zero_add] at h4 hA2
                rw [bytes_one, bytes_app] at h4
                have H4 := Lib.hid h4
                clear h4 hA2 hg2
                go_wp2
                go_roundw
                case rel => exact ⟨k + 1, by omega, by go_num, A2, c2, by rw [HB1.out]; simp, by rw [HB1.out]; simpa using H4.out.pick [0, 1, 2, 3, 4] (by decide)⟩
                case measure => simp [intOf]; omega
            · skip
              have hB1 : S ++ crB L keep zeros (k + 1) = B := by rw [← hB, crB, if_neg (by omega), if_neg (by omega)]; try simp
              have HB1 := Lib.hid hB1
              clear hB1 hB
              go_wp2
              go_roundw
              case rel => exact ⟨k + 1, by omega, by go_num, A, c, by rw [HB1.out], by rw [HB1.out]; exact hR⟩
              case measure => simp [intOf]; omega
      · obtain rfl : k = L.length := by omega
        have hE := HEND.out
        rw [← hB] at hR
        rw [hE] at hR
        have HR := Lib.hid hR
        rw [hE] at hB
        subst hB
        clear hE hR HALL HM HM1
        go_wp2
        go_end0
        exact ⟨rfl, (refA_shut (l := [_]) (((((HR.out.set 0 rfl 0 _).set 0 rfl 1 (.slice none 0 0)).set 0 rfl 2 (.int .i64 (-1))).set 0 rfl 4 (.bool false)).nilRow 5 1 |>.pick [0, 1, 4, 5] (by decide))).toMoves⟩
end Go.Proofs.Ytofhcdjnnbpkbaa
