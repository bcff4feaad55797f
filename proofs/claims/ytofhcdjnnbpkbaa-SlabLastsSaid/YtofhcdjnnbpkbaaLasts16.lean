/- Walk over the law SlabLasts. -/
import Derived.Test.YtofhcdjnnbpkbaaPlays16
import Derived.Test.YtofhcdjnnbpkbaaRooms16
namespace Go.Proofs.Ytofhcdjnnbpkbaa
set_option linter.unusedVariables false
set_option linter.unusedSimpArgs false
set_option linter.unnecessarySimpa false
open Go.RowKit

theorem nums_size (xs : List Int) : (strOfNums xs).size = xs.length := strOfNums_size xs
theorem sync_ok {st : St} (h : syE st = 0) : syS st = ⟨st.S ++ st.L, [], stS st.steps st.fuse, stF st.fuse, false⟩ ∧ rdS (syS st) = st.S ++ st.L ∧ upE (syS st).down = 0 := by
  obtain ⟨S, L, q, fu, d⟩ := st
  unfold syE stE at h
  cases d with
  | true => simp at h
  | false =>
    by_cases h0 : fu = 0
    · simp [h0] at h
    · unfold syS rdS upE stD
      simp [h0]
theorem sync_no {st : St} (h : syE st ≠ 0) : (syS st).S = st.S := by
  obtain ⟨S, L, q, fu, d⟩ := st
  unfold syE stE at h
  cases d with
  | true => rfl
  | false =>
    by_cases h0 : fu = 0
    · simp [syS, h0]
    · simp [h0] at h
theorem erase_ok {st : St} (h : syE st = 0) : (erS st).S = [] := by
  obtain ⟨S, L, q, fu, d⟩ := st
  unfold syE stE at h
  cases d with
  | true => simp at h
  | false =>
    by_cases h0 : fu = 0
    · simp [h0] at h
    · simp [erS, h0]
theorem erase_no {st : St} (h : syE st ≠ 0) : (erS st).S = st.S := by
  obtain ⟨S, L, q, fu, d⟩ := st
  unfold syE stE at h
  cases d with
  | true => rfl
  | false =>
    by_cases h0 : fu = 0
    · simp [erS, h0]
    · simp [h0] at h
theorem app_sure (st : St) (P : List Int) : (appS st P).S = st.S := by
  unfold appS
  split
  · rfl
  · split <;> rfl
theorem src_take {w : World} {A : Option Addr} {xs : List Int} {n : Nat} (h : SrcOf w A (bytesOf xs)) : SrcOf w A (bytesOf (xs.take n)) := by
  intro ad had j u hj
  refine h ad had j u ?_
  unfold bytesOf at hj ⊢
  rw [List.map_take] at hj
  have hlt : j < n := by
    have := (List.getElem?_eq_some_iff.1 hj).1
    simp at this; omega
  rwa [List.getElem?_take_of_lt hlt] at hj

set_option maxRecDepth 100000 in
set_option maxHeartbeats 4000000 in
theorem lasts_any (W : World) (A : Option Addr) (c : Nat) (ops : List OpT) (hA : A = none → ops.length = 0 ∧ c = 0) (hb : ops.length * 48 ≤ 140737488355328) (cells : List Value) (hl : cells.length = ops.length * 4) (hs : SrcOf W A cells)
    (hel : ∀ (i : Nat) (x : OpT), ops[i]? = some x → rOp W ((cells.drop (i * 4)).take 4) x) :
    Calls Try.prog 3 #[.slice A ops.length c] W fun e w' => e = .returned (.bool true) ∧ Below W.heap.size W w' := by
  have h0 := Sat.pushRest W
  have HN := Lib.hid (new_sat h0)
  have hA' : A = none → cells = [] := fun h => List.eq_nil_of_length_eq_zero (by rw [hl, (hA h).1])
  have hrd : ∀ (k : Nat) (x : OpT), ops[k]? = some x → ∃ b off, A = some ⟨b, off, none⟩ ∧ b < W.heap.size ∧ W.cell? ⟨b, off + k * 4, none⟩ = some (.int .i64 x.1) ∧ W.cell? ⟨b, off + k * 4 + 1, none⟩ = some (.int .i64 x.2.1) ∧
      W.cell? ⟨b, off + k * 4 + 2, none⟩ = some (.int .i64 x.2.2.1) ∧ W.cell? ⟨b, off + k * 4 + 3, none⟩ = some (.slice x.2.2.2.1.1 x.2.2.2.1.2.2.length x.2.2.2.1.2.1) ∧ OpAt W ((cells.drop (k * 4)).take 4) x := by
    intro k x hx
    have hk : k < ops.length := (List.getElem?_eq_some_iff.1 hx).1
    have ho := op_at (hel k x hx)
    obtain ⟨b, off, rfl, hlt, hc⟩ := src_plain hs hA' (by rintro rfl; simp at hl; omega)
    have key : ∀ (j : Nat) (u : Value), [Value.int .i64 x.1, .int .i64 x.2.1, .int .i64 x.2.2.1, .slice x.2.2.2.1.1 x.2.2.2.1.2.2.length x.2.2.2.1.2.1][j]? = some u → W.cell? ⟨b, off + k * 4 + j, none⟩ = some u := by
      intro j u hj
      have := hc _ u (cells_at ho.cells hj)
      rwa [← Nat.add_assoc] at this
    exact ⟨b, off, rfl, hlt, key 0 _ rfl, key 1 _ rfl, key 2 _ rfl, key 3 _ rfl, ho⟩
  have HRD := Lib.hid hrd
  have hlen : ops.length ≤ 9223372036854775807 := by omega
  clear hA hs hel hrd hA' hl h0
  go_enter Try.func3, Try.ntmps3
  go_wp2_with fail
  refine HN.out.mono ?_
  rintro e w1 ⟨rfl, h1⟩
  simp only [List.cons_append, List.nil_append, List.set_cons_succ, List.set_cons_zero] at h1
  clear HN
  go_wp2
  go_loopw [4, 16] (fun s i wr => ∃ (k : Nat) (st : St), k ≤ ops.length ∧ k ≤ 60 ∧ i = .int .i64 k ∧ s = .string (strOfNums st.S) ∧ st.In k ∧ Sat W wr [rest W (· < W.heap.size), slabA W.heap.size st]) (fun _ i _ => ops.length - (intOf i).toNat)
  case atStart => exact ⟨0, st0, Nat.zero_le _, by omega, rfl, rfl, st0_in, h1⟩
  case round =>
    obtain ⟨k, st, hk, hk6, rfl, rfl, hin, hS⟩ := hrel
    clear h1
    obtain ⟨wo, rfl⟩ : ∃ wo : World, wo = wr := ⟨_, rfl⟩
    have hsz := nums_size st.S
    by_cases hlt : k < ops.length
    · obtain ⟨b, off, rfl, hblt, c0, c1, c2, c3, ho⟩ := HRD.out k ops[k] (List.getElem?_eq_getElem hlt)
      generalize ops[k] = x at *
      obtain ⟨kind, a, z, ⟨Ap, cp, P⟩, u⟩ := x
      dsimp only at c0 c1 c2 c3
      obtain ⟨-, f0, f1, f2, hn, hpl, hsrc⟩ := ho
      dsimp only at f0 f1 f2 hn hpl hsrc
      have hr : ∀ o, wo.cell? ⟨b, o, none⟩ = W.cell? ⟨b, o, none⟩ := fun o => World.cell?_of_block (a := ⟨b, o, none⟩) (hS.fact (i := 0) rfl b hblt)
      rw [← hr] at c0 c1 c2 c3
      have hbw := oldLt hS (i := 0) rfl hblt
      have hS2 := hS.alloc #[.int .i64 kind, .int .i64 a, .int .i64 z, .slice Ap P.length cp] 27
      simp only [List.cons_append, List.nil_append, List.set_cons_succ, List.set_cons_zero] at hS2
      have HS2 := Lib.hid hS2
      have HSR := Lib.hid hsrc
      have HNN := Lib.hid hn
      clear hS2 hS hsrc hn hr HRD
      rcases (show (60 ≤ k) ∨ (k < 60 ∧ 2000 < P.length) ∨ (k < 60 ∧ P.length ≤ 2000) by omega) with h6 | ⟨h6, h7⟩ | ⟨h6, h7⟩
      · skip
        go_wp2_with fail
        refine (awake_any _).mono ?_
        rintro e w3 ⟨rfl, hbl⟩
        go_wp2
        go_ret
        exact ⟨rfl, (HS2.out.below (i := 0) rfl).trans (hbl.mono (by have := HS2.out.1.size; simpa using this))⟩
      · skip
        go_wp2_with fail
        refine (awake_any _).mono ?_
        rintro e w3 ⟨rfl, hbl⟩
        go_wp2
        go_ret
        exact ⟨rfl, (HS2.out.below (i := 0) rfl).trans (hbl.mono (by have := HS2.out.1.size; simpa using this))⟩
      · rcases (show kind = 0 ∨ kind = 1 ∨ kind = 2 ∨ kind = 3 ∨ kind = 4 ∨ (kind ≠ 0 ∧ kind ≠ 1 ∧ kind ≠ 2 ∧ kind ≠ 3 ∧ kind ≠ 4) by omega) with rfl | rfl | rfl | rfl | rfl | ⟨g0, g1, g2, g3, g4⟩
        · skip
          have hc2 := HS2.out.made #[] 5 1 0 0 rfl (Nat.le_refl _) (Nat.zero_le _)
          simp only [List.cons_append, List.nil_append, List.set_cons_succ, List.set_cons_zero] at hc2
          have HC2 := Lib.hid hc2
          have hwo : wo.heap.size = (wo.alloc (.cells #[.int .i64 0, .int .i64 a, .int .i64 z, .slice Ap P.length cp] 27)).heap.size - 1 := by simp
          clear hc2 hwo
          go_wp2_with (first
            | (at_builtin; refine wpList_append_sat rfl _ _ 25 rfl HC2.out 3 5 (.int .u8 0) 1 1 Try.underlying25 info_u8 rfl (by decide) (.slice (some ⟨_, 0, none⟩) 0 0) 0 [] ?x0 rfl Ap P.length cp (bytesOf P) ?x1 HNN.out ?x2 (src_rest HC2.out (i := 0) rfl HSR.out (src_lt HSR.out)) ?x3 ?x4 ?x5 ?x6)
            | fail)
          try (case x0 => go_simp)
          try (case x1 => go_simp)
          try (case x2 => simp [bytesOf])
          case x3 => intro u hu; simp [bytesOf] at hu; obtain ⟨x, _, rfl⟩ := hu; rfl
          case x4 => unfold maxLen; omega
          case x5 => omega
          case x6 =>
            intro A1 c1' w3 h3 hA1 hg1
            try simp only [List.cons_append, List.nil_append, List.set_cons_succ, List.set_cons_zero, Nat.zero_add] at h3 hA1
            clear hg1
            have HQ := Lib.hid (append_sat h3 (i := 1) rfl hin (by omega) P A1 c1' (row_none (h3.rowOf (i := 3) rfl)) (src_row (h3.rowOf (i := 3) rfl)) (away_row (j := 3) rfl (by decide)) hpl)
            have hk3 := h3.all
            simp only [allFacts, box_facts, row_facts, slabA_facts, emp_facts, cellFacts, Nat.zero_add, Nat.reduceAdd, true_and, and_true] at hk3
            clear hA1
            go_wp2_with fail
            refine HQ.out.mono ?_
            rintro e w4 ⟨rfl, h4⟩
            simp only [List.cons_append, List.nil_append, List.set_cons_succ, List.set_cons_zero] at h4
            clear hk3 h3 HQ
            have hk4 := h4.all
            simp only [allFacts, box_facts, row_facts, slabA_facts, emp_facts, cellFacts, Nat.zero_add, Nat.reduceAdd, true_and, and_true] at hk4
            go_wp2
            go_loopw [42] (fun i wr => ∃ (j : Nat) (xs : List Int), j ≤ P.length ∧ xs.length = P.length ∧ i = .int .i64 j ∧ Sat W wr [rest W (· < W.heap.size), slabA W.heap.size (appS st P), box wo.heap.size 27 [.int .i64 0, .int .i64 a, .int .i64 z, .slice Ap P.length cp], row 5 1 (.slice A1 P.length c1') P.length (bytesOf xs)]) (fun i _ => P.length - (intOf i).toNat)
            case atStart => exact ⟨0, P, Nat.zero_le _, rfl, rfl, h4⟩
            case round =>
              obtain ⟨j, xs, hj, hxl, rfl, hR⟩ := hrel
              clear h4 hk4
              by_cases hjt : j < P.length
              · obtain ⟨g, hg, hc, hfz, hglt⟩ := row_at (hR.rowOf (i := 3) rfl) hjt
                subst hg
                obtain ⟨x, hx⟩ : ∃ x, xs[j]? = some x := ⟨_, List.getElem?_eq_getElem (by omega)⟩
                have hcj := hc (.int .u8 x) (by simp [bytesOf, hx])
                clear hx
                have HR := Lib.hid hR
                clear hR hc
                go_wp2
                go_roundw
                case rel =>
                  refine ⟨j + 1, xs.set j (bits .xor .u8 x 255), by omega, by simp [hxl], by go_num, ?_⟩
                  have h9 := HR.out.setRow 3 rfl j (by simp [bytesOf, hxl, hjt]) (Value.int .u8 (bits .xor .u8 x 255))
                  dsimp only [List.set_cons_zero, List.set_cons_succ] at h9
                  rw [show (bytesOf xs).set j (Value.int .u8 (bits .xor .u8 x 255)) = bytesOf (xs.set j (bits .xor .u8 x 255)) from by simp [bytesOf, List.map_set]] at h9
                  exact h9
                case measure => simp [intOf]; omega
              · have HR := Lib.hid hR
                clear hR
                have ha := app_sure st P
                have HA := Lib.hid ha
                clear ha
                go_wp2
                go_roundw
                case rel => exact ⟨k + 1, appS st P, by omega, by omega, by go_num, by rw [HA.out], hin.app P, HR.out.left (l := [_, _]) (l' := [_, _])⟩
                case measure => simp [intOf]; omega
        · skip
          have hq := sync_sat HS2.out (i := 1) rfl hin (by omega)
          by_cases h : syE st = 0
          · rw [h] at hq
            have HQ := Lib.hid hq
            clear hq
            obtain ⟨e1, e2, e3⟩ := sync_ok h
            go_wp2_with fail
            refine HQ.out.mono ?_
            rintro e w3 ⟨rfl, h3⟩
            simp only [List.cons_append, List.nil_append, List.set_cons_succ, List.set_cons_zero] at h3
            have hq := read_sat h3 (i := 1) rfl hin.syn (by omega)
            rw [e2, e3] at hq
            have e4 : (syS st).S = st.S ++ st.L := by rw [e1]
            have HE4 := Lib.hid e4
            have HQ2 := Lib.hid hq
            clear hq e1 e2 e3 e4 h3
            generalize hT : st.S ++ st.L = T at *
            clear hT
            go_wp2_with fail
            refine HQ2.out.mono ?_
            rintro e w4 ⟨A1, c1', rfl, h4⟩
            simp only [List.cons_append, List.nil_append, List.set_cons_succ, List.set_cons_zero] at h4
            have hv := conv_row (P := Try.prog) 25 5 9 Try.underlying25 Try.underlying5 Try.underlying9 (h4.rowOf (i := 3) rfl)
            have H4 := Lib.hid h4
            clear h4
            go_wp2
            go_roundw
            case rel => exact ⟨k + 1, syS st, by omega, by omega, by go_num, by rw [HE4.out], hin.syn, H4.out.left (l := [_, _]) (l' := [_, _])⟩
            case measure => simp [intOf]; omega
          · have e1 := sync_no h
            have HE := Lib.hid e1
            have hne : (syE st == 0) = false := beq_eq_false_iff_ne.2 h
            have HQ := Lib.hid hq
            clear hq e1 h
            go_wp2_with fail
            refine HQ.out.mono ?_
            rintro e w3 ⟨rfl, h3⟩
            simp only [List.cons_append, List.nil_append, List.set_cons_succ, List.set_cons_zero] at h3
            have H3 := Lib.hid h3
            clear h3
            go_wp2
            go_roundw
            case rel => exact ⟨k + 1, syS st, by omega, by omega, by go_num, by rw [HE.out], hin.syn, H3.out.left (l := [_, _]) (l' := [_])⟩
            case measure => simp [intOf]; omega
        · skip
          have hq := erase_sat HS2.out (i := 1) rfl hin (by omega)
          by_cases h : syE st = 0
          · rw [h] at hq
            have e1 := erase_ok h
            have HE := Lib.hid e1
            have HQ := Lib.hid hq
            clear hq e1
            go_wp2_with fail
            refine HQ.out.mono ?_
            rintro e w3 ⟨rfl, h3⟩
            simp only [List.cons_append, List.nil_append, List.set_cons_succ, List.set_cons_zero] at h3
            have H3 := Lib.hid h3
            clear h3
            go_wp2
            go_roundw
            case rel => exact ⟨k + 1, erS st, by omega, by omega, by go_num, by rw [HE.out]; rfl, hin.ers, H3.out.left (l := [_, _]) (l' := [_])⟩
            case measure => simp [intOf]; omega
          · have e1 := erase_no h
            have HE := Lib.hid e1
            have hne : (syE st == 0) = false := beq_eq_false_iff_ne.2 h
            have HQ := Lib.hid hq
            clear hq e1 h
            go_wp2_with fail
            refine HQ.out.mono ?_
            rintro e w3 ⟨rfl, h3⟩
            simp only [List.cons_append, List.nil_append, List.set_cons_succ, List.set_cons_zero] at h3
            have H3 := Lib.hid h3
            clear h3
            go_wp2
            go_roundw
            case rel => exact ⟨k + 1, erS st, by omega, by omega, by go_num, by rw [HE.out], hin.ers, H3.out.left (l := [_, _]) (l' := [_])⟩
            case measure => simp [intOf]; omega
        · skip
          go_wp2_with fail
          refine (fuse_sat HS2.out (i := 1) rfl a).mono ?_
          rintro e w3 ⟨rfl, h3⟩
          simp only [List.cons_append, List.nil_append, List.set_cons_succ, List.set_cons_zero] at h3
          go_wp2
          go_roundw
          case rel => exact ⟨k + 1, fuS st a, by omega, by omega, by go_num, by first | rfl | (congr 1), (hin.fus f1.2).mono (by omega), h3.left (l := [_, _]) (l' := [_])⟩
          case measure => simp [intOf]; omega
        · skip
          obtain ⟨T, hT⟩ : ∃ T, (crS st a z).S = T := ⟨_, rfl⟩
          have hTt : T.take st.S.length = st.S ∧ st.S.length ≤ T.length := by rw [← hT]; unfold crS; simp
          have e2 : rdS (crS st a z) = T := by rw [← hT]; unfold rdS crS; simp
          have e3 : upE (crS st a z).down = 0 := rfl
          have e5 : ((crS st a z).L.length : Int) = 0 := rfl
          have HT := Lib.hid hT
          have HTT := Lib.hid hTt.1
          have hle := hTt.2
          clear hT hTt
          go_wp2_with fail
          refine (crash_sat HS2.out (i := 1) rfl hin (by omega) a z).mono ?_
          rintro e w3 ⟨rfl, h3⟩
          simp only [List.cons_append, List.nil_append, List.set_cons_succ, List.set_cons_zero] at h3
          have hq := read_sat h3 (i := 1) rfl (hin.crs a z) (by omega)
          rw [e2, e3] at hq
          have HQ := Lib.hid hq
          have HE5 := Lib.hid e5
          clear hq e2 e3 e5 h3
          go_wp2_with fail
          refine HQ.out.mono ?_
          rintro e w4 ⟨A1, c1', rfl, h4⟩
          simp only [List.cons_append, List.nil_append, List.set_cons_succ, List.set_cons_zero] at h4
          have hv := conv_row (P := Try.prog) 25 5 9 Try.underlying25 Try.underlying5 Try.underlying9 (h4.rowOf (i := 3) rfl)
          have hll : (T.take st.S.length).length = st.S.length := by simp; omega
          have hv2 : (convert 25 9 (.slice A1 st.S.length c1')).run Try.prog w4 = .ok (.string (strOfNums st.S)) w4 := by
            have := conv_src (P := Try.prog) (w := w4) (A := A1) (c := c1') (xs := T.take st.S.length) 25 5 9 Try.underlying25 Try.underlying5 Try.underlying9 (fun h => by have := row_none (h4.rowOf (i := 3) rfl) h; rw [hll]; omega) (src_take (src_row (h4.rowOf (i := 3) rfl))) (row_spot (h4.rowOf (i := 3) rfl))
            rw [hll, HTT.out] at this
            exact this
          have hA1 : A1 = none ∨ ∃ g, A1 = some ⟨g, 0, none⟩ := by
            rcases (h4.rowOf (i := 3) rfl).2 with ⟨h1, h2⟩ | ⟨g, cap, cur, h1, _⟩
            · injection h1 with h1; exact .inl h1
            · injection h1 with h1; exact .inr ⟨g, h1⟩
          have hcap : T.length ≤ c1' := by
            rcases (h4.rowOf (i := 3) rfl).2 with ⟨h1, h2⟩ | ⟨g, cap, cur, h1, _, _, h2, _⟩
            · omega
            · injection h1 with _ _ h1; omega
          have hcap2 : c1' ≤ 9223372036854775807 := by
            rcases (h4.rowOf (i := 3) rfl).2 with ⟨h1, h2⟩ | ⟨g, cap, cur, h1, _, _, _, h2, _⟩
            · injection h1 with _ _ h1; omega
            · injection h1 with _ _ h1; unfold maxLen at h2; omega
          have H4 := Lib.hid h4
          have HL := Lib.hid (loose_sat h4 (i := 1) rfl)
          clear h4 HTT hll
          rcases hA1 with rfl | ⟨g, rfl⟩
          · go_wp2_with fail
            refine HL.out.mono ?_
            rintro e w5 ⟨rfl, rfl⟩
            rw [HE5.out]
            go_wp2
            go_roundw
            case rel => exact ⟨k + 1, crS st a z, by omega, by omega, by go_num, by rw [HT.out], (hin.crs a z).mono (by omega), H4.out.left (l := [_, _]) (l' := [_, _])⟩
            case measure => simp [intOf]; omega
          · go_wp2_with fail
            refine HL.out.mono ?_
            rintro e w5 ⟨rfl, rfl⟩
            rw [HE5.out]
            go_wp2
            go_roundw
            case rel => exact ⟨k + 1, crS st a z, by omega, by omega, by go_num, by rw [HT.out], (hin.crs a z).mono (by omega), H4.out.left (l := [_, _]) (l' := [_, _])⟩
            case measure => simp [intOf]; omega
        · skip
          go_wp2
          go_roundw
          case rel => exact ⟨k + 1, st, by omega, by omega, by go_num, by first | rfl | (congr 1), hin.mono (by omega), HS2.out.left (l := [_, _]) (l' := [_])⟩
          case measure => simp [intOf]; omega
    · have HS2 := Lib.hid hS
      clear hS HRD
      go_wp2_with fail
      refine (awake_any _).mono ?_
      rintro e w3 ⟨rfl, hbl⟩
      go_wp2
      go_ret
      exact ⟨rfl, (HS2.out.below (i := 0) rfl).trans (hbl.mono (by have := HS2.out.1.size; simpa using this))⟩
end Go.Proofs.Ytofhcdjnnbpkbaa
