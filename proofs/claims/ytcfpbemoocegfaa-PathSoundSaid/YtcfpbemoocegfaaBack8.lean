/- Back, of chapter 02. -/
import Derived.Test.YtcfpbemoocegfaaFees8
namespace Go.Proofs.Ytcfpbemoocegfaa
set_option linter.unusedVariables false
set_option linter.unusedSimpArgs false
set_option linter.unnecessarySimpa false
open Go.RowKit
set_option maxRecDepth 100000

theorem ret2_eq {A : Option Addr} {n m c d : Nat} {k : IntKind} {x y : Int} (h1 : n = m) (h2 : c = d) (h3 : x = y) : Ending.returned (.tuple #[.slice A n c, .int k x]) = .returned (.tuple #[.slice A m d, .int k y]) := by rw [h1, h2, h3]
theorem rep_last (n : Nat) (a : Int) : (words (List.replicate (n + 1) 0)).set n (.int .u64 a) = words (List.replicate n 0 ++ [a]) := by
  rw [words_set]; congr 1
  rw [List.replicate_succ', List.set_append_right _ _ (by simp)]; simp
theorem rep_set (m : Nat) (s : List Int) (v : Int) : (words (List.replicate (m + 1) 0 ++ s)).set m (.int .u64 v) = words (List.replicate m 0 ++ v :: s) := by
  rw [words_set]; congr 1
  rw [List.replicate_succ', List.append_assoc, List.set_append_right _ _ (by simp)]; simp
theorem rep_get {m : Nat} {s : List Int} (hs : 0 < s.length) : (words (List.replicate m 0 ++ s))[m]? = some (.int .u64 (s.headD 0)) := by
  rw [words_at (by simp; omega)]
  congr 2
  rw [List.getD_eq_getElem?_getD, List.getElem?_append_right (by simp)]
  simp only [List.length_replicate, Nat.sub_self, headD_ne hs]; rfl
set_option maxRecDepth 100000 in
set_option maxHeartbeats 2000000 in
theorem back_any (w : World) (a : Int) (ha : U64 a) (A : Option Addr) (c : Nat) (l : List (Int × Int)) (h : Recs 2 feeC w A c l) (hu : P64 l) (hl : l.length ≤ 1000) : Calls Try.prog 93 #[.int .u64 a, .slice A l.length c] w fun e w' => ∃ A' c', e = .returned (.tuple #[.slice A' (backP a l).1.length c', .int .i64 (backP a l).2]) ∧ Sat w w' [rest w (· < w.heap.size), row 26 1 (.slice A' (backP a l).1.length c') (backP a l).1.length (words (backP a l).1)] := by
  have h1 := (Sat.pushRest w).made ((Array.replicate (l.length + 1) (Value.int .u64 0)).setIfInBounds l.length (.int .u64 a)) 26 1 (l.length + 1) (l.length + 1) (by simp) (Nat.le_refl _) (by unfold maxLen; omega)
  try simp only [List.cons_append, List.nil_append, List.set_cons_succ, List.set_cons_zero, Nat.zero_add, Nat.reduceAdd] at h1
  rw [show (((Array.replicate (l.length + 1) (Value.int .u64 0)).setIfInBounds l.length (.int .u64 a)).toList.take ((l.length + 1) * 1)) = words (List.replicate l.length 0 ++ [a]) from by rw [← rep_last]; simp [words, List.take_of_length_le]] at h1
  have H1 := Lib.hid h1
  have HR := Lib.hid h
  have HU := Lib.hid hu
  have hmk := fun w => mk_u64 w ((l.length : Int) + 1) (l.length + 1) (by omega) (by omega)
  clear h h1 hu
  go_enter Try.func93, Try.ntmps93
  go_wp2
  go_loopw [7] (fun i wr => ∃ (j : Nat) (q : Int), j ≤ l.length ∧ q + 1 = j ∧ i = .int .i64 q ∧ (backP a (l.drop j)).2 = 0 ∧ Sat w wr [rest w (· < w.heap.size), row 26 1 (.slice (some ⟨w.heap.size, 0, none⟩) (l.length + 1) (l.length + 1)) (l.length + 1) (words (List.replicate j 0 ++ (backP a (l.drop j)).1))]) (fun i _ => (intOf i + 1).toNat)
  case atStart => exact ⟨l.length, (l.length : Int) - 1, Nat.le_refl _, by omega, rfl, by rw [List.drop_length]; rfl, by rw [List.drop_length]; exact H1.out⟩
  case round =>
    clear hmk H1
    obtain ⟨j, q, hj, hq, rfl, hb, hS⟩ := hrel
    rcases (show q < 0 ∨ 0 ≤ q by omega) with hq0 | hq0
    · obtain rfl : j = 0 := by omega
      rw [List.drop_zero] at hS hb
      have hlen := backP_len l hb
      rw [List.replicate_zero, List.nil_append, ← hlen] at hS
      have HB := Lib.hid hb
      have HS := Lib.hid hS
      have HL := Lib.hid hlen
      clear hS hlen hb hq
      go_wp2
      go_ret2
      exact ⟨some ⟨w.heap.size, 0, none⟩, (backP a l).1.length, ret2_eq HL.out.symm HL.out.symm HB.out.symm, HS.out⟩
    · obtain ⟨m, rfl⟩ : ∃ m, j = m + 1 := ⟨j - 1, by omega⟩
      obtain rfl : q = (m : Int) := by omega
      clear hq
      have hml : m < l.length := by omega
      have hst := backP_step (a := a) hml hb
      have hslen := backP_len _ hb
      have hhu := backP_hd_u ha (l.drop (m + 1)) (fun p hp => HU.out p (List.mem_of_mem_drop hp))
      have hpu := HU.out l[m] (List.getElem_mem hml)
      generalize (backP a (l.drop (m + 1))).1 = s at *
      have hSd := hS.drew
      have hR := HR.out.mono (src_rest hSd (i := 0) rfl HR.out.src (src_lt HR.out.src))
      obtain ⟨b, off, rfl, hbl, hcc⟩ := hR.at feeC_len (by decide) hml
      have c0 := hcc 0 _ rfl
      have c1 := hcc 1 _ rfl
      generalize l[m] = p at *
      obtain ⟨x, y⟩ := p
      dsimp only at c0 c1 hst hpu
      rw [Nat.add_zero] at c0
      obtain ⟨g, hg, hc, -, hglt⟩ := row_at (hSd.rowOf (i := 1) rfl) (j := m + 1) (by omega)
      cases hg
      have d0 := hc _ (rep_get (by rw [hslen]; omega))
      generalize s.headD 0 = z at *
      have HO := Lib.hid (over_any x y z hpu.1 hpu.2 hhu)
      generalize overP x y z = r at *
      obtain ⟨v, e⟩ := r
      dsimp only at hst HO
      have HST := Lib.hid hst
      have HB := Lib.hid hb
      have HS := Lib.hid hSd
      have HSL := Lib.hid hslen
      have m3 : (0 : Int) ≤ (m : Int) + 1 := by omega
      have m4 : (m : Int) < (l.length : Int) + 1 := by omega
      clear hS hSd hR hcc hc hst hb hhu hpu hslen
      go_wp2_with fail
      refine region_chain (E := [11, 16]) (kn := [true, true, true, true, true, true, true, true, true, true, true, false, false, false, false, false, false, false]) (mask := [true, true, true, true, true, true, true, true, true, true, true, false, false, false, false, false, false, false]) (vs := [?vq0_0, ?vq0_1, ?vq0_2, ?vq0_3, ?vq0_4, ?vq0_5, ?vq0_6, ?vq0_7, ?vq0_8, ?vq0_9, ?vq0_10, undef, undef, undef, undef, undef, undef, undef]) (S := fun w' => w' = wr.drew) (by kernel_rfl) (by kernel_rfl) (by kernel_rfl) (by kernel_rfl) (by kernel_rfl) ?hSq ?hchq
      case hSq => exact rfl
      case hchq =>
        refine chain_cons _ (by kernel_rfl) rfl rfl ?opsq0 ?wantq0 ?effq0
        case opsq0 =>
          simp only [OpsAt, fillT, List.setIfInBounds_toArray, List.set_cons_zero, List.set_cons_succ]
          refine ⟨.inl ⟨by rfl, opOk_pure fun wS hS => ?_⟩, ?_⟩
          · ((subst hS; go_simp; try simp (disch := omega) only [wrap64_id])); try (with_reducible rfl)
          refine ⟨.inl ⟨by rfl, opOk_pure fun wS hS => ?_⟩, ?_⟩
          · ((subst hS; go_simp; try simp (disch := omega) only [wrap64_id])); try (with_reducible rfl)
          refine ⟨.inl ⟨by rfl, opOk_pure fun wS hS => ?_⟩, ?_⟩
          · ((subst hS; go_simp; try simp (disch := omega) only [wrap64_id])); try (with_reducible rfl)
          refine ⟨.inl ⟨by rfl, opOk_pure fun wS hS => ?_⟩, ?_⟩
          · ((subst hS; go_simp; try simp (disch := omega) only [wrap64_id])); try (with_reducible rfl)
          refine ⟨.inl ⟨by rfl, opOk_pure fun wS hS => ?_⟩, ?_⟩
          · ((subst hS; go_simp; try simp (disch := omega) only [wrap64_id])); try (with_reducible rfl)
          refine ⟨.inl ⟨by rfl, opOk_pure fun wS hS => ?_⟩, ?_⟩
          · ((subst hS; go_simp; try simp (disch := omega) only [wrap64_id])); try (with_reducible rfl)
          refine ⟨.inl ⟨by rfl, opOk_pure fun wS hS => ?_⟩, ?_⟩
          · ((subst hS; go_simp; try simp (disch := omega) only [wrap64_id])); try (with_reducible rfl)
          refine ⟨.inl ⟨by rfl, opOk_pure fun wS hS => ?_⟩, ?_⟩
          · ((subst hS; go_simp; try simp (disch := omega) only [wrap64_id])); try (with_reducible rfl)
          refine ⟨.inl ⟨by rfl, opOk_pure fun wS hS => ?_⟩, ?_⟩
          · ((subst hS; go_simp; try simp (disch := omega) only [wrap64_id])); try (with_reducible rfl)
          refine ⟨.inl ⟨by rfl, opOk_pure fun wS hS => ?_⟩, ?_⟩
          · ((subst hS; go_simp; try simp (disch := omega) only [wrap64_id])); try (with_reducible rfl)
          refine ⟨.inl ⟨by rfl, opOk_pure fun wS hS => ?_⟩, ?_⟩
          · ((subst hS; go_simp; try simp (disch := omega) only [wrap64_id])); try (with_reducible rfl)
          try trivial
        case wantq0 => (try simp only [fillT, List.setIfInBounds_toArray, List.set_cons_zero, List.set_cons_succ]) <;> rfl
        case effq0 =>
          intro wS hS
          simp only [fillT, List.setIfInBounds_toArray, List.set_cons_zero, List.set_cons_succ]
          rw [hS]
          refine eff_call (f := 82) (args := #[.agg #[.int .u64 x, .int .u64 y], .int .u64 z]) (by go_simp) ?_
          refine (HO.out _).mono ?_
          rintro e2 w2 ⟨rfl, hb2⟩
          have h2 := HS.out.grow hb2
          obtain ⟨g2, hg2, hc2, hfz2, hglt2⟩ := row_at (h2.rowOf (i := 1) rfl) (j := m) (by omega)
          cases hg2
          have hcm := hc2 _ (words_at (by simp; omega))
          have h3 := h2.setRow 1 rfl m (by simp [words]; omega) (.int .u64 v)
          try simp only [List.cons_append, List.nil_append, List.set_cons_succ, List.set_cons_zero, Nat.zero_add, Nat.reduceAdd] at h3
          rw [rep_set] at h3
          have H3 := Lib.hid h3
          clear h2 h3 hb2 hc2
          refine ⟨_, rfl, ?_⟩
          refine ⟨_, [true, true, true, true, true, true, true, true, true, true, true, true, true, true, true, true, false, false], [true, true, false, false, false, false, false, false, false, false, false, false, true, true, true, true, false, false], [5, 10, 4, 9, 2, 3, 6, 8, 7], [?vq1_0, ?vq1_1, ?vq1_2, ?vq1_3, ?vq1_4, ?vq1_5, ?vq1_6, ?vq1_7, ?vq1_8, ?vq1_9, ?vq1_10, (.tuple #[.int .u64 v, .int .i64 e]), ?vq1_12, ?vq1_13, ?vq1_14, ?vq1_15, undef, undef], fun w' => w' = w2, rfl, rfl, ?sameq0, by kernel_rfl, ?hSq0, ?nxq0⟩
          case sameq0 =>
            refine And.intro ?_ ?_
            · with_reducible rfl
            refine And.intro ?_ ?_
            · with_reducible rfl
            refine And.intro ?_ ?_
            · with_reducible rfl
            refine And.intro ?_ ?_
            · with_reducible rfl
            refine And.intro ?_ ?_
            · with_reducible rfl
            refine And.intro ?_ ?_
            · with_reducible rfl
            refine And.intro ?_ ?_
            · with_reducible rfl
            refine And.intro ?_ ?_
            · with_reducible rfl
            refine And.intro ?_ ?_
            · with_reducible rfl
            refine And.intro ?_ ?_
            · with_reducible rfl
            refine And.intro ?_ ?_
            · with_reducible rfl
            trivial
          case hSq0 => rfl
          case nxq0 =>
            refine chain_cons _ (by kernel_rfl) rfl rfl ?opsq1 ?wantq1 ?effq1
            case opsq1 =>
              simp only [OpsAt, fillT, List.setIfInBounds_toArray, List.set_cons_zero, List.set_cons_succ]
              refine ⟨.inl ⟨by rfl, opOk_pure fun wS hS => ?_⟩, ?_⟩
              · ((subst hS; go_simp; try simp (disch := omega) only [wrap64_id])); try (with_reducible rfl)
              refine ⟨.inl ⟨by rfl, opOk_pure fun wS hS => ?_⟩, ?_⟩
              · ((subst hS; go_simp; try simp (disch := omega) only [wrap64_id])); try (with_reducible rfl)
              refine ⟨.inl ⟨by rfl, opOk_pure fun wS hS => ?_⟩, ?_⟩
              · ((subst hS; go_simp; try simp (disch := omega) only [wrap64_id])); try (with_reducible rfl)
              refine ⟨.inl ⟨by rfl, opOk_pure fun wS hS => ?_⟩, ?_⟩
              · ((subst hS; go_simp; try simp (disch := omega) only [wrap64_id])); try (with_reducible rfl)
              refine ⟨.inl ⟨by rfl, opOk_pure fun wS hS => ?_⟩, ?_⟩
              · ((subst hS; go_simp; try simp (disch := omega) only [wrap64_id])); try (with_reducible rfl)
              refine ⟨.inl ⟨by rfl, opOk_pure fun wS hS => ?_⟩, ?_⟩
              · ((subst hS; go_simp; try simp (disch := omega) only [wrap64_id])); try (with_reducible rfl)
              try trivial
            case wantq1 => (try simp only [fillT, List.setIfInBounds_toArray, List.set_cons_zero, List.set_cons_succ]) <;> rfl
            case effq1 =>
              intro wS hS
              simp only [fillT, List.setIfInBounds_toArray, List.set_cons_zero, List.set_cons_succ]
              rw [hS]
              refine eff_skip (w' := w2.setCell ⟨w.heap.size, m, none⟩ (.int .u64 v)) ?run ?pp
              case run => go_simp
              case pp =>
                refine ⟨_, [true, true, true, true, true, true, true, true, true, true, true, true, true, true, true, true, true, true], [false, false, false, false, false, false, false, false, false, false, false, false, false, false, true, false, false, true], [15, 13, 0, 1, 12], [?vq2_0, ?vq2_1, ?vq2_2, ?vq2_3, ?vq2_4, ?vq2_5, ?vq2_6, ?vq2_7, ?vq2_8, ?vq2_9, ?vq2_10, (.tuple #[.int .u64 v, .int .i64 e]), ?vq2_12, ?vq2_13, ?vq2_14, ?vq2_15, undef, ?vq2_17], fun w' => w' = w2.setCell ⟨w.heap.size, m, none⟩ (.int .u64 v), rfl, rfl, ?sameq1, by kernel_rfl, ?hSq1, ?nxq1⟩
                case sameq1 =>
                  refine And.intro ?_ ?_
                  · with_reducible rfl
                  refine And.intro ?_ ?_
                  · with_reducible rfl
                  refine And.intro ?_ ?_
                  · with_reducible rfl
                  refine And.intro ?_ ?_
                  · with_reducible rfl
                  refine And.intro ?_ ?_
                  · with_reducible rfl
                  refine And.intro ?_ ?_
                  · with_reducible rfl
                  refine And.intro ?_ ?_
                  · with_reducible rfl
                  refine And.intro ?_ ?_
                  · with_reducible rfl
                  refine And.intro ?_ ?_
                  · with_reducible rfl
                  refine And.intro ?_ ?_
                  · with_reducible rfl
                  refine And.intro ?_ ?_
                  · with_reducible rfl
                  refine And.intro ?_ ?_
                  · with_reducible rfl
                  refine And.intro ?_ ?_
                  · with_reducible rfl
                  refine And.intro ?_ ?_
                  · with_reducible rfl
                  refine And.intro ?_ ?_
                  · with_reducible rfl
                  refine And.intro ?_ ?_
                  · with_reducible rfl
                  trivial
                case hSq1 => rfl
                case nxq1 =>
                  refine chain_nil (by kernel_rfl) rfl ?opsq2 ?endq2
                  case opsq2 =>
                    simp only [OpsAt, fillT, List.setIfInBounds_toArray, List.set_cons_zero, List.set_cons_succ]
                    refine ⟨.inl ⟨by rfl, opOk_pure fun wS hS => ?_⟩, ?_⟩
                    · ((subst hS; go_simp; try simp (disch := omega) only [wrap64_id])); try (with_reducible rfl)
                    refine ⟨.inl ⟨by rfl, opOk_pure fun wS hS => ?_⟩, ?_⟩
                    · ((subst hS; go_simp; try simp (disch := omega) only [wrap64_id])); try (with_reducible rfl)
                    try trivial
                  case endq2 =>
                    intro wE hE
                    simp only [fillT, List.setIfInBounds_toArray, List.set_cons_zero, List.set_cons_succ]
                    rw [hE]
                    clear c0 c1 d0
                    rcases (show e = 0 ∨ e ≠ 0 by omega) with he | he
                    · subst he
                      have hbk := HST.out.1 rfl
                      have HBK := Lib.hid hbk
                      clear hbk hfz2 hcm
                      go_wp2
                      go_roundw
                      case rel => exact ⟨m, (m : Int) - 1, by omega, by omega, rfl, by rw [HBK.out], by rw [HBK.out]; exact H3.out⟩
                      case measure => (simp [intOf]; try omega)
                    · have b1 : (e == 0) = false := beq_eq_false_iff_ne.2 he
                      have b2 : (e != 0) = true := by simp [he]
                      have HBK := Lib.hid (HST.out.2 he)
                      clear he hfz2 hcm
                      go_wp2
                      go_ret2
                      have h9 := (H3.out.left (l := [_]) (l' := [_])).nilRow 26 1
                      exact ⟨none, 0, by rw [HBK.out]; rfl, by rw [HBK.out]; exact h9⟩
end Go.Proofs.Ytcfpbemoocegfaa
