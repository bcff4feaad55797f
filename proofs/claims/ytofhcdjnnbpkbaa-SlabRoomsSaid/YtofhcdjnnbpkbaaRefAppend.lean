/- Walks over the document's slab: Append, Sync, Erase, Read. -/
import Derived.Test.YtofhcdjnnbpkbaaRefSlab
import Derived.Test.YtofhcdjnnbpkbaaChain
namespace Go.Proofs.Ytofhcdjnnbpkbaa
set_option linter.unusedVariables false
set_option linter.unusedSimpArgs false
set_option linter.unnecessarySimpa false
open Go.RowKit

def rapE (st : St) (n : Nat) : Int := if st.down then 5 else if 262144 < st.S.length + st.L.length + n then 4 else stE st.fuse

set_option maxRecDepth 100000 in
set_option maxHeartbeats 1000000 in
theorem rappend_any (w : World) (m : Nat) (st : St) (ok : st.Ok) (P : List Int) (A : Option Addr) (c : Nat) (hA : A = none → P.length = 0 ∧ c = 0)
    (hsrc : SrcOf w A (bytesOf P)) (hP : P.length ≤ 140737488355328) (F : Nat → Prop) (h : (refA m st).sat F w) (hAF : ∀ ad, A = some ad → bytesOf P ≠ [] → ¬ F ad.block) :
    Calls Try.prog 24 #[.pointer (some ⟨m, 0, none⟩), .slice A P.length c] w fun e w' => e = .returned (.int .i64 (rapE st P.length)) ∧ ∃ F', (refA m (appS st P)).sat F' w' ∧ Moves F F' w w' := by
  obtain ⟨S, L, steps, fuse, down⟩ := st
  obtain ⟨o1, o2, o3, o4, o5⟩ := ok
  have h0 := Sat.ofOne h
  obtain ⟨As, cs, Al, cl, hS⟩ := refA_open h0
  dsimp only [List.cons_append, List.nil_append] at *
  have hk := hS.all
  simp only [allFacts, box_facts, row_facts, cellFacts, Nat.zero_add, Nat.reduceAdd, true_and, and_true] at hk
  have hstep := rstep_any w.drew m ⟨S, L, steps, fuse, down⟩ ⟨o1, o2, o3, o4, o5⟩
  have HT := Lib.hid hstep
  have HA := Lib.hid hA
  have HR := Lib.hid hsrc
  have HF := Lib.hid hAF
  have H0 := Lib.hid h0
  clear hA hsrc hAF h0 hstep h
  cases down with
  | true =>
    go_enter Try.func24, Try.ntmps24
    go_wp2
    go_ret
    exact ⟨rfl, (refA_shut (l := [_]) hS).toMoves⟩
  | false =>
    rcases (show 262144 < S.length + L.length + P.length ∨ ¬ 262144 < S.length + L.length + P.length by omega) with hsz | hsz
    · have e1 : rapE ⟨S, L, steps, fuse, false⟩ P.length = 4 := by unfold rapE; simp [hsz]
      have e2 : appS ⟨S, L, steps, fuse, false⟩ P = ⟨S, L, steps, fuse, false⟩ := by unfold appS; simp [hsz]
      rw [e1, e2]
      clear e1 e2
      go_enter Try.func24, Try.ntmps24
      go_wp2_with fail
      refine region_flow (S := fun w' => w' = w.drew) (vs := [?va0, ?va1, ?va2, ?va3, ?va4, ?va5, ?va6, ?va7, ?va8, ?va9, ?va10, ?va11, ?va12, ?va13, ?va14]) (by kernel_rfl) (by kernel_rfl) (by kernel_rfl) (by kernel_rfl) (by kernel_rfl) rfl ?hSa ?hopsa ?henda
      case hSa => exact rfl
      case hopsa =>
        simp only [OpsOk, fillT, List.setIfInBounds_toArray, List.set_cons_zero, List.set_cons_succ]
        refine ⟨.inl ⟨by rfl, opOk_pure fun wS hS => ?_⟩, ?_⟩
        · ((subst hS; go_simp; try simp (disch := omega) only [wrap64_id])); try (with_reducible rfl)
        refine ⟨.inl ⟨by rfl, opOk_pure fun wS hS => ?_⟩, ?_⟩
        · ((subst hS; go_simp; try simp (disch := omega) only [wrap64_id])); try (with_reducible rfl)
        refine ⟨.inl ⟨by rfl, opOk_pure fun wS hS => ?_⟩, ?_⟩
        · ((subst hS; go_simp; try simp (disch := omega) only [wrap64_id])); try (with_reducible rfl)
        refine ⟨.inl ⟨by rfl, opOk_pure fun wS hS => ?_⟩, ?_⟩
        · ((subst hS; go_simp; try simp (disch := omega) only [wrap64_id])); try (with_reducible rfl)
        refine ⟨.inl ⟨by rfl, opOk_pure fun wS hS => ?_⟩, ?_⟩
        · ((subst hS; go_simp; try simp (disch := omega) only [wrap64_id])); try (with_reducible rfl)
        refine ⟨.inl ⟨by rfl, opOk_pure fun wS hS => ?_⟩, ?_⟩
        · ((subst hS; go_simp; try simp (disch := omega) only [wrap64_id])); try (with_reducible rfl)
        refine ⟨.inl ⟨by rfl, opOk_pure fun wS hS => ?_⟩, ?_⟩
        · ((subst hS; go_simp; try simp (disch := omega) only [wrap64_id])); try (with_reducible rfl)
        refine ⟨.inl ⟨by rfl, opOk_pure fun wS hS => ?_⟩, ?_⟩
        · ((subst hS; go_simp; try simp (disch := omega) only [wrap64_id])); try (with_reducible rfl)
        refine ⟨.inl ⟨by rfl, opOk_pure fun wS hS => ?_⟩, ?_⟩
        · ((subst hS; go_simp; try simp (disch := omega) only [wrap64_id])); try (with_reducible rfl)
        refine ⟨.inl ⟨by rfl, opOk_pure fun wS hS => ?_⟩, ?_⟩
        · ((subst hS; go_simp; try simp (disch := omega) only [wrap64_id])); try (with_reducible rfl)
        refine ⟨.inl ⟨by rfl, opOk_pure fun wS hS => ?_⟩, ?_⟩
        · ((subst hS; go_simp; try simp (disch := omega) only [wrap64_id])); try (with_reducible rfl)
        refine ⟨.inl ⟨by rfl, opOk_pure fun wS hS => ?_⟩, ?_⟩
        · ((subst hS; go_simp; try simp (disch := omega) only [wrap64_id])); try (with_reducible rfl)
        refine ⟨.inl ⟨by rfl, opOk_pure fun wS hS => ?_⟩, ?_⟩
        · ((subst hS; go_simp; try simp (disch := omega) only [wrap64_id])); try (with_reducible rfl)
        refine ⟨.inl ⟨by rfl, opOk_pure fun wS hS => ?_⟩, ?_⟩
        · ((subst hS; go_simp; try simp (disch := omega) only [wrap64_id])); try (with_reducible rfl)
        refine ⟨.inl ⟨by rfl, opOk_pure fun wS hS => ?_⟩, ?_⟩
        · ((subst hS; go_simp; try simp (disch := omega) only [wrap64_id])); try (with_reducible rfl)
        trivial
      case henda =>
        intro wE hE
        simp only [OpsOk, fillT, List.setIfInBounds_toArray, List.set_cons_zero, List.set_cons_succ]
        subst hE
        go_wp2
        go_ret
        exact ⟨rfl, (refA_shut (l := [_]) hS.drew).toMoves⟩
    · have e1 : rapE ⟨S, L, steps, fuse, false⟩ P.length = stE fuse := by unfold rapE; simp [hsz]
      have e2 : appS ⟨S, L, steps, fuse, false⟩ P = ⟨S, if fuse = 0 then L else L ++ P, stS steps fuse, stF fuse, stD fuse false⟩ := by unfold appS; simp [hsz]
      rw [e1, e2]
      clear e1 e2
      go_enter Try.func24, Try.ntmps24
      go_wp2_with fail
      refine region_flow (S := fun w' => w' = w.drew) (vs := [?vb0, ?vb1, ?vb2, ?vb3, ?vb4, ?vb5, ?vb6, ?vb7, ?vb8, ?vb9, ?vb10, ?vb11, ?vb12, ?vb13, ?vb14]) (by kernel_rfl) (by kernel_rfl) (by kernel_rfl) (by kernel_rfl) (by kernel_rfl) rfl ?hSb ?hopsb ?hendb
      case hSb => exact rfl
      case hopsb =>
        simp only [OpsOk, fillT, List.setIfInBounds_toArray, List.set_cons_zero, List.set_cons_succ]
        refine ⟨.inl ⟨by rfl, opOk_pure fun wS hS => ?_⟩, ?_⟩
        · ((subst hS; go_simp; try simp (disch := omega) only [wrap64_id])); try (with_reducible rfl)
        refine ⟨.inl ⟨by rfl, opOk_pure fun wS hS => ?_⟩, ?_⟩
        · ((subst hS; go_simp; try simp (disch := omega) only [wrap64_id])); try (with_reducible rfl)
        refine ⟨.inl ⟨by rfl, opOk_pure fun wS hS => ?_⟩, ?_⟩
        · ((subst hS; go_simp; try simp (disch := omega) only [wrap64_id])); try (with_reducible rfl)
        refine ⟨.inl ⟨by rfl, opOk_pure fun wS hS => ?_⟩, ?_⟩
        · ((subst hS; go_simp; try simp (disch := omega) only [wrap64_id])); try (with_reducible rfl)
        refine ⟨.inl ⟨by rfl, opOk_pure fun wS hS => ?_⟩, ?_⟩
        · ((subst hS; go_simp; try simp (disch := omega) only [wrap64_id])); try (with_reducible rfl)
        refine ⟨.inl ⟨by rfl, opOk_pure fun wS hS => ?_⟩, ?_⟩
        · ((subst hS; go_simp; try simp (disch := omega) only [wrap64_id])); try (with_reducible rfl)
        refine ⟨.inl ⟨by rfl, opOk_pure fun wS hS => ?_⟩, ?_⟩
        · ((subst hS; go_simp; try simp (disch := omega) only [wrap64_id])); try (with_reducible rfl)
        refine ⟨.inl ⟨by rfl, opOk_pure fun wS hS => ?_⟩, ?_⟩
        · ((subst hS; go_simp; try simp (disch := omega) only [wrap64_id])); try (with_reducible rfl)
        refine ⟨.inl ⟨by rfl, opOk_pure fun wS hS => ?_⟩, ?_⟩
        · ((subst hS; go_simp; try simp (disch := omega) only [wrap64_id])); try (with_reducible rfl)
        refine ⟨.inl ⟨by rfl, opOk_pure fun wS hS => ?_⟩, ?_⟩
        · ((subst hS; go_simp; try simp (disch := omega) only [wrap64_id])); try (with_reducible rfl)
        refine ⟨.inl ⟨by rfl, opOk_pure fun wS hS => ?_⟩, ?_⟩
        · ((subst hS; go_simp; try simp (disch := omega) only [wrap64_id])); try (with_reducible rfl)
        refine ⟨.inl ⟨by rfl, opOk_pure fun wS hS => ?_⟩, ?_⟩
        · ((subst hS; go_simp; try simp (disch := omega) only [wrap64_id])); try (with_reducible rfl)
        refine ⟨.inl ⟨by rfl, opOk_pure fun wS hS => ?_⟩, ?_⟩
        · ((subst hS; go_simp; try simp (disch := omega) only [wrap64_id])); try (with_reducible rfl)
        refine ⟨.inl ⟨by rfl, opOk_pure fun wS hS => ?_⟩, ?_⟩
        · ((subst hS; go_simp; try simp (disch := omega) only [wrap64_id])); try (with_reducible rfl)
        refine ⟨.inl ⟨by rfl, opOk_pure fun wS hS => ?_⟩, ?_⟩
        · ((subst hS; go_simp; try simp (disch := omega) only [wrap64_id])); try (with_reducible rfl)
        trivial
      case hendb =>
        intro wE hE
        simp only [OpsOk, fillT, List.setIfInBounds_toArray, List.set_cons_zero, List.set_cons_succ]
        subst hE
        clear hS hk
        go_wp2_with fail
        refine (Sat.call1 (i := 0) H0.out.drew rfl (fun F hF _ => HT.out F hF)).mono ?_
        rintro e w2 ⟨rfl, h2⟩
        simp only [List.set_cons_zero, rstp] at h2
        obtain ⟨As, cs, Al, cl, hS⟩ := refA_open h2
        dsimp only [List.cons_append, List.nil_append] at hS
        have hk := hS.all
        simp only [allFacts, box_facts, row_facts, emp_facts, cellFacts, Nat.zero_add, Nat.reduceAdd, true_and, and_true] at hk
        rcases (show fuse = 0 ∨ fuse ≠ 0 by omega) with h0 | h0
        · subst h0
          have e0 : rpow ⟨S, L, steps, 0, false⟩ = false := rfl
          rw [e0]
          clear e0
          go_wp2
          go_ret
          exact ⟨rfl, h2.toMoves⟩
        · have e0 : rpow ⟨S, L, steps, fuse, false⟩ = true := by unfold rpow; simp [h0]
          have e3 : stE fuse = 0 := if_neg h0
          have e4 : (if fuse = 0 then L else L ++ P) = L ++ P := if_neg h0
          rw [e0]
          have E3 := Lib.hid e3
          have E4 := Lib.hid e4
          clear e0 e3 e4 h2
          have hs0 : ∀ ad, A = some ad → bytesOf P ≠ [] → ad.block < w.heap.size ∧ ¬ F ad.block := fun ad had hne => ⟨src_lt HR.out ad had hne, HF.out ad had hne⟩
          have hm := hS.made #[] 5 1 0 0 rfl (Nat.le_refl _) (Nat.zero_le _)
          have hl2 := src_row (hm.rowOf (i := 3) rfl)
          have hl3 := row_none (hm.rowOf (i := 3) rfl)
          have HS0 := Lib.hid hs0
          have HM := Lib.hid hm
          have HL2 := Lib.hid hl2
          have HL3 := Lib.hid hl3
          clear hs0 hm hl2 hl3
          go_wp2_with (first
            | (at_builtin; refine wpList_append_sat rfl _ _ 25 rfl HM.out 4 5 (.int .u8 0) 1 1 Try.underlying25 info_u8 rfl (by decide) (.slice (some ⟨w2.heap.size, 0, none⟩) 0 0) 0 [] ?a0 rfl Al L.length cl (bytesOf L) ?a1 HL3.out ?a2 HL2.out ?a3 ?a4 ?a5 ?a6)
            | fail)
          try (case a0 => go_simp)
          try (case a1 => go_simp)
          try (case a2 => simp [bytesOf])
          case a3 => intro u hu; simp [bytesOf] at hu; obtain ⟨x, _, rfl⟩ := hu; rfl
          case a4 => unfold maxLen; omega
          case a5 => omega
          case a6 =>
            intro A1 c1 w3 h3 hA1 hg1
            try simp only [List.cons_append, List.nil_append, List.set_cons_succ, List.set_cons_zero, Nat.zero_add] at h3 hA1
            have hp : SrcOf w3 A (bytesOf P) := src_rest h3 (i := 1) rfl HR.out (fun ad had hne => HS0.out ad had hne)
            have hk2 := h3.all
            simp only [allFacts, box_facts, row_facts, emp_facts, cellFacts, Nat.zero_add, Nat.reduceAdd, true_and, and_true] at hk2
            have HP := Lib.hid hp
            have HA1 := Lib.hid hA1
            clear hp hA1 hg1 hk
            go_wp2_with (first
              | (at_builtin; refine wpList_append_sat rfl _ _ 25 rfl h3 4 5 (.int .u8 0) 1 1 Try.underlying25 info_u8 rfl (by decide) (.slice A1 L.length c1) L.length (bytesOf L) ?b0 rfl A P.length c (bytesOf P) ?b1 HA.out ?b2 HP.out ?b3 ?b4 ?b5 ?b6)
              | fail)
            try (case b0 => go_simp)
            try (case b1 => go_simp)
            try (case b2 => simp [bytesOf])
            case b3 => intro u hu; simp [bytesOf] at hu; obtain ⟨x, _, rfl⟩ := hu; rfl
            case b4 => unfold maxLen; omega
            case b5 => omega
            case b6 =>
              intro A2 c2 w4 h4 hA2 hg2
              try simp only [List.cons_append, List.nil_append, List.set_cons_succ, List.set_cons_zero, Nat.zero_add] at h4 hA2
              have hk3 := h4.all
              simp only [allFacts, box_facts, row_facts, emp_facts, cellFacts, Nat.zero_add, Nat.reduceAdd, true_and, and_true] at hk3
              clear hk2
              go_wp2
              go_ret
              rw [E3.out]
              try rw [E4.out]
              rw [bytes_app] at h4
              exact ⟨rfl, (refA_shut (l := [_]) ((h4.set 0 rfl 1 (.slice A2 (L.length + P.length) c2)).pick [0, 1, 2, 4] (by decide))).toMoves⟩
end Go.Proofs.Ytofhcdjnnbpkbaa
