/- The document's slab, as it lies in memory; its small calls. -/
import Derived.Test.YtidcdfilfccigaaBytes
import Derived.Test.YtidcdfilfccigaaSlc17
import Derived.Test.YtidcdfilfccigaaChain
import Derived.LoopTactic
namespace Go.Proofs.Ytidcdfilfccigaa
set_option linter.unusedVariables false
set_option linter.unusedSimpArgs false
set_option linter.unnecessarySimpa false
open Go.RowKit

/-- The document's slab at m. -/
def refA (m : Nat) (st : St) : Asn := some_ fun p : (Option Addr × Nat) × (Option Addr × Nat) =>
  star2 (star2 (box m 88 [.slice p.1.1 st.S.length p.1.2, .slice p.2.1 st.L.length p.2.2, .int .i64 st.fuse, .int .i64 st.steps, .bool st.down])
    (row 5 1 (.slice p.2.1 st.L.length p.2.2) st.L.length (bytesOf st.L))) (row 5 1 (.slice p.1.1 st.S.length p.1.2) st.S.length (bytesOf st.S))

section
variable {w0 w : World} {l : List Asn} {m : Nat} {st : St}
theorem refA_open (h : Sat w0 w (refA m st :: l)) : ∃ As cs Al cl, Sat w0 w (box m 88 [.slice As st.S.length cs, .slice Al st.L.length cl, .int .i64 st.fuse, .int .i64 st.steps, .bool st.down] :: l ++
    [row 5 1 (.slice As st.S.length cs) st.S.length (bytesOf st.S), row 5 1 (.slice Al st.L.length cl) st.L.length (bytesOf st.L)]) := by
  obtain ⟨⟨⟨As, cs⟩, ⟨Al, cl⟩⟩, h1⟩ := h.open_some (i := 0) rfl
  have h2 := (h1.open2 (i := 0) rfl).open2 (i := 0) rfl
  refine ⟨As, cs, Al, cl, ?_⟩
  simpa using h2
theorem refA_shut {As Al : Option Addr} {cs cl nS nL : Nat} (h : Sat w0 w (box m 88 [.slice As nS cs, .slice Al nL cl, .int .i64 st.fuse, .int .i64 st.steps, .bool st.down] :: l ++
    [row 5 1 (.slice As nS cs) nS (bytesOf st.S), row 5 1 (.slice Al nL cl) nL (bytesOf st.L)])) : Sat w0 w (refA m st :: l) := by
  have e1 := (h.rowOf (T := 5) (k := 1) (v := .slice As nS cs) (n := nS) (xs := bytesOf st.S) (i := l.length + 1) (by simp)).1
  have e2 := (h.rowOf (T := 5) (k := 1) (v := .slice Al nL cl) (n := nL) (xs := bytesOf st.L) (i := l.length + 1 + 1) (by simp)).1
  simp [bytesOf] at e1 e2
  subst e1; subst e2
  have h1 : Sat w0 w ((box m 88 [.slice As st.S.length cs, .slice Al st.L.length cl, .int .i64 st.fuse, .int .i64 st.steps, .bool st.down] :: l ++ [row 5 1 (.slice As st.S.length cs) st.S.length (bytesOf st.S)]) ++ [row 5 1 (.slice Al st.L.length cl) st.L.length (bytesOf st.L)]) := by simpa using h
  have h2 := h1.shut2 (i := 0) rfl
  have h3 := Sat.shut2 (l := star2 (box m 88 [.slice As st.S.length cs, .slice Al st.L.length cl, .int .i64 st.fuse, .int .i64 st.steps, .bool st.down]) (row 5 1 (.slice Al st.L.length cl) st.L.length (bytesOf st.L)) :: l) (by simpa using h2) (i := 0) rfl
  have h4 := Sat.shut_some (f := fun p : (Option Addr × Nat) × (Option Addr × Nat) =>
  star2 (star2 (box m 88 [.slice p.1.1 st.S.length p.1.2, .slice p.2.1 st.L.length p.2.2, .int .i64 st.fuse, .int .i64 st.steps, .bool st.down])
    (row 5 1 (.slice p.2.1 st.L.length p.2.2) st.L.length (bytesOf st.L))) (row 5 1 (.slice p.1.1 st.S.length p.1.2) st.S.length (bytesOf st.S))) h3 (i := 0) ((As, cs), (Al, cl)) rfl
  have h5 := h4
  simp only [List.set_cons_zero] at h5
  exact h5
end

/-- What a step answers, and leaves. -/
def rpow (st : St) : Bool := decide (st.fuse ≠ 0)
def rstp (st : St) : St := { st with steps := stS st.steps st.fuse, fuse := stF st.fuse, down := stD st.fuse st.down }

theorem rstep_any (w : World) (m : Nat) (st : St) (ok : st.Ok) (F : Nat → Prop) (h : (refA m st).sat F w) : Calls Try.prog 69 #[.pointer (some ⟨m, 0, none⟩)] w fun e w' =>
    e = .returned (.bool (rpow st)) ∧ ∃ F', (refA m (rstp st)).sat F' w' ∧ Moves F F' w w' := by
  obtain ⟨S, L, steps, fuse, down⟩ := st
  obtain ⟨o1, o2, o3, o4, o5⟩ := ok
  obtain ⟨As, cs, Al, cl, hS⟩ := refA_open (Sat.ofOne h)
  dsimp only [List.cons_append, List.nil_append] at *
  have hk := hS.all
  simp only [allFacts, box_facts, row_facts, cellFacts, Nat.zero_add, Nat.reduceAdd, true_and, and_true] at hk
  obtain ⟨⟨⟨c0, f0, c1, f1, c2, f2, c3, f3, c4, f4⟩, hlt⟩, -⟩ := hk
  rcases (show fuse = 0 ∨ 0 < fuse ∨ fuse < 0 by omega) with h0 | h0 | h0
  · subst h0
    go_enter Try.func69, Try.ntmps69
    go_wp2
    go_ret
    exact ⟨rfl, (refA_shut (l := [_]) (hS.set 0 rfl 4 _)).toMoves⟩
  · have e1 : rstp ⟨S, L, steps, fuse, down⟩ = ⟨S, L, steps + 1, fuse - 1, down⟩ := by unfold rstp stS stF stD; simp [h0]; omega
    have e2 : rpow ⟨S, L, steps, fuse, down⟩ = true := by unfold rpow; simp; omega
    rw [e1, e2]
    clear e1 e2
    go_enter Try.func69, Try.ntmps69
    go_wp2
    go_ret
    exact ⟨rfl, (refA_shut (l := [_]) ((hS.set 0 rfl 2 _).set 0 rfl 3 _)).toMoves⟩
  · have e1 : rstp ⟨S, L, steps, fuse, down⟩ = ⟨S, L, steps + 1, fuse, down⟩ := by unfold rstp stS stF stD; simp; omega
    have e2 : rpow ⟨S, L, steps, fuse, down⟩ = true := by unfold rpow; simp; omega
    rw [e1, e2]
    clear e1 e2
    go_enter Try.func69, Try.ntmps69
    go_wp2
    go_ret
    exact ⟨rfl, (refA_shut (l := [_]) (hS.set 0 rfl 3 _)).toMoves⟩
open Go.RowKit

def rapE (st : St) (n : Nat) : Int := if st.down then 5 else if 262144 < st.S.length + st.L.length + n then 4 else stE st.fuse

set_option maxRecDepth 100000 in
set_option maxHeartbeats 1000000 in
theorem rappend_any (w : World) (m : Nat) (st : St) (ok : st.Ok) (P : List Int) (A : Option Addr) (c : Nat) (hA : A = none → P.length = 0 ∧ c = 0)
    (hsrc : SrcOf w A (bytesOf P)) (hP : P.length ≤ 140737488355328) (F : Nat → Prop) (h : (refA m st).sat F w) (hAF : ∀ ad, A = some ad → bytesOf P ≠ [] → ¬ F ad.block) :
    Calls Try.prog 47 #[.pointer (some ⟨m, 0, none⟩), .slice A P.length c] w fun e w' => e = .returned (.int .i64 (rapE st P.length)) ∧ ∃ F', (refA m (appS st P)).sat F' w' ∧ Moves F F' w w' := by
  obtain ⟨S, L, steps, fuse, down⟩ := st
  obtain ⟨o1, o2, o3, o4, o5⟩ := ok
  have h0 := Sat.ofOne h
  obtain ⟨As, cs, Al, cl, hS⟩ := refA_open h0
  dsimp only [List.cons_append, List.nil_append] at *
  have hk := hS.all
  simp only [allFacts, box_facts, row_facts, cellFacts, Nat.zero_add, Nat.reduceAdd, true_and, and_true] at hk
  have hstep := rstep_any w.drew m ⟨S, L, steps, fuse, down⟩ ⟨o1, o2, o3, o4, o5⟩
  have HT := Lib.hid hstep
  have HA := Lib.hid hA
  have HR := Lib.hid hsrc
  have HF := Lib.hid hAF
  have H0 := Lib.hid h0
  clear hA hsrc hAF h0 hstep h
  cases down with
  | true =>
    go_enter Try.func47, Try.ntmps47
    go_wp2
    go_ret
    exact ⟨rfl, (refA_shut (l := [_]) hS).toMoves⟩
  | false =>
    rcases (show 262144 < S.length + L.length + P.length ∨ ¬ 262144 < S.length + L.length + P.length by omega) with hsz | hsz
    · have e1 : rapE ⟨S, L, steps, fuse, false⟩ P.length = 4 := by unfold rapE; simp [hsz]
      have e2 : appS ⟨S, L, steps, fuse, false⟩ P = ⟨S, L, steps, fuse, false⟩ := by unfold appS; simp [hsz]
      rw [e1, e2]
      clear e1 e2
      go_enter Try.func47, Try.ntmps47
      go_wp2_with fail
      refine region_flow (S := fun w' => w' = w.drew) (vs := [?va0, ?va1, ?va2, ?va3, ?va4, ?va5, ?va6, ?va7, ?va8, ?va9, ?va10, ?va11, ?va12, ?va13, ?va14]) (by kernel_rfl) (by kernel_rfl) (by kernel_rfl) (by kernel_rfl) (by kernel_rfl) rfl ?hSa ?hopsa ?henda
      case hSa => exact rfl
      case hopsa =>
        simp only [OpsOk, fillT, List.setIfInBounds_toArray, List.set_cons_zero, List.set_cons_succ]
        refine ⟨.inl ⟨by rfl, opOk_pure fun wS hS => ?_⟩, ?_⟩
        · ((subst hS; go_simp; try simp (disch := omega) only [wrap64_id])); try (with_reducible rfl)
        refine ⟨.inl ⟨by rfl, opOk_pure fun wS hS => ?_⟩, ?_⟩
        · ((subst hS; go_simp; try simp (disch := omega) only [wrap64_id])); try (with_reducible rfl)
        refine ⟨.inl ⟨by rfl, opOk_pure fun wS hS => ?_⟩, ?_⟩
        · ((subst hS; go_simp; try simp (disch := omega) only [wrap64_id])); try (with_reducible rfl)
        refine ⟨.inl ⟨by rfl, opOk_pure fun wS hS => ?_⟩, ?_⟩
        · ((subst hS; go_simp; try simp (disch := omega) only [wrap64_id])); try (with_reducible rfl)
        refine ⟨.inl ⟨by rfl, opOk_pure fun wS hS => ?_⟩, ?_⟩
        · ((subst hS; go_simp; try simp (disch := omega) only [wrap64_id])); try (with_reducible rfl)
        refine ⟨.inl ⟨by rfl, opOk_pure fun wS hS => ?_⟩, ?_⟩
        · ((subst hS; go_simp; try simp (disch := omega) only [wrap64_id])); try (with_reducible rfl)
        refine ⟨.inl ⟨by rfl, opOk_pure fun wS hS => ?_⟩, ?_⟩
        · ((subst hS; go_simp; try simp (disch := omega) only [wrap64_id])); try (with_reducible rfl)
        refine ⟨.inl ⟨by rfl, opOk_pure fun wS hS => ?_⟩, ?_⟩
        · ((subst hS; go_simp; try simp (disch := omega) only [wrap64_id])); try (with_reducible rfl)
        refine ⟨.inl ⟨by rfl, opOk_pure fun wS hS => ?_⟩, ?_⟩
        · ((subst hS; go_simp; try simp (disch := omega) only [wrap64_id])); try (with_reducible rfl)
        refine ⟨.inl ⟨by rfl, opOk_pure fun wS hS => ?_⟩, ?_⟩
        · ((subst hS; go_simp; try simp (disch := omega) only [wrap64_id])); try (with_reducible rfl)
        refine ⟨.inl ⟨by rfl, opOk_pure fun wS hS => ?_⟩, ?_⟩
        · ((subst hS; go_simp; try simp (disch := omega) only [wrap64_id])); try (with_reducible rfl)
        refine ⟨.inl ⟨by rfl, opOk_pure fun wS hS => ?_⟩, ?_⟩
        · ((subst hS; go_simp; try simp (disch := omega) only [wrap64_id])); try (with_reducible rfl)
        refine ⟨.inl ⟨by rfl, opOk_pure fun wS hS => ?_⟩, ?_⟩
        · ((subst hS; go_simp; try simp (disch := omega) only [wrap64_id])); try (with_reducible rfl)
        refine ⟨.inl ⟨by rfl, opOk_pure fun wS hS => ?_⟩, ?_⟩
        · ((subst hS; go_simp; try simp (disch := omega) only [wrap64_id])); try (with_reducible rfl)
        refine ⟨.inl ⟨by rfl, opOk_pure fun wS hS => ?_⟩, ?_⟩
        · ((subst hS; go_simp; try simp (disch := omega) only [wrap64_id])); try (with_reducible rfl)
        trivial
      case henda =>
        intro wE hE
        simp only [OpsOk, fillT, List.setIfInBounds_toArray, List.set_cons_zero, List.set_cons_succ]
        subst hE
        go_wp2
        go_ret
        exact ⟨rfl, (refA_shut (l := [_]) hS.drew).toMoves⟩
    · have e1 : rapE ⟨S, L, steps, fuse, false⟩ P.length = stE fuse := by unfold rapE; simp [hsz]
      have e2 : appS ⟨S, L, steps, fuse, false⟩ P = ⟨S, if fuse = 0 then L else L ++ P, stS steps fuse, stF fuse, stD fuse false⟩ := by unfold appS; simp [hsz]
      rw [e1, e2]
      clear e1 e2
      go_enter Try.func47, Try.ntmps47
      go_wp2_with fail
      refine region_flow (S := fun w' => w' = w.drew) (vs := [?vb0, ?vb1, ?vb2, ?vb3, ?vb4, ?vb5, ?vb6, ?vb7, ?vb8, ?vb9, ?vb10, ?vb11, ?vb12, ?vb13, ?vb14]) (by kernel_rfl) (by kernel_rfl) (by kernel_rfl) (by kernel_rfl) (by kernel_rfl) rfl ?hSb ?hopsb ?hendb
      case hSb => exact rfl
      case hopsb =>
        simp only [OpsOk, fillT, List.setIfInBounds_toArray, List.set_cons_zero, List.set_cons_succ]
        refine ⟨.inl ⟨by rfl, opOk_pure fun wS hS => ?_⟩, ?_⟩
        · ((subst hS; go_simp; try simp (disch := omega) only [wrap64_id])); try (with_reducible rfl)
        refine ⟨.inl ⟨by rfl, opOk_pure fun wS hS => ?_⟩, ?_⟩
        · ((subst hS; go_simp; try simp (disch := omega) only [wrap64_id])); try (with_reducible rfl)
        refine ⟨.inl ⟨by rfl, opOk_pure fun wS hS => ?_⟩, ?_⟩
        · ((subst hS; go_simp; try simp (disch := omega) only [wrap64_id])); try (with_reducible rfl)
        refine ⟨.inl ⟨by rfl, opOk_pure fun wS hS => ?_⟩, ?_⟩
        · ((subst hS; go_simp; try simp (disch := omega) only [wrap64_id])); try (with_reducible rfl)
        refine ⟨.inl ⟨by rfl, opOk_pure fun wS hS => ?_⟩, ?_⟩
        · ((subst hS; go_simp; try simp (disch := omega) only [wrap64_id])); try (with_reducible rfl)
        refine ⟨.inl ⟨by rfl, opOk_pure fun wS hS => ?_⟩, ?_⟩
        · ((subst hS; go_simp; try simp (disch := omega) only [wrap64_id])); try (with_reducible rfl)
        refine ⟨.inl ⟨by rfl, opOk_pure fun wS hS => ?_⟩, ?_⟩
        · ((subst hS; go_simp; try simp (disch := omega) only [wrap64_id])); try (with_reducible rfl)
        refine ⟨.inl ⟨by rfl, opOk_pure fun wS hS => ?_⟩, ?_⟩
        · ((subst hS; go_simp; try simp (disch := omega) only [wrap64_id])); try (with_reducible rfl)
        refine ⟨.inl ⟨by rfl, opOk_pure fun wS hS => ?_⟩, ?_⟩
        · ((subst hS; go_simp; try simp (disch := omega) only [wrap64_id])); try (with_reducible rfl)
        refine ⟨.inl ⟨by rfl, opOk_pure fun wS hS => ?_⟩, ?_⟩
        · ((subst hS; go_simp; try simp (disch := omega) only [wrap64_id])); try (with_reducible rfl)
        refine ⟨.inl ⟨by rfl, opOk_pure fun wS hS => ?_⟩, ?_⟩
        · ((subst hS; go_simp; try simp (disch := omega) only [wrap64_id])); try (with_reducible rfl)
        refine ⟨.inl ⟨by rfl, opOk_pure fun wS hS => ?_⟩, ?_⟩
        · ((subst hS; go_simp; try simp (disch := omega) only [wrap64_id])); try (with_reducible rfl)
        refine ⟨.inl ⟨by rfl, opOk_pure fun wS hS => ?_⟩, ?_⟩
        · ((subst hS; go_simp; try simp (disch := omega) only [wrap64_id])); try (with_reducible rfl)
        refine ⟨.inl ⟨by rfl, opOk_pure fun wS hS => ?_⟩, ?_⟩
        · ((subst hS; go_simp; try simp (disch := omega) only [wrap64_id])); try (with_reducible rfl)
        refine ⟨.inl ⟨by rfl, opOk_pure fun wS hS => ?_⟩, ?_⟩
        · ((subst hS; go_simp; try simp (disch := omega) only [wrap64_id])); try (with_reducible rfl)
        trivial
      case hendb =>
        intro wE hE
        simp only [OpsOk, fillT, List.setIfInBounds_toArray, List.set_cons_zero, List.set_cons_succ]
        subst hE
        clear hS hk
        go_wp2_with fail
        refine (Sat.call1 (i := 0) H0.out.drew rfl (fun F hF _ => HT.out F hF)).mono ?_
        rintro e w2 ⟨rfl, h2⟩
        simp only [List.set_cons_zero, rstp] at h2
        obtain ⟨As, cs, Al, cl, hS⟩ := refA_open h2
        dsimp only [List.cons_append, List.nil_append] at hS
        have hk := hS.all
        simp only [allFacts, box_facts, row_facts, emp_facts, cellFacts, Nat.zero_add, Nat.reduceAdd, true_and, and_true] at hk
        rcases (show fuse = 0 ∨ fuse ≠ 0 by omega) with h0 | h0
        · subst h0
          have e0 : rpow ⟨S, L, steps, 0, false⟩ = false := rfl
          rw [e0]
          clear e0
          go_wp2
          go_ret
          exact ⟨rfl, h2.toMoves⟩
        · have e0 : rpow ⟨S, L, steps, fuse, false⟩ = true := by unfold rpow; simp [h0]
          have e3 : stE fuse = 0 := if_neg h0
          have e4 : (if fuse = 0 then L else L ++ P) = L ++ P := if_neg h0
          rw [e0]
          have E3 := Lib.hid e3
          have E4 := Lib.hid e4
          clear e0 e3 e4 h2
          have hs0 : ∀ ad, A = some ad → bytesOf P ≠ [] → ad.block < w.heap.size ∧ ¬ F ad.block := fun ad had hne => ⟨src_lt HR.out ad had hne, HF.out ad had hne⟩
          have hm := hS.made #[] 5 1 0 0 rfl (Nat.le_refl _) (Nat.zero_le _)
          have hl2 := src_row (hm.rowOf (i := 3) rfl)
          have hl3 := row_none (hm.rowOf (i := 3) rfl)
          have HS0 := Lib.hid hs0
          have HM := Lib.hid hm
          have HL2 := Lib.hid hl2
          have HL3 := Lib.hid hl3
          clear hs0 hm hl2 hl3
          go_wp2_with (first
            | (at_builtin; refine wpList_append_sat rfl _ _ 36 rfl HM.out 4 5 (.int .u8 0) 1 1 Try.underlying36 info_u8 rfl (by decide) (.slice (some ⟨w2.heap.size, 0, none⟩) 0 0) 0 [] ?a0 rfl Al L.length cl (bytesOf L) ?a1 HL3.out ?a2 HL2.out ?a3 ?a4 ?a5 ?a6)
            | fail)
          try (case a0 => go_simp)
          try (case a1 => go_simp)
          try (case a2 => simp [bytesOf])
          case a3 => intro u hu; simp [bytesOf] at hu; obtain ⟨x, _, rfl⟩ := hu; rfl
          case a4 => unfold maxLen; omega
          case a5 => omega
          case a6 =>
            intro A1 c1 w3 h3 hA1 hg1
            try simp only [List.cons_append, List.nil_append, List.set_cons_succ, List.set_cons_zero, Nat.zero_add] at h3 hA1
            have hp : SrcOf w3 A (bytesOf P) := src_rest h3 (i := 1) rfl HR.out (fun ad had hne => HS0.out ad had hne)
            have hk2 := h3.all
            simp only [allFacts, box_facts, row_facts, emp_facts, cellFacts, Nat.zero_add, Nat.reduceAdd, true_and, and_true] at hk2
            have HP := Lib.hid hp
            have HA1 := Lib.hid hA1
            clear hp hA1 hg1 hk
            go_wp2_with (first
              | (at_builtin; refine wpList_append_sat rfl _ _ 36 rfl h3 4 5 (.int .u8 0) 1 1 Try.underlying36 info_u8 rfl (by decide) (.slice A1 L.length c1) L.length (bytesOf L) ?b0 rfl A P.length c (bytesOf P) ?b1 HA.out ?b2 HP.out ?b3 ?b4 ?b5 ?b6)
              | fail)
            try (case b0 => go_simp)
            try (case b1 => go_simp)
            try (case b2 => simp [bytesOf])
            case b3 => intro u hu; simp [bytesOf] at hu; obtain ⟨x, _, rfl⟩ := hu; rfl
            case b4 => unfold maxLen; omega
            case b5 => omega
            case b6 =>
              intro A2 c2 w4 h4 hA2 hg2
              try simp only [List.cons_append, List.nil_append, List.set_cons_succ, List.set_cons_zero, Nat.zero_add] at h4 hA2
              have hk3 := h4.all
              simp only [allFacts, box_facts, row_facts, emp_facts, cellFacts, Nat.zero_add, Nat.reduceAdd, true_and, and_true] at hk3
              clear hk2
              go_wp2
              go_ret
              rw [E3.out]
              try rw [E4.out]
              rw [bytes_app] at h4
              exact ⟨rfl, (refA_shut (l := [_]) ((h4.set 0 rfl 1 (.slice A2 (L.length + P.length) c2)).pick [0, 1, 2, 4] (by decide))).toMoves⟩
open Go.RowKit

set_option maxRecDepth 100000 in
set_option maxHeartbeats 1000000 in
theorem rsync_any (w : World) (m : Nat) (st : St) (ok : st.Ok) (F : Nat → Prop) (h : (refA m st).sat F w) :
    Calls Try.prog 53 #[.pointer (some ⟨m, 0, none⟩)] w fun e w' => e = .returned (.int .i64 (syE st)) ∧ ∃ F', (refA m (syS st)).sat F' w' ∧ Moves F F' w w' := by
  obtain ⟨S, L, steps, fuse, down⟩ := st
  obtain ⟨o1, o2, o3, o4, o5⟩ := ok
  have h0 := Sat.ofOne h
  obtain ⟨As, cs, Al, cl, hS⟩ := refA_open h0
  dsimp only [List.cons_append, List.nil_append] at *
  have hk := hS.all
  simp only [allFacts, box_facts, row_facts, cellFacts, Nat.zero_add, Nat.reduceAdd, true_and, and_true] at hk
  have hstep := rstep_any w m ⟨S, L, steps, fuse, down⟩ ⟨o1, o2, o3, o4, o5⟩
  have HT := Lib.hid hstep
  have H0 := Lib.hid h0
  clear h0 hstep h
  cases down with
  | true =>
    go_enter Try.func53, Try.ntmps53
    go_wp2
    go_ret
    exact ⟨rfl, (refA_shut (l := [_]) hS).toMoves⟩
  | false =>
    have e1 : syE ⟨S, L, steps, fuse, false⟩ = stE fuse := rfl
    have e2 : syS ⟨S, L, steps, fuse, false⟩ = ⟨if fuse = 0 then S else S ++ L, if fuse = 0 then L else [], stS steps fuse, stF fuse, stD fuse false⟩ := rfl
    rw [e1, e2]
    clear e1 e2
    go_enter Try.func53, Try.ntmps53
    go_wp2_with fail
    refine (Sat.call1 (i := 0) H0.out rfl (fun F hF _ => HT.out F hF)).mono ?_
    clear hS hk
    rintro e w2 ⟨rfl, h2⟩
    simp only [List.set_cons_zero, rstp] at h2
    obtain ⟨As, cs, Al, cl, hS⟩ := refA_open h2
    dsimp only [List.cons_append, List.nil_append] at hS
    have hk := hS.all
    simp only [allFacts, box_facts, row_facts, emp_facts, cellFacts, Nat.zero_add, Nat.reduceAdd, true_and, and_true] at hk
    rcases (show fuse = 0 ∨ fuse ≠ 0 by omega) with h0 | h0
    · subst h0
      have e0 : rpow ⟨S, L, steps, 0, false⟩ = false := rfl
      rw [e0]
      clear e0
      go_wp2
      go_ret
      exact ⟨rfl, h2.toMoves⟩
    · have e0 : rpow ⟨S, L, steps, fuse, false⟩ = true := by unfold rpow; simp [h0]
      have e3 : stE fuse = 0 := if_neg h0
      rw [e0]
      have E3 := Lib.hid e3
      clear e0 e3 h2
      have hS0 := Lib.hid hS.drew
      clear hS
      go_wp2_with fail
      refine region_chain (E := [1, 6, 11, 14]) (kn := [true, false, true, true, true, true, false, true, true, true, true, false, false, false, false]) (mask := [true, false, true, true, true, true, false, true, true, true, true, false, false, false, false]) (vs := [?vr0_0, undef, ?vr0_2, ?vr0_3, ?vr0_4, ?vr0_5, undef, ?vr0_7, ?vr0_8, ?vr0_9, ?vr0_10, undef, undef, undef, undef]) (S := fun w' => w' = w2.drew) (by kernel_rfl) (by kernel_rfl) (by kernel_rfl) (by kernel_rfl) (by kernel_rfl) ?hSr ?hchr
      case hSr => exact rfl
      case hchr =>
        refine chain_cons _ (by kernel_rfl) rfl rfl ?opsr0 ?wantr0 ?effr0
        case opsr0 =>
          simp only [OpsAt, fillT, List.setIfInBounds_toArray, List.set_cons_zero, List.set_cons_succ]
          refine ⟨.inl ⟨by rfl, opOk_pure fun wS hS => ?_⟩, ?_⟩
          · ((subst hS; go_simp; try simp (disch := omega) only [wrap64_id])); try (with_reducible rfl)
          refine ⟨.inl ⟨by rfl, opOk_pure fun wS hS => ?_⟩, ?_⟩
          · ((subst hS; go_simp; try simp (disch := omega) only [wrap64_id])); try (with_reducible rfl)
          refine ⟨.inl ⟨by rfl, opOk_pure fun wS hS => ?_⟩, ?_⟩
          · ((subst hS; go_simp; try simp (disch := omega) only [wrap64_id])); try (with_reducible rfl)
          refine ⟨.inl ⟨by rfl, opOk_pure fun wS hS => ?_⟩, ?_⟩
          · ((subst hS; go_simp; try simp (disch := omega) only [wrap64_id])); try (with_reducible rfl)
          refine ⟨.inl ⟨by rfl, opOk_pure fun wS hS => ?_⟩, ?_⟩
          · ((subst hS; go_simp; try simp (disch := omega) only [wrap64_id])); try (with_reducible rfl)
          refine ⟨.inl ⟨by rfl, opOk_pure fun wS hS => ?_⟩, ?_⟩
          · ((subst hS; go_simp; try simp (disch := omega) only [wrap64_id])); try (with_reducible rfl)
          refine ⟨.inl ⟨by rfl, opOk_pure fun wS hS => ?_⟩, ?_⟩
          · ((subst hS; go_simp; try simp (disch := omega) only [wrap64_id])); try (with_reducible rfl)
          refine ⟨.inl ⟨by rfl, opOk_pure fun wS hS => ?_⟩, ?_⟩
          · ((subst hS; go_simp; try simp (disch := omega) only [wrap64_id])); try (with_reducible rfl)
          refine ⟨.inl ⟨by rfl, opOk_pure fun wS hS => ?_⟩, ?_⟩
          · ((subst hS; go_simp; try simp (disch := omega) only [wrap64_id])); try (with_reducible rfl)
          try trivial
        case wantr0 => rfl
        case effr0 =>
          intro wS hS
          simp only [fillT, List.setIfInBounds_toArray, List.set_cons_zero, List.set_cons_succ]
          rw [hS]
          refine eff_run (w' := w2.drew.alloc (.cells #[] 5)) (by go_simp; try rfl) ?_
          have hm := hS0.out.made #[] 5 1 0 0 rfl (Nat.le_refl _) (Nat.zero_le _)
          simp only [List.cons_append, List.nil_append] at hm
          have hkm := hm.all
          simp only [allFacts, box_facts, row_facts, emp_facts, cellFacts, Nat.zero_add, Nat.reduceAdd, true_and, and_true] at hkm
          have HM := Lib.hid hm
          clear hm
          refine ⟨_, [true, true, true, true, true, true, false, true, true, true, true, false, false, false, false], [true, false, true, true, true, true, false, true, true, true, true, false, false, false, false], [], [?vr1_0, (.slice (some ⟨w2.drew.heap.size, 0, none⟩) 0 0), ?vr1_2, ?vr1_3, ?vr1_4, ?vr1_5, undef, ?vr1_7, ?vr1_8, ?vr1_9, ?vr1_10, undef, undef, undef, undef], fun w' => w' = w2.drew.alloc (.cells #[] 5), rfl, rfl, ?samer0, by kernel_rfl, ?hSr0, ?nxr0⟩
          case samer0 =>
            refine And.intro ?_ ?_
            · with_reducible rfl
            refine And.intro ?_ ?_
            · with_reducible rfl
            refine And.intro ?_ ?_
            · with_reducible rfl
            refine And.intro ?_ ?_
            · with_reducible rfl
            refine And.intro ?_ ?_
            · with_reducible rfl
            refine And.intro ?_ ?_
            · with_reducible rfl
            refine And.intro ?_ ?_
            · with_reducible rfl
            refine And.intro ?_ ?_
            · with_reducible rfl
            refine And.intro ?_ ?_
            · with_reducible rfl
            trivial
          case hSr0 => rfl
          case nxr0 =>
            refine chain_cons _ (by kernel_rfl) rfl rfl ?opsr1 ?wantr1 ?effr1
            case opsr1 =>
              simp only [OpsAt, fillT, List.setIfInBounds_toArray, List.set_cons_zero, List.set_cons_succ]
              refine ⟨.inl ⟨by rfl, opOk_pure fun wS hS => ?_⟩, ?_⟩
              · ((subst hS; go_simp; try simp (disch := omega) only [wrap64_id])); try (with_reducible rfl)
              refine ⟨.inl ⟨by rfl, opOk_pure fun wS hS => ?_⟩, ?_⟩
              · ((subst hS; go_simp; try simp (disch := omega) only [wrap64_id])); try (with_reducible rfl)
              refine ⟨.inl ⟨by rfl, opOk_pure fun wS hS => ?_⟩, ?_⟩
              · ((subst hS; go_simp; try simp (disch := omega) only [wrap64_id])); try (with_reducible rfl)
              refine ⟨.inl ⟨by rfl, opOk_pure fun wS hS => ?_⟩, ?_⟩
              · ((subst hS; go_simp; try simp (disch := omega) only [wrap64_id])); try (with_reducible rfl)
              refine ⟨.inl ⟨by rfl, opOk_pure fun wS hS => ?_⟩, ?_⟩
              · ((subst hS; go_simp; try simp (disch := omega) only [wrap64_id])); try (with_reducible rfl)
              refine ⟨.inl ⟨by rfl, opOk_pure fun wS hS => ?_⟩, ?_⟩
              · ((subst hS; go_simp; try simp (disch := omega) only [wrap64_id])); try (with_reducible rfl)
              refine ⟨.inl ⟨by rfl, opOk_pure fun wS hS => ?_⟩, ?_⟩
              · ((subst hS; go_simp; try simp (disch := omega) only [wrap64_id])); try (with_reducible rfl)
              refine ⟨.inl ⟨by rfl, opOk_pure fun wS hS => ?_⟩, ?_⟩
              · ((subst hS; go_simp; try simp (disch := omega) only [wrap64_id])); try (with_reducible rfl)
              refine ⟨.inl ⟨by rfl, opOk_pure fun wS hS => ?_⟩, ?_⟩
              · ((subst hS; go_simp; try simp (disch := omega) only [wrap64_id])); try (with_reducible rfl)
              try trivial
            case wantr1 => rfl
            case effr1 =>
              intro wS hS
              simp only [fillT, List.setIfInBounds_toArray, List.set_cons_zero, List.set_cons_succ]
              rw [hS]
              refine wp_append_sat _ _ 36 rfl HM.out 4 5 (.int .u8 0) 1 1 Try.underlying36 info_u8 rfl (by decide) (.slice (some ⟨w2.drew.heap.size, 0, none⟩) 0 0) 0 [] ?a0 rfl As S.length cs (bytesOf S) ?a1 (row_none (HM.out.rowOf (i := 2) rfl)) ?a2 (src_row (HM.out.rowOf (i := 2) rfl)) ?a3 ?a4 ?a5 ?a6
              try (case a0 => go_simp)
              try (case a1 => go_simp)
              try (case a2 => simp [bytesOf])
              case a3 => intro u hu; simp [bytesOf] at hu; obtain ⟨x, _, rfl⟩ := hu; rfl
              case a4 => unfold maxLen; omega
              case a5 => omega
              case a6 =>
                intro A1 c1 w3 h3 hA1 hg1
                try simp only [List.cons_append, List.nil_append, List.set_cons_succ, List.set_cons_zero, Nat.zero_add] at h3 hA1
                have hk3 := h3.all
                simp only [allFacts, box_facts, row_facts, emp_facts, cellFacts, Nat.zero_add, Nat.reduceAdd, true_and, and_true] at hk3
                clear hkm hA1 hg1
                simp only [Nat.zero_add]
                refine ⟨_, [true, true, true, true, true, true, true, true, true, true, true, false, false, false, false], [true, false, false, false, false, false, false, true, true, true, true, false, false, false, false], [5, 4, 3, 2], [?vr2_0, (.slice (some ⟨w2.drew.heap.size, 0, none⟩) 0 0), ?vr2_2, ?vr2_3, ?vr2_4, ?vr2_5, (.slice A1 S.length c1), ?vr2_7, ?vr2_8, ?vr2_9, ?vr2_10, undef, undef, undef, undef], fun w' => w' = w3, rfl, rfl, ?samer1, by kernel_rfl, ?hSr1, ?nxr1⟩
                case samer1 =>
                  refine And.intro ?_ ?_
                  · with_reducible rfl
                  refine And.intro ?_ ?_
                  · with_reducible rfl
                  refine And.intro ?_ ?_
                  · with_reducible rfl
                  refine And.intro ?_ ?_
                  · with_reducible rfl
                  refine And.intro ?_ ?_
                  · with_reducible rfl
                  refine And.intro ?_ ?_
                  · with_reducible rfl
                  refine And.intro ?_ ?_
                  · with_reducible rfl
                  refine And.intro ?_ ?_
                  · with_reducible rfl
                  refine And.intro ?_ ?_
                  · with_reducible rfl
                  refine And.intro ?_ ?_
                  · with_reducible rfl
                  trivial
                case hSr1 => rfl
                case nxr1 =>
                  refine chain_cons _ (by kernel_rfl) rfl rfl ?opsr2 ?wantr2 ?effr2
                  case opsr2 =>
                    simp only [OpsAt, fillT, List.setIfInBounds_toArray, List.set_cons_zero, List.set_cons_succ]
                    refine ⟨.inl ⟨by rfl, opOk_pure fun wS hS => ?_⟩, ?_⟩
                    · ((subst hS; go_simp; try simp (disch := omega) only [wrap64_id])); try (with_reducible rfl)
                    refine ⟨.inl ⟨by rfl, opOk_pure fun wS hS => ?_⟩, ?_⟩
                    · ((subst hS; go_simp; try simp (disch := omega) only [wrap64_id])); try (with_reducible rfl)
                    refine ⟨.inl ⟨by rfl, opOk_pure fun wS hS => ?_⟩, ?_⟩
                    · ((subst hS; go_simp; try simp (disch := omega) only [wrap64_id])); try (with_reducible rfl)
                    refine ⟨.inl ⟨by rfl, opOk_pure fun wS hS => ?_⟩, ?_⟩
                    · ((subst hS; go_simp; try simp (disch := omega) only [wrap64_id])); try (with_reducible rfl)
                    refine ⟨.inl ⟨by rfl, opOk_pure fun wS hS => ?_⟩, ?_⟩
                    · ((subst hS; go_simp; try simp (disch := omega) only [wrap64_id])); try (with_reducible rfl)
                    try trivial
                  case wantr2 => rfl
                  case effr2 =>
                    intro wS hS
                    simp only [fillT, List.setIfInBounds_toArray, List.set_cons_zero, List.set_cons_succ]
                    rw [hS]
                    refine wp_append_sat _ _ 36 rfl h3 4 5 (.int .u8 0) 1 1 Try.underlying36 info_u8 rfl (by decide) (.slice A1 S.length c1) S.length (bytesOf S) ?b0 rfl Al L.length cl (bytesOf L) ?b1 (row_none (h3.rowOf (i := 3) rfl)) ?b2 (src_row (h3.rowOf (i := 3) rfl)) ?b3 ?b4 ?b5 ?b6
                    try (case b0 => go_simp)
                    try (case b1 => go_simp)
                    try (case b2 => simp [bytesOf])
                    case b3 => intro u hu; simp [bytesOf] at hu; obtain ⟨x, _, rfl⟩ := hu; rfl
                    case b4 => unfold maxLen; omega
                    case b5 => omega
                    case b6 =>
                      intro A2 c2 w4 h4 hA2 hg2
                      try simp only [List.cons_append, List.nil_append, List.set_cons_succ, List.set_cons_zero, Nat.zero_add] at h4 hA2
                      have hk4 := h4.all
                      simp only [allFacts, box_facts, row_facts, emp_facts, cellFacts, Nat.zero_add, Nat.reduceAdd, true_and, and_true] at hk4
                      clear hk3 hA2 hg2
                      refine ⟨_, [true, true, true, true, true, true, true, true, true, true, true, true, true, true, false], [true, false, false, false, false, false, false, false, false, false, false, false, true, true, false], [10, 9, 8, 7], [?vr3_0, (.slice (some ⟨w2.drew.heap.size, 0, none⟩) 0 0), ?vr3_2, ?vr3_3, ?vr3_4, ?vr3_5, (.slice A1 S.length c1), ?vr3_7, ?vr3_8, ?vr3_9, ?vr3_10, (.slice A2 (S.length + L.length) c2), ?vr3_12, ?vr3_13, undef], fun w' => w' = w4, rfl, rfl, ?samer2, by kernel_rfl, ?hSr2, ?nxr2⟩
                      case samer2 =>
                        refine And.intro ?_ ?_
                        · with_reducible rfl
                        refine And.intro ?_ ?_
                        · with_reducible rfl
                        refine And.intro ?_ ?_
                        · with_reducible rfl
                        refine And.intro ?_ ?_
                        · with_reducible rfl
                        refine And.intro ?_ ?_
                        · with_reducible rfl
                        refine And.intro ?_ ?_
                        · with_reducible rfl
                        refine And.intro ?_ ?_
                        · with_reducible rfl
                        refine And.intro ?_ ?_
                        · with_reducible rfl
                        refine And.intro ?_ ?_
                        · with_reducible rfl
                        refine And.intro ?_ ?_
                        · with_reducible rfl
                        refine And.intro ?_ ?_
                        · with_reducible rfl
                        trivial
                      case hSr2 => rfl
                      case nxr2 =>
                        refine chain_cons _ (by kernel_rfl) rfl rfl ?opsr3 ?wantr3 ?effr3
                        case opsr3 =>
                          simp only [OpsAt, fillT, List.setIfInBounds_toArray, List.set_cons_zero, List.set_cons_succ]
                          refine ⟨.inl ⟨by rfl, opOk_pure fun wS hS => ?_⟩, ?_⟩
                          · ((subst hS; go_simp; try simp (disch := omega) only [wrap64_id])); try (with_reducible rfl)
                          refine ⟨.inl ⟨by rfl, opOk_pure fun wS hS => ?_⟩, ?_⟩
                          · ((subst hS; go_simp; try simp (disch := omega) only [wrap64_id])); try (with_reducible rfl)
                          refine ⟨.inl ⟨by rfl, opOk_pure fun wS hS => ?_⟩, ?_⟩
                          · ((subst hS; go_simp; try simp (disch := omega) only [wrap64_id])); try (with_reducible rfl)
                          try trivial
                        case wantr3 => rfl
                        case effr3 =>
                          intro wS hS
                          simp only [fillT, List.setIfInBounds_toArray, List.set_cons_zero, List.set_cons_succ]
                          rw [hS]
                          refine eff_skip (w' := w4.setCell ⟨m, 0, none⟩ (.slice A2 (S.length + L.length) c2)) (by go_simp; try rfl) ?_
                          have h5 := (h4.set 0 rfl 0 (.slice A2 (S.length + L.length) c2)).pick [0, 1, 4, 3] (by decide)
                          rw [bytes_app] at h5
                          refine ⟨_, [true, true, true, true, true, true, true, true, true, true, true, true, true, true, true], [false, false, false, false, false, false, false, false, false, false, false, false, false, false, false], [13, 0, 12], [?vr4_0, (.slice (some ⟨w2.drew.heap.size, 0, none⟩) 0 0), ?vr4_2, ?vr4_3, ?vr4_4, ?vr4_5, (.slice A1 S.length c1), ?vr4_7, ?vr4_8, ?vr4_9, ?vr4_10, (.slice A2 (S.length + L.length) c2), ?vr4_12, ?vr4_13, undef], fun w' => w' = w4.setCell ⟨m, 0, none⟩ (.slice A2 (S.length + L.length) c2), rfl, rfl, ?samer3, by kernel_rfl, ?hSr3, ?nxr3⟩
                          case samer3 =>
                            refine And.intro ?_ ?_
                            · with_reducible rfl
                            refine And.intro ?_ ?_
                            · with_reducible rfl
                            refine And.intro ?_ ?_
                            · with_reducible rfl
                            refine And.intro ?_ ?_
                            · with_reducible rfl
                            refine And.intro ?_ ?_
                            · with_reducible rfl
                            refine And.intro ?_ ?_
                            · with_reducible rfl
                            refine And.intro ?_ ?_
                            · with_reducible rfl
                            refine And.intro ?_ ?_
                            · with_reducible rfl
                            refine And.intro ?_ ?_
                            · with_reducible rfl
                            refine And.intro ?_ ?_
                            · with_reducible rfl
                            refine And.intro ?_ ?_
                            · with_reducible rfl
                            refine And.intro ?_ ?_
                            · with_reducible rfl
                            refine And.intro ?_ ?_
                            · with_reducible rfl
                            refine And.intro ?_ ?_
                            · with_reducible rfl
                            trivial
                          case hSr3 => rfl
                          case nxr3 =>
                            refine chain_nil (by kernel_rfl) rfl ?opsr4 ?endr4
                            case opsr4 =>
                              simp only [OpsAt, fillT, List.setIfInBounds_toArray, List.set_cons_zero, List.set_cons_succ]
                              try trivial
                            case endr4 =>
                              intro wE hE
                              simp only [fillT, List.setIfInBounds_toArray, List.set_cons_zero, List.set_cons_succ]
                              rw [hE]
                              go_wp2
                              go_ret
                              rw [E3.out]
                              try simp only [if_neg h0]
                              exact ⟨rfl, (refA_shut (l := [_]) ((h5.set 0 rfl 1 (.slice none 0 0)).nilRow 5 1 |>.pick [0, 1, 2, 4] (by decide))).toMoves⟩
open Go.RowKit

set_option maxRecDepth 100000 in
set_option maxHeartbeats 1000000 in
theorem rerase_any (w : World) (m : Nat) (st : St) (ok : st.Ok) (F : Nat → Prop) (h : (refA m st).sat F w) :
    Calls Try.prog 55 #[.pointer (some ⟨m, 0, none⟩)] w fun e w' => e = .returned (.int .i64 (syE st)) ∧ ∃ F', (refA m (erS st)).sat F' w' ∧ Moves F F' w w' := by
  obtain ⟨S, L, steps, fuse, down⟩ := st
  obtain ⟨o1, o2, o3, o4, o5⟩ := ok
  have h0 := Sat.ofOne h
  obtain ⟨As, cs, Al, cl, hS⟩ := refA_open h0
  dsimp only [List.cons_append, List.nil_append] at *
  have hk := hS.all
  simp only [allFacts, box_facts, row_facts, cellFacts, Nat.zero_add, Nat.reduceAdd, true_and, and_true] at hk
  have hstep := rstep_any w m ⟨S, L, steps, fuse, down⟩ ⟨o1, o2, o3, o4, o5⟩
  have HT := Lib.hid hstep
  have H0 := Lib.hid h0
  clear h0 hstep h
  cases down with
  | true =>
    go_enter Try.func55, Try.ntmps55
    go_wp2
    go_ret
    exact ⟨rfl, (refA_shut (l := [_]) hS).toMoves⟩
  | false =>
    have e1 : syE ⟨S, L, steps, fuse, false⟩ = stE fuse := rfl
    have e2 : erS ⟨S, L, steps, fuse, false⟩ = ⟨if fuse = 0 then S else [], if fuse = 0 then L else [], stS steps fuse, stF fuse, stD fuse false⟩ := rfl
    rw [e1, e2]
    clear e1 e2
    go_enter Try.func55, Try.ntmps55
    go_wp2_with fail
    refine (Sat.call1 (i := 0) H0.out rfl (fun F hF _ => HT.out F hF)).mono ?_
    clear hS hk
    rintro e w2 ⟨rfl, h2⟩
    simp only [List.set_cons_zero, rstp] at h2
    obtain ⟨As, cs, Al, cl, hS⟩ := refA_open h2
    dsimp only [List.cons_append, List.nil_append] at hS
    have hk := hS.all
    simp only [allFacts, box_facts, row_facts, emp_facts, cellFacts, Nat.zero_add, Nat.reduceAdd, true_and, and_true] at hk
    rcases (show fuse = 0 ∨ fuse ≠ 0 by omega) with h0 | h0
    · subst h0
      have e0 : rpow ⟨S, L, steps, 0, false⟩ = false := rfl
      rw [e0]
      clear e0
      go_wp2
      go_ret
      exact ⟨rfl, h2.toMoves⟩
    · have e0 : rpow ⟨S, L, steps, fuse, false⟩ = true := by unfold rpow; simp [h0]
      have e3 : stE fuse = 0 := if_neg h0
      rw [e0]
      have E3 := Lib.hid e3
      clear e0 e3 h2
      go_wp2
      go_ret
      rw [E3.out]
      try simp only [if_neg h0]
      exact ⟨rfl, (refA_shut (l := [_]) (((((hS.set 0 rfl 0 (.slice none 0 0)).set 0 rfl 1 (.slice none 0 0)).nilRow 5 1).nilRow 5 1).pick [0, 1, 4, 5] (by decide))).toMoves⟩
open Go.RowKit

set_option maxRecDepth 100000 in
set_option maxHeartbeats 1000000 in
theorem rread_any (w : World) (m : Nat) (st : St) (ok : st.Ok) (F : Nat → Prop) (h : (refA m st).sat F w) :
    Calls Try.prog 45 #[.pointer (some ⟨m, 0, none⟩)] w fun e w' => ∃ v, e = .returned (.tuple #[v, .int .i64 (upE st.down)]) ∧ w'.ownsRow w.heap.size 5 1 v (rdS st).length (bytesOf (rdS st)) ∧ Below w.heap.size w w' := by
  obtain ⟨S, L, steps, fuse, down⟩ := st
  obtain ⟨o1, o2, o3, o4, o5⟩ := ok
  have h0 := Sat.ofOne h
  obtain ⟨As, cs, Al, cl, hS⟩ := refA_open h0
  dsimp only [List.cons_append, List.nil_append] at *
  have hk := hS.all
  simp only [allFacts, box_facts, row_facts, cellFacts, Nat.zero_add, Nat.reduceAdd, true_and, and_true] at hk
  have hk0 := hS.all
  simp only [allFacts, box_facts] at hk0
  obtain ⟨⟨hcf, hlt⟩, -⟩ := hk0
  have HC := Lib.hid hcf
  have h1 := Sat.pushRest w
  have H1 := Lib.hid h1.drew
  have HS := Lib.hid (src_row (hS.rowOf (i := 2) rfl))
  have HL := Lib.hid (src_row (hS.rowOf (i := 3) rfl))
  have HSn := Lib.hid (row_none (hS.rowOf (i := 2) rfl))
  have HLn := Lib.hid (row_none (hS.rowOf (i := 3) rfl))
  clear h0 h hcf h1 hS
  cases down with
  | true =>
    go_enter Try.func45, Try.ntmps45
    go_wp2
    first | go_ret | go_ret2
    exact ⟨_, rfl, World.ownsRow_nil _ _ _ _, Below.refl _ _⟩
  | false =>
    go_enter Try.func45, Try.ntmps45
    go_wp2_with fail
    refine region_chain (E := [0, 5, 10]) (kn := [false, true, true, true, true, false, true, true, true, true, false, false, false]) (mask := [false, true, true, true, true, false, true, true, true, true, false, false, false]) (vs := [undef, ?vr0_1, ?vr0_2, ?vr0_3, ?vr0_4, undef, ?vr0_6, ?vr0_7, ?vr0_8, ?vr0_9, undef, undef, undef]) (S := fun w' => w' = w.drew) (by kernel_rfl) (by kernel_rfl) (by kernel_rfl) (by kernel_rfl) (by kernel_rfl) ?hSr ?hchr
    case hSr => exact rfl
    case hchr =>
      refine chain_cons _ (by kernel_rfl) rfl rfl ?opsr0 ?wantr0 ?effr0
      case opsr0 =>
        simp only [OpsAt, fillT, List.setIfInBounds_toArray, List.set_cons_zero, List.set_cons_succ]
        refine ⟨.inl ⟨by rfl, opOk_pure fun wS hS => ?_⟩, ?_⟩
        · ((subst hS; go_simp; try simp (disch := omega) only [wrap64_id])); try (with_reducible rfl)
        refine ⟨.inl ⟨by rfl, opOk_pure fun wS hS => ?_⟩, ?_⟩
        · ((subst hS; go_simp; try simp (disch := omega) only [wrap64_id])); try (with_reducible rfl)
        refine ⟨.inl ⟨by rfl, opOk_pure fun wS hS => ?_⟩, ?_⟩
        · ((subst hS; go_simp; try simp (disch := omega) only [wrap64_id])); try (with_reducible rfl)
        refine ⟨.inl ⟨by rfl, opOk_pure fun wS hS => ?_⟩, ?_⟩
        · ((subst hS; go_simp; try simp (disch := omega) only [wrap64_id])); try (with_reducible rfl)
        refine ⟨.inl ⟨by rfl, opOk_pure fun wS hS => ?_⟩, ?_⟩
        · ((subst hS; go_simp; try simp (disch := omega) only [wrap64_id])); try (with_reducible rfl)
        refine ⟨.inl ⟨by rfl, opOk_pure fun wS hS => ?_⟩, ?_⟩
        · ((subst hS; go_simp; try simp (disch := omega) only [wrap64_id])); try (with_reducible rfl)
        refine ⟨.inl ⟨by rfl, opOk_pure fun wS hS => ?_⟩, ?_⟩
        · ((subst hS; go_simp; try simp (disch := omega) only [wrap64_id])); try (with_reducible rfl)
        refine ⟨.inl ⟨by rfl, opOk_pure fun wS hS => ?_⟩, ?_⟩
        · ((subst hS; go_simp; try simp (disch := omega) only [wrap64_id])); try (with_reducible rfl)
        try trivial
      case wantr0 => rfl
      case effr0 =>
        intro wS hS
        simp only [fillT, List.setIfInBounds_toArray, List.set_cons_zero, List.set_cons_succ]
        rw [hS]
        refine eff_run (w' := w.drew.alloc (.cells #[] 5)) (by go_simp; try rfl) ?_
        have hm := H1.out.made #[] 5 1 0 0 rfl (Nat.le_refl _) (Nat.zero_le _)
        simp only [List.cons_append, List.nil_append] at hm
        have q1 := oldCells hm (i := 0) rfl hlt HC.out
        simp only [allFacts, box_facts, row_facts, emp_facts, cellFacts, Nat.zero_add, Nat.reduceAdd, true_and, and_true] at q1
        have HM := Lib.hid hm
        clear hm
        refine ⟨_, [true, true, true, true, true, false, true, true, true, true, false, false, false], [false, true, true, true, true, false, true, true, true, true, false, false, false], [], [(.slice (some ⟨w.drew.heap.size, 0, none⟩) 0 0), ?vr1_1, ?vr1_2, ?vr1_3, ?vr1_4, undef, ?vr1_6, ?vr1_7, ?vr1_8, ?vr1_9, undef, undef, undef], fun w' => w' = w.drew.alloc (.cells #[] 5), rfl, rfl, ?samer0, by kernel_rfl, ?hSr0, ?nxr0⟩
        case samer0 =>
          refine And.intro ?_ ?_
          · with_reducible rfl
          refine And.intro ?_ ?_
          · with_reducible rfl
          refine And.intro ?_ ?_
          · with_reducible rfl
          refine And.intro ?_ ?_
          · with_reducible rfl
          refine And.intro ?_ ?_
          · with_reducible rfl
          refine And.intro ?_ ?_
          · with_reducible rfl
          refine And.intro ?_ ?_
          · with_reducible rfl
          refine And.intro ?_ ?_
          · with_reducible rfl
          trivial
        case hSr0 => rfl
        case nxr0 =>
          refine chain_cons _ (by kernel_rfl) rfl rfl ?opsr1 ?wantr1 ?effr1
          case opsr1 =>
            simp only [OpsAt, fillT, List.setIfInBounds_toArray, List.set_cons_zero, List.set_cons_succ]
            refine ⟨.inl ⟨by rfl, opOk_pure fun wS hS => ?_⟩, ?_⟩
            · ((subst hS; go_simp; try simp (disch := omega) only [wrap64_id])); try (with_reducible rfl)
            refine ⟨.inl ⟨by rfl, opOk_pure fun wS hS => ?_⟩, ?_⟩
            · ((subst hS; go_simp; try simp (disch := omega) only [wrap64_id])); try (with_reducible rfl)
            refine ⟨.inl ⟨by rfl, opOk_pure fun wS hS => ?_⟩, ?_⟩
            · ((subst hS; go_simp; try simp (disch := omega) only [wrap64_id])); try (with_reducible rfl)
            refine ⟨.inl ⟨by rfl, opOk_pure fun wS hS => ?_⟩, ?_⟩
            · ((subst hS; go_simp; try simp (disch := omega) only [wrap64_id])); try (with_reducible rfl)
            refine ⟨.inl ⟨by rfl, opOk_pure fun wS hS => ?_⟩, ?_⟩
            · ((subst hS; go_simp; try simp (disch := omega) only [wrap64_id])); try (with_reducible rfl)
            refine ⟨.inl ⟨by rfl, opOk_pure fun wS hS => ?_⟩, ?_⟩
            · ((subst hS; go_simp; try simp (disch := omega) only [wrap64_id])); try (with_reducible rfl)
            refine ⟨.inl ⟨by rfl, opOk_pure fun wS hS => ?_⟩, ?_⟩
            · ((subst hS; go_simp; try simp (disch := omega) only [wrap64_id])); try (with_reducible rfl)
            refine ⟨.inl ⟨by rfl, opOk_pure fun wS hS => ?_⟩, ?_⟩
            · ((subst hS; go_simp; try simp (disch := omega) only [wrap64_id])); try (with_reducible rfl)
            try trivial
          case wantr1 => rfl
          case effr1 =>
            intro wS hS
            simp only [fillT, List.setIfInBounds_toArray, List.set_cons_zero, List.set_cons_succ]
            rw [hS]
            refine wp_append_sat _ _ 36 rfl HM.out 1 5 (.int .u8 0) 1 1 Try.underlying36 info_u8 rfl (by decide) (.slice (some ⟨w.drew.heap.size, 0, none⟩) 0 0) 0 [] ?a0 rfl As S.length cs (bytesOf S) ?a1 HSn.out ?a2 (src_rest HM.out (i := 0) rfl HS.out (src_lt HS.out)) ?a3 ?a4 ?a5 ?a6
            try (case a0 => go_simp)
            try (case a1 => go_simp)
            try (case a2 => simp [bytesOf])
            case a3 => intro u hu; simp [bytesOf] at hu; obtain ⟨x, _, rfl⟩ := hu; rfl
            case a4 => unfold maxLen; omega
            case a5 => omega
            case a6 =>
              intro A1 c1 w3 h3 hA1 hg1
              try simp only [List.cons_append, List.nil_append, List.set_cons_succ, List.set_cons_zero, Nat.zero_add] at h3 hA1
              have q2 := oldCells h3 (i := 0) rfl hlt HC.out
              simp only [allFacts, box_facts, row_facts, emp_facts, cellFacts, Nat.zero_add, Nat.reduceAdd, true_and, and_true] at q2
              clear q1 hA1 hg1
              simp only [Nat.zero_add]
              refine ⟨_, [true, true, true, true, true, true, true, true, true, true, false, false, false], [false, false, false, false, false, false, true, true, true, true, false, false, false], [4, 3, 2, 1], [(.slice (some ⟨w.drew.heap.size, 0, none⟩) 0 0), ?vr2_1, ?vr2_2, ?vr2_3, ?vr2_4, (.slice A1 S.length c1), ?vr2_6, ?vr2_7, ?vr2_8, ?vr2_9, undef, undef, undef], fun w' => w' = w3, rfl, rfl, ?samer1, by kernel_rfl, ?hSr1, ?nxr1⟩
              case samer1 =>
                refine And.intro ?_ ?_
                · with_reducible rfl
                refine And.intro ?_ ?_
                · with_reducible rfl
                refine And.intro ?_ ?_
                · with_reducible rfl
                refine And.intro ?_ ?_
                · with_reducible rfl
                refine And.intro ?_ ?_
                · with_reducible rfl
                refine And.intro ?_ ?_
                · with_reducible rfl
                refine And.intro ?_ ?_
                · with_reducible rfl
                refine And.intro ?_ ?_
                · with_reducible rfl
                refine And.intro ?_ ?_
                · with_reducible rfl
                trivial
              case hSr1 => rfl
              case nxr1 =>
                refine chain_cons _ (by kernel_rfl) rfl rfl ?opsr2 ?wantr2 ?effr2
                case opsr2 =>
                  simp only [OpsAt, fillT, List.setIfInBounds_toArray, List.set_cons_zero, List.set_cons_succ]
                  refine ⟨.inl ⟨by rfl, opOk_pure fun wS hS => ?_⟩, ?_⟩
                  · ((subst hS; go_simp; try simp (disch := omega) only [wrap64_id])); try (with_reducible rfl)
                  refine ⟨.inl ⟨by rfl, opOk_pure fun wS hS => ?_⟩, ?_⟩
                  · ((subst hS; go_simp; try simp (disch := omega) only [wrap64_id])); try (with_reducible rfl)
                  refine ⟨.inl ⟨by rfl, opOk_pure fun wS hS => ?_⟩, ?_⟩
                  · ((subst hS; go_simp; try simp (disch := omega) only [wrap64_id])); try (with_reducible rfl)
                  refine ⟨.inl ⟨by rfl, opOk_pure fun wS hS => ?_⟩, ?_⟩
                  · ((subst hS; go_simp; try simp (disch := omega) only [wrap64_id])); try (with_reducible rfl)
                  try trivial
                case wantr2 => rfl
                case effr2 =>
                  intro wS hS
                  simp only [fillT, List.setIfInBounds_toArray, List.set_cons_zero, List.set_cons_succ]
                  rw [hS]
                  refine wp_append_sat _ _ 36 rfl h3 1 5 (.int .u8 0) 1 1 Try.underlying36 info_u8 rfl (by decide) (.slice A1 S.length c1) S.length (bytesOf S) ?b0 rfl Al L.length cl (bytesOf L) ?b1 HLn.out ?b2 (src_rest h3 (i := 0) rfl HL.out (src_lt HL.out)) ?b3 ?b4 ?b5 ?b6
                  try (case b0 => go_simp)
                  try (case b1 => go_simp)
                  try (case b2 => simp [bytesOf])
                  case b3 => intro u hu; simp [bytesOf] at hu; obtain ⟨x, _, rfl⟩ := hu; rfl
                  case b4 => unfold maxLen; omega
                  case b5 => omega
                  case b6 =>
                    intro A2 c2 w4 h4 hA2 hg2
                    try simp only [List.cons_append, List.nil_append, List.set_cons_succ, List.set_cons_zero, Nat.zero_add] at h4 hA2
                    rw [bytes_app] at h4
                    have H4 := Lib.hid h4
                    clear q2 hA2 hg2 h4
                    refine ⟨_, [true, true, true, true, true, true, true, true, true, true, true, true, true], [false, false, false, false, false, false, false, false, false, false, false, true, true], [9, 8, 7, 6], [(.slice (some ⟨w.drew.heap.size, 0, none⟩) 0 0), ?vr3_1, ?vr3_2, ?vr3_3, ?vr3_4, (.slice A1 S.length c1), ?vr3_6, ?vr3_7, ?vr3_8, ?vr3_9, (.slice A2 (S.length + L.length) c2), ?vr3_11, ?vr3_12], fun w' => w' = w4, rfl, rfl, ?samer2, by kernel_rfl, ?hSr2, ?nxr2⟩
                    case samer2 =>
                      refine And.intro ?_ ?_
                      · with_reducible rfl
                      refine And.intro ?_ ?_
                      · with_reducible rfl
                      refine And.intro ?_ ?_
                      · with_reducible rfl
                      refine And.intro ?_ ?_
                      · with_reducible rfl
                      refine And.intro ?_ ?_
                      · with_reducible rfl
                      refine And.intro ?_ ?_
                      · with_reducible rfl
                      refine And.intro ?_ ?_
                      · with_reducible rfl
                      refine And.intro ?_ ?_
                      · with_reducible rfl
                      refine And.intro ?_ ?_
                      · with_reducible rfl
                      refine And.intro ?_ ?_
                      · with_reducible rfl
                      trivial
                    case hSr2 => rfl
                    case nxr2 =>
                      refine chain_nil (by kernel_rfl) rfl ?opsr3 ?endr3
                      case opsr3 =>
                        simp only [OpsAt, fillT, List.setIfInBounds_toArray, List.set_cons_zero, List.set_cons_succ]
                        refine ⟨.inl ⟨by rfl, opOk_pure fun wS hS => ?_⟩, ?_⟩
                        · ((subst hS; go_simp; try simp (disch := omega) only [wrap64_id])); try (with_reducible rfl)
                        refine ⟨.inl ⟨by rfl, opOk_pure fun wS hS => ?_⟩, ?_⟩
                        · ((subst hS; go_simp; try simp (disch := omega) only [wrap64_id])); try (with_reducible rfl)
                        try trivial
                      case endr3 =>
                        intro wE hE
                        simp only [fillT, List.setIfInBounds_toArray, List.set_cons_zero, List.set_cons_succ]
                        rw [hE]
                        go_wp2
                        first | go_ret | go_ret2
                        exact ⟨_, rfl, (by have := rowOwn H4.out (i := 1) rfl (j := 0) rfl (by decide); unfold rdS; simpa using this), H4.out.below (i := 0) rfl⟩
open Go.RowKit

/-- What is kept of the first k bytes that may be lost. -/
def crB (L : List Int) (keep zeros : Int) : Nat → List Int
  | 0 => []
  | k + 1 => if (k : Int) < keep then crB L keep zeros k ++ [L.getD k 0] else if (keep < 0 ∧ (k : Int) < zeros) ∨ (0 ≤ keep ∧ (k : Int) - keep < zeros) then crB L keep zeros k ++ [0] else crB L keep zeros k
theorem crB_len (L : List Int) (keep zeros : Int) : ∀ k, (crB L keep zeros k).length ≤ k
  | 0 => by simp [crB]
  | k + 1 => by
    have := crB_len L keep zeros k
    unfold crB
    split
    · simp; omega
    · split
      · simp; omega
      · omega
theorem crB_eq (L : List Int) (keep zeros : Int) : ∀ k, k ≤ L.length → crB L keep zeros k = L.take (min k (max 0 keep).toNat) ++ List.replicate (min (k - (max 0 keep).toNat) (max 0 zeros).toNat) 0
  | 0, _ => by simp [crB]
  | k + 1, hk => by
    have ih := crB_eq L keep zeros k (by omega)
    unfold crB
    by_cases h1 : (k : Int) < keep
    · rw [if_pos h1, ih]
      have e1 : min k (max 0 keep).toNat = k := by omega
      have e2 : k - (max 0 keep).toNat = 0 := by omega
      have e3 : min (k + 1) (max 0 keep).toNat = k + 1 := by omega
      have e4 : k + 1 - (max 0 keep).toNat = 0 := by omega
      rw [e1, e2, e3, e4, List.take_add_one, List.getElem?_eq_getElem (by omega : k < L.length)]
      simp [List.getD, (by omega : k < L.length)]
    · have e1 : min k (max 0 keep).toNat = (max 0 keep).toNat := by omega
      have e3 : min (k + 1) (max 0 keep).toNat = (max 0 keep).toNat := by omega
      rw [if_neg h1]
      by_cases h2 : (keep < 0 ∧ (k : Int) < zeros) ∨ (0 ≤ keep ∧ (k : Int) - keep < zeros)
      · have e4 : min (k + 1 - (max 0 keep).toNat) (max 0 zeros).toNat = min (k - (max 0 keep).toNat) (max 0 zeros).toNat + 1 := by omega
        rw [if_pos h2, ih, e1, e3, e4, List.replicate_succ', List.append_assoc]
      · have e4 : min (k + 1 - (max 0 keep).toNat) (max 0 zeros).toNat = min (k - (max 0 keep).toNat) (max 0 zeros).toNat := by omega
        rw [if_neg h2, ih, e1, e3, e4]
theorem crB_end (st : St) (keep zeros : Int) : st.S ++ crB st.L keep zeros st.L.length = (crS st keep zeros).S := by
  rw [crB_eq st.L keep zeros _ (Nat.le_refl _)]
  unfold crS kept zeroed kept
  simp only [List.append_assoc]
  congr 3 <;> omega

set_option maxRecDepth 100000 in
set_option maxHeartbeats 2000000 in
theorem rcrash_any (w : World) (m : Nat) (st : St) (ok : st.Ok) (F : Nat → Prop) (h : (refA m st).sat F w) (keep zeros : Int) (k0 : -9223372036854775808 ≤ keep) (k1 : keep ≤ 9223372036854775807) :
    Calls Try.prog 56 #[.pointer (some ⟨m, 0, none⟩), .int .i64 keep, .int .i64 zeros] w fun e w' => e = .returned (.tuple #[]) ∧ ∃ F', (refA m (crS st keep zeros)).sat F' w' ∧ Moves F F' w w' := by
  obtain ⟨S, L, steps, fuse, down⟩ := st
  obtain ⟨o1, o2, o3, o4, o5⟩ := ok
  have h0 := Sat.ofOne h
  obtain ⟨As, cs, Al, cl, hS⟩ := refA_open h0
  dsimp only [List.cons_append, List.nil_append] at *
  have hk := hS.all
  simp only [allFacts, box_facts, row_facts, cellFacts, Nat.zero_add, Nat.reduceAdd, true_and, and_true] at hk
  have HS := Lib.hid hS
  have HSn := Lib.hid (row_none (hS.rowOf (i := 2) rfl))
  have hall : ∀ wr v n xs, Sat w wr [box m 88 [.slice As S.length cs, .slice Al L.length cl, .int .i64 fuse, .int .i64 steps, .bool down], rest w (fun k => k < w.heap.size ∧ ¬ F k), row 5 1 (.slice As S.length cs) S.length (bytesOf S), row 5 1 (.slice Al L.length cl) L.length (bytesOf L), row 5 1 v n xs] → ∀ j : Nat, j < L.length → ∃ g, Al = some ⟨g, 0, none⟩ ∧ wr.cell? ⟨g, j, none⟩ = some (.int .u8 (L.getD j 0)) := by
    intro wr v n xs h j hj
    have hr := h.rowOf (i := 3) rfl
    rcases hr.2 with ⟨h1, h2⟩ | ⟨g, cap, cur, h1, _⟩
    · omega
    · injection h1 with h1
      refine ⟨g, h1, ?_⟩
      have := hr.cells (g := g) (by rw [h1]; rfl) j (.int .u8 (L.getD j 0)) (by simp [bytesOf, hj])
      have e : (⟨g, 0, none⟩ : Addr).add j = ⟨g, j, none⟩ := by unfold Addr.add; split <;> simp_all
      rw [← e]
      exact this
  have HALL := Lib.hid hall
  have HEND := Lib.hid (crB_end ⟨S, L, steps, fuse, down⟩ keep zeros)
  have hm0 := hS.made #[] 5 1 0 0 rfl (Nat.le_refl _) (Nat.zero_le _)
  simp only [List.cons_append, List.nil_append] at hm0
  have HM := Lib.hid hm0
  have HM1 := Lib.hid (src_row (hm0.rowOf (i := 2) rfl))
  clear hall hm0 h0 h
  go_enter Try.func56, Try.ntmps56
  go_wp2_with (first
    | (at_builtin; refine wpList_append_sat rfl _ _ 36 rfl HM.out 4 5 (.int .u8 0) 1 1 Try.underlying36 info_u8 rfl (by decide) (.slice (some ⟨w.heap.size, 0, none⟩) 0 0) 0 [] ?a0 rfl As S.length cs (bytesOf S) ?a1 HSn.out ?a2 HM1.out ?a3 ?a4 ?a5 ?a6)
    | fail)
  try (case a0 => go_simp)
  try (case a1 => go_simp)
  try (case a2 => simp [bytesOf])
  case a3 => intro u hu; simp [bytesOf] at hu; obtain ⟨x, _, rfl⟩ := hu; rfl
  case a4 => unfold maxLen; omega
  case a5 => omega
  case a6 =>
    intro A1 c1 w3 h3 hA1 hg1
    try simp only [List.cons_append, List.nil_append, List.set_cons_succ, List.set_cons_zero, Nat.zero_add] at h3 hA1
    have hk2 := h3.all
    simp only [allFacts, box_facts, row_facts, emp_facts, cellFacts, Nat.zero_add, Nat.reduceAdd, true_and, and_true] at hk2
    clear hA1 hg1 hS
    go_wp2
    clear hk
    go_loopw [6, 7] (fun b i wr => ∃ k : Nat, k ≤ L.length ∧ i = .int .i64 k ∧ ∃ A c, b = .slice A (S ++ crB L keep zeros k).length c ∧ Sat w wr [box m 88 [.slice As S.length cs, .slice Al L.length cl, .int .i64 fuse, .int .i64 steps, .bool down], rest w (fun k => k < w.heap.size ∧ ¬ F k), row 5 1 (.slice As S.length cs) S.length (bytesOf S), row 5 1 (.slice Al L.length cl) L.length (bytesOf L), row 5 1 (.slice A (S ++ crB L keep zeros k).length c) (S ++ crB L keep zeros k).length (bytesOf (S ++ crB L keep zeros k))]) (fun _ i _ => L.length - (intOf i).toNat)
    case atStart => exact ⟨0, Nat.zero_le _, rfl, A1, c1, by simp [crB], by simpa [crB] using h3⟩
    case round =>
      obtain ⟨k, hk1, rfl, A, c, rfl, hR⟩ := hrel
      clear hk2 h3
      have hk := hR.all
      simp only [allFacts, box_facts, row_facts, emp_facts, cellFacts, Nat.zero_add, Nat.reduceAdd, true_and, and_true] at hk
      have hl := crB_len L keep zeros k
      have hlB : (S ++ crB L keep zeros k).length ≤ 262144 - L.length + k := by simp; omega
      generalize hB : S ++ crB L keep zeros k = B at *
      by_cases hlt : k < L.length
      · obtain ⟨g, hg, hcell⟩ := HALL.out _ _ _ _ hR k hlt
        subst hg
        rcases (show (k : Int) < keep ∨ keep ≤ (k : Int) by omega) with h1 | h1
        · generalize hx : L.getD k 0 = x at hcell
          have hB1 : S ++ crB L keep zeros (k + 1) = B ++ [x] := by rw [← hB, crB, if_pos h1, hx]; try simp
          have HB1 := Lib.hid hB1
          clear hB1 hB
          clear hx
          go_wp2_with (first
            | (at_builtin; refine wpList_append_sat rfl _ _ 36 rfl (hR.alloc #[.int .u8 x] 5) 4 5 (.int .u8 0) 1 1 Try.underlying36 info_u8 rfl (by decide) (.slice A B.length c) B.length (bytesOf B) ?xa0 rfl (some ⟨wr.heap.size, 0, none⟩) 1 1 [.int .u8 x] ?xa1 (fun h => by cases h) ?xa2 (box_src (hR.alloc #[.int .u8 x] 5) (i := 5) rfl) ?xa3 ?xa4 ?xa5 ?xa6)
            | fail)
          try (case xa0 => go_simp)
          try (case xa1 => go_simp)
          try (case xa2 => simp)
          case xa3 => first | rfl | (intro u hu; simp at hu; subst hu; rfl)
          case xa4 => unfold maxLen; omega
          case xa5 => omega
          case xa6 =>
            intro A2 c2 w4 h4 hA2 hg2
            try simp only [List.cons_append, List.nil_append, List.set_cons_succ, List.set_cons_zero, Nat.zero_add] at h4 hA2
            rw [bytes_one, bytes_app] at h4
            have H4 := Lib.hid h4
            clear h4 hA2 hg2
            go_wp2
            go_roundw
            case rel => exact ⟨k + 1, by omega, by go_num, A2, c2, by rw [HB1.out]; simp, by rw [HB1.out]; simpa using H4.out.pick [0, 1, 2, 3, 4] (by decide)⟩
            case measure => simp [intOf]; omega
        · rcases (show keep < 0 ∨ 0 ≤ keep by omega) with h2 | h2
          · rcases (show (k : Int) < zeros ∨ zeros ≤ (k : Int) by omega) with h3 | h3
            · skip
              have hB1 : S ++ crB L keep zeros (k + 1) = B ++ [0] := by rw [← hB, crB, if_neg (by omega), if_pos (by omega)]; try simp
              have HB1 := Lib.hid hB1
              clear hB1 hB
              go_wp2_with (first
                | (at_builtin; refine wpList_append_sat rfl _ _ 36 rfl (hR.alloc #[.int .u8 0] 5) 4 5 (.int .u8 0) 1 1 Try.underlying36 info_u8 rfl (by decide) (.slice A B.length c) B.length (bytesOf B) ?xb0 rfl (some ⟨wr.heap.size, 0, none⟩) 1 1 [.int .u8 0] ?xb1 (fun h => by cases h) ?xb2 (box_src (hR.alloc #[.int .u8 0] 5) (i := 5) rfl) ?xb3 ?xb4 ?xb5 ?xb6)
                | fail)
              try (case xb0 => go_simp)
              try (case xb1 => go_simp)
              try (case xb2 => simp)
              case xb3 => first | rfl | (intro u hu; simp at hu; subst hu; rfl)
              case xb4 => unfold maxLen; omega
              case xb5 => omega
              case xb6 =>
                intro A2 c2 w4 h4 hA2 hg2
                try simp only [List.cons_append, List.nil_append, List.set_cons_succ, List.set_cons_zero, Nat.zero_add] at h4 hA2
                rw [bytes_one, bytes_app] at h4
                have H4 := Lib.hid h4
                clear h4 hA2 hg2
                go_wp2
                go_roundw
                case rel => exact ⟨k + 1, by omega, by go_num, A2, c2, by rw [HB1.out]; simp, by rw [HB1.out]; simpa using H4.out.pick [0, 1, 2, 3, 4] (by decide)⟩
                case measure => simp [intOf]; omega
            · skip
              have hB1 : S ++ crB L keep zeros (k + 1) = B := by rw [← hB, crB, if_neg (by omega), if_neg (by omega)]; try simp
              have HB1 := Lib.hid hB1
              clear hB1 hB
              go_wp2
              go_roundw
              case rel => exact ⟨k + 1, by omega, by go_num, A, c, by rw [HB1.out], by rw [HB1.out]; exact hR⟩
              case measure => simp [intOf]; omega
          · rcases (show (k : Int) - keep < zeros ∨ zeros ≤ (k : Int) - keep by omega) with h3 | h3
            · skip
              have hB1 : S ++ crB L keep zeros (k + 1) = B ++ [0] := by rw [← hB, crB, if_neg (by omega), if_pos (by omega)]; try simp
              have HB1 := Lib.hid hB1
              clear hB1 hB
              go_wp2_with (first
                | (at_builtin; refine wpList_append_sat rfl _ _ 36 rfl (hR.alloc #[.int .u8 0] 5) 4 5 (.int .u8 0) 1 1 Try.underlying36 info_u8 rfl (by decide) (.slice A B.length c) B.length (bytesOf B) ?xc0 rfl (some ⟨wr.heap.size, 0, none⟩) 1 1 [.int .u8 0] ?xc1 (fun h => by cases h) ?xc2 (box_src (hR.alloc #[.int .u8 0] 5) (i := 5) rfl) ?xc3 ?xc4 ?xc5 ?xc6)
                | fail)
              try (case xc0 => go_simp)
              try (case xc1 => go_simp)
              try (case xc2 => simp)
              case xc3 => first | rfl | (intro u hu; simp at hu; subst hu; rfl)
              case xc4 => unfold maxLen; omega
              case xc5 => omega
              case xc6 =>
                intro A2 c2 w4 h4 hA2 hg2
                try simp only [List.cons_append, List.nil_append, List.set_cons_succ, List.set_cons_zero, Nat.zero_add] at h4 hA2
                rw [bytes_one, bytes_app] at h4
                have H4 := Lib.hid h4
                clear h4 hA2 hg2
                go_wp2
                go_roundw
                case rel => exact ⟨k + 1, by omega, by go_num, A2, c2, by rw [HB1.out]; simp, by rw [HB1.out]; simpa using H4.out.pick [0, 1, 2, 3, 4] (by decide)⟩
                case measure => simp [intOf]; omega
            · skip
              have hB1 : S ++ crB L keep zeros (k + 1) = B := by rw [← hB, crB, if_neg (by omega), if_neg (by omega)]; try simp
              have HB1 := Lib.hid hB1
              clear hB1 hB
              go_wp2
              go_roundw
              case rel => exact ⟨k + 1, by omega, by go_num, A, c, by rw [HB1.out], by rw [HB1.out]; exact hR⟩
              case measure => simp [intOf]; omega
      · obtain rfl : k = L.length := by omega
        have hE := HEND.out
        rw [← hB] at hR
        rw [hE] at hR
        have HR := Lib.hid hR
        rw [hE] at hB
        subst hB
        clear hE hR HALL HM HM1
        go_wp2
        go_end0
        exact ⟨rfl, (refA_shut (l := [_]) (((((HR.out.set 0 rfl 0 _).set 0 rfl 1 (.slice none 0 0)).set 0 rfl 2 (.int .i64 (-1))).set 0 rfl 4 (.bool false)).nilRow 5 1 |>.pick [0, 1, 4, 5] (by decide))).toMoves⟩
open Go.RowKit

/-- A slab at g. -/
def slabA (g : Nat) (st : St) : Asn where
  sat F w := SlabF w 0 g F st
  facts _ := True
  stay := by
    rintro F w w' ⟨vs, vl, rfl, h⟩ hk
    exact ⟨vs, vl, rfl, h.of_block fun k hk' => hk k hk'⟩
  lt := by
    rintro F w k ⟨vs, vl, rfl, h⟩ hk
    exact (h.lt hk).1
  out := fun _ _ _ => trivial
theorem slabA_facts {w : World} {g : Nat} {st : St} : (slabA g st).facts w = True := rfl
theorem slabA_has {w : World} {g : Nat} {st : St} {F : Nat → Prop} (h : (slabA g st).sat F w) : F g := by
  obtain ⟨vs, vl, rfl, _⟩ := h
  exact .inl rfl
def st0 : St := ⟨[], [], 0, -1, false⟩

/-- A state behind at most n steps. -/
structure St.In (st : St) (n : Int) : Prop where
  s0 : 0 ≤ st.steps
  s1 : st.steps ≤ n
  f0 : -9223372036854775808 ≤ st.fuse
  f1 : st.fuse ≤ 9223372036854775807
  sz : st.S.length + st.L.length ≤ 262144
theorem St.In.ok {st : St} {n : Int} (h : st.In n) (hn : n ≤ 4611686018427387904) : st.Ok := ⟨h.s0, by have := h.s1; omega, h.f0, h.f1, h.sz⟩
theorem st0_in : st0.In 0 := ⟨by decide, by decide, by decide, by decide, by decide⟩
theorem St.In.mono {st : St} {n m : Int} (h : st.In n) (hn : n ≤ m) : st.In m := ⟨h.s0, by have := h.s1; omega, h.f0, h.f1, h.sz⟩
theorem in_stp {steps fuse : Int} {n : Int} (h0 : 0 ≤ steps) (h1 : steps ≤ n) (f0 : -9223372036854775808 ≤ fuse) (f1 : fuse ≤ 9223372036854775807) :
    0 ≤ stS steps fuse ∧ stS steps fuse ≤ n + 1 ∧ -9223372036854775808 ≤ stF fuse ∧ stF fuse ≤ 9223372036854775807 := by
  unfold stS stF
  refine ⟨?_, ?_, ?_, ?_⟩ <;> split <;> omega
theorem St.In.app {st : St} {n : Int} (h : st.In n) (P : List Int) : (appS st P).In (n + 1) := by
  obtain ⟨a, b, c, d, e⟩ := h
  have := in_stp a b c d
  unfold appS
  split
  · exact ⟨a, by omega, c, d, e⟩
  · split
    · exact ⟨a, by omega, c, d, e⟩
    · refine ⟨this.1, this.2.1, this.2.2.1, this.2.2.2, ?_⟩
      dsimp only
      split
      · exact e
      · simp; omega
theorem St.In.syn {st : St} {n : Int} (h : st.In n) : (syS st).In (n + 1) := by
  obtain ⟨a, b, c, d, e⟩ := h
  have := in_stp a b c d
  unfold syS
  split
  · exact ⟨a, by omega, c, d, e⟩
  · refine ⟨this.1, this.2.1, this.2.2.1, this.2.2.2, ?_⟩
    dsimp only
    split
    · exact e
    · simp; omega
theorem St.In.ers {st : St} {n : Int} (h : st.In n) : (erS st).In (n + 1) := by
  obtain ⟨a, b, c, d, e⟩ := h
  have := in_stp a b c d
  unfold erS
  split
  · exact ⟨a, by omega, c, d, e⟩
  · refine ⟨this.1, this.2.1, this.2.2.1, this.2.2.2, ?_⟩
    dsimp only
    split
    · exact e
    · simp
theorem St.In.crs {st : St} {n : Int} (h : st.In n) (k z : Int) : (crS st k z).In n := by
  obtain ⟨a, b, c, d, e⟩ := h
  refine ⟨a, b, by show (-9223372036854775808 : Int) ≤ -1; omega, by show (-1 : Int) ≤ 9223372036854775807; omega, ?_⟩
  unfold crS zeroed kept
  simp
  omega
def fuS (st : St) (n : Int) : St := { st with fuse := fuF st.down st.fuse n }
theorem St.In.fus {st : St} {m : Int} (h : st.In m) {n : Int} (h1 : n ≤ 9223372036854775807) : (fuS st n).In m := by
  obtain ⟨a, b, c, d, e⟩ := h
  refine ⟨a, b, ?_, ?_, e⟩ <;> unfold fuS fuF <;> dsimp only <;> split <;> omega

section
variable {w0 w : World} {l : List Asn} {i g : Nat} {st : St} {n : Int}
theorem new_sat (h : Sat w0 w l) : Calls Try.prog 7 #[] w fun e w' => e = .returned (.pointer (some ⟨w.heap.size, 0, none⟩)) ∧ Sat w0 w' (l ++ [slabA w.heap.size st0]) := by
  refine (new_any w).mono ?_
  rintro e w' ⟨rfl, hs, hc⟩
  refine ⟨rfl, h.push (A := slabA w.heap.size st0) (F := Foot w.heap.size (.slice none 0 0) (.slice none 0 0)) ⟨_, _, rfl, ?_⟩ (fun k hk => ?_) ?_⟩
  · exact ⟨hs.blk, World.ownsRow_nil _ _ _ _, World.ownsRow_nil _ _ _ _, hs.apart, Nat.zero_le _⟩
  · rcases hk with rfl | hk | hk
    · exact Nat.le_refl _
    · cases hk
    · cases hk
  · exact ⟨hc.os, hc.tape, hc.output, hc.size, fun k hk => hc.block k hk fun h => h⟩
theorem rnew_sat (h : Sat w0 w l) : Calls Try.prog 22 #[] w fun e w' => e = .returned (.pointer (some ⟨w.heap.size, 0, none⟩)) ∧ Sat w0 w' (l ++ [refA w.heap.size st0]) := by
  go_enter Try.func22, Try.ntmps22
  go_wp2
  go_ret
  refine ⟨rfl, ?_⟩
  have h1 := ((h.alloc #[.slice none 0 0, .slice none 0 0, .int .i64 (-1), .int .i64 0, .bool false] 88).nilRow 5 1).nilRow 5 1
  have h2 := Sat.shut2 (l := l ++ [box w.heap.size 88 [.slice none 0 0, .slice none 0 0, .int .i64 (-1), .int .i64 0, .bool false]] ++ [row 5 1 (.slice none 0 0) 0 []]) (A := (box w.heap.size 88 [.slice none 0 0, .slice none 0 0, .int .i64 (-1), .int .i64 0, .bool false])) h1 (i := l.length) (by simp)
  rw [List.append_assoc, List.set_append_right _ _ (Nat.le_refl _), Nat.sub_self] at h2
  have h3 := Sat.shut2 (l := l ++ [star2 (box w.heap.size 88 [.slice none 0 0, .slice none 0 0, .int .i64 (-1), .int .i64 0, .bool false]) (row 5 1 (.slice none 0 0) 0 [])]) (B := row 5 1 (.slice none 0 0) 0 []) (A := star2 (box w.heap.size 88 [.slice none 0 0, .slice none 0 0, .int .i64 (-1), .int .i64 0, .bool false]) (row 5 1 (.slice none 0 0) 0 [])) (by simpa using h2) (i := l.length) (by simp)
  rw [List.set_append_right _ _ (Nat.le_refl _), Nat.sub_self] at h3
  have h4 := Sat.shut_some (f := fun p : (Option Addr × Nat) × (Option Addr × Nat) =>
    star2 (star2 (box w.heap.size 88 [.slice p.1.1 st0.S.length p.1.2, .slice p.2.1 st0.L.length p.2.2, .int .i64 st0.fuse, .int .i64 st0.steps, .bool st0.down])
      (row 5 1 (.slice p.2.1 st0.L.length p.2.2) st0.L.length (bytesOf st0.L))) (row 5 1 (.slice p.1.1 st0.S.length p.1.2) st0.S.length (bytesOf st0.S))) h3 (i := l.length) ((none, 0), (none, 0)) (by simp; rfl)
  rw [List.set_append_right _ _ (Nat.le_refl _), Nat.sub_self] at h4
  exact h4
/-- The source of an append lies apart. -/
def Away (w : World) (l : List Asn) (i : Nat) (A : Option Addr) (P : List Int) : Prop := ∀ ad, A = some ad → P ≠ [] → ∃ (j : Nat) (B : Asn), j ≠ i ∧ l[j]? = some B ∧ ∀ G, B.sat G w → G ad.block
theorem append_sat (h : Sat w0 w l) (hi : l[i]? = some (slabA g st)) (ok : st.In n) (hn : n ≤ 4611686018427387904) (P : List Int) (A : Option Addr) (c : Nat) (hA : A = none → P.length = 0 ∧ c = 0)
    (hsrc : SrcOf w A (bytesOf P)) (haw : Away w l i A P) (hP : P.length ≤ 140737488355328) :
    Calls Try.prog 43 #[.pointer (some ⟨g, 0, none⟩), .slice A P.length c] w fun e w' => e = .returned (.int .i64 (appE st P.length)) ∧ Sat w0 w' (l.set i (slabA g (appS st P))) :=
  h.call1 (Q := fun e => e = .returned (.int .i64 (appE st P.length))) hi fun F hF ha => append_any w 0 g F st hF (ok.ok hn) P A c hA hsrc (fun ad had hne e => by
    obtain ⟨j, B, hj, hB, hG⟩ := haw ad had hne
    exact ha j B ad.block hj hB hG (e ▸ slabA_has hF)) hP (Nat.zero_le _)
theorem sync_sat (h : Sat w0 w l) (hi : l[i]? = some (slabA g st)) (ok : st.In n) (hn : n ≤ 4611686018427387904) :
    Calls Try.prog 37 #[.pointer (some ⟨g, 0, none⟩)] w fun e w' => e = .returned (.int .i64 (syE st)) ∧ Sat w0 w' (l.set i (slabA g (syS st))) :=
  h.call1 (Q := fun e => e = .returned (.int .i64 (syE st))) hi fun F hF _ => sync_any w 0 g F st hF (ok.ok hn) (Nat.zero_le _)
theorem erase_sat (h : Sat w0 w l) (hi : l[i]? = some (slabA g st)) (ok : st.In n) (hn : n ≤ 4611686018427387904) :
    Calls Try.prog 41 #[.pointer (some ⟨g, 0, none⟩)] w fun e w' => e = .returned (.int .i64 (syE st)) ∧ Sat w0 w' (l.set i (slabA g (erS st))) :=
  h.call1 (Q := fun e => e = .returned (.int .i64 (syE st))) hi fun F hF _ => erase_any w 0 g F st hF (ok.ok hn)
theorem crash_sat (h : Sat w0 w l) (hi : l[i]? = some (slabA g st)) (ok : st.In n) (hn : n ≤ 4611686018427387904) (keep zeros : Int) :
    Calls Try.prog 21 #[.pointer (some ⟨g, 0, none⟩), .int .i64 keep, .int .i64 zeros] w fun e w' => e = .returned (.int .i64 0) ∧ Sat w0 w' (l.set i (slabA g (crS st keep zeros))) :=
  h.call1 (Q := fun e => e = .returned (.int .i64 0)) hi fun F hF _ => crash_any w 0 g F st hF (ok.ok hn) (Nat.zero_le _) keep zeros
theorem fuse_sat (h : Sat w0 w l) (hi : l[i]? = some (slabA g st)) (x : Int) :
    Calls Try.prog 20 #[.pointer (some ⟨g, 0, none⟩), .int .i64 x] w fun e w' => e = .returned (.int .i64 (upE st.down)) ∧ Sat w0 w' (l.set i (slabA g (fuS st x))) := by
  refine h.call1 (Q := fun e => e = .returned (.int .i64 (upE st.down))) hi fun F hF _ => ?_
  obtain ⟨vs, vl, rfl, hs⟩ := hF
  refine (fuse_any w 0 g vs vl st.S st.L st.steps st.fuse st.down hs x).mono ?_
  rintro e w' ⟨rfl, h1, h2⟩
  exact ⟨rfl, _, ⟨vs, vl, rfl, h1⟩, h2.mono fun k _ hk => .inl hk, fun k hk => .inl hk⟩
theorem read_sat (h : Sat w0 w l) (hi : l[i]? = some (slabA g st)) (ok : st.In n) (hn : n ≤ 4611686018427387904) :
    Calls Try.prog 57 #[.pointer (some ⟨g, 0, none⟩)] w fun e w' => ∃ A c, e = .returned (.tuple #[.slice A (rdS st).length c, .int .i64 (upE st.down)]) ∧ Sat w0 w' (l ++ [row 5 1 (.slice A (rdS st).length c) (rdS st).length (bytesOf (rdS st))]) := by
  obtain ⟨F, hF⟩ := h.get hi
  refine (read_any w 0 g F st hF (ok.ok hn) (Nat.zero_le _)).mono ?_
  rintro e w' ⟨v, rfl, h1, h2, h3⟩
  obtain ⟨A, c, rfl, -⟩ := row_slice h1
  refine ⟨A, c, rfl, h.push (F := fun b => (Value.slice A (rdS st).length c).ownBlock = some b) ⟨rfl, h1⟩ (fun k hk => h3 k hk) ⟨h2.os, h2.tape, h2.output, h2.size, fun k hk => h2.block k hk fun h => h⟩⟩
theorem loose_sat (h : Sat w0 w l) (hi : l[i]? = some (slabA g st)) :
    Calls Try.prog 58 #[.pointer (some ⟨g, 0, none⟩)] w fun e w' => e = .returned (.int .i64 st.L.length) ∧ w' = w := by
  obtain ⟨F, vs, vl, rfl, hs⟩ := h.get hi
  obtain ⟨A, c, rfl, -⟩ := row_slice hs.loose
  exact loose_any w g (.slice A st.L.length c) _ c A hs.cells.2.1
theorem steps_sat (h : Sat w0 w l) (hi : l[i]? = some (slabA g st)) :
    Calls Try.prog 59 #[.pointer (some ⟨g, 0, none⟩)] w fun e w' => e = .returned (.int .i64 st.steps) ∧ w' = w := by
  obtain ⟨F, vs, vl, rfl, hs⟩ := h.get hi
  exact steps_any w g _ hs.cells.2.2.1
theorem down_sat (h : Sat w0 w l) (hi : l[i]? = some (slabA g st)) :
    Calls Try.prog 60 #[.pointer (some ⟨g, 0, none⟩)] w fun e w' => e = .returned (.bool st.down) ∧ w' = w := by
  obtain ⟨F, vs, vl, rfl, hs⟩ := h.get hi
  exact down_any w g _ hs.cells.2.2.2.2.1
end
open Go.RowKit

/-- A step's end. -/
def opS (st : St) (kind a b : Int) (P : List Int) : St :=
  if kind = 0 then appS st P else if kind = 1 then syS st else if kind = 2 then erS st else if kind = 3 then fuS st a else if kind = 4 then crS st a b else st
theorem St.In.ops {st : St} {n : Int} (h : st.In n) (kind a b : Int) (P : List Int) (ha : a ≤ 9223372036854775807) : (opS st kind a b P).In (n + 1) := by
  unfold opS
  split
  · exact h.app P
  · split
    · exact h.syn
    · split
      · exact h.ers
      · split
        · exact (h.fus ha).mono (by omega)
        · split
          · exact (h.crs a b).mono (by omega)
          · exact h.mono (by omega)

set_option maxRecDepth 100000 in
set_option maxHeartbeats 2000000 in
theorem does_at (w : World) (g m : Nat) (st : St) (n : Int) (ok : st.In n) (hn : n ≤ 4611686018427387904) (kind a b : Int) (a0 : -9223372036854775808 ≤ a) (a1 : a ≤ 9223372036854775807) (P : List Int) (A : Option Addr) (c : Nat)
    (hA : A = none → P.length = 0 ∧ c = 0) (hsrc : SrcOf w A (bytesOf P)) (hP : P.length ≤ 140737488355328) (F : Nat → Prop) (h : (star2 (slabA g st) (refA m st)).sat F w) (hAF : ∀ ad, A = some ad → P ≠ [] → ¬ F ad.block) :
    Calls Try.prog 28 #[.pointer (some ⟨g, 0, none⟩), .pointer (some ⟨m, 0, none⟩), .agg #[.int .i64 kind, .int .i64 a, .int .i64 b, .slice A P.length c]] w fun e w' => e = .returned (.bool true) ∧ ∃ F', (star2 (slabA g (opS st kind a b P)) (refA m (opS st kind a b P))).sat F' w' ∧ Moves F F' w w' := by
  have h1 := ((Sat.ofOne h).open2 (i := 0) rfl).alloc #[.int .i64 kind, .int .i64 a, .int .i64 b, .slice A P.length c] 63
  simp only [List.cons_append, List.nil_append, List.set_cons_succ, List.set_cons_zero] at h1
  have hfin : ∀ (w' : World) (st' : St) (X : Asn), Sat w w' [slabA g st', rest w (fun k => k < w.heap.size ∧ ¬ F k), refA m st', X] → ∃ F', (star2 (slabA g st') (refA m st')).sat F' w' ∧ Moves F F' w w' := by
    intro w' st' X h
    exact (Sat.shut2 (l := [slabA g st', rest w (fun k => k < w.heap.size ∧ ¬ F k)]) (Sat.left (l := [slabA g st', rest w (fun k => k < w.heap.size ∧ ¬ F k), refA m st']) (l' := [X]) h) (i := 0) rfl).toMoves
  have HF := Lib.hid hfin
  have hs0 : ∀ ad, A = some ad → P ≠ [] → ad.block < w.heap.size ∧ ¬ F ad.block := fun ad had hne => ⟨src_lt hsrc ad had (by simpa [bytesOf] using hne), hAF ad had hne⟩
  have HS0 := Lib.hid hs0
  have HR := Lib.hid hsrc
  have HA := Lib.hid hA
  have haw : ∀ (w' : World) (l : List Asn) (i : Nat), l[1]? = some (rest w (fun k => k < w.heap.size ∧ ¬ F k)) → i ≠ 1 → Away w' l i A P := by
    intro w' l i h1 hi ad had hne
    exact ⟨1, _, fun e => hi e.symm, h1, fun G hG => (hG.2 ad.block (hs0 ad had hne)).2.1⟩
  have HW := Lib.hid haw
  have H1 := Lib.hid h1.drew
  have H1' := Lib.hid h1
  clear hfin hs0 haw hA hsrc hAF h
  have hk := h1.all
  simp only [allFacts, box_facts, row_facts, slabA_facts, emp_facts, cellFacts, Nat.zero_add, Nat.reduceAdd, true_and, and_true] at hk
  clear h1
  unfold opS
  rcases (show kind = 0 ∨ kind ≠ 0 by omega) with h0 | h0
  · subst h0
    rw [if_pos rfl]
    go_enter Try.func28, Try.ntmps28
    go_wp2_with fail
    refine region_chain (E := [3, 7]) (kn := [true, true, true, false, true, true, true, false, false, false]) (mask := [true, true, true, false, true, true, true, false, false, false]) (vs := [?vr0_0, ?vr0_1, ?vr0_2, undef, ?vr0_4, ?vr0_5, ?vr0_6, undef, undef, undef]) (S := fun w' => w' = (w.alloc (.cells #[.int .i64 0, .int .i64 a, .int .i64 b, .slice A P.length c] 63)).drew) (by kernel_rfl) (by kernel_rfl) (by kernel_rfl) (by kernel_rfl) (by kernel_rfl) ?hSr ?hchr
    case hSr => exact rfl
    case hchr =>
      refine chain_cons _ (by kernel_rfl) rfl rfl ?opsr0 ?wantr0 ?effr0
      case opsr0 =>
        simp only [OpsAt, fillT, List.setIfInBounds_toArray, List.set_cons_zero, List.set_cons_succ]
        refine ⟨.inl ⟨by rfl, opOk_pure fun wS hS => ?_⟩, ?_⟩
        · ((subst hS; go_simp; try simp (disch := omega) only [wrap64_id])); try (with_reducible rfl)
        refine ⟨.inl ⟨by rfl, opOk_pure fun wS hS => ?_⟩, ?_⟩
        · ((subst hS; go_simp; try simp (disch := omega) only [wrap64_id])); try (with_reducible rfl)
        refine ⟨.inl ⟨by rfl, opOk_pure fun wS hS => ?_⟩, ?_⟩
        · ((subst hS; go_simp; try simp (disch := omega) only [wrap64_id])); try (with_reducible rfl)
        refine ⟨.inl ⟨by rfl, opOk_pure fun wS hS => ?_⟩, ?_⟩
        · ((subst hS; go_simp; try simp (disch := omega) only [wrap64_id])); try (with_reducible rfl)
        refine ⟨.inl ⟨by rfl, opOk_pure fun wS hS => ?_⟩, ?_⟩
        · ((subst hS; go_simp; try simp (disch := omega) only [wrap64_id])); try (with_reducible rfl)
        refine ⟨.inl ⟨by rfl, opOk_pure fun wS hS => ?_⟩, ?_⟩
        · ((subst hS; go_simp; try simp (disch := omega) only [wrap64_id])); try (with_reducible rfl)
        try trivial
      case wantr0 => rfl
      case effr0 =>
        intro wS hS
        simp only [fillT, List.setIfInBounds_toArray, List.set_cons_zero, List.set_cons_succ]
        rw [hS]
        refine eff_call (f := 43) (args := #[.pointer (some ⟨g, 0, none⟩), .slice A P.length c]) (by go_simp) ?_
        refine (append_sat H1.out (i := 0) rfl ok hn P A c HA.out (src_rest H1.out (i := 1) rfl HR.out (fun ad had hne => HS0.out ad had (by simpa [bytesOf] using hne))) (HW.out _ _ 0 rfl (by decide)) hP).mono ?_
        rintro e w2 ⟨rfl, h2⟩
        simp only [List.cons_append, List.nil_append, List.set_cons_succ, List.set_cons_zero] at h2
        have hk2 := h2.all
        simp only [allFacts, box_facts, row_facts, slabA_facts, emp_facts, cellFacts, Nat.zero_add, Nat.reduceAdd, true_and, and_true] at hk2
        refine ⟨_, rfl, ?_⟩
        refine ⟨_, [true, true, true, true, true, true, true, false, false, false], [false, false, false, false, true, true, true, false, false, false], [0, 2, 1], [?vr1_0, ?vr1_1, ?vr1_2, (.int .i64 (appE st P.length)), ?vr1_4, ?vr1_5, ?vr1_6, undef, undef, undef], fun w' => w' = w2, rfl, rfl, ?samer0, by kernel_rfl, ?hSr0, ?nxr0⟩
        case samer0 =>
          refine And.intro ?_ ?_
          · with_reducible rfl
          refine And.intro ?_ ?_
          · with_reducible rfl
          refine And.intro ?_ ?_
          · with_reducible rfl
          refine And.intro ?_ ?_
          · with_reducible rfl
          refine And.intro ?_ ?_
          · with_reducible rfl
          refine And.intro ?_ ?_
          · with_reducible rfl
          trivial
        case hSr0 => rfl
        case nxr0 =>
          refine chain_cons _ (by kernel_rfl) rfl rfl ?opsr1 ?wantr1 ?effr1
          case opsr1 =>
            simp only [OpsAt, fillT, List.setIfInBounds_toArray, List.set_cons_zero, List.set_cons_succ]
            refine ⟨.inl ⟨by rfl, opOk_pure fun wS hS => ?_⟩, ?_⟩
            · ((subst hS; go_simp; try simp (disch := omega) only [wrap64_id])); try (with_reducible rfl)
            refine ⟨.inl ⟨by rfl, opOk_pure fun wS hS => ?_⟩, ?_⟩
            · ((subst hS; go_simp; try simp (disch := omega) only [wrap64_id])); try (with_reducible rfl)
            refine ⟨.inl ⟨by rfl, opOk_pure fun wS hS => ?_⟩, ?_⟩
            · ((subst hS; go_simp; try simp (disch := omega) only [wrap64_id])); try (with_reducible rfl)
            try trivial
          case wantr1 => rfl
          case effr1 =>
            intro wS hS
            simp only [fillT, List.setIfInBounds_toArray, List.set_cons_zero, List.set_cons_succ]
            rw [hS]
            refine eff_call (f := 47) (args := #[.pointer (some ⟨m, 0, none⟩), .slice A P.length c]) (by go_simp) ?_
            refine (h2.call1 (i := 2) (Q := fun e => e = .returned (.int .i64 (rapE st P.length))) rfl (fun F2 hF2 ha => rappend_any w2 m st (ok.ok hn) P A c HA.out (src_rest h2 (i := 1) rfl HR.out (fun ad had hne => HS0.out ad had (by simpa [bytesOf] using hne))) hP F2 hF2 (fun ad had hne => ha 1 _ ad.block (by decide) rfl (fun G hG => (hG.2 ad.block (HS0.out ad had (by simpa [bytesOf] using hne))).2.1)))).mono ?_
            rintro e w3 ⟨rfl, h3⟩
            simp only [List.cons_append, List.nil_append, List.set_cons_succ, List.set_cons_zero] at h3
            refine ⟨_, rfl, ?_⟩
            refine ⟨_, [true, true, true, true, true, true, true, true, true, true], [false, false, false, false, false, false, false, false, true, true], [4, 6, 5], [?vr2_0, ?vr2_1, ?vr2_2, (.int .i64 (appE st P.length)), ?vr2_4, ?vr2_5, ?vr2_6, (.int .i64 (rapE st P.length)), ?vr2_8, ?vr2_9], fun w' => w' = w3, rfl, rfl, ?samer1, by kernel_rfl, ?hSr1, ?nxr1⟩
            case samer1 =>
              refine And.intro ?_ ?_
              · with_reducible rfl
              refine And.intro ?_ ?_
              · with_reducible rfl
              refine And.intro ?_ ?_
              · with_reducible rfl
              refine And.intro ?_ ?_
              · with_reducible rfl
              refine And.intro ?_ ?_
              · with_reducible rfl
              refine And.intro ?_ ?_
              · with_reducible rfl
              refine And.intro ?_ ?_
              · with_reducible rfl
              trivial
            case hSr1 => rfl
            case nxr1 =>
              refine chain_nil (by kernel_rfl) rfl ?opsr2 ?endr2
              case opsr2 =>
                simp only [OpsAt, fillT, List.setIfInBounds_toArray, List.set_cons_zero, List.set_cons_succ]
                refine ⟨.inl ⟨by rfl, opOk_pure fun wS hS => ?_⟩, ?_⟩
                · ((subst hS; go_simp; try simp (disch := omega) only [wrap64_id])); try (with_reducible rfl)
                refine ⟨.inl ⟨by rfl, opOk_pure fun wS hS => ?_⟩, ?_⟩
                · ((subst hS; go_simp; try simp (disch := omega) only [wrap64_id])); try (with_reducible rfl)
                try trivial
              case endr2 =>
                intro wE hE
                simp only [fillT, List.setIfInBounds_toArray, List.set_cons_zero, List.set_cons_succ]
                rw [hE]
                have e0 : rapE st P.length = appE st P.length := rfl
                rw [e0]
                simp only [beq_self_eq_true]
                go_wp2
                go_ret
                exact ⟨rfl, HF.out _ _ _ h3⟩
  rw [if_neg h0]
  rcases (show kind = 1 ∨ kind ≠ 1 by omega) with h1 | h1
  · subst h1
    rw [if_pos rfl]
    clear h0
    go_enter Try.func28, Try.ntmps28
    go_wp2_with fail
    refine (sync_sat H1'.out (i := 0) rfl ok hn).mono ?_
    rintro e w2 ⟨rfl, h2⟩
    simp only [List.cons_append, List.nil_append, List.set_cons_succ, List.set_cons_zero] at h2
    have hk2 := h2.all
    simp only [allFacts, box_facts, row_facts, slabA_facts, emp_facts, cellFacts, Nat.zero_add, Nat.reduceAdd, true_and, and_true] at hk2
    go_wp2_with fail
    refine (h2.call1 (i := 2) (Q := fun e => e = .returned (.int .i64 (syE st))) rfl (fun F2 hF2 _ => rsync_any w2 m st (ok.ok hn) F2 hF2)).mono ?_
    rintro e w3 ⟨rfl, h3⟩
    simp only [List.cons_append, List.nil_append, List.set_cons_succ, List.set_cons_zero] at h3
    go_wp2
    go_ret
    exact ⟨rfl, HF.out _ _ _ h3⟩
  rw [if_neg h1]
  rcases (show kind = 2 ∨ kind ≠ 2 by omega) with h2 | h2
  · subst h2
    rw [if_pos rfl]
    clear h0 h1
    go_enter Try.func28, Try.ntmps28
    go_wp2_with fail
    refine (erase_sat H1'.out (i := 0) rfl ok hn).mono ?_
    rintro e w2 ⟨rfl, h2⟩
    simp only [List.cons_append, List.nil_append, List.set_cons_succ, List.set_cons_zero] at h2
    have hk2 := h2.all
    simp only [allFacts, box_facts, row_facts, slabA_facts, emp_facts, cellFacts, Nat.zero_add, Nat.reduceAdd, true_and, and_true] at hk2
    go_wp2_with fail
    refine (h2.call1 (i := 2) (Q := fun e => e = .returned (.int .i64 (syE st))) rfl (fun F2 hF2 _ => rerase_any w2 m st (ok.ok hn) F2 hF2)).mono ?_
    rintro e w3 ⟨rfl, h3⟩
    simp only [List.cons_append, List.nil_append, List.set_cons_succ, List.set_cons_zero] at h3
    go_wp2
    go_ret
    exact ⟨rfl, HF.out _ _ _ h3⟩
  rw [if_neg h2]
  rcases (show kind = 3 ∨ kind ≠ 3 by omega) with h3 | h3
  · subst h3
    rw [if_pos rfl]
    clear h0 h1 h2
    obtain ⟨As, cs, Al, cl, hO⟩ := refA_open (H1'.out.pick [2, 0, 1, 3] (by decide))
    dsimp only [List.cons_append, List.nil_append] at hO
    have hk2 := hO.all
    simp only [allFacts, box_facts, row_facts, slabA_facts, emp_facts, cellFacts, Nat.zero_add, Nat.reduceAdd, true_and, and_true] at hk2
    rcases hd : st.down with _ | _
    · rw [hd] at hk2 hO
      have hm : max a (-1) = fuF false st.fuse a := rfl
      have HM := Lib.hid hm
      have HD := Lib.hid hd
      clear hm hd hk
      skip
      · have hq : fuF false st.fuse a = (max a (-1)) := rfl
        have HQ := Lib.hid hq
        clear hq
        go_enter Try.func28, Try.ntmps28
        go_wp2_with fail
        have h5 := refA_shut (st := fuS st a) (l := [_, _, _]) (by have := hO.set 0 rfl 2 (.int .i64 (max a (-1))); simp only [List.set_cons_zero, List.set_cons_succ] at this; unfold fuS; simp only [HD.out, HQ.out]; exact this)
        refine (fuse_sat h5 (i := 1) rfl a).mono ?_
        rintro e w3 ⟨rfl, h3⟩
        simp only [List.cons_append, List.nil_append, List.set_cons_succ, List.set_cons_zero] at h3
        rw [HD.out]
        go_wp2
        go_ret
        exact ⟨rfl, HF.out _ _ _ (h3.pick [1, 2, 0, 3] (by decide))⟩
    · have he : fuS st a = st := by unfold fuS fuF; rw [hd]; cases st; simp_all
      rw [hd] at hk2
      have HD := Lib.hid hd
      have HE := Lib.hid he
      clear hd he
      go_enter Try.func28, Try.ntmps28
      go_wp2_with fail
      refine (fuse_sat H1'.out (i := 0) rfl a).mono ?_
      rintro e w3 ⟨rfl, h3⟩
      simp only [List.cons_append, List.nil_append, List.set_cons_succ, List.set_cons_zero] at h3
      rw [HD.out]
      go_wp2
      go_ret
      exact ⟨rfl, HF.out _ _ _ (by rw [HE.out] at h3 ⊢; exact h3)⟩
  rw [if_neg h3]
  rcases (show kind = 4 ∨ kind ≠ 4 by omega) with h4 | h4
  · subst h4
    rw [if_pos rfl]
    clear h0 h1 h2 h3
    go_enter Try.func28, Try.ntmps28
    go_wp2_with fail
    refine (H1'.out.call1 (i := 2) (A' := refA m (crS st a b)) (Q := fun e => e = .returned (.tuple #[])) rfl (fun F2 hF2 _ => rcrash_any _ m st (ok.ok hn) F2 hF2 a b a0 a1)).mono ?_
    rintro e w2 ⟨rfl, h2⟩
    simp only [List.cons_append, List.nil_append, List.set_cons_succ, List.set_cons_zero] at h2
    have hk2 := h2.all
    simp only [allFacts, box_facts, row_facts, slabA_facts, emp_facts, cellFacts, Nat.zero_add, Nat.reduceAdd, true_and, and_true] at hk2
    go_wp2_with fail
    refine (crash_sat h2 (i := 0) rfl ok hn a b).mono ?_
    rintro e w3 ⟨rfl, h3⟩
    simp only [List.cons_append, List.nil_append, List.set_cons_succ, List.set_cons_zero] at h3
    go_wp2
    go_ret
    exact ⟨rfl, HF.out _ _ _ h3⟩
  · rw [if_neg h4]
    go_enter Try.func28, Try.ntmps28
    go_wp2
    go_ret
    exact ⟨rfl, HF.out _ _ _ H1'.out⟩
open Go.RowKit

theorem app_at {α : Type} {l m : List α} {i : Nat} {a : α} (h : l[i]? = some a) : (l ++ m)[i]? = some a := by
  rw [List.getElem?_append_left (List.getElem?_eq_some_iff.1 h).1]; exact h
theorem refA_cells {w : World} {m : Nat} {st : St} {F : Nat → Prop} (h : (refA m st).sat F w) : ∃ As cs Al cl, cellFacts w m 0 [.slice As st.S.length cs, .slice Al st.L.length cl, .int .i64 st.fuse, .int .i64 st.steps, .bool st.down] ∧ m < w.heap.size := by
  obtain ⟨As, cs, Al, cl, hS⟩ := refA_open (Sat.ofOne h)
  have hk := hS.all
  simp only [List.cons_append, List.nil_append, allFacts, box_facts] at hk
  exact ⟨As, cs, Al, cl, hk.1⟩

set_option maxRecDepth 100000 in
set_option maxHeartbeats 2000000 in
theorem is_sat {w0 w : World} {l : List Asn} (h : Sat w0 w l) {i j g m : Nat} {st : St} (hi : l[i]? = some (slabA g st)) (hj : l[j]? = some (refA m st)) {n : Int} (ok : st.In n) (hn : n ≤ 4611686018427387904) :
    Calls Try.prog 29 #[.pointer (some ⟨g, 0, none⟩), .pointer (some ⟨m, 0, none⟩)] w fun e w' => e = .returned (.bool true) ∧ Sat w0 w' l := by
  have HR := Lib.hid (read_sat h hi ok hn)
  have hcv : ∀ (w : World) (B : Nat) (c : Nat) (A : Option Addr) (n : Nat) (xs : List Int), w.ownsRow B 5 1 (.slice A n c) n (bytesOf xs) → (convert 36 9 (.slice A n c)).run Try.prog w = .ok (.string (strOfNums xs)) w :=
    fun w B c A n xs h => conv_row _ _ _ Try.underlying36 Try.underlying5 Try.underlying9 h
  have HCV := Lib.hid hcv
  have HI := Lib.hid hi
  have HJ := Lib.hid hj
  clear hcv hi hj
  go_enter Try.func29, Try.ntmps29
  go_wp2_with fail
  refine HR.out.mono ?_
  rintro e w1 ⟨A1, c1, rfl, h1⟩
  obtain ⟨F1, hF1⟩ := h1.get (app_at HJ.out)
  go_wp2_with fail
  refine (rread_any w1 m st (ok.ok hn) F1 hF1).mono ?_
  rintro e w2 ⟨v, rfl, hr, hb⟩
  obtain ⟨A2, c2, rfl, -⟩ := row_slice hr
  have h2 := h1.pushRow hr hb
  have v1 := HCV.out w2.drew 0 c1 A1 (rdS st).length (rdS st) (h2.drew.rowOf (i := l.length) (by simp))
  have v2 := HCV.out w2.drew w1.heap.size c2 A2 _ _ (show w2.drew.ownsRow w1.heap.size 5 1 (.slice A2 (rdS st).length c2) (rdS st).length (bytesOf (rdS st)) from hr)
  have h3 : Sat w0 w2 l := (h2.left).left
  obtain ⟨F2, hF2⟩ := h3.drew.get HJ.out
  obtain ⟨As, cs, Al, cl, hc, hlt⟩ := refA_cells hF2
  simp only [cellFacts, Nat.zero_add, Nat.reduceAdd, and_true] at hc
  have HL := Lib.hid (loose_sat h3.drew HI.out)
  have HS := Lib.hid (steps_sat h3.drew HI.out)
  have HD := Lib.hid (down_sat h3.drew HI.out)
  have H3 := Lib.hid h3
  clear h h1 h2 h3 hr hb HR
  go_wp2_with fail
  refine region_flow (S := fun w' => w' = w2.drew) (vs := [?va0, ?va1, ?va2, ?va3, ?va4, ?va5, ?va6, ?va7, ?va8, ?va9, ?va10, ?va11, ?va12, ?va13, ?va14, ?va15, ?va16, ?va17, ?va18, ?va19, ?va20, ?va21, ?va22, ?va23, ?va24, ?va25, ?va26, ?va27, ?va28, ?va29, ?va30, ?va31, ?va32, ?va33, ?va34, ?va35, ?va36, ?va37, ?va38]) (by kernel_rfl) (by kernel_rfl) (by kernel_rfl) (by kernel_rfl) (by kernel_rfl) rfl ?hSa ?hopsa ?henda
  case hSa => exact rfl
  case hopsa =>
    simp only [OpsOk, fillT, List.setIfInBounds_toArray, List.set_cons_zero, List.set_cons_succ]
    refine ⟨.inl ⟨by rfl, opOk_pure fun wS hS => ?_⟩, ?_⟩
    · ((subst hS; go_simp; try simp only [beq_self_eq_true])); try (with_reducible rfl)
    refine ⟨.inl ⟨by rfl, opOk_pure fun wS hS => ?_⟩, ?_⟩
    · ((subst hS; go_simp; try simp only [beq_self_eq_true])); try (with_reducible rfl)
    refine ⟨.inl ⟨by rfl, opOk_pure fun wS hS => ?_⟩, ?_⟩
    · ((subst hS; go_simp; try simp only [beq_self_eq_true])); try (with_reducible rfl)
    refine ⟨.inl ⟨by rfl, opOk_pure fun wS hS => ?_⟩, ?_⟩
    · ((subst hS; go_simp; try simp only [beq_self_eq_true])); try (with_reducible rfl)
    refine ⟨.inl ⟨by rfl, opOk_pure fun wS hS => ?_⟩, ?_⟩
    · ((subst hS; go_simp; try simp only [beq_self_eq_true])); try (with_reducible rfl)
    refine ⟨.inl ⟨by rfl, opOk_pure fun wS hS => ?_⟩, ?_⟩
    · ((subst hS; go_simp; try simp only [beq_self_eq_true])); try (with_reducible rfl)
    refine ⟨.inl ⟨by rfl, opOk_pure fun wS hS => ?_⟩, ?_⟩
    · ((subst hS; go_simp; try simp only [beq_self_eq_true])); try (with_reducible rfl)
    refine ⟨.inl ⟨by rfl, opOk_pure fun wS hS => ?_⟩, ?_⟩
    · ((subst hS; go_simp; try simp only [beq_self_eq_true])); try (with_reducible rfl)
    refine ⟨.inl ⟨by rfl, opOk_pure fun wS hS => ?_⟩, ?_⟩
    · ((subst hS; go_simp; try simp only [beq_self_eq_true])); try (with_reducible rfl)
    refine ⟨.inl ⟨by rfl, opOk_pure fun wS hS => ?_⟩, ?_⟩
    · ((subst hS; go_simp; try simp only [beq_self_eq_true])); try (with_reducible rfl)
    refine ⟨.inl ⟨by rfl, opOk_pure fun wS hS => ?_⟩, ?_⟩
    · ((subst hS; go_simp; try simp only [beq_self_eq_true])); try (with_reducible rfl)
    refine ⟨.inl ⟨by rfl, opOk_pure fun wS hS => ?_⟩, ?_⟩
    · ((subst hS; go_simp; try simp only [beq_self_eq_true])); try (with_reducible rfl)
    refine ⟨.inl ⟨by rfl, opOk_call (f := 58) (args := ?aa12) (fun wS hS => ?_) (fun wS hS => ?_)⟩, ?_⟩
    rotate_left 1
    · ((subst hS; go_simp; try simp only [beq_self_eq_true])); try (with_reducible rfl)
    · subst hS
      refine HL.out.mono ?_
      rintro e w' ⟨rfl, rfl⟩
      refine ⟨?_, rfl⟩
      with_reducible rfl
    refine ⟨.inl ⟨by rfl, opOk_pure fun wS hS => ?_⟩, ?_⟩
    · ((subst hS; go_simp; try simp only [beq_self_eq_true])); try (with_reducible rfl)
    refine ⟨.inl ⟨by rfl, opOk_pure fun wS hS => ?_⟩, ?_⟩
    · ((subst hS; go_simp; try simp only [beq_self_eq_true])); try (with_reducible rfl)
    refine ⟨.inl ⟨by rfl, opOk_pure fun wS hS => ?_⟩, ?_⟩
    · ((subst hS; go_simp; try simp only [beq_self_eq_true])); try (with_reducible rfl)
    refine ⟨.inl ⟨by rfl, opOk_pure fun wS hS => ?_⟩, ?_⟩
    · ((subst hS; go_simp; try simp only [beq_self_eq_true])); try (with_reducible rfl)
    refine ⟨.inl ⟨by rfl, opOk_pure fun wS hS => ?_⟩, ?_⟩
    · ((subst hS; go_simp; try simp only [beq_self_eq_true])); try (with_reducible rfl)
    refine ⟨.inl ⟨by rfl, opOk_pure fun wS hS => ?_⟩, ?_⟩
    · ((subst hS; go_simp; try simp only [beq_self_eq_true])); try (with_reducible rfl)
    refine ⟨.inl ⟨by rfl, opOk_pure fun wS hS => ?_⟩, ?_⟩
    · ((subst hS; go_simp; try simp only [beq_self_eq_true])); try (with_reducible rfl)
    refine ⟨.inl ⟨by rfl, opOk_pure fun wS hS => ?_⟩, ?_⟩
    · ((subst hS; go_simp; try simp only [beq_self_eq_true])); try (with_reducible rfl)
    refine ⟨.inl ⟨by rfl, opOk_pure fun wS hS => ?_⟩, ?_⟩
    · ((subst hS; go_simp; try simp only [beq_self_eq_true])); try (with_reducible rfl)
    refine ⟨.inl ⟨by rfl, opOk_call (f := 59) (args := ?aa22) (fun wS hS => ?_) (fun wS hS => ?_)⟩, ?_⟩
    rotate_left 1
    · ((subst hS; go_simp; try simp only [beq_self_eq_true])); try (with_reducible rfl)
    · subst hS
      refine HS.out.mono ?_
      rintro e w' ⟨rfl, rfl⟩
      refine ⟨?_, rfl⟩
      with_reducible rfl
    refine ⟨.inl ⟨by rfl, opOk_pure fun wS hS => ?_⟩, ?_⟩
    · ((subst hS; go_simp; try simp only [beq_self_eq_true])); try (with_reducible rfl)
    refine ⟨.inl ⟨by rfl, opOk_pure fun wS hS => ?_⟩, ?_⟩
    · ((subst hS; go_simp; try simp only [beq_self_eq_true])); try (with_reducible rfl)
    refine ⟨.inl ⟨by rfl, opOk_pure fun wS hS => ?_⟩, ?_⟩
    · ((subst hS; go_simp; try simp only [beq_self_eq_true])); try (with_reducible rfl)
    refine ⟨.inl ⟨by rfl, opOk_pure fun wS hS => ?_⟩, ?_⟩
    · ((subst hS; go_simp; try simp only [beq_self_eq_true])); try (with_reducible rfl)
    refine ⟨.inl ⟨by rfl, opOk_pure fun wS hS => ?_⟩, ?_⟩
    · ((subst hS; go_simp; try simp only [beq_self_eq_true])); try (with_reducible rfl)
    refine ⟨.inl ⟨by rfl, opOk_pure fun wS hS => ?_⟩, ?_⟩
    · ((subst hS; go_simp; try simp only [beq_self_eq_true])); try (with_reducible rfl)
    refine ⟨.inl ⟨by rfl, opOk_pure fun wS hS => ?_⟩, ?_⟩
    · ((subst hS; go_simp; try simp only [beq_self_eq_true])); try (with_reducible rfl)
    refine ⟨.inl ⟨by rfl, opOk_pure fun wS hS => ?_⟩, ?_⟩
    · ((subst hS; go_simp; try simp only [beq_self_eq_true])); try (with_reducible rfl)
    refine ⟨.inl ⟨by rfl, opOk_call (f := 60) (args := ?aa31) (fun wS hS => ?_) (fun wS hS => ?_)⟩, ?_⟩
    rotate_left 1
    · ((subst hS; go_simp; try simp only [beq_self_eq_true])); try (with_reducible rfl)
    · subst hS
      refine HD.out.mono ?_
      rintro e w' ⟨rfl, rfl⟩
      refine ⟨?_, rfl⟩
      with_reducible rfl
    refine ⟨.inl ⟨by rfl, opOk_pure fun wS hS => ?_⟩, ?_⟩
    · ((subst hS; go_simp; try simp only [beq_self_eq_true])); try (with_reducible rfl)
    refine ⟨.inl ⟨by rfl, opOk_pure fun wS hS => ?_⟩, ?_⟩
    · ((subst hS; go_simp; try simp only [beq_self_eq_true])); try (with_reducible rfl)
    refine ⟨.inl ⟨by rfl, opOk_pure fun wS hS => ?_⟩, ?_⟩
    · ((subst hS; go_simp; try simp only [beq_self_eq_true])); try (with_reducible rfl)
    refine ⟨.inl ⟨by rfl, opOk_pure fun wS hS => ?_⟩, ?_⟩
    · ((subst hS; go_simp; try simp only [beq_self_eq_true])); try (with_reducible rfl)
    refine ⟨.inl ⟨by rfl, opOk_pure fun wS hS => ?_⟩, ?_⟩
    · ((subst hS; go_simp; try simp only [beq_self_eq_true])); try (with_reducible rfl)
    refine ⟨.inl ⟨by rfl, opOk_pure fun wS hS => ?_⟩, ?_⟩
    · ((subst hS; go_simp; try simp only [beq_self_eq_true])); try (with_reducible rfl)
    refine ⟨.inl ⟨by rfl, opOk_pure fun wS hS => ?_⟩, ?_⟩
    · ((subst hS; go_simp; try simp only [beq_self_eq_true])); try (with_reducible rfl)
    trivial
  case henda =>
    intro wE hE
    simp only [OpsOk, fillT, List.setIfInBounds_toArray, List.set_cons_zero, List.set_cons_succ]
    subst hE
    go_wp2
    go_ret
    exact ⟨rfl, H3.out.drew⟩
end Go.Proofs.Ytidcdfilfccigaa
