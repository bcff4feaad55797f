/- Walk over the law's step, done to both slabs. -/
import Derived.Test.YtofhcdjnnbpkbaaAwake16
namespace Go.Proofs.Ytofhcdjnnbpkbaa
set_option linter.unusedVariables false
set_option linter.unusedSimpArgs false
set_option linter.unnecessarySimpa false
open Go.RowKit

/-- A step's end. -/
def opS (st : St) (kind a b : Int) (P : List Int) : St :=
  if kind = 0 then appS st P else if kind = 1 then syS st else if kind = 2 then erS st else if kind = 3 then fuS st a else if kind = 4 then crS st a b else st
theorem St.In.ops {st : St} {n : Int} (h : st.In n) (kind a b : Int) (P : List Int) (ha : a ≤ 9223372036854775807) : (opS st kind a b P).In (n + 1) := by
  unfold opS
  split
  · exact h.app P
  · split
    · exact h.syn
    · split
      · exact h.ers
      · split
        · exact (h.fus ha).mono (by omega)
        · split
          · exact (h.crs a b).mono (by omega)
          · exact h.mono (by omega)

set_option maxRecDepth 100000 in
set_option maxHeartbeats 2000000 in
theorem does_at (w : World) (g m : Nat) (st : St) (n : Int) (ok : st.In n) (hn : n ≤ 4611686018427387904) (kind a b : Int) (a0 : -9223372036854775808 ≤ a) (a1 : a ≤ 9223372036854775807) (P : List Int) (A : Option Addr) (c : Nat)
    (hA : A = none → P.length = 0 ∧ c = 0) (hsrc : SrcOf w A (bytesOf P)) (hP : P.length ≤ 140737488355328) (F : Nat → Prop) (h : (star2 (slabA g st) (refA m st)).sat F w) (hAF : ∀ ad, A = some ad → P ≠ [] → ¬ F ad.block) :
    Calls Try.prog 17 #[.pointer (some ⟨g, 0, none⟩), .pointer (some ⟨m, 0, none⟩), .agg #[.int .i64 kind, .int .i64 a, .int .i64 b, .slice A P.length c]] w fun e w' => e = .returned (.bool true) ∧ ∃ F', (star2 (slabA g (opS st kind a b P)) (refA m (opS st kind a b P))).sat F' w' ∧ Moves F F' w w' := by
  have h1 := ((Sat.ofOne h).open2 (i := 0) rfl).alloc #[.int .i64 kind, .int .i64 a, .int .i64 b, .slice A P.length c] 27
  simp only [List.cons_append, List.nil_append, List.set_cons_succ, List.set_cons_zero] at h1
  have hfin : ∀ (w' : World) (st' : St) (X : Asn), Sat w w' [slabA g st', rest w (fun k => k < w.heap.size ∧ ¬ F k), refA m st', X] → ∃ F', (star2 (slabA g st') (refA m st')).sat F' w' ∧ Moves F F' w w' := by
    intro w' st' X h
    exact (Sat.shut2 (l := [slabA g st', rest w (fun k => k < w.heap.size ∧ ¬ F k)]) (Sat.left (l := [slabA g st', rest w (fun k => k < w.heap.size ∧ ¬ F k), refA m st']) (l' := [X]) h) (i := 0) rfl).toMoves
  have HF := Lib.hid hfin
  have hs0 : ∀ ad, A = some ad → P ≠ [] → ad.block < w.heap.size ∧ ¬ F ad.block := fun ad had hne => ⟨src_lt hsrc ad had (by simpa [bytesOf] using hne), hAF ad had hne⟩
  have HS0 := Lib.hid hs0
  have HR := Lib.hid hsrc
  have HA := Lib.hid hA
  have haw : ∀ (w' : World) (l : List Asn) (i : Nat), l[1]? = some (rest w (fun k => k < w.heap.size ∧ ¬ F k)) → i ≠ 1 → Away w' l i A P := by
    intro w' l i h1 hi ad had hne
    exact ⟨1, _, fun e => hi e.symm, h1, fun G hG => (hG.2 ad.block (hs0 ad had hne)).2.1⟩
  have HW := Lib.hid haw
  have H1 := Lib.hid h1.drew
  have H1' := Lib.hid h1
  clear hfin hs0 haw hA hsrc hAF h
  have hk := h1.all
  simp only [allFacts, box_facts, row_facts, slabA_facts, emp_facts, cellFacts, Nat.zero_add, Nat.reduceAdd, true_and, and_true] at hk
  clear h1
  unfold opS
  rcases (show kind = 0 ∨ kind ≠ 0 by omega) with h0 | h0
  · subst h0
    rw [if_pos rfl]
    go_enter Try.func17, Try.ntmps17
    go_wp2_with fail
    refine region_chain (E := [3, 7]) (kn := [true, true, true, false, true, true, true, false, false, false]) (mask := [true, true, true, false, true, true, true, false, false, false]) (vs := [?vr0_0, ?vr0_1, ?vr0_2, undef, ?vr0_4, ?vr0_5, ?vr0_6, undef, undef, undef]) (S := fun w' => w' = (w.alloc (.cells #[.int .i64 0, .int .i64 a, .int .i64 b, .slice A P.length c] 27)).drew) (by kernel_rfl) (by kernel_rfl) (by kernel_rfl) (by kernel_rfl) (by kernel_rfl) ?hSr ?hchr
    case hSr => exact rfl
    case hchr =>
      refine chain_cons _ (by kernel_rfl) rfl rfl ?opsr0 ?wantr0 ?effr0
      case opsr0 =>
        simp only [OpsAt, fillT, List.setIfInBounds_toArray, List.set_cons_zero, List.set_cons_succ]
        refine ⟨.inl ⟨by rfl, opOk_pure fun wS hS => ?_⟩, ?_⟩
        · ((subst hS; go_simp; try simp (disch := omega) only [wrap64_id])); try (with_reducible rfl)
        refine ⟨.inl ⟨by rfl, opOk_pure fun wS hS => ?_⟩, ?_⟩
        · ((subst hS; go_simp; try simp (disch := omega) only [wrap64_id])); try (with_reducible rfl)
        refine ⟨.inl ⟨by rfl, opOk_pure fun wS hS => ?_⟩, ?_⟩
        · ((subst hS; go_simp; try simp (disch := omega) only [wrap64_id])); try (with_reducible rfl)
        refine ⟨.inl ⟨by rfl, opOk_pure fun wS hS => ?_⟩, ?_⟩
        · ((subst hS; go_simp; try simp (disch := omega) only [wrap64_id])); try (with_reducible rfl)
        refine ⟨.inl ⟨by rfl, opOk_pure fun wS hS => ?_⟩, ?_⟩
        · ((subst hS; go_simp; try simp (disch := omega) only [wrap64_id])); try (with_reducible rfl)
        refine ⟨.inl ⟨by rfl, opOk_pure fun wS hS => ?_⟩, ?_⟩
        · ((subst hS; go_simp; try simp (disch := omega) only [wrap64_id])); try (with_reducible rfl)
        try trivial
      case wantr0 => rfl
      case effr0 =>
        intro wS hS
        simp only [fillT, List.setIfInBounds_toArray, List.set_cons_zero, List.set_cons_succ]
        rw [hS]
        refine eff_call (f := 8) (args := #[.pointer (some ⟨g, 0, none⟩), .slice A P.length c]) (by go_simp) ?_
        refine (append_sat H1.out (i := 0) rfl ok hn P A c HA.out (src_rest H1.out (i := 1) rfl HR.out (fun ad had hne => HS0.out ad had (by simpa [bytesOf] using hne))) (HW.out _ _ 0 rfl (by decide)) hP).mono ?_
        rintro e w2 ⟨rfl, h2⟩
        simp only [List.cons_append, List.nil_append, List.set_cons_succ, List.set_cons_zero] at h2
        have hk2 := h2.all
        simp only [allFacts, box_facts, row_facts, slabA_facts, emp_facts, cellFacts, Nat.zero_add, Nat.reduceAdd, true_and, and_true] at hk2
        refine ⟨_, rfl, ?_⟩
        refine ⟨_, [true, true, true, true, true, true, true, false, false, false], [false, false, false, false, true, true, true, false, false, false], [0, 2, 1], [?vr1_0, ?vr1_1, ?vr1_2, (.int .i64 (appE st P.length)), ?vr1_4, ?vr1_5, ?vr1_6, undef, undef, undef], fun w' => w' = w2, rfl, rfl, ?samer0, by kernel_rfl, ?hSr0, ?nxr0⟩
        case samer0 =>
          refine And.intro ?_ ?_
          · with_reducible rfl
          refine And.intro ?_ ?_
          · with_reducible rfl
          refine And.intro ?_ ?_
          · with_reducible rfl
          refine And.intro ?_ ?_
          · with_reducible rfl
          refine And.intro ?_ ?_
          · with_reducible rfl
          refine And.intro ?_ ?_
          · with_reducible rfl
          trivial
        case hSr0 => rfl
        case nxr0 =>
          refine chain_cons _ (by kernel_rfl) rfl rfl ?opsr1 ?wantr1 ?effr1
          case opsr1 =>
            simp only [OpsAt, fillT, List.setIfInBounds_toArray, List.set_cons_zero, List.set_cons_succ]
            refine ⟨.inl ⟨by rfl, opOk_pure fun wS hS => ?_⟩, ?_⟩
            · ((subst hS; go_simp; try simp (disch := omega) only [wrap64_id])); try (with_reducible rfl)
            refine ⟨.inl ⟨by rfl, opOk_pure fun wS hS => ?_⟩, ?_⟩
            · ((subst hS; go_simp; try simp (disch := omega) only [wrap64_id])); try (with_reducible rfl)
            refine ⟨.inl ⟨by rfl, opOk_pure fun wS hS => ?_⟩, ?_⟩
            · ((subst hS; go_simp; try simp (disch := omega) only [wrap64_id])); try (with_reducible rfl)
            try trivial
          case wantr1 => rfl
          case effr1 =>
            intro wS hS
            simp only [fillT, List.setIfInBounds_toArray, List.set_cons_zero, List.set_cons_succ]
            rw [hS]
            refine eff_call (f := 24) (args := #[.pointer (some ⟨m, 0, none⟩), .slice A P.length c]) (by go_simp) ?_
            refine (h2.call1 (i := 2) (Q := fun e => e = .returned (.int .i64 (rapE st P.length))) rfl (fun F2 hF2 ha => rappend_any w2 m st (ok.ok hn) P A c HA.out (src_rest h2 (i := 1) rfl HR.out (fun ad had hne => HS0.out ad had (by simpa [bytesOf] using hne))) hP F2 hF2 (fun ad had hne => ha 1 _ ad.block (by decide) rfl (fun G hG => (hG.2 ad.block (HS0.out ad had (by simpa [bytesOf] using hne))).2.1)))).mono ?_
            rintro e w3 ⟨rfl, h3⟩
            simp only [List.cons_append, List.nil_append, List.set_cons_succ, List.set_cons_zero] at h3
            refine ⟨_, rfl, ?_⟩
            refine ⟨_, [true, true, true, true, true, true, true, true, true, true], [false, false, false, false, false, false, false, false, true, true], [4, 6, 5], [?vr2_0, ?vr2_1, ?vr2_2, (.int .i64 (appE st P.length)), ?vr2_4, ?vr2_5, ?vr2_6, (.int .i64 (rapE st P.length)), ?vr2_8, ?vr2_9], fun w' => w' = w3, rfl, rfl, ?samer1, by kernel_rfl, ?hSr1, ?nxr1⟩
            case samer1 =>
              refine And.intro ?_ ?_
              · with_reducible rfl
              refine And.intro ?_ ?_
              · with_reducible rfl
              refine And.intro ?_ ?_
              · with_reducible rfl
              refine And.intro ?_ ?_
              · with_reducible rfl
              refine And.intro ?_ ?_
              · with_reducible rfl
              refine And.intro ?_ ?_
              · with_reducible rfl
              refine And.intro ?_ ?_
              · with_reducible rfl
              trivial
            case hSr1 => rfl
            case nxr1 =>
              refine chain_nil (by kernel_rfl) rfl ?opsr2 ?endr2
              case opsr2 =>
                simp only [OpsAt, fillT, List.setIfInBounds_toArray, List.set_cons_zero, List.set_cons_succ]
                refine ⟨.inl ⟨by rfl, opOk_pure fun wS hS => ?_⟩, ?_⟩
                · ((subst hS; go_simp; try simp (disch := omega) only [wrap64_id])); try (with_reducible rfl)
                refine ⟨.inl ⟨by rfl, opOk_pure fun wS hS => ?_⟩, ?_⟩
                · ((subst hS; go_simp; try simp (disch := omega) only [wrap64_id])); try (with_reducible rfl)
                try trivial
              case endr2 =>
                intro wE hE
                simp only [fillT, List.setIfInBounds_toArray, List.set_cons_zero, List.set_cons_succ]
                rw [hE]
                have e0 : rapE st P.length = appE st P.length := rfl
                rw [e0]
                simp only [beq_self_eq_true]
                go_wp2
                go_ret
                exact ⟨rfl, HF.out _ _ _ h3⟩
  rw [if_neg h0]
  rcases (show kind = 1 ∨ kind ≠ 1 by omega) with h1 | h1
  · subst h1
    rw [if_pos rfl]
    clear h0
    go_enter Try.func17, Try.ntmps17
    go_wp2_with fail
    refine (sync_sat H1'.out (i := 0) rfl ok hn).mono ?_
    rintro e w2 ⟨rfl, h2⟩
    simp only [List.cons_append, List.nil_append, List.set_cons_succ, List.set_cons_zero] at h2
    have hk2 := h2.all
    simp only [allFacts, box_facts, row_facts, slabA_facts, emp_facts, cellFacts, Nat.zero_add, Nat.reduceAdd, true_and, and_true] at hk2
    go_wp2_with fail
    refine (h2.call1 (i := 2) (Q := fun e => e = .returned (.int .i64 (syE st))) rfl (fun F2 hF2 _ => rsync_any w2 m st (ok.ok hn) F2 hF2)).mono ?_
    rintro e w3 ⟨rfl, h3⟩
    simp only [List.cons_append, List.nil_append, List.set_cons_succ, List.set_cons_zero] at h3
    go_wp2
    go_ret
    exact ⟨rfl, HF.out _ _ _ h3⟩
  rw [if_neg h1]
  rcases (show kind = 2 ∨ kind ≠ 2 by omega) with h2 | h2
  · subst h2
    rw [if_pos rfl]
    clear h0 h1
    go_enter Try.func17, Try.ntmps17
    go_wp2_with fail
    refine (erase_sat H1'.out (i := 0) rfl ok hn).mono ?_
    rintro e w2 ⟨rfl, h2⟩
    simp only [List.cons_append, List.nil_append, List.set_cons_succ, List.set_cons_zero] at h2
    have hk2 := h2.all
    simp only [allFacts, box_facts, row_facts, slabA_facts, emp_facts, cellFacts, Nat.zero_add, Nat.reduceAdd, true_and, and_true] at hk2
    go_wp2_with fail
    refine (h2.call1 (i := 2) (Q := fun e => e = .returned (.int .i64 (syE st))) rfl (fun F2 hF2 _ => rerase_any w2 m st (ok.ok hn) F2 hF2)).mono ?_
    rintro e w3 ⟨rfl, h3⟩
    simp only [List.cons_append, List.nil_append, List.set_cons_succ, List.set_cons_zero] at h3
    go_wp2
    go_ret
    exact ⟨rfl, HF.out _ _ _ h3⟩
  rw [if_neg h2]
  rcases (show kind = 3 ∨ kind ≠ 3 by omega) with h3 | h3
  · subst h3
    rw [if_pos rfl]
    clear h0 h1 h2
    obtain ⟨As, cs, Al, cl, hO⟩ := refA_open (H1'.out.pick [2, 0, 1, 3] (by decide))
    dsimp only [List.cons_append, List.nil_append] at hO
    have hk2 := hO.all
    simp only [allFacts, box_facts, row_facts, slabA_facts, emp_facts, cellFacts, Nat.zero_add, Nat.reduceAdd, true_and, and_true] at hk2
    rcases hd : st.down with _ | _
    · rw [hd] at hk2 hO
      have hm : max a (-1) = fuF false st.fuse a := rfl
      have HM := Lib.hid hm
      have HD := Lib.hid hd
      clear hm hd hk
      skip
      · have hq : fuF false st.fuse a = (max a (-1)) := rfl
        have HQ := Lib.hid hq
        clear hq
        go_enter Try.func17, Try.ntmps17
        go_wp2_with fail
        have h5 := refA_shut (st := fuS st a) (l := [_, _, _]) (by have := hO.set 0 rfl 2 (.int .i64 (max a (-1))); simp only [List.set_cons_zero, List.set_cons_succ] at this; unfold fuS; simp only [HD.out, HQ.out]; exact this)
        refine (fuse_sat h5 (i := 1) rfl a).mono ?_
        rintro e w3 ⟨rfl, h3⟩
        simp only [List.cons_append, List.nil_append, List.set_cons_succ, List.set_cons_zero] at h3
        rw [HD.out]
        go_wp2
        go_ret
        exact ⟨rfl, HF.out _ _ _ (h3.pick [1, 2, 0, 3] (by decide))⟩
    · have he : fuS st a = st := by unfold fuS fuF; rw [hd]; cases st; simp_all
      rw [hd] at hk2
      have HD := Lib.hid hd
      have HE := Lib.hid he
      clear hd he
      go_enter Try.func17, Try.ntmps17
      go_wp2_with fail
      refine (fuse_sat H1'.out (i := 0) rfl a).mono ?_
      rintro e w3 ⟨rfl, h3⟩
      simp only [List.cons_append, List.nil_append, List.set_cons_succ, List.set_cons_zero] at h3
      rw [HD.out]
      go_wp2
      go_ret
      exact ⟨rfl, HF.out _ _ _ (by rw [HE.out] at h3 ⊢; exact h3)⟩
  rw [if_neg h3]
  rcases (show kind = 4 ∨ kind ≠ 4 by omega) with h4 | h4
  · subst h4
    rw [if_pos rfl]
    clear h0 h1 h2 h3
    go_enter Try.func17, Try.ntmps17
    go_wp2_with fail
    refine (H1'.out.call1 (i := 2) (A' := refA m (crS st a b)) (Q := fun e => e = .returned (.tuple #[])) rfl (fun F2 hF2 _ => rcrash_any _ m st (ok.ok hn) F2 hF2 a b a0 a1)).mono ?_
    rintro e w2 ⟨rfl, h2⟩
    simp only [List.cons_append, List.nil_append, List.set_cons_succ, List.set_cons_zero] at h2
    have hk2 := h2.all
    simp only [allFacts, box_facts, row_facts, slabA_facts, emp_facts, cellFacts, Nat.zero_add, Nat.reduceAdd, true_and, and_true] at hk2
    go_wp2_with fail
    refine (crash_sat h2 (i := 0) rfl ok hn a b).mono ?_
    rintro e w3 ⟨rfl, h3⟩
    simp only [List.cons_append, List.nil_append, List.set_cons_succ, List.set_cons_zero] at h3
    go_wp2
    go_ret
    exact ⟨rfl, HF.out _ _ _ h3⟩
  · rw [if_neg h4]
    go_enter Try.func17, Try.ntmps17
    go_wp2
    go_ret
    exact ⟨rfl, HF.out _ _ _ H1'.out⟩
end Go.Proofs.Ytofhcdjnnbpkbaa
