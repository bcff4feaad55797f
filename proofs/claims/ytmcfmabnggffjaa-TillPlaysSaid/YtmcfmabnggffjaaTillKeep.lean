/- Walks over the till's calls: Keep, Give. -/
import Derived.Test.YtmcfmabnggffjaaTillMut
namespace Go.Proofs.Ytmcfmabnggffjaa
set_option linter.unusedVariables false
set_option linter.unusedSimpArgs false
set_option linter.unnecessarySimpa false
open Go.RowKit

set_option maxRecDepth 100000 in
set_option maxHeartbeats 1000000 in
theorem keep_any (w : World) (m : Nat) (t : Tl) (ok : t.Ok) (who n : Int) (hn : U64 n) (F : Nat → Prop) (h : (tillX 54 m t).sat F w) : Calls Try.prog 10 #[.pointer (some ⟨m, 0, none⟩), .int .i64 who, .int .u64 n] w fun e w' => e = .returned (.int .i64 (keepE t who n)) ∧ ∃ F', (tillX 54 m (keepS t who n)).sat F' w' ∧ Moves F F' w w' := by
  obtain ⟨Ah, ch, An, cn, hS⟩ := tillX_open (Sat.ofOne h)
  dsimp only [List.cons_append, List.nil_append] at hS
  have hk := hS.all
  simp only [allFacts, tillB, wRow, box_facts, row_facts, emp_facts, cellFacts, Nat.zero_add, Nat.reduceAdd, true_and, and_true] at hk
  have HI := Lib.hid (in_any w m t F h who)
  have H := Lib.hid h
  clear h
  rcases (show t.inB who ∨ ¬ t.inB who from Decidable.em _) with hi | hi
  rotate_left 1
  · rw [show inE t who = 1 from if_neg hi] at HI
    have HH := Lib.hid hi
    clear hi
    have e1 : keepE t who n = 1 := if_neg HH.out
    have s1 : keepS t who n = t := by unfold keepS; rw [show keepE t who n = 1 from if_neg HH.out]; rfl
    rw [s1, e1]
    clear e1 s1
    go_enter Try.func10, Try.ntmps10
    go_wp2_with fail
    refine HI.out.mono ?_
    rintro e w1 ⟨rfl, rfl⟩
    go_wp2
    go_ret
    exact ⟨rfl, _, H.out, Moves.refl _ _⟩
  · rw [show inE t who = 0 from if_pos hi] at HI
    have HB := Lib.hid hi
    obtain ⟨i, rfl, hil⟩ := Tl.inB_nat hi
    have hl := ok.few
    have hln := ok.len
    obtain ⟨g, hg, hc, hfz, hglt⟩ := row_at (hS.rowOf (i := 2) rfl) (j := i) (by omega)
    have hci := hc _ (words_at (by omega))
    subst hg
    have hil2 : i < t.has.length := by omega
    have hu := (ok.h).getD hil2
    obtain ⟨x, hx⟩ : ∃ x, t.has.getD i 0 = x := ⟨_, rfl⟩
    rw [hx] at hci hu
    have HX := Lib.hid hx
    clear hx hi hc
    have hk0 := ok.k0
    have htot := ok.tot
    have hle := getD_le_sum ok.h hil2
    rw [HX.out] at hle
    have hsn := sum_nonneg ok.h
    obtain ⟨n0, n1⟩ := hn
    have hgm := row_ne_box hS (i := 0) (j := 2) rfl rfl (by decide)
    rcases (show x < n ∨ ¬ x < n by omega) with hc | hc
    · have HN := Lib.hid hc
      have HSB := Lib.hid (sub_any x n ⟨by omega, by omega⟩ ⟨n0, n1⟩)
      rw [show subP x n = (0, 12) from if_neg (by omega)] at HSB
      have e1 : keepE t (i : Int) n = 12 := by unfold keepE; rw [if_pos HB.out, Int.toNat_natCast, HX.out, if_pos HN.out]
      have s1 : keepS t (i : Int) n = t := by unfold keepS keepE; rw [if_pos HB.out, Int.toNat_natCast, HX.out, if_pos HN.out]; rfl
      rw [s1, e1]
      clear e1 s1
      go_enter Try.func10, Try.ntmps10
      go_wp2_with fail
      refine HI.out.mono ?_
      rintro e w1 ⟨rfl, rfl⟩
      go_wp2_with fail
      refine (HSB.out _).mono ?_
      rintro e w1 ⟨rfl, rfl⟩
      go_wp2
      go_ret
      exact ⟨rfl, _, H.out, Moves.refl _ _⟩
    · have HN := Lib.hid hc
      have e1 : keepE t (i : Int) n = 0 := by unfold keepE; rw [if_pos HB.out, Int.toNat_natCast, HX.out, if_neg HN.out]
      have s1 : keepS t (i : Int) n = { t with has := t.has.set i (x - n), kept := t.kept + n } := by unfold keepS; rw [e1, if_pos rfl, Int.toNat_natCast, HX.out]
      rw [s1, e1]
      clear e1 s1
      have ew1 := wrap_u (n := x - n) (by omega) (by omega)
      have ew2 := wrap_u (n := t.kept + n) (by omega) (by omega)
      skip
      have HSB := Lib.hid (sub_any x n ⟨by omega, by omega⟩ ⟨n0, n1⟩)
      rw [show subP x n = (x - n, 0) from if_pos (by omega)] at HSB
      have hfin := tillX_shut (t := { t with has := t.has.set i (x - n), kept := t.kept + n }) (l := [_]) (by have := ((hS.drew.setRow 2 rfl i (by rw [words_len]; exact hil2) (.int .u64 (x - n))).set 0 rfl 2 (.int .u64 (t.kept + n))); rw [words_set] at this; unfold wRow at *; unfold tillB at *; simpa using this)
      have HFN := Lib.hid hfin
      clear hfin
      have HSat := Lib.hid hS
      clear hS
      go_enter Try.func10, Try.ntmps10
      go_wp2_with fail
      refine HI.out.mono ?_
      rintro e w1 ⟨rfl, rfl⟩
      go_wp2_with fail
      refine (HSB.out _).mono ?_
      rintro e w1 ⟨rfl, rfl⟩
      go_wp2_with fail
      refine region_chain (E := [14, 17]) (kn := [true, true, true, true, true, true, true, true, true, true, true, true, true, true, false, false, false, false]) (mask := [true, true, true, true, true, true, true, true, true, true, true, true, true, true, false, false, false, false]) (vs := [?vr0_0, ?vr0_1, ?vr0_2, ?vr0_3, ?vr0_4, ?vr0_5, ?vr0_6, ?vr0_7, ?vr0_8, ?vr0_9, ?vr0_10, ?vr0_11, ?vr0_12, ?vr0_13, undef, undef, undef, undef]) (S := fun w' => w' = w1.drew) (by kernel_rfl) (by kernel_rfl) (by kernel_rfl) (by kernel_rfl) (by kernel_rfl) ?hSr ?hchr
      case hSr => exact rfl
      case hchr =>
        refine chain_cons _ (by kernel_rfl) rfl rfl ?opsr0 ?wantr0 ?effr0
        case opsr0 =>
          simp only [OpsAt, fillT, List.setIfInBounds_toArray, List.set_cons_zero, List.set_cons_succ]
          refine ⟨.inl ⟨by rfl, opOk_pure fun wS hS => ?_⟩, ?_⟩
          · ((subst hS; go_simp)); try (with_reducible rfl)
          refine ⟨.inl ⟨by rfl, opOk_pure fun wS hS => ?_⟩, ?_⟩
          · ((subst hS; go_simp)); try (with_reducible rfl)
          refine ⟨.inl ⟨by rfl, opOk_pure fun wS hS => ?_⟩, ?_⟩
          · ((subst hS; go_simp)); try (with_reducible rfl)
          refine ⟨.inl ⟨by rfl, opOk_pure fun wS hS => ?_⟩, ?_⟩
          · ((subst hS; go_simp)); try (with_reducible rfl)
          refine ⟨.inl ⟨by rfl, opOk_pure fun wS hS => ?_⟩, ?_⟩
          · ((subst hS; go_simp)); try (with_reducible rfl)
          refine ⟨.inl ⟨by rfl, opOk_pure fun wS hS => ?_⟩, ?_⟩
          · ((subst hS; go_simp)); try (with_reducible rfl)
          refine ⟨.inl ⟨by rfl, opOk_pure fun wS hS => ?_⟩, ?_⟩
          · ((subst hS; go_simp)); try (with_reducible rfl)
          refine ⟨.inl ⟨by rfl, opOk_pure fun wS hS => ?_⟩, ?_⟩
          · ((subst hS; go_simp)); try (with_reducible rfl)
          refine ⟨.inl ⟨by rfl, opOk_pure fun wS hS => ?_⟩, ?_⟩
          · ((subst hS; go_simp)); try (with_reducible rfl)
          refine ⟨.inl ⟨by rfl, opOk_pure fun wS hS => ?_⟩, ?_⟩
          · ((subst hS; go_simp)); try (with_reducible rfl)
          refine ⟨.inl ⟨by rfl, opOk_pure fun wS hS => ?_⟩, ?_⟩
          · ((subst hS; go_simp)); try (with_reducible rfl)
          refine ⟨.inl ⟨by rfl, opOk_pure fun wS hS => ?_⟩, ?_⟩
          · ((subst hS; go_simp)); try (with_reducible rfl)
          refine ⟨.inl ⟨by rfl, opOk_pure fun wS hS => ?_⟩, ?_⟩
          · ((subst hS; go_simp)); try (with_reducible rfl)
          refine ⟨.inl ⟨by rfl, opOk_pure fun wS hS => ?_⟩, ?_⟩
          · ((subst hS; go_simp)); try (with_reducible rfl)
          try trivial
        case wantr0 => rfl
        case effr0 =>
          intro wS hS
          simp only [fillT, List.setIfInBounds_toArray, List.set_cons_zero, List.set_cons_succ]
          rw [hS]
          refine eff_skip (w' := (w1.drew).setCell ⟨g, i, none⟩ (.int .u64 (x - n))) ?run ?pp
          case run => go_simp
          case pp =>
            refine ⟨_, [true, true, true, true, true, true, true, true, true, true, true, true, true, true, true, true, true, false], [false, false, false, false, false, true, false, false, false, false, false, true, true, false, false, true, true, false], [13, 6, 0, 1, 2, 3, 4, 10, 9, 8, 7], [?vr1_0, ?vr1_1, ?vr1_2, ?vr1_3, ?vr1_4, ?vr1_5, ?vr1_6, ?vr1_7, ?vr1_8, ?vr1_9, ?vr1_10, ?vr1_11, ?vr1_12, ?vr1_13, undef, ?vr1_15, ?vr1_16, undef], fun w' => w' = (w1.drew).setCell ⟨g, i, none⟩ (.int .u64 (x - n)), rfl, rfl, ?samer0, by kernel_rfl, ?hSr0, ?nxr0⟩
            case samer0 =>
              refine And.intro ?_ ?_
              · with_reducible rfl
              refine And.intro ?_ ?_
              · with_reducible rfl
              refine And.intro ?_ ?_
              · with_reducible rfl
              refine And.intro ?_ ?_
              · with_reducible rfl
              refine And.intro ?_ ?_
              · with_reducible rfl
              refine And.intro ?_ ?_
              · with_reducible rfl
              refine And.intro ?_ ?_
              · with_reducible rfl
              refine And.intro ?_ ?_
              · with_reducible rfl
              refine And.intro ?_ ?_
              · with_reducible rfl
              refine And.intro ?_ ?_
              · with_reducible rfl
              refine And.intro ?_ ?_
              · with_reducible rfl
              refine And.intro ?_ ?_
              · with_reducible rfl
              refine And.intro ?_ ?_
              · with_reducible rfl
              refine And.intro ?_ ?_
              · with_reducible rfl
              trivial
            case hSr0 => rfl
            case nxr0 =>
              refine chain_cons _ (by kernel_rfl) rfl rfl ?opsr1 ?wantr1 ?effr1
              case opsr1 =>
                simp only [OpsAt, fillT, List.setIfInBounds_toArray, List.set_cons_zero, List.set_cons_succ]
                refine ⟨.inl ⟨by rfl, opOk_pure fun wS hS => ?_⟩, ?_⟩
                · ((subst hS; go_simp)); try (with_reducible rfl)
                refine ⟨.inl ⟨by rfl, opOk_pure fun wS hS => ?_⟩, ?_⟩
                · ((subst hS; go_simp)); try (with_reducible rfl)
                refine ⟨.inl ⟨by rfl, opOk_pure fun wS hS => ?_⟩, ?_⟩
                · ((subst hS; go_simp)); try (with_reducible rfl)
                refine ⟨.inl ⟨by rfl, opOk_pure fun wS hS => ?_⟩, ?_⟩
                · ((subst hS; go_simp)); try (with_reducible rfl)
                refine ⟨.inl ⟨by rfl, opOk_pure fun wS hS => ?_⟩, ?_⟩
                · ((subst hS; go_simp)); try (with_reducible rfl)
                try trivial
              case wantr1 => rfl
              case effr1 =>
                intro wS hS
                simp only [fillT, List.setIfInBounds_toArray, List.set_cons_zero, List.set_cons_succ]
                rw [hS]
                refine eff_skip (w' := ((w1.drew).setCell ⟨g, i, none⟩ (.int .u64 (x - n))).setCell ⟨m, 2, none⟩ (.int .u64 (t.kept + n))) ?run ?pp
                case run => go_simp
                case pp =>
                  refine ⟨_, [true, true, true, true, true, true, true, true, true, true, true, true, true, true, true, true, true, true], [false, false, false, false, false, false, false, false, false, false, false, false, false, false, false, false, false, false], [16, 12, 5, 11, 15], [?vr2_0, ?vr2_1, ?vr2_2, ?vr2_3, ?vr2_4, ?vr2_5, ?vr2_6, ?vr2_7, ?vr2_8, ?vr2_9, ?vr2_10, ?vr2_11, ?vr2_12, ?vr2_13, undef, ?vr2_15, ?vr2_16, undef], fun w' => w' = ((w1.drew).setCell ⟨g, i, none⟩ (.int .u64 (x - n))).setCell ⟨m, 2, none⟩ (.int .u64 (t.kept + n)), rfl, rfl, ?samer1, by kernel_rfl, ?hSr1, ?nxr1⟩
                  case samer1 =>
                    refine And.intro ?_ ?_
                    · with_reducible rfl
                    refine And.intro ?_ ?_
                    · with_reducible rfl
                    refine And.intro ?_ ?_
                    · with_reducible rfl
                    refine And.intro ?_ ?_
                    · with_reducible rfl
                    refine And.intro ?_ ?_
                    · with_reducible rfl
                    refine And.intro ?_ ?_
                    · with_reducible rfl
                    refine And.intro ?_ ?_
                    · with_reducible rfl
                    refine And.intro ?_ ?_
                    · with_reducible rfl
                    refine And.intro ?_ ?_
                    · with_reducible rfl
                    refine And.intro ?_ ?_
                    · with_reducible rfl
                    refine And.intro ?_ ?_
                    · with_reducible rfl
                    refine And.intro ?_ ?_
                    · with_reducible rfl
                    refine And.intro ?_ ?_
                    · with_reducible rfl
                    refine And.intro ?_ ?_
                    · with_reducible rfl
                    refine And.intro ?_ ?_
                    · with_reducible rfl
                    refine And.intro ?_ ?_
                    · with_reducible rfl
                    refine And.intro ?_ ?_
                    · with_reducible rfl
                    trivial
                  case hSr1 => rfl
                  case nxr1 =>
                    refine chain_nil (by kernel_rfl) rfl ?opsr2 ?endr2
                    case opsr2 =>
                      simp only [OpsAt, fillT, List.setIfInBounds_toArray, List.set_cons_zero, List.set_cons_succ]
                      try trivial
                    case endr2 =>
                      intro wE hE
                      simp only [fillT, List.setIfInBounds_toArray, List.set_cons_zero, List.set_cons_succ]
                      rw [hE]
                      go_wp2
                      go_ret
                      exact ⟨rfl, HFN.out.toMoves⟩
set_option maxRecDepth 100000 in
set_option maxHeartbeats 1000000 in
theorem give_any (w : World) (m : Nat) (t : Tl) (ok : t.Ok) (who n : Int) (hn : U64 n) (F : Nat → Prop) (h : (tillX 54 m t).sat F w) : Calls Try.prog 11 #[.pointer (some ⟨m, 0, none⟩), .int .i64 who, .int .u64 n] w fun e w' => e = .returned (.int .i64 (giveE t who n)) ∧ ∃ F', (tillX 54 m (giveS t who n)).sat F' w' ∧ Moves F F' w w' := by
  obtain ⟨Ah, ch, An, cn, hS⟩ := tillX_open (Sat.ofOne h)
  dsimp only [List.cons_append, List.nil_append] at hS
  have hk := hS.all
  simp only [allFacts, tillB, wRow, box_facts, row_facts, emp_facts, cellFacts, Nat.zero_add, Nat.reduceAdd, true_and, and_true] at hk
  have HI := Lib.hid (in_any w m t F h who)
  have H := Lib.hid h
  clear h
  rcases (show t.inB who ∨ ¬ t.inB who from Decidable.em _) with hi | hi
  rotate_left 1
  · rw [show inE t who = 1 from if_neg hi] at HI
    have HH := Lib.hid hi
    clear hi
    have e1 : giveE t who n = 1 := if_neg HH.out
    have s1 : giveS t who n = t := by unfold giveS; rw [show giveE t who n = 1 from if_neg HH.out]; rfl
    rw [s1, e1]
    clear e1 s1
    go_enter Try.func11, Try.ntmps11
    go_wp2_with fail
    refine HI.out.mono ?_
    rintro e w1 ⟨rfl, rfl⟩
    go_wp2
    go_ret
    exact ⟨rfl, _, H.out, Moves.refl _ _⟩
  · rw [show inE t who = 0 from if_pos hi] at HI
    have HB := Lib.hid hi
    obtain ⟨i, rfl, hil⟩ := Tl.inB_nat hi
    have hl := ok.few
    have hln := ok.len
    obtain ⟨g, hg, hc, hfz, hglt⟩ := row_at (hS.rowOf (i := 2) rfl) (j := i) (by omega)
    have hci := hc _ (words_at (by omega))
    subst hg
    have hil2 : i < t.has.length := by omega
    have hu := (ok.h).getD hil2
    obtain ⟨x, hx⟩ : ∃ x, t.has.getD i 0 = x := ⟨_, rfl⟩
    rw [hx] at hci hu
    have HX := Lib.hid hx
    clear hx hi hc
    have hk0 := ok.k0
    have htot := ok.tot
    have hle := getD_le_sum ok.h hil2
    rw [HX.out] at hle
    have hsn := sum_nonneg ok.h
    obtain ⟨n0, n1⟩ := hn
    have hgm := row_ne_box hS (i := 0) (j := 2) rfl rfl (by decide)
    rcases (show t.kept < n ∨ ¬ t.kept < n by omega) with hc | hc
    · have HN := Lib.hid hc
      have HSB := Lib.hid (sub_any t.kept n ⟨by omega, by omega⟩ ⟨n0, n1⟩)
      rw [show subP t.kept n = (0, 12) from if_neg (by omega)] at HSB
      have e1 : giveE t (i : Int) n = 12 := by unfold giveE; rw [if_pos HB.out, if_pos HN.out]
      have s1 : giveS t (i : Int) n = t := by unfold giveS giveE; rw [if_pos HB.out, if_pos HN.out]; rfl
      rw [s1, e1]
      clear e1 s1
      go_enter Try.func11, Try.ntmps11
      go_wp2_with fail
      refine HI.out.mono ?_
      rintro e w1 ⟨rfl, rfl⟩
      go_wp2_with fail
      refine (HSB.out _).mono ?_
      rintro e w1 ⟨rfl, rfl⟩
      go_wp2
      go_ret
      exact ⟨rfl, _, H.out, Moves.refl _ _⟩
    · have HN := Lib.hid hc
      have e1 : giveE t (i : Int) n = 0 := by unfold giveE; rw [if_pos HB.out, if_neg HN.out]
      have s1 : giveS t (i : Int) n = { t with has := t.has.set i (x + n), kept := t.kept - n } := by unfold giveS; rw [e1, if_pos rfl, Int.toNat_natCast, HX.out]
      rw [s1, e1]
      clear e1 s1
      have ew1 := wrap_u (n := x + n) (by omega) (by omega)
      have ew2 := wrap_u (n := t.kept - n) (by omega) (by omega)
      skip
      have HSB := Lib.hid (sub_any t.kept n ⟨by omega, by omega⟩ ⟨n0, n1⟩)
      rw [show subP t.kept n = (t.kept - n, 0) from if_pos (by omega)] at HSB
      have hfin := tillX_shut (t := { t with has := t.has.set i (x + n), kept := t.kept - n }) (l := [_]) (by have := ((hS.drew.setRow 2 rfl i (by rw [words_len]; exact hil2) (.int .u64 (x + n))).set 0 rfl 2 (.int .u64 (t.kept - n))); rw [words_set] at this; unfold wRow at *; unfold tillB at *; simpa using this)
      have HFN := Lib.hid hfin
      clear hfin
      have HSat := Lib.hid hS
      clear hS
      go_enter Try.func11, Try.ntmps11
      go_wp2_with fail
      refine HI.out.mono ?_
      rintro e w1 ⟨rfl, rfl⟩
      go_wp2_with fail
      refine (HSB.out _).mono ?_
      rintro e w1 ⟨rfl, rfl⟩
      go_wp2_with fail
      refine region_chain (E := [17, 20]) (kn := [true, true, true, true, true, true, true, true, true, true, true, true, true, true, true, true, true, false, false, false, false]) (mask := [true, true, true, true, true, true, true, true, true, true, true, true, true, true, true, true, true, false, false, false, false]) (vs := [?vr0_0, ?vr0_1, ?vr0_2, ?vr0_3, ?vr0_4, ?vr0_5, ?vr0_6, ?vr0_7, ?vr0_8, ?vr0_9, ?vr0_10, ?vr0_11, ?vr0_12, ?vr0_13, ?vr0_14, ?vr0_15, ?vr0_16, undef, undef, undef, undef]) (S := fun w' => w' = w1.drew) (by kernel_rfl) (by kernel_rfl) (by kernel_rfl) (by kernel_rfl) (by kernel_rfl) ?hSr ?hchr
      case hSr => exact rfl
      case hchr =>
        refine chain_cons _ (by kernel_rfl) rfl rfl ?opsr0 ?wantr0 ?effr0
        case opsr0 =>
          simp only [OpsAt, fillT, List.setIfInBounds_toArray, List.set_cons_zero, List.set_cons_succ]
          refine ⟨.inl ⟨by rfl, opOk_pure fun wS hS => ?_⟩, ?_⟩
          · ((subst hS; go_simp)); try (with_reducible rfl)
          refine ⟨.inl ⟨by rfl, opOk_pure fun wS hS => ?_⟩, ?_⟩
          · ((subst hS; go_simp)); try (with_reducible rfl)
          refine ⟨.inl ⟨by rfl, opOk_pure fun wS hS => ?_⟩, ?_⟩
          · ((subst hS; go_simp)); try (with_reducible rfl)
          refine ⟨.inl ⟨by rfl, opOk_pure fun wS hS => ?_⟩, ?_⟩
          · ((subst hS; go_simp)); try (with_reducible rfl)
          refine ⟨.inl ⟨by rfl, opOk_pure fun wS hS => ?_⟩, ?_⟩
          · ((subst hS; go_simp)); try (with_reducible rfl)
          refine ⟨.inl ⟨by rfl, opOk_pure fun wS hS => ?_⟩, ?_⟩
          · ((subst hS; go_simp)); try (with_reducible rfl)
          refine ⟨.inl ⟨by rfl, opOk_pure fun wS hS => ?_⟩, ?_⟩
          · ((subst hS; go_simp)); try (with_reducible rfl)
          refine ⟨.inl ⟨by rfl, opOk_pure fun wS hS => ?_⟩, ?_⟩
          · ((subst hS; go_simp)); try (with_reducible rfl)
          refine ⟨.inl ⟨by rfl, opOk_pure fun wS hS => ?_⟩, ?_⟩
          · ((subst hS; go_simp)); try (with_reducible rfl)
          refine ⟨.inl ⟨by rfl, opOk_pure fun wS hS => ?_⟩, ?_⟩
          · ((subst hS; go_simp)); try (with_reducible rfl)
          refine ⟨.inl ⟨by rfl, opOk_pure fun wS hS => ?_⟩, ?_⟩
          · ((subst hS; go_simp)); try (with_reducible rfl)
          refine ⟨.inl ⟨by rfl, opOk_pure fun wS hS => ?_⟩, ?_⟩
          · ((subst hS; go_simp)); try (with_reducible rfl)
          refine ⟨.inl ⟨by rfl, opOk_pure fun wS hS => ?_⟩, ?_⟩
          · ((subst hS; go_simp)); try (with_reducible rfl)
          refine ⟨.inl ⟨by rfl, opOk_pure fun wS hS => ?_⟩, ?_⟩
          · ((subst hS; go_simp)); try (with_reducible rfl)
          refine ⟨.inl ⟨by rfl, opOk_pure fun wS hS => ?_⟩, ?_⟩
          · ((subst hS; go_simp)); try (with_reducible rfl)
          refine ⟨.inl ⟨by rfl, opOk_pure fun wS hS => ?_⟩, ?_⟩
          · ((subst hS; go_simp)); try (with_reducible rfl)
          refine ⟨.inl ⟨by rfl, opOk_pure fun wS hS => ?_⟩, ?_⟩
          · ((subst hS; go_simp)); try (with_reducible rfl)
          try trivial
        case wantr0 => rfl
        case effr0 =>
          intro wS hS
          simp only [fillT, List.setIfInBounds_toArray, List.set_cons_zero, List.set_cons_succ]
          rw [hS]
          refine eff_skip (w' := (w1.drew).setCell ⟨g, i, none⟩ (.int .u64 (x + n))) ?run ?pp
          case run => go_simp
          case pp =>
            refine ⟨_, [true, true, true, true, true, true, true, true, true, true, true, true, true, true, true, true, true, true, true, true, false], [false, false, false, false, false, true, false, false, false, false, false, false, false, false, false, true, false, false, true, true, false], [16, 14, 0, 1, 2, 3, 4, 6, 7, 8, 9, 10, 11, 12, 13], [?vr1_0, ?vr1_1, ?vr1_2, ?vr1_3, ?vr1_4, ?vr1_5, ?vr1_6, ?vr1_7, ?vr1_8, ?vr1_9, ?vr1_10, ?vr1_11, ?vr1_12, ?vr1_13, ?vr1_14, ?vr1_15, ?vr1_16, undef, ?vr1_18, ?vr1_19, undef], fun w' => w' = (w1.drew).setCell ⟨g, i, none⟩ (.int .u64 (x + n)), rfl, rfl, ?samer0, by kernel_rfl, ?hSr0, ?nxr0⟩
            case samer0 =>
              refine And.intro ?_ ?_
              · with_reducible rfl
              refine And.intro ?_ ?_
              · with_reducible rfl
              refine And.intro ?_ ?_
              · with_reducible rfl
              refine And.intro ?_ ?_
              · with_reducible rfl
              refine And.intro ?_ ?_
              · with_reducible rfl
              refine And.intro ?_ ?_
              · with_reducible rfl
              refine And.intro ?_ ?_
              · with_reducible rfl
              refine And.intro ?_ ?_
              · with_reducible rfl
              refine And.intro ?_ ?_
              · with_reducible rfl
              refine And.intro ?_ ?_
              · with_reducible rfl
              refine And.intro ?_ ?_
              · with_reducible rfl
              refine And.intro ?_ ?_
              · with_reducible rfl
              refine And.intro ?_ ?_
              · with_reducible rfl
              refine And.intro ?_ ?_
              · with_reducible rfl
              refine And.intro ?_ ?_
              · with_reducible rfl
              refine And.intro ?_ ?_
              · with_reducible rfl
              refine And.intro ?_ ?_
              · with_reducible rfl
              trivial
            case hSr0 => rfl
            case nxr0 =>
              refine chain_cons _ (by kernel_rfl) rfl rfl ?opsr1 ?wantr1 ?effr1
              case opsr1 =>
                simp only [OpsAt, fillT, List.setIfInBounds_toArray, List.set_cons_zero, List.set_cons_succ]
                refine ⟨.inl ⟨by rfl, opOk_pure fun wS hS => ?_⟩, ?_⟩
                · ((subst hS; go_simp)); try (with_reducible rfl)
                refine ⟨.inl ⟨by rfl, opOk_pure fun wS hS => ?_⟩, ?_⟩
                · ((subst hS; go_simp)); try (with_reducible rfl)
                refine ⟨.inl ⟨by rfl, opOk_pure fun wS hS => ?_⟩, ?_⟩
                · ((subst hS; go_simp)); try (with_reducible rfl)
                refine ⟨.inl ⟨by rfl, opOk_pure fun wS hS => ?_⟩, ?_⟩
                · ((subst hS; go_simp)); try (with_reducible rfl)
                try trivial
              case wantr1 => rfl
              case effr1 =>
                intro wS hS
                simp only [fillT, List.setIfInBounds_toArray, List.set_cons_zero, List.set_cons_succ]
                rw [hS]
                refine eff_skip (w' := ((w1.drew).setCell ⟨g, i, none⟩ (.int .u64 (x + n))).setCell ⟨m, 2, none⟩ (.int .u64 (t.kept - n))) ?run ?pp
                case run => go_simp
                case pp =>
                  refine ⟨_, [true, true, true, true, true, true, true, true, true, true, true, true, true, true, true, true, true, true, true, true, true], [false, false, false, false, false, false, false, false, false, false, false, false, false, false, false, false, false, false, false, false, false], [19, 15, 5, 18], [?vr2_0, ?vr2_1, ?vr2_2, ?vr2_3, ?vr2_4, ?vr2_5, ?vr2_6, ?vr2_7, ?vr2_8, ?vr2_9, ?vr2_10, ?vr2_11, ?vr2_12, ?vr2_13, ?vr2_14, ?vr2_15, ?vr2_16, undef, ?vr2_18, ?vr2_19, undef], fun w' => w' = ((w1.drew).setCell ⟨g, i, none⟩ (.int .u64 (x + n))).setCell ⟨m, 2, none⟩ (.int .u64 (t.kept - n)), rfl, rfl, ?samer1, by kernel_rfl, ?hSr1, ?nxr1⟩
                  case samer1 =>
                    refine And.intro ?_ ?_
                    · with_reducible rfl
                    refine And.intro ?_ ?_
                    · with_reducible rfl
                    refine And.intro ?_ ?_
                    · with_reducible rfl
                    refine And.intro ?_ ?_
                    · with_reducible rfl
                    refine And.intro ?_ ?_
                    · with_reducible rfl
                    refine And.intro ?_ ?_
                    · with_reducible rfl
                    refine And.intro ?_ ?_
                    · with_reducible rfl
                    refine And.intro ?_ ?_
                    · with_reducible rfl
                    refine And.intro ?_ ?_
                    · with_reducible rfl
                    refine And.intro ?_ ?_
                    · with_reducible rfl
                    refine And.intro ?_ ?_
                    · with_reducible rfl
                    refine And.intro ?_ ?_
                    · with_reducible rfl
                    refine And.intro ?_ ?_
                    · with_reducible rfl
                    refine And.intro ?_ ?_
                    · with_reducible rfl
                    refine And.intro ?_ ?_
                    · with_reducible rfl
                    refine And.intro ?_ ?_
                    · with_reducible rfl
                    refine And.intro ?_ ?_
                    · with_reducible rfl
                    refine And.intro ?_ ?_
                    · with_reducible rfl
                    refine And.intro ?_ ?_
                    · with_reducible rfl
                    refine And.intro ?_ ?_
                    · with_reducible rfl
                    trivial
                  case hSr1 => rfl
                  case nxr1 =>
                    refine chain_nil (by kernel_rfl) rfl ?opsr2 ?endr2
                    case opsr2 =>
                      simp only [OpsAt, fillT, List.setIfInBounds_toArray, List.set_cons_zero, List.set_cons_succ]
                      try trivial
                    case endr2 =>
                      intro wE hE
                      simp only [fillT, List.setIfInBounds_toArray, List.set_cons_zero, List.set_cons_succ]
                      rw [hE]
                      go_wp2
                      go_ret
                      exact ⟨rfl, HFN.out.toMoves⟩
set_option maxRecDepth 100000 in
set_option maxHeartbeats 1000000 in
theorem rkeep_any (w : World) (m : Nat) (t : Tl) (ok : t.Ok) (who n : Int) (hn : U64 n) (F : Nat → Prop) (h : (tillX 59 m t).sat F w) : Calls Try.prog 21 #[.pointer (some ⟨m, 0, none⟩), .int .i64 who, .int .u64 n] w fun e w' => e = .returned (.int .i64 (keepE t who n)) ∧ ∃ F', (tillX 59 m (keepS t who n)).sat F' w' ∧ Moves F F' w w' := by
  obtain ⟨Ah, ch, An, cn, hS⟩ := tillX_open (Sat.ofOne h)
  dsimp only [List.cons_append, List.nil_append] at hS
  have hk := hS.all
  simp only [allFacts, tillB, wRow, box_facts, row_facts, emp_facts, cellFacts, Nat.zero_add, Nat.reduceAdd, true_and, and_true] at hk
  have HI := Lib.hid (rin_any w m t F h who)
  have H := Lib.hid h
  clear h
  rcases (show t.inB who ∨ ¬ t.inB who from Decidable.em _) with hi | hi
  rotate_left 1
  · rw [show decide (t.inB who) = false from by simp [hi]] at HI
    have HH := Lib.hid hi
    clear hi
    have e1 : keepE t who n = 1 := if_neg HH.out
    have s1 : keepS t who n = t := by unfold keepS; rw [show keepE t who n = 1 from if_neg HH.out]; rfl
    rw [s1, e1]
    clear e1 s1
    go_enter Try.func21, Try.ntmps21
    go_wp2_with fail
    refine HI.out.mono ?_
    rintro e w1 ⟨rfl, rfl⟩
    go_wp2
    go_ret
    exact ⟨rfl, _, H.out, Moves.refl _ _⟩
  · rw [show decide (t.inB who) = true from by simp [hi]] at HI
    have HB := Lib.hid hi
    obtain ⟨i, rfl, hil⟩ := Tl.inB_nat hi
    have hl := ok.few
    have hln := ok.len
    obtain ⟨g, hg, hc, hfz, hglt⟩ := row_at (hS.rowOf (i := 2) rfl) (j := i) (by omega)
    have hci := hc _ (words_at (by omega))
    subst hg
    have hil2 : i < t.has.length := by omega
    have hu := (ok.h).getD hil2
    obtain ⟨x, hx⟩ : ∃ x, t.has.getD i 0 = x := ⟨_, rfl⟩
    rw [hx] at hci hu
    have HX := Lib.hid hx
    clear hx hi hc
    have hk0 := ok.k0
    have htot := ok.tot
    have hle := getD_le_sum ok.h hil2
    rw [HX.out] at hle
    have hsn := sum_nonneg ok.h
    obtain ⟨n0, n1⟩ := hn
    have hgm := row_ne_box hS (i := 0) (j := 2) rfl rfl (by decide)
    rcases (show x < n ∨ ¬ x < n by omega) with hc | hc
    · have HN := Lib.hid hc
      have e1 : keepE t (i : Int) n = 12 := by unfold keepE; rw [if_pos HB.out, Int.toNat_natCast, HX.out, if_pos HN.out]
      have s1 : keepS t (i : Int) n = t := by unfold keepS keepE; rw [if_pos HB.out, Int.toNat_natCast, HX.out, if_pos HN.out]; rfl
      rw [s1, e1]
      clear e1 s1
      go_enter Try.func21, Try.ntmps21
      go_wp2_with fail
      refine HI.out.mono ?_
      rintro e w1 ⟨rfl, rfl⟩
      go_wp2
      go_ret
      exact ⟨rfl, _, H.out, Moves.refl _ _⟩
    · have HN := Lib.hid hc
      have e1 : keepE t (i : Int) n = 0 := by unfold keepE; rw [if_pos HB.out, Int.toNat_natCast, HX.out, if_neg HN.out]
      have s1 : keepS t (i : Int) n = { t with has := t.has.set i (x - n), kept := t.kept + n } := by unfold keepS; rw [e1, if_pos rfl, Int.toNat_natCast, HX.out]
      rw [s1, e1]
      clear e1 s1
      have ew1 := wrap_u (n := x - n) (by omega) (by omega)
      have ew2 := wrap_u (n := t.kept + n) (by omega) (by omega)
      skip
      have hfin := tillX_shut (t := { t with has := t.has.set i (x - n), kept := t.kept + n }) (l := [_]) (by have := ((hS.drew.setRow 2 rfl i (by rw [words_len]; exact hil2) (.int .u64 (x - n))).set 0 rfl 2 (.int .u64 (t.kept + n))); rw [words_set] at this; unfold wRow at *; unfold tillB at *; simpa using this)
      have HFN := Lib.hid hfin
      clear hfin
      have HSat := Lib.hid hS
      clear hS
      go_enter Try.func21, Try.ntmps21
      go_wp2_with fail
      refine HI.out.mono ?_
      rintro e w1 ⟨rfl, rfl⟩
      go_wp2_with fail
      refine region_chain (E := [15]) (kn := [true, true, true, true, true, true, true, true, true, true, true, true, true, true, true, false]) (mask := [true, true, true, true, true, true, true, true, true, true, true, true, true, true, true, false]) (vs := [?vr0_0, ?vr0_1, ?vr0_2, ?vr0_3, ?vr0_4, ?vr0_5, ?vr0_6, ?vr0_7, ?vr0_8, ?vr0_9, ?vr0_10, ?vr0_11, ?vr0_12, ?vr0_13, ?vr0_14, undef]) (S := fun w' => w' = w1.drew) (by kernel_rfl) (by kernel_rfl) (by kernel_rfl) (by kernel_rfl) (by kernel_rfl) ?hSr ?hchr
      case hSr => exact rfl
      case hchr =>
        refine chain_cons _ (by kernel_rfl) rfl rfl ?opsr0 ?wantr0 ?effr0
        case opsr0 =>
          simp only [OpsAt, fillT, List.setIfInBounds_toArray, List.set_cons_zero, List.set_cons_succ]
          refine ⟨.inl ⟨by rfl, opOk_pure fun wS hS => ?_⟩, ?_⟩
          · ((subst hS; go_simp)); try (with_reducible rfl)
          refine ⟨.inl ⟨by rfl, opOk_pure fun wS hS => ?_⟩, ?_⟩
          · ((subst hS; go_simp)); try (with_reducible rfl)
          refine ⟨.inl ⟨by rfl, opOk_pure fun wS hS => ?_⟩, ?_⟩
          · ((subst hS; go_simp)); try (with_reducible rfl)
          refine ⟨.inl ⟨by rfl, opOk_pure fun wS hS => ?_⟩, ?_⟩
          · ((subst hS; go_simp)); try (with_reducible rfl)
          refine ⟨.inl ⟨by rfl, opOk_pure fun wS hS => ?_⟩, ?_⟩
          · ((subst hS; go_simp)); try (with_reducible rfl)
          refine ⟨.inl ⟨by rfl, opOk_pure fun wS hS => ?_⟩, ?_⟩
          · ((subst hS; go_simp)); try (with_reducible rfl)
          refine ⟨.inl ⟨by rfl, opOk_pure fun wS hS => ?_⟩, ?_⟩
          · ((subst hS; go_simp)); try (with_reducible rfl)
          refine ⟨.inl ⟨by rfl, opOk_pure fun wS hS => ?_⟩, ?_⟩
          · ((subst hS; go_simp)); try (with_reducible rfl)
          refine ⟨.inl ⟨by rfl, opOk_pure fun wS hS => ?_⟩, ?_⟩
          · ((subst hS; go_simp)); try (with_reducible rfl)
          refine ⟨.inl ⟨by rfl, opOk_pure fun wS hS => ?_⟩, ?_⟩
          · ((subst hS; go_simp)); try (with_reducible rfl)
          refine ⟨.inl ⟨by rfl, opOk_pure fun wS hS => ?_⟩, ?_⟩
          · ((subst hS; go_simp)); try (with_reducible rfl)
          refine ⟨.inl ⟨by rfl, opOk_pure fun wS hS => ?_⟩, ?_⟩
          · ((subst hS; go_simp)); try (with_reducible rfl)
          refine ⟨.inl ⟨by rfl, opOk_pure fun wS hS => ?_⟩, ?_⟩
          · ((subst hS; go_simp)); try (with_reducible rfl)
          refine ⟨.inl ⟨by rfl, opOk_pure fun wS hS => ?_⟩, ?_⟩
          · ((subst hS; go_simp)); try (with_reducible rfl)
          refine ⟨.inl ⟨by rfl, opOk_pure fun wS hS => ?_⟩, ?_⟩
          · ((subst hS; go_simp)); try (with_reducible rfl)
          try trivial
        case wantr0 => rfl
        case effr0 =>
          intro wS hS
          simp only [fillT, List.setIfInBounds_toArray, List.set_cons_zero, List.set_cons_succ]
          rw [hS]
          refine eff_skip (w' := (w1.drew).setCell ⟨g, i, none⟩ (.int .u64 (x - n))) ?run ?pp
          case run => go_simp
          case pp =>
            refine ⟨_, [true, true, true, true, true, true, true, true, true, true, true, true, true, true, true, true], [false, false, false, false, false, false, false, false, false, false, false, false, false, false, false, false], [14, 13, 0, 1, 2, 3, 4, 5, 6, 7, 8, 9, 10, 11, 12], [?vr1_0, ?vr1_1, ?vr1_2, ?vr1_3, ?vr1_4, ?vr1_5, ?vr1_6, ?vr1_7, ?vr1_8, ?vr1_9, ?vr1_10, ?vr1_11, ?vr1_12, ?vr1_13, ?vr1_14, undef], fun w' => w' = (w1.drew).setCell ⟨g, i, none⟩ (.int .u64 (x - n)), rfl, rfl, ?samer0, by kernel_rfl, ?hSr0, ?nxr0⟩
            case samer0 =>
              refine And.intro ?_ ?_
              · with_reducible rfl
              refine And.intro ?_ ?_
              · with_reducible rfl
              refine And.intro ?_ ?_
              · with_reducible rfl
              refine And.intro ?_ ?_
              · with_reducible rfl
              refine And.intro ?_ ?_
              · with_reducible rfl
              refine And.intro ?_ ?_
              · with_reducible rfl
              refine And.intro ?_ ?_
              · with_reducible rfl
              refine And.intro ?_ ?_
              · with_reducible rfl
              refine And.intro ?_ ?_
              · with_reducible rfl
              refine And.intro ?_ ?_
              · with_reducible rfl
              refine And.intro ?_ ?_
              · with_reducible rfl
              refine And.intro ?_ ?_
              · with_reducible rfl
              refine And.intro ?_ ?_
              · with_reducible rfl
              refine And.intro ?_ ?_
              · with_reducible rfl
              refine And.intro ?_ ?_
              · with_reducible rfl
              trivial
            case hSr0 => rfl
            case nxr0 =>
              refine chain_nil (by kernel_rfl) rfl ?opsr1 ?endr1
              case opsr1 =>
                simp only [OpsAt, fillT, List.setIfInBounds_toArray, List.set_cons_zero, List.set_cons_succ]
                try trivial
              case endr1 =>
                intro wE hE
                simp only [fillT, List.setIfInBounds_toArray, List.set_cons_zero, List.set_cons_succ]
                rw [hE]
                go_wp2
                go_ret
                exact ⟨rfl, HFN.out.toMoves⟩
set_option maxRecDepth 100000 in
set_option maxHeartbeats 1000000 in
theorem rgive_any (w : World) (m : Nat) (t : Tl) (ok : t.Ok) (who n : Int) (hn : U64 n) (F : Nat → Prop) (h : (tillX 59 m t).sat F w) : Calls Try.prog 22 #[.pointer (some ⟨m, 0, none⟩), .int .i64 who, .int .u64 n] w fun e w' => e = .returned (.int .i64 (giveE t who n)) ∧ ∃ F', (tillX 59 m (giveS t who n)).sat F' w' ∧ Moves F F' w w' := by
  obtain ⟨Ah, ch, An, cn, hS⟩ := tillX_open (Sat.ofOne h)
  dsimp only [List.cons_append, List.nil_append] at hS
  have hk := hS.all
  simp only [allFacts, tillB, wRow, box_facts, row_facts, emp_facts, cellFacts, Nat.zero_add, Nat.reduceAdd, true_and, and_true] at hk
  have HI := Lib.hid (rin_any w m t F h who)
  have H := Lib.hid h
  clear h
  rcases (show t.inB who ∨ ¬ t.inB who from Decidable.em _) with hi | hi
  rotate_left 1
  · rw [show decide (t.inB who) = false from by simp [hi]] at HI
    have HH := Lib.hid hi
    clear hi
    have e1 : giveE t who n = 1 := if_neg HH.out
    have s1 : giveS t who n = t := by unfold giveS; rw [show giveE t who n = 1 from if_neg HH.out]; rfl
    rw [s1, e1]
    clear e1 s1
    go_enter Try.func22, Try.ntmps22
    go_wp2_with fail
    refine HI.out.mono ?_
    rintro e w1 ⟨rfl, rfl⟩
    go_wp2
    go_ret
    exact ⟨rfl, _, H.out, Moves.refl _ _⟩
  · rw [show decide (t.inB who) = true from by simp [hi]] at HI
    have HB := Lib.hid hi
    obtain ⟨i, rfl, hil⟩ := Tl.inB_nat hi
    have hl := ok.few
    have hln := ok.len
    obtain ⟨g, hg, hc, hfz, hglt⟩ := row_at (hS.rowOf (i := 2) rfl) (j := i) (by omega)
    have hci := hc _ (words_at (by omega))
    subst hg
    have hil2 : i < t.has.length := by omega
    have hu := (ok.h).getD hil2
    obtain ⟨x, hx⟩ : ∃ x, t.has.getD i 0 = x := ⟨_, rfl⟩
    rw [hx] at hci hu
    have HX := Lib.hid hx
    clear hx hi hc
    have hk0 := ok.k0
    have htot := ok.tot
    have hle := getD_le_sum ok.h hil2
    rw [HX.out] at hle
    have hsn := sum_nonneg ok.h
    obtain ⟨n0, n1⟩ := hn
    have hgm := row_ne_box hS (i := 0) (j := 2) rfl rfl (by decide)
    rcases (show t.kept < n ∨ ¬ t.kept < n by omega) with hc | hc
    · have HN := Lib.hid hc
      have e1 : giveE t (i : Int) n = 12 := by unfold giveE; rw [if_pos HB.out, if_pos HN.out]
      have s1 : giveS t (i : Int) n = t := by unfold giveS giveE; rw [if_pos HB.out, if_pos HN.out]; rfl
      rw [s1, e1]
      clear e1 s1
      go_enter Try.func22, Try.ntmps22
      go_wp2_with fail
      refine HI.out.mono ?_
      rintro e w1 ⟨rfl, rfl⟩
      go_wp2
      go_ret
      exact ⟨rfl, _, H.out, Moves.refl _ _⟩
    · have HN := Lib.hid hc
      have e1 : giveE t (i : Int) n = 0 := by unfold giveE; rw [if_pos HB.out, if_neg HN.out]
      have s1 : giveS t (i : Int) n = { t with has := t.has.set i (x + n), kept := t.kept - n } := by unfold giveS; rw [e1, if_pos rfl, Int.toNat_natCast, HX.out]
      rw [s1, e1]
      clear e1 s1
      have ew1 := wrap_u (n := x + n) (by omega) (by omega)
      have ew2 := wrap_u (n := t.kept - n) (by omega) (by omega)
      skip
      have hfin := tillX_shut (t := { t with has := t.has.set i (x + n), kept := t.kept - n }) (l := [_]) (by have := ((hS.set 0 rfl 2 (.int .u64 (t.kept - n))).drew.setRow 2 rfl i (by rw [words_len]; exact hil2) (.int .u64 (x + n))); rw [words_set] at this; unfold wRow at *; unfold tillB at *; simpa using this)
      have HFN := Lib.hid hfin
      clear hfin
      have HSat := Lib.hid hS
      clear hS
      go_enter Try.func22, Try.ntmps22
      go_wp2_with fail
      refine HI.out.mono ?_
      rintro e w1 ⟨rfl, rfl⟩
      go_wp2_with fail
      refine region_chain (E := [15]) (kn := [true, true, true, true, true, true, true, true, true, true, true, true, true, true, true, false]) (mask := [true, true, true, true, true, true, true, true, true, true, true, true, true, true, true, false]) (vs := [?vr0_0, ?vr0_1, ?vr0_2, ?vr0_3, ?vr0_4, ?vr0_5, ?vr0_6, ?vr0_7, ?vr0_8, ?vr0_9, ?vr0_10, ?vr0_11, ?vr0_12, ?vr0_13, ?vr0_14, undef]) (S := fun w' => w' = (w1.setCell ⟨m, 2, none⟩ (.int .u64 (t.kept - n))).drew) (by kernel_rfl) (by kernel_rfl) (by kernel_rfl) (by kernel_rfl) (by kernel_rfl) ?hSr ?hchr
      case hSr => exact rfl
      case hchr =>
        refine chain_cons _ (by kernel_rfl) rfl rfl ?opsr0 ?wantr0 ?effr0
        case opsr0 =>
          simp only [OpsAt, fillT, List.setIfInBounds_toArray, List.set_cons_zero, List.set_cons_succ]
          refine ⟨.inl ⟨by rfl, opOk_pure fun wS hS => ?_⟩, ?_⟩
          · ((subst hS; go_simp)); try (with_reducible rfl)
          refine ⟨.inl ⟨by rfl, opOk_pure fun wS hS => ?_⟩, ?_⟩
          · ((subst hS; go_simp)); try (with_reducible rfl)
          refine ⟨.inl ⟨by rfl, opOk_pure fun wS hS => ?_⟩, ?_⟩
          · ((subst hS; go_simp)); try (with_reducible rfl)
          refine ⟨.inl ⟨by rfl, opOk_pure fun wS hS => ?_⟩, ?_⟩
          · ((subst hS; go_simp)); try (with_reducible rfl)
          refine ⟨.inl ⟨by rfl, opOk_pure fun wS hS => ?_⟩, ?_⟩
          · ((subst hS; go_simp)); try (with_reducible rfl)
          refine ⟨.inl ⟨by rfl, opOk_pure fun wS hS => ?_⟩, ?_⟩
          · ((subst hS; go_simp)); try (with_reducible rfl)
          refine ⟨.inl ⟨by rfl, opOk_pure fun wS hS => ?_⟩, ?_⟩
          · ((subst hS; go_simp)); try (with_reducible rfl)
          refine ⟨.inl ⟨by rfl, opOk_pure fun wS hS => ?_⟩, ?_⟩
          · ((subst hS; go_simp)); try (with_reducible rfl)
          refine ⟨.inl ⟨by rfl, opOk_pure fun wS hS => ?_⟩, ?_⟩
          · ((subst hS; go_simp)); try (with_reducible rfl)
          refine ⟨.inl ⟨by rfl, opOk_pure fun wS hS => ?_⟩, ?_⟩
          · ((subst hS; go_simp)); try (with_reducible rfl)
          refine ⟨.inl ⟨by rfl, opOk_pure fun wS hS => ?_⟩, ?_⟩
          · ((subst hS; go_simp)); try (with_reducible rfl)
          refine ⟨.inl ⟨by rfl, opOk_pure fun wS hS => ?_⟩, ?_⟩
          · ((subst hS; go_simp)); try (with_reducible rfl)
          refine ⟨.inl ⟨by rfl, opOk_pure fun wS hS => ?_⟩, ?_⟩
          · ((subst hS; go_simp)); try (with_reducible rfl)
          refine ⟨.inl ⟨by rfl, opOk_pure fun wS hS => ?_⟩, ?_⟩
          · ((subst hS; go_simp)); try (with_reducible rfl)
          refine ⟨.inl ⟨by rfl, opOk_pure fun wS hS => ?_⟩, ?_⟩
          · ((subst hS; go_simp)); try (with_reducible rfl)
          try trivial
        case wantr0 => rfl
        case effr0 =>
          intro wS hS
          simp only [fillT, List.setIfInBounds_toArray, List.set_cons_zero, List.set_cons_succ]
          rw [hS]
          refine eff_skip (w' := ((w1.setCell ⟨m, 2, none⟩ (.int .u64 (t.kept - n))).drew).setCell ⟨g, i, none⟩ (.int .u64 (x + n))) ?run ?pp
          case run => go_simp
          case pp =>
            refine ⟨_, [true, true, true, true, true, true, true, true, true, true, true, true, true, true, true, true], [false, false, false, false, false, false, false, false, false, false, false, false, false, false, false, false], [14, 13, 0, 1, 2, 3, 4, 5, 6, 7, 8, 9, 10, 11, 12], [?vr1_0, ?vr1_1, ?vr1_2, ?vr1_3, ?vr1_4, ?vr1_5, ?vr1_6, ?vr1_7, ?vr1_8, ?vr1_9, ?vr1_10, ?vr1_11, ?vr1_12, ?vr1_13, ?vr1_14, undef], fun w' => w' = ((w1.setCell ⟨m, 2, none⟩ (.int .u64 (t.kept - n))).drew).setCell ⟨g, i, none⟩ (.int .u64 (x + n)), rfl, rfl, ?samer0, by kernel_rfl, ?hSr0, ?nxr0⟩
            case samer0 =>
              refine And.intro ?_ ?_
              · with_reducible rfl
              refine And.intro ?_ ?_
              · with_reducible rfl
              refine And.intro ?_ ?_
              · with_reducible rfl
              refine And.intro ?_ ?_
              · with_reducible rfl
              refine And.intro ?_ ?_
              · with_reducible rfl
              refine And.intro ?_ ?_
              · with_reducible rfl
              refine And.intro ?_ ?_
              · with_reducible rfl
              refine And.intro ?_ ?_
              · with_reducible rfl
              refine And.intro ?_ ?_
              · with_reducible rfl
              refine And.intro ?_ ?_
              · with_reducible rfl
              refine And.intro ?_ ?_
              · with_reducible rfl
              refine And.intro ?_ ?_
              · with_reducible rfl
              refine And.intro ?_ ?_
              · with_reducible rfl
              refine And.intro ?_ ?_
              · with_reducible rfl
              refine And.intro ?_ ?_
              · with_reducible rfl
              trivial
            case hSr0 => rfl
            case nxr0 =>
              refine chain_nil (by kernel_rfl) rfl ?opsr1 ?endr1
              case opsr1 =>
                simp only [OpsAt, fillT, List.setIfInBounds_toArray, List.set_cons_zero, List.set_cons_succ]
                try trivial
              case endr1 =>
                intro wE hE
                simp only [fillT, List.setIfInBounds_toArray, List.set_cons_zero, List.set_cons_succ]
                rw [hE]
                go_wp2
                go_ret
                exact ⟨rfl, HFN.out.toMoves⟩
end Go.Proofs.Ytmcfmabnggffjaa
