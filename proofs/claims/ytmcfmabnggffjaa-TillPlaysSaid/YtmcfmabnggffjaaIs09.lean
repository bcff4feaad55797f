/- Walk over: is a till the document's? -/
import Derived.Test.YtmcfmabnggffjaaLawBack09
namespace Go.Proofs.Ytmcfmabnggffjaa
set_option linter.unusedVariables false
set_option linter.unusedSimpArgs false
set_option linter.unnecessarySimpa false
open Go.RowKit

set_option maxRecDepth 100000 in
set_option maxHeartbeats 2000000 in
theorem is_sat {w0 w : World} {l : List Asn} (h : Sat w0 w l) {i j m g : Nat} {t : Tl} (hi : l[i]? = some (tillX 54 m t)) (hj : l[j]? = some (tillX 59 g t)) (ok : t.Ok) :
    Calls Try.prog 24 #[.pointer (some ⟨m, 0, none⟩), .pointer (some ⟨g, 0, none⟩)] w fun e w' => e = .returned (.bool true) ∧ Sat w0 w' l := by
  have O := Lib.hid ok
  have HI := Lib.hid hi
  have HJ := Lib.hid hj
  have hf := ok.few
  have hln := ok.len
  obtain ⟨F1, f1⟩ := h.drew.get hi
  obtain ⟨F2, f2⟩ := h.drew.get hj
  obtain ⟨Ah, ch, An, cn, c0, c1, c2, hm, hr, hn⟩ := tillX_cells f2
  have HF1 := Lib.hid f1
  have HF2 := Lib.hid f2
  have H := Lib.hid h.drew
  clear hi hj f1 f2 h hr hn
  go_enter Try.func24, Try.ntmps24
  go_wp2_with fail
  refine region_chain (E := [1, 10, 19, 21]) (kn := [true, false, true, true, true, true, true, false, false, false, false, false, false, false, false, false, false, false, false, false, false, false, false, false]) (mask := [true, false, true, true, true, true, true, false, false, false, false, false, false, false, false, false, false, false, false, false, false, false, false, false]) (vs := [?vr0_0, undef, ?vr0_2, ?vr0_3, ?vr0_4, ?vr0_5, ?vr0_6, undef, undef, undef, undef, undef, undef, undef, undef, undef, undef, undef, undef, undef, undef, undef, undef, undef]) (S := fun w' => w' = w.drew) (by kernel_rfl) (by kernel_rfl) (by kernel_rfl) (by kernel_rfl) (by kernel_rfl) ?hSr ?hchr
  case hSr => exact rfl
  case hchr =>
    refine chain_cons _ (by kernel_rfl) rfl rfl ?opsr0 ?wantr0 ?effr0
    case opsr0 =>
      simp only [OpsAt, fillT, List.setIfInBounds_toArray, List.set_cons_zero, List.set_cons_succ]
      refine ⟨.inl ⟨by rfl, opOk_pure fun wS hS => ?_⟩, ?_⟩
      · ((subst hS; go_simp)); try (with_reducible rfl)
      refine ⟨.inl ⟨by rfl, opOk_pure fun wS hS => ?_⟩, ?_⟩
      · ((subst hS; go_simp)); try (with_reducible rfl)
      refine ⟨.inl ⟨by rfl, opOk_pure fun wS hS => ?_⟩, ?_⟩
      · ((subst hS; go_simp)); try (with_reducible rfl)
      refine ⟨.inl ⟨by rfl, opOk_pure fun wS hS => ?_⟩, ?_⟩
      · ((subst hS; go_simp)); try (with_reducible rfl)
      refine ⟨.inl ⟨by rfl, opOk_pure fun wS hS => ?_⟩, ?_⟩
      · ((subst hS; go_simp)); try (with_reducible rfl)
      refine ⟨.inl ⟨by rfl, opOk_pure fun wS hS => ?_⟩, ?_⟩
      · ((subst hS; go_simp)); try (with_reducible rfl)
      try trivial
    case wantr0 => (try simp only [fillT, List.setIfInBounds_toArray, List.set_cons_zero, List.set_cons_succ]) <;> rfl
    case effr0 =>
      intro wS hS
      simp only [fillT, List.setIfInBounds_toArray, List.set_cons_zero, List.set_cons_succ]
      rw [hS]
      refine eff_call (f := 25) (args := #[.pointer (some ⟨m, 0, none⟩)]) (by go_simp) ?_
      refine (many_any w.drew m t F1 HF1.out).mono ?_
      rintro e w' ⟨rfl, hw⟩
      rw [hw]
      refine ⟨_, rfl, ?_⟩
      clear hw
      refine ⟨_, [true, true, true, true, true, true, true, true, true, true, false, true, true, true, true, false, false, false, false, false, false, false, false, false], [false, false, true, true, true, true, true, true, true, true, false, true, true, true, true, false, false, false, false, false, false, false, false, false], [0], [?vr1_0, (.int .i64 t.has.length), ?vr1_2, ?vr1_3, ?vr1_4, ?vr1_5, ?vr1_6, ?vr1_7, ?vr1_8, ?vr1_9, undef, ?vr1_11, ?vr1_12, ?vr1_13, ?vr1_14, undef, undef, undef, undef, undef, undef, undef, undef, undef], fun w' => w' = w.drew, rfl, rfl, ?samer0, by kernel_rfl, ?hSr0, ?nxr0⟩
      case samer0 =>
        refine And.intro ?_ ?_
        · with_reducible rfl
        refine And.intro ?_ ?_
        · with_reducible rfl
        refine And.intro ?_ ?_
        · with_reducible rfl
        refine And.intro ?_ ?_
        · with_reducible rfl
        refine And.intro ?_ ?_
        · with_reducible rfl
        refine And.intro ?_ ?_
        · with_reducible rfl
        trivial
      case hSr0 => rfl
      case nxr0 =>
        refine chain_cons _ (by kernel_rfl) rfl rfl ?opsr1 ?wantr1 ?effr1
        case opsr1 =>
          simp only [OpsAt, fillT, List.setIfInBounds_toArray, List.set_cons_zero, List.set_cons_succ]
          refine ⟨.inl ⟨by rfl, opOk_pure fun wS hS => ?_⟩, ?_⟩
          · ((subst hS; go_simp)); try (with_reducible rfl)
          refine ⟨.inl ⟨by rfl, opOk_pure fun wS hS => ?_⟩, ?_⟩
          · ((subst hS; go_simp)); try (with_reducible rfl)
          refine ⟨.inl ⟨by rfl, opOk_pure fun wS hS => ?_⟩, ?_⟩
          · ((subst hS; go_simp)); try (with_reducible rfl)
          refine ⟨.inl ⟨by rfl, opOk_pure fun wS hS => ?_⟩, ?_⟩
          · ((subst hS; go_simp)); try (with_reducible rfl)
          refine ⟨.inl ⟨by rfl, opOk_pure fun wS hS => ?_⟩, ?_⟩
          · ((subst hS; go_simp)); try (with_reducible rfl)
          refine ⟨.inl ⟨by rfl, opOk_pure fun wS hS => ?_⟩, ?_⟩
          · ((subst hS; go_simp)); try (with_reducible rfl)
          refine ⟨.inl ⟨by rfl, opOk_pure fun wS hS => ?_⟩, ?_⟩
          · ((subst hS; go_simp)); try (with_reducible rfl)
          refine ⟨.inl ⟨by rfl, opOk_pure fun wS hS => ?_⟩, ?_⟩
          · ((subst hS; go_simp)); try (with_reducible rfl)
          refine ⟨.inl ⟨by rfl, opOk_pure fun wS hS => ?_⟩, ?_⟩
          · ((subst hS; go_simp)); try (with_reducible rfl)
          refine ⟨.inl ⟨by rfl, opOk_pure fun wS hS => ?_⟩, ?_⟩
          · ((subst hS; go_simp)); try (with_reducible rfl)
          refine ⟨.inl ⟨by rfl, opOk_pure fun wS hS => ?_⟩, ?_⟩
          · ((subst hS; go_simp)); try (with_reducible rfl)
          refine ⟨.inl ⟨by rfl, opOk_pure fun wS hS => ?_⟩, ?_⟩
          · ((subst hS; go_simp)); try (with_reducible rfl)
          try trivial
        case wantr1 => (try simp only [fillT, List.setIfInBounds_toArray, List.set_cons_zero, List.set_cons_succ]) <;> rfl
        case effr1 =>
          intro wS hS
          simp only [fillT, List.setIfInBounds_toArray, List.set_cons_zero, List.set_cons_succ]
          rw [hS]
          refine eff_call (f := 14) (args := #[.pointer (some ⟨m, 0, none⟩)]) (by go_simp) ?_
          refine (kept_any w.drew m t F1 HF1.out).mono ?_
          rintro e w' ⟨rfl, hw⟩
          rw [hw]
          refine ⟨_, rfl, ?_⟩
          clear hw
          refine ⟨_, [true, true, true, true, true, true, true, true, true, true, true, true, true, true, true, true, true, true, true, false, true, false, false, false], [false, false, false, false, false, false, false, false, false, false, false, true, true, true, true, true, true, true, true, false, true, false, false, false], [9, 8, 7, 6, 5, 4, 3, 2], [?vr2_0, (.int .i64 t.has.length), ?vr2_2, ?vr2_3, ?vr2_4, ?vr2_5, ?vr2_6, ?vr2_7, ?vr2_8, ?vr2_9, (.int .u64 t.kept), ?vr2_11, ?vr2_12, ?vr2_13, ?vr2_14, ?vr2_15, ?vr2_16, ?vr2_17, ?vr2_18, undef, ?vr2_20, undef, undef, undef], fun w' => w' = w.drew, rfl, rfl, ?samer1, by kernel_rfl, ?hSr1, ?nxr1⟩
          case samer1 =>
            refine And.intro ?_ ?_
            · with_reducible rfl
            refine And.intro ?_ ?_
            · with_reducible rfl
            refine And.intro ?_ ?_
            · with_reducible rfl
            refine And.intro ?_ ?_
            · with_reducible rfl
            refine And.intro ?_ ?_
            · with_reducible rfl
            refine And.intro ?_ ?_
            · with_reducible rfl
            refine And.intro ?_ ?_
            · with_reducible rfl
            refine And.intro ?_ ?_
            · with_reducible rfl
            refine And.intro ?_ ?_
            · with_reducible rfl
            refine And.intro ?_ ?_
            · with_reducible rfl
            refine And.intro ?_ ?_
            · with_reducible rfl
            refine And.intro ?_ ?_
            · with_reducible rfl
            refine And.intro ?_ ?_
            · with_reducible rfl
            refine And.intro ?_ ?_
            · with_reducible rfl
            trivial
          case hSr1 => rfl
          case nxr1 =>
            refine chain_cons _ (by kernel_rfl) rfl rfl ?opsr2 ?wantr2 ?effr2
            case opsr2 =>
              simp only [OpsAt, fillT, List.setIfInBounds_toArray, List.set_cons_zero, List.set_cons_succ]
              refine ⟨.inl ⟨by rfl, opOk_pure fun wS hS => ?_⟩, ?_⟩
              · ((subst hS; go_simp)); try (with_reducible rfl)
              refine ⟨.inl ⟨by rfl, opOk_pure fun wS hS => ?_⟩, ?_⟩
              · ((subst hS; go_simp)); try (with_reducible rfl)
              refine ⟨.inl ⟨by rfl, opOk_pure fun wS hS => ?_⟩, ?_⟩
              · ((subst hS; go_simp)); try (with_reducible rfl)
              refine ⟨.inl ⟨by rfl, opOk_pure fun wS hS => ?_⟩, ?_⟩
              · ((subst hS; go_simp)); try (with_reducible rfl)
              refine ⟨.inl ⟨by rfl, opOk_pure fun wS hS => ?_⟩, ?_⟩
              · ((subst hS; go_simp)); try (with_reducible rfl)
              refine ⟨.inl ⟨by rfl, opOk_pure fun wS hS => ?_⟩, ?_⟩
              · ((subst hS; go_simp)); try (with_reducible rfl)
              refine ⟨.inl ⟨by rfl, opOk_pure fun wS hS => ?_⟩, ?_⟩
              · ((subst hS; go_simp)); try (with_reducible rfl)
              refine ⟨.inl ⟨by rfl, opOk_pure fun wS hS => ?_⟩, ?_⟩
              · ((subst hS; go_simp)); try (with_reducible rfl)
              refine ⟨.inl ⟨by rfl, opOk_pure fun wS hS => ?_⟩, ?_⟩
              · ((subst hS; go_simp)); try (with_reducible rfl)
              try trivial
            case wantr2 => (try simp only [fillT, List.setIfInBounds_toArray, List.set_cons_zero, List.set_cons_succ]) <;> rfl
            case effr2 =>
              intro wS hS
              simp only [fillT, List.setIfInBounds_toArray, List.set_cons_zero, List.set_cons_succ]
              rw [hS]
              refine eff_call (f := 19) (args := #[.pointer (some ⟨m, 0, none⟩)]) (by go_simp) ?_
              refine (all_any w.drew m t F1 HF1.out O.out).mono ?_
              rintro e w2 ⟨rfl, hb⟩
              have h2 := H.out.grow hb
              obtain ⟨F3, f3⟩ := h2.get HJ.out
              obtain ⟨Bh, dh, Bn, dn, d0, d1, d2, hm2, hr2, hn2⟩ := tillX_cells f3
              have HF3 := Lib.hid f3
              have H2 := Lib.hid h2
              clear f3 h2 hb hr2 hn2
              refine ⟨_, rfl, ?_⟩
              refine ⟨_, [true, true, true, true, true, true, true, true, true, true, true, true, true, true, true, true, true, true, true, true, true, false, false, false], [false, false, false, false, false, false, false, false, false, false, false, false, false, false, false, false, false, false, false, false, true, false, false, false], [18, 17, 16, 15, 14, 13, 12, 11], [?vr3_0, (.int .i64 t.has.length), ?vr3_2, ?vr3_3, ?vr3_4, ?vr3_5, ?vr3_6, ?vr3_7, ?vr3_8, ?vr3_9, (.int .u64 t.kept), ?vr3_11, ?vr3_12, ?vr3_13, ?vr3_14, ?vr3_15, ?vr3_16, ?vr3_17, ?vr3_18, (.int .u64 (t.has.sum + t.kept)), ?vr3_20, undef, undef, undef], fun w' => w' = w2, rfl, rfl, ?samer2, by kernel_rfl, ?hSr2, ?nxr2⟩
              case samer2 =>
                refine And.intro ?_ ?_
                · with_reducible rfl
                refine And.intro ?_ ?_
                · with_reducible rfl
                refine And.intro ?_ ?_
                · with_reducible rfl
                refine And.intro ?_ ?_
                · with_reducible rfl
                refine And.intro ?_ ?_
                · with_reducible rfl
                refine And.intro ?_ ?_
                · with_reducible rfl
                refine And.intro ?_ ?_
                · with_reducible rfl
                refine And.intro ?_ ?_
                · with_reducible rfl
                refine And.intro ?_ ?_
                · with_reducible rfl
                refine And.intro ?_ ?_
                · with_reducible rfl
                refine And.intro ?_ ?_
                · with_reducible rfl
                refine And.intro ?_ ?_
                · with_reducible rfl
                refine And.intro ?_ ?_
                · with_reducible rfl
                refine And.intro ?_ ?_
                · with_reducible rfl
                refine And.intro ?_ ?_
                · with_reducible rfl
                refine And.intro ?_ ?_
                · with_reducible rfl
                refine And.intro ?_ ?_
                · with_reducible rfl
                refine And.intro ?_ ?_
                · with_reducible rfl
                refine And.intro ?_ ?_
                · with_reducible rfl
                refine And.intro ?_ ?_
                · with_reducible rfl
                trivial
              case hSr2 => rfl
              case nxr2 =>
                refine chain_cons _ (by kernel_rfl) rfl rfl ?opsr3 ?wantr3 ?effr3
                case opsr3 =>
                  simp only [OpsAt, fillT, List.setIfInBounds_toArray, List.set_cons_zero, List.set_cons_succ]
                  refine ⟨.inl ⟨by rfl, opOk_pure fun wS hS => ?_⟩, ?_⟩
                  · ((subst hS; go_simp)); try (with_reducible rfl)
                  try trivial
                case wantr3 => (try simp only [fillT, List.setIfInBounds_toArray, List.set_cons_zero, List.set_cons_succ]) <;> rfl
                case effr3 =>
                  intro wS hS
                  simp only [fillT, List.setIfInBounds_toArray, List.set_cons_zero, List.set_cons_succ]
                  rw [hS]
                  refine eff_call (f := 32) (args := #[.pointer (some ⟨g, 0, none⟩)]) (by go_simp) ?_
                  refine (rall_any w2 g t F3 HF3.out O.out).mono ?_
                  rintro e w' ⟨rfl, hw⟩
                  rw [hw]
                  refine ⟨_, rfl, ?_⟩
                  clear hw
                  refine ⟨_, [true, true, true, true, true, true, true, true, true, true, true, true, true, true, true, true, true, true, true, true, true, true, true, true], [false, false, false, false, false, false, false, false, false, false, false, false, false, false, false, false, false, false, false, false, false, false, true, true], [20], [?vr4_0, (.int .i64 t.has.length), ?vr4_2, ?vr4_3, ?vr4_4, ?vr4_5, ?vr4_6, ?vr4_7, ?vr4_8, ?vr4_9, (.int .u64 t.kept), ?vr4_11, ?vr4_12, ?vr4_13, ?vr4_14, ?vr4_15, ?vr4_16, ?vr4_17, ?vr4_18, (.int .u64 (t.has.sum + t.kept)), ?vr4_20, (.int .u64 (t.has.sum + t.kept)), ?vr4_22, ?vr4_23], fun w' => w' = w2, rfl, rfl, ?samer3, by kernel_rfl, ?hSr3, ?nxr3⟩
                  case samer3 =>
                    refine And.intro ?_ ?_
                    · with_reducible rfl
                    refine And.intro ?_ ?_
                    · with_reducible rfl
                    refine And.intro ?_ ?_
                    · with_reducible rfl
                    refine And.intro ?_ ?_
                    · with_reducible rfl
                    refine And.intro ?_ ?_
                    · with_reducible rfl
                    refine And.intro ?_ ?_
                    · with_reducible rfl
                    refine And.intro ?_ ?_
                    · with_reducible rfl
                    refine And.intro ?_ ?_
                    · with_reducible rfl
                    refine And.intro ?_ ?_
                    · with_reducible rfl
                    refine And.intro ?_ ?_
                    · with_reducible rfl
                    refine And.intro ?_ ?_
                    · with_reducible rfl
                    refine And.intro ?_ ?_
                    · with_reducible rfl
                    refine And.intro ?_ ?_
                    · with_reducible rfl
                    refine And.intro ?_ ?_
                    · with_reducible rfl
                    refine And.intro ?_ ?_
                    · with_reducible rfl
                    refine And.intro ?_ ?_
                    · with_reducible rfl
                    refine And.intro ?_ ?_
                    · with_reducible rfl
                    refine And.intro ?_ ?_
                    · with_reducible rfl
                    refine And.intro ?_ ?_
                    · with_reducible rfl
                    refine And.intro ?_ ?_
                    · with_reducible rfl
                    refine And.intro ?_ ?_
                    · with_reducible rfl
                    trivial
                  case hSr3 => rfl
                  case nxr3 =>
                    refine chain_nil (by kernel_rfl) rfl ?opsr4 ?endr4
                    case opsr4 =>
                      simp only [OpsAt, fillT, List.setIfInBounds_toArray, List.set_cons_zero, List.set_cons_succ]
                      refine ⟨.inl ⟨by rfl, opOk_pure fun wS hS => ?_⟩, ?_⟩
                      · ((subst hS; go_simp)); try (with_reducible rfl)
                      refine ⟨.inl ⟨by rfl, opOk_pure fun wS hS => ?_⟩, ?_⟩
                      · ((subst hS; go_simp)); try (with_reducible rfl)
                      try trivial
                    case endr4 =>
                      intro wE hE
                      simp only [fillT, List.setIfInBounds_toArray, List.set_cons_zero, List.set_cons_succ]
                      rw [hE]
                      go_wp2
                      go_loopw [35] (fun i wr => ∃ k : Nat, k ≤ t.has.length ∧ i = .int .i64 k ∧ Sat w0 wr l) (fun i _ => t.has.length - (intOf i).toNat)
                      case atStart => exact ⟨0, Nat.zero_le _, rfl, H2.out⟩
                      case round =>
                        obtain ⟨k, hk, rfl, hS⟩ := hrel
                        clear H2 HF3 d0 d1 d2 c0 c1 c2 hm2 hm H HF1 HF2
                        by_cases hlt : k < t.has.length
                        · have hSd := hS.drew
                          obtain ⟨F4, f4⟩ := hSd.get HI.out
                          obtain ⟨F5, f5⟩ := hSd.get HJ.out
                          obtain ⟨Bh, dh, Bn, dn, d0, d1, d2, hm2, hr2, hn2⟩ := tillX_cells f5
                          have hh := has_any _ m t F4 f4 O.out (k : Int)
                          have hx := next_any _ m t F4 f4 O.out (k : Int)
                          have hin : t.inB (k : Int) := ⟨by omega, by show (k : Int) < t.has.length; omega⟩
                          rw [if_pos hin, Int.toNat_natCast] at hh hx
                          obtain ⟨gh, e1, hc1, _, hl1⟩ := row_at hr2 hlt
                          have k1 := hc1 _ (words_at hlt)
                          obtain ⟨gn, e2, hc2, _, hl2⟩ := row_at hn2 (j := k) (by omega)
                          have k2 := hc2 _ (words_at (by omega))
                          subst e1
                          subst e2
                          obtain ⟨x, hxx⟩ : ∃ x, t.has.getD k 0 = x := ⟨_, rfl⟩
                          obtain ⟨y, hyy⟩ : ∃ y, t.next.getD k 0 = y := ⟨_, rfl⟩
                          rw [hxx] at k1 hh
                          rw [hyy] at k2 hx
                          have HH := Lib.hid hh
                          have HX := Lib.hid hx
                          have HS := Lib.hid hSd
                          clear hS hSd f4 f5 hr2 hn2 hh hx hin hc1 hc2 hxx hyy
                          go_wp2_with fail
                          refine region_chain (E := [2, 14]) (kn := [true, true, false, true, true, true, true, true, true, true, false, false, false, false, false, false, false, false, false, false, false, false, false, false]) (mask := [true, true, false, true, true, true, true, true, true, true, false, false, false, false, false, false, false, false, false, false, false, false, false, false]) (vs := [?vq0_0, ?vq0_1, undef, ?vq0_3, ?vq0_4, ?vq0_5, ?vq0_6, ?vq0_7, ?vq0_8, ?vq0_9, undef, undef, undef, undef, undef, undef, undef, undef, undef, undef, undef, undef, undef, undef]) (S := fun w' => w' = wr.drew) (by kernel_rfl) (by kernel_rfl) (by kernel_rfl) (by kernel_rfl) (by kernel_rfl) ?hSq ?hchq
                          case hSq => exact rfl
                          case hchq =>
                            refine chain_cons _ (by kernel_rfl) rfl rfl ?opsq0 ?wantq0 ?effq0
                            case opsq0 =>
                              simp only [OpsAt, fillT, List.setIfInBounds_toArray, List.set_cons_zero, List.set_cons_succ]
                              refine ⟨.inl ⟨by rfl, opOk_pure fun wS hS => ?_⟩, ?_⟩
                              · ((subst hS; go_simp)); try (with_reducible rfl)
                              refine ⟨.inl ⟨by rfl, opOk_pure fun wS hS => ?_⟩, ?_⟩
                              · ((subst hS; go_simp)); try (with_reducible rfl)
                              refine ⟨.inl ⟨by rfl, opOk_pure fun wS hS => ?_⟩, ?_⟩
                              · ((subst hS; go_simp)); try (with_reducible rfl)
                              refine ⟨.inl ⟨by rfl, opOk_pure fun wS hS => ?_⟩, ?_⟩
                              · ((subst hS; go_simp)); try (with_reducible rfl)
                              refine ⟨.inl ⟨by rfl, opOk_pure fun wS hS => ?_⟩, ?_⟩
                              · ((subst hS; go_simp)); try (with_reducible rfl)
                              refine ⟨.inl ⟨by rfl, opOk_pure fun wS hS => ?_⟩, ?_⟩
                              · ((subst hS; go_simp)); try (with_reducible rfl)
                              refine ⟨.inl ⟨by rfl, opOk_pure fun wS hS => ?_⟩, ?_⟩
                              · ((subst hS; go_simp)); try (with_reducible rfl)
                              refine ⟨.inl ⟨by rfl, opOk_pure fun wS hS => ?_⟩, ?_⟩
                              · ((subst hS; go_simp)); try (with_reducible rfl)
                              refine ⟨.inl ⟨by rfl, opOk_pure fun wS hS => ?_⟩, ?_⟩
                              · ((subst hS; go_simp)); try (with_reducible rfl)
                              try trivial
                            case wantq0 => (try simp only [fillT, List.setIfInBounds_toArray, List.set_cons_zero, List.set_cons_succ]) <;> rfl
                            case effq0 =>
                              intro wS hS
                              simp only [fillT, List.setIfInBounds_toArray, List.set_cons_zero, List.set_cons_succ]
                              rw [hS]
                              refine eff_call (f := 13) (args := #[.pointer (some ⟨m, 0, none⟩), .int .i64 (k : Int)]) (by go_simp) ?_
                              refine (HH.out).mono ?_
                              rintro e w' ⟨rfl, hw⟩
                              rw [hw]
                              refine ⟨_, rfl, ?_⟩
                              clear hw
                              refine ⟨_, [true, true, true, true, true, true, true, true, true, true, true, true, true, true, false, true, true, true, true, true, true, true, false, false], [false, false, false, true, true, true, true, true, true, true, true, true, true, true, false, true, true, true, true, true, true, true, false, false], [0, 1], [?vq1_0, ?vq1_1, (.int .u64 x), ?vq1_3, ?vq1_4, ?vq1_5, ?vq1_6, ?vq1_7, ?vq1_8, ?vq1_9, ?vq1_10, ?vq1_11, ?vq1_12, ?vq1_13, undef, ?vq1_15, ?vq1_16, ?vq1_17, ?vq1_18, ?vq1_19, ?vq1_20, ?vq1_21, undef, undef], fun w' => w' = wr.drew, rfl, rfl, ?sameq0, by kernel_rfl, ?hSq0, ?nxq0⟩
                              case sameq0 =>
                                refine And.intro ?_ ?_
                                · with_reducible rfl
                                refine And.intro ?_ ?_
                                · with_reducible rfl
                                refine And.intro ?_ ?_
                                · with_reducible rfl
                                refine And.intro ?_ ?_
                                · with_reducible rfl
                                refine And.intro ?_ ?_
                                · with_reducible rfl
                                refine And.intro ?_ ?_
                                · with_reducible rfl
                                refine And.intro ?_ ?_
                                · with_reducible rfl
                                refine And.intro ?_ ?_
                                · with_reducible rfl
                                refine And.intro ?_ ?_
                                · with_reducible rfl
                                trivial
                              case hSq0 => rfl
                              case nxq0 =>
                                refine chain_cons _ (by kernel_rfl) rfl rfl ?opsq1 ?wantq1 ?effq1
                                case opsq1 =>
                                  simp only [OpsAt, fillT, List.setIfInBounds_toArray, List.set_cons_zero, List.set_cons_succ]
                                  refine ⟨.inl ⟨by rfl, opOk_pure fun wS hS => ?_⟩, ?_⟩
                                  · ((subst hS; go_simp)); try (with_reducible rfl)
                                  refine ⟨.inl ⟨by rfl, opOk_pure fun wS hS => ?_⟩, ?_⟩
                                  · ((subst hS; go_simp)); try (with_reducible rfl)
                                  refine ⟨.inl ⟨by rfl, opOk_pure fun wS hS => ?_⟩, ?_⟩
                                  · ((subst hS; go_simp)); try (with_reducible rfl)
                                  refine ⟨.inl ⟨by rfl, opOk_pure fun wS hS => ?_⟩, ?_⟩
                                  · ((subst hS; go_simp)); try (with_reducible rfl)
                                  refine ⟨.inl ⟨by rfl, opOk_pure fun wS hS => ?_⟩, ?_⟩
                                  · ((subst hS; go_simp)); try (with_reducible rfl)
                                  refine ⟨.inl ⟨by rfl, opOk_pure fun wS hS => ?_⟩, ?_⟩
                                  · ((subst hS; go_simp)); try (with_reducible rfl)
                                  refine ⟨.inl ⟨by rfl, opOk_pure fun wS hS => ?_⟩, ?_⟩
                                  · ((subst hS; go_simp)); try (with_reducible rfl)
                                  refine ⟨.inl ⟨by rfl, opOk_pure fun wS hS => ?_⟩, ?_⟩
                                  · ((subst hS; go_simp)); try (with_reducible rfl)
                                  refine ⟨.inl ⟨by rfl, opOk_pure fun wS hS => ?_⟩, ?_⟩
                                  · ((subst hS; go_simp)); try (with_reducible rfl)
                                  refine ⟨.inl ⟨by rfl, opOk_pure fun wS hS => ?_⟩, ?_⟩
                                  · ((subst hS; go_simp)); try (with_reducible rfl)
                                  refine ⟨.inl ⟨by rfl, opOk_pure fun wS hS => ?_⟩, ?_⟩
                                  · ((subst hS; go_simp)); try (with_reducible rfl)
                                  refine ⟨.inl ⟨by rfl, opOk_pure fun wS hS => ?_⟩, ?_⟩
                                  · ((subst hS; go_simp)); try (with_reducible rfl)
                                  refine ⟨.inl ⟨by rfl, opOk_pure fun wS hS => ?_⟩, ?_⟩
                                  · ((subst hS; go_simp)); try (with_reducible rfl)
                                  refine ⟨.inl ⟨by rfl, opOk_pure fun wS hS => ?_⟩, ?_⟩
                                  · ((subst hS; go_simp)); try (with_reducible rfl)
                                  refine ⟨.inl ⟨by rfl, opOk_pure fun wS hS => ?_⟩, ?_⟩
                                  · ((subst hS; go_simp)); try (with_reducible rfl)
                                  refine ⟨.inl ⟨by rfl, opOk_pure fun wS hS => ?_⟩, ?_⟩
                                  · ((subst hS; go_simp)); try (with_reducible rfl)
                                  refine ⟨.inl ⟨by rfl, opOk_pure fun wS hS => ?_⟩, ?_⟩
                                  · ((subst hS; go_simp)); try (with_reducible rfl)
                                  refine ⟨.inl ⟨by rfl, opOk_pure fun wS hS => ?_⟩, ?_⟩
                                  · ((subst hS; go_simp)); try (with_reducible rfl)
                                  try trivial
                                case wantq1 => (try simp only [fillT, List.setIfInBounds_toArray, List.set_cons_zero, List.set_cons_succ]) <;> rfl
                                case effq1 =>
                                  intro wS hS
                                  simp only [fillT, List.setIfInBounds_toArray, List.set_cons_zero, List.set_cons_succ]
                                  rw [hS]
                                  refine eff_call (f := 16) (args := #[.pointer (some ⟨m, 0, none⟩), .int .i64 (k : Int)]) (by go_simp) ?_
                                  refine (HX.out).mono ?_
                                  rintro e w' ⟨rfl, hw⟩
                                  rw [hw]
                                  refine ⟨_, rfl, ?_⟩
                                  clear hw
                                  refine ⟨_, [true, true, true, true, true, true, true, true, true, true, true, true, true, true, true, true, true, true, true, true, true, true, true, true], [false, false, false, false, false, false, false, false, false, false, false, false, false, false, false, true, true, true, true, true, true, true, true, true], [12, 13, 11, 10, 9, 8, 6, 7, 5, 4, 3], [?vq2_0, ?vq2_1, (.int .u64 x), ?vq2_3, ?vq2_4, ?vq2_5, ?vq2_6, ?vq2_7, ?vq2_8, ?vq2_9, ?vq2_10, ?vq2_11, ?vq2_12, ?vq2_13, (.int .u64 y), ?vq2_15, ?vq2_16, ?vq2_17, ?vq2_18, ?vq2_19, ?vq2_20, ?vq2_21, ?vq2_22, ?vq2_23], fun w' => w' = wr.drew, rfl, rfl, ?sameq1, by kernel_rfl, ?hSq1, ?nxq1⟩
                                  case sameq1 =>
                                    refine And.intro ?_ ?_
                                    · with_reducible rfl
                                    refine And.intro ?_ ?_
                                    · with_reducible rfl
                                    refine And.intro ?_ ?_
                                    · with_reducible rfl
                                    refine And.intro ?_ ?_
                                    · with_reducible rfl
                                    refine And.intro ?_ ?_
                                    · with_reducible rfl
                                    refine And.intro ?_ ?_
                                    · with_reducible rfl
                                    refine And.intro ?_ ?_
                                    · with_reducible rfl
                                    refine And.intro ?_ ?_
                                    · with_reducible rfl
                                    refine And.intro ?_ ?_
                                    · with_reducible rfl
                                    refine And.intro ?_ ?_
                                    · with_reducible rfl
                                    refine And.intro ?_ ?_
                                    · with_reducible rfl
                                    refine And.intro ?_ ?_
                                    · with_reducible rfl
                                    refine And.intro ?_ ?_
                                    · with_reducible rfl
                                    refine And.intro ?_ ?_
                                    · with_reducible rfl
                                    refine And.intro ?_ ?_
                                    · with_reducible rfl
                                    refine And.intro ?_ ?_
                                    · with_reducible rfl
                                    refine And.intro ?_ ?_
                                    · with_reducible rfl
                                    refine And.intro ?_ ?_
                                    · with_reducible rfl
                                    refine And.intro ?_ ?_
                                    · with_reducible rfl
                                    refine And.intro ?_ ?_
                                    · with_reducible rfl
                                    refine And.intro ?_ ?_
                                    · with_reducible rfl
                                    trivial
                                  case hSq1 => rfl
                                  case nxq1 =>
                                    refine chain_nil (by kernel_rfl) rfl ?opsq2 ?endq2
                                    case opsq2 =>
                                      simp only [OpsAt, fillT, List.setIfInBounds_toArray, List.set_cons_zero, List.set_cons_succ]
                                      refine ⟨.inl ⟨by rfl, opOk_pure fun wS hS => ?_⟩, ?_⟩
                                      · ((subst hS; go_simp)); try (with_reducible rfl)
                                      refine ⟨.inl ⟨by rfl, opOk_pure fun wS hS => ?_⟩, ?_⟩
                                      · ((subst hS; go_simp)); try (with_reducible rfl)
                                      refine ⟨.inl ⟨by rfl, opOk_pure fun wS hS => ?_⟩, ?_⟩
                                      · ((subst hS; go_simp)); try (with_reducible rfl)
                                      refine ⟨.inl ⟨by rfl, opOk_pure fun wS hS => ?_⟩, ?_⟩
                                      · ((subst hS; go_simp)); try (with_reducible rfl)
                                      refine ⟨.inl ⟨by rfl, opOk_pure fun wS hS => ?_⟩, ?_⟩
                                      · ((subst hS; go_simp)); try (with_reducible rfl)
                                      refine ⟨.inl ⟨by rfl, opOk_pure fun wS hS => ?_⟩, ?_⟩
                                      · ((subst hS; go_simp)); try (with_reducible rfl)
                                      refine ⟨.inl ⟨by rfl, opOk_pure fun wS hS => ?_⟩, ?_⟩
                                      · ((subst hS; go_simp)); try (with_reducible rfl)
                                      refine ⟨.inl ⟨by rfl, opOk_pure fun wS hS => ?_⟩, ?_⟩
                                      · ((subst hS; go_simp)); try (with_reducible rfl)
                                      refine ⟨.inl ⟨by rfl, opOk_pure fun wS hS => ?_⟩, ?_⟩
                                      · ((subst hS; go_simp)); try (with_reducible rfl)
                                      try trivial
                                    case endq2 =>
                                      intro wE hE
                                      simp only [fillT, List.setIfInBounds_toArray, List.set_cons_zero, List.set_cons_succ]
                                      rw [hE]
                                      go_wp2
                                      go_roundw
                                      case rel => exact ⟨k + 1, by omega, by go_num, HS.out⟩
                                      case measure => (simp [intOf]; try omega)
                        · obtain rfl : k = t.has.length := by omega
                          have HS := Lib.hid hS
                          clear hS
                          go_wp2
                          go_ret
                          exact ⟨rfl, HS.out⟩
end Go.Proofs.Ytmcfmabnggffjaa
