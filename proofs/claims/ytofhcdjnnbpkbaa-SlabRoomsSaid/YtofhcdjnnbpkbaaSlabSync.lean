/- Walk over Sync. -/
import Derived.Test.YtofhcdjnnbpkbaaSlabAppend
namespace Go.Proofs.Ytofhcdjnnbpkbaa
set_option linter.unusedVariables false
set_option linter.unusedSimpArgs false
set_option linter.unnecessarySimpa false
open Go.RowKit

def syE (st : St) : Int := if st.down then 5 else stE st.fuse
def syS (st : St) : St := if st.down then st else ⟨if st.fuse = 0 then st.S else st.S ++ st.L, if st.fuse = 0 then st.L else [], stS st.steps st.fuse, stF st.fuse, stD st.fuse st.down⟩

set_option maxRecDepth 100000 in
set_option maxHeartbeats 1000000 in
theorem sync_any (w : World) (B g : Nat) (F : Nat → Prop) (st : St) (h : SlabF w B g F st) (ok : st.Ok) (hB : B ≤ w.heap.size) :
    Calls Try.prog 9 #[.pointer (some ⟨g, 0, none⟩)] w fun e w' => e = .returned (.int .i64 (syE st)) ∧ ∃ F', SlabF w' B g F' (syS st) ∧ Moves F F' w w' := by
  obtain ⟨S, L, steps, fuse, down⟩ := st
  obtain ⟨vs, vl, rfl, hs⟩ := h
  obtain ⟨o1, o2, o3, o4, o5⟩ := ok
  dsimp only at *
  obtain ⟨As, cs, rfl, -, -⟩ := row_val hs.sure
  obtain ⟨Al, cl, rfl, hAl, -⟩ := row_val hs.loose
  have HAl := Lib.hid hAl
  obtain ⟨c0, c1, c2, c3, c4, f0, f1, f2, f3, f4, hg⟩ := hs.cells
  have HS := Lib.hid hs
  have HU := Lib.hid (up_any w g down c4)
  have HT := Lib.hid (step_any w B g _ _ S L steps fuse down hs o1 o2 o3 o4)
  clear hs hAl
  cases down with
  | true =>
    go_enter Try.func9, Try.ntmps9
    go_wp2_with fail
    refine HU.out.mono ?_
    rintro e w1 ⟨rfl, rfl⟩
    go_wp2
    go_ret
    exact ⟨rfl, _, ⟨_, _, rfl, HS.out⟩, Moves.refl _ _⟩
  | false =>
    go_enter Try.func9, Try.ntmps9
    go_wp2_with fail
    refine HU.out.mono ?_
    rintro e w1 ⟨rfl, rfl⟩
    go_wp2_with fail
    refine HT.out.mono ?_
    rintro e w2 ⟨rfl, hT, hC⟩
    obtain ⟨d0, d1, d2, d3, d4, g0, g1, g2, g3, g4, hg'⟩ := hT.cells
    have HT2 := Lib.hid hT.drew
    have hM : Moves (Foot g (.slice As S.length cs) (.slice Al L.length cl)) (Foot g (.slice As S.length cs) (.slice Al L.length cl)) w1 w2 := ⟨hC.mono fun k _ hk => .inl hk, fun _ h => .inl h⟩
    have HM := Lib.hid hM
    have HT1 := Lib.hid hT
    clear hT hC hM HT HU c0 c1 c2 c3 c4 f0 f1 f2 f3 f4
    rcases (show fuse = 0 ∨ fuse ≠ 0 by omega) with h0 | h0
    · subst h0
      go_wp2
      go_ret
      exact ⟨rfl, _, ⟨_, _, rfl, HT1.out⟩, HM.out⟩
    · have e3 : stE fuse = 0 := if_neg h0
      have e4 : syS ⟨S, L, steps, fuse, false⟩ = ⟨S ++ L, [], stS steps fuse, stF fuse, stD fuse false⟩ := by unfold syS; simp [h0]
      have e5 : syE ⟨S, L, steps, fuse, false⟩ = 0 := by unfold syE; simp [e3]
      rw [e3]
      have E4 := Lib.hid e4
      have E5 := Lib.hid e5
      clear e3 e4 e5
      go_wp2_with fail
      refine region_chain (E := [10, 13, 16]) (kn := [true, true, true, true, true, true, true, true, true, true, false, false, false, false, false, false, false]) (mask := [true, true, true, true, true, true, true, true, true, true, false, false, false, false, false, false, false]) (vs := [?va0_0, ?va0_1, ?va0_2, ?va0_3, ?va0_4, ?va0_5, ?va0_6, ?va0_7, ?va0_8, ?va0_9, undef, undef, undef, undef, undef, undef, undef]) (S := fun w' => w' = w2.drew) (by kernel_rfl) (by kernel_rfl) (by kernel_rfl) (by kernel_rfl) (by kernel_rfl) ?hSa ?hcha
      case hSa => exact rfl
      case hcha =>
        refine chain_cons _ (by kernel_rfl) rfl rfl ?opsa0 ?wanta0 ?effa0
        case opsa0 =>
          simp only [OpsAt, fillT, List.setIfInBounds_toArray, List.set_cons_zero, List.set_cons_succ]
          refine ⟨.inl ⟨by rfl, opOk_pure fun wS hS => ?_⟩, ?_⟩
          · ((subst hS; go_simp)); try (with_reducible rfl)
          refine ⟨.inl ⟨by rfl, opOk_pure fun wS hS => ?_⟩, ?_⟩
          · ((subst hS; go_simp)); try (with_reducible rfl)
          refine ⟨.inl ⟨by rfl, opOk_pure fun wS hS => ?_⟩, ?_⟩
          · ((subst hS; go_simp)); try (with_reducible rfl)
          refine ⟨.inl ⟨by rfl, opOk_pure fun wS hS => ?_⟩, ?_⟩
          · ((subst hS; go_simp)); try (with_reducible rfl)
          refine ⟨.inl ⟨by rfl, opOk_pure fun wS hS => ?_⟩, ?_⟩
          · ((subst hS; go_simp)); try (with_reducible rfl)
          refine ⟨.inl ⟨by rfl, opOk_pure fun wS hS => ?_⟩, ?_⟩
          · ((subst hS; go_simp)); try (with_reducible rfl)
          refine ⟨.inl ⟨by rfl, opOk_pure fun wS hS => ?_⟩, ?_⟩
          · ((subst hS; go_simp)); try (with_reducible rfl)
          refine ⟨.inl ⟨by rfl, opOk_pure fun wS hS => ?_⟩, ?_⟩
          · ((subst hS; go_simp)); try (with_reducible rfl)
          refine ⟨.inl ⟨by rfl, opOk_pure fun wS hS => ?_⟩, ?_⟩
          · ((subst hS; go_simp)); try (with_reducible rfl)
          refine ⟨.inl ⟨by rfl, opOk_pure fun wS hS => ?_⟩, ?_⟩
          · ((subst hS; go_simp)); try (with_reducible rfl)
          try trivial
        case wanta0 => rfl
        case effa0 =>
          intro wS hS
          simp only [fillT, List.setIfInBounds_toArray, List.set_cons_zero, List.set_cons_succ]
          refine wp_append_row _ _ _ rfl B 5 (.int .u8 0) 1 1 Try.underlying25 info_u8 rfl (by decide) (.slice As S.length cs) S.length (S.map (Value.int .u8)) rfl ?ho Al L.length cl (L.map (Value.int .u8)) rfl HAl.out (by simp) ?sr ?oc ?b1 ?b2 ?b3 ?pp
          case ho => rw [hS]; exact HT2.out.sure
          case sr => rw [hS]; exact row_src HT2.out.loose
          case oc => intro u hu; simp at hu; obtain ⟨x, _, rfl⟩ := hu; rfl
          case b1 => unfold maxLen; omega
          case b2 => omega
          case b3 => rw [hS]; exact Nat.le_trans hB HM.out.chg.size
          case pp =>
            intro v' w3 hown hgr hat
            rw [hS] at hgr hat
            obtain ⟨A', c', rfl, -, -⟩ := row_val hown
            rw [← List.map_append, ← List.length_append] at hown
            rw [← List.length_append] at hat
            obtain ⟨hN, hMo⟩ := HT2.out.grow_sure hown hgr (hat.imp id fun e => ⟨_, e, Nat.le_refl _⟩)
            rw [List.length_append] at hN hMo
            have hh3 : w3.heap[g]? = w2.heap[g]? := hgr.block g hg' (fun e => HT2.out.row_ne (.inl e.symm) rfl)
            have hh4 : w3.cell? ⟨g, 0, none⟩ = some (.slice As S.length cs) := (World.cell?_of_block (a := ⟨g, 0, none⟩) hh3).trans d0
            have hh5 : w3.cell? ⟨g, 1, none⟩ = some (.slice Al L.length cl) := (World.cell?_of_block (a := ⟨g, 1, none⟩) hh3).trans d1
            have hh6 : w3.frozen? ⟨g, 0, none⟩ = false := by unfold World.frozen? at g0 ⊢; simp only [hh3]; exact g0
            have hh7 : w3.frozen? ⟨g, 1, none⟩ = false := by unfold World.frozen? at g1 ⊢; simp only [hh3]; exact g1
            have HMd : Moves (Foot g (.slice As S.length cs) (.slice Al L.length cl)) (Foot g (.slice As S.length cs) (.slice Al L.length cl)) w1 w2.drew := ⟨HM.out.chg.drew, HM.out.foot⟩
            have hF := HMd.trans hMo
            have HN := Lib.hid (hN.setLooseNil)
            have HF := Lib.hid hF
            have hg3 : g < w3.heap.size := Nat.lt_of_lt_of_le hg' hgr.size
            clear hN hMo hown hgr hat HMd hF hh3
            refine ⟨_, [true, true, true, true, true, true, true, true, true, true, true, true, true, false, false, false, false], [true, true, false, false, false, false, false, false, false, false, false, true, true, false, false, false, false], [5, 9, 4, 8, 3, 7, 2, 6], [?va1_0, ?va1_1, ?va1_2, ?va1_3, ?va1_4, ?va1_5, ?va1_6, ?va1_7, ?va1_8, ?va1_9, (.slice A' (S.length + L.length) c'), ?va1_11, ?va1_12, undef, undef, undef, undef], fun w' => w' = w3, rfl, rfl, ?samea0, by kernel_rfl, ?hSa0, ?nxa0⟩
            case samea0 =>
              refine And.intro ?_ ?_
              · with_reducible rfl
              refine And.intro ?_ ?_
              · with_reducible rfl
              refine And.intro ?_ ?_
              · with_reducible rfl
              refine And.intro ?_ ?_
              · with_reducible rfl
              refine And.intro ?_ ?_
              · with_reducible rfl
              refine And.intro ?_ ?_
              · with_reducible rfl
              refine And.intro ?_ ?_
              · with_reducible rfl
              refine And.intro ?_ ?_
              · with_reducible rfl
              refine And.intro ?_ ?_
              · with_reducible rfl
              refine And.intro ?_ ?_
              · with_reducible rfl
              trivial
            case hSa0 => rfl
            case nxa0 =>
              refine chain_cons _ (by kernel_rfl) rfl rfl ?opsa1 ?wanta1 ?effa1
              case opsa1 =>
                simp only [OpsAt, fillT, List.setIfInBounds_toArray, List.set_cons_zero, List.set_cons_succ]
                refine ⟨.inl ⟨by rfl, opOk_pure fun wS hS => ?_⟩, ?_⟩
                · ((subst hS; go_simp)); try (with_reducible rfl)
                refine ⟨.inl ⟨by rfl, opOk_pure fun wS hS => ?_⟩, ?_⟩
                · ((subst hS; go_simp)); try (with_reducible rfl)
                refine ⟨.inl ⟨by rfl, opOk_pure fun wS hS => ?_⟩, ?_⟩
                · ((subst hS; go_simp)); try (with_reducible rfl)
                refine ⟨.inl ⟨by rfl, opOk_pure fun wS hS => ?_⟩, ?_⟩
                · ((subst hS; go_simp)); try (with_reducible rfl)
                try trivial
              case wanta1 => rfl
              case effa1 =>
                intro wS hS
                simp only [fillT, List.setIfInBounds_toArray, List.set_cons_zero, List.set_cons_succ]
                rw [hS]
                refine eff_skip (w' := w3.setCell ⟨g, 0, none⟩ (.slice A' (S.length + L.length) c')) ?run ?pp
                case run => go_simp
                case pp =>
                  refine ⟨_, [true, true, true, true, true, true, true, true, true, true, true, true, true, true, true, true, false], [false, true, false, false, false, false, false, false, false, false, false, false, false, false, true, true, false], [12, 0, 11], [?va2_0, ?va2_1, ?va2_2, ?va2_3, ?va2_4, ?va2_5, ?va2_6, ?va2_7, ?va2_8, ?va2_9, (.slice A' (S.length + L.length) c'), ?va2_11, ?va2_12, undef, ?va2_14, ?va2_15, undef], fun w' => w' = w3.setCell ⟨g, 0, none⟩ (.slice A' (S.length + L.length) c'), rfl, rfl, ?samea1, by kernel_rfl, ?hSa1, ?nxa1⟩
                  case samea1 =>
                    refine And.intro ?_ ?_
                    · with_reducible rfl
                    refine And.intro ?_ ?_
                    · with_reducible rfl
                    refine And.intro ?_ ?_
                    · with_reducible rfl
                    refine And.intro ?_ ?_
                    · with_reducible rfl
                    refine And.intro ?_ ?_
                    · with_reducible rfl
                    refine And.intro ?_ ?_
                    · with_reducible rfl
                    refine And.intro ?_ ?_
                    · with_reducible rfl
                    refine And.intro ?_ ?_
                    · with_reducible rfl
                    refine And.intro ?_ ?_
                    · with_reducible rfl
                    refine And.intro ?_ ?_
                    · with_reducible rfl
                    refine And.intro ?_ ?_
                    · with_reducible rfl
                    refine And.intro ?_ ?_
                    · with_reducible rfl
                    refine And.intro ?_ ?_
                    · with_reducible rfl
                    trivial
                  case hSa1 => rfl
                  case nxa1 =>
                    refine chain_cons _ (by kernel_rfl) rfl rfl ?opsa2 ?wanta2 ?effa2
                    case opsa2 =>
                      simp only [OpsAt, fillT, List.setIfInBounds_toArray, List.set_cons_zero, List.set_cons_succ]
                      refine ⟨.inl ⟨by rfl, opOk_pure fun wS hS => ?_⟩, ?_⟩
                      · ((subst hS; go_simp)); try (with_reducible rfl)
                      refine ⟨.inl ⟨by rfl, opOk_pure fun wS hS => ?_⟩, ?_⟩
                      · ((subst hS; go_simp)); try (with_reducible rfl)
                      refine ⟨.inl ⟨by rfl, opOk_pure fun wS hS => ?_⟩, ?_⟩
                      · ((subst hS; go_simp)); try (with_reducible rfl)
                      try trivial
                    case wanta2 => rfl
                    case effa2 =>
                      intro wS hS
                      simp only [fillT, List.setIfInBounds_toArray, List.set_cons_zero, List.set_cons_succ]
                      rw [hS]
                      refine eff_skip (w' := (w3.setCell ⟨g, 0, none⟩ (.slice A' (S.length + L.length) c')).setCell ⟨g, 1, none⟩ (.slice none 0 0)) ?run ?pp
                      case run => go_simp
                      case pp =>
                        refine ⟨_, [true, true, true, true, true, true, true, true, true, true, true, true, true, true, true, true, true], [false, false, false, false, false, false, false, false, false, false, false, false, false, false, false, false, false], [15, 1, 14], [?va3_0, ?va3_1, ?va3_2, ?va3_3, ?va3_4, ?va3_5, ?va3_6, ?va3_7, ?va3_8, ?va3_9, (.slice A' (S.length + L.length) c'), ?va3_11, ?va3_12, undef, ?va3_14, ?va3_15, undef], fun w' => w' = (w3.setCell ⟨g, 0, none⟩ (.slice A' (S.length + L.length) c')).setCell ⟨g, 1, none⟩ (.slice none 0 0), rfl, rfl, ?samea2, by kernel_rfl, ?hSa2, ?nxa2⟩
                        case samea2 =>
                          refine And.intro ?_ ?_
                          · with_reducible rfl
                          refine And.intro ?_ ?_
                          · with_reducible rfl
                          refine And.intro ?_ ?_
                          · with_reducible rfl
                          refine And.intro ?_ ?_
                          · with_reducible rfl
                          refine And.intro ?_ ?_
                          · with_reducible rfl
                          refine And.intro ?_ ?_
                          · with_reducible rfl
                          refine And.intro ?_ ?_
                          · with_reducible rfl
                          refine And.intro ?_ ?_
                          · with_reducible rfl
                          refine And.intro ?_ ?_
                          · with_reducible rfl
                          refine And.intro ?_ ?_
                          · with_reducible rfl
                          refine And.intro ?_ ?_
                          · with_reducible rfl
                          refine And.intro ?_ ?_
                          · with_reducible rfl
                          refine And.intro ?_ ?_
                          · with_reducible rfl
                          refine And.intro ?_ ?_
                          · with_reducible rfl
                          refine And.intro ?_ ?_
                          · with_reducible rfl
                          refine And.intro ?_ ?_
                          · with_reducible rfl
                          trivial
                        case hSa2 => rfl
                        case nxa2 =>
                          refine chain_nil (by kernel_rfl) rfl ?opsa3 ?enda3
                          case opsa3 =>
                            simp only [OpsAt, fillT, List.setIfInBounds_toArray, List.set_cons_zero, List.set_cons_succ]
                            try trivial
                          case enda3 =>
                            intro wE hE
                            simp only [fillT, List.setIfInBounds_toArray, List.set_cons_zero, List.set_cons_succ]
                            rw [hE]
                            go_wp2
                            go_ret
                            rw [E4.out, E5.out]
                            exact ⟨rfl, _, ⟨_, _, rfl, HN.out⟩, HF.out.trans ⟨(Chg.refl _ _).setCell (.inl (.inl rfl)) _, fun k hk => .inl (by rcases hk with rfl | hk | hk; exact .inl rfl; exact .inr (.inl hk); cases hk)⟩⟩
end Go.Proofs.Ytofhcdjnnbpkbaa
