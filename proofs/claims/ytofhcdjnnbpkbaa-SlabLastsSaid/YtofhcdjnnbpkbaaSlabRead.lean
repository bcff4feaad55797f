/- Walk over Read. -/
import Derived.Test.YtofhcdjnnbpkbaaSlabClone
namespace Go.Proofs.Ytofhcdjnnbpkbaa
set_option linter.unusedVariables false
set_option linter.unusedSimpArgs false
set_option linter.unnecessarySimpa false
open Go.RowKit

/-- All that is there. -/
def rdS (st : St) : List Int := if st.down then [] else st.S ++ st.L

set_option maxRecDepth 100000 in
set_option maxHeartbeats 1000000 in
theorem read_any (w : World) (B g : Nat) (F : Nat → Prop) (st : St) (h : SlabF w B g F st) (ok : st.Ok) (hB : B ≤ w.heap.size) :
    Calls Try.prog 10 #[.pointer (some ⟨g, 0, none⟩)] w fun e w' => ∃ v, e = .returned (.tuple #[v, .int .i64 (upE st.down)]) ∧ w'.ownsRow B 5 1 v (rdS st).length ((rdS st).map (Value.int .u8)) ∧
      Chg (fun _ => False) w w' ∧ ∀ k, v.ownBlock = some k → w.heap.size ≤ k := by
  obtain ⟨S, L, steps, fuse, down⟩ := st
  obtain ⟨vs, vl, rfl, hs⟩ := h
  obtain ⟨o1, o2, o3, o4, o5⟩ := ok
  dsimp only at *
  obtain ⟨As, cs, rfl, hAs, -⟩ := row_val hs.sure
  obtain ⟨Al, cl, rfl, hAl, -⟩ := row_val hs.loose
  have HAl := Lib.hid hAl
  obtain ⟨c0, c1, c2, c3, c4, f0, f1, f2, f3, f4, hg⟩ := hs.cells
  have HS := Lib.hid hs
  have HU := Lib.hid (up_any w g down c4)
  have HC := Lib.hid (clone_any w.drew B As cs S hAs (row_src hs.drew.sure) (by omega) hB)
  clear hs hAl hAs
  cases down with
  | true =>
    go_enter Try.func10, Try.ntmps10
    go_wp2_with fail
    refine HU.out.mono ?_
    rintro e w1 ⟨rfl, rfl⟩
    go_wp2
    first | go_ret | go_ret2
    exact ⟨_, rfl, World.ownsRow_nil _ _ _ _, Chg.refl _ _, fun _ h => by cases h⟩
  | false =>
    go_enter Try.func10, Try.ntmps10
    go_wp2_with fail
    refine HU.out.mono ?_
    rintro e w1 ⟨rfl, rfl⟩
    go_wp2_with fail
    refine region_chain (E := [4, 9]) (kn := [true, true, true, true, false, true, true, true, true, false, false, false]) (mask := [true, true, true, true, false, true, true, true, true, false, false, false]) (vs := [?va0_0, ?va0_1, ?va0_2, ?va0_3, undef, ?va0_5, ?va0_6, ?va0_7, ?va0_8, undef, undef, undef]) (S := fun w' => w' = w1.drew) (by kernel_rfl) (by kernel_rfl) (by kernel_rfl) (by kernel_rfl) (by kernel_rfl) ?hSa ?hcha
    case hSa => exact rfl
    case hcha =>
      refine chain_cons _ (by kernel_rfl) rfl rfl ?opsa0 ?wanta0 ?effa0
      case opsa0 =>
        simp only [OpsAt, fillT, List.setIfInBounds_toArray, List.set_cons_zero, List.set_cons_succ]
        refine ⟨.inl ⟨by rfl, opOk_pure fun wS hS => ?_⟩, ?_⟩
        · ((subst hS; go_simp)); try (with_reducible rfl)
        refine ⟨.inl ⟨by rfl, opOk_pure fun wS hS => ?_⟩, ?_⟩
        · ((subst hS; go_simp)); try (with_reducible rfl)
        refine ⟨.inl ⟨by rfl, opOk_pure fun wS hS => ?_⟩, ?_⟩
        · ((subst hS; go_simp)); try (with_reducible rfl)
        refine ⟨.inl ⟨by rfl, opOk_pure fun wS hS => ?_⟩, ?_⟩
        · ((subst hS; go_simp)); try (with_reducible rfl)
        refine ⟨.inl ⟨by rfl, opOk_pure fun wS hS => ?_⟩, ?_⟩
        · ((subst hS; go_simp)); try (with_reducible rfl)
        refine ⟨.inl ⟨by rfl, opOk_pure fun wS hS => ?_⟩, ?_⟩
        · ((subst hS; go_simp)); try (with_reducible rfl)
        refine ⟨.inl ⟨by rfl, opOk_pure fun wS hS => ?_⟩, ?_⟩
        · ((subst hS; go_simp)); try (with_reducible rfl)
        refine ⟨.inl ⟨by rfl, opOk_pure fun wS hS => ?_⟩, ?_⟩
        · ((subst hS; go_simp)); try (with_reducible rfl)
        try trivial
      case wanta0 => rfl
      case effa0 =>
        intro wS hS
        simp only [fillT, List.setIfInBounds_toArray, List.set_cons_zero, List.set_cons_succ]
        rw [hS]
        refine eff_call (f := 23) (args := #[.slice As S.length cs]) (by go_simp) ?_
        refine HC.out.mono ?_
        rintro e w2 ⟨v, rfl, hown, hchg, hnew⟩
        obtain ⟨A1, k1, rfl, -, -⟩ := row_val hown
        have hS2 : SlabAt w2 B g (.slice As S.length cs) (.slice Al L.length cl) S L steps fuse false := HS.out.of_block fun k hk => hchg.block k (HS.out.lt hk).1 (fun h => h)
        obtain ⟨d0, d1, d2, d3, d4, g0, g1, g2, g3, g4, hg'⟩ := hS2.cells
        have HS2 := Lib.hid hS2
        have HO := Lib.hid hown
        have HCh := Lib.hid hchg
        have HN := Lib.hid hnew
        clear hS2 hown hchg hnew
        refine ⟨_, rfl, ?_⟩
        refine ⟨_, [true, true, true, true, true, true, true, true, true, false, false, false], [false, false, false, false, false, true, true, true, true, false, false, false], [3, 2, 1, 0], [?va1_0, ?va1_1, ?va1_2, ?va1_3, (.slice A1 S.length k1), ?va1_5, ?va1_6, ?va1_7, ?va1_8, undef, undef, undef], fun w' => w' = w2, rfl, rfl, ?samea0, by kernel_rfl, ?hSa0, ?nxa0⟩
        case samea0 =>
          refine And.intro ?_ ?_
          · with_reducible rfl
          refine And.intro ?_ ?_
          · with_reducible rfl
          refine And.intro ?_ ?_
          · with_reducible rfl
          refine And.intro ?_ ?_
          · with_reducible rfl
          refine And.intro ?_ ?_
          · with_reducible rfl
          refine And.intro ?_ ?_
          · with_reducible rfl
          refine And.intro ?_ ?_
          · with_reducible rfl
          refine And.intro ?_ ?_
          · with_reducible rfl
          trivial
        case hSa0 => rfl
        case nxa0 =>
          refine chain_cons _ (by kernel_rfl) rfl rfl ?opsa1 ?wanta1 ?effa1
          case opsa1 =>
            simp only [OpsAt, fillT, List.setIfInBounds_toArray, List.set_cons_zero, List.set_cons_succ]
            refine ⟨.inl ⟨by rfl, opOk_pure fun wS hS => ?_⟩, ?_⟩
            · ((subst hS; go_simp)); try (with_reducible rfl)
            refine ⟨.inl ⟨by rfl, opOk_pure fun wS hS => ?_⟩, ?_⟩
            · ((subst hS; go_simp)); try (with_reducible rfl)
            refine ⟨.inl ⟨by rfl, opOk_pure fun wS hS => ?_⟩, ?_⟩
            · ((subst hS; go_simp)); try (with_reducible rfl)
            refine ⟨.inl ⟨by rfl, opOk_pure fun wS hS => ?_⟩, ?_⟩
            · ((subst hS; go_simp)); try (with_reducible rfl)
            try trivial
          case wanta1 => rfl
          case effa1 =>
            intro wS hS
            simp only [fillT, List.setIfInBounds_toArray, List.set_cons_zero, List.set_cons_succ]
            rw [hS]
            refine wp_append_row _ _ _ rfl B 5 (.int .u8 0) 1 1 Try.underlying25 info_u8 rfl (by decide) (.slice A1 S.length k1) S.length (S.map (Value.int .u8)) rfl HO.out Al L.length cl (L.map (Value.int .u8)) rfl HAl.out (by simp) (row_src HS2.out.loose) ?oc ?b1 ?b2 ?b3 ?pp
            case oc => intro u hu; simp at hu; obtain ⟨x, _, rfl⟩ := hu; rfl
            case b1 => unfold maxLen; omega
            case b2 => omega
            case b3 => exact Nat.le_trans hB HCh.out.size
            case pp =>
              intro v' w3 hown hgr hat
              obtain ⟨A', c', rfl, -, -⟩ := row_val hown
              rw [← List.map_append] at hown
              have hlt2 := HO.out.lt
              have hC3 : Chg (fun _ => False) w1.drew w3 := HCh.out.grown hgr fun k hk => .inr (HN.out k hk)
              have hN3 : ∀ k, (Value.slice A' (S.length + L.length) c').ownBlock = some k → w1.heap.size ≤ k := by
                intro k hk
                rcases hat with e | e
                · rw [e] at hk; exact HN.out k hk
                · rw [e] at hk; injection hk with hk; have := HCh.out.size; simp at this; omega
              have HO3 := Lib.hid hown
              have HC3 := Lib.hid hC3
              have HN3 := Lib.hid hN3
              clear hown hgr hat hlt2 hC3 hN3
              refine ⟨_, [true, true, true, true, true, true, true, true, true, true, true, true], [false, false, false, false, false, false, false, false, false, false, true, true], [8, 7, 6, 5], [?va2_0, ?va2_1, ?va2_2, ?va2_3, (.slice A1 S.length k1), ?va2_5, ?va2_6, ?va2_7, ?va2_8, (.slice A' (S.length + L.length) c'), ?va2_10, ?va2_11], fun w' => w' = w3, rfl, rfl, ?samea1, by kernel_rfl, ?hSa1, ?nxa1⟩
              case samea1 =>
                refine And.intro ?_ ?_
                · with_reducible rfl
                refine And.intro ?_ ?_
                · with_reducible rfl
                refine And.intro ?_ ?_
                · with_reducible rfl
                refine And.intro ?_ ?_
                · with_reducible rfl
                refine And.intro ?_ ?_
                · with_reducible rfl
                refine And.intro ?_ ?_
                · with_reducible rfl
                refine And.intro ?_ ?_
                · with_reducible rfl
                refine And.intro ?_ ?_
                · with_reducible rfl
                refine And.intro ?_ ?_
                · with_reducible rfl
                trivial
              case hSa1 => rfl
              case nxa1 =>
                refine chain_nil (by kernel_rfl) rfl ?opsa2 ?enda2
                case opsa2 =>
                  simp only [OpsAt, fillT, List.setIfInBounds_toArray, List.set_cons_zero, List.set_cons_succ]
                  refine ⟨.inl ⟨by rfl, opOk_pure fun wS hS => ?_⟩, ?_⟩
                  · ((subst hS; go_simp)); try (with_reducible rfl)
                  refine ⟨.inl ⟨by rfl, opOk_pure fun wS hS => ?_⟩, ?_⟩
                  · ((subst hS; go_simp)); try (with_reducible rfl)
                  try trivial
                case enda2 =>
                  intro wE hE
                  simp only [fillT, List.setIfInBounds_toArray, List.set_cons_zero, List.set_cons_succ]
                  rw [hE]
                  go_wp2
                  first | go_ret | go_ret2
                  exact ⟨_, rfl, (by unfold rdS; simpa using HO3.out), ⟨HC3.out.os, HC3.out.tape, HC3.out.output, HC3.out.size, HC3.out.block⟩, HN3.out⟩
end Go.Proofs.Ytofhcdjnnbpkbaa
