/- Walk over Append. -/
import Derived.Test.YtofhcdjnnbpkbaaSlabRow
namespace Go.Proofs.Ytofhcdjnnbpkbaa
set_option linter.unusedVariables false
set_option linter.unusedSimpArgs false
set_option linter.unnecessarySimpa false
open Go.RowKit

set_option maxRecDepth 100000 in
set_option maxHeartbeats 1000000 in
theorem append_any (w : World) (B g : Nat) (F : Nat → Prop) (st : St) (h : SlabF w B g F st) (ok : st.Ok) (P : List Int) (A : Option Addr) (c : Nat) (hA : A = none → P.length = 0 ∧ c = 0)
    (hsrc : SrcOf w A (P.map (Value.int .u8))) (hAg : ∀ ad, A = some ad → P ≠ [] → ad.block ≠ g) (hP : P.length ≤ 140737488355328) (hB : B ≤ w.heap.size) :
    Calls Try.prog 8 #[.pointer (some ⟨g, 0, none⟩), .slice A P.length c] w fun e w' => e = .returned (.int .i64 (appE st P.length)) ∧ ∃ F', SlabF w' B g F' (appS st P) ∧ Moves F F' w w' := by
  obtain ⟨S, L, steps, fuse, down⟩ := st
  obtain ⟨vs, vl, rfl, hs⟩ := h
  obtain ⟨o1, o2, o3, o4, o5⟩ := ok
  dsimp only at *
  obtain ⟨As, cs, rfl, -, -⟩ := row_val hs.sure
  obtain ⟨Al, cl, rfl, -, -⟩ := row_val hs.loose
  obtain ⟨c0, c1, c2, c3, c4, f0, f1, f2, f3, f4, hg⟩ := hs.cells
  have HS := Lib.hid hs
  have HU := Lib.hid (up_any w g down c4)
  have HT := Lib.hid (step_any w.drew B g _ _ S L steps fuse down hs.drew o1 o2 o3 o4)
  have HA := Lib.hid hA
  have HR := Lib.hid hsrc
  have HG := Lib.hid hAg
  clear hs hA hsrc hAg
  cases down with
  | true =>
    go_enter Try.func8, Try.ntmps8
    go_wp2_with fail
    refine HU.out.mono ?_
    rintro e w1 ⟨rfl, rfl⟩
    go_wp2
    go_ret
    exact ⟨rfl, _, ⟨_, _, rfl, HS.out⟩, Moves.refl _ _⟩
  | false =>
    rcases (show 262144 < S.length + L.length + P.length ∨ ¬ 262144 < S.length + L.length + P.length by omega) with hsz | hsz
    · have e1 : appE ⟨S, L, steps, fuse, false⟩ P.length = 4 := by unfold appE; simp [hsz]
      have e2 : appS ⟨S, L, steps, fuse, false⟩ P = ⟨S, L, steps, fuse, false⟩ := by unfold appS; simp [hsz]
      rw [e1, e2]
      clear e1 e2
      go_enter Try.func8, Try.ntmps8
      go_wp2_with fail
      refine HU.out.mono ?_
      rintro e w1 ⟨rfl, rfl⟩
      go_wp2_with fail
      refine region_flow (S := fun w' => w' = w1.drew) (vs := [?va0, ?va1, ?va2, ?va3, ?va4, ?va5, ?va6, ?va7, ?va8, ?va9, ?va10, ?va11, ?va12, ?va13, ?va14]) (by kernel_rfl) (by kernel_rfl) (by kernel_rfl) (by kernel_rfl) (by kernel_rfl) rfl ?hSa ?hopsa ?henda
      case hSa => exact rfl
      case hopsa =>
        simp only [OpsOk, fillT, List.setIfInBounds_toArray, List.set_cons_zero, List.set_cons_succ]
        refine ⟨.inl ⟨by rfl, opOk_pure fun wS hS => ?_⟩, ?_⟩
        · ((subst hS; go_simp; try simp (disch := omega) only [wrap64_id])); try (with_reducible rfl)
        refine ⟨.inl ⟨by rfl, opOk_pure fun wS hS => ?_⟩, ?_⟩
        · ((subst hS; go_simp; try simp (disch := omega) only [wrap64_id])); try (with_reducible rfl)
        refine ⟨.inl ⟨by rfl, opOk_pure fun wS hS => ?_⟩, ?_⟩
        · ((subst hS; go_simp; try simp (disch := omega) only [wrap64_id])); try (with_reducible rfl)
        refine ⟨.inl ⟨by rfl, opOk_pure fun wS hS => ?_⟩, ?_⟩
        · ((subst hS; go_simp; try simp (disch := omega) only [wrap64_id])); try (with_reducible rfl)
        refine ⟨.inl ⟨by rfl, opOk_pure fun wS hS => ?_⟩, ?_⟩
        · ((subst hS; go_simp; try simp (disch := omega) only [wrap64_id])); try (with_reducible rfl)
        refine ⟨.inl ⟨by rfl, opOk_pure fun wS hS => ?_⟩, ?_⟩
        · ((subst hS; go_simp; try simp (disch := omega) only [wrap64_id])); try (with_reducible rfl)
        refine ⟨.inl ⟨by rfl, opOk_pure fun wS hS => ?_⟩, ?_⟩
        · ((subst hS; go_simp; try simp (disch := omega) only [wrap64_id])); try (with_reducible rfl)
        refine ⟨.inl ⟨by rfl, opOk_pure fun wS hS => ?_⟩, ?_⟩
        · ((subst hS; go_simp; try simp (disch := omega) only [wrap64_id])); try (with_reducible rfl)
        refine ⟨.inl ⟨by rfl, opOk_pure fun wS hS => ?_⟩, ?_⟩
        · ((subst hS; go_simp; try simp (disch := omega) only [wrap64_id])); try (with_reducible rfl)
        refine ⟨.inl ⟨by rfl, opOk_pure fun wS hS => ?_⟩, ?_⟩
        · ((subst hS; go_simp; try simp (disch := omega) only [wrap64_id])); try (with_reducible rfl)
        refine ⟨.inl ⟨by rfl, opOk_pure fun wS hS => ?_⟩, ?_⟩
        · ((subst hS; go_simp; try simp (disch := omega) only [wrap64_id])); try (with_reducible rfl)
        refine ⟨.inl ⟨by rfl, opOk_pure fun wS hS => ?_⟩, ?_⟩
        · ((subst hS; go_simp; try simp (disch := omega) only [wrap64_id])); try (with_reducible rfl)
        refine ⟨.inl ⟨by rfl, opOk_pure fun wS hS => ?_⟩, ?_⟩
        · ((subst hS; go_simp; try simp (disch := omega) only [wrap64_id])); try (with_reducible rfl)
        refine ⟨.inl ⟨by rfl, opOk_pure fun wS hS => ?_⟩, ?_⟩
        · ((subst hS; go_simp; try simp (disch := omega) only [wrap64_id])); try (with_reducible rfl)
        refine ⟨.inl ⟨by rfl, opOk_pure fun wS hS => ?_⟩, ?_⟩
        · ((subst hS; go_simp; try simp (disch := omega) only [wrap64_id])); try (with_reducible rfl)
        trivial
      case henda =>
        intro wE hE
        simp only [OpsOk, fillT, List.setIfInBounds_toArray, List.set_cons_zero, List.set_cons_succ]
        subst hE
        go_wp2
        go_ret
        exact ⟨rfl, _, ⟨_, _, rfl, HS.out.drew⟩, ⟨(Chg.refl _ _).drew, fun _ h => .inl h⟩⟩
    · have e1 : appE ⟨S, L, steps, fuse, false⟩ P.length = stE fuse := by unfold appE; simp [hsz]
      have e2 : appS ⟨S, L, steps, fuse, false⟩ P = ⟨S, if fuse = 0 then L else L ++ P, stS steps fuse, stF fuse, stD fuse false⟩ := by unfold appS; simp [hsz]
      rw [e1, e2]
      clear e1 e2
      go_enter Try.func8, Try.ntmps8
      go_wp2_with fail
      refine HU.out.mono ?_
      rintro e w1 ⟨rfl, rfl⟩
      go_wp2_with fail
      refine region_flow (S := fun w' => w' = w1.drew) (vs := [?vb0, ?vb1, ?vb2, ?vb3, ?vb4, ?vb5, ?vb6, ?vb7, ?vb8, ?vb9, ?vb10, ?vb11, ?vb12, ?vb13, ?vb14]) (by kernel_rfl) (by kernel_rfl) (by kernel_rfl) (by kernel_rfl) (by kernel_rfl) rfl ?hSb ?hopsb ?hendb
      case hSb => exact rfl
      case hopsb =>
        simp only [OpsOk, fillT, List.setIfInBounds_toArray, List.set_cons_zero, List.set_cons_succ]
        refine ⟨.inl ⟨by rfl, opOk_pure fun wS hS => ?_⟩, ?_⟩
        · ((subst hS; go_simp; try simp (disch := omega) only [wrap64_id])); try (with_reducible rfl)
        refine ⟨.inl ⟨by rfl, opOk_pure fun wS hS => ?_⟩, ?_⟩
        · ((subst hS; go_simp; try simp (disch := omega) only [wrap64_id])); try (with_reducible rfl)
        refine ⟨.inl ⟨by rfl, opOk_pure fun wS hS => ?_⟩, ?_⟩
        · ((subst hS; go_simp; try simp (disch := omega) only [wrap64_id])); try (with_reducible rfl)
        refine ⟨.inl ⟨by rfl, opOk_pure fun wS hS => ?_⟩, ?_⟩
        · ((subst hS; go_simp; try simp (disch := omega) only [wrap64_id])); try (with_reducible rfl)
        refine ⟨.inl ⟨by rfl, opOk_pure fun wS hS => ?_⟩, ?_⟩
        · ((subst hS; go_simp; try simp (disch := omega) only [wrap64_id])); try (with_reducible rfl)
        refine ⟨.inl ⟨by rfl, opOk_pure fun wS hS => ?_⟩, ?_⟩
        · ((subst hS; go_simp; try simp (disch := omega) only [wrap64_id])); try (with_reducible rfl)
        refine ⟨.inl ⟨by rfl, opOk_pure fun wS hS => ?_⟩, ?_⟩
        · ((subst hS; go_simp; try simp (disch := omega) only [wrap64_id])); try (with_reducible rfl)
        refine ⟨.inl ⟨by rfl, opOk_pure fun wS hS => ?_⟩, ?_⟩
        · ((subst hS; go_simp; try simp (disch := omega) only [wrap64_id])); try (with_reducible rfl)
        refine ⟨.inl ⟨by rfl, opOk_pure fun wS hS => ?_⟩, ?_⟩
        · ((subst hS; go_simp; try simp (disch := omega) only [wrap64_id])); try (with_reducible rfl)
        refine ⟨.inl ⟨by rfl, opOk_pure fun wS hS => ?_⟩, ?_⟩
        · ((subst hS; go_simp; try simp (disch := omega) only [wrap64_id])); try (with_reducible rfl)
        refine ⟨.inl ⟨by rfl, opOk_pure fun wS hS => ?_⟩, ?_⟩
        · ((subst hS; go_simp; try simp (disch := omega) only [wrap64_id])); try (with_reducible rfl)
        refine ⟨.inl ⟨by rfl, opOk_pure fun wS hS => ?_⟩, ?_⟩
        · ((subst hS; go_simp; try simp (disch := omega) only [wrap64_id])); try (with_reducible rfl)
        refine ⟨.inl ⟨by rfl, opOk_pure fun wS hS => ?_⟩, ?_⟩
        · ((subst hS; go_simp; try simp (disch := omega) only [wrap64_id])); try (with_reducible rfl)
        refine ⟨.inl ⟨by rfl, opOk_pure fun wS hS => ?_⟩, ?_⟩
        · ((subst hS; go_simp; try simp (disch := omega) only [wrap64_id])); try (with_reducible rfl)
        refine ⟨.inl ⟨by rfl, opOk_pure fun wS hS => ?_⟩, ?_⟩
        · ((subst hS; go_simp; try simp (disch := omega) only [wrap64_id])); try (with_reducible rfl)
        trivial
      case hendb =>
        intro wE hE
        simp only [OpsOk, fillT, List.setIfInBounds_toArray, List.set_cons_zero, List.set_cons_succ]
        subst hE
        go_wp2_with fail
        refine HT.out.mono ?_
        rintro e w2 ⟨rfl, hT, hC⟩
        have HT2 := Lib.hid hT
        have HC := Lib.hid hC
        obtain ⟨d0, d1, d2, d3, d4, g0, g1, g2, g3, g4, hg'⟩ := hT.cells
        have hM : Moves (Foot g (.slice As S.length cs) (.slice Al L.length cl)) (Foot g (.slice As S.length cs) (.slice Al L.length cl)) w1 w2 :=
          ⟨((Chg.refl (Just g) w1).drew.trans hC fun _ _ h => h).mono fun k _ hk => .inl hk, fun _ h => .inl h⟩
        have HM := Lib.hid hM
        clear hT hC hM HT HU c0 c1 c2 c3 c4 f0 f1 f2 f3 f4
        rcases (show fuse = 0 ∨ fuse ≠ 0 by omega) with h0 | h0
        · subst h0
          go_wp2
          go_ret
          exact ⟨rfl, _, ⟨_, _, rfl, HT2.out⟩, HM.out⟩
        · have e3 : stE fuse = 0 := if_neg h0
          have e4 : (if fuse = 0 then L else L ++ P) = L ++ P := if_neg h0
          rw [e3]
          have E3 := Lib.hid e3
          have E4 := Lib.hid e4
          clear e3 e4
          have hsr : SrcOf w2 A (P.map (Value.int .u8)) := by
            intro ad had j u hj
            have h1 := HR.out ad had j u hj
            have hlt := cell_lt h1
            have hb : (ad.add j).block = ad.block := by unfold Addr.add; split <;> rfl
            rw [← h1]
            refine World.cell?_of_block ?_
            rw [hb] at hlt ⊢
            exact HC.out.block _ hlt (HG.out ad had (by rintro rfl; simp at hj))
          have HS2 := Lib.hid hsr
          clear hsr
          go_wp2_with (first
            | (at_builtin; refine wpList_append_row rfl _ _ 25 rfl B 5 (.int .u8 0) 1 1 Try.underlying25 info_u8 rfl (by decide) (.slice Al L.length cl) L.length (L.map (Value.int .u8)) ?a0 HT2.out.loose A P.length c (P.map (Value.int .u8)) ?a1 HA.out ?a2 HS2.out ?a3 ?a4 ?a5 ?a6 ?a7)
            | fail)
          case a0 => go_simp
          case a1 => go_simp
          case a2 => simp
          case a3 => intro u hu; simp at hu; obtain ⟨x, _, rfl⟩ := hu; rfl
          case a4 => unfold maxLen; omega
          case a5 => omega
          case a6 => exact Nat.le_trans hB HM.out.chg.size
          case a7 =>
            intro v' w3 hown hgr hat
            rw [← List.map_append] at hown
            have hlen : L.length + P.length = (L ++ P).length := by simp
            rw [hlen] at hown
            obtain ⟨A', c', rfl, -, -⟩ := row_val hown
            obtain ⟨hN, hMo⟩ := HT2.out.grow_loose hown hgr (hat.imp id fun e => ⟨_, e, Nat.le_refl _⟩)
            have hcg : w3.cell? ⟨g, 1, none⟩ = some (.slice Al L.length cl) := (World.cell?_of_block (a := ⟨g, 1, none⟩) (hgr.block g hg' (fun e => HT2.out.row_ne (.inr e.symm) rfl))).trans d1
            have hfz : w3.frozen? ⟨g, 1, none⟩ = false := by
              have : w3.heap[g]? = w2.heap[g]? := hgr.block g hg' (fun e => HT2.out.row_ne (.inr e.symm) rfl)
              unfold World.frozen? at g1 ⊢
              simp only [this]; exact g1
            rw [List.length_append] at hN hMo
            have HN := Lib.hid hN
            have HMo := Lib.hid (HM.out.trans hMo)
            clear hN hMo hown hgr hat hlen
            go_wp2
            go_ret
            rw [E3.out]
            try rw [E4.out]
            exact ⟨rfl, _, ⟨_, _, rfl, HN.out⟩, HMo.out⟩
end Go.Proofs.Ytofhcdjnnbpkbaa
