/- Walk over Crash. -/
import Derived.Test.YtidcdfilfccigaaSlb17
import Derived.Test.YtidcdfilfccigaaZeros
import Derived.Lib.MinMax
namespace Go.Proofs.Ytidcdfilfccigaa
set_option linter.unusedVariables false
set_option linter.unusedSimpArgs false
set_option linter.unnecessarySimpa false
open Go.RowKit

def kept (st : St) (keep : Int) : Nat := (max 0 (min keep st.L.length)).toNat
def zeroed (st : St) (keep zeros : Int) : Nat := (max 0 (min zeros (st.L.length - kept st keep))).toNat
def crS (st : St) (keep zeros : Int) : St := ⟨st.S ++ st.L.take (kept st keep) ++ List.replicate (zeroed st keep zeros) 0, [], st.steps, -1, false⟩
theorem zeros_u8 (m : Nat) : (Builtin.zeroCells (Value.cells (.int .u8 0)) m).toList = (List.replicate m 0).map (Value.int .u8) := by
  apply List.ext_getElem?
  intro i
  by_cases h : i < m
  · simp [Builtin.zeroCells, Value.cells, h, Nat.mod_one]
  · simp [Builtin.zeroCells, Value.cells, h]

set_option maxRecDepth 100000 in
set_option maxHeartbeats 1000000 in
theorem crash_any (w : World) (B g : Nat) (F : Nat → Prop) (st : St) (h : SlabF w B g F st) (ok : st.Ok) (hB : B ≤ w.heap.size) (keep zeros : Int) :
    Calls Try.prog 21 #[.pointer (some ⟨g, 0, none⟩), .int .i64 keep, .int .i64 zeros] w fun e w' => e = .returned (.int .i64 0) ∧ ∃ F', SlabF w' B g F' (crS st keep zeros) ∧ Moves F F' w w' := by
  have e0 : crS st keep zeros = ⟨st.S ++ st.L.take (kept st keep) ++ List.replicate (zeroed st keep zeros) 0, [], st.steps, -1, false⟩ := rfl
  have hk : max 0 (min keep (st.L.length : Int)) = (kept st keep : Int) := by unfold kept; omega
  have hk' : kept st keep ≤ st.L.length := by unfold kept; omega
  have hz : max 0 (min zeros ((st.L.length : Int) - (kept st keep : Int))) = (zeroed st keep zeros : Int) := by unfold zeroed; omega
  have hz' : zeroed st keep zeros ≤ st.L.length := by unfold zeroed; omega
  rw [e0]
  clear e0
  generalize kept st keep = k at *
  generalize zeroed st keep zeros = z at *
  obtain ⟨S, L, steps, fuse, down⟩ := st
  obtain ⟨vs, vl, rfl, hs⟩ := h
  obtain ⟨o1, o2, o3, o4, o5⟩ := ok
  dsimp only at *
  obtain ⟨As, cs, rfl, -, -⟩ := row_val hs.sure
  obtain ⟨Al, cl, rfl, hAl, -⟩ := row_val hs.loose
  have hcl : L.length ≤ cl := by
    rcases hs.loose.2 with ⟨e1, e2⟩ | ⟨_, _, _, e1, _, _, e2, _⟩
    · omega
    · injection e1 with _ _ e1; omega
  have hkcl : k ≤ cl := by omega
  have hsl : ∀ s, sliced Al 0 k cl s = .slice Al k cl := by
    intro s
    unfold sliced
    split
    · rfl
    · cases Al <;> simp [Addr.add]
  have HA1 := Lib.hid (show Al = none → k = 0 ∧ cl = 0 from fun e => ⟨by have := (hAl e).1; omega, (hAl e).2⟩)
  have HSR := Lib.hid (show SrcOf w.drew Al ((L.take k).map (Value.int .u8)) from fun ad e j u hj => row_src hs.drew.loose ad e j u (by
    rw [List.map_take] at hj
    by_cases hjk : j < k
    · rwa [List.getElem?_take_of_lt hjk] at hj
    · rw [List.getElem?_eq_none (by simp; omega)] at hj; cases hj))
  obtain ⟨c0, c1, c2, c3, c4, f0, f1, f2, f3, f4, hg⟩ := hs.cells
  have HS := Lib.hid hs
  clear hs hAl
  go_enter Try.func21, Try.ntmps21
  go_wp2_with fail
  refine region_chain (E := [11, 13, 16]) (kn := [true, true, true, true, true, true, true, true, true, true, true, false, true, false, false, false, false]) (mask := [true, true, true, true, true, true, true, true, true, true, true, false, true, false, false, false, false]) (vs := [?va0_0, ?va0_1, ?va0_2, ?va0_3, ?va0_4, ?va0_5, ?va0_6, ?va0_7, ?va0_8, ?va0_9, ?va0_10, undef, ?va0_12, undef, undef, undef, undef]) (S := fun w' => w' = w.drew) (by kernel_rfl) (by kernel_rfl) (by kernel_rfl) (by kernel_rfl) (by kernel_rfl) ?hSa ?hcha
  case hSa => exact rfl
  case hcha =>
    refine chain_cons _ (by kernel_rfl) rfl rfl ?opsa0 ?wanta0 ?effa0
    case opsa0 =>
      simp only [OpsAt, fillT, List.setIfInBounds_toArray, List.set_cons_zero, List.set_cons_succ]
      refine ⟨.inl ⟨by rfl, opOk_pure fun wS hS => ?_⟩, ?_⟩
      · ((subst hS; go_simp; try simp only [hsl])); try (with_reducible rfl)
      refine ⟨.inl ⟨by rfl, opOk_pure fun wS hS => ?_⟩, ?_⟩
      · ((subst hS; go_simp; try simp only [hsl])); try (with_reducible rfl)
      refine ⟨.inl ⟨by rfl, opOk_pure fun wS hS => ?_⟩, ?_⟩
      · ((subst hS; go_simp; try simp only [hsl])); try (with_reducible rfl)
      refine ⟨.inl ⟨by rfl, opOk_pure fun wS hS => ?_⟩, ?_⟩
      · ((subst hS; go_simp; try simp only [hsl])); try (with_reducible rfl)
      refine ⟨.inl ⟨by rfl, opOk_pure fun wS hS => ?_⟩, ?_⟩
      · ((subst hS; go_simp; try simp only [hsl])); try (with_reducible rfl)
      refine ⟨.inl ⟨by rfl, opOk_pure fun wS hS => ?_⟩, ?_⟩
      · ((subst hS; go_simp; try simp only [hsl])); try (with_reducible rfl)
      refine ⟨.inl ⟨by rfl, opOk_pure fun wS hS => ?_⟩, ?_⟩
      · ((subst hS; go_simp; try simp only [hsl])); try (with_reducible rfl)
      refine ⟨.inl ⟨by rfl, opOk_pure fun wS hS => ?_⟩, ?_⟩
      · ((subst hS; go_simp; try simp only [hsl])); try (with_reducible rfl)
      refine ⟨.inl ⟨by rfl, opOk_pure fun wS hS => ?_⟩, ?_⟩
      · ((subst hS; go_simp; try simp only [hsl])); try (with_reducible rfl)
      refine ⟨.inl ⟨by rfl, opOk_pure fun wS hS => ?_⟩, ?_⟩
      · ((subst hS; go_simp; try simp only [hsl])); try (with_reducible rfl)
      refine ⟨.inl ⟨by rfl, opOk_pure fun wS hS => ?_⟩, ?_⟩
      · ((subst hS; go_simp; try simp only [hsl])); try (with_reducible rfl)
      refine ⟨.inl ⟨by rfl, opOk_pure fun wS hS => ?_⟩, ?_⟩
      · ((subst hS; go_simp; try simp only [hsl])); try (with_reducible rfl)
      try trivial
    case wanta0 => rfl
    case effa0 =>
      intro wS hS
      simp only [fillT, List.setIfInBounds_toArray, List.set_cons_zero, List.set_cons_succ]
      rw [hS]
      refine wp_append_row _ _ _ rfl B 5 (.int .u8 0) 1 1 Try.underlying36 info_u8 rfl (by decide) (.slice As S.length cs) S.length (S.map (Value.int .u8)) rfl HS.out.drew.sure Al k cl ((L.take k).map (Value.int .u8)) rfl HA1.out (by simp; omega) HSR.out ?oc ?b1 ?b2 ?b3 ?pp
      case oc => intro u hu; rcases List.mem_map.1 hu with ⟨x, _, rfl⟩; rfl
      case b1 => unfold maxLen; omega
      case b2 => omega
      case b3 => exact hB
      case pp =>
        intro v2 w2 hown hgr hat
        obtain ⟨A2, k2, rfl, -, -⟩ := row_val hown
        rw [← List.map_append] at hown
        have HO := Lib.hid hown
        have HGr := Lib.hid hgr
        have HAt := Lib.hid hat
        have hB2 : B ≤ w2.heap.size := Nat.le_trans hB hgr.size
        clear hown hgr hat
        refine ⟨_, [true, true, true, true, true, true, true, true, true, true, true, true, true, false, false, false, false], [true, false, false, false, false, false, false, false, false, false, false, false, true, false, false, false, false], [4, 10, 3, 8, 9, 2, 7, 1, 6, 5], [?va1_0, ?va1_1, ?va1_2, ?va1_3, ?va1_4, ?va1_5, ?va1_6, ?va1_7, ?va1_8, ?va1_9, ?va1_10, (.slice A2 (S.length + k) k2), ?va1_12, undef, undef, undef, undef], fun w' => w' = w2, rfl, rfl, ?samea0, by kernel_rfl, ?hSa0, ?nxa0⟩
        case samea0 =>
          refine And.intro ?_ ?_
          · with_reducible rfl
          refine And.intro ?_ ?_
          · with_reducible rfl
          refine And.intro ?_ ?_
          · with_reducible rfl
          refine And.intro ?_ ?_
          · with_reducible rfl
          refine And.intro ?_ ?_
          · with_reducible rfl
          refine And.intro ?_ ?_
          · with_reducible rfl
          refine And.intro ?_ ?_
          · with_reducible rfl
          refine And.intro ?_ ?_
          · with_reducible rfl
          refine And.intro ?_ ?_
          · with_reducible rfl
          refine And.intro ?_ ?_
          · with_reducible rfl
          refine And.intro ?_ ?_
          · with_reducible rfl
          refine And.intro ?_ ?_
          · with_reducible rfl
          trivial
        case hSa0 => rfl
        case nxa0 =>
          refine chain_cons _ (by kernel_rfl) rfl rfl ?opsa1 ?wanta1 ?effa1
          case opsa1 =>
            simp only [OpsAt, fillT, List.setIfInBounds_toArray, List.set_cons_zero, List.set_cons_succ]
            refine ⟨.inl ⟨by rfl, opOk_pure fun wS hS => ?_⟩, ?_⟩
            · ((subst hS; go_simp; try simp only [hsl])); try (with_reducible rfl)
            refine ⟨.inl ⟨by rfl, opOk_pure fun wS hS => ?_⟩, ?_⟩
            · ((subst hS; go_simp; try simp only [hsl])); try (with_reducible rfl)
            try trivial
          case wanta1 => rfl
          case effa1 =>
            intro wS hS
            simp only [fillT, List.setIfInBounds_toArray, List.set_cons_zero, List.set_cons_succ]
            rw [hS]
            refine wp_append_zeros _ _ _ _ _ rfl B 5 (.int .u8 0) 1 1 Try.underlying36 Try.underlying3 info_u8 rfl (by decide) (.slice A2 (S.length + k) k2) (S.length + k) ((S ++ L.take k).map (Value.int .u8)) rfl HO.out z rfl ?oc ?oc1 ?b1 ?b2 hB2 ?pp
            case oc => intro u hu; rw [zeros_u8] at hu; simp at hu; obtain ⟨_, rfl⟩ := hu; rfl
            case oc1 => intro u hu; rw [zeros_u8] at hu; simp at hu; subst hu; rfl
            case b1 => unfold maxLen; omega
            case b2 => omega
            case pp =>
              intro v3 w3 hown hgr hat
              obtain ⟨A3, k3, rfl, -, -⟩ := row_val hown
              rw [zeros_u8, ← List.map_append] at hown
              have hgrow : w.drew.grownBy w3 (Value.slice As S.length cs).ownBlock := by
                refine ⟨hgr.os.trans HGr.out.os, hgr.tape.trans HGr.out.tape, hgr.output.trans HGr.out.output, Nat.le_trans HGr.out.size hgr.size, fun j hj hne => ?_⟩
                refine (hgr.block j (Nat.lt_of_lt_of_le hj HGr.out.size) fun e => ?_).trans (HGr.out.block j hj hne)
                rcases HAt.out with e' | e'
                · exact hne (e.trans e')
                · rw [e'] at e; injection e with e; omega
              have hatt : (Value.slice A3 (S.length + k + z) k3).ownBlock = (Value.slice As S.length cs).ownBlock ∨ ∃ q, (Value.slice A3 (S.length + k + z) k3).ownBlock = some q ∧ w.drew.heap.size ≤ q := by
                rcases hat with e' | e'
                · rcases HAt.out with e'' | e''
                  · exact .inl (e'.trans e'')
                  · exact .inr ⟨_, e'.trans e'', Nat.le_refl _⟩
                · exact .inr ⟨_, e', HGr.out.size⟩
              have hlen : S.length + k + z = (S ++ L.take k ++ List.replicate z 0).length := by simp; omega
              rw [hlen] at hown hatt
              obtain ⟨hN, hMo⟩ := HS.out.drew.grow_sure hown hgrow hatt
              rw [← hlen] at hN hMo
              have hh3 : w3.heap[g]? = w.drew.heap[g]? := hgrow.block g hg (fun e => HS.out.row_ne (.inl e.symm) rfl)
              have hx0 : w3.cell? ⟨g, 0, none⟩ = some (.slice As S.length cs) := (World.cell?_of_block (a := ⟨g, 0, none⟩) hh3).trans c0
              have hx1 : w3.cell? ⟨g, 1, none⟩ = some (.slice Al L.length cl) := (World.cell?_of_block (a := ⟨g, 1, none⟩) hh3).trans c1
              have hx3 : w3.cell? ⟨g, 3, none⟩ = some (.int .i64 fuse) := (World.cell?_of_block (a := ⟨g, 3, none⟩) hh3).trans c3
              have hx4 : w3.cell? ⟨g, 4, none⟩ = some (.bool down) := (World.cell?_of_block (a := ⟨g, 4, none⟩) hh3).trans c4
              have hfz : ∀ i, w3.frozen? ⟨g, i, none⟩ = w.frozen? ⟨g, i, none⟩ := fun i => by unfold World.frozen?; simp only [hh3]; rfl
              have hy0 := (hfz 0).trans f0
              have hy1 := (hfz 1).trans f1
              have hy3 := (hfz 3).trans f3
              have hy4 := (hfz 4).trans f4
              have hg3 : g < w3.heap.size := by have := hgrow.size; simp at this; omega
              have HMd : Moves (Foot g (.slice As S.length cs) (.slice Al L.length cl)) (Foot g (.slice As S.length cs) (.slice Al L.length cl)) w w.drew := ⟨(Chg.refl _ _).drew, fun _ h => .inl h⟩
              have HN := Lib.hid (((hN.setLooseNil).setFuse (-1)).setDown false)
              have HF := Lib.hid (HMd.trans hMo)
              clear hN hMo hown hgr hat hgrow hatt hlen hh3 hfz HMd
              refine ⟨_, [true, true, true, true, true, true, true, true, true, true, true, true, true, true, true, true, false], [true, false, false, false, false, false, false, false, false, false, false, false, false, false, true, true, false], [12], [?va2_0, ?va2_1, ?va2_2, ?va2_3, ?va2_4, ?va2_5, ?va2_6, ?va2_7, ?va2_8, ?va2_9, ?va2_10, (.slice A2 (S.length + k) k2), ?va2_12, (.slice A3 (S.length + k + z) k3), ?va2_14, ?va2_15, undef], fun w' => w' = w3, rfl, rfl, ?samea1, by kernel_rfl, ?hSa1, ?nxa1⟩
              case samea1 =>
                refine And.intro ?_ ?_
                · with_reducible rfl
                refine And.intro ?_ ?_
                · with_reducible rfl
                refine And.intro ?_ ?_
                · with_reducible rfl
                refine And.intro ?_ ?_
                · with_reducible rfl
                refine And.intro ?_ ?_
                · with_reducible rfl
                refine And.intro ?_ ?_
                · with_reducible rfl
                refine And.intro ?_ ?_
                · with_reducible rfl
                refine And.intro ?_ ?_
                · with_reducible rfl
                refine And.intro ?_ ?_
                · with_reducible rfl
                refine And.intro ?_ ?_
                · with_reducible rfl
                refine And.intro ?_ ?_
                · with_reducible rfl
                refine And.intro ?_ ?_
                · with_reducible rfl
                refine And.intro ?_ ?_
                · with_reducible rfl
                trivial
              case hSa1 => rfl
              case nxa1 =>
                refine chain_cons _ (by kernel_rfl) rfl rfl ?opsa2 ?wanta2 ?effa2
                case opsa2 =>
                  simp only [OpsAt, fillT, List.setIfInBounds_toArray, List.set_cons_zero, List.set_cons_succ]
                  refine ⟨.inl ⟨by rfl, opOk_pure fun wS hS => ?_⟩, ?_⟩
                  · ((subst hS; go_simp; try simp only [hsl])); try (with_reducible rfl)
                  refine ⟨.inl ⟨by rfl, opOk_pure fun wS hS => ?_⟩, ?_⟩
                  · ((subst hS; go_simp; try simp only [hsl])); try (with_reducible rfl)
                  refine ⟨.inl ⟨by rfl, opOk_pure fun wS hS => ?_⟩, ?_⟩
                  · ((subst hS; go_simp; try simp only [hsl])); try (with_reducible rfl)
                  try trivial
                case wanta2 => rfl
                case effa2 =>
                  intro wS hS
                  simp only [fillT, List.setIfInBounds_toArray, List.set_cons_zero, List.set_cons_succ]
                  rw [hS]
                  refine eff_skip (w' := w3.setCell ⟨g, 0, none⟩ (.slice A3 (S.length + k + z) k3)) ?run ?pp
                  case run => go_simp
                  case pp =>
                    refine ⟨_, [true, true, true, true, true, true, true, true, true, true, true, true, true, true, true, true, true], [false, false, false, false, false, false, false, false, false, false, false, false, false, false, false, false, false], [15, 0, 14], [?va3_0, ?va3_1, ?va3_2, ?va3_3, ?va3_4, ?va3_5, ?va3_6, ?va3_7, ?va3_8, ?va3_9, ?va3_10, (.slice A2 (S.length + k) k2), ?va3_12, (.slice A3 (S.length + k + z) k3), ?va3_14, ?va3_15, undef], fun w' => w' = w3.setCell ⟨g, 0, none⟩ (.slice A3 (S.length + k + z) k3), rfl, rfl, ?samea2, by kernel_rfl, ?hSa2, ?nxa2⟩
                    case samea2 =>
                      refine And.intro ?_ ?_
                      · with_reducible rfl
                      refine And.intro ?_ ?_
                      · with_reducible rfl
                      refine And.intro ?_ ?_
                      · with_reducible rfl
                      refine And.intro ?_ ?_
                      · with_reducible rfl
                      refine And.intro ?_ ?_
                      · with_reducible rfl
                      refine And.intro ?_ ?_
                      · with_reducible rfl
                      refine And.intro ?_ ?_
                      · with_reducible rfl
                      refine And.intro ?_ ?_
                      · with_reducible rfl
                      refine And.intro ?_ ?_
                      · with_reducible rfl
                      refine And.intro ?_ ?_
                      · with_reducible rfl
                      refine And.intro ?_ ?_
                      · with_reducible rfl
                      refine And.intro ?_ ?_
                      · with_reducible rfl
                      refine And.intro ?_ ?_
                      · with_reducible rfl
                      refine And.intro ?_ ?_
                      · with_reducible rfl
                      refine And.intro ?_ ?_
                      · with_reducible rfl
                      refine And.intro ?_ ?_
                      · with_reducible rfl
                      trivial
                    case hSa2 => rfl
                    case nxa2 =>
                      refine chain_nil (by kernel_rfl) rfl ?opsa3 ?enda3
                      case opsa3 =>
                        simp only [OpsAt, fillT, List.setIfInBounds_toArray, List.set_cons_zero, List.set_cons_succ]
                        try trivial
                      case enda3 =>
                        intro wE hE
                        simp only [fillT, List.setIfInBounds_toArray, List.set_cons_zero, List.set_cons_succ]
                        rw [hE]
                        go_wp2
                        go_ret
                        exact ⟨rfl, _, ⟨_, _, rfl, HN.out⟩, HF.out.trans ⟨(((Chg.refl _ _).setCell (.inl (.inl rfl)) _).setCell (.inl (.inl rfl)) _).setCell (.inl (.inl rfl)) _, fun j hj => .inl (by rcases hj with rfl | hj | hj; exact .inl rfl; exact .inr (.inl hj); cases hj)⟩⟩
open Go.RowKit

theorem append_nil (w : World) (v : Value) : Calls Try.prog 43 #[.pointer none, v] w fun e w' => e = .returned (.int .i64 2) ∧ w' = w := by
  have HU := Lib.hid (up_nil w)
  go_enter Try.func43, Try.ntmps43
  go_wp2_with fail
  refine HU.out.mono ?_
  rintro e w1 ⟨rfl, rfl⟩
  go_wp2
  go_ret
  exact ⟨rfl, rfl⟩
end Go.Proofs.Ytidcdfilfccigaa
