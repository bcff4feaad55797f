/- Walk over the law TillPlays; its argument as it reads. -/
import Derived.Test.YtmcfmabnggffjaaIs09
import Derived.Test.YtmcfmabnggffjaaRead
import Derived.Test.YtmcfmabnggffjaaReadW
import Derived.Test.YtmcfmabnggffjaaEnd
import Derived.LoopTactic
namespace Go.Proofs.Ytmcfmabnggffjaa
set_option linter.unusedVariables false
set_option linter.unusedSimpArgs false
set_option linter.unnecessarySimpa false
open Go.RowKit

abbrev OpT := Int × Int × Int × Int × Unit
def rOp : Rd OpT := rSeq 1 (rInt .i64) (rSeq 1 (rInt .i64) (rSeq 1 (rInt .i64) (rSeq 1 (rInt .u64) rNil)))
theorem reads_op : Reads Try.prog 43 4 rOp :=
  reads_struct Try.underlying43 (by kernel_rfl) (.cons rfl (reads_int Try.underlying3 (by kernel_rfl)) (.cons rfl (reads_int Try.underlying3 (by kernel_rfl)) (.cons rfl (reads_int Try.underlying3 (by kernel_rfl))
    (.cons rfl (reads_int Try.underlying23 (by kernel_rfl)) (.nil _)))))
theorem reads_ops : Reads Try.prog 37 1 (rSlice 4 32 rOp) := reads_slice Try.underlying37 (by kernel_rfl) (by kernel_rfl) (by decide) reads_op
theorem take_one {α : Type} {l : List α} {a : α} (h : l.take 1 = [a]) : l = a :: l.drop 1 := by
  match l, h with
  | x :: l, h => simp at h; subst h; rfl
/-- A step, written out. -/
structure OpAt (cs : List Value) (x : OpT) : Prop where
  cells : cs = [.int .i64 x.1, .int .i64 x.2.1, .int .i64 x.2.2.1, .int .u64 x.2.2.2.1]
  wf0 : -9223372036854775808 ≤ x.1 ∧ x.1 ≤ 9223372036854775807
  wf1 : -9223372036854775808 ≤ x.2.1 ∧ x.2.1 ≤ 9223372036854775807
  wf2 : -9223372036854775808 ≤ x.2.2.1 ∧ x.2.2.1 ≤ 9223372036854775807
  wf3 : U64 x.2.2.2.1
theorem op_at {W : World} {cs : List Value} {x : OpT} (h : rOp W cs x) : OpAt cs x := by
  obtain ⟨⟨h1, w1⟩, ⟨h2, w2⟩, ⟨h3, w3⟩, ⟨h4, w4⟩, h5⟩ := h
  have e5 : List.drop 1 (List.drop 1 (List.drop 1 (List.drop 1 cs))) = [] := h5
  have e1 := take_one h1
  have e2 := take_one h2
  have e3 := take_one h3
  have e4 := take_one h4
  rw [e5] at e4
  rw [e4] at e3
  rw [e3] at e2
  rw [e2] at e1
  exact ⟨e1, bd_i64 w1, bd_i64 w2, bd_i64 w3, ⟨(bd_u64 w4).1, by have := (bd_u64 w4).2; omega⟩⟩
theorem ord_sum (t : Tl) (a n : Int) : (ordS t a n).has.sum + (ordS t a n).kept = t.has.sum + t.kept := by unfold ordS; split <;> rfl
set_option maxRecDepth 100000 in
set_option maxHeartbeats 4000000 in
theorem plays_any (W : World) (A0 : Option Addr) (C0 : Nat) (L : List Int) (hw : Words W A0 C0 L) (A : Option Addr) (c : Nat) (ops : List OpT) (hA : A = none → ops.length = 0 ∧ c = 0) (hb : ops.length * 32 ≤ 140737488355328) (cells : List Value) (hl : cells.length = ops.length * 4) (hs : SrcOf W A cells)
    (hel : ∀ (i : Nat) (x : OpT), ops[i]? = some x → rOp W ((cells.drop (i * 4)).take 4) x) :
    Calls Try.prog 5 #[.slice A0 L.length C0, .slice A ops.length c] W fun e w' => e = .returned (.bool true) ∧ Below W.heap.size W w' := by
  have HW := Lib.hid hw
  have hA' : A = none → cells = [] := fun h => List.eq_nil_of_length_eq_zero (by rw [hl, (hA h).1])
  have hrd : ∀ (k : Nat) (x : OpT), ops[k]? = some x → ∃ b off, A = some ⟨b, off, none⟩ ∧ b < W.heap.size ∧ W.cell? ⟨b, off + k * 4, none⟩ = some (.int .i64 x.1) ∧ W.cell? ⟨b, off + k * 4 + 1, none⟩ = some (.int .i64 x.2.1) ∧
      W.cell? ⟨b, off + k * 4 + 2, none⟩ = some (.int .i64 x.2.2.1) ∧ W.cell? ⟨b, off + k * 4 + 3, none⟩ = some (.int .u64 x.2.2.2.1) ∧ OpAt ((cells.drop (k * 4)).take 4) x := by
    intro k x hx
    have hk : k < ops.length := (List.getElem?_eq_some_iff.1 hx).1
    have ho := op_at (hel k x hx)
    obtain ⟨b, off, rfl, hlt, hc⟩ := src_plain hs hA' (by rintro rfl; simp at hl; omega)
    have key : ∀ (j : Nat) (u : Value), [Value.int .i64 x.1, .int .i64 x.2.1, .int .i64 x.2.2.1, .int .u64 x.2.2.2.1][j]? = some u → W.cell? ⟨b, off + k * 4 + j, none⟩ = some u := by
      intro j u hj
      have := hc _ u (cells_at ho.cells hj)
      rwa [← Nat.add_assoc] at this
    exact ⟨b, off, rfl, hlt, key 0 _ rfl, key 1 _ rfl, key 2 _ rfl, key 3 _ rfl, ho⟩
  have HRD := Lib.hid hrd
  have hlen : ops.length ≤ 9223372036854775807 := by omega
  clear hA hs hel hrd hA' hl hb
  rcases (show newE L = 0 ∨ newE L ≠ 0 by omega) with he | he
  rotate_left 1
  · have HN := Lib.hid (new_bad W A0 C0 L hw he)
    have HR := Lib.hid (rnew_bad W A0 C0 L hw he)
    obtain ⟨x, hx⟩ : ∃ x, newE L = x := ⟨_, rfl⟩
    rw [hx] at HN HR he
    have HA := Lib.hid (awake_any W)
    clear hw hx he hlen HRD HW
    go_enter Try.func5, Try.ntmps5
    go_wp2_with fail
    refine (HN.out).mono ?_
    rintro e w1 ⟨rfl, rfl⟩
    go_wp2_with fail
    refine (HR.out).mono ?_
    rintro e w1 ⟨rfl, rfl⟩
    go_wp2_with fail
    refine (HA.out).mono ?_
    rintro e w2 ⟨rfl, hb⟩
    have HB := Lib.hid hb
    clear hb
    go_wp2
    go_ret
    exact ⟨rfl, HB.out⟩
  · have HN := Lib.hid (new_ok W A0 C0 L hw he)
    obtain ⟨h16, hs⟩ := newE_ok he
    have O0 := Lib.hid (tl0_ok hw.u h16 hs)
    have HE := Lib.hid he
    obtain ⟨q0, hq0⟩ : ∃ q, (tl0 L).has.sum + (tl0 L).kept = q := ⟨_, rfl⟩
    have HQ := Lib.hid hq0
    obtain ⟨t0, ht0⟩ : ∃ t, tl0 L = t := ⟨_, rfl⟩
    rw [ht0] at HN O0 HQ
    have HT := Lib.hid ht0
    clear hw he hs hq0 h16 ht0
    go_enter Try.func5, Try.ntmps5
    go_wp2_with fail
    refine (HN.out).mono ?_
    rintro e w2 ⟨m, rfl, h2⟩
    have H2 := Lib.hid h2
    clear h2
    have hw3 := HW.out.mono (src_rest H2.out (i := 0) rfl HW.out.src (src_lt HW.out.src))
    have hr3 := rnew_ok w2 A0 C0 L hw3 HE.out
    rw [HT.out] at hr3
    go_wp2_with fail
    refine (hr3).mono ?_
    rintro e w3 ⟨g, rfl, g3⟩
    have h3 := H2.out.pushNew g3
    try simp only [List.cons_append, List.nil_append, List.set_cons_succ, List.set_cons_zero] at h3
    have H3 := Lib.hid h3
    clear g3 h3 hw3 hr3
    have hw4 := HW.out.mono (src_rest H3.out (i := 0) rfl HW.out.src (src_lt HW.out.src))
    have hr4 := new_ok w3 A0 C0 L hw4 HE.out
    rw [HT.out] at hr4
    go_wp2_with fail
    refine (hr4).mono ?_
    rintro e w4 ⟨m2, rfl, g4⟩
    have h4 := H3.out.pushNew g4
    try simp only [List.cons_append, List.nil_append, List.set_cons_succ, List.set_cons_zero] at h4
    have H4 := Lib.hid h4
    clear g4 h4 hw4 hr4
    obtain ⟨F5, f5⟩ := H4.out.get (i := 1) rfl
    have ht5 := twin_any w4 m t0 F5 f5 O0.out
    go_wp2_with fail
    refine (ht5).mono ?_
    rintro e w5 ⟨m3, rfl, g5⟩
    have h5 := H4.out.pushNew g5
    try simp only [List.cons_append, List.nil_append, List.set_cons_succ, List.set_cons_zero] at h5
    have H5 := Lib.hid h5
    clear g5 h5 ht5 f5
    obtain ⟨F6, f6⟩ := H5.out.get (i := 1) rfl
    have ha6 := all_any w5 m t0 F6 f6 O0.out
    rw [HQ.out] at ha6
    go_wp2_with fail
    refine (ha6).mono ?_
    rintro e w6 ⟨rfl, hb6⟩
    have h6 := H5.out.grow hb6
    have H6 := Lib.hid h6
    clear h6 hb6 ha6 f6
    clear H2 H3 H4 H5 HN
    go_wp2
    go_loopw [52] (fun i wr => ∃ (k : Nat) (t : Tl), k ≤ ops.length ∧ i = .int .i64 k ∧ t.Ok ∧ t.has.sum + t.kept = q0 ∧ Sat W wr [rest W (· < W.heap.size), tillX 54 m t, tillX 59 g t, tillX 54 m2 t0, tillX 54 m3 t0]) (fun i _ => ops.length - (intOf i).toNat)
    case atStart => exact ⟨0, t0, Nat.zero_le _, rfl, O0.out, HQ.out, H6.out⟩
    case round =>
      obtain ⟨k, t, hk, rfl, hok, hq, hS⟩ := hrel
      have O := Lib.hid hok
      have Q := Lib.hid hq
      clear hok hq H6
      by_cases hlt : k < ops.length
      · obtain ⟨b, off, rfl, hblt, c0, c1, c2, c3, ho⟩ := HRD.out k ops[k] (List.getElem?_eq_getElem hlt)
        generalize ops[k] = x at *
        obtain ⟨kind, a, z, n, u⟩ := x
        dsimp only at c0 c1 c2 c3
        obtain ⟨-, f0, f1, f2, hun⟩ := ho
        dsimp only at f0 f1 f2 hun
        have hr : ∀ o, wr.cell? ⟨b, o, none⟩ = W.cell? ⟨b, o, none⟩ := fun o => World.cell?_of_block (a := ⟨b, o, none⟩) (hS.fact (i := 0) rfl b hblt)
        rw [← hr] at c0 c1 c2 c3
        have hbw := oldLt hS (i := 0) rfl hblt
        have hS2 := hS.alloc #[.int .i64 kind, .int .i64 a, .int .i64 z, .int .u64 n] 43
        try simp only [List.cons_append, List.nil_append, List.set_cons_succ, List.set_cons_zero] at hS2
        have HS2 := Lib.hid hS2
        have HU := Lib.hid hun
        clear hS2 hS hr hun
        rcases (show (60 ≤ k) ∨ (k < 60) by omega) with h6 | h6
        · skip
          have hw3 := HW.out.mono (src_rest HS2.out (i := 0) rfl HW.out.src (src_lt HW.out.src))
          have hr3 := rnew_ok _ A0 C0 L hw3 HE.out
          rw [HT.out] at hr3
          go_wp2_with fail
          refine (hr3).mono ?_
          rintro e w7 ⟨n, rfl, g7⟩
          have h7 := HS2.out.pushNew g7
          try simp only [List.cons_append, List.nil_append, List.set_cons_succ, List.set_cons_zero] at h7
          have H7 := Lib.hid h7
          clear g7 h7 hw3 hr3
          go_wp2_with fail
          refine (awake_any _).mono ?_
          rintro e w8 ⟨rfl, hb⟩
          have h8 := H7.out.grow hb
          have H8 := Lib.hid h8
          clear hb h8 H7
          go_wp2_with fail
          refine (is_sat H8.out (i := 4) (j := 6) rfl rfl O0.out).mono ?_
          rintro e w9 ⟨rfl, h9⟩
          try simp only [List.cons_append, List.nil_append, List.set_cons_succ, List.set_cons_zero] at h9
          have H9 := Lib.hid h9
          clear h9
          go_wp2_with fail
          refine (is_sat H9.out (i := 3) (j := 6) rfl rfl O0.out).mono ?_
          rintro e w10 ⟨rfl, h10⟩
          try simp only [List.cons_append, List.nil_append, List.set_cons_succ, List.set_cons_zero] at h10
          have H10 := Lib.hid h10
          clear h10
          have hbl := H10.out.below (i := 0) rfl
          have HBL := Lib.hid hbl
          clear hbl
          go_wp2
          go_ret
          exact ⟨rfl, HBL.out⟩
        · rcases (show kind = 0 ∨ kind = 1 ∨ kind = 2 ∨ kind = 3 ∨ (kind ≠ 0 ∧ kind ≠ 1 ∧ kind ≠ 2 ∧ kind ≠ 3) by omega) with rfl | rfl | rfl | rfl | ⟨k0, k1, k2, k3⟩
          · obtain ⟨x, hx⟩ : ∃ x, ordE t a n = x := ⟨_, rfl⟩
            obtain ⟨t', ht'⟩ : ∃ t', ordS t a n = t' := ⟨_, rfl⟩
            have X := Lib.hid hx
            have T' := Lib.hid ht'
            have hok' := (O.out.ord a n HU.out.1)
            have hsm' := ((ord_sum t a n).trans Q.out)
            rw [ht'] at hok' hsm'
            have O' := Lib.hid hok'
            have Q' := Lib.hid hsm'
            clear hx ht' hok' hsm'
            go_wp2_with fail
            have hS3 := HS2.out.drew
            have hk3 := hS3.all
            simp only [allFacts, box_facts, row_facts, emp_facts, cellFacts, Nat.zero_add, Nat.reduceAdd, true_and, and_true] at hk3
            have HS3 := Lib.hid hS3
            clear hS3 HS2 c0 c1 c2 c3 HRD
            refine region_chain (E := [5, 11]) (kn := [true, true, true, true, true, false, true, true, true, true, true, false, false, false]) (mask := [true, true, true, true, true, false, true, true, true, true, true, false, false, false]) (vs := [?vr00_0, ?vr00_1, ?vr00_2, ?vr00_3, ?vr00_4, undef, ?vr00_6, ?vr00_7, ?vr00_8, ?vr00_9, ?vr00_10, undef, undef, undef]) (S := fun w' => w' = (wr.alloc (.cells #[.int .i64 0, .int .i64 a, .int .i64 z, .int .u64 n] 43)).drew) (by kernel_rfl) (by kernel_rfl) (by kernel_rfl) (by kernel_rfl) (by kernel_rfl) ?hSr0 ?hchr0
            case hSr0 => exact rfl
            case hchr0 =>
              refine chain_cons _ (by kernel_rfl) rfl rfl ?opsr00 ?wantr00 ?effr00
              case opsr00 =>
                simp only [OpsAt, fillT, List.setIfInBounds_toArray, List.set_cons_zero, List.set_cons_succ]
                refine ⟨.inl ⟨by rfl, opOk_pure fun wS hS => ?_⟩, ?_⟩
                · ((subst hS; go_simp; try rfl)); try (with_reducible rfl)
                refine ⟨.inl ⟨by rfl, opOk_pure fun wS hS => ?_⟩, ?_⟩
                · ((subst hS; go_simp; try rfl)); try (with_reducible rfl)
                refine ⟨.inl ⟨by rfl, opOk_pure fun wS hS => ?_⟩, ?_⟩
                · ((subst hS; go_simp; try rfl)); try (with_reducible rfl)
                refine ⟨.inl ⟨by rfl, opOk_pure fun wS hS => ?_⟩, ?_⟩
                · ((subst hS; go_simp; try rfl)); try (with_reducible rfl)
                refine ⟨.inl ⟨by rfl, opOk_pure fun wS hS => ?_⟩, ?_⟩
                · ((subst hS; go_simp; try rfl)); try (with_reducible rfl)
                refine ⟨.inl ⟨by rfl, opOk_pure fun wS hS => ?_⟩, ?_⟩
                · ((subst hS; go_simp; try rfl)); try (with_reducible rfl)
                refine ⟨.inl ⟨by rfl, opOk_pure fun wS hS => ?_⟩, ?_⟩
                · ((subst hS; go_simp; try rfl)); try (with_reducible rfl)
                refine ⟨.inl ⟨by rfl, opOk_pure fun wS hS => ?_⟩, ?_⟩
                · ((subst hS; go_simp; try rfl)); try (with_reducible rfl)
                refine ⟨.inl ⟨by rfl, opOk_pure fun wS hS => ?_⟩, ?_⟩
                · ((subst hS; go_simp; try rfl)); try (with_reducible rfl)
                refine ⟨.inl ⟨by rfl, opOk_pure fun wS hS => ?_⟩, ?_⟩
                · ((subst hS; go_simp; try rfl)); try (with_reducible rfl)
                try trivial
              case wantr00 => (try simp only [fillT, List.setIfInBounds_toArray, List.set_cons_zero, List.set_cons_succ]) <;> rfl
              case effr00 =>
                intro wS hS
                simp only [fillT, List.setIfInBounds_toArray, List.set_cons_zero, List.set_cons_succ]
                rw [hS]
                refine eff_call (f := 15) (args := #[.pointer (some ⟨m, 0, none⟩), .int .i64 a, .int .u64 n]) (by go_simp) ?_
                refine (HS3.out.call1 (i := 1) (A' := tillX 54 m t') (Q := fun e => e = .returned (.int .i64 x)) rfl (fun F hF _ => by have := order_any (wr.alloc (.cells #[.int .i64 0, .int .i64 a, .int .i64 z, .int .u64 n] 43)).drew m t O.out a n HU.out F hF; rwa [X.out, T'.out] at this)).mono ?_
                rintro e w5 ⟨rfl, h⟩
                try simp only [List.cons_append, List.nil_append, List.set_cons_succ, List.set_cons_zero] at h
                have hk5 := h.all
                simp only [allFacts, box_facts, row_facts, emp_facts, cellFacts, Nat.zero_add, Nat.reduceAdd, true_and, and_true] at hk5
                have Hw5 := Lib.hid h
                clear h
                refine ⟨_, rfl, ?_⟩
                refine ⟨_, [true, true, true, true, true, true, true, true, true, true, true, false, false, false], [false, false, false, false, false, false, true, true, true, true, true, false, false, false], [0, 2, 4, 1, 3], [?vr01_0, ?vr01_1, ?vr01_2, ?vr01_3, ?vr01_4, (.int .i64 x), ?vr01_6, ?vr01_7, ?vr01_8, ?vr01_9, ?vr01_10, undef, undef, undef], fun w' => w' = w5, rfl, rfl, ?samer00, by kernel_rfl, ?hSr00, ?nxr00⟩
                case samer00 =>
                  refine And.intro ?_ ?_
                  · with_reducible rfl
                  refine And.intro ?_ ?_
                  · with_reducible rfl
                  refine And.intro ?_ ?_
                  · with_reducible rfl
                  refine And.intro ?_ ?_
                  · with_reducible rfl
                  refine And.intro ?_ ?_
                  · with_reducible rfl
                  refine And.intro ?_ ?_
                  · with_reducible rfl
                  refine And.intro ?_ ?_
                  · with_reducible rfl
                  refine And.intro ?_ ?_
                  · with_reducible rfl
                  refine And.intro ?_ ?_
                  · with_reducible rfl
                  refine And.intro ?_ ?_
                  · with_reducible rfl
                  trivial
                case hSr00 => rfl
                case nxr00 =>
                  refine chain_cons _ (by kernel_rfl) rfl rfl ?opsr01 ?wantr01 ?effr01
                  case opsr01 =>
                    simp only [OpsAt, fillT, List.setIfInBounds_toArray, List.set_cons_zero, List.set_cons_succ]
                    refine ⟨.inl ⟨by rfl, opOk_pure fun wS hS => ?_⟩, ?_⟩
                    · ((subst hS; go_simp; try rfl)); try (with_reducible rfl)
                    refine ⟨.inl ⟨by rfl, opOk_pure fun wS hS => ?_⟩, ?_⟩
                    · ((subst hS; go_simp; try rfl)); try (with_reducible rfl)
                    refine ⟨.inl ⟨by rfl, opOk_pure fun wS hS => ?_⟩, ?_⟩
                    · ((subst hS; go_simp; try rfl)); try (with_reducible rfl)
                    refine ⟨.inl ⟨by rfl, opOk_pure fun wS hS => ?_⟩, ?_⟩
                    · ((subst hS; go_simp; try rfl)); try (with_reducible rfl)
                    refine ⟨.inl ⟨by rfl, opOk_pure fun wS hS => ?_⟩, ?_⟩
                    · ((subst hS; go_simp; try rfl)); try (with_reducible rfl)
                    try trivial
                  case wantr01 => (try simp only [fillT, List.setIfInBounds_toArray, List.set_cons_zero, List.set_cons_succ]) <;> rfl
                  case effr01 =>
                    intro wS hS
                    simp only [fillT, List.setIfInBounds_toArray, List.set_cons_zero, List.set_cons_succ]
                    rw [hS]
                    refine eff_call (f := 20) (args := #[.pointer (some ⟨g, 0, none⟩), .int .i64 a, .int .u64 n]) (by go_simp) ?_
                    refine (Hw5.out.call1 (i := 2) (A' := tillX 59 g t') (Q := fun e => e = .returned (.int .i64 x)) rfl (fun F hF _ => by have := rorder_any w5 g t O.out a n HU.out F hF; rwa [X.out, T'.out] at this)).mono ?_
                    rintro e w6 ⟨rfl, h⟩
                    try simp only [List.cons_append, List.nil_append, List.set_cons_succ, List.set_cons_zero] at h
                    have hk5 := h.all
                    simp only [allFacts, box_facts, row_facts, emp_facts, cellFacts, Nat.zero_add, Nat.reduceAdd, true_and, and_true] at hk5
                    have Hw6 := Lib.hid h
                    clear h
                    refine ⟨_, rfl, ?_⟩
                    refine ⟨_, [true, true, true, true, true, true, true, true, true, true, true, true, true, true], [false, false, false, false, false, false, false, false, false, false, false, false, true, true], [6, 8, 10, 7, 9], [?vr02_0, ?vr02_1, ?vr02_2, ?vr02_3, ?vr02_4, (.int .i64 x), ?vr02_6, ?vr02_7, ?vr02_8, ?vr02_9, ?vr02_10, (.int .i64 x), ?vr02_12, ?vr02_13], fun w' => w' = w6, rfl, rfl, ?samer01, by kernel_rfl, ?hSr01, ?nxr01⟩
                    case samer01 =>
                      refine And.intro ?_ ?_
                      · with_reducible rfl
                      refine And.intro ?_ ?_
                      · with_reducible rfl
                      refine And.intro ?_ ?_
                      · with_reducible rfl
                      refine And.intro ?_ ?_
                      · with_reducible rfl
                      refine And.intro ?_ ?_
                      · with_reducible rfl
                      refine And.intro ?_ ?_
                      · with_reducible rfl
                      refine And.intro ?_ ?_
                      · with_reducible rfl
                      refine And.intro ?_ ?_
                      · with_reducible rfl
                      refine And.intro ?_ ?_
                      · with_reducible rfl
                      refine And.intro ?_ ?_
                      · with_reducible rfl
                      refine And.intro ?_ ?_
                      · with_reducible rfl
                      trivial
                    case hSr01 => rfl
                    case nxr01 =>
                      refine chain_nil (by kernel_rfl) rfl ?opsr02 ?endr02
                      case opsr02 =>
                        simp only [OpsAt, fillT, List.setIfInBounds_toArray, List.set_cons_zero, List.set_cons_succ]
                        refine ⟨.inl ⟨by rfl, opOk_pure fun wS hS => ?_⟩, ?_⟩
                        · ((subst hS; go_simp; try rfl)); try (with_reducible rfl)
                        refine ⟨.inl ⟨by rfl, opOk_pure fun wS hS => ?_⟩, ?_⟩
                        · ((subst hS; go_simp; try rfl)); try (with_reducible rfl)
                        try trivial
                      case endr02 =>
                        intro wE hE
                        simp only [fillT, List.setIfInBounds_toArray, List.set_cons_zero, List.set_cons_succ]
                        rw [hE]
                        clear hk3 hk5
                        go_wp2_with fail
                        refine (is_sat Hw6.out (i := 1) (j := 2) rfl rfl O'.out).mono ?_
                        rintro e w7 ⟨rfl, h7⟩
                        try simp only [List.cons_append, List.nil_append, List.set_cons_succ, List.set_cons_zero] at h7
                        have H7 := Lib.hid h7
                        clear h7
                        obtain ⟨F8, f8⟩ := H7.out.get (i := 1) rfl
                        have ha8 := all_any w7 m t' F8 f8 O'.out
                        rw [Q'.out] at ha8
                        go_wp2_with fail
                        refine (ha8).mono ?_
                        rintro e w8 ⟨rfl, hb8⟩
                        have h8 := (H7.out.grow hb8).left (l := [_, _, _, _, _]) (l' := [_])
                        have H8 := Lib.hid h8
                        clear h8 hb8 ha8 f8
                        go_wp2
                        go_roundw
                        case rel => exact ⟨k + 1, t', by omega, by go_num, O'.out, Q'.out, H8.out⟩
                        case measure => (simp [intOf]; try omega)
          · obtain ⟨x, hx⟩ : ∃ x, keepE t a n = x := ⟨_, rfl⟩
            obtain ⟨t', ht'⟩ : ∃ t', keepS t a n = t' := ⟨_, rfl⟩
            have X := Lib.hid hx
            have T' := Lib.hid ht'
            have hok' := (O.out.keep a n HU.out.1).1
            have hsm' := ((O.out.keep a n HU.out.1).2.trans Q.out)
            rw [ht'] at hok' hsm'
            have O' := Lib.hid hok'
            have Q' := Lib.hid hsm'
            clear hx ht' hok' hsm'
            go_wp2_with fail
            have hS3 := HS2.out.drew
            have hk3 := hS3.all
            simp only [allFacts, box_facts, row_facts, emp_facts, cellFacts, Nat.zero_add, Nat.reduceAdd, true_and, and_true] at hk3
            have HS3 := Lib.hid hS3
            clear hS3 HS2 c0 c1 c2 c3 HRD
            refine region_chain (E := [5, 11]) (kn := [true, true, true, true, true, false, true, true, true, true, true, false, false, false]) (mask := [true, true, true, true, true, false, true, true, true, true, true, false, false, false]) (vs := [?vr10_0, ?vr10_1, ?vr10_2, ?vr10_3, ?vr10_4, undef, ?vr10_6, ?vr10_7, ?vr10_8, ?vr10_9, ?vr10_10, undef, undef, undef]) (S := fun w' => w' = (wr.alloc (.cells #[.int .i64 1, .int .i64 a, .int .i64 z, .int .u64 n] 43)).drew) (by kernel_rfl) (by kernel_rfl) (by kernel_rfl) (by kernel_rfl) (by kernel_rfl) ?hSr1 ?hchr1
            case hSr1 => exact rfl
            case hchr1 =>
              refine chain_cons _ (by kernel_rfl) rfl rfl ?opsr10 ?wantr10 ?effr10
              case opsr10 =>
                simp only [OpsAt, fillT, List.setIfInBounds_toArray, List.set_cons_zero, List.set_cons_succ]
                refine ⟨.inl ⟨by rfl, opOk_pure fun wS hS => ?_⟩, ?_⟩
                · ((subst hS; go_simp; try rfl)); try (with_reducible rfl)
                refine ⟨.inl ⟨by rfl, opOk_pure fun wS hS => ?_⟩, ?_⟩
                · ((subst hS; go_simp; try rfl)); try (with_reducible rfl)
                refine ⟨.inl ⟨by rfl, opOk_pure fun wS hS => ?_⟩, ?_⟩
                · ((subst hS; go_simp; try rfl)); try (with_reducible rfl)
                refine ⟨.inl ⟨by rfl, opOk_pure fun wS hS => ?_⟩, ?_⟩
                · ((subst hS; go_simp; try rfl)); try (with_reducible rfl)
                refine ⟨.inl ⟨by rfl, opOk_pure fun wS hS => ?_⟩, ?_⟩
                · ((subst hS; go_simp; try rfl)); try (with_reducible rfl)
                refine ⟨.inl ⟨by rfl, opOk_pure fun wS hS => ?_⟩, ?_⟩
                · ((subst hS; go_simp; try rfl)); try (with_reducible rfl)
                refine ⟨.inl ⟨by rfl, opOk_pure fun wS hS => ?_⟩, ?_⟩
                · ((subst hS; go_simp; try rfl)); try (with_reducible rfl)
                refine ⟨.inl ⟨by rfl, opOk_pure fun wS hS => ?_⟩, ?_⟩
                · ((subst hS; go_simp; try rfl)); try (with_reducible rfl)
                refine ⟨.inl ⟨by rfl, opOk_pure fun wS hS => ?_⟩, ?_⟩
                · ((subst hS; go_simp; try rfl)); try (with_reducible rfl)
                refine ⟨.inl ⟨by rfl, opOk_pure fun wS hS => ?_⟩, ?_⟩
                · ((subst hS; go_simp; try rfl)); try (with_reducible rfl)
                try trivial
              case wantr10 => (try simp only [fillT, List.setIfInBounds_toArray, List.set_cons_zero, List.set_cons_succ]) <;> rfl
              case effr10 =>
                intro wS hS
                simp only [fillT, List.setIfInBounds_toArray, List.set_cons_zero, List.set_cons_succ]
                rw [hS]
                refine eff_call (f := 10) (args := #[.pointer (some ⟨m, 0, none⟩), .int .i64 a, .int .u64 n]) (by go_simp) ?_
                refine (HS3.out.call1 (i := 1) (A' := tillX 54 m t') (Q := fun e => e = .returned (.int .i64 x)) rfl (fun F hF _ => by have := keep_any (wr.alloc (.cells #[.int .i64 1, .int .i64 a, .int .i64 z, .int .u64 n] 43)).drew m t O.out a n HU.out F hF; rwa [X.out, T'.out] at this)).mono ?_
                rintro e w5 ⟨rfl, h⟩
                try simp only [List.cons_append, List.nil_append, List.set_cons_succ, List.set_cons_zero] at h
                have hk5 := h.all
                simp only [allFacts, box_facts, row_facts, emp_facts, cellFacts, Nat.zero_add, Nat.reduceAdd, true_and, and_true] at hk5
                have Hw5 := Lib.hid h
                clear h
                refine ⟨_, rfl, ?_⟩
                refine ⟨_, [true, true, true, true, true, true, true, true, true, true, true, false, false, false], [false, false, false, false, false, false, true, true, true, true, true, false, false, false], [0, 2, 4, 1, 3], [?vr11_0, ?vr11_1, ?vr11_2, ?vr11_3, ?vr11_4, (.int .i64 x), ?vr11_6, ?vr11_7, ?vr11_8, ?vr11_9, ?vr11_10, undef, undef, undef], fun w' => w' = w5, rfl, rfl, ?samer10, by kernel_rfl, ?hSr10, ?nxr10⟩
                case samer10 =>
                  refine And.intro ?_ ?_
                  · with_reducible rfl
                  refine And.intro ?_ ?_
                  · with_reducible rfl
                  refine And.intro ?_ ?_
                  · with_reducible rfl
                  refine And.intro ?_ ?_
                  · with_reducible rfl
                  refine And.intro ?_ ?_
                  · with_reducible rfl
                  refine And.intro ?_ ?_
                  · with_reducible rfl
                  refine And.intro ?_ ?_
                  · with_reducible rfl
                  refine And.intro ?_ ?_
                  · with_reducible rfl
                  refine And.intro ?_ ?_
                  · with_reducible rfl
                  refine And.intro ?_ ?_
                  · with_reducible rfl
                  trivial
                case hSr10 => rfl
                case nxr10 =>
                  refine chain_cons _ (by kernel_rfl) rfl rfl ?opsr11 ?wantr11 ?effr11
                  case opsr11 =>
                    simp only [OpsAt, fillT, List.setIfInBounds_toArray, List.set_cons_zero, List.set_cons_succ]
                    refine ⟨.inl ⟨by rfl, opOk_pure fun wS hS => ?_⟩, ?_⟩
                    · ((subst hS; go_simp; try rfl)); try (with_reducible rfl)
                    refine ⟨.inl ⟨by rfl, opOk_pure fun wS hS => ?_⟩, ?_⟩
                    · ((subst hS; go_simp; try rfl)); try (with_reducible rfl)
                    refine ⟨.inl ⟨by rfl, opOk_pure fun wS hS => ?_⟩, ?_⟩
                    · ((subst hS; go_simp; try rfl)); try (with_reducible rfl)
                    refine ⟨.inl ⟨by rfl, opOk_pure fun wS hS => ?_⟩, ?_⟩
                    · ((subst hS; go_simp; try rfl)); try (with_reducible rfl)
                    refine ⟨.inl ⟨by rfl, opOk_pure fun wS hS => ?_⟩, ?_⟩
                    · ((subst hS; go_simp; try rfl)); try (with_reducible rfl)
                    try trivial
                  case wantr11 => (try simp only [fillT, List.setIfInBounds_toArray, List.set_cons_zero, List.set_cons_succ]) <;> rfl
                  case effr11 =>
                    intro wS hS
                    simp only [fillT, List.setIfInBounds_toArray, List.set_cons_zero, List.set_cons_succ]
                    rw [hS]
                    refine eff_call (f := 21) (args := #[.pointer (some ⟨g, 0, none⟩), .int .i64 a, .int .u64 n]) (by go_simp) ?_
                    refine (Hw5.out.call1 (i := 2) (A' := tillX 59 g t') (Q := fun e => e = .returned (.int .i64 x)) rfl (fun F hF _ => by have := rkeep_any w5 g t O.out a n HU.out F hF; rwa [X.out, T'.out] at this)).mono ?_
                    rintro e w6 ⟨rfl, h⟩
                    try simp only [List.cons_append, List.nil_append, List.set_cons_succ, List.set_cons_zero] at h
                    have hk5 := h.all
                    simp only [allFacts, box_facts, row_facts, emp_facts, cellFacts, Nat.zero_add, Nat.reduceAdd, true_and, and_true] at hk5
                    have Hw6 := Lib.hid h
                    clear h
                    refine ⟨_, rfl, ?_⟩
                    refine ⟨_, [true, true, true, true, true, true, true, true, true, true, true, true, true, true], [false, false, false, false, false, false, false, false, false, false, false, false, true, true], [6, 8, 10, 7, 9], [?vr12_0, ?vr12_1, ?vr12_2, ?vr12_3, ?vr12_4, (.int .i64 x), ?vr12_6, ?vr12_7, ?vr12_8, ?vr12_9, ?vr12_10, (.int .i64 x), ?vr12_12, ?vr12_13], fun w' => w' = w6, rfl, rfl, ?samer11, by kernel_rfl, ?hSr11, ?nxr11⟩
                    case samer11 =>
                      refine And.intro ?_ ?_
                      · with_reducible rfl
                      refine And.intro ?_ ?_
                      · with_reducible rfl
                      refine And.intro ?_ ?_
                      · with_reducible rfl
                      refine And.intro ?_ ?_
                      · with_reducible rfl
                      refine And.intro ?_ ?_
                      · with_reducible rfl
                      refine And.intro ?_ ?_
                      · with_reducible rfl
                      refine And.intro ?_ ?_
                      · with_reducible rfl
                      refine And.intro ?_ ?_
                      · with_reducible rfl
                      refine And.intro ?_ ?_
                      · with_reducible rfl
                      refine And.intro ?_ ?_
                      · with_reducible rfl
                      refine And.intro ?_ ?_
                      · with_reducible rfl
                      trivial
                    case hSr11 => rfl
                    case nxr11 =>
                      refine chain_nil (by kernel_rfl) rfl ?opsr12 ?endr12
                      case opsr12 =>
                        simp only [OpsAt, fillT, List.setIfInBounds_toArray, List.set_cons_zero, List.set_cons_succ]
                        refine ⟨.inl ⟨by rfl, opOk_pure fun wS hS => ?_⟩, ?_⟩
                        · ((subst hS; go_simp; try rfl)); try (with_reducible rfl)
                        refine ⟨.inl ⟨by rfl, opOk_pure fun wS hS => ?_⟩, ?_⟩
                        · ((subst hS; go_simp; try rfl)); try (with_reducible rfl)
                        try trivial
                      case endr12 =>
                        intro wE hE
                        simp only [fillT, List.setIfInBounds_toArray, List.set_cons_zero, List.set_cons_succ]
                        rw [hE]
                        clear hk3 hk5
                        go_wp2_with fail
                        refine (is_sat Hw6.out (i := 1) (j := 2) rfl rfl O'.out).mono ?_
                        rintro e w7 ⟨rfl, h7⟩
                        try simp only [List.cons_append, List.nil_append, List.set_cons_succ, List.set_cons_zero] at h7
                        have H7 := Lib.hid h7
                        clear h7
                        obtain ⟨F8, f8⟩ := H7.out.get (i := 1) rfl
                        have ha8 := all_any w7 m t' F8 f8 O'.out
                        rw [Q'.out] at ha8
                        go_wp2_with fail
                        refine (ha8).mono ?_
                        rintro e w8 ⟨rfl, hb8⟩
                        have h8 := (H7.out.grow hb8).left (l := [_, _, _, _, _]) (l' := [_])
                        have H8 := Lib.hid h8
                        clear h8 hb8 ha8 f8
                        go_wp2
                        go_roundw
                        case rel => exact ⟨k + 1, t', by omega, by go_num, O'.out, Q'.out, H8.out⟩
                        case measure => (simp [intOf]; try omega)
          · obtain ⟨x, hx⟩ : ∃ x, giveE t a n = x := ⟨_, rfl⟩
            obtain ⟨t', ht'⟩ : ∃ t', giveS t a n = t' := ⟨_, rfl⟩
            have X := Lib.hid hx
            have T' := Lib.hid ht'
            have hok' := (O.out.give a n HU.out.1).1
            have hsm' := ((O.out.give a n HU.out.1).2.trans Q.out)
            rw [ht'] at hok' hsm'
            have O' := Lib.hid hok'
            have Q' := Lib.hid hsm'
            clear hx ht' hok' hsm'
            go_wp2_with fail
            have hS3 := HS2.out.drew
            have hk3 := hS3.all
            simp only [allFacts, box_facts, row_facts, emp_facts, cellFacts, Nat.zero_add, Nat.reduceAdd, true_and, and_true] at hk3
            have HS3 := Lib.hid hS3
            clear hS3 HS2 c0 c1 c2 c3 HRD
            refine region_chain (E := [5, 11]) (kn := [true, true, true, true, true, false, true, true, true, true, true, false, false, false]) (mask := [true, true, true, true, true, false, true, true, true, true, true, false, false, false]) (vs := [?vr20_0, ?vr20_1, ?vr20_2, ?vr20_3, ?vr20_4, undef, ?vr20_6, ?vr20_7, ?vr20_8, ?vr20_9, ?vr20_10, undef, undef, undef]) (S := fun w' => w' = (wr.alloc (.cells #[.int .i64 2, .int .i64 a, .int .i64 z, .int .u64 n] 43)).drew) (by kernel_rfl) (by kernel_rfl) (by kernel_rfl) (by kernel_rfl) (by kernel_rfl) ?hSr2 ?hchr2
            case hSr2 => exact rfl
            case hchr2 =>
              refine chain_cons _ (by kernel_rfl) rfl rfl ?opsr20 ?wantr20 ?effr20
              case opsr20 =>
                simp only [OpsAt, fillT, List.setIfInBounds_toArray, List.set_cons_zero, List.set_cons_succ]
                refine ⟨.inl ⟨by rfl, opOk_pure fun wS hS => ?_⟩, ?_⟩
                · ((subst hS; go_simp; try rfl)); try (with_reducible rfl)
                refine ⟨.inl ⟨by rfl, opOk_pure fun wS hS => ?_⟩, ?_⟩
                · ((subst hS; go_simp; try rfl)); try (with_reducible rfl)
                refine ⟨.inl ⟨by rfl, opOk_pure fun wS hS => ?_⟩, ?_⟩
                · ((subst hS; go_simp; try rfl)); try (with_reducible rfl)
                refine ⟨.inl ⟨by rfl, opOk_pure fun wS hS => ?_⟩, ?_⟩
                · ((subst hS; go_simp; try rfl)); try (with_reducible rfl)
                refine ⟨.inl ⟨by rfl, opOk_pure fun wS hS => ?_⟩, ?_⟩
                · ((subst hS; go_simp; try rfl)); try (with_reducible rfl)
                refine ⟨.inl ⟨by rfl, opOk_pure fun wS hS => ?_⟩, ?_⟩
                · ((subst hS; go_simp; try rfl)); try (with_reducible rfl)
                refine ⟨.inl ⟨by rfl, opOk_pure fun wS hS => ?_⟩, ?_⟩
                · ((subst hS; go_simp; try rfl)); try (with_reducible rfl)
                refine ⟨.inl ⟨by rfl, opOk_pure fun wS hS => ?_⟩, ?_⟩
                · ((subst hS; go_simp; try rfl)); try (with_reducible rfl)
                refine ⟨.inl ⟨by rfl, opOk_pure fun wS hS => ?_⟩, ?_⟩
                · ((subst hS; go_simp; try rfl)); try (with_reducible rfl)
                refine ⟨.inl ⟨by rfl, opOk_pure fun wS hS => ?_⟩, ?_⟩
                · ((subst hS; go_simp; try rfl)); try (with_reducible rfl)
                try trivial
              case wantr20 => (try simp only [fillT, List.setIfInBounds_toArray, List.set_cons_zero, List.set_cons_succ]) <;> rfl
              case effr20 =>
                intro wS hS
                simp only [fillT, List.setIfInBounds_toArray, List.set_cons_zero, List.set_cons_succ]
                rw [hS]
                refine eff_call (f := 11) (args := #[.pointer (some ⟨m, 0, none⟩), .int .i64 a, .int .u64 n]) (by go_simp) ?_
                refine (HS3.out.call1 (i := 1) (A' := tillX 54 m t') (Q := fun e => e = .returned (.int .i64 x)) rfl (fun F hF _ => by have := give_any (wr.alloc (.cells #[.int .i64 2, .int .i64 a, .int .i64 z, .int .u64 n] 43)).drew m t O.out a n HU.out F hF; rwa [X.out, T'.out] at this)).mono ?_
                rintro e w5 ⟨rfl, h⟩
                try simp only [List.cons_append, List.nil_append, List.set_cons_succ, List.set_cons_zero] at h
                have hk5 := h.all
                simp only [allFacts, box_facts, row_facts, emp_facts, cellFacts, Nat.zero_add, Nat.reduceAdd, true_and, and_true] at hk5
                have Hw5 := Lib.hid h
                clear h
                refine ⟨_, rfl, ?_⟩
                refine ⟨_, [true, true, true, true, true, true, true, true, true, true, true, false, false, false], [false, false, false, false, false, false, true, true, true, true, true, false, false, false], [0, 2, 4, 1, 3], [?vr21_0, ?vr21_1, ?vr21_2, ?vr21_3, ?vr21_4, (.int .i64 x), ?vr21_6, ?vr21_7, ?vr21_8, ?vr21_9, ?vr21_10, undef, undef, undef], fun w' => w' = w5, rfl, rfl, ?samer20, by kernel_rfl, ?hSr20, ?nxr20⟩
                case samer20 =>
                  refine And.intro ?_ ?_
                  · with_reducible rfl
                  refine And.intro ?_ ?_
                  · with_reducible rfl
                  refine And.intro ?_ ?_
                  · with_reducible rfl
                  refine And.intro ?_ ?_
                  · with_reducible rfl
                  refine And.intro ?_ ?_
                  · with_reducible rfl
                  refine And.intro ?_ ?_
                  · with_reducible rfl
                  refine And.intro ?_ ?_
                  · with_reducible rfl
                  refine And.intro ?_ ?_
                  · with_reducible rfl
                  refine And.intro ?_ ?_
                  · with_reducible rfl
                  refine And.intro ?_ ?_
                  · with_reducible rfl
                  trivial
                case hSr20 => rfl
                case nxr20 =>
                  refine chain_cons _ (by kernel_rfl) rfl rfl ?opsr21 ?wantr21 ?effr21
                  case opsr21 =>
                    simp only [OpsAt, fillT, List.setIfInBounds_toArray, List.set_cons_zero, List.set_cons_succ]
                    refine ⟨.inl ⟨by rfl, opOk_pure fun wS hS => ?_⟩, ?_⟩
                    · ((subst hS; go_simp; try rfl)); try (with_reducible rfl)
                    refine ⟨.inl ⟨by rfl, opOk_pure fun wS hS => ?_⟩, ?_⟩
                    · ((subst hS; go_simp; try rfl)); try (with_reducible rfl)
                    refine ⟨.inl ⟨by rfl, opOk_pure fun wS hS => ?_⟩, ?_⟩
                    · ((subst hS; go_simp; try rfl)); try (with_reducible rfl)
                    refine ⟨.inl ⟨by rfl, opOk_pure fun wS hS => ?_⟩, ?_⟩
                    · ((subst hS; go_simp; try rfl)); try (with_reducible rfl)
                    refine ⟨.inl ⟨by rfl, opOk_pure fun wS hS => ?_⟩, ?_⟩
                    · ((subst hS; go_simp; try rfl)); try (with_reducible rfl)
                    try trivial
                  case wantr21 => (try simp only [fillT, List.setIfInBounds_toArray, List.set_cons_zero, List.set_cons_succ]) <;> rfl
                  case effr21 =>
                    intro wS hS
                    simp only [fillT, List.setIfInBounds_toArray, List.set_cons_zero, List.set_cons_succ]
                    rw [hS]
                    refine eff_call (f := 22) (args := #[.pointer (some ⟨g, 0, none⟩), .int .i64 a, .int .u64 n]) (by go_simp) ?_
                    refine (Hw5.out.call1 (i := 2) (A' := tillX 59 g t') (Q := fun e => e = .returned (.int .i64 x)) rfl (fun F hF _ => by have := rgive_any w5 g t O.out a n HU.out F hF; rwa [X.out, T'.out] at this)).mono ?_
                    rintro e w6 ⟨rfl, h⟩
                    try simp only [List.cons_append, List.nil_append, List.set_cons_succ, List.set_cons_zero] at h
                    have hk5 := h.all
                    simp only [allFacts, box_facts, row_facts, emp_facts, cellFacts, Nat.zero_add, Nat.reduceAdd, true_and, and_true] at hk5
                    have Hw6 := Lib.hid h
                    clear h
                    refine ⟨_, rfl, ?_⟩
                    refine ⟨_, [true, true, true, true, true, true, true, true, true, true, true, true, true, true], [false, false, false, false, false, false, false, false, false, false, false, false, true, true], [6, 8, 10, 7, 9], [?vr22_0, ?vr22_1, ?vr22_2, ?vr22_3, ?vr22_4, (.int .i64 x), ?vr22_6, ?vr22_7, ?vr22_8, ?vr22_9, ?vr22_10, (.int .i64 x), ?vr22_12, ?vr22_13], fun w' => w' = w6, rfl, rfl, ?samer21, by kernel_rfl, ?hSr21, ?nxr21⟩
                    case samer21 =>
                      refine And.intro ?_ ?_
                      · with_reducible rfl
                      refine And.intro ?_ ?_
                      · with_reducible rfl
                      refine And.intro ?_ ?_
                      · with_reducible rfl
                      refine And.intro ?_ ?_
                      · with_reducible rfl
                      refine And.intro ?_ ?_
                      · with_reducible rfl
                      refine And.intro ?_ ?_
                      · with_reducible rfl
                      refine And.intro ?_ ?_
                      · with_reducible rfl
                      refine And.intro ?_ ?_
                      · with_reducible rfl
                      refine And.intro ?_ ?_
                      · with_reducible rfl
                      refine And.intro ?_ ?_
                      · with_reducible rfl
                      refine And.intro ?_ ?_
                      · with_reducible rfl
                      trivial
                    case hSr21 => rfl
                    case nxr21 =>
                      refine chain_nil (by kernel_rfl) rfl ?opsr22 ?endr22
                      case opsr22 =>
                        simp only [OpsAt, fillT, List.setIfInBounds_toArray, List.set_cons_zero, List.set_cons_succ]
                        refine ⟨.inl ⟨by rfl, opOk_pure fun wS hS => ?_⟩, ?_⟩
                        · ((subst hS; go_simp; try rfl)); try (with_reducible rfl)
                        refine ⟨.inl ⟨by rfl, opOk_pure fun wS hS => ?_⟩, ?_⟩
                        · ((subst hS; go_simp; try rfl)); try (with_reducible rfl)
                        try trivial
                      case endr22 =>
                        intro wE hE
                        simp only [fillT, List.setIfInBounds_toArray, List.set_cons_zero, List.set_cons_succ]
                        rw [hE]
                        clear hk3 hk5
                        go_wp2_with fail
                        refine (is_sat Hw6.out (i := 1) (j := 2) rfl rfl O'.out).mono ?_
                        rintro e w7 ⟨rfl, h7⟩
                        try simp only [List.cons_append, List.nil_append, List.set_cons_succ, List.set_cons_zero] at h7
                        have H7 := Lib.hid h7
                        clear h7
                        obtain ⟨F8, f8⟩ := H7.out.get (i := 1) rfl
                        have ha8 := all_any w7 m t' F8 f8 O'.out
                        rw [Q'.out] at ha8
                        go_wp2_with fail
                        refine (ha8).mono ?_
                        rintro e w8 ⟨rfl, hb8⟩
                        have h8 := (H7.out.grow hb8).left (l := [_, _, _, _, _]) (l' := [_])
                        have H8 := Lib.hid h8
                        clear h8 hb8 ha8 f8
                        go_wp2
                        go_roundw
                        case rel => exact ⟨k + 1, t', by omega, by go_num, O'.out, Q'.out, H8.out⟩
                        case measure => (simp [intOf]; try omega)
          · obtain ⟨x, hx⟩ : ∃ x, moveE t a z n = x := ⟨_, rfl⟩
            obtain ⟨t', ht'⟩ : ∃ t', moveS t a z n = t' := ⟨_, rfl⟩
            have X := Lib.hid hx
            have T' := Lib.hid ht'
            have hok' := (O.out.move a z n HU.out.1).1
            have hsm' := ((O.out.move a z n HU.out.1).2.trans Q.out)
            rw [ht'] at hok' hsm'
            have O' := Lib.hid hok'
            have Q' := Lib.hid hsm'
            clear hx ht' hok' hsm'
            go_wp2_with fail
            have hS3 := HS2.out.drew
            have hk3 := hS3.all
            simp only [allFacts, box_facts, row_facts, emp_facts, cellFacts, Nat.zero_add, Nat.reduceAdd, true_and, and_true] at hk3
            have HS3 := Lib.hid hS3
            clear hS3 HS2 c0 c1 c2 c3 HRD
            refine region_chain (E := [7, 15]) (kn := [true, true, true, true, true, true, true, false, true, true, true, true, true, true, true, false, false, false]) (mask := [true, true, true, true, true, true, true, false, true, true, true, true, true, true, true, false, false, false]) (vs := [?vr30_0, ?vr30_1, ?vr30_2, ?vr30_3, ?vr30_4, ?vr30_5, ?vr30_6, undef, ?vr30_8, ?vr30_9, ?vr30_10, ?vr30_11, ?vr30_12, ?vr30_13, ?vr30_14, undef, undef, undef]) (S := fun w' => w' = (wr.alloc (.cells #[.int .i64 3, .int .i64 a, .int .i64 z, .int .u64 n] 43)).drew) (by kernel_rfl) (by kernel_rfl) (by kernel_rfl) (by kernel_rfl) (by kernel_rfl) ?hSr3 ?hchr3
            case hSr3 => exact rfl
            case hchr3 =>
              refine chain_cons _ (by kernel_rfl) rfl rfl ?opsr30 ?wantr30 ?effr30
              case opsr30 =>
                simp only [OpsAt, fillT, List.setIfInBounds_toArray, List.set_cons_zero, List.set_cons_succ]
                refine ⟨.inl ⟨by rfl, opOk_pure fun wS hS => ?_⟩, ?_⟩
                · ((subst hS; go_simp; try rfl)); try (with_reducible rfl)
                refine ⟨.inl ⟨by rfl, opOk_pure fun wS hS => ?_⟩, ?_⟩
                · ((subst hS; go_simp; try rfl)); try (with_reducible rfl)
                refine ⟨.inl ⟨by rfl, opOk_pure fun wS hS => ?_⟩, ?_⟩
                · ((subst hS; go_simp; try rfl)); try (with_reducible rfl)
                refine ⟨.inl ⟨by rfl, opOk_pure fun wS hS => ?_⟩, ?_⟩
                · ((subst hS; go_simp; try rfl)); try (with_reducible rfl)
                refine ⟨.inl ⟨by rfl, opOk_pure fun wS hS => ?_⟩, ?_⟩
                · ((subst hS; go_simp; try rfl)); try (with_reducible rfl)
                refine ⟨.inl ⟨by rfl, opOk_pure fun wS hS => ?_⟩, ?_⟩
                · ((subst hS; go_simp; try rfl)); try (with_reducible rfl)
                refine ⟨.inl ⟨by rfl, opOk_pure fun wS hS => ?_⟩, ?_⟩
                · ((subst hS; go_simp; try rfl)); try (with_reducible rfl)
                refine ⟨.inl ⟨by rfl, opOk_pure fun wS hS => ?_⟩, ?_⟩
                · ((subst hS; go_simp; try rfl)); try (with_reducible rfl)
                refine ⟨.inl ⟨by rfl, opOk_pure fun wS hS => ?_⟩, ?_⟩
                · ((subst hS; go_simp; try rfl)); try (with_reducible rfl)
                refine ⟨.inl ⟨by rfl, opOk_pure fun wS hS => ?_⟩, ?_⟩
                · ((subst hS; go_simp; try rfl)); try (with_reducible rfl)
                refine ⟨.inl ⟨by rfl, opOk_pure fun wS hS => ?_⟩, ?_⟩
                · ((subst hS; go_simp; try rfl)); try (with_reducible rfl)
                refine ⟨.inl ⟨by rfl, opOk_pure fun wS hS => ?_⟩, ?_⟩
                · ((subst hS; go_simp; try rfl)); try (with_reducible rfl)
                refine ⟨.inl ⟨by rfl, opOk_pure fun wS hS => ?_⟩, ?_⟩
                · ((subst hS; go_simp; try rfl)); try (with_reducible rfl)
                refine ⟨.inl ⟨by rfl, opOk_pure fun wS hS => ?_⟩, ?_⟩
                · ((subst hS; go_simp; try rfl)); try (with_reducible rfl)
                try trivial
              case wantr30 => (try simp only [fillT, List.setIfInBounds_toArray, List.set_cons_zero, List.set_cons_succ]) <;> rfl
              case effr30 =>
                intro wS hS
                simp only [fillT, List.setIfInBounds_toArray, List.set_cons_zero, List.set_cons_succ]
                rw [hS]
                refine eff_call (f := 12) (args := #[.pointer (some ⟨m, 0, none⟩), .int .i64 a, .int .i64 z, .int .u64 n]) (by go_simp) ?_
                refine (HS3.out.call1 (i := 1) (A' := tillX 54 m t') (Q := fun e => e = .returned (.int .i64 x)) rfl (fun F hF _ => by have := move_any (wr.alloc (.cells #[.int .i64 3, .int .i64 a, .int .i64 z, .int .u64 n] 43)).drew m t O.out a z n HU.out F hF; rwa [X.out, T'.out] at this)).mono ?_
                rintro e w5 ⟨rfl, h⟩
                try simp only [List.cons_append, List.nil_append, List.set_cons_succ, List.set_cons_zero] at h
                have hk5 := h.all
                simp only [allFacts, box_facts, row_facts, emp_facts, cellFacts, Nat.zero_add, Nat.reduceAdd, true_and, and_true] at hk5
                have Hw5 := Lib.hid h
                clear h
                refine ⟨_, rfl, ?_⟩
                refine ⟨_, [true, true, true, true, true, true, true, true, true, true, true, true, true, true, true, false, false, false], [false, false, false, false, false, false, false, false, true, true, true, true, true, true, true, false, false, false], [0, 2, 4, 6, 1, 3, 5], [?vr31_0, ?vr31_1, ?vr31_2, ?vr31_3, ?vr31_4, ?vr31_5, ?vr31_6, (.int .i64 x), ?vr31_8, ?vr31_9, ?vr31_10, ?vr31_11, ?vr31_12, ?vr31_13, ?vr31_14, undef, undef, undef], fun w' => w' = w5, rfl, rfl, ?samer30, by kernel_rfl, ?hSr30, ?nxr30⟩
                case samer30 =>
                  refine And.intro ?_ ?_
                  · with_reducible rfl
                  refine And.intro ?_ ?_
                  · with_reducible rfl
                  refine And.intro ?_ ?_
                  · with_reducible rfl
                  refine And.intro ?_ ?_
                  · with_reducible rfl
                  refine And.intro ?_ ?_
                  · with_reducible rfl
                  refine And.intro ?_ ?_
                  · with_reducible rfl
                  refine And.intro ?_ ?_
                  · with_reducible rfl
                  refine And.intro ?_ ?_
                  · with_reducible rfl
                  refine And.intro ?_ ?_
                  · with_reducible rfl
                  refine And.intro ?_ ?_
                  · with_reducible rfl
                  refine And.intro ?_ ?_
                  · with_reducible rfl
                  refine And.intro ?_ ?_
                  · with_reducible rfl
                  refine And.intro ?_ ?_
                  · with_reducible rfl
                  refine And.intro ?_ ?_
                  · with_reducible rfl
                  trivial
                case hSr30 => rfl
                case nxr30 =>
                  refine chain_cons _ (by kernel_rfl) rfl rfl ?opsr31 ?wantr31 ?effr31
                  case opsr31 =>
                    simp only [OpsAt, fillT, List.setIfInBounds_toArray, List.set_cons_zero, List.set_cons_succ]
                    refine ⟨.inl ⟨by rfl, opOk_pure fun wS hS => ?_⟩, ?_⟩
                    · ((subst hS; go_simp; try rfl)); try (with_reducible rfl)
                    refine ⟨.inl ⟨by rfl, opOk_pure fun wS hS => ?_⟩, ?_⟩
                    · ((subst hS; go_simp; try rfl)); try (with_reducible rfl)
                    refine ⟨.inl ⟨by rfl, opOk_pure fun wS hS => ?_⟩, ?_⟩
                    · ((subst hS; go_simp; try rfl)); try (with_reducible rfl)
                    refine ⟨.inl ⟨by rfl, opOk_pure fun wS hS => ?_⟩, ?_⟩
                    · ((subst hS; go_simp; try rfl)); try (with_reducible rfl)
                    refine ⟨.inl ⟨by rfl, opOk_pure fun wS hS => ?_⟩, ?_⟩
                    · ((subst hS; go_simp; try rfl)); try (with_reducible rfl)
                    refine ⟨.inl ⟨by rfl, opOk_pure fun wS hS => ?_⟩, ?_⟩
                    · ((subst hS; go_simp; try rfl)); try (with_reducible rfl)
                    refine ⟨.inl ⟨by rfl, opOk_pure fun wS hS => ?_⟩, ?_⟩
                    · ((subst hS; go_simp; try rfl)); try (with_reducible rfl)
                    try trivial
                  case wantr31 => (try simp only [fillT, List.setIfInBounds_toArray, List.set_cons_zero, List.set_cons_succ]) <;> rfl
                  case effr31 =>
                    intro wS hS
                    simp only [fillT, List.setIfInBounds_toArray, List.set_cons_zero, List.set_cons_succ]
                    rw [hS]
                    refine eff_call (f := 23) (args := #[.pointer (some ⟨g, 0, none⟩), .int .i64 a, .int .i64 z, .int .u64 n]) (by go_simp) ?_
                    refine (Hw5.out.call1 (i := 2) (A' := tillX 59 g t') (Q := fun e => e = .returned (.int .i64 x)) rfl (fun F hF _ => by have := rmove_any w5 g t O.out a z n HU.out F hF; rwa [X.out, T'.out] at this)).mono ?_
                    rintro e w6 ⟨rfl, h⟩
                    try simp only [List.cons_append, List.nil_append, List.set_cons_succ, List.set_cons_zero] at h
                    have hk5 := h.all
                    simp only [allFacts, box_facts, row_facts, emp_facts, cellFacts, Nat.zero_add, Nat.reduceAdd, true_and, and_true] at hk5
                    have Hw6 := Lib.hid h
                    clear h
                    refine ⟨_, rfl, ?_⟩
                    refine ⟨_, [true, true, true, true, true, true, true, true, true, true, true, true, true, true, true, true, true, true], [false, false, false, false, false, false, false, false, false, false, false, false, false, false, false, false, true, true], [8, 10, 12, 14, 9, 11, 13], [?vr32_0, ?vr32_1, ?vr32_2, ?vr32_3, ?vr32_4, ?vr32_5, ?vr32_6, (.int .i64 x), ?vr32_8, ?vr32_9, ?vr32_10, ?vr32_11, ?vr32_12, ?vr32_13, ?vr32_14, (.int .i64 x), ?vr32_16, ?vr32_17], fun w' => w' = w6, rfl, rfl, ?samer31, by kernel_rfl, ?hSr31, ?nxr31⟩
                    case samer31 =>
                      refine And.intro ?_ ?_
                      · with_reducible rfl
                      refine And.intro ?_ ?_
                      · with_reducible rfl
                      refine And.intro ?_ ?_
                      · with_reducible rfl
                      refine And.intro ?_ ?_
                      · with_reducible rfl
                      refine And.intro ?_ ?_
                      · with_reducible rfl
                      refine And.intro ?_ ?_
                      · with_reducible rfl
                      refine And.intro ?_ ?_
                      · with_reducible rfl
                      refine And.intro ?_ ?_
                      · with_reducible rfl
                      refine And.intro ?_ ?_
                      · with_reducible rfl
                      refine And.intro ?_ ?_
                      · with_reducible rfl
                      refine And.intro ?_ ?_
                      · with_reducible rfl
                      refine And.intro ?_ ?_
                      · with_reducible rfl
                      refine And.intro ?_ ?_
                      · with_reducible rfl
                      refine And.intro ?_ ?_
                      · with_reducible rfl
                      refine And.intro ?_ ?_
                      · with_reducible rfl
                      trivial
                    case hSr31 => rfl
                    case nxr31 =>
                      refine chain_nil (by kernel_rfl) rfl ?opsr32 ?endr32
                      case opsr32 =>
                        simp only [OpsAt, fillT, List.setIfInBounds_toArray, List.set_cons_zero, List.set_cons_succ]
                        refine ⟨.inl ⟨by rfl, opOk_pure fun wS hS => ?_⟩, ?_⟩
                        · ((subst hS; go_simp; try rfl)); try (with_reducible rfl)
                        refine ⟨.inl ⟨by rfl, opOk_pure fun wS hS => ?_⟩, ?_⟩
                        · ((subst hS; go_simp; try rfl)); try (with_reducible rfl)
                        try trivial
                      case endr32 =>
                        intro wE hE
                        simp only [fillT, List.setIfInBounds_toArray, List.set_cons_zero, List.set_cons_succ]
                        rw [hE]
                        clear hk3 hk5
                        go_wp2_with fail
                        refine (is_sat Hw6.out (i := 1) (j := 2) rfl rfl O'.out).mono ?_
                        rintro e w7 ⟨rfl, h7⟩
                        try simp only [List.cons_append, List.nil_append, List.set_cons_succ, List.set_cons_zero] at h7
                        have H7 := Lib.hid h7
                        clear h7
                        obtain ⟨F8, f8⟩ := H7.out.get (i := 1) rfl
                        have ha8 := all_any w7 m t' F8 f8 O'.out
                        rw [Q'.out] at ha8
                        go_wp2_with fail
                        refine (ha8).mono ?_
                        rintro e w8 ⟨rfl, hb8⟩
                        have h8 := (H7.out.grow hb8).left (l := [_, _, _, _, _]) (l' := [_])
                        have H8 := Lib.hid h8
                        clear h8 hb8 ha8 f8
                        go_wp2
                        go_roundw
                        case rel => exact ⟨k + 1, t', by omega, by go_num, O'.out, Q'.out, H8.out⟩
                        case measure => (simp [intOf]; try omega)
          · have d0 : (kind == 0) = false := beq_eq_false_iff_ne.2 k0
            have d1 : (kind == 1) = false := beq_eq_false_iff_ne.2 k1
            have d2 : (kind == 2) = false := beq_eq_false_iff_ne.2 k2
            have d3 : (kind == 3) = false := beq_eq_false_iff_ne.2 k3
            clear k0 k1 k2 k3 HRD
            go_wp2_with fail
            refine (is_sat HS2.out (i := 1) (j := 2) rfl rfl O.out).mono ?_
            rintro e w7 ⟨rfl, h7⟩
            try simp only [List.cons_append, List.nil_append, List.set_cons_succ, List.set_cons_zero] at h7
            have H7 := Lib.hid h7
            clear h7
            obtain ⟨F8, f8⟩ := H7.out.get (i := 1) rfl
            have ha8 := all_any w7 m t F8 f8 O.out
            rw [Q.out] at ha8
            go_wp2_with fail
            refine (ha8).mono ?_
            rintro e w8 ⟨rfl, hb8⟩
            have h8 := (H7.out.grow hb8).left (l := [_, _, _, _, _]) (l' := [_])
            have H8 := Lib.hid h8
            clear h8 hb8 ha8 f8
            go_wp2
            go_roundw
            case rel => exact ⟨k + 1, t, by omega, by go_num, O.out, Q.out, H8.out⟩
            case measure => (simp [intOf]; try omega)
      · have HS := Lib.hid hS
        clear hS HRD
        have hw3 := HW.out.mono (src_rest HS.out (i := 0) rfl HW.out.src (src_lt HW.out.src))
        have hr3 := rnew_ok _ A0 C0 L hw3 HE.out
        rw [HT.out] at hr3
        go_wp2_with fail
        refine (hr3).mono ?_
        rintro e w7 ⟨n, rfl, g7⟩
        have h7 := HS.out.pushNew g7
        try simp only [List.cons_append, List.nil_append, List.set_cons_succ, List.set_cons_zero] at h7
        have H7 := Lib.hid h7
        clear g7 h7 hw3 hr3
        go_wp2_with fail
        refine (awake_any _).mono ?_
        rintro e w8 ⟨rfl, hb⟩
        have h8 := H7.out.grow hb
        have H8 := Lib.hid h8
        clear hb h8 H7
        go_wp2_with fail
        refine (is_sat H8.out (i := 4) (j := 5) rfl rfl O0.out).mono ?_
        rintro e w9 ⟨rfl, h9⟩
        try simp only [List.cons_append, List.nil_append, List.set_cons_succ, List.set_cons_zero] at h9
        have H9 := Lib.hid h9
        clear h9
        go_wp2_with fail
        refine (is_sat H9.out (i := 3) (j := 5) rfl rfl O0.out).mono ?_
        rintro e w10 ⟨rfl, h10⟩
        try simp only [List.cons_append, List.nil_append, List.set_cons_succ, List.set_cons_zero] at h10
        have H10 := Lib.hid h10
        clear h10
        have hbl := H10.out.below (i := 0) rfl
        have HBL := Lib.hid hbl
        clear hbl
        go_wp2
        go_ret
        exact ⟨rfl, HBL.out⟩
end Go.Proofs.Ytmcfmabnggffjaa
