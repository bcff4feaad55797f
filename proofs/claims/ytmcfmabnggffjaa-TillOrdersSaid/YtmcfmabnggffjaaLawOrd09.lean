/- Walk over the law TillOrders. -/
import Derived.Test.YtmcfmabnggffjaaTillOrdP
import Derived.Test.YtmcfmabnggffjaaLawBack09
namespace Go.Proofs.Ytmcfmabnggffjaa
set_option linter.unusedVariables false
set_option linter.unusedSimpArgs false
set_option linter.unnecessarySimpa false
open Go.RowKit

set_option maxRecDepth 100000 in
set_option maxHeartbeats 2000000 in
theorem tillorders_any (A : Option Addr) (c : Nat) (l : List Int) (who : Int) (A2 : Option Addr) (c2 : Nat) (ns : List Int) (w : World) (hw : Words w A c l) (hw2 : Words w A2 c2 ns) : Calls Try.prog 4 #[.slice A l.length c, .int .i64 who, .slice A2 ns.length c2] w fun e w' => e = .returned (.bool true) ∧ Below w.heap.size w w' := by
  have HW := Lib.hid hw
  have HV := Lib.hid hw2
  have hl := hw.len
  have hl2 := hw2.len
  rcases (show newE l = 0 ∨ newE l ≠ 0 by omega) with he | he
  rotate_left 1
  · have HN := Lib.hid (new_bad w A c l hw he)
    obtain ⟨x, hx⟩ : ∃ x, newE l = x := ⟨_, rfl⟩
    rw [hx] at HN he
    have b1 : (x == 0) = false := beq_eq_false_iff_ne.2 he
    have b2 : (x != 0) = true := by simp [he]
    have HA := Lib.hid (awake_any w)
    clear hw hw2 hx
    go_enter Try.func4, Try.ntmps4
    go_wp2_with fail
    refine HN.out.mono ?_
    rintro e w1 ⟨rfl, rfl⟩
    go_wp2_with fail
    refine HA.out.mono ?_
    rintro e w2 ⟨rfl, hb⟩
    have HB := Lib.hid hb
    clear hb
    go_wp2
    go_ret
    exact ⟨rfl, HB.out⟩
  · have HN := Lib.hid (new_ok w A c l hw he)
    obtain ⟨h16, hs⟩ := newE_ok he
    have ok := tl0_ok hw.u h16 hs
    have O := Lib.hid ok
    clear hw hw2 he hs ok
    rcases (show 200 < ns.length ∨ ns.length ≤ 200 by omega) with hn | hn
    · go_enter Try.func4, Try.ntmps4
      go_wp2_with fail
      refine (HN.out).mono ?_
      rintro e w2 ⟨m, rfl, h2⟩
      rw [← stO_zero l who] at h2
      have H2 := Lib.hid h2
      clear h2
      go_wp2_with fail
      refine (awake_any _).mono ?_
      rintro e w9 ⟨rfl, hb⟩
      have h9 := H2.out.grow hb
      have hbl := h9.below (i := 0) rfl
      have HBL := Lib.hid hbl
      clear hb h9 hbl
      go_wp2
      go_ret
      exact ⟨rfl, HBL.out⟩
    · go_enter Try.func4, Try.ntmps4
      go_wp2_with fail
      refine (HN.out).mono ?_
      rintro e w2 ⟨m, rfl, h2⟩
      rw [← stO_zero l who] at h2
      have H2 := Lib.hid h2
      clear h2
      go_wp2
      go_loopw [9, 42] (fun q i wr => ∃ k j : Nat, k ≤ ns.length ∧ j ≤ k ∧ i = .int .i64 k ∧ q = .int .u64 (j : Int) ∧ Sat w wr [rest w (· < w.heap.size), tillX 54 m (stO l who j)]) (fun _ i _ => ns.length - (intOf i).toNat)
      case atStart => exact ⟨0, 0, Nat.zero_le _, Nat.le_refl _, rfl, rfl, H2.out⟩
      case round =>
        obtain ⟨k, j, hk, hjk, rfl, rfl, hS⟩ := hrel
        have HS := Lib.hid hS
        clear hS H2
        by_cases hlt : k < ns.length
        · have hv := HV.out.mono (src_rest HS.out (i := 0) rfl HV.out.src (src_lt HV.out.src))
          obtain ⟨b, off, rfl, hb, hc, u0, u1⟩ := hv.at hlt
          obtain ⟨x, hx⟩ : ∃ x, ns.getD k 0 = x := ⟨_, rfl⟩
          rw [hx] at hc u0 u1
          clear hx hv
          rcases (show who < 0 ∨ (0 ≤ who ∧ (l.length : Int) ≤ who) ∨ (0 ≤ who ∧ who < l.length) by omega) with hwh | hwh | hwh
          · skip
            have hE := stO_out (l := l) (who := who) (n := x) (j := j) (by omega)
            have HE := Lib.hid hE
            clear hE
            have hq := HS.out.call1 (i := 1) (A' := tillX 54 m (stO l who j)) (Q := fun e => e = .returned (.int .i64 1)) rfl (fun F hF _ => by have := order_any _ m (stO l who j) (stO_ok O.out (by omega)) who x ⟨u0, u1⟩ F hF; rwa [HE.out.1, HE.out.2] at this)
            skip
            have HQ := Lib.hid hq
            clear hq
            go_wp2_with fail
            refine (HQ.out).mono ?_
            rintro e w5 ⟨rfl, h5⟩
            try simp only [List.cons_append, List.nil_append, List.set_cons_succ, List.set_cons_zero] at h5
            have H5 := Lib.hid h5
            clear h5 HQ
            go_wp2
            go_roundw
            case rel => exact ⟨k + 1, j, by omega, by omega, by go_num, by go_num, H5.out⟩
            case measure => (simp [intOf]; try omega)
          · obtain ⟨q0, q1⟩ := hwh
            have hE := stO_out (l := l) (who := who) (n := x) (j := j) (by omega)
            have HE := Lib.hid hE
            clear hE
            have hq := HS.out.call1 (i := 1) (A' := tillX 54 m (stO l who j)) (Q := fun e => e = .returned (.int .i64 1)) rfl (fun F hF _ => by have := order_any _ m (stO l who j) (stO_ok O.out (by omega)) who x ⟨u0, u1⟩ F hF; rwa [HE.out.1, HE.out.2] at this)
            skip
            have HQ := Lib.hid hq
            clear hq
            go_wp2_with fail
            refine (HQ.out).mono ?_
            rintro e w5 ⟨rfl, h5⟩
            try simp only [List.cons_append, List.nil_append, List.set_cons_succ, List.set_cons_zero] at h5
            have H5 := Lib.hid h5
            clear h5 HQ
            go_wp2
            go_roundw
            case rel => exact ⟨k + 1, j, by omega, by omega, by go_num, by go_num, H5.out⟩
            case measure => (simp [intOf]; try omega)
          · have hE := stO_in (l := l) (who := who) (n := x) (j := j) hwh (by omega)
            obtain ⟨q0, q1⟩ := hwh
            obtain ⟨q, hqj⟩ : ∃ q : Int, (j : Int) = q := ⟨_, rfl⟩
            have z0 : 0 ≤ q := by omega
            have z1 : q ≤ 1000 := by omega
            have hwr := wrap_u (n := q + 1) (by omega) (by omega)
            rw [hqj] at hE
            rw [hqj]
            have HJ := Lib.hid hqj
            clear hqj
            rcases (show x = q ∨ x ≠ q by omega) with hxj | hxj
            · subst hxj
              have HE := Lib.hid (show ordE (stO l who j) who x = 0 ∧ ordS (stO l who j) who x = stO l who (j + 1) from ⟨hE.1.trans (if_pos rfl), hE.2.1 rfl⟩)
              clear hE
              have hq := HS.out.call1 (i := 1) (A' := tillX 54 m (stO l who (j + 1))) (Q := fun e => e = .returned (.int .i64 0)) rfl (fun F hF _ => by have := order_any _ m (stO l who j) (stO_ok O.out (by omega)) who x ⟨u0, u1⟩ F hF; rwa [HE.out.1, HE.out.2] at this)
              skip
              have HQ := Lib.hid hq
              clear hq
              go_wp2_with fail
              refine (HQ.out).mono ?_
              rintro e w5 ⟨rfl, h5⟩
              try simp only [List.cons_append, List.nil_append, List.set_cons_succ, List.set_cons_zero] at h5
              have H5 := Lib.hid h5
              clear h5 HQ
              go_wp2
              go_roundw
              case rel => exact ⟨k + 1, j + 1, by omega, by omega, by go_num, by have := HJ.out; congr 1; omega, H5.out⟩
              case measure => (simp [intOf]; try omega)
            · have HE := Lib.hid (show ordE (stO l who j) who x = 22 ∧ ordS (stO l who j) who x = stO l who j from ⟨hE.1.trans (if_neg (Ne.symm hxj)), hE.2.2 (Ne.symm hxj)⟩)
              have d1 : (x == q) = false := beq_eq_false_iff_ne.2 hxj
              clear hE hxj
              have hq := HS.out.call1 (i := 1) (A' := tillX 54 m (stO l who j)) (Q := fun e => e = .returned (.int .i64 22)) rfl (fun F hF _ => by have := order_any _ m (stO l who j) (stO_ok O.out (by omega)) who x ⟨u0, u1⟩ F hF; rwa [HE.out.1, HE.out.2] at this)
              skip
              have HQ := Lib.hid hq
              clear hq
              go_wp2_with fail
              refine (HQ.out).mono ?_
              rintro e w5 ⟨rfl, h5⟩
              try simp only [List.cons_append, List.nil_append, List.set_cons_succ, List.set_cons_zero] at h5
              have H5 := Lib.hid h5
              clear h5 HQ
              go_wp2
              go_roundw
              case rel => exact ⟨k + 1, j, by omega, by omega, by go_num, by rw [HJ.out], H5.out⟩
              case measure => (simp [intOf]; try omega)
        · obtain rfl : k = ns.length := by omega
          have hW7 := HW.out.mono (src_rest HS.out (i := 0) rfl HW.out.src (src_lt HW.out.src))
          have HW7 := Lib.hid hW7
          obtain ⟨F7, f7⟩ := HS.out.get (i := 1) rfl
          have HF := Lib.hid f7
          clear hW7 f7
          have hll : l.length ≤ 9223372036854775807 := by omega
          go_wp2
          go_loop [75] (UpRel l.length) (fun i => l.length - (intOf i).toNat)
          case atStart => exact ⟨0, Nat.zero_le _, rfl⟩
          case round =>
            obtain ⟨k, hk, rfl⟩ := hrel
            by_cases hlt : k < l.length
            · obtain ⟨b, off, rfl, hb, hc, u0, u1⟩ := HW7.out.at hlt
              have hh := has_any _ m (stO l who j) F7 HF.out (stO_ok O.out (by omega)) (k : Int)
              have hx := next_any _ m (stO l who j) F7 HF.out (stO_ok O.out (by omega)) (k : Int)
              have hin : (stO l who j).inB (k : Int) := ⟨by omega, by show (k : Int) < l.length; omega⟩
              rw [if_pos hin, Int.toNat_natCast, show (stO l who j).has = l from rfl] at hh
              rw [if_pos hin, Int.toNat_natCast, stO_get hlt] at hx
              obtain ⟨z, hz⟩ : ∃ z, l.getD k 0 = z := ⟨_, rfl⟩
              rw [hz] at hh hc
              rcases (show (k : Int) = who ∨ (k : Int) ≠ who by omega) with hkw | hkw
              · rw [if_pos hkw] at hx
                have d1 : ((k : Int) == who) = true := by simp [hkw]
                have HH := Lib.hid hh
                have HX := Lib.hid hx
                clear hh hx hz u0 u1 hin hkw
                go_wp2_with fail
                refine (HX.out).mono ?_
                rintro e w8 ⟨rfl, rfl⟩
                go_wp2_with fail
                refine (HH.out).mono ?_
                rintro e w8 ⟨rfl, rfl⟩
                go_wp2
                go_round
                case rel => exact ⟨k + 1, by omega, by go_num⟩
                case measure => (simp [intOf]; try omega)
              · rw [if_neg hkw] at hx
                have d1 : ((k : Int) == who) = false := by simp [hkw]
                have HH := Lib.hid hh
                have HX := Lib.hid hx
                clear hh hx hz u0 u1 hin
                go_wp2_with fail
                refine (HX.out).mono ?_
                rintro e w8 ⟨rfl, rfl⟩
                go_wp2_with fail
                refine (HH.out).mono ?_
                rintro e w8 ⟨rfl, rfl⟩
                go_wp2
                go_round
                case rel => exact ⟨k + 1, by omega, by go_num⟩
                case measure => (simp [intOf]; try omega)
            · obtain rfl : k = l.length := by omega
              go_wp2_with fail
              refine (awake_any _).mono ?_
              rintro e w9 ⟨rfl, hb⟩
              have h9 := HS.out.grow hb
              have hbl := h9.below (i := 0) rfl
              have HBL := Lib.hid hbl
              clear hb h9 hbl
              go_wp2
              go_ret
              exact ⟨rfl, HBL.out⟩
end Go.Proofs.Ytmcfmabnggffjaa
