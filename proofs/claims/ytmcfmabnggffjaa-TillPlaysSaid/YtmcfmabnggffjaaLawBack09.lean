/- Walk over the law TillBack. -/
import Derived.Test.YtmcfmabnggffjaaTillBackP
import Derived.Test.YtmcfmabnggffjaaAwake09
import Derived.LoopTactic
namespace Go.Proofs.Ytmcfmabnggffjaa
set_option linter.unusedVariables false
set_option linter.unusedSimpArgs false
set_option linter.unnecessarySimpa false
open Go.RowKit

def UpRel (n : Nat) (i : Value) : Prop := ∃ k : Nat, k ≤ n ∧ i = .int .i64 k
set_option maxRecDepth 100000 in
set_option maxHeartbeats 2000000 in
theorem tillback_any (A : Option Addr) (c : Nat) (l : List Int) (who to n : Int) (hn : U64 n) (w : World) (hw : Words w A c l) : Calls Try.prog 3 #[.slice A l.length c, .int .i64 who, .int .i64 to, .int .u64 n] w fun e w' => e = .returned (.bool true) ∧ Below w.heap.size w w' := by
  have HW := Lib.hid hw
  have HU := Lib.hid hn
  have hl := hw.len
  rcases (show newE l = 0 ∨ newE l ≠ 0 by omega) with he | he
  rotate_left 1
  · have HN := Lib.hid (new_bad w A c l hw he)
    obtain ⟨x, hx⟩ : ∃ x, newE l = x := ⟨_, rfl⟩
    rw [hx] at HN he
    have b1 : (x == 0) = false := beq_eq_false_iff_ne.2 he
    have b2 : (x != 0) = true := by simp [he]
    have HA := Lib.hid (awake_any w)
    clear hw hx hn
    go_enter Try.func3, Try.ntmps3
    go_wp2_with fail
    refine HN.out.mono ?_
    rintro e w1 ⟨rfl, rfl⟩
    go_wp2_with fail
    refine HA.out.mono ?_
    rintro e w2 ⟨rfl, hb⟩
    have HB := Lib.hid hb
    clear hb
    go_wp2
    go_ret
    exact ⟨rfl, HB.out⟩
  · have HN := Lib.hid (new_ok w A c l hw he)
    obtain ⟨h16, hs⟩ := newE_ok he
    have ok := tl0_ok hw.u h16 hs
    have hr := fun (w : World) (h : Words w A c l) => rsum_any w A c l h
    obtain ⟨v, hv⟩ : ∃ v, (sumP 0 l).1 = v := ⟨_, rfl⟩
    simp only [hv, hs] at hr
    have HR := Lib.hid hr
    have hth : (tl0 l).has = l := rfl
    have htk : (tl0 l).kept = 0 := rfl
    obtain ⟨t, ht⟩ : ∃ t, tl0 l = t := ⟨_, rfl⟩
    rw [ht] at HN ok hth htk
    have O := Lib.hid ok
    have TH := Lib.hid hth
    have TK := Lib.hid htk
    clear hw he hs hr hv ht
    rcases (show keepE t who n = 0 ∨ keepE t who n ≠ 0 by omega) with hk | hk
    · have HG := Lib.hid (keep_give ok.k0 hn.1 hk)
      have HK := Lib.hid hk
      clear hk
      rcases (show moveE t who to n = 0 ∨ moveE t who to n ≠ 0 by omega) with hm | hm
      · have HMB := Lib.hid (move_back ok hn.1 hm)
        have HM := Lib.hid hm
        clear hm ok hn hth htk
        go_enter Try.func3, Try.ntmps3
        go_wp2_with fail
        refine (HN.out).mono ?_
        rintro e w2 ⟨m, rfl, h2⟩
        have hW2 := HW.out.mono (src_rest h2 (i := 0) rfl HW.out.src (src_lt HW.out.src))
        have H2 := Lib.hid h2
        have HW2 := Lib.hid hW2
        clear h2 hW2
        go_wp2_with fail
        refine (HR.out _ HW2.out).mono ?_
        rintro e w3 ⟨rfl, rfl⟩
        go_wp2_with fail
        refine (H2.out.call1 (i := 1) (A' := tillX 54 m (keepS t who n)) (Q := fun e => e = .returned (.int .i64 0)) rfl (fun F hF _ => by have := keep_any _ m t O.out who n HU.out F hF; rwa [HK.out] at this)).mono ?_
        rintro e w4 ⟨rfl, h4⟩
        try simp only [List.cons_append, List.nil_append, List.set_cons_succ, List.set_cons_zero] at h4
        have H4 := Lib.hid h4
        clear h4
        go_wp2_with fail
        refine (H4.out.call1 (i := 1) (A' := tillX 54 m t) (Q := fun e => e = .returned (.int .i64 0)) rfl (fun F hF _ => by have := give_any _ m (keepS t who n) (O.out.keep who n HU.out.1).1 who n HU.out F hF; rwa [HG.out.1, HG.out.2] at this)).mono ?_
        rintro e w5 ⟨rfl, h5⟩
        try simp only [List.cons_append, List.nil_append, List.set_cons_succ, List.set_cons_zero] at h5
        have H5 := Lib.hid h5
        clear h5
        go_wp2_with fail
        refine (H5.out.call1 (i := 1) (A' := tillX 54 m (moveS t who to n)) (Q := fun e => e = .returned (.int .i64 0)) rfl (fun F hF _ => by have := move_any _ m t O.out who to n HU.out F hF; rwa [HM.out] at this)).mono ?_
        rintro e w6 ⟨rfl, h6⟩
        try simp only [List.cons_append, List.nil_append, List.set_cons_succ, List.set_cons_zero] at h6
        have H6 := Lib.hid h6
        clear h6
        go_wp2_with fail
        refine (H6.out.call1 (i := 1) (A' := tillX 54 m t) (Q := fun e => e = .returned (.int .i64 0)) rfl (fun F hF _ => by have := move_any _ m (moveS t who to n) (O.out.move who to n HU.out.1).1 to who n HU.out F hF; rwa [HMB.out.1, HMB.out.2] at this)).mono ?_
        rintro e w7 ⟨rfl, h7⟩
        try simp only [List.cons_append, List.nil_append, List.set_cons_succ, List.set_cons_zero] at h7
        have H7 := Lib.hid h7
        clear h7
        have hW7 := HW.out.mono (src_rest H7.out (i := 0) rfl HW.out.src (src_lt HW.out.src))
        have HW7 := Lib.hid hW7
        obtain ⟨F7, f7⟩ := H7.out.get (i := 1) rfl
        have HF := Lib.hid f7
        clear hW7 f7
        have hll : l.length ≤ 9223372036854775807 := by omega
        go_wp2
        go_loop [58] (UpRel l.length) (fun i => l.length - (intOf i).toNat)
        case atStart => exact ⟨0, Nat.zero_le _, rfl⟩
        case round =>
          obtain ⟨k, hk, rfl⟩ := hrel
          by_cases hlt : k < l.length
          · obtain ⟨b, off, rfl, hb, hc, u0, u1⟩ := HW7.out.at hlt
            have hh := has_any _ m t F7 HF.out O.out (k : Int)
            rw [if_pos ⟨by omega, by rw [TH.out]; omega⟩, Int.toNat_natCast, TH.out] at hh
            obtain ⟨z, hz⟩ : ∃ z, l.getD k 0 = z := ⟨_, rfl⟩
            rw [hz] at hh hc
            have HH := Lib.hid hh
            clear hh hz u0 u1
            go_wp2_with fail
            refine (HH.out).mono ?_
            rintro e w8 ⟨rfl, rfl⟩
            go_wp2
            go_round
            case rel => exact ⟨k + 1, by omega, by go_num⟩
            case measure => (simp [intOf]; try omega)
          · obtain rfl : k = l.length := by omega
            go_wp2_with fail
            refine (awake_any _).mono ?_
            rintro e w9 ⟨rfl, hb⟩
            have h9 := H7.out.grow hb
            obtain ⟨F9, f9⟩ := h9.get (i := 1) rfl
            have hkp := kept_any _ m t F9 f9
            rw [TK.out] at hkp
            have HKP := Lib.hid hkp
            have hbl := h9.below (i := 0) rfl
            have HBL := Lib.hid hbl
            clear hb h9 f9 hkp hbl
            go_wp2_with fail
            refine (HKP.out).mono ?_
            rintro e w10 ⟨rfl, rfl⟩
            go_wp2
            go_ret
            exact ⟨rfl, HBL.out⟩
      · have HMS := Lib.hid (show moveS t who to n = t by unfold moveS; rw [if_neg hm])
        obtain ⟨y, hy⟩ : ∃ y, moveE t who to n = y := ⟨_, rfl⟩
        rw [hy] at hm
        have HMX := Lib.hid hy
        have m1 : (y == 0) = false := beq_eq_false_iff_ne.2 hm
        have m2 : (y != 0) = true := by simp [hm]
        clear hm hy ok hn hth htk
        go_enter Try.func3, Try.ntmps3
        go_wp2_with fail
        refine (HN.out).mono ?_
        rintro e w2 ⟨m, rfl, h2⟩
        have hW2 := HW.out.mono (src_rest h2 (i := 0) rfl HW.out.src (src_lt HW.out.src))
        have H2 := Lib.hid h2
        have HW2 := Lib.hid hW2
        clear h2 hW2
        go_wp2_with fail
        refine (HR.out _ HW2.out).mono ?_
        rintro e w3 ⟨rfl, rfl⟩
        go_wp2_with fail
        refine (H2.out.call1 (i := 1) (A' := tillX 54 m (keepS t who n)) (Q := fun e => e = .returned (.int .i64 0)) rfl (fun F hF _ => by have := keep_any _ m t O.out who n HU.out F hF; rwa [HK.out] at this)).mono ?_
        rintro e w4 ⟨rfl, h4⟩
        try simp only [List.cons_append, List.nil_append, List.set_cons_succ, List.set_cons_zero] at h4
        have H4 := Lib.hid h4
        clear h4
        go_wp2_with fail
        refine (H4.out.call1 (i := 1) (A' := tillX 54 m t) (Q := fun e => e = .returned (.int .i64 0)) rfl (fun F hF _ => by have := give_any _ m (keepS t who n) (O.out.keep who n HU.out.1).1 who n HU.out F hF; rwa [HG.out.1, HG.out.2] at this)).mono ?_
        rintro e w5 ⟨rfl, h5⟩
        try simp only [List.cons_append, List.nil_append, List.set_cons_succ, List.set_cons_zero] at h5
        have H5 := Lib.hid h5
        clear h5
        go_wp2_with fail
        refine (H5.out.call1 (i := 1) (A' := tillX 54 m t) (Q := fun e => e = .returned (.int .i64 y)) rfl (fun F hF _ => by have := move_any _ m t O.out who to n HU.out F hF; rwa [HMX.out, HMS.out] at this)).mono ?_
        rintro e w7 ⟨rfl, h7⟩
        try simp only [List.cons_append, List.nil_append, List.set_cons_succ, List.set_cons_zero] at h7
        have H7 := Lib.hid h7
        clear h7
        have hW7 := HW.out.mono (src_rest H7.out (i := 0) rfl HW.out.src (src_lt HW.out.src))
        have HW7 := Lib.hid hW7
        obtain ⟨F7, f7⟩ := H7.out.get (i := 1) rfl
        have HF := Lib.hid f7
        clear hW7 f7
        have hll : l.length ≤ 9223372036854775807 := by omega
        go_wp2
        go_loop [58] (UpRel l.length) (fun i => l.length - (intOf i).toNat)
        case atStart => exact ⟨0, Nat.zero_le _, rfl⟩
        case round =>
          obtain ⟨k, hk, rfl⟩ := hrel
          by_cases hlt : k < l.length
          · obtain ⟨b, off, rfl, hb, hc, u0, u1⟩ := HW7.out.at hlt
            have hh := has_any _ m t F7 HF.out O.out (k : Int)
            rw [if_pos ⟨by omega, by rw [TH.out]; omega⟩, Int.toNat_natCast, TH.out] at hh
            obtain ⟨z, hz⟩ : ∃ z, l.getD k 0 = z := ⟨_, rfl⟩
            rw [hz] at hh hc
            have HH := Lib.hid hh
            clear hh hz u0 u1
            go_wp2_with fail
            refine (HH.out).mono ?_
            rintro e w8 ⟨rfl, rfl⟩
            go_wp2
            go_round
            case rel => exact ⟨k + 1, by omega, by go_num⟩
            case measure => (simp [intOf]; try omega)
          · obtain rfl : k = l.length := by omega
            go_wp2_with fail
            refine (awake_any _).mono ?_
            rintro e w9 ⟨rfl, hb⟩
            have h9 := H7.out.grow hb
            obtain ⟨F9, f9⟩ := h9.get (i := 1) rfl
            have hkp := kept_any _ m t F9 f9
            rw [TK.out] at hkp
            have HKP := Lib.hid hkp
            have hbl := h9.below (i := 0) rfl
            have HBL := Lib.hid hbl
            clear hb h9 f9 hkp hbl
            go_wp2_with fail
            refine (HKP.out).mono ?_
            rintro e w10 ⟨rfl, rfl⟩
            go_wp2
            go_ret
            exact ⟨rfl, HBL.out⟩
    · have HKS := Lib.hid (keep_fell hk)
      obtain ⟨x, hx⟩ : ∃ x, keepE t who n = x := ⟨_, rfl⟩
      rw [hx] at hk
      have HKX := Lib.hid hx
      have b1 : (x == 0) = false := beq_eq_false_iff_ne.2 hk
      have b2 : (x != 0) = true := by simp [hk]
      clear hk hx
      rcases (show moveE t who to n = 0 ∨ moveE t who to n ≠ 0 by omega) with hm | hm
      · have HMB := Lib.hid (move_back ok hn.1 hm)
        have HM := Lib.hid hm
        clear hm ok hn hth htk
        go_enter Try.func3, Try.ntmps3
        go_wp2_with fail
        refine (HN.out).mono ?_
        rintro e w2 ⟨m, rfl, h2⟩
        have hW2 := HW.out.mono (src_rest h2 (i := 0) rfl HW.out.src (src_lt HW.out.src))
        have H2 := Lib.hid h2
        have HW2 := Lib.hid hW2
        clear h2 hW2
        go_wp2_with fail
        refine (HR.out _ HW2.out).mono ?_
        rintro e w3 ⟨rfl, rfl⟩
        go_wp2_with fail
        refine (H2.out.call1 (i := 1) (A' := tillX 54 m t) (Q := fun e => e = .returned (.int .i64 x)) rfl (fun F hF _ => by have := keep_any _ m t O.out who n HU.out F hF; rwa [HKX.out, HKS.out] at this)).mono ?_
        rintro e w5 ⟨rfl, h5⟩
        try simp only [List.cons_append, List.nil_append, List.set_cons_succ, List.set_cons_zero] at h5
        have H5 := Lib.hid h5
        clear h5
        go_wp2_with fail
        refine (H5.out.call1 (i := 1) (A' := tillX 54 m (moveS t who to n)) (Q := fun e => e = .returned (.int .i64 0)) rfl (fun F hF _ => by have := move_any _ m t O.out who to n HU.out F hF; rwa [HM.out] at this)).mono ?_
        rintro e w6 ⟨rfl, h6⟩
        try simp only [List.cons_append, List.nil_append, List.set_cons_succ, List.set_cons_zero] at h6
        have H6 := Lib.hid h6
        clear h6
        go_wp2_with fail
        refine (H6.out.call1 (i := 1) (A' := tillX 54 m t) (Q := fun e => e = .returned (.int .i64 0)) rfl (fun F hF _ => by have := move_any _ m (moveS t who to n) (O.out.move who to n HU.out.1).1 to who n HU.out F hF; rwa [HMB.out.1, HMB.out.2] at this)).mono ?_
        rintro e w7 ⟨rfl, h7⟩
        try simp only [List.cons_append, List.nil_append, List.set_cons_succ, List.set_cons_zero] at h7
        have H7 := Lib.hid h7
        clear h7
        have hW7 := HW.out.mono (src_rest H7.out (i := 0) rfl HW.out.src (src_lt HW.out.src))
        have HW7 := Lib.hid hW7
        obtain ⟨F7, f7⟩ := H7.out.get (i := 1) rfl
        have HF := Lib.hid f7
        clear hW7 f7
        have hll : l.length ≤ 9223372036854775807 := by omega
        go_wp2
        go_loop [58] (UpRel l.length) (fun i => l.length - (intOf i).toNat)
        case atStart => exact ⟨0, Nat.zero_le _, rfl⟩
        case round =>
          obtain ⟨k, hk, rfl⟩ := hrel
          by_cases hlt : k < l.length
          · obtain ⟨b, off, rfl, hb, hc, u0, u1⟩ := HW7.out.at hlt
            have hh := has_any _ m t F7 HF.out O.out (k : Int)
            rw [if_pos ⟨by omega, by rw [TH.out]; omega⟩, Int.toNat_natCast, TH.out] at hh
            obtain ⟨z, hz⟩ : ∃ z, l.getD k 0 = z := ⟨_, rfl⟩
            rw [hz] at hh hc
            have HH := Lib.hid hh
            clear hh hz u0 u1
            go_wp2_with fail
            refine (HH.out).mono ?_
            rintro e w8 ⟨rfl, rfl⟩
            go_wp2
            go_round
            case rel => exact ⟨k + 1, by omega, by go_num⟩
            case measure => (simp [intOf]; try omega)
          · obtain rfl : k = l.length := by omega
            go_wp2_with fail
            refine (awake_any _).mono ?_
            rintro e w9 ⟨rfl, hb⟩
            have h9 := H7.out.grow hb
            obtain ⟨F9, f9⟩ := h9.get (i := 1) rfl
            have hkp := kept_any _ m t F9 f9
            rw [TK.out] at hkp
            have HKP := Lib.hid hkp
            have hbl := h9.below (i := 0) rfl
            have HBL := Lib.hid hbl
            clear hb h9 f9 hkp hbl
            go_wp2_with fail
            refine (HKP.out).mono ?_
            rintro e w10 ⟨rfl, rfl⟩
            go_wp2
            go_ret
            exact ⟨rfl, HBL.out⟩
      · have HMS := Lib.hid (show moveS t who to n = t by unfold moveS; rw [if_neg hm])
        obtain ⟨y, hy⟩ : ∃ y, moveE t who to n = y := ⟨_, rfl⟩
        rw [hy] at hm
        have HMX := Lib.hid hy
        have m1 : (y == 0) = false := beq_eq_false_iff_ne.2 hm
        have m2 : (y != 0) = true := by simp [hm]
        clear hm hy ok hn hth htk
        go_enter Try.func3, Try.ntmps3
        go_wp2_with fail
        refine (HN.out).mono ?_
        rintro e w2 ⟨m, rfl, h2⟩
        have hW2 := HW.out.mono (src_rest h2 (i := 0) rfl HW.out.src (src_lt HW.out.src))
        have H2 := Lib.hid h2
        have HW2 := Lib.hid hW2
        clear h2 hW2
        go_wp2_with fail
        refine (HR.out _ HW2.out).mono ?_
        rintro e w3 ⟨rfl, rfl⟩
        go_wp2_with fail
        refine (H2.out.call1 (i := 1) (A' := tillX 54 m t) (Q := fun e => e = .returned (.int .i64 x)) rfl (fun F hF _ => by have := keep_any _ m t O.out who n HU.out F hF; rwa [HKX.out, HKS.out] at this)).mono ?_
        rintro e w5 ⟨rfl, h5⟩
        try simp only [List.cons_append, List.nil_append, List.set_cons_succ, List.set_cons_zero] at h5
        have H5 := Lib.hid h5
        clear h5
        go_wp2_with fail
        refine (H5.out.call1 (i := 1) (A' := tillX 54 m t) (Q := fun e => e = .returned (.int .i64 y)) rfl (fun F hF _ => by have := move_any _ m t O.out who to n HU.out F hF; rwa [HMX.out, HMS.out] at this)).mono ?_
        rintro e w7 ⟨rfl, h7⟩
        try simp only [List.cons_append, List.nil_append, List.set_cons_succ, List.set_cons_zero] at h7
        have H7 := Lib.hid h7
        clear h7
        have hW7 := HW.out.mono (src_rest H7.out (i := 0) rfl HW.out.src (src_lt HW.out.src))
        have HW7 := Lib.hid hW7
        obtain ⟨F7, f7⟩ := H7.out.get (i := 1) rfl
        have HF := Lib.hid f7
        clear hW7 f7
        have hll : l.length ≤ 9223372036854775807 := by omega
        go_wp2
        go_loop [58] (UpRel l.length) (fun i => l.length - (intOf i).toNat)
        case atStart => exact ⟨0, Nat.zero_le _, rfl⟩
        case round =>
          obtain ⟨k, hk, rfl⟩ := hrel
          by_cases hlt : k < l.length
          · obtain ⟨b, off, rfl, hb, hc, u0, u1⟩ := HW7.out.at hlt
            have hh := has_any _ m t F7 HF.out O.out (k : Int)
            rw [if_pos ⟨by omega, by rw [TH.out]; omega⟩, Int.toNat_natCast, TH.out] at hh
            obtain ⟨z, hz⟩ : ∃ z, l.getD k 0 = z := ⟨_, rfl⟩
            rw [hz] at hh hc
            have HH := Lib.hid hh
            clear hh hz u0 u1
            go_wp2_with fail
            refine (HH.out).mono ?_
            rintro e w8 ⟨rfl, rfl⟩
            go_wp2
            go_round
            case rel => exact ⟨k + 1, by omega, by go_num⟩
            case measure => (simp [intOf]; try omega)
          · obtain rfl : k = l.length := by omega
            go_wp2_with fail
            refine (awake_any _).mono ?_
            rintro e w9 ⟨rfl, hb⟩
            have h9 := H7.out.grow hb
            obtain ⟨F9, f9⟩ := h9.get (i := 1) rfl
            have hkp := kept_any _ m t F9 f9
            rw [TK.out] at hkp
            have HKP := Lib.hid hkp
            have hbl := h9.below (i := 0) rfl
            have HBL := Lib.hid hbl
            clear hb h9 f9 hkp hbl
            go_wp2_with fail
            refine (HKP.out).mono ?_
            rintro e w10 ⟨rfl, rfl⟩
            go_wp2
            go_ret
            exact ⟨rfl, HBL.out⟩
end Go.Proofs.Ytmcfmabnggffjaa
