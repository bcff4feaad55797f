/- Walk over the law MoneyShares. -/
import Derived.Test.YtonjibjghijacaaShare02
import Derived.Test.YtonjibjghijacaaReadW
namespace Go.Proofs.Ytonjibjghijacaa
set_option linter.unusedVariables false
set_option linter.unusedSimpArgs false
set_option linter.unnecessarySimpa false
open Go.RowKit

set_option maxRecDepth 100000 in
set_option maxHeartbeats 2000000 in
theorem shares_law (w : World) (a : Int) (ha : U64 a) (A : Option Addr) (c : Nat) (l : List Int) (h : Words w A c l) : Calls Try.prog 9 #[.int .u64 a, .slice A l.length c] w fun e w' => e = .returned (.bool true) ∧ Below w.heap.size w w' := by
  have H0 := Lib.hid (Sat.pushRest w)
  have HW := Lib.hid h
  have hlen := h.len
  clear h
  rcases (show 200 < l.length ∨ l.length ≤ 200 by omega) with hn | hn
  · go_enter Try.func9, Try.ntmps9
    go_wp2_with fail
    refine (awake_any _).mono ?_
    rintro e w1 ⟨rfl, hb⟩
    have h1 := H0.out.grow hb
    have H1 := Lib.hid h1
    clear hb h1
    go_wp2
    go_ret
    exact ⟨rfl, H1.out.below (i := 0) rfl⟩
  · have hsu := fun h1 h2 => shares_of (a := a) (ws := l) HW.out.u h1 h2
    have HSA := Lib.hid (fun w A c h => share_any w a ha A c l h hn)
    have HRS := Lib.hid (fun w A c h => rshare_any w a ha A c l h hn)
    rcases Decidable.em ((sumP 0 l).2 = 0 ∧ (sumP 0 l).1 ≠ 0) with hok | hok
    · obtain ⟨hsh, hau⟩ := hsu hok.1 hok.2
      have hv : shareP a l = (bumpP (a - (partsP a (sumP 0 l).1 l).sum) l (partsP a (sumP 0 l).1 l), 0) := by unfold shareP; rw [if_pos hok.1, if_neg hok.2]
      have htot := hsh.total ha
      have huu := hsh.u ha
      have hnn := fun (i : Nat) (h0 : l.getD i 0 = 0) => Shares.none (a := a) (all := (sumP 0 l).1) (ws := l) (i := i) h0
      have hll := bumpP_len l (partsP a (sumP 0 l).1 l) (a - (partsP a (sumP 0 l).1 l).sum) (parts_len _ _ _).symm
      rw [parts_len] at hll
      rw [hv] at HSA HRS
      clear hv hsh hau hok hsu
      generalize bumpP (a - (partsP a (sumP 0 l).1 l).sum) l (partsP a (sumP 0 l).1 l) = s at *
      dsimp only at HSA HRS
      have hsp := sumP_of s 0 (fun x hx => (huu x hx).1) (by rw [htot]; have := ha.2; omega)
      rw [htot, Int.zero_add] at hsp
      have HUU := Lib.hid huu
      have HLL : Hid (s.length * 8 ≤ 140737488355328) := Lib.hid (by omega)
      have HNN := Lib.hid hnn
      have HSP := Lib.hid hsp
      rw [hll] at HSA HRS
      have HSL := Lib.hid hll
      clear huu hnn hsp hll htot
      go_enter Try.func9, Try.ntmps9
      go_wp2_with fail
      refine (HSA.out w A c HW.out).mono ?_
      rintro e w1 ⟨A1, c1, rfl, g⟩
      have h1 := H0.out.pushThings g
      try simp only [List.cons_append, List.nil_append, List.set_cons_succ, List.set_cons_zero, Nat.zero_add, Nat.reduceAdd] at h1
      have H1 := Lib.hid h1
      clear g h1
      go_wp2_with fail
      refine (HRS.out _ A c (HW.out.mono (src_rest H1.out (i := 0) rfl HW.out.src (src_lt HW.out.src)))).mono ?_
      rintro e w2 ⟨A2, c2, rfl, g⟩
      have h2 := H1.out.pushThings g
      try simp only [List.cons_append, List.nil_append, List.set_cons_succ, List.set_cons_zero, Nat.zero_add, Nat.reduceAdd] at h2
      have H2 := Lib.hid h2
      clear g h2
      have w1' := row_words (c := c1) (A := A1) (xs := s) (by have h9 := H2.out.rowOf (i := 1) rfl; rwa [← HSL.out] at h9) HUU.out HLL.out
      have w2' := row_words (c := c2) (A := A2) (xs := s) (by have h9 := H2.out.rowOf (i := 2) rfl; rwa [← HSL.out] at h9) HUU.out HLL.out
      have hsm := same_any w2 A1 A2 c1 c2 s w1' w2'
      rw [HSL.out] at hsm
      have HSM := Lib.hid hsm
      clear w1' w2' hsm
      go_wp2_with fail
      refine (HSM.out).mono ?_
      rintro e w3 ⟨rfl, hb⟩
      have h3 := H2.out.grow hb
      have H3 := Lib.hid h3
      clear hb h3
      have w3' := row_words (c := c1) (A := A1) (xs := s) (by have h9 := H3.out.rowOf (i := 1) rfl; rwa [← HSL.out] at h9) HUU.out HLL.out
      have hsm := sum_any _ A1 c1 s w3'
      rw [HSL.out, HSP.out] at hsm
      have HSM2 := Lib.hid hsm
      clear w3' hsm
      go_wp2_with fail
      refine (HSM2.out).mono ?_
      rintro e w4 ⟨rfl, hw⟩
      first | rw [show w4 = _ from hw] | rw [show w4 = _ from hw.symm]
      clear hw
      have hl9 : l.length ≤ 9223372036854775807 := by omega
      go_wp2
      go_loopw [48] (fun i wr => ∃ k : Nat, k ≤ l.length ∧ i = .int .i64 k ∧ Sat w wr [rest w (· < w.heap.size), row 22 1 (.slice A1 l.length c1) l.length (words s), row 22 1 (.slice A2 l.length c2) l.length (words s)]) (fun i _ => l.length - (intOf i).toNat)
      case atStart => exact ⟨0, Nat.zero_le _, rfl, H3.out⟩
      case round =>
        obtain ⟨k, hk, rfl, hS⟩ := hrel
        clear H3 HSM HSM2
        by_cases hlt : k < l.length
        · have hw := HW.out.mono (src_rest hS (i := 0) rfl HW.out.src (src_lt HW.out.src))
          obtain ⟨b, off, rfl, hb, hc, u0, u1⟩ := hw.at hlt
          obtain ⟨g, hg, d0, d1, d2⟩ := row_at_some (hS.rowOf (i := 1) rfl) HSL.out hlt
          subst hg
          have hnn := HNN.out k
          generalize l.getD k 0 = x at *
          generalize s.getD k 0 = y at *
          have HS := Lib.hid hS
          clear hS hw
          rcases (show x = 0 ∨ x ≠ 0 by omega) with hx | hx
          · obtain rfl := hnn hx
            subst hx
            clear hnn
            go_wp2
            go_roundw
            case rel => exact ⟨k + 1, by omega, by go_num, HS.out⟩
            case measure => (simp [intOf]; try omega)
          · have b1 : (x == 0) = false := beq_eq_false_iff_ne.2 hx
            clear hnn hx
            go_wp2
            go_roundw
            case rel => exact ⟨k + 1, by omega, by go_num, HS.out⟩
            case measure => (simp [intOf]; try omega)
        · obtain rfl : k = l.length := by omega
          have HS := Lib.hid hS
          clear hS
          go_wp2_with fail
          refine (awake_any _).mono ?_
          rintro e w41 ⟨rfl, hb⟩
          have h41 := HS.out.grow hb
          have H41 := Lib.hid h41
          clear hb h41
          go_wp2
          go_ret
          exact ⟨rfl, H41.out.below (i := 0) rfl⟩
    · have hb : ∃ e, shareP a l = ([], e) ∧ e ≠ 0 := by
        unfold shareP
        by_cases h1 : (sumP 0 l).2 = 0
        · have h2 : (sumP 0 l).1 = 0 := Decidable.byContradiction fun h2 => hok ⟨h1, h2⟩
          exact ⟨1, by rw [if_pos h1, if_pos h2], by decide⟩
        · exact ⟨_, by rw [if_neg h1], h1⟩
      obtain ⟨e, hv, he⟩ := hb
      rw [hv] at HSA HRS
      dsimp only at HSA HRS
      have b1 : (e == 0) = false := beq_eq_false_iff_ne.2 he
      have b2 : (e != 0) = true := by simp [he]
      have HUU : Hid (∀ x ∈ ([] : List Int), U64 x) := Lib.hid (fun x hx => by cases hx)
      have HLL : Hid (([] : List Int).length * 8 ≤ 140737488355328) := Lib.hid (by simp)
      clear he hv hok hsu
      go_enter Try.func9, Try.ntmps9
      go_wp2_with fail
      refine (HSA.out w A c HW.out).mono ?_
      rintro e w1 ⟨A1, c1, rfl, g⟩
      have h1 := H0.out.pushThings g
      try simp only [List.cons_append, List.nil_append, List.set_cons_succ, List.set_cons_zero, Nat.zero_add, Nat.reduceAdd] at h1
      have H1 := Lib.hid h1
      clear g h1
      go_wp2_with fail
      refine (HRS.out _ A c (HW.out.mono (src_rest H1.out (i := 0) rfl HW.out.src (src_lt HW.out.src)))).mono ?_
      rintro e w2 ⟨A2, c2, rfl, g⟩
      have h2 := H1.out.pushThings g
      try simp only [List.cons_append, List.nil_append, List.set_cons_succ, List.set_cons_zero, Nat.zero_add, Nat.reduceAdd] at h2
      have H2 := Lib.hid h2
      clear g h2
      have w1' := row_words (H2.out.rowOf (i := 1) rfl) HUU.out HLL.out
      have w2' := row_words (H2.out.rowOf (i := 2) rfl) HUU.out HLL.out
      have HW1 := Lib.hid w1'
      have HW2 := Lib.hid w2'
      clear w1' w2'
      go_wp2_with fail
      refine (same_any _ A1 A2 c1 c2 _ HW1.out HW2.out).mono ?_
      rintro e w3 ⟨rfl, hb⟩
      have h3 := H2.out.grow hb
      have H3 := Lib.hid h3
      clear hb h3
      go_wp2_with fail
      refine (awake_any _).mono ?_
      rintro e w4 ⟨rfl, hb⟩
      have h4 := H3.out.grow hb
      have H4 := Lib.hid h4
      clear hb h4
      go_wp2
      go_ret
      exact ⟨rfl, H4.out.below (i := 0) rfl⟩
end Go.Proofs.Ytonjibjghijacaa
