/- Walks over shares. -/
import Derived.Test.YtonjibjghijacaaShareP
import Derived.Test.YtonjibjghijacaaLaws02
import Derived.Test.YtonjibjghijacaaSum
namespace Go.Proofs.Ytonjibjghijacaa
set_option linter.unusedVariables false
set_option linter.unusedSimpArgs false
set_option linter.unnecessarySimpa false
open Go.RowKit

theorem row_at_some {w : World} {B : Nat} {T : TypeId} {A : Option Addr} {n c : Nat} {xs : List Int} (h : w.ownsRow B T 1 (.slice A n c) n (words xs)) (hl : xs.length = n) {j : Nat} (hj : j < n) : ∃ g, A = some ⟨g, 0, none⟩ ∧ w.cell? ⟨g, j, none⟩ = some (.int .u64 (xs.getD j 0)) ∧ w.frozen? ⟨g, j, none⟩ = false ∧ g < w.heap.size := by
  obtain ⟨g, h1, h2, h3, h4⟩ := row_at h hj
  exact ⟨g, h1, h2 _ (words_at (by omega)), h3, h4⟩
set_option maxRecDepth 100000 in
set_option maxHeartbeats 2000000 in
theorem share_any (w : World) (a : Int) (ha : U64 a) (A : Option Addr) (c : Nat) (l : List Int) (h : Words w A c l) (hl : l.length ≤ 200) : Calls Try.prog 31 #[.int .u64 a, .slice A l.length c] w fun e w' => ∃ A' c', e = .returned (.tuple #[.slice A' (shareP a l).1.length c', .int .i64 (shareP a l).2]) ∧ Sat w w' [rest w (· < w.heap.size), row 22 1 (.slice A' (shareP a l).1.length c') (shareP a l).1.length (words (shareP a l).1)] := by
  have hsm := sum_any w A c l h
  have H0 := Lib.hid (Sat.pushRest w)
  have HW := Lib.hid h
  have hsu := fun h1 h2 => shares_of (a := a) (ws := l) h.u h1 h2
  unfold shareP
  generalize sumP 0 l = r at *
  obtain ⟨all, e⟩ := r
  dsimp only at hsm hsu ⊢
  have HSM := Lib.hid hsm
  clear h hsm
  rcases (show e ≠ 0 ∨ e = 0 by omega) with he | he
  · have b1 : (e == 0) = false := beq_eq_false_iff_ne.2 he
    have b2 : (e != 0) = true := by simp [he]
    rw [if_neg he]
    clear he hsu
    go_enter Try.func31, Try.ntmps31
    go_wp2_with fail
    refine (HSM.out).mono ?_
    rintro e w1 ⟨rfl, hw⟩
    first | rw [show w1 = _ from hw] | rw [show w1 = _ from hw.symm]
    clear hw
    go_wp2
    go_ret2
    exact ⟨none, 0, rfl, H0.out.nilRow 22 1⟩
  · subst he
    rw [if_pos rfl]
    rcases (show all = 0 ∨ all ≠ 0 by omega) with hz | hz
    · subst hz
      rw [if_pos rfl]
      clear hsu
      go_enter Try.func31, Try.ntmps31
      go_wp2_with fail
      refine (HSM.out).mono ?_
      rintro e w1 ⟨rfl, hw⟩
      first | rw [show w1 = _ from hw] | rw [show w1 = _ from hw.symm]
      clear hw
      go_wp2
      go_ret2
      exact ⟨none, 0, rfl, H0.out.nilRow 22 1⟩
    · rw [if_neg hz]
      obtain ⟨hsh, hau⟩ := hsu rfl hz
      have b1 : (all == 0) = false := beq_eq_false_iff_ne.2 hz
      have SH := Lib.hid hsh
      have HPT := Lib.hid (fun (k : Nat) (hk : k < l.length) => part_any a (l.getD k 0) all ha (HW.out.u _ (by simp [hk])) hau)
      have hpl := parts_len a all l
      obtain ⟨ps, hps⟩ : ∃ ps, partsP a all l = ps := ⟨_, rfl⟩
      have HPS := Lib.hid hps
      rw [hps] at hpl ⊢
      have HPL := Lib.hid hpl
      obtain ⟨L0, hL0⟩ : ∃ L0, a - ps.sum = L0 := ⟨_, rfl⟩
      rw [hL0]
      have HL0 := Lib.hid hL0
      have hbl := bumpP_len l ps L0 hpl.symm
      rw [hpl] at hbl
      have HBL := Lib.hid hbl
      obtain ⟨a0, a1⟩ := id ha
      clear hsh hz hps hpl hL0 hbl
      go_enter Try.func31, Try.ntmps31
      go_wp2_with fail
      refine (HSM.out).mono ?_
      rintro e w1 ⟨rfl, hw⟩
      first | rw [show w1 = _ from hw] | rw [show w1 = _ from hw.symm]
      clear hw
      go_wp2
      go_loopw [8, 9, 28] (fun v q i wr => ∃ (k : Nat) (A' : Option Addr) (c' : Nat), k ≤ l.length ∧ i = .int .i64 k ∧ v = .slice A' k c' ∧ q = .int .u64 (a - (partsP a all (l.take k)).sum) ∧ Sat w wr [rest w (· < w.heap.size), row 22 1 (.slice A' k c') k (words (partsP a all (l.take k)))]) (fun _ _ i _ => l.length - (intOf i).toNat)
      case atStart => exact ⟨0, none, 0, Nat.zero_le _, rfl, rfl, by simp [partsP], H0.out.nilRow 22 1⟩
      case round =>
        obtain ⟨k, A', c', hk, rfl, rfl, rfl, hS⟩ := hrel
        by_cases hlt : k < l.length
        · have hw := HW.out.mono (src_rest hS (i := 0) rfl HW.out.src (src_lt HW.out.src))
          obtain ⟨b, off, rfl, hb, hc, u0, u1⟩ := hw.at hlt
          have hpt := HPT.out k hlt
          obtain ⟨hp1, hp2, hp3⟩ := SH.out.part ha hlt
          obtain ⟨q0, q1⟩ := SH.out.take ha k
          obtain ⟨t0, t1⟩ := SH.out.take ha (k + 1)
          have hst := Shares.step (a := a) (all := all) hlt
          have hsn := parts_snoc (a := a) (all := all) hlt
          rw [hp1] at hpt
          generalize l.getD k 0 = x at *
          generalize a * x / all = p at *
          rw [hst] at t0 t1
          generalize (partsP a all (l.take k)).sum = q at *
          have HS := Lib.hid hS
          have HP := Lib.hid hpt
          have HST := Lib.hid hst
          have HSN := Lib.hid hsn
          have w1 : IntKind.u64.wrap (a - q - p) = a - q - p := by rw [IntKind.wrap_u64]; omega
          clear hS hpt hst hsn hw hp1
          go_wp2_with fail
          refine (HP.out _).mono ?_
          rintro e w21 ⟨rfl, hb⟩
          have h21 := HS.out.grow hb
          have H21 := Lib.hid h21
          clear hb h21
          clear hc
          have h22 := H21.out.alloc #[.int .u64 p] 22
          try simp only [List.cons_append, List.nil_append, List.set_cons_succ, List.set_cons_zero, Nat.zero_add, Nat.reduceAdd] at h22
          have H22 := Lib.hid h22
          clear h22
          go_wp2_with (first
            | (at_builtin; refine wpList_append_sat rfl _ _ 36 rfl H22.out 1 22 (.int .u64 0) 1 8 Try.underlying36 info_u64 rfl (by decide) (.slice A' k c') k (words (partsP a all (l.take k))) ?a0 rfl (some ⟨_, 0, none⟩) 1 1 [.int .u64 p] ?a1 (fun h => by cases h) ?a2 (box_src H22.out (i := 2) rfl) ?a3 ?a4 ?a5 ?a6)
            | fail)
          try (case a0 => go_simp)
          try (case a1 => go_simp)
          try (case a2 => rfl)
          case a3 => (intro u hu; simp at hu; subst hu; rfl)
          case a4 => unfold maxLen; omega
          case a5 => omega
          case a6 =>
            intro A2 c2 w3 h3 hA2 hg2
            try simp only [List.cons_append, List.nil_append, List.set_cons_succ, List.set_cons_zero, Nat.zero_add, Nat.reduceAdd] at h3
            have h4 := h3.left (l := [_, _]) (l' := [_])
            rw [show (words (partsP a all (l.take k)) ++ [Value.int .u64 p]) = words (partsP a all (l.take (k + 1))) from by rw [HSN.out, ← words_app]; rfl] at h4
            have H4 := Lib.hid h4
            clear hA2 hg2 h3 h4
            go_wp2
            go_roundw
            case rel => exact ⟨k + 1, A2, c2, by omega, by go_num, rfl, congrArg (Value.int .u64) (by rw [HST.out]; omega), H4.out⟩
            case measure => (simp [intOf]; try omega)
        · obtain rfl : k = l.length := by omega
          rw [List.take_length, HPS.out] at hS
          rw [List.take_length, HPS.out]
          rw [HL0.out]
          have hS1 := hS
          rw [← bst_zero L0 l ps] at hS1
          have HS := Lib.hid hS1
          have hlf := SH.out.left ha
          rw [HPS.out, HL0.out] at hlf
          obtain ⟨l0, l1⟩ := hlf
          have hl1 : L0 ≤ a := by have := HL0.out; have h9 := (SH.out.take ha l.length).1; rw [List.take_length, HPS.out] at h9; omega
          clear hS hS1 l1
          go_wp2
          go_loopw [9, 49] (fun q i wr => ∃ j : Nat, j ≤ l.length ∧ i = .int .i64 j ∧ q = .int .u64 (leftP L0 (l.take j)) ∧ Sat w wr [rest w (· < w.heap.size), row 22 1 (.slice A' l.length c') l.length (words (bst L0 l ps j))]) (fun _ i _ => l.length - (intOf i).toNat)
          case atStart => exact ⟨0, Nat.zero_le _, rfl, rfl, HS.out⟩
          case round =>
            obtain ⟨j, hj, rfl, rfl, hT⟩ := hrel
            clear HS
            have hll := leftP_le (l.take j) L0 l0
            by_cases hjt : j < l.length
            · have hw := HW.out.mono (src_rest hT (i := 0) rfl HW.out.src (src_lt HW.out.src))
              obtain ⟨b, off, rfl, hb, hc, u0, u1⟩ := hw.at hjt
              have hyes := bst_yes (left := L0) HPL.out.symm hjt
              have hno := bst_no (left := L0) HPL.out.symm hjt
              have hrm := SH.out.room ha hjt
              rw [HPS.out, HL0.out] at hrm
              obtain ⟨g, hg, d0, d1, d2⟩ := row_at_some (hT.rowOf (i := 1) rfl) (by rw [bst_len HPL.out.symm (by omega), HPL.out]) hjt
              rw [bst_get HPL.out.symm hjt] at d0
              subst hg
              generalize l.getD j 0 = x at *
              generalize ps.getD j 0 = p at *
              generalize leftP L0 (l.take j) = q at *
              obtain ⟨e0, e1⟩ := hll
              have HT := Lib.hid hT
              have HY := Lib.hid hyes
              have HN := Lib.hid hno
              have hnn : j < (bst L0 l ps j).length := by rw [bst_len HPL.out.symm (by omega), HPL.out]; exact hjt
              have hset := HT.out.setRow 1 rfl j (by rw [words_len]; exact hnn) (.int .u64 (p + 1))
              try simp only [List.cons_append, List.nil_append, List.set_cons_succ, List.set_cons_zero, Nat.zero_add, Nat.reduceAdd] at hset
              rw [words_set] at hset
              have HSET := Lib.hid hset
              have hqq : ∀ y, y = x → 0 ≤ y := fun y hy => by omega
              clear hT hw hyes hno hnn hset hqq
              rcases (show (0 < q ∧ 0 < x) ∨ q = 0 ∨ (0 < q ∧ x = 0) by omega) with ⟨y1, y2⟩ | y1 | ⟨y1, y2⟩
              · obtain ⟨m0, m1⟩ := hrm y1
                have m2 : IntKind.u64.wrap (p + 1) = p + 1 := by rw [IntKind.wrap_u64]; omega
                have m3 : IntKind.u64.wrap (q - 1) = q - 1 := by rw [IntKind.wrap_u64]; omega
                have Y1 := Lib.hid (HY.out y1 y2)
                clear hrm
                go_wp2
                go_roundw
                case rel => exact ⟨j + 1, by omega, by go_num, congrArg (Value.int .u64) Y1.out.2.symm, by rw [← Y1.out.1]; exact HSET.out⟩
                case measure => (simp [intOf]; try omega)
              · subst y1
                have Y1 := Lib.hid (HN.out (by omega))
                clear hrm d0 d1
                go_wp2
                go_roundw
                case rel => exact ⟨j + 1, by omega, by go_num, congrArg (Value.int .u64) Y1.out.2.symm, by rw [Y1.out.1]; exact HT.out⟩
                case measure => (simp [intOf]; try omega)
              · subst y2
                have Y1 := Lib.hid (HN.out (by omega))
                clear hrm d0 d1
                go_wp2
                go_roundw
                case rel => exact ⟨j + 1, by omega, by go_num, congrArg (Value.int .u64) Y1.out.2.symm, by rw [Y1.out.1]; exact HT.out⟩
                case measure => (simp [intOf]; try omega)
            · obtain rfl : j = l.length := by omega
              have HT := Lib.hid hT
              clear hT hll
              go_wp2
              go_ret2
              exact ⟨A', c', ret2_eq HBL.out.symm rfl rfl, by rw [HBL.out]; have h9 := HT.out; rwa [bst_all HPL.out.symm] at h9⟩
set_option maxRecDepth 100000 in
set_option maxHeartbeats 2000000 in
theorem rshare_any (w : World) (a : Int) (ha : U64 a) (A : Option Addr) (c : Nat) (l : List Int) (h : Words w A c l) (hl : l.length ≤ 200) : Calls Try.prog 32 #[.int .u64 a, .slice A l.length c] w fun e w' => ∃ A' c', e = .returned (.tuple #[.slice A' (shareP a l).1.length c', .int .i64 (shareP a l).2]) ∧ Sat w w' [rest w (· < w.heap.size), row 22 1 (.slice A' (shareP a l).1.length c') (shareP a l).1.length (words (shareP a l).1)] := by
  have hsm := rsum_any w A c l h
  have H0 := Lib.hid (Sat.pushRest w)
  have HW := Lib.hid h
  have hsu := fun h1 h2 => shares_of (a := a) (ws := l) h.u h1 h2
  unfold shareP
  generalize sumP 0 l = r at *
  obtain ⟨all, e⟩ := r
  dsimp only at hsm hsu ⊢
  have HSM := Lib.hid hsm
  clear h hsm
  rcases (show e ≠ 0 ∨ e = 0 by omega) with he | he
  · have b1 : (e == 0) = false := beq_eq_false_iff_ne.2 he
    have b2 : (e != 0) = true := by simp [he]
    rw [if_neg he]
    clear he hsu
    go_enter Try.func32, Try.ntmps32
    go_wp2_with fail
    refine (HSM.out).mono ?_
    rintro e w1 ⟨rfl, hw⟩
    first | rw [show w1 = _ from hw] | rw [show w1 = _ from hw.symm]
    clear hw
    go_wp2
    go_ret2
    exact ⟨none, 0, rfl, H0.out.nilRow 22 1⟩
  · subst he
    rw [if_pos rfl]
    rcases (show all = 0 ∨ all ≠ 0 by omega) with hz | hz
    · subst hz
      rw [if_pos rfl]
      clear hsu
      go_enter Try.func32, Try.ntmps32
      go_wp2_with fail
      refine (HSM.out).mono ?_
      rintro e w1 ⟨rfl, hw⟩
      first | rw [show w1 = _ from hw] | rw [show w1 = _ from hw.symm]
      clear hw
      go_wp2
      go_ret2
      exact ⟨none, 0, rfl, H0.out.nilRow 22 1⟩
    · rw [if_neg hz]
      obtain ⟨hsh, hau⟩ := hsu rfl hz
      have b1 : (all == 0) = false := beq_eq_false_iff_ne.2 hz
      have SH := Lib.hid hsh
      have HPT := Lib.hid (fun (k : Nat) (hk : k < l.length) => rpart_any a (l.getD k 0) all ha (HW.out.u _ (by simp [hk])) hau)
      have hpl := parts_len a all l
      obtain ⟨ps, hps⟩ : ∃ ps, partsP a all l = ps := ⟨_, rfl⟩
      have HPS := Lib.hid hps
      rw [hps] at hpl ⊢
      have HPL := Lib.hid hpl
      obtain ⟨L0, hL0⟩ : ∃ L0, a - ps.sum = L0 := ⟨_, rfl⟩
      rw [hL0]
      have HL0 := Lib.hid hL0
      have hbl := bumpP_len l ps L0 hpl.symm
      rw [hpl] at hbl
      have HBL := Lib.hid hbl
      obtain ⟨a0, a1⟩ := id ha
      clear hsh hz hps hpl hL0 hbl
      go_enter Try.func32, Try.ntmps32
      go_wp2_with fail
      refine (HSM.out).mono ?_
      rintro e w1 ⟨rfl, hw⟩
      first | rw [show w1 = _ from hw] | rw [show w1 = _ from hw.symm]
      clear hw
      go_wp2
      go_loopw [8, 9, 10] (fun v q i wr => ∃ (k : Nat) (A' : Option Addr) (c' : Nat), k ≤ l.length ∧ i = .int .i64 k ∧ v = .slice A' k c' ∧ q = .int .u64 ((partsP a all (l.take k)).sum) ∧ Sat w wr [rest w (· < w.heap.size), row 22 1 (.slice A' k c') k (words (partsP a all (l.take k)))]) (fun _ _ i _ => l.length - (intOf i).toNat)
      case atStart => exact ⟨0, none, 0, Nat.zero_le _, rfl, rfl, rfl, H0.out.nilRow 22 1⟩
      case round =>
        obtain ⟨k, A', c', hk, rfl, rfl, rfl, hS⟩ := hrel
        by_cases hlt : k < l.length
        · have hw := HW.out.mono (src_rest hS (i := 0) rfl HW.out.src (src_lt HW.out.src))
          obtain ⟨b, off, rfl, hb, hc, u0, u1⟩ := hw.at hlt
          have hpt := HPT.out k hlt
          obtain ⟨hp1, hp2, hp3⟩ := SH.out.part ha hlt
          obtain ⟨q0, q1⟩ := SH.out.take ha k
          obtain ⟨t0, t1⟩ := SH.out.take ha (k + 1)
          have hst := Shares.step (a := a) (all := all) hlt
          have hsn := parts_snoc (a := a) (all := all) hlt
          rw [hp1] at hpt
          generalize l.getD k 0 = x at *
          generalize a * x / all = p at *
          rw [hst] at t0 t1
          generalize (partsP a all (l.take k)).sum = q at *
          have HS := Lib.hid hS
          have HP := Lib.hid hpt
          have HST := Lib.hid hst
          have HSN := Lib.hid hsn
          have w1 : IntKind.u64.wrap (q + p) = q + p := by rw [IntKind.wrap_u64]; omega
          clear hS hpt hst hsn hw hp1
          go_wp2_with fail
          refine (HP.out _).mono ?_
          rintro e w21 ⟨rfl, hb⟩
          have h21 := HS.out.grow hb
          have H21 := Lib.hid h21
          clear hb h21
          clear hc
          have h22 := H21.out.alloc #[.int .u64 p] 22
          try simp only [List.cons_append, List.nil_append, List.set_cons_succ, List.set_cons_zero, Nat.zero_add, Nat.reduceAdd] at h22
          have H22 := Lib.hid h22
          clear h22
          go_wp2_with (first
            | (at_builtin; refine wpList_append_sat rfl _ _ 36 rfl H22.out 1 22 (.int .u64 0) 1 8 Try.underlying36 info_u64 rfl (by decide) (.slice A' k c') k (words (partsP a all (l.take k))) ?a0 rfl (some ⟨_, 0, none⟩) 1 1 [.int .u64 p] ?a1 (fun h => by cases h) ?a2 (box_src H22.out (i := 2) rfl) ?a3 ?a4 ?a5 ?a6)
            | fail)
          try (case a0 => go_simp)
          try (case a1 => go_simp)
          try (case a2 => rfl)
          case a3 => (intro u hu; simp at hu; subst hu; rfl)
          case a4 => unfold maxLen; omega
          case a5 => omega
          case a6 =>
            intro A2 c2 w3 h3 hA2 hg2
            try simp only [List.cons_append, List.nil_append, List.set_cons_succ, List.set_cons_zero, Nat.zero_add, Nat.reduceAdd] at h3
            have h4 := h3.left (l := [_, _]) (l' := [_])
            rw [show (words (partsP a all (l.take k)) ++ [Value.int .u64 p]) = words (partsP a all (l.take (k + 1))) from by rw [HSN.out, ← words_app]; rfl] at h4
            have H4 := Lib.hid h4
            clear hA2 hg2 h3 h4
            go_wp2
            go_roundw
            case rel => exact ⟨k + 1, A2, c2, by omega, by go_num, rfl, congrArg (Value.int .u64) (by rw [HST.out]), H4.out⟩
            case measure => (simp [intOf]; try omega)
        · obtain rfl : k = l.length := by omega
          rw [List.take_length, HPS.out] at hS
          rw [List.take_length, HPS.out]
          have hgv : ps.sum = a - L0 := by have := HL0.out; omega
          rw [hgv]
          clear hgv
          have hS1 := hS
          rw [← bst_zero L0 l ps] at hS1
          have HS := Lib.hid hS1
          have hlf := SH.out.left ha
          rw [HPS.out, HL0.out] at hlf
          obtain ⟨l0, l1⟩ := hlf
          have hl1 : L0 ≤ a := by have := HL0.out; have h9 := (SH.out.take ha l.length).1; rw [List.take_length, HPS.out] at h9; omega
          clear hS hS1 l1
          go_wp2
          go_loopw [9, 13] (fun q i wr => ∃ j : Nat, j ≤ l.length ∧ i = .int .i64 j ∧ q = .int .u64 (a - leftP L0 (l.take j)) ∧ Sat w wr [rest w (· < w.heap.size), row 22 1 (.slice A' l.length c') l.length (words (bst L0 l ps j))]) (fun _ i _ => l.length - (intOf i).toNat)
          case atStart => exact ⟨0, Nat.zero_le _, rfl, rfl, HS.out⟩
          case round =>
            obtain ⟨j, hj, rfl, rfl, hT⟩ := hrel
            clear HS
            have hll := leftP_le (l.take j) L0 l0
            by_cases hjt : j < l.length
            · rcases (show leftP L0 (l.take j) = 0 ∨ 0 < leftP L0 (l.take j) by omega) with y1 | y1
              · have HZ := Lib.hid y1
                rw [y1, Int.sub_zero]
                clear y1
                have HT := Lib.hid hT
                clear hT hll
                go_wp2
                go_ret2
                exact ⟨A', c', ret2_eq HBL.out.symm rfl rfl, by rw [HBL.out]; have h9 := HT.out; rwa [bst_stop HPL.out.symm hj HZ.out] at h9⟩
              · have hw := HW.out.mono (src_rest hT (i := 0) rfl HW.out.src (src_lt HW.out.src))
                obtain ⟨b, off, rfl, hb, hc, u0, u1⟩ := hw.at hjt
                have hyes := bst_yes (left := L0) HPL.out.symm hjt
                have hno := bst_no (left := L0) HPL.out.symm hjt
                have hrm := SH.out.room ha hjt
                rw [HPS.out, HL0.out] at hrm
                obtain ⟨g, hg, d0, d1, d2⟩ := row_at_some (hT.rowOf (i := 1) rfl) (by rw [bst_len HPL.out.symm (by omega), HPL.out]) hjt
                rw [bst_get HPL.out.symm hjt] at d0
                subst hg
                generalize l.getD j 0 = x at *
                generalize ps.getD j 0 = p at *
                generalize leftP L0 (l.take j) = q at *
                obtain ⟨e0, e1⟩ := hll
                have HT := Lib.hid hT
                have HY := Lib.hid hyes
                have HN := Lib.hid hno
                have hnn : j < (bst L0 l ps j).length := by rw [bst_len HPL.out.symm (by omega), HPL.out]; exact hjt
                have hset := HT.out.setRow 1 rfl j (by rw [words_len]; exact hnn) (.int .u64 (p + 1))
                try simp only [List.cons_append, List.nil_append, List.set_cons_succ, List.set_cons_zero, Nat.zero_add, Nat.reduceAdd] at hset
                rw [words_set] at hset
                have HSET := Lib.hid hset
                have hqq : ∀ y, y = x → 0 ≤ y := fun y hy => by omega
                clear hT hw hyes hno hnn hset hqq
                rcases (show 0 < x ∨ x = 0 by omega) with y2 | y2
                · obtain ⟨m0, m1⟩ := hrm y1
                  have m2 : IntKind.u64.wrap (p + 1) = p + 1 := by rw [IntKind.wrap_u64]; omega
                  have m3 : IntKind.u64.wrap (a - q + 1) = a - q + 1 := by rw [IntKind.wrap_u64]; omega
                  have m4 : (x == 0) = false := beq_eq_false_iff_ne.2 (by omega)
                  have m5 : a - q < a := by omega
                  have Y1 := Lib.hid (HY.out y1 y2)
                  clear hrm
                  go_wp2
                  go_roundw
                  case rel => exact ⟨j + 1, by omega, by go_num, congrArg (Value.int .u64) (by have := Y1.out.2; omega), by rw [← Y1.out.1]; exact HSET.out⟩
                  case measure => (simp [intOf]; try omega)
                · subst y2
                  have m5 : a - q < a := by omega
                  have Y1 := Lib.hid (HN.out (by omega))
                  clear hrm d0 d1
                  go_wp2
                  go_roundw
                  case rel => exact ⟨j + 1, by omega, by go_num, congrArg (Value.int .u64) (by have := Y1.out.2; omega), by rw [Y1.out.1]; exact HT.out⟩
                  case measure => (simp [intOf]; try omega)
            · obtain rfl : j = l.length := by omega
              have HT := Lib.hid hT
              clear hT hll
              go_wp2
              go_ret2
              exact ⟨A', c', ret2_eq HBL.out.symm rfl rfl, by rw [HBL.out]; have h9 := HT.out; rwa [bst_all HPL.out.symm] at h9⟩
end Go.Proofs.Ytonjibjghijacaa
