/- A till is made. -/
import Derived.Test.YtmcfmabnggffjaaTillMove
import Derived.Test.YtmcfmabnggffjaaChainT
import Derived.Laws.MakeOwn
import Derived.Lib.SliceRun
namespace Go.Proofs.Ytmcfmabnggffjaa
set_option linter.unusedVariables false
set_option linter.unusedSimpArgs false
set_option linter.unnecessarySimpa false
open Go.RowKit

theorem info_u64 : (Try.prog.info? 23).map (fun i => (i.zero, i.size, i.bytes)) = some (some (.int .u64 0), 1, 8) := by kernel_rfl
theorem words_nil_app (xs : List Int) : ([] : List Value) ++ words xs = words xs := rfl
theorem words_zeros (n : Nat) : words (List.replicate n 0) = List.replicate n (.int .u64 0) := by simp [words]
theorem mk_u64 (w : World) (n : Nat) (hn : n ≤ 16) : (Instr.makeSlice 22 (.int .i64 (n : Int)) (.int .i64 (n : Int))).run Try.prog w = .ok (.slice (some ⟨w.heap.size, 0, none⟩) n n) (w.alloc (.cells (Array.replicate n (.int .u64 0)) 23)) := by
  obtain ⟨i, hi, h1⟩ := Option.map_eq_some_iff.1 info_u64
  injection h1 with h1 h2
  injection h2 with h2 h3
  have h := run_make (P := Try.prog) w 22 23 i (.int .u64 0) Try.underlying22 hi h1 .i64 .i64 (n : Int) (n : Int) (by omega) (by omega) (by rw [h3]; omega) (by omega)
  rw [h2, Nat.mul_one] at h
  simp only [Int.toNat_natCast] at h
  rw [h]
  congr 3
  apply Array.ext
  · simp [madeCells]
  · intro j h1 h2
    simp [madeCells, Value.cells, Nat.mod_one]
theorem Sat.pushNew {w0 w w' : World} {l : List Asn} {A : Asn} (h : Sat w0 w l) (h2 : Sat w w' [rest w (· < w.heap.size), A]) : Sat w0 w' (l ++ [A]) := by
  obtain ⟨F, hF, ha, _⟩ := h2.apart (i := 1) rfl
  refine h.push hF (fun k hk => Nat.le_of_not_lt fun hlt => ha 0 _ k (by decide) rfl (fun G hG => (hG.2 k hlt).2.1) hk) (h2.below (i := 0) rfl)
/-- The till that New makes. -/
def tl0 (xs : List Int) : Tl := ⟨xs, List.replicate xs.length 0, 0⟩
theorem sumP_sum : ∀ (l : List Int) (s : Int), s < 18446744073709551616 → (sumP s l).2 = 0 → (sumP s l).1 = s + l.sum ∧ s + l.sum < 18446744073709551616
  | [], s, h, _ => by simp [sumP]; exact h
  | a :: l, s, h, he => by
    unfold sumP at he ⊢
    split at he
    · rename_i hlt
      rw [if_pos hlt]
      have := sumP_sum l (s + a) hlt he
      rw [List.sum_cons]
      omega
    · cases he
theorem tl0_ok {xs : List Int} (hu : U64s xs) (hl : xs.length ≤ 16) (hs : (sumP 0 xs).2 = 0) : (tl0 xs).Ok := by
  refine ⟨by simp [tl0], hl, hu, fun a ha => ?_, by simp [tl0], ?_⟩
  · have := List.eq_of_mem_replicate ha
    omega
  · have := (sumP_sum xs 0 (by decide) hs).2
    show xs.sum + 0 < _
    omega
def newE (xs : List Int) : Int := if 16 < xs.length then 8 else (sumP 0 xs).2
theorem newE_ok {xs : List Int} (h : newE xs = 0) : xs.length ≤ 16 ∧ (sumP 0 xs).2 = 0 := by
  unfold newE at h
  split at h
  · cases h
  · exact ⟨by omega, h⟩

set_option maxRecDepth 100000 in
set_option maxHeartbeats 1000000 in
theorem cloneU_any (w : World) (A : Option Addr) (c : Nat) (xs : List Int) (h : Words w A c xs) : Calls Try.prog 27 #[.slice A xs.length c] w fun e w' => ∃ A' c', e = .returned (.slice A' xs.length c') ∧ w'.ownsRow w.heap.size 23 1 (.slice A' xs.length c') xs.length (words xs) ∧ Below w.heap.size w w' := by
  have q : ∀ (w : World) (a : Option Addr) (n c n' c' : Nat), (binOp .eql 22 (.slice a n c) (.slice none n' c')).run Try.prog w = .ok (.bool a.isNone) w := fun w a n c n' c' => Lib.run_eql_slice_nil w _ _ a n c n' c' Try.underlying22
  have hl := h.len
  cases A with
  | none =>
    obtain ⟨h1, rfl⟩ := h.none_ rfl
    obtain rfl : xs = [] := List.eq_nil_of_length_eq_zero h1
    clear h h1 hl
    show Calls _ _ #[.slice none 0 0] w _
    go_enter Try.func27, Try.ntmps27
    go_wp2
    go_ret
    exact ⟨_, _, rfl, World.ownsRow_nil _ _ _ _, Below.refl _ _⟩
  | some ad =>
    have hm := (Sat.pushRest w).made #[] 23 1 0 0 rfl (Nat.le_refl _) (Nat.zero_le _)
    try simp only [List.cons_append, List.nil_append, List.set_cons_zero, List.set_cons_succ, List.toList_toArray, Nat.zero_mul, Nat.mul_one, List.take_zero, Nat.zero_add, List.length_replicate, Array.toList_replicate, List.take_replicate, Nat.min_self, words_nil_app, World.size_alloc] at hm
    have hsr := src_rest hm (i := 0) rfl h.src (src_lt h.src)
    have HM := Lib.hid hm
    have HSR := Lib.hid hsr
    clear hm hsr h
    go_enter Try.func27, Try.ntmps27
    go_wp2_with (first
      | (at_builtin; refine wpList_append_sat rfl _ _ 22 rfl HM.out 1 23 (.int .u64 0) 1 8 Try.underlying22 info_u64 rfl (by decide) (.slice (some ⟨w.heap.size, 0, none⟩) 0 0) 0 [] ?a0 rfl (some ad) xs.length c (words xs) ?a1 (fun h => by cases h) ?a2 HSR.out ?a3 ?a4 ?a5 ?a6)
      | fail)
    try (case a0 => go_simp)
    try (case a1 => go_simp)
    try (case a2 => simp [words])
    case a3 => intro u hu; simp [words] at hu; obtain ⟨x, _, rfl⟩ := hu; rfl
    case a4 => unfold maxLen; omega
    case a5 => omega
    case a6 =>
      intro A1 c1 w2 h2 hA1 hg1
      try simp only [List.cons_append, List.nil_append, List.set_cons_zero, List.set_cons_succ, List.toList_toArray, Nat.zero_mul, Nat.mul_one, List.take_zero, Nat.zero_add, List.length_replicate, Array.toList_replicate, List.take_replicate, Nat.min_self, words_nil_app, World.size_alloc] at h2
      have hr := rowOwn h2 (i := 1) rfl (j := 0) rfl (by decide)
      have hb := h2.below (i := 0) rfl
      have HR := Lib.hid hr
      have HB := Lib.hid hb
      clear h2 hA1 hg1 hr hb
      go_wp2
      go_ret
      exact ⟨_, _, rfl, HR.out, HB.out⟩
set_option maxRecDepth 100000 in
set_option maxHeartbeats 1000000 in
theorem new_bad (w : World) (A : Option Addr) (c : Nat) (xs : List Int) (h : Words w A c xs) (he : newE xs ≠ 0) : Calls Try.prog 7 #[.slice A xs.length c] w fun e w' => e = .returned (.tuple #[.pointer none, .int .i64 (newE xs)]) ∧ w' = w := by
  have hl := h.len
  have HM := Lib.hid (sum_any w A c xs h)
  clear h
  rcases (show 16 < xs.length ∨ ¬ 16 < xs.length from Decidable.em _) with h16 | h16
  · have e1 : newE xs = 8 := if_pos h16
    rw [e1]
    clear e1 he
    go_enter Try.func7, Try.ntmps7
    go_wp2
    go_ret2
    exact ⟨rfl, rfl⟩
  · have e1 : newE xs = (sumP 0 xs).2 := if_neg h16
    rw [e1] at he
    rcases sumP_err xs 0 with h0 | h0
    · exact absurd h0 he
    · rw [h0] at HM e1
      rw [e1]
      clear e1 he h0
      go_enter Try.func7, Try.ntmps7
      go_wp2_with fail
      refine HM.out.mono ?_
      rintro e w1 ⟨rfl, rfl⟩
      go_wp2
      go_ret2
      exact ⟨rfl, rfl⟩
set_option maxRecDepth 100000 in
set_option maxHeartbeats 1000000 in
theorem new_ok (w : World) (A : Option Addr) (c : Nat) (xs : List Int) (h : Words w A c xs) (he : newE xs = 0) : Calls Try.prog 7 #[.slice A xs.length c] w fun e w' => ∃ m, e = .returned (.tuple #[.pointer (some ⟨m, 0, none⟩), .int .i64 0]) ∧ Sat w w' [rest w (· < w.heap.size), tillX 54 m (tl0 xs)] := by
  have hl := h.len
  obtain ⟨h16, hs⟩ := newE_ok he
  have HM := Lib.hid (sum_any w A c xs h)
  obtain ⟨v, hv⟩ : ∃ v, (sumP 0 xs).1 = v := ⟨_, rfl⟩
  rw [hs, hv] at HM
  have hmk := fun w => mk_u64 w xs.length h16
  have hp := (Sat.pushRest w).drew
  have HP := Lib.hid hp
  have HW := Lib.hid h
  clear h hs hv he hp
  go_enter Try.func7, Try.ntmps7
  go_wp2_with fail
  refine HM.out.mono ?_
  rintro e w1 ⟨rfl, rfl⟩
  go_wp2_with fail
  refine region_chainT (m := 3) (E := [1, 4, 6]) (kn := [true, false, true, true, false, false, false, false, false]) (mask := [true, false, true, true, false, false, false, false, false]) (vs := [?vr0_0, undef, ?vr0_2, ?vr0_3, undef, undef, undef, undef, undef]) (S := fun w' => w' = w1.drew) (by kernel_rfl) (by kernel_rfl) (by kernel_rfl) (by kernel_rfl) (by kernel_rfl) ?hSr ?hchr
  case hSr => exact rfl
  case hchr =>
    refine chainT_two 1 4 (by decide) (by kernel_rfl) rfl ?opsr0 ?mr0_0 ?mr0_1
    case opsr0 =>
      simp only [OpsAt, fillT, List.setIfInBounds_toArray, List.set_cons_zero, List.set_cons_succ]
      refine ⟨.inl ⟨by rfl, opOk_pure fun wS hS => ?_⟩, ?_⟩
      · ((subst hS; go_simp)); try (with_reducible rfl)
      refine ⟨.inl ⟨by rfl, opOk_pure fun wS hS => ?_⟩, ?_⟩
      · ((subst hS; go_simp)); try (with_reducible rfl)
      refine ⟨.inl ⟨by rfl, opOk_pure fun wS hS => ?_⟩, ?_⟩
      · ((subst hS; go_simp)); try (with_reducible rfl)
      try trivial
    case mr0_0 =>
      refine makeT _ rfl rfl ?effr0_0
      intro wS hS
      simp only [fillT, List.setIfInBounds_toArray, List.set_cons_zero, List.set_cons_succ]
      rw [hS]
      refine eff_call (f := 27) (args := #[.slice A xs.length c]) (by go_simp) ?_
      refine (cloneU_any (w1.drew) A c xs (HW.out.mono (src_rest HP.out (i := 0) rfl HW.out.src (src_lt HW.out.src)))).mono ?_
      rintro e w5 ⟨A0, c0, rfl, hr, hb⟩
      have hs0 := HP.out.pushRow (hr) hb
      try simp only [List.cons_append, List.nil_append, List.set_cons_zero, List.set_cons_succ, List.toList_toArray, Nat.zero_mul, Nat.mul_one, List.take_zero, Nat.zero_add, List.length_replicate, Array.toList_replicate, List.take_replicate, Nat.min_self, words_nil_app, World.size_alloc] at hs0
      have HS0 := Lib.hid hs0
      clear hs0
      clear hr hb
      refine ⟨_, rfl, ?_⟩
      refine ⟨_, [true, true, true, true, false, false, false, false, false], [false, false, true, true, false, false, false, false, false], [0], [?vr1_0, (.slice A0 xs.length c0), ?vr1_2, ?vr1_3, undef, undef, undef, undef, undef], fun w' => w' = w5, rfl, rfl, ?samer1, by kernel_rfl, ?hSr1, ?nxr1⟩
      case samer1 =>
        refine And.intro ?_ ?_
        · with_reducible rfl
        refine And.intro ?_ ?_
        · with_reducible rfl
        refine And.intro ?_ ?_
        · with_reducible rfl
        trivial
      case hSr1 => rfl
      case nxr1 =>
        refine chainT_one 4 (by decide) (by kernel_rfl) rfl ?opsr1 ?mr1_0
        case opsr1 =>
          simp only [OpsAt, fillT, List.setIfInBounds_toArray, List.set_cons_zero, List.set_cons_succ]
          refine ⟨.inl ⟨by rfl, opOk_pure fun wS hS => ?_⟩, ?_⟩
          · ((subst hS; go_simp)); try (with_reducible rfl)
          refine ⟨.inl ⟨by rfl, opOk_pure fun wS hS => ?_⟩, ?_⟩
          · ((subst hS; go_simp)); try (with_reducible rfl)
          try trivial
        case mr1_0 =>
          refine makeT _ rfl rfl ?effr1_0
          intro wS hS
          simp only [fillT, List.setIfInBounds_toArray, List.set_cons_zero, List.set_cons_succ]
          rw [hS]
          refine eff_run (w' := (w5).alloc (.cells (Array.replicate xs.length (.int .u64 0)) 23)) (by go_simp; try rfl) ?_
          have hs1 := HS0.out.made (Array.replicate xs.length (.int .u64 0)) 23 1 xs.length xs.length (by simp) (Nat.le_refl _) (by unfold maxLen; omega)
          try simp only [List.cons_append, List.nil_append, List.set_cons_zero, List.set_cons_succ, List.toList_toArray, Nat.zero_mul, Nat.mul_one, List.take_zero, Nat.zero_add, List.length_replicate, Array.toList_replicate, List.take_replicate, Nat.min_self, words_nil_app, World.size_alloc] at hs1
          have HS1 := Lib.hid hs1
          clear hs1
          refine ⟨_, [true, true, true, true, true, true, false, false, false], [false, false, false, false, false, true, false, false, false], [3, 2], [?vr2_0, (.slice A0 xs.length c0), ?vr2_2, ?vr2_3, (.slice (some ⟨w5.heap.size, 0, none⟩) xs.length xs.length), ?vr2_5, undef, undef, undef], fun w' => w' = (w5).alloc (.cells (Array.replicate xs.length (.int .u64 0)) 23), rfl, rfl, ?samer2, by kernel_rfl, ?hSr2, ?nxr2⟩
          case samer2 =>
            refine And.intro ?_ ?_
            · with_reducible rfl
            refine And.intro ?_ ?_
            · with_reducible rfl
            refine And.intro ?_ ?_
            · with_reducible rfl
            refine And.intro ?_ ?_
            · with_reducible rfl
            trivial
          case hSr2 => rfl
          case nxr2 =>
            refine chainT_one 6 (by decide) (by kernel_rfl) rfl ?opsr2 ?mr2_0
            case opsr2 =>
              simp only [OpsAt, fillT, List.setIfInBounds_toArray, List.set_cons_zero, List.set_cons_succ]
              refine ⟨.inl ⟨by rfl, opOk_pure fun wS hS => ?_⟩, ?_⟩
              · ((subst hS; go_simp)); try (with_reducible rfl)
              try trivial
            case mr2_0 =>
              refine makeT _ rfl rfl ?effr2_0
              intro wS hS
              simp only [fillT, List.setIfInBounds_toArray, List.set_cons_zero, List.set_cons_succ]
              rw [hS]
              refine eff_run (w' := ((w5).alloc (.cells (Array.replicate xs.length (.int .u64 0)) 23)).alloc (.cells #[(.slice A0 xs.length c0), (.slice (some ⟨w5.heap.size, 0, none⟩) xs.length xs.length), .int .u64 0] 54)) (by go_simp; try rfl) ?_
              have hs2 := HS1.out.alloc #[(.slice A0 xs.length c0), (.slice (some ⟨w5.heap.size, 0, none⟩) xs.length xs.length), .int .u64 0] 54
              try simp only [List.cons_append, List.nil_append, List.set_cons_zero, List.set_cons_succ, List.toList_toArray, Nat.zero_mul, Nat.mul_one, List.take_zero, Nat.zero_add, List.length_replicate, Array.toList_replicate, List.take_replicate, Nat.min_self, words_nil_app, World.size_alloc] at hs2
              have HS2 := Lib.hid hs2
              clear hs2
              refine ⟨_, [true, true, true, true, true, true, true, true, true], [false, false, false, false, false, false, false, true, true], [5], [?vr3_0, (.slice A0 xs.length c0), ?vr3_2, ?vr3_3, (.slice (some ⟨w5.heap.size, 0, none⟩) xs.length xs.length), ?vr3_5, (.pointer (some ⟨w5.heap.size + 1, 0, none⟩)), ?vr3_7, ?vr3_8], fun w' => w' = ((w5).alloc (.cells (Array.replicate xs.length (.int .u64 0)) 23)).alloc (.cells #[(.slice A0 xs.length c0), (.slice (some ⟨w5.heap.size, 0, none⟩) xs.length xs.length), .int .u64 0] 54), rfl, rfl, ?samer3, by kernel_rfl, ?hSr3, ?nxr3⟩
              case samer3 =>
                refine And.intro ?_ ?_
                · with_reducible rfl
                refine And.intro ?_ ?_
                · with_reducible rfl
                refine And.intro ?_ ?_
                · with_reducible rfl
                refine And.intro ?_ ?_
                · with_reducible rfl
                refine And.intro ?_ ?_
                · with_reducible rfl
                refine And.intro ?_ ?_
                · with_reducible rfl
                trivial
              case hSr3 => rfl
              case nxr3 =>
                refine chainT_nil (by rfl) (by kernel_rfl) rfl ?opsr3 ?endr3
                case opsr3 =>
                  simp only [OpsAt, fillT, List.setIfInBounds_toArray, List.set_cons_zero, List.set_cons_succ]
                  refine ⟨.inl ⟨by rfl, opOk_pure fun wS hS => ?_⟩, ?_⟩
                  · ((subst hS; go_simp)); try (with_reducible rfl)
                  refine ⟨.inl ⟨by rfl, opOk_pure fun wS hS => ?_⟩, ?_⟩
                  · ((subst hS; go_simp)); try (with_reducible rfl)
                  try trivial
                case endr3 =>
                  intro wE hE
                  simp only [fillT, List.setIfInBounds_toArray, List.set_cons_zero, List.set_cons_succ]
                  rw [hE]
                  have h9 := tillX_shut (t := tl0 xs) (l := [_]) (by have := (HS2.out).pick [3, 0, 1, 2] (by decide); unfold tillB wRow tl0; rw [words_zeros]; simpa using this)
                  have h10 := h9.pick [1, 0] (by decide)
                  have H10 := Lib.hid h10
                  clear h9 h10
                  go_wp2
                  go_ret2
                  exact ⟨_, rfl, H10.out⟩
    case mr0_1 =>
      refine makeT _ rfl rfl ?effr0_1
      intro wS hS
      simp only [fillT, List.setIfInBounds_toArray, List.set_cons_zero, List.set_cons_succ]
      rw [hS]
      refine eff_run (w' := (w1.drew).alloc (.cells (Array.replicate xs.length (.int .u64 0)) 23)) (by go_simp; try rfl) ?_
      have hs3 := HP.out.made (Array.replicate xs.length (.int .u64 0)) 23 1 xs.length xs.length (by simp) (Nat.le_refl _) (by unfold maxLen; omega)
      try simp only [List.cons_append, List.nil_append, List.set_cons_zero, List.set_cons_succ, List.toList_toArray, Nat.zero_mul, Nat.mul_one, List.take_zero, Nat.zero_add, List.length_replicate, Array.toList_replicate, List.take_replicate, Nat.min_self, words_nil_app, World.size_alloc] at hs3
      have HS3 := Lib.hid hs3
      clear hs3
      refine ⟨_, [true, false, true, true, true, false, false, false, false], [true, false, false, false, false, false, false, false, false], [3, 2], [?vr4_0, undef, ?vr4_2, ?vr4_3, (.slice (some ⟨w1.drew.heap.size, 0, none⟩) xs.length xs.length), undef, undef, undef, undef], fun w' => w' = (w1.drew).alloc (.cells (Array.replicate xs.length (.int .u64 0)) 23), rfl, rfl, ?samer4, by kernel_rfl, ?hSr4, ?nxr4⟩
      case samer4 =>
        refine And.intro ?_ ?_
        · with_reducible rfl
        refine And.intro ?_ ?_
        · with_reducible rfl
        refine And.intro ?_ ?_
        · with_reducible rfl
        trivial
      case hSr4 => rfl
      case nxr4 =>
        refine chainT_one 1 (by decide) (by kernel_rfl) rfl ?opsr4 ?mr4_0
        case opsr4 =>
          simp only [OpsAt, fillT, List.setIfInBounds_toArray, List.set_cons_zero, List.set_cons_succ]
          refine ⟨.inl ⟨by rfl, opOk_pure fun wS hS => ?_⟩, ?_⟩
          · ((subst hS; go_simp)); try (with_reducible rfl)
          try trivial
        case mr4_0 =>
          refine makeT _ rfl rfl ?effr4_0
          intro wS hS
          simp only [fillT, List.setIfInBounds_toArray, List.set_cons_zero, List.set_cons_succ]
          rw [hS]
          refine eff_call (f := 27) (args := #[.slice A xs.length c]) (by go_simp) ?_
          refine (cloneU_any ((w1.drew).alloc (.cells (Array.replicate xs.length (.int .u64 0)) 23)) A c xs (HW.out.mono (src_rest HS3.out (i := 0) rfl HW.out.src (src_lt HW.out.src)))).mono ?_
          rintro e w9 ⟨A4, c4, rfl, hr, hb⟩
          have hs4 := HS3.out.pushRow (hr) hb
          try simp only [List.cons_append, List.nil_append, List.set_cons_zero, List.set_cons_succ, List.toList_toArray, Nat.zero_mul, Nat.mul_one, List.take_zero, Nat.zero_add, List.length_replicate, Array.toList_replicate, List.take_replicate, Nat.min_self, words_nil_app, World.size_alloc] at hs4
          have HS4 := Lib.hid hs4
          clear hs4
          clear hr hb
          refine ⟨_, rfl, ?_⟩
          refine ⟨_, [true, true, true, true, true, true, false, false, false], [false, false, false, false, false, true, false, false, false], [0], [?vr5_0, (.slice A4 xs.length c4), ?vr5_2, ?vr5_3, (.slice (some ⟨w1.drew.heap.size, 0, none⟩) xs.length xs.length), ?vr5_5, undef, undef, undef], fun w' => w' = w9, rfl, rfl, ?samer5, by kernel_rfl, ?hSr5, ?nxr5⟩
          case samer5 =>
            refine And.intro ?_ ?_
            · with_reducible rfl
            refine And.intro ?_ ?_
            · with_reducible rfl
            refine And.intro ?_ ?_
            · with_reducible rfl
            refine And.intro ?_ ?_
            · with_reducible rfl
            trivial
          case hSr5 => rfl
          case nxr5 =>
            refine chainT_one 6 (by decide) (by kernel_rfl) rfl ?opsr5 ?mr5_0
            case opsr5 =>
              simp only [OpsAt, fillT, List.setIfInBounds_toArray, List.set_cons_zero, List.set_cons_succ]
              refine ⟨.inl ⟨by rfl, opOk_pure fun wS hS => ?_⟩, ?_⟩
              · ((subst hS; go_simp)); try (with_reducible rfl)
              try trivial
            case mr5_0 =>
              refine makeT _ rfl rfl ?effr5_0
              intro wS hS
              simp only [fillT, List.setIfInBounds_toArray, List.set_cons_zero, List.set_cons_succ]
              rw [hS]
              refine eff_run (w' := (w9).alloc (.cells #[(.slice A4 xs.length c4), (.slice (some ⟨w1.drew.heap.size, 0, none⟩) xs.length xs.length), .int .u64 0] 54)) (by go_simp; try rfl) ?_
              have hs5 := HS4.out.alloc #[(.slice A4 xs.length c4), (.slice (some ⟨w1.drew.heap.size, 0, none⟩) xs.length xs.length), .int .u64 0] 54
              try simp only [List.cons_append, List.nil_append, List.set_cons_zero, List.set_cons_succ, List.toList_toArray, Nat.zero_mul, Nat.mul_one, List.take_zero, Nat.zero_add, List.length_replicate, Array.toList_replicate, List.take_replicate, Nat.min_self, words_nil_app, World.size_alloc] at hs5
              have HS5 := Lib.hid hs5
              clear hs5
              refine ⟨_, [true, true, true, true, true, true, true, true, true], [false, false, false, false, false, false, false, true, true], [5], [?vr6_0, (.slice A4 xs.length c4), ?vr6_2, ?vr6_3, (.slice (some ⟨w1.drew.heap.size, 0, none⟩) xs.length xs.length), ?vr6_5, (.pointer (some ⟨w9.heap.size, 0, none⟩)), ?vr6_7, ?vr6_8], fun w' => w' = (w9).alloc (.cells #[(.slice A4 xs.length c4), (.slice (some ⟨w1.drew.heap.size, 0, none⟩) xs.length xs.length), .int .u64 0] 54), rfl, rfl, ?samer6, by kernel_rfl, ?hSr6, ?nxr6⟩
              case samer6 =>
                refine And.intro ?_ ?_
                · with_reducible rfl
                refine And.intro ?_ ?_
                · with_reducible rfl
                refine And.intro ?_ ?_
                · with_reducible rfl
                refine And.intro ?_ ?_
                · with_reducible rfl
                refine And.intro ?_ ?_
                · with_reducible rfl
                refine And.intro ?_ ?_
                · with_reducible rfl
                trivial
              case hSr6 => rfl
              case nxr6 =>
                refine chainT_nil (by rfl) (by kernel_rfl) rfl ?opsr6 ?endr6
                case opsr6 =>
                  simp only [OpsAt, fillT, List.setIfInBounds_toArray, List.set_cons_zero, List.set_cons_succ]
                  refine ⟨.inl ⟨by rfl, opOk_pure fun wS hS => ?_⟩, ?_⟩
                  · ((subst hS; go_simp)); try (with_reducible rfl)
                  refine ⟨.inl ⟨by rfl, opOk_pure fun wS hS => ?_⟩, ?_⟩
                  · ((subst hS; go_simp)); try (with_reducible rfl)
                  try trivial
                case endr6 =>
                  intro wE hE
                  simp only [fillT, List.setIfInBounds_toArray, List.set_cons_zero, List.set_cons_succ]
                  rw [hE]
                  have h9 := tillX_shut (t := tl0 xs) (l := [_]) (by have := (HS5.out).pick [3, 0, 2, 1] (by decide); unfold tillB wRow tl0; rw [words_zeros]; simpa using this)
                  have h10 := h9.pick [1, 0] (by decide)
                  have H10 := Lib.hid h10
                  clear h9 h10
                  go_wp2
                  go_ret2
                  exact ⟨_, rfl, H10.out⟩
set_option maxRecDepth 100000 in
set_option maxHeartbeats 1000000 in
theorem rnew_bad (w : World) (A : Option Addr) (c : Nat) (xs : List Int) (h : Words w A c xs) (he : newE xs ≠ 0) : Calls Try.prog 17 #[.slice A xs.length c] w fun e w' => e = .returned (.tuple #[.pointer none, .int .i64 (newE xs)]) ∧ w' = w := by
  have hl := h.len
  have HM := Lib.hid (rsum_any w A c xs h)
  clear h
  rcases (show 16 < xs.length ∨ ¬ 16 < xs.length from Decidable.em _) with h16 | h16
  · have e1 : newE xs = 8 := if_pos h16
    rw [e1]
    clear e1 he
    go_enter Try.func17, Try.ntmps17
    go_wp2
    go_ret2
    exact ⟨rfl, rfl⟩
  · have e1 : newE xs = (sumP 0 xs).2 := if_neg h16
    rw [e1] at he
    rcases sumP_err xs 0 with h0 | h0
    · exact absurd h0 he
    · rw [h0] at HM e1
      rw [e1]
      clear e1 he h0
      go_enter Try.func17, Try.ntmps17
      go_wp2_with fail
      refine HM.out.mono ?_
      rintro e w1 ⟨rfl, rfl⟩
      go_wp2
      go_ret2
      exact ⟨rfl, rfl⟩
set_option maxRecDepth 100000 in
set_option maxHeartbeats 1000000 in
theorem rnew_ok (w : World) (A : Option Addr) (c : Nat) (xs : List Int) (h : Words w A c xs) (he : newE xs = 0) : Calls Try.prog 17 #[.slice A xs.length c] w fun e w' => ∃ m, e = .returned (.tuple #[.pointer (some ⟨m, 0, none⟩), .int .i64 0]) ∧ Sat w w' [rest w (· < w.heap.size), tillX 59 m (tl0 xs)] := by
  have hl := h.len
  obtain ⟨h16, hs⟩ := newE_ok he
  have HM := Lib.hid (rsum_any w A c xs h)
  obtain ⟨v, hv⟩ : ∃ v, (sumP 0 xs).1 = v := ⟨_, rfl⟩
  rw [hs, hv] at HM
  have hmk := fun w => mk_u64 w xs.length h16
  have hp := (Sat.pushRest w).drew
  have HP := Lib.hid hp
  have HW := Lib.hid h
  clear h hs hv he hp
  go_enter Try.func17, Try.ntmps17
  go_wp2_with fail
  refine HM.out.mono ?_
  rintro e w1 ⟨rfl, rfl⟩
  go_wp2_with fail
  refine region_chainT (m := 4) (E := [0, 2, 5, 7]) (kn := [false, true, false, true, true, false, false, false, false, false]) (mask := [false, true, false, true, true, false, false, false, false, false]) (vs := [undef, ?vq0_1, undef, ?vq0_3, ?vq0_4, undef, undef, undef, undef, undef]) (S := fun w' => w' = w1.drew) (by kernel_rfl) (by kernel_rfl) (by kernel_rfl) (by kernel_rfl) (by kernel_rfl) ?hSq ?hchq
  case hSq => exact rfl
  case hchq =>
    refine chainT_two 0 5 (by decide) (by kernel_rfl) rfl ?opsq0 ?mq0_0 ?mq0_1
    case opsq0 =>
      simp only [OpsAt, fillT, List.setIfInBounds_toArray, List.set_cons_zero, List.set_cons_succ]
      refine ⟨.inl ⟨by rfl, opOk_pure fun wS hS => ?_⟩, ?_⟩
      · ((subst hS; go_simp)); try (with_reducible rfl)
      refine ⟨.inl ⟨by rfl, opOk_pure fun wS hS => ?_⟩, ?_⟩
      · ((subst hS; go_simp)); try (with_reducible rfl)
      refine ⟨.inl ⟨by rfl, opOk_pure fun wS hS => ?_⟩, ?_⟩
      · ((subst hS; go_simp)); try (with_reducible rfl)
      try trivial
    case mq0_0 =>
      refine makeT _ rfl rfl ?effq0_0
      intro wS hS
      simp only [fillT, List.setIfInBounds_toArray, List.set_cons_zero, List.set_cons_succ]
      rw [hS]
      refine eff_run (w' := (w1.drew).alloc (.cells #[] 23)) (by go_simp; try rfl) ?_
      have hs0 := HP.out.made #[] 23 1 0 0 rfl (Nat.le_refl _) (Nat.zero_le _)
      try simp only [List.cons_append, List.nil_append, List.set_cons_zero, List.set_cons_succ, List.toList_toArray, Nat.zero_mul, Nat.mul_one, List.take_zero, Nat.zero_add, List.length_replicate, Array.toList_replicate, List.take_replicate, Nat.min_self, words_nil_app, World.size_alloc] at hs0
      have HS0 := Lib.hid hs0
      clear hs0
      refine ⟨_, [true, true, false, true, true, false, false, false, false, false], [false, true, false, true, true, false, false, false, false, false], [], [(.slice (some ⟨w1.drew.heap.size, 0, none⟩) 0 0), ?vq1_1, undef, ?vq1_3, ?vq1_4, undef, undef, undef, undef, undef], fun w' => w' = (w1.drew).alloc (.cells #[] 23), rfl, rfl, ?sameq1, by kernel_rfl, ?hSq1, ?nxq1⟩
      case sameq1 =>
        refine And.intro ?_ ?_
        · with_reducible rfl
        refine And.intro ?_ ?_
        · with_reducible rfl
        refine And.intro ?_ ?_
        · with_reducible rfl
        trivial
      case hSq1 => rfl
      case nxq1 =>
        refine chainT_two 2 5 (by decide) (by kernel_rfl) rfl ?opsq1 ?mq1_0 ?mq1_1
        case opsq1 =>
          simp only [OpsAt, fillT, List.setIfInBounds_toArray, List.set_cons_zero, List.set_cons_succ]
          refine ⟨.inl ⟨by rfl, opOk_pure fun wS hS => ?_⟩, ?_⟩
          · ((subst hS; go_simp)); try (with_reducible rfl)
          refine ⟨.inl ⟨by rfl, opOk_pure fun wS hS => ?_⟩, ?_⟩
          · ((subst hS; go_simp)); try (with_reducible rfl)
          refine ⟨.inl ⟨by rfl, opOk_pure fun wS hS => ?_⟩, ?_⟩
          · ((subst hS; go_simp)); try (with_reducible rfl)
          try trivial
        case mq1_0 =>
          refine makeT _ rfl rfl ?effq1_0
          intro wS hS
          simp only [fillT, List.setIfInBounds_toArray, List.set_cons_zero, List.set_cons_succ]
          rw [hS]
          refine wp_append_sat _ _ 22 rfl HS0.out 1 23 (.int .u64 0) 1 8 Try.underlying22 info_u64 rfl (by decide) (.slice (some ⟨w1.drew.heap.size, 0, none⟩) 0 0) 0 [] ?z1_0 rfl A xs.length c (words xs) ?z1_1 HW.out.none_ ?z1_2 (src_rest HS0.out (i := 0) rfl HW.out.src (src_lt HW.out.src)) ?z1_3 ?z1_4 ?z1_5 ?z1_6
          try (case z1_0 => go_simp)
          try (case z1_1 => go_simp)
          try (case z1_2 => simp [words])
          case z1_3 => intro u hu; simp [words] at hu; obtain ⟨x, _, rfl⟩ := hu; rfl
          case z1_4 => unfold maxLen; omega
          case z1_5 => omega
          case z1_6 =>
            intro A1 c1 w6 hs1 hA1 hg1
            skip
            try simp only [List.cons_append, List.nil_append, List.set_cons_zero, List.set_cons_succ, List.toList_toArray, Nat.zero_mul, Nat.mul_one, List.take_zero, Nat.zero_add, List.length_replicate, Array.toList_replicate, List.take_replicate, Nat.min_self, words_nil_app, World.size_alloc] at hs1
            have HS1 := Lib.hid hs1
            clear hs1
            clear hA1 hg1
            simp only [Nat.zero_add]
            refine ⟨_, [true, true, true, true, true, false, false, false, false, false], [false, false, false, true, true, false, false, false, false, false], [1], [(.slice (some ⟨w1.drew.heap.size, 0, none⟩) 0 0), ?vq2_1, (.slice A1 xs.length c1), ?vq2_3, ?vq2_4, undef, undef, undef, undef, undef], fun w' => w' = w6, rfl, rfl, ?sameq2, by kernel_rfl, ?hSq2, ?nxq2⟩
            case sameq2 =>
              refine And.intro ?_ ?_
              · with_reducible rfl
              refine And.intro ?_ ?_
              · with_reducible rfl
              refine And.intro ?_ ?_
              · with_reducible rfl
              refine And.intro ?_ ?_
              · with_reducible rfl
              trivial
            case hSq2 => rfl
            case nxq2 =>
              refine chainT_one 5 (by decide) (by kernel_rfl) rfl ?opsq2 ?mq2_0
              case opsq2 =>
                simp only [OpsAt, fillT, List.setIfInBounds_toArray, List.set_cons_zero, List.set_cons_succ]
                refine ⟨.inl ⟨by rfl, opOk_pure fun wS hS => ?_⟩, ?_⟩
                · ((subst hS; go_simp)); try (with_reducible rfl)
                refine ⟨.inl ⟨by rfl, opOk_pure fun wS hS => ?_⟩, ?_⟩
                · ((subst hS; go_simp)); try (with_reducible rfl)
                try trivial
              case mq2_0 =>
                refine makeT _ rfl rfl ?effq2_0
                intro wS hS
                simp only [fillT, List.setIfInBounds_toArray, List.set_cons_zero, List.set_cons_succ]
                rw [hS]
                refine eff_run (w' := (w6).alloc (.cells (Array.replicate xs.length (.int .u64 0)) 23)) (by go_simp; try rfl) ?_
                have hs2 := HS1.out.made (Array.replicate xs.length (.int .u64 0)) 23 1 xs.length xs.length (by simp) (Nat.le_refl _) (by unfold maxLen; omega)
                try simp only [List.cons_append, List.nil_append, List.set_cons_zero, List.set_cons_succ, List.toList_toArray, Nat.zero_mul, Nat.mul_one, List.take_zero, Nat.zero_add, List.length_replicate, Array.toList_replicate, List.take_replicate, Nat.min_self, words_nil_app, World.size_alloc] at hs2
                have HS2 := Lib.hid hs2
                clear hs2
                refine ⟨_, [true, true, true, true, true, true, true, false, false, false], [false, false, false, false, false, false, true, false, false, false], [4, 3], [(.slice (some ⟨w1.drew.heap.size, 0, none⟩) 0 0), ?vq3_1, (.slice A1 xs.length c1), ?vq3_3, ?vq3_4, (.slice (some ⟨w6.heap.size, 0, none⟩) xs.length xs.length), ?vq3_6, undef, undef, undef], fun w' => w' = (w6).alloc (.cells (Array.replicate xs.length (.int .u64 0)) 23), rfl, rfl, ?sameq3, by kernel_rfl, ?hSq3, ?nxq3⟩
                case sameq3 =>
                  refine And.intro ?_ ?_
                  · with_reducible rfl
                  refine And.intro ?_ ?_
                  · with_reducible rfl
                  refine And.intro ?_ ?_
                  · with_reducible rfl
                  refine And.intro ?_ ?_
                  · with_reducible rfl
                  refine And.intro ?_ ?_
                  · with_reducible rfl
                  trivial
                case hSq3 => rfl
                case nxq3 =>
                  refine chainT_one 7 (by decide) (by kernel_rfl) rfl ?opsq3 ?mq3_0
                  case opsq3 =>
                    simp only [OpsAt, fillT, List.setIfInBounds_toArray, List.set_cons_zero, List.set_cons_succ]
                    refine ⟨.inl ⟨by rfl, opOk_pure fun wS hS => ?_⟩, ?_⟩
                    · ((subst hS; go_simp)); try (with_reducible rfl)
                    try trivial
                  case mq3_0 =>
                    refine makeT _ rfl rfl ?effq3_0
                    intro wS hS
                    simp only [fillT, List.setIfInBounds_toArray, List.set_cons_zero, List.set_cons_succ]
                    rw [hS]
                    refine eff_run (w' := ((w6).alloc (.cells (Array.replicate xs.length (.int .u64 0)) 23)).alloc (.cells #[(.slice A1 xs.length c1), (.slice (some ⟨w6.heap.size, 0, none⟩) xs.length xs.length), .int .u64 0] 59)) (by go_simp; try rfl) ?_
                    have hs3 := HS2.out.alloc #[(.slice A1 xs.length c1), (.slice (some ⟨w6.heap.size, 0, none⟩) xs.length xs.length), .int .u64 0] 59
                    try simp only [List.cons_append, List.nil_append, List.set_cons_zero, List.set_cons_succ, List.toList_toArray, Nat.zero_mul, Nat.mul_one, List.take_zero, Nat.zero_add, List.length_replicate, Array.toList_replicate, List.take_replicate, Nat.min_self, words_nil_app, World.size_alloc] at hs3
                    have HS3 := Lib.hid hs3
                    clear hs3
                    refine ⟨_, [true, true, true, true, true, true, true, true, true, true], [false, false, false, false, false, false, false, false, true, true], [6], [(.slice (some ⟨w1.drew.heap.size, 0, none⟩) 0 0), ?vq4_1, (.slice A1 xs.length c1), ?vq4_3, ?vq4_4, (.slice (some ⟨w6.heap.size, 0, none⟩) xs.length xs.length), ?vq4_6, (.pointer (some ⟨w6.heap.size + 1, 0, none⟩)), ?vq4_8, ?vq4_9], fun w' => w' = ((w6).alloc (.cells (Array.replicate xs.length (.int .u64 0)) 23)).alloc (.cells #[(.slice A1 xs.length c1), (.slice (some ⟨w6.heap.size, 0, none⟩) xs.length xs.length), .int .u64 0] 59), rfl, rfl, ?sameq4, by kernel_rfl, ?hSq4, ?nxq4⟩
                    case sameq4 =>
                      refine And.intro ?_ ?_
                      · with_reducible rfl
                      refine And.intro ?_ ?_
                      · with_reducible rfl
                      refine And.intro ?_ ?_
                      · with_reducible rfl
                      refine And.intro ?_ ?_
                      · with_reducible rfl
                      refine And.intro ?_ ?_
                      · with_reducible rfl
                      refine And.intro ?_ ?_
                      · with_reducible rfl
                      refine And.intro ?_ ?_
                      · with_reducible rfl
                      trivial
                    case hSq4 => rfl
                    case nxq4 =>
                      refine chainT_nil (by rfl) (by kernel_rfl) rfl ?opsq4 ?endq4
                      case opsq4 =>
                        simp only [OpsAt, fillT, List.setIfInBounds_toArray, List.set_cons_zero, List.set_cons_succ]
                        refine ⟨.inl ⟨by rfl, opOk_pure fun wS hS => ?_⟩, ?_⟩
                        · ((subst hS; go_simp)); try (with_reducible rfl)
                        refine ⟨.inl ⟨by rfl, opOk_pure fun wS hS => ?_⟩, ?_⟩
                        · ((subst hS; go_simp)); try (with_reducible rfl)
                        try trivial
                      case endq4 =>
                        intro wE hE
                        simp only [fillT, List.setIfInBounds_toArray, List.set_cons_zero, List.set_cons_succ]
                        rw [hE]
                        have h9 := tillX_shut (t := tl0 xs) (l := [_]) (by have := (HS3.out).pick [3, 0, 1, 2] (by decide); unfold tillB wRow tl0; rw [words_zeros]; simpa using this)
                        have h10 := h9.pick [1, 0] (by decide)
                        have H10 := Lib.hid h10
                        clear h9 h10
                        go_wp2
                        go_ret2
                        exact ⟨_, rfl, H10.out⟩
        case mq1_1 =>
          refine makeT _ rfl rfl ?effq1_1
          intro wS hS
          simp only [fillT, List.setIfInBounds_toArray, List.set_cons_zero, List.set_cons_succ]
          rw [hS]
          refine eff_run (w' := ((w1.drew).alloc (.cells #[] 23)).alloc (.cells (Array.replicate xs.length (.int .u64 0)) 23)) (by go_simp; try rfl) ?_
          have hs4 := HS0.out.made (Array.replicate xs.length (.int .u64 0)) 23 1 xs.length xs.length (by simp) (Nat.le_refl _) (by unfold maxLen; omega)
          try simp only [List.cons_append, List.nil_append, List.set_cons_zero, List.set_cons_succ, List.toList_toArray, Nat.zero_mul, Nat.mul_one, List.take_zero, Nat.zero_add, List.length_replicate, Array.toList_replicate, List.take_replicate, Nat.min_self, words_nil_app, World.size_alloc] at hs4
          have HS4 := Lib.hid hs4
          clear hs4
          refine ⟨_, [true, true, false, true, true, true, false, false, false, false], [false, true, false, false, false, false, false, false, false, false], [4, 3], [(.slice (some ⟨w1.drew.heap.size, 0, none⟩) 0 0), ?vq5_1, undef, ?vq5_3, ?vq5_4, (.slice (some ⟨w1.drew.heap.size + 1, 0, none⟩) xs.length xs.length), undef, undef, undef, undef], fun w' => w' = ((w1.drew).alloc (.cells #[] 23)).alloc (.cells (Array.replicate xs.length (.int .u64 0)) 23), rfl, rfl, ?sameq5, by kernel_rfl, ?hSq5, ?nxq5⟩
          case sameq5 =>
            refine And.intro ?_ ?_
            · with_reducible rfl
            refine And.intro ?_ ?_
            · with_reducible rfl
            refine And.intro ?_ ?_
            · with_reducible rfl
            refine And.intro ?_ ?_
            · with_reducible rfl
            trivial
          case hSq5 => rfl
          case nxq5 =>
            refine chainT_one 2 (by decide) (by kernel_rfl) rfl ?opsq5 ?mq5_0
            case opsq5 =>
              simp only [OpsAt, fillT, List.setIfInBounds_toArray, List.set_cons_zero, List.set_cons_succ]
              refine ⟨.inl ⟨by rfl, opOk_pure fun wS hS => ?_⟩, ?_⟩
              · ((subst hS; go_simp)); try (with_reducible rfl)
              try trivial
            case mq5_0 =>
              refine makeT _ rfl rfl ?effq5_0
              intro wS hS
              simp only [fillT, List.setIfInBounds_toArray, List.set_cons_zero, List.set_cons_succ]
              rw [hS]
              refine wp_append_sat _ _ 22 rfl HS4.out 1 23 (.int .u64 0) 1 8 Try.underlying22 info_u64 rfl (by decide) (.slice (some ⟨w1.drew.heap.size, 0, none⟩) 0 0) 0 [] ?z5_0 rfl A xs.length c (words xs) ?z5_1 HW.out.none_ ?z5_2 (src_rest HS4.out (i := 0) rfl HW.out.src (src_lt HW.out.src)) ?z5_3 ?z5_4 ?z5_5 ?z5_6
              try (case z5_0 => go_simp)
              try (case z5_1 => go_simp)
              try (case z5_2 => simp [words])
              case z5_3 => intro u hu; simp [words] at hu; obtain ⟨x, _, rfl⟩ := hu; rfl
              case z5_4 => unfold maxLen; omega
              case z5_5 => omega
              case z5_6 =>
                intro A5 c5 w10 hs5 hA5 hg5
                skip
                try simp only [List.cons_append, List.nil_append, List.set_cons_zero, List.set_cons_succ, List.toList_toArray, Nat.zero_mul, Nat.mul_one, List.take_zero, Nat.zero_add, List.length_replicate, Array.toList_replicate, List.take_replicate, Nat.min_self, words_nil_app, World.size_alloc] at hs5
                have HS5 := Lib.hid hs5
                clear hs5
                clear hA5 hg5
                simp only [Nat.zero_add]
                refine ⟨_, [true, true, true, true, true, true, true, false, false, false], [false, false, false, false, false, false, true, false, false, false], [1], [(.slice (some ⟨w1.drew.heap.size, 0, none⟩) 0 0), ?vq6_1, (.slice A5 xs.length c5), ?vq6_3, ?vq6_4, (.slice (some ⟨w1.drew.heap.size + 1, 0, none⟩) xs.length xs.length), ?vq6_6, undef, undef, undef], fun w' => w' = w10, rfl, rfl, ?sameq6, by kernel_rfl, ?hSq6, ?nxq6⟩
                case sameq6 =>
                  refine And.intro ?_ ?_
                  · with_reducible rfl
                  refine And.intro ?_ ?_
                  · with_reducible rfl
                  refine And.intro ?_ ?_
                  · with_reducible rfl
                  refine And.intro ?_ ?_
                  · with_reducible rfl
                  refine And.intro ?_ ?_
                  · with_reducible rfl
                  trivial
                case hSq6 => rfl
                case nxq6 =>
                  refine chainT_one 7 (by decide) (by kernel_rfl) rfl ?opsq6 ?mq6_0
                  case opsq6 =>
                    simp only [OpsAt, fillT, List.setIfInBounds_toArray, List.set_cons_zero, List.set_cons_succ]
                    refine ⟨.inl ⟨by rfl, opOk_pure fun wS hS => ?_⟩, ?_⟩
                    · ((subst hS; go_simp)); try (with_reducible rfl)
                    try trivial
                  case mq6_0 =>
                    refine makeT _ rfl rfl ?effq6_0
                    intro wS hS
                    simp only [fillT, List.setIfInBounds_toArray, List.set_cons_zero, List.set_cons_succ]
                    rw [hS]
                    refine eff_run (w' := (w10).alloc (.cells #[(.slice A5 xs.length c5), (.slice (some ⟨w1.drew.heap.size + 1, 0, none⟩) xs.length xs.length), .int .u64 0] 59)) (by go_simp; try rfl) ?_
                    have hs6 := HS5.out.alloc #[(.slice A5 xs.length c5), (.slice (some ⟨w1.drew.heap.size + 1, 0, none⟩) xs.length xs.length), .int .u64 0] 59
                    try simp only [List.cons_append, List.nil_append, List.set_cons_zero, List.set_cons_succ, List.toList_toArray, Nat.zero_mul, Nat.mul_one, List.take_zero, Nat.zero_add, List.length_replicate, Array.toList_replicate, List.take_replicate, Nat.min_self, words_nil_app, World.size_alloc] at hs6
                    have HS6 := Lib.hid hs6
                    clear hs6
                    refine ⟨_, [true, true, true, true, true, true, true, true, true, true], [false, false, false, false, false, false, false, false, true, true], [6], [(.slice (some ⟨w1.drew.heap.size, 0, none⟩) 0 0), ?vq7_1, (.slice A5 xs.length c5), ?vq7_3, ?vq7_4, (.slice (some ⟨w1.drew.heap.size + 1, 0, none⟩) xs.length xs.length), ?vq7_6, (.pointer (some ⟨w10.heap.size, 0, none⟩)), ?vq7_8, ?vq7_9], fun w' => w' = (w10).alloc (.cells #[(.slice A5 xs.length c5), (.slice (some ⟨w1.drew.heap.size + 1, 0, none⟩) xs.length xs.length), .int .u64 0] 59), rfl, rfl, ?sameq7, by kernel_rfl, ?hSq7, ?nxq7⟩
                    case sameq7 =>
                      refine And.intro ?_ ?_
                      · with_reducible rfl
                      refine And.intro ?_ ?_
                      · with_reducible rfl
                      refine And.intro ?_ ?_
                      · with_reducible rfl
                      refine And.intro ?_ ?_
                      · with_reducible rfl
                      refine And.intro ?_ ?_
                      · with_reducible rfl
                      refine And.intro ?_ ?_
                      · with_reducible rfl
                      refine And.intro ?_ ?_
                      · with_reducible rfl
                      trivial
                    case hSq7 => rfl
                    case nxq7 =>
                      refine chainT_nil (by rfl) (by kernel_rfl) rfl ?opsq7 ?endq7
                      case opsq7 =>
                        simp only [OpsAt, fillT, List.setIfInBounds_toArray, List.set_cons_zero, List.set_cons_succ]
                        refine ⟨.inl ⟨by rfl, opOk_pure fun wS hS => ?_⟩, ?_⟩
                        · ((subst hS; go_simp)); try (with_reducible rfl)
                        refine ⟨.inl ⟨by rfl, opOk_pure fun wS hS => ?_⟩, ?_⟩
                        · ((subst hS; go_simp)); try (with_reducible rfl)
                        try trivial
                      case endq7 =>
                        intro wE hE
                        simp only [fillT, List.setIfInBounds_toArray, List.set_cons_zero, List.set_cons_succ]
                        rw [hE]
                        have h9 := tillX_shut (t := tl0 xs) (l := [_]) (by have := (HS6.out).pick [3, 0, 1, 2] (by decide); unfold tillB wRow tl0; rw [words_zeros]; simpa using this)
                        have h10 := h9.pick [1, 0] (by decide)
                        have H10 := Lib.hid h10
                        clear h9 h10
                        go_wp2
                        go_ret2
                        exact ⟨_, rfl, H10.out⟩
    case mq0_1 =>
      refine makeT _ rfl rfl ?effq0_1
      intro wS hS
      simp only [fillT, List.setIfInBounds_toArray, List.set_cons_zero, List.set_cons_succ]
      rw [hS]
      refine eff_run (w' := (w1.drew).alloc (.cells (Array.replicate xs.length (.int .u64 0)) 23)) (by go_simp; try rfl) ?_
      have hs7 := HP.out.made (Array.replicate xs.length (.int .u64 0)) 23 1 xs.length xs.length (by simp) (Nat.le_refl _) (by unfold maxLen; omega)
      try simp only [List.cons_append, List.nil_append, List.set_cons_zero, List.set_cons_succ, List.toList_toArray, Nat.zero_mul, Nat.mul_one, List.take_zero, Nat.zero_add, List.length_replicate, Array.toList_replicate, List.take_replicate, Nat.min_self, words_nil_app, World.size_alloc] at hs7
      have HS7 := Lib.hid hs7
      clear hs7
      refine ⟨_, [false, true, false, true, true, true, false, false, false, false], [false, true, false, false, false, false, false, false, false, false], [4, 3], [undef, ?vq8_1, undef, ?vq8_3, ?vq8_4, (.slice (some ⟨w1.drew.heap.size, 0, none⟩) xs.length xs.length), undef, undef, undef, undef], fun w' => w' = (w1.drew).alloc (.cells (Array.replicate xs.length (.int .u64 0)) 23), rfl, rfl, ?sameq8, by kernel_rfl, ?hSq8, ?nxq8⟩
      case sameq8 =>
        refine And.intro ?_ ?_
        · with_reducible rfl
        refine And.intro ?_ ?_
        · with_reducible rfl
        refine And.intro ?_ ?_
        · with_reducible rfl
        trivial
      case hSq8 => rfl
      case nxq8 =>
        refine chainT_one 0 (by decide) (by kernel_rfl) rfl ?opsq8 ?mq8_0
        case opsq8 =>
          simp only [OpsAt, fillT, List.setIfInBounds_toArray, List.set_cons_zero, List.set_cons_succ]
          refine ⟨.inl ⟨by rfl, opOk_pure fun wS hS => ?_⟩, ?_⟩
          · ((subst hS; go_simp)); try (with_reducible rfl)
          try trivial
        case mq8_0 =>
          refine makeT _ rfl rfl ?effq8_0
          intro wS hS
          simp only [fillT, List.setIfInBounds_toArray, List.set_cons_zero, List.set_cons_succ]
          rw [hS]
          refine eff_run (w' := ((w1.drew).alloc (.cells (Array.replicate xs.length (.int .u64 0)) 23)).alloc (.cells #[] 23)) (by go_simp; try rfl) ?_
          have hs8 := HS7.out.made #[] 23 1 0 0 rfl (Nat.le_refl _) (Nat.zero_le _)
          try simp only [List.cons_append, List.nil_append, List.set_cons_zero, List.set_cons_succ, List.toList_toArray, Nat.zero_mul, Nat.mul_one, List.take_zero, Nat.zero_add, List.length_replicate, Array.toList_replicate, List.take_replicate, Nat.min_self, words_nil_app, World.size_alloc] at hs8
          have HS8 := Lib.hid hs8
          clear hs8
          refine ⟨_, [true, true, false, true, true, true, false, false, false, false], [false, true, false, false, false, false, false, false, false, false], [], [(.slice (some ⟨w1.drew.heap.size + 1, 0, none⟩) 0 0), ?vq9_1, undef, ?vq9_3, ?vq9_4, (.slice (some ⟨w1.drew.heap.size, 0, none⟩) xs.length xs.length), undef, undef, undef, undef], fun w' => w' = ((w1.drew).alloc (.cells (Array.replicate xs.length (.int .u64 0)) 23)).alloc (.cells #[] 23), rfl, rfl, ?sameq9, by kernel_rfl, ?hSq9, ?nxq9⟩
          case sameq9 =>
            refine And.intro ?_ ?_
            · with_reducible rfl
            refine And.intro ?_ ?_
            · with_reducible rfl
            refine And.intro ?_ ?_
            · with_reducible rfl
            refine And.intro ?_ ?_
            · with_reducible rfl
            trivial
          case hSq9 => rfl
          case nxq9 =>
            refine chainT_one 2 (by decide) (by kernel_rfl) rfl ?opsq9 ?mq9_0
            case opsq9 =>
              simp only [OpsAt, fillT, List.setIfInBounds_toArray, List.set_cons_zero, List.set_cons_succ]
              refine ⟨.inl ⟨by rfl, opOk_pure fun wS hS => ?_⟩, ?_⟩
              · ((subst hS; go_simp)); try (with_reducible rfl)
              try trivial
            case mq9_0 =>
              refine makeT _ rfl rfl ?effq9_0
              intro wS hS
              simp only [fillT, List.setIfInBounds_toArray, List.set_cons_zero, List.set_cons_succ]
              rw [hS]
              refine wp_append_sat _ _ 22 rfl HS8.out 2 23 (.int .u64 0) 1 8 Try.underlying22 info_u64 rfl (by decide) (.slice (some ⟨w1.drew.heap.size + 1, 0, none⟩) 0 0) 0 [] ?z9_0 rfl A xs.length c (words xs) ?z9_1 HW.out.none_ ?z9_2 (src_rest HS8.out (i := 0) rfl HW.out.src (src_lt HW.out.src)) ?z9_3 ?z9_4 ?z9_5 ?z9_6
              try (case z9_0 => go_simp)
              try (case z9_1 => go_simp)
              try (case z9_2 => simp [words])
              case z9_3 => intro u hu; simp [words] at hu; obtain ⟨x, _, rfl⟩ := hu; rfl
              case z9_4 => unfold maxLen; omega
              case z9_5 => omega
              case z9_6 =>
                intro A9 c9 w14 hs9 hA9 hg9
                skip
                try simp only [List.cons_append, List.nil_append, List.set_cons_zero, List.set_cons_succ, List.toList_toArray, Nat.zero_mul, Nat.mul_one, List.take_zero, Nat.zero_add, List.length_replicate, Array.toList_replicate, List.take_replicate, Nat.min_self, words_nil_app, World.size_alloc] at hs9
                have HS9 := Lib.hid hs9
                clear hs9
                clear hA9 hg9
                simp only [Nat.zero_add]
                refine ⟨_, [true, true, true, true, true, true, true, false, false, false], [false, false, false, false, false, false, true, false, false, false], [1], [(.slice (some ⟨w1.drew.heap.size + 1, 0, none⟩) 0 0), ?vq10_1, (.slice A9 xs.length c9), ?vq10_3, ?vq10_4, (.slice (some ⟨w1.drew.heap.size, 0, none⟩) xs.length xs.length), ?vq10_6, undef, undef, undef], fun w' => w' = w14, rfl, rfl, ?sameq10, by kernel_rfl, ?hSq10, ?nxq10⟩
                case sameq10 =>
                  refine And.intro ?_ ?_
                  · with_reducible rfl
                  refine And.intro ?_ ?_
                  · with_reducible rfl
                  refine And.intro ?_ ?_
                  · with_reducible rfl
                  refine And.intro ?_ ?_
                  · with_reducible rfl
                  refine And.intro ?_ ?_
                  · with_reducible rfl
                  trivial
                case hSq10 => rfl
                case nxq10 =>
                  refine chainT_one 7 (by decide) (by kernel_rfl) rfl ?opsq10 ?mq10_0
                  case opsq10 =>
                    simp only [OpsAt, fillT, List.setIfInBounds_toArray, List.set_cons_zero, List.set_cons_succ]
                    refine ⟨.inl ⟨by rfl, opOk_pure fun wS hS => ?_⟩, ?_⟩
                    · ((subst hS; go_simp)); try (with_reducible rfl)
                    try trivial
                  case mq10_0 =>
                    refine makeT _ rfl rfl ?effq10_0
                    intro wS hS
                    simp only [fillT, List.setIfInBounds_toArray, List.set_cons_zero, List.set_cons_succ]
                    rw [hS]
                    refine eff_run (w' := (w14).alloc (.cells #[(.slice A9 xs.length c9), (.slice (some ⟨w1.drew.heap.size, 0, none⟩) xs.length xs.length), .int .u64 0] 59)) (by go_simp; try rfl) ?_
                    have hs10 := HS9.out.alloc #[(.slice A9 xs.length c9), (.slice (some ⟨w1.drew.heap.size, 0, none⟩) xs.length xs.length), .int .u64 0] 59
                    try simp only [List.cons_append, List.nil_append, List.set_cons_zero, List.set_cons_succ, List.toList_toArray, Nat.zero_mul, Nat.mul_one, List.take_zero, Nat.zero_add, List.length_replicate, Array.toList_replicate, List.take_replicate, Nat.min_self, words_nil_app, World.size_alloc] at hs10
                    have HS10 := Lib.hid hs10
                    clear hs10
                    refine ⟨_, [true, true, true, true, true, true, true, true, true, true], [false, false, false, false, false, false, false, false, true, true], [6], [(.slice (some ⟨w1.drew.heap.size + 1, 0, none⟩) 0 0), ?vq11_1, (.slice A9 xs.length c9), ?vq11_3, ?vq11_4, (.slice (some ⟨w1.drew.heap.size, 0, none⟩) xs.length xs.length), ?vq11_6, (.pointer (some ⟨w14.heap.size, 0, none⟩)), ?vq11_8, ?vq11_9], fun w' => w' = (w14).alloc (.cells #[(.slice A9 xs.length c9), (.slice (some ⟨w1.drew.heap.size, 0, none⟩) xs.length xs.length), .int .u64 0] 59), rfl, rfl, ?sameq11, by kernel_rfl, ?hSq11, ?nxq11⟩
                    case sameq11 =>
                      refine And.intro ?_ ?_
                      · with_reducible rfl
                      refine And.intro ?_ ?_
                      · with_reducible rfl
                      refine And.intro ?_ ?_
                      · with_reducible rfl
                      refine And.intro ?_ ?_
                      · with_reducible rfl
                      refine And.intro ?_ ?_
                      · with_reducible rfl
                      refine And.intro ?_ ?_
                      · with_reducible rfl
                      refine And.intro ?_ ?_
                      · with_reducible rfl
                      trivial
                    case hSq11 => rfl
                    case nxq11 =>
                      refine chainT_nil (by rfl) (by kernel_rfl) rfl ?opsq11 ?endq11
                      case opsq11 =>
                        simp only [OpsAt, fillT, List.setIfInBounds_toArray, List.set_cons_zero, List.set_cons_succ]
                        refine ⟨.inl ⟨by rfl, opOk_pure fun wS hS => ?_⟩, ?_⟩
                        · ((subst hS; go_simp)); try (with_reducible rfl)
                        refine ⟨.inl ⟨by rfl, opOk_pure fun wS hS => ?_⟩, ?_⟩
                        · ((subst hS; go_simp)); try (with_reducible rfl)
                        try trivial
                      case endq11 =>
                        intro wE hE
                        simp only [fillT, List.setIfInBounds_toArray, List.set_cons_zero, List.set_cons_succ]
                        rw [hE]
                        have h9 := tillX_shut (t := tl0 xs) (l := [_]) (by have := (HS10.out).pick [3, 0, 2, 1] (by decide); unfold tillB wRow tl0; rw [words_zeros]; simpa using this)
                        have h10 := h9.pick [1, 0] (by decide)
                        have H10 := Lib.hid h10
                        clear h9 h10
                        go_wp2
                        go_ret2
                        exact ⟨_, rfl, H10.out⟩
end Go.Proofs.Ytmcfmabnggffjaa
