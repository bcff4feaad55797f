/- A till's sum, a till's twin. -/
import Derived.Test.YtmcfmabnggffjaaTillNew
import Derived.LoopTactic
namespace Go.Proofs.Ytmcfmabnggffjaa
set_option linter.unusedVariables false
set_option linter.unusedSimpArgs false
set_option linter.unnecessarySimpa false
open Go.RowKit

theorem old_cell {w0 w1 w : World} {l : List Asn} (h : Sat w0 w l) {i : Nat} {G : Nat → Prop} (hi : l[i]? = some (rest w1 G)) {b j : Nat} {v : Value} (hG : G b) (hc : w1.cell? ⟨b, j, none⟩ = some v) : w.cell? ⟨b, j, none⟩ = some v :=
  (World.cell?_of_block (a := ⟨b, j, none⟩) (h.fact hi b hG)).trans hc
theorem ok_sum {t : Tl} (ok : t.Ok) : sumP 0 (t.has ++ [t.kept]) = (t.has.sum + t.kept, 0) := by
  have key : ∀ (l : List Int) (s : Int), U64s l → 0 ≤ s → s + l.sum < 18446744073709551616 → sumP s l = (s + l.sum, 0)
    := by
    intro l
    induction l with
    | nil => intro s _ _ _; simp [sumP]
    | cons a l ih =>
      intro s hu h0 h1
      rw [List.sum_cons] at h1
      have hl := sum_nonneg (l := l) fun b hb => hu b (by simp [hb])
      have ha := (hu a (by simp)).1
      unfold sumP
      rw [if_pos (by omega), ih (s + a) (fun b hb => hu b (by simp [hb])) (by omega) (by omega), List.sum_cons, Int.add_assoc]
  have ht := ok.tot
  have hk := ok.k0
  have hs := sum_nonneg ok.h
  rw [key _ 0 (fun a ha => ?_) (by decide) (by rw [List.sum_append]; simp; omega), List.sum_append]
  · simp
  · rcases List.mem_append.1 ha with h | h
    · exact ok.h a h
    · rw [List.mem_singleton.1 h]; omega
def AllRel (t : Tl) (s i : Value) : Prop := ∃ k : Nat, k ≤ t.has.length ∧ i = .int .i64 k ∧ s = .int .u64 (t.kept + (t.has.take k).sum)
theorem take_sum_le : ∀ {l : List Int} (k : Nat), U64s l → (l.take k).sum ≤ l.sum ∧ 0 ≤ (l.take k).sum
  | [], k, _ => by simp
  | a :: l, 0, h => by have := sum_nonneg h; simp at this ⊢; omega
  | a :: l, k + 1, h => by
    have h1 := (h a (by simp)).1
    have := take_sum_le (l := l) k fun b hb => h b (by simp [hb])
    rw [List.take_succ_cons, List.sum_cons, List.sum_cons]; omega

set_option maxRecDepth 100000 in
set_option maxHeartbeats 1000000 in
theorem twin_any (w : World) (m : Nat) (t : Tl) (F : Nat → Prop) (h : (tillX 54 m t).sat F w) (ok : t.Ok) : Calls Try.prog 18 #[.pointer (some ⟨m, 0, none⟩)] w fun e w' => ∃ m', e = .returned (.pointer (some ⟨m', 0, none⟩)) ∧ Sat w w' [rest w (· < w.heap.size), tillX 54 m' t] := by
  obtain ⟨Ah, ch, An, cn, c0, c1, c2, hm, hr, hn⟩ := tillX_cells h
  have hf := ok.few
  have hln := ok.len
  have hWh : Words w Ah ch t.has := ⟨row_none hr, src_row hr, ok.h, by omega⟩
  have hWn : Words w An cn t.next := ⟨row_none hn, src_row hn, ok.n, by omega⟩
  have hp := (Sat.pushRest w).drew
  have HP := Lib.hid hp
  have C0 := Lib.hid c0
  have C1 := Lib.hid c1
  have C2 := Lib.hid c2
  have HWh := Lib.hid hWh
  have HWn := Lib.hid hWn
  clear hr hn h hWh hWn hp
  go_enter Try.func18, Try.ntmps18
  go_wp2_with fail
  refine region_chain (E := [4, 9, 15]) (kn := [true, true, true, true, false, true, true, true, true, false, true, true, true, true, false, false, false]) (mask := [true, true, true, true, false, true, true, true, true, false, true, true, true, true, false, false, false]) (vs := [?vr0_0, ?vr0_1, ?vr0_2, ?vr0_3, undef, ?vr0_5, ?vr0_6, ?vr0_7, ?vr0_8, undef, ?vr0_10, ?vr0_11, ?vr0_12, ?vr0_13, undef, undef, undef]) (S := fun w' => w' = w.drew) (by kernel_rfl) (by kernel_rfl) (by kernel_rfl) (by kernel_rfl) (by kernel_rfl) ?hSr ?hchr
  case hSr => exact rfl
  case hchr =>
    refine chain_cons _ (by kernel_rfl) rfl rfl ?opsr0 ?wantr0 ?effr0
    case opsr0 =>
      simp only [OpsAt, fillT, List.setIfInBounds_toArray, List.set_cons_zero, List.set_cons_succ]
      refine ⟨.inl ⟨by rfl, opOk_pure fun wS hS => ?_⟩, ?_⟩
      · ((subst hS; go_simp)); try (with_reducible rfl)
      refine ⟨.inl ⟨by rfl, opOk_pure fun wS hS => ?_⟩, ?_⟩
      · ((subst hS; go_simp)); try (with_reducible rfl)
      refine ⟨.inl ⟨by rfl, opOk_pure fun wS hS => ?_⟩, ?_⟩
      · ((subst hS; go_simp)); try (with_reducible rfl)
      refine ⟨.inl ⟨by rfl, opOk_pure fun wS hS => ?_⟩, ?_⟩
      · ((subst hS; go_simp)); try (with_reducible rfl)
      refine ⟨.inl ⟨by rfl, opOk_pure fun wS hS => ?_⟩, ?_⟩
      · ((subst hS; go_simp)); try (with_reducible rfl)
      refine ⟨.inl ⟨by rfl, opOk_pure fun wS hS => ?_⟩, ?_⟩
      · ((subst hS; go_simp)); try (with_reducible rfl)
      refine ⟨.inl ⟨by rfl, opOk_pure fun wS hS => ?_⟩, ?_⟩
      · ((subst hS; go_simp)); try (with_reducible rfl)
      refine ⟨.inl ⟨by rfl, opOk_pure fun wS hS => ?_⟩, ?_⟩
      · ((subst hS; go_simp)); try (with_reducible rfl)
      refine ⟨.inl ⟨by rfl, opOk_pure fun wS hS => ?_⟩, ?_⟩
      · ((subst hS; go_simp)); try (with_reducible rfl)
      refine ⟨.inl ⟨by rfl, opOk_pure fun wS hS => ?_⟩, ?_⟩
      · ((subst hS; go_simp)); try (with_reducible rfl)
      refine ⟨.inl ⟨by rfl, opOk_pure fun wS hS => ?_⟩, ?_⟩
      · ((subst hS; go_simp)); try (with_reducible rfl)
      refine ⟨.inl ⟨by rfl, opOk_pure fun wS hS => ?_⟩, ?_⟩
      · ((subst hS; go_simp)); try (with_reducible rfl)
      try trivial
    case wantr0 => rfl
    case effr0 =>
      intro wS hS
      simp only [fillT, List.setIfInBounds_toArray, List.set_cons_zero, List.set_cons_succ]
      rw [hS]
      refine eff_call (f := 27) (args := #[.slice Ah t.has.length ch]) (by go_simp) ?_
      refine (cloneU_any (w.drew) Ah ch _ (HWh.out.mono (src_rest HP.out (i := 0) rfl HWh.out.src (src_lt HWh.out.src)))).mono ?_
      rintro e w6 ⟨A6, k6, rfl, hr, hb⟩
      have hs6 := HP.out.pushRow hr hb
      try simp only [List.cons_append, List.nil_append, List.set_cons_zero, List.set_cons_succ, List.toList_toArray, Nat.zero_mul, Nat.mul_one, List.take_zero, Nat.zero_add, List.length_replicate, Array.toList_replicate, List.take_replicate, Nat.min_self, words_nil_app, World.size_alloc] at hs6
      have d6_0 := old_cell hs6 (i := 0) rfl hm C0.out
      have d6_1 := old_cell hs6 (i := 0) rfl hm C1.out
      have d6_2 := old_cell hs6 (i := 0) rfl hm C2.out
      have HS6 := Lib.hid hs6
      clear hs6 hr hb
      refine ⟨_, rfl, ?_⟩
      refine ⟨_, [true, true, true, true, true, true, true, true, true, false, true, true, true, true, false, false, false], [false, false, false, false, false, true, true, true, true, false, true, true, true, true, false, false, false], [3, 2, 1, 0], [?vr1_0, ?vr1_1, ?vr1_2, ?vr1_3, (.slice A6 t.has.length k6), ?vr1_5, ?vr1_6, ?vr1_7, ?vr1_8, undef, ?vr1_10, ?vr1_11, ?vr1_12, ?vr1_13, undef, undef, undef], fun w' => w' = w6, rfl, rfl, ?samer0, by kernel_rfl, ?hSr0, ?nxr0⟩
      case samer0 =>
        refine And.intro ?_ ?_
        · with_reducible rfl
        refine And.intro ?_ ?_
        · with_reducible rfl
        refine And.intro ?_ ?_
        · with_reducible rfl
        refine And.intro ?_ ?_
        · with_reducible rfl
        refine And.intro ?_ ?_
        · with_reducible rfl
        refine And.intro ?_ ?_
        · with_reducible rfl
        refine And.intro ?_ ?_
        · with_reducible rfl
        refine And.intro ?_ ?_
        · with_reducible rfl
        refine And.intro ?_ ?_
        · with_reducible rfl
        refine And.intro ?_ ?_
        · with_reducible rfl
        refine And.intro ?_ ?_
        · with_reducible rfl
        refine And.intro ?_ ?_
        · with_reducible rfl
        trivial
      case hSr0 => rfl
      case nxr0 =>
        refine chain_cons _ (by kernel_rfl) rfl rfl ?opsr1 ?wantr1 ?effr1
        case opsr1 =>
          simp only [OpsAt, fillT, List.setIfInBounds_toArray, List.set_cons_zero, List.set_cons_succ]
          refine ⟨.inl ⟨by rfl, opOk_pure fun wS hS => ?_⟩, ?_⟩
          · ((subst hS; go_simp)); try (with_reducible rfl)
          refine ⟨.inl ⟨by rfl, opOk_pure fun wS hS => ?_⟩, ?_⟩
          · ((subst hS; go_simp)); try (with_reducible rfl)
          refine ⟨.inl ⟨by rfl, opOk_pure fun wS hS => ?_⟩, ?_⟩
          · ((subst hS; go_simp)); try (with_reducible rfl)
          refine ⟨.inl ⟨by rfl, opOk_pure fun wS hS => ?_⟩, ?_⟩
          · ((subst hS; go_simp)); try (with_reducible rfl)
          refine ⟨.inl ⟨by rfl, opOk_pure fun wS hS => ?_⟩, ?_⟩
          · ((subst hS; go_simp)); try (with_reducible rfl)
          refine ⟨.inl ⟨by rfl, opOk_pure fun wS hS => ?_⟩, ?_⟩
          · ((subst hS; go_simp)); try (with_reducible rfl)
          refine ⟨.inl ⟨by rfl, opOk_pure fun wS hS => ?_⟩, ?_⟩
          · ((subst hS; go_simp)); try (with_reducible rfl)
          refine ⟨.inl ⟨by rfl, opOk_pure fun wS hS => ?_⟩, ?_⟩
          · ((subst hS; go_simp)); try (with_reducible rfl)
          try trivial
        case wantr1 => rfl
        case effr1 =>
          intro wS hS
          simp only [fillT, List.setIfInBounds_toArray, List.set_cons_zero, List.set_cons_succ]
          rw [hS]
          refine eff_call (f := 27) (args := #[.slice An t.next.length cn]) (by go_simp) ?_
          refine (cloneU_any (w6) An cn _ (HWn.out.mono (src_rest HS6.out (i := 0) rfl HWn.out.src (src_lt HWn.out.src)))).mono ?_
          rintro e w7 ⟨A7, k7, rfl, hr, hb⟩
          have hs7 := HS6.out.pushRow hr hb
          try simp only [List.cons_append, List.nil_append, List.set_cons_zero, List.set_cons_succ, List.toList_toArray, Nat.zero_mul, Nat.mul_one, List.take_zero, Nat.zero_add, List.length_replicate, Array.toList_replicate, List.take_replicate, Nat.min_self, words_nil_app, World.size_alloc] at hs7
          have d7_0 := old_cell hs7 (i := 0) rfl hm C0.out
          have d7_1 := old_cell hs7 (i := 0) rfl hm C1.out
          have d7_2 := old_cell hs7 (i := 0) rfl hm C2.out
          have HS7 := Lib.hid hs7
          clear hs7 hr hb
          refine ⟨_, rfl, ?_⟩
          refine ⟨_, [true, true, true, true, true, true, true, true, true, true, true, true, true, true, true, false, false], [false, false, false, false, false, false, false, false, false, false, true, true, true, true, true, false, false], [8, 7, 6, 5], [?vr2_0, ?vr2_1, ?vr2_2, ?vr2_3, (.slice A6 t.has.length k6), ?vr2_5, ?vr2_6, ?vr2_7, ?vr2_8, (.slice A7 t.next.length k7), ?vr2_10, ?vr2_11, ?vr2_12, ?vr2_13, ?vr2_14, undef, undef], fun w' => w' = w7, rfl, rfl, ?samer1, by kernel_rfl, ?hSr1, ?nxr1⟩
          case samer1 =>
            refine And.intro ?_ ?_
            · with_reducible rfl
            refine And.intro ?_ ?_
            · with_reducible rfl
            refine And.intro ?_ ?_
            · with_reducible rfl
            refine And.intro ?_ ?_
            · with_reducible rfl
            refine And.intro ?_ ?_
            · with_reducible rfl
            refine And.intro ?_ ?_
            · with_reducible rfl
            refine And.intro ?_ ?_
            · with_reducible rfl
            refine And.intro ?_ ?_
            · with_reducible rfl
            refine And.intro ?_ ?_
            · with_reducible rfl
            refine And.intro ?_ ?_
            · with_reducible rfl
            refine And.intro ?_ ?_
            · with_reducible rfl
            refine And.intro ?_ ?_
            · with_reducible rfl
            refine And.intro ?_ ?_
            · with_reducible rfl
            trivial
          case hSr1 => rfl
          case nxr1 =>
            refine chain_cons _ (by kernel_rfl) rfl rfl ?opsr2 ?wantr2 ?effr2
            case opsr2 =>
              simp only [OpsAt, fillT, List.setIfInBounds_toArray, List.set_cons_zero, List.set_cons_succ]
              refine ⟨.inl ⟨by rfl, opOk_pure fun wS hS => ?_⟩, ?_⟩
              · ((subst hS; go_simp)); try (with_reducible rfl)
              refine ⟨.inl ⟨by rfl, opOk_pure fun wS hS => ?_⟩, ?_⟩
              · ((subst hS; go_simp)); try (with_reducible rfl)
              refine ⟨.inl ⟨by rfl, opOk_pure fun wS hS => ?_⟩, ?_⟩
              · ((subst hS; go_simp)); try (with_reducible rfl)
              refine ⟨.inl ⟨by rfl, opOk_pure fun wS hS => ?_⟩, ?_⟩
              · ((subst hS; go_simp)); try (with_reducible rfl)
              refine ⟨.inl ⟨by rfl, opOk_pure fun wS hS => ?_⟩, ?_⟩
              · ((subst hS; go_simp)); try (with_reducible rfl)
              try trivial
            case wantr2 => rfl
            case effr2 =>
              intro wS hS
              simp only [fillT, List.setIfInBounds_toArray, List.set_cons_zero, List.set_cons_succ]
              rw [hS]
              refine eff_run (w' := (w7).alloc (.cells #[.slice A6 t.has.length k6, .slice A7 t.next.length k7, .int .u64 t.kept] 54)) (by go_simp; try rfl) ?_
              have hs8 := HS7.out.alloc #[.slice A6 t.has.length k6, .slice A7 t.next.length k7, .int .u64 t.kept] 54
              try simp only [List.cons_append, List.nil_append, List.set_cons_zero, List.set_cons_succ, List.toList_toArray, Nat.zero_mul, Nat.mul_one, List.take_zero, Nat.zero_add, List.length_replicate, Array.toList_replicate, List.take_replicate, Nat.min_self, words_nil_app, World.size_alloc] at hs8
              have HS8 := Lib.hid hs8
              clear hs8
              refine ⟨_, [true, true, true, true, true, true, true, true, true, true, true, true, true, true, true, true, true], [false, false, false, false, false, false, false, false, false, false, false, false, false, false, false, false, true], [14, 13, 12, 11, 10], [?vr3_0, ?vr3_1, ?vr3_2, ?vr3_3, (.slice A6 t.has.length k6), ?vr3_5, ?vr3_6, ?vr3_7, ?vr3_8, (.slice A7 t.next.length k7), ?vr3_10, ?vr3_11, ?vr3_12, ?vr3_13, ?vr3_14, (.pointer (some ⟨w7.heap.size, 0, none⟩)), ?vr3_16], fun w' => w' = (w7).alloc (.cells #[.slice A6 t.has.length k6, .slice A7 t.next.length k7, .int .u64 t.kept] 54), rfl, rfl, ?samer2, by kernel_rfl, ?hSr2, ?nxr2⟩
              case samer2 =>
                refine And.intro ?_ ?_
                · with_reducible rfl
                refine And.intro ?_ ?_
                · with_reducible rfl
                refine And.intro ?_ ?_
                · with_reducible rfl
                refine And.intro ?_ ?_
                · with_reducible rfl
                refine And.intro ?_ ?_
                · with_reducible rfl
                refine And.intro ?_ ?_
                · with_reducible rfl
                refine And.intro ?_ ?_
                · with_reducible rfl
                refine And.intro ?_ ?_
                · with_reducible rfl
                refine And.intro ?_ ?_
                · with_reducible rfl
                refine And.intro ?_ ?_
                · with_reducible rfl
                refine And.intro ?_ ?_
                · with_reducible rfl
                refine And.intro ?_ ?_
                · with_reducible rfl
                refine And.intro ?_ ?_
                · with_reducible rfl
                refine And.intro ?_ ?_
                · with_reducible rfl
                refine And.intro ?_ ?_
                · with_reducible rfl
                trivial
              case hSr2 => rfl
              case nxr2 =>
                refine chain_nil (by kernel_rfl) rfl ?opsr3 ?endr3
                case opsr3 =>
                  simp only [OpsAt, fillT, List.setIfInBounds_toArray, List.set_cons_zero, List.set_cons_succ]
                  refine ⟨.inl ⟨by rfl, opOk_pure fun wS hS => ?_⟩, ?_⟩
                  · ((subst hS; go_simp)); try (with_reducible rfl)
                  try trivial
                case endr3 =>
                  intro wE hE
                  simp only [fillT, List.setIfInBounds_toArray, List.set_cons_zero, List.set_cons_succ]
                  rw [hE]
                  have h9 := tillX_shut (t := t) (l := [_]) (by have := HS8.out.pick [3, 0, 1, 2] (by decide); unfold tillB wRow; simpa using this)
                  have h10 := h9.pick [1, 0] (by decide)
                  have H10 := Lib.hid h10
                  clear h9 h10
                  go_wp2
                  go_ret
                  exact ⟨_, rfl, H10.out⟩
set_option maxRecDepth 100000 in
set_option maxHeartbeats 1000000 in
theorem all_any (w : World) (m : Nat) (t : Tl) (F : Nat → Prop) (h : (tillX 54 m t).sat F w) (ok : t.Ok) : Calls Try.prog 19 #[.pointer (some ⟨m, 0, none⟩)] w fun e w' => e = .returned (.int .u64 (t.has.sum + t.kept)) ∧ Below w.heap.size w w' := by
  obtain ⟨Ah, ch, An, cn, c0, c1, c2, hm, hr, hn⟩ := tillX_cells h
  have hf := ok.few
  have hln := ok.len
  have hWh : Words w Ah ch t.has := ⟨row_none hr, src_row hr, ok.h, by omega⟩
  have hWn : Words w An cn t.next := ⟨row_none hn, src_row hn, ok.n, by omega⟩
  have hp := (Sat.pushRest w).drew
  have HP := Lib.hid hp
  have C0 := Lib.hid c0
  have C1 := Lib.hid c1
  have C2 := Lib.hid c2
  have HWh := Lib.hid hWh
  have HWn := Lib.hid hWn
  clear hr hn h hWh hWn hp
  have hos := ok_sum ok
  have hus : ∀ a ∈ t.has ++ [t.kept], 0 ≤ a ∧ a < 18446744073709551616 := fun a ha => by
    have h1 := ok.tot
    have h2 := ok.k0
    have h3 := sum_nonneg ok.h
    rcases List.mem_append.1 ha with h | h
    · exact ok.h a h
    · rw [List.mem_singleton.1 h]; omega
  have HOS := Lib.hid hos
  have HUS := Lib.hid hus
  clear hos hus
  go_enter Try.func19, Try.ntmps19
  go_wp2_with fail
  refine region_chainT (m := 4) (E := [4, 9, 10, 11]) (kn := [true, true, true, true, false, true, true, true, true, false, false, false, false, false, false, false, false]) (mask := [true, true, true, true, false, true, true, true, true, false, false, false, false, false, false, false, false]) (vs := [?vq0_0, ?vq0_1, ?vq0_2, ?vq0_3, undef, ?vq0_5, ?vq0_6, ?vq0_7, ?vq0_8, undef, undef, undef, undef, undef, undef, undef, undef]) (S := fun w' => w' = w.drew) (by kernel_rfl) (by kernel_rfl) (by kernel_rfl) (by kernel_rfl) (by kernel_rfl) ?hSq ?hchq
  case hSq => exact rfl
  case hchq =>
    refine chainT_two 4 9 (by decide) (by kernel_rfl) rfl ?opsq0 ?mq0_0 ?mq0_1
    case opsq0 =>
      simp only [OpsAt, fillT, List.setIfInBounds_toArray, List.set_cons_zero, List.set_cons_succ]
      refine ⟨.inl ⟨by rfl, opOk_pure fun wS hS => ?_⟩, ?_⟩
      · ((subst hS; go_simp)); try (with_reducible rfl)
      refine ⟨.inl ⟨by rfl, opOk_pure fun wS hS => ?_⟩, ?_⟩
      · ((subst hS; go_simp)); try (with_reducible rfl)
      refine ⟨.inl ⟨by rfl, opOk_pure fun wS hS => ?_⟩, ?_⟩
      · ((subst hS; go_simp)); try (with_reducible rfl)
      refine ⟨.inl ⟨by rfl, opOk_pure fun wS hS => ?_⟩, ?_⟩
      · ((subst hS; go_simp)); try (with_reducible rfl)
      refine ⟨.inl ⟨by rfl, opOk_pure fun wS hS => ?_⟩, ?_⟩
      · ((subst hS; go_simp)); try (with_reducible rfl)
      refine ⟨.inl ⟨by rfl, opOk_pure fun wS hS => ?_⟩, ?_⟩
      · ((subst hS; go_simp)); try (with_reducible rfl)
      refine ⟨.inl ⟨by rfl, opOk_pure fun wS hS => ?_⟩, ?_⟩
      · ((subst hS; go_simp)); try (with_reducible rfl)
      refine ⟨.inl ⟨by rfl, opOk_pure fun wS hS => ?_⟩, ?_⟩
      · ((subst hS; go_simp)); try (with_reducible rfl)
      try trivial
    case mq0_0 =>
      refine makeT _ rfl rfl ?effq0_0
      intro wS hS
      simp only [fillT, List.setIfInBounds_toArray, List.set_cons_zero, List.set_cons_succ]
      rw [hS]
      refine eff_call (f := 27) (args := #[.slice Ah t.has.length ch]) (by go_simp) ?_
      refine (cloneU_any (w.drew) Ah ch _ (HWh.out.mono (src_rest HP.out (i := 0) rfl HWh.out.src (src_lt HWh.out.src)))).mono ?_
      rintro e w10 ⟨A10, k10, rfl, hr, hb⟩
      have hs10 := HP.out.pushRow hr hb
      try simp only [List.cons_append, List.nil_append, List.set_cons_zero, List.set_cons_succ, List.toList_toArray, Nat.zero_mul, Nat.mul_one, List.take_zero, Nat.zero_add, List.length_replicate, Array.toList_replicate, List.take_replicate, Nat.min_self, words_nil_app, World.size_alloc] at hs10
      have d10_0 := old_cell hs10 (i := 0) rfl hm C0.out
      have d10_1 := old_cell hs10 (i := 0) rfl hm C1.out
      have d10_2 := old_cell hs10 (i := 0) rfl hm C2.out
      have HS10 := Lib.hid hs10
      clear hs10 hr hb
      refine ⟨_, rfl, ?_⟩
      refine ⟨_, [true, true, true, true, true, true, true, true, true, false, false, false, false, false, false, false, false], [false, false, false, false, false, true, true, true, true, false, false, false, false, false, false, false, false], [3, 2, 1, 0], [?vq1_0, ?vq1_1, ?vq1_2, ?vq1_3, (.slice A10 t.has.length k10), ?vq1_5, ?vq1_6, ?vq1_7, ?vq1_8, undef, undef, undef, undef, undef, undef, undef, undef], fun w' => w' = w10, rfl, rfl, ?sameq1, by kernel_rfl, ?hSq1, ?nxq1⟩
      case sameq1 =>
        refine And.intro ?_ ?_
        · with_reducible rfl
        refine And.intro ?_ ?_
        · with_reducible rfl
        refine And.intro ?_ ?_
        · with_reducible rfl
        refine And.intro ?_ ?_
        · with_reducible rfl
        refine And.intro ?_ ?_
        · with_reducible rfl
        refine And.intro ?_ ?_
        · with_reducible rfl
        refine And.intro ?_ ?_
        · with_reducible rfl
        refine And.intro ?_ ?_
        · with_reducible rfl
        trivial
      case hSq1 => rfl
      case nxq1 =>
        refine chainT_one 9 (by decide) (by kernel_rfl) rfl ?opsq1 ?mq1_0
        case opsq1 =>
          simp only [OpsAt, fillT, List.setIfInBounds_toArray, List.set_cons_zero, List.set_cons_succ]
          refine ⟨.inl ⟨by rfl, opOk_pure fun wS hS => ?_⟩, ?_⟩
          · ((subst hS; go_simp)); try (with_reducible rfl)
          refine ⟨.inl ⟨by rfl, opOk_pure fun wS hS => ?_⟩, ?_⟩
          · ((subst hS; go_simp)); try (with_reducible rfl)
          refine ⟨.inl ⟨by rfl, opOk_pure fun wS hS => ?_⟩, ?_⟩
          · ((subst hS; go_simp)); try (with_reducible rfl)
          refine ⟨.inl ⟨by rfl, opOk_pure fun wS hS => ?_⟩, ?_⟩
          · ((subst hS; go_simp)); try (with_reducible rfl)
          try trivial
        case mq1_0 =>
          refine makeT _ rfl rfl ?effq1_0
          intro wS hS
          simp only [fillT, List.setIfInBounds_toArray, List.set_cons_zero, List.set_cons_succ]
          rw [hS]
          refine eff_run (w' := (w10).alloc (.cells #[.int .u64 t.kept] 23)) (by go_simp; try rfl) ?_
          have hs11 := HS10.out.alloc #[.int .u64 t.kept] 23
          try simp only [List.cons_append, List.nil_append, List.set_cons_zero, List.set_cons_succ, List.toList_toArray, Nat.zero_mul, Nat.mul_one, List.take_zero, Nat.zero_add, List.length_replicate, Array.toList_replicate, List.take_replicate, Nat.min_self, words_nil_app, World.size_alloc] at hs11
          have HS11 := Lib.hid hs11
          clear hs11
          refine ⟨_, [true, true, true, true, true, true, true, true, true, true, false, false, false, false, false, false, false], [false, false, false, false, false, false, false, false, false, false, false, false, false, false, false, false, false], [8, 7, 6, 5], [?vq2_0, ?vq2_1, ?vq2_2, ?vq2_3, (.slice A10 t.has.length k10), ?vq2_5, ?vq2_6, ?vq2_7, ?vq2_8, (.slice (some ⟨w10.heap.size, 0, none⟩) 1 1), undef, undef, undef, undef, undef, undef, undef], fun w' => w' = (w10).alloc (.cells #[.int .u64 t.kept] 23), rfl, rfl, ?sameq2, by kernel_rfl, ?hSq2, ?nxq2⟩
          case sameq2 =>
            refine And.intro ?_ ?_
            · with_reducible rfl
            refine And.intro ?_ ?_
            · with_reducible rfl
            refine And.intro ?_ ?_
            · with_reducible rfl
            refine And.intro ?_ ?_
            · with_reducible rfl
            refine And.intro ?_ ?_
            · with_reducible rfl
            refine And.intro ?_ ?_
            · with_reducible rfl
            refine And.intro ?_ ?_
            · with_reducible rfl
            refine And.intro ?_ ?_
            · with_reducible rfl
            refine And.intro ?_ ?_
            · with_reducible rfl
            trivial
          case hSq2 => rfl
          case nxq2 =>
            refine chainT_one 10 (by decide) (by kernel_rfl) rfl ?opsq2 ?mq2_0
            case opsq2 =>
              simp only [OpsAt, fillT, List.setIfInBounds_toArray, List.set_cons_zero, List.set_cons_succ]
              try trivial
            case mq2_0 =>
              refine makeT _ rfl rfl ?effq2_0
              intro wS hS
              simp only [fillT, List.setIfInBounds_toArray, List.set_cons_zero, List.set_cons_succ]
              rw [hS]
              refine wp_append_sat _ _ 22 rfl HS11.out 1 23 (.int .u64 0) 1 8 Try.underlying22 info_u64 rfl (by decide) (.slice A10 t.has.length k10) t.has.length (words t.has) ?z12_0 rfl (some ⟨w10.heap.size, 0, none⟩) 1 1 [.int .u64 t.kept] ?z12_1 (fun h => by cases h) ?z12_2 (box_src HS11.out (i := 2) rfl) ?z12_3 ?z12_4 ?z12_5 ?z12_6
              try (case z12_0 => go_simp)
              try (case z12_1 => go_simp)
              try (case z12_2 => simp [words])
              case z12_3 => intro u hu; simp [words] at hu; obtain ⟨x, _, rfl⟩ := hu; rfl
              case z12_4 => unfold maxLen; omega
              case z12_5 => omega
              case z12_6 =>
                intro A12 k12 w12 hs12 hA12 hg12
                try simp only [List.cons_append, List.nil_append, List.set_cons_zero, List.set_cons_succ, List.toList_toArray, Nat.zero_mul, Nat.mul_one, List.take_zero, Nat.zero_add, List.length_replicate, Array.toList_replicate, List.take_replicate, Nat.min_self, words_nil_app, World.size_alloc] at hs12
                have d12_0 := old_cell hs12 (i := 0) rfl hm C0.out
                have d12_1 := old_cell hs12 (i := 0) rfl hm C1.out
                have d12_2 := old_cell hs12 (i := 0) rfl hm C2.out
                have HS12 := Lib.hid hs12
                clear hs12 hA12 hg12
                refine ⟨_, [true, true, true, true, true, true, true, true, true, true, true, false, false, false, false, false, false], [false, false, false, false, false, false, false, false, false, false, false, false, false, false, false, false, false], [], [?vq3_0, ?vq3_1, ?vq3_2, ?vq3_3, (.slice A10 t.has.length k10), ?vq3_5, ?vq3_6, ?vq3_7, ?vq3_8, (.slice (some ⟨w10.heap.size, 0, none⟩) 1 1), (.slice A12 (t.has.length + 1) k12), undef, undef, undef, undef, undef, undef], fun w' => w' = w12, rfl, rfl, ?sameq3, by kernel_rfl, ?hSq3, ?nxq3⟩
                case sameq3 =>
                  refine And.intro ?_ ?_
                  · with_reducible rfl
                  refine And.intro ?_ ?_
                  · with_reducible rfl
                  refine And.intro ?_ ?_
                  · with_reducible rfl
                  refine And.intro ?_ ?_
                  · with_reducible rfl
                  refine And.intro ?_ ?_
                  · with_reducible rfl
                  refine And.intro ?_ ?_
                  · with_reducible rfl
                  refine And.intro ?_ ?_
                  · with_reducible rfl
                  refine And.intro ?_ ?_
                  · with_reducible rfl
                  refine And.intro ?_ ?_
                  · with_reducible rfl
                  refine And.intro ?_ ?_
                  · with_reducible rfl
                  trivial
                case hSq3 => rfl
                case nxq3 =>
                  refine chainT_one 11 (by decide) (by kernel_rfl) rfl ?opsq3 ?mq3_0
                  case opsq3 =>
                    simp only [OpsAt, fillT, List.setIfInBounds_toArray, List.set_cons_zero, List.set_cons_succ]
                    try trivial
                  case mq3_0 =>
                    refine makeT _ rfl rfl ?effq3_0
                    intro wS hS
                    simp only [fillT, List.setIfInBounds_toArray, List.set_cons_zero, List.set_cons_succ]
                    rw [hS]
                    refine eff_call (f := 26) (args := #[.slice A12 (t.has.length + 1) k12]) (by go_simp) ?_
                    have hro := HS12.out.rowOf (i := 1) rfl
                    have hsm := sum_any w12 A12 k12 (t.has ++ [t.kept]) ⟨fun e => ⟨by have := (row_none hro e).1; simpa using this, (row_none hro e).2⟩, by have := src_row hro; simpa [words] using this, HUS.out, by simp; omega⟩
                    rw [HOS.out] at hsm
                    simp only [List.length_append, List.length_cons, List.length_nil, Nat.zero_add] at hsm
                    refine hsm.mono ?_
                    rintro e w' ⟨rfl, hw⟩
                    rw [hw]
                    refine ⟨_, rfl, ?_⟩
                    clear hsm hro hw
                    refine ⟨_, [true, true, true, true, true, true, true, true, true, true, true, true, true, true, true, true, true], [false, false, false, false, false, false, false, false, false, false, false, false, true, true, true, true, true], [], [?vq4_0, ?vq4_1, ?vq4_2, ?vq4_3, (.slice A10 t.has.length k10), ?vq4_5, ?vq4_6, ?vq4_7, ?vq4_8, (.slice (some ⟨w10.heap.size, 0, none⟩) 1 1), (.slice A12 (t.has.length + 1) k12), (.tuple #[.int .u64 (t.has.sum + t.kept), .int .i64 0]), ?vq4_12, ?vq4_13, ?vq4_14, ?vq4_15, ?vq4_16], fun w' => w' = w12, rfl, rfl, ?sameq4, by kernel_rfl, ?hSq4, ?nxq4⟩
                    case sameq4 =>
                      refine And.intro ?_ ?_
                      · with_reducible rfl
                      refine And.intro ?_ ?_
                      · with_reducible rfl
                      refine And.intro ?_ ?_
                      · with_reducible rfl
                      refine And.intro ?_ ?_
                      · with_reducible rfl
                      refine And.intro ?_ ?_
                      · with_reducible rfl
                      refine And.intro ?_ ?_
                      · with_reducible rfl
                      refine And.intro ?_ ?_
                      · with_reducible rfl
                      refine And.intro ?_ ?_
                      · with_reducible rfl
                      refine And.intro ?_ ?_
                      · with_reducible rfl
                      refine And.intro ?_ ?_
                      · with_reducible rfl
                      refine And.intro ?_ ?_
                      · with_reducible rfl
                      trivial
                    case hSq4 => rfl
                    case nxq4 =>
                      refine chainT_nil (by rfl) (by kernel_rfl) rfl ?opsq4 ?endq4
                      case opsq4 =>
                        simp only [OpsAt, fillT, List.setIfInBounds_toArray, List.set_cons_zero, List.set_cons_succ]
                        refine ⟨.inl ⟨by rfl, opOk_pure fun wS hS => ?_⟩, ?_⟩
                        · ((subst hS; go_simp)); try (with_reducible rfl)
                        refine ⟨.inl ⟨by rfl, opOk_pure fun wS hS => ?_⟩, ?_⟩
                        · ((subst hS; go_simp)); try (with_reducible rfl)
                        refine ⟨.inl ⟨by rfl, opOk_pure fun wS hS => ?_⟩, ?_⟩
                        · ((subst hS; go_simp)); try (with_reducible rfl)
                        refine ⟨.inl ⟨by rfl, opOk_pure fun wS hS => ?_⟩, ?_⟩
                        · ((subst hS; go_simp)); try (with_reducible rfl)
                        refine ⟨.inl ⟨by rfl, opOk_pure fun wS hS => ?_⟩, ?_⟩
                        · ((subst hS; go_simp)); try (with_reducible rfl)
                        try trivial
                      case endq4 =>
                        intro wE hE
                        simp only [fillT, List.setIfInBounds_toArray, List.set_cons_zero, List.set_cons_succ]
                        rw [hE]
                        have hbl := HS12.out.below (i := 0) rfl
                        have HBL := Lib.hid hbl
                        clear hbl
                        go_wp2
                        go_ret
                        exact ⟨rfl, HBL.out⟩
    case mq0_1 =>
      refine makeT _ rfl rfl ?effq0_1
      intro wS hS
      simp only [fillT, List.setIfInBounds_toArray, List.set_cons_zero, List.set_cons_succ]
      rw [hS]
      refine eff_run (w' := (w.drew).alloc (.cells #[.int .u64 t.kept] 23)) (by go_simp; try rfl) ?_
      have hs13 := HP.out.alloc #[.int .u64 t.kept] 23
      try simp only [List.cons_append, List.nil_append, List.set_cons_zero, List.set_cons_succ, List.toList_toArray, Nat.zero_mul, Nat.mul_one, List.take_zero, Nat.zero_add, List.length_replicate, Array.toList_replicate, List.take_replicate, Nat.min_self, words_nil_app, World.size_alloc] at hs13
      have HS13 := Lib.hid hs13
      clear hs13
      refine ⟨_, [true, true, true, true, false, true, true, true, true, true, false, false, false, false, false, false, false], [true, true, true, true, false, false, false, false, false, false, false, false, false, false, false, false, false], [8, 7, 6, 5], [?vq5_0, ?vq5_1, ?vq5_2, ?vq5_3, undef, ?vq5_5, ?vq5_6, ?vq5_7, ?vq5_8, (.slice (some ⟨w.drew.heap.size, 0, none⟩) 1 1), undef, undef, undef, undef, undef, undef, undef], fun w' => w' = (w.drew).alloc (.cells #[.int .u64 t.kept] 23), rfl, rfl, ?sameq5, by kernel_rfl, ?hSq5, ?nxq5⟩
      case sameq5 =>
        refine And.intro ?_ ?_
        · with_reducible rfl
        refine And.intro ?_ ?_
        · with_reducible rfl
        refine And.intro ?_ ?_
        · with_reducible rfl
        refine And.intro ?_ ?_
        · with_reducible rfl
        refine And.intro ?_ ?_
        · with_reducible rfl
        refine And.intro ?_ ?_
        · with_reducible rfl
        refine And.intro ?_ ?_
        · with_reducible rfl
        refine And.intro ?_ ?_
        · with_reducible rfl
        trivial
      case hSq5 => rfl
      case nxq5 =>
        refine chainT_one 4 (by decide) (by kernel_rfl) rfl ?opsq5 ?mq5_0
        case opsq5 =>
          simp only [OpsAt, fillT, List.setIfInBounds_toArray, List.set_cons_zero, List.set_cons_succ]
          refine ⟨.inl ⟨by rfl, opOk_pure fun wS hS => ?_⟩, ?_⟩
          · ((subst hS; go_simp)); try (with_reducible rfl)
          refine ⟨.inl ⟨by rfl, opOk_pure fun wS hS => ?_⟩, ?_⟩
          · ((subst hS; go_simp)); try (with_reducible rfl)
          refine ⟨.inl ⟨by rfl, opOk_pure fun wS hS => ?_⟩, ?_⟩
          · ((subst hS; go_simp)); try (with_reducible rfl)
          refine ⟨.inl ⟨by rfl, opOk_pure fun wS hS => ?_⟩, ?_⟩
          · ((subst hS; go_simp)); try (with_reducible rfl)
          try trivial
        case mq5_0 =>
          refine makeT _ rfl rfl ?effq5_0
          intro wS hS
          simp only [fillT, List.setIfInBounds_toArray, List.set_cons_zero, List.set_cons_succ]
          rw [hS]
          refine eff_call (f := 27) (args := #[.slice Ah t.has.length ch]) (by go_simp) ?_
          refine (cloneU_any ((w.drew).alloc (.cells #[.int .u64 t.kept] 23)) Ah ch _ (HWh.out.mono (src_rest HS13.out (i := 0) rfl HWh.out.src (src_lt HWh.out.src)))).mono ?_
          rintro e w14 ⟨A14, k14, rfl, hr, hb⟩
          have hs14 := HS13.out.pushRow hr hb
          try simp only [List.cons_append, List.nil_append, List.set_cons_zero, List.set_cons_succ, List.toList_toArray, Nat.zero_mul, Nat.mul_one, List.take_zero, Nat.zero_add, List.length_replicate, Array.toList_replicate, List.take_replicate, Nat.min_self, words_nil_app, World.size_alloc] at hs14
          have d14_0 := old_cell hs14 (i := 0) rfl hm C0.out
          have d14_1 := old_cell hs14 (i := 0) rfl hm C1.out
          have d14_2 := old_cell hs14 (i := 0) rfl hm C2.out
          have HS14 := Lib.hid hs14
          clear hs14 hr hb
          refine ⟨_, rfl, ?_⟩
          refine ⟨_, [true, true, true, true, true, true, true, true, true, true, false, false, false, false, false, false, false], [false, false, false, false, false, false, false, false, false, false, false, false, false, false, false, false, false], [3, 2, 1, 0], [?vq6_0, ?vq6_1, ?vq6_2, ?vq6_3, (.slice A14 t.has.length k14), ?vq6_5, ?vq6_6, ?vq6_7, ?vq6_8, (.slice (some ⟨w.drew.heap.size, 0, none⟩) 1 1), undef, undef, undef, undef, undef, undef, undef], fun w' => w' = w14, rfl, rfl, ?sameq6, by kernel_rfl, ?hSq6, ?nxq6⟩
          case sameq6 =>
            refine And.intro ?_ ?_
            · with_reducible rfl
            refine And.intro ?_ ?_
            · with_reducible rfl
            refine And.intro ?_ ?_
            · with_reducible rfl
            refine And.intro ?_ ?_
            · with_reducible rfl
            refine And.intro ?_ ?_
            · with_reducible rfl
            refine And.intro ?_ ?_
            · with_reducible rfl
            refine And.intro ?_ ?_
            · with_reducible rfl
            refine And.intro ?_ ?_
            · with_reducible rfl
            refine And.intro ?_ ?_
            · with_reducible rfl
            trivial
          case hSq6 => rfl
          case nxq6 =>
            refine chainT_one 10 (by decide) (by kernel_rfl) rfl ?opsq6 ?mq6_0
            case opsq6 =>
              simp only [OpsAt, fillT, List.setIfInBounds_toArray, List.set_cons_zero, List.set_cons_succ]
              try trivial
            case mq6_0 =>
              refine makeT _ rfl rfl ?effq6_0
              intro wS hS
              simp only [fillT, List.setIfInBounds_toArray, List.set_cons_zero, List.set_cons_succ]
              rw [hS]
              refine wp_append_sat _ _ 22 rfl HS14.out 2 23 (.int .u64 0) 1 8 Try.underlying22 info_u64 rfl (by decide) (.slice A14 t.has.length k14) t.has.length (words t.has) ?z15_0 rfl (some ⟨w.drew.heap.size, 0, none⟩) 1 1 [.int .u64 t.kept] ?z15_1 (fun h => by cases h) ?z15_2 (box_src HS14.out (i := 1) rfl) ?z15_3 ?z15_4 ?z15_5 ?z15_6
              try (case z15_0 => go_simp)
              try (case z15_1 => go_simp)
              try (case z15_2 => simp [words])
              case z15_3 => intro u hu; simp [words] at hu; obtain ⟨x, _, rfl⟩ := hu; rfl
              case z15_4 => unfold maxLen; omega
              case z15_5 => omega
              case z15_6 =>
                intro A15 k15 w15 hs15 hA15 hg15
                try simp only [List.cons_append, List.nil_append, List.set_cons_zero, List.set_cons_succ, List.toList_toArray, Nat.zero_mul, Nat.mul_one, List.take_zero, Nat.zero_add, List.length_replicate, Array.toList_replicate, List.take_replicate, Nat.min_self, words_nil_app, World.size_alloc] at hs15
                have d15_0 := old_cell hs15 (i := 0) rfl hm C0.out
                have d15_1 := old_cell hs15 (i := 0) rfl hm C1.out
                have d15_2 := old_cell hs15 (i := 0) rfl hm C2.out
                have HS15 := Lib.hid hs15
                clear hs15 hA15 hg15
                refine ⟨_, [true, true, true, true, true, true, true, true, true, true, true, false, false, false, false, false, false], [false, false, false, false, false, false, false, false, false, false, false, false, false, false, false, false, false], [], [?vq7_0, ?vq7_1, ?vq7_2, ?vq7_3, (.slice A14 t.has.length k14), ?vq7_5, ?vq7_6, ?vq7_7, ?vq7_8, (.slice (some ⟨w.drew.heap.size, 0, none⟩) 1 1), (.slice A15 (t.has.length + 1) k15), undef, undef, undef, undef, undef, undef], fun w' => w' = w15, rfl, rfl, ?sameq7, by kernel_rfl, ?hSq7, ?nxq7⟩
                case sameq7 =>
                  refine And.intro ?_ ?_
                  · with_reducible rfl
                  refine And.intro ?_ ?_
                  · with_reducible rfl
                  refine And.intro ?_ ?_
                  · with_reducible rfl
                  refine And.intro ?_ ?_
                  · with_reducible rfl
                  refine And.intro ?_ ?_
                  · with_reducible rfl
                  refine And.intro ?_ ?_
                  · with_reducible rfl
                  refine And.intro ?_ ?_
                  · with_reducible rfl
                  refine And.intro ?_ ?_
                  · with_reducible rfl
                  refine And.intro ?_ ?_
                  · with_reducible rfl
                  refine And.intro ?_ ?_
                  · with_reducible rfl
                  trivial
                case hSq7 => rfl
                case nxq7 =>
                  refine chainT_one 11 (by decide) (by kernel_rfl) rfl ?opsq7 ?mq7_0
                  case opsq7 =>
                    simp only [OpsAt, fillT, List.setIfInBounds_toArray, List.set_cons_zero, List.set_cons_succ]
                    try trivial
                  case mq7_0 =>
                    refine makeT _ rfl rfl ?effq7_0
                    intro wS hS
                    simp only [fillT, List.setIfInBounds_toArray, List.set_cons_zero, List.set_cons_succ]
                    rw [hS]
                    refine eff_call (f := 26) (args := #[.slice A15 (t.has.length + 1) k15]) (by go_simp) ?_
                    have hro := HS15.out.rowOf (i := 2) rfl
                    have hsm := sum_any w15 A15 k15 (t.has ++ [t.kept]) ⟨fun e => ⟨by have := (row_none hro e).1; simpa using this, (row_none hro e).2⟩, by have := src_row hro; simpa [words] using this, HUS.out, by simp; omega⟩
                    rw [HOS.out] at hsm
                    simp only [List.length_append, List.length_cons, List.length_nil, Nat.zero_add] at hsm
                    refine hsm.mono ?_
                    rintro e w' ⟨rfl, hw⟩
                    rw [hw]
                    refine ⟨_, rfl, ?_⟩
                    clear hsm hro hw
                    refine ⟨_, [true, true, true, true, true, true, true, true, true, true, true, true, true, true, true, true, true], [false, false, false, false, false, false, false, false, false, false, false, false, true, true, true, true, true], [], [?vq8_0, ?vq8_1, ?vq8_2, ?vq8_3, (.slice A14 t.has.length k14), ?vq8_5, ?vq8_6, ?vq8_7, ?vq8_8, (.slice (some ⟨w.drew.heap.size, 0, none⟩) 1 1), (.slice A15 (t.has.length + 1) k15), (.tuple #[.int .u64 (t.has.sum + t.kept), .int .i64 0]), ?vq8_12, ?vq8_13, ?vq8_14, ?vq8_15, ?vq8_16], fun w' => w' = w15, rfl, rfl, ?sameq8, by kernel_rfl, ?hSq8, ?nxq8⟩
                    case sameq8 =>
                      refine And.intro ?_ ?_
                      · with_reducible rfl
                      refine And.intro ?_ ?_
                      · with_reducible rfl
                      refine And.intro ?_ ?_
                      · with_reducible rfl
                      refine And.intro ?_ ?_
                      · with_reducible rfl
                      refine And.intro ?_ ?_
                      · with_reducible rfl
                      refine And.intro ?_ ?_
                      · with_reducible rfl
                      refine And.intro ?_ ?_
                      · with_reducible rfl
                      refine And.intro ?_ ?_
                      · with_reducible rfl
                      refine And.intro ?_ ?_
                      · with_reducible rfl
                      refine And.intro ?_ ?_
                      · with_reducible rfl
                      refine And.intro ?_ ?_
                      · with_reducible rfl
                      trivial
                    case hSq8 => rfl
                    case nxq8 =>
                      refine chainT_nil (by rfl) (by kernel_rfl) rfl ?opsq8 ?endq8
                      case opsq8 =>
                        simp only [OpsAt, fillT, List.setIfInBounds_toArray, List.set_cons_zero, List.set_cons_succ]
                        refine ⟨.inl ⟨by rfl, opOk_pure fun wS hS => ?_⟩, ?_⟩
                        · ((subst hS; go_simp)); try (with_reducible rfl)
                        refine ⟨.inl ⟨by rfl, opOk_pure fun wS hS => ?_⟩, ?_⟩
                        · ((subst hS; go_simp)); try (with_reducible rfl)
                        refine ⟨.inl ⟨by rfl, opOk_pure fun wS hS => ?_⟩, ?_⟩
                        · ((subst hS; go_simp)); try (with_reducible rfl)
                        refine ⟨.inl ⟨by rfl, opOk_pure fun wS hS => ?_⟩, ?_⟩
                        · ((subst hS; go_simp)); try (with_reducible rfl)
                        refine ⟨.inl ⟨by rfl, opOk_pure fun wS hS => ?_⟩, ?_⟩
                        · ((subst hS; go_simp)); try (with_reducible rfl)
                        try trivial
                      case endq8 =>
                        intro wE hE
                        simp only [fillT, List.setIfInBounds_toArray, List.set_cons_zero, List.set_cons_succ]
                        rw [hE]
                        have hbl := HS15.out.below (i := 0) rfl
                        have HBL := Lib.hid hbl
                        clear hbl
                        go_wp2
                        go_ret
                        exact ⟨rfl, HBL.out⟩
set_option maxRecDepth 100000 in
set_option maxHeartbeats 1000000 in
theorem rall_any (w : World) (m : Nat) (t : Tl) (F : Nat → Prop) (h : (tillX 59 m t).sat F w) (ok : t.Ok) : Calls Try.prog 32 #[.pointer (some ⟨m, 0, none⟩)] w fun e w' => e = .returned (.int .u64 (t.has.sum + t.kept)) ∧ w' = w := by
  obtain ⟨Ah, ch, An, cn, c0, c1, c2, hm, hr, hn⟩ := tillX_cells h
  have hf := ok.few
  have htot := ok.tot
  have hk0 := ok.k0
  have hus := ok.h
  have HR := Lib.hid hr
  clear hr hn h
  go_enter Try.func32, Try.ntmps32
  go_wp2
  go_loop [3, 4] (AllRel t) (fun _ i => t.has.length - (intOf i).toNat)
  case atStart => exact ⟨0, Nat.zero_le _, rfl, by simp⟩
  case round =>
    obtain ⟨k, hk, rfl, rfl⟩ := hrel
    by_cases hlt : k < t.has.length
    · obtain ⟨g, hg, hc, hfz, hglt⟩ := row_at HR.out hlt
      have hci := hc _ (words_at hlt)
      subst hg
      have hu := hus.getD hlt
      have h1 := take_sum_le (k + 1) hus
      have h2 := take_sum_le k hus
      have hts : (t.has.take (k + 1)).sum = (t.has.take k).sum + t.has.getD k 0 := by rw [take_snoc' hlt, List.sum_append]; simp
      obtain ⟨x, hx⟩ : ∃ x, t.has.getD k 0 = x := ⟨_, rfl⟩
      rw [hx] at hci hu hts
      have HX := Lib.hid hts
      rw [hts] at h1
      have hw := wrap_u (n := t.kept + (t.has.take k).sum + x) (by omega) (by omega)
      have HC := Lib.hid hc
      clear hx hc hts
      go_wp2
      go_round
      case rel => exact ⟨k + 1, by omega, by go_num, by rw [HX.out, Int.add_assoc]⟩
      case measure => (simp [intOf]; try omega)
    · obtain rfl : k = t.has.length := by omega
      go_wp2
      go_ret
      rw [Int.add_comm t.has.sum t.kept]
      exact ⟨rfl, rfl⟩
end Go.Proofs.Ytmcfmabnggffjaa
