/- Walks over the till's calls: Move. -/
import Derived.Test.YtmcfmabnggffjaaTillKeep
namespace Go.Proofs.Ytmcfmabnggffjaa
set_option linter.unusedVariables false
set_option linter.unusedSimpArgs false
set_option linter.unnecessarySimpa false
open Go.RowKit

theorem keep_inB {t : Tl} {a n b : Int} : (keepS t a n).inB b ↔ t.inB b := by
  unfold keepS; split <;> simp [Tl.inB]
theorem move_both {t : Tl} {a b n : Int} (ha : t.inB a) (hb : t.inB b) : moveE t a b n = keepE t a n := by
  unfold moveE keepE; rw [if_pos ⟨ha, hb⟩, if_pos ha]
theorem move_not {t : Tl} {a b n : Int} (h : ¬ (t.inB a ∧ t.inB b)) : moveE t a b n = 1 ∧ moveS t a b n = t := by
  have h1 : moveE t a b n = 1 := by unfold moveE; rw [if_neg h]
  refine ⟨h1, ?_⟩
  unfold moveS; rw [h1]; rfl
theorem keep_fell {t : Tl} {a n : Int} (h : keepE t a n ≠ 0) : keepS t a n = t := by
  unfold keepS; rw [if_neg h]
theorem keep_cases (t : Tl) (a n : Int) (ha : t.inB a) : keepE t a n = 12 ∨ keepE t a n = 0 := by
  unfold keepE; rw [if_pos ha]; split <;> simp
theorem give_after {t : Tl} {a b n : Int} (k0 : 0 ≤ t.kept) (hk : keepE t a n = 0) (hb : t.inB b) (hn : 0 ≤ n) : giveE (keepS t a n) b n = 0 := by
  unfold giveE; rw [if_pos (keep_inB.2 hb), if_neg]
  unfold keepS; rw [if_pos hk]; simp only; omega
theorem move_ok {t : Tl} {i j : Nat} {n x : Int} (hi : i < t.has.length) (hj : j < t.has.length) (hx : t.has.getD i 0 = x) (hn : ¬ x < n) (k0 : 0 ≤ t.kept) (n0 : 0 ≤ n) :
    moveE t i j n = 0 ∧ moveS t i j n = { t with has := (t.has.set i (x - n)).set j ((t.has.set i (x - n)).getD j 0 + n) } := by
  have ha : t.inB i := ⟨by omega, by omega⟩
  have hb : t.inB j := ⟨by omega, by omega⟩
  have hk : keepE t i n = 0 := by unfold keepE; rw [if_pos ha, Int.toNat_natCast, hx, if_neg hn]
  have h1 : moveE t i j n = 0 := (move_both ha hb).trans hk
  refine ⟨h1, ?_⟩
  unfold moveS; rw [if_pos h1]
  unfold giveS; rw [if_pos (give_after k0 hk hb n0)]
  have hs : keepS t i n = { t with has := t.has.set i (x - n), kept := t.kept + n } := by unfold keepS; rw [if_pos hk, Int.toNat_natCast, hx]
  rw [hs]
  simp only [Int.toNat_natCast, Int.add_sub_cancel]
set_option maxRecDepth 100000 in
set_option maxHeartbeats 1000000 in
theorem move_any (w : World) (m : Nat) (t : Tl) (ok : t.Ok) (a b n : Int) (hn : U64 n) (F : Nat → Prop) (h : (tillX 54 m t).sat F w) : Calls Try.prog 12 #[.pointer (some ⟨m, 0, none⟩), .int .i64 a, .int .i64 b, .int .u64 n] w fun e w' => e = .returned (.int .i64 (moveE t a b n)) ∧ ∃ F', (tillX 54 m (moveS t a b n)).sat F' w' ∧ Moves F F' w w' := by
  have HA := Lib.hid (in_any w m t F h a)
  have HB := Lib.hid (in_any w m t F h b)
  have HK := Lib.hid (keep_any w m t ok a n hn F h)
  have hg1 := fun w1 F1 h1 => give_any w1 m (keepS t a n) (ok.keep a n hn.1).1 b n hn F1 h1
  have HG := Lib.hid hg1
  clear hg1
  have H := Lib.hid h
  clear h
  rcases (show t.inB a ∨ ¬ t.inB a from Decidable.em _) with ha | ha
  rotate_left 1
  · rw [(move_not (b := b) (n := n) (fun x => ha x.1)).1, (move_not (b := b) (n := n) (fun x => ha x.1)).2]
    rw [show inE t a = 1 from if_neg ha] at HA
    clear ha HB HK HG
    go_enter Try.func12, Try.ntmps12
    go_wp2_with fail
    refine HA.out.mono ?_
    rintro e w1 ⟨rfl, rfl⟩
    go_wp2
    go_ret
    exact ⟨rfl, _, H.out, Moves.refl _ _⟩
  rw [show inE t a = 0 from if_pos ha] at HA
  rcases (show t.inB b ∨ ¬ t.inB b from Decidable.em _) with hb | hb
  rotate_left 1
  · rw [(move_not (a := a) (n := n) (fun x => hb x.2)).1, (move_not (a := a) (n := n) (fun x => hb x.2)).2]
    rw [show inE t b = 1 from if_neg hb] at HB
    clear hb ha HK HG
    go_enter Try.func12, Try.ntmps12
    go_wp2_with fail
    refine HA.out.mono ?_
    rintro e w1 ⟨rfl, rfl⟩
    go_wp2_with fail
    refine HB.out.mono ?_
    rintro e w1 ⟨rfl, rfl⟩
    go_wp2
    go_ret
    exact ⟨rfl, _, H.out, Moves.refl _ _⟩
  rw [show inE t b = 0 from if_pos hb] at HB
  rcases keep_cases t a n ha with hk | hk
  · have e1 : moveE t a b n = 12 := (move_both ha hb).trans hk
    have s1 : moveS t a b n = t := by unfold moveS; rw [e1]; rfl
    rw [e1, s1]
    rw [hk, keep_fell (t := t) (a := a) (n := n) (by rw [hk]; decide)] at HK
    clear e1 s1 hk ha hb HG
    go_enter Try.func12, Try.ntmps12
    go_wp2_with fail
    refine HA.out.mono ?_
    rintro e w1 ⟨rfl, rfl⟩
    go_wp2_with fail
    refine HB.out.mono ?_
    rintro e w1 ⟨rfl, rfl⟩
    go_wp2_with fail
    refine HK.out.mono ?_
    rintro e w2 ⟨rfl, hp⟩
    have HP := Lib.hid hp
    clear hp
    go_wp2
    go_ret
    exact ⟨rfl, HP.out⟩
  · have e1 : moveE t a b n = 0 := (move_both ha hb).trans hk
    have s1 : moveS t a b n = giveS (keepS t a n) b n := by unfold moveS; rw [if_pos e1]
    have hg0 := give_after ok.k0 hk hb hn.1
    rw [e1, s1]
    rw [hk] at HK
    rw [hg0] at HG
    clear e1 s1 hk ha hb hg0
    go_enter Try.func12, Try.ntmps12
    go_wp2_with fail
    refine HA.out.mono ?_
    rintro e w1 ⟨rfl, rfl⟩
    go_wp2_with fail
    refine HB.out.mono ?_
    rintro e w1 ⟨rfl, rfl⟩
    go_wp2_with fail
    refine HK.out.mono ?_
    rintro e w2 ⟨rfl, F2, h2, mv2⟩
    have H2 := Lib.hid h2
    have M2 := Lib.hid mv2
    clear h2 mv2
    go_wp2_with fail
    refine (HG.out _ _ H2.out).mono ?_
    rintro e w3 ⟨rfl, F3, h3, mv3⟩
    have H3 := Lib.hid h3
    have M3 := Lib.hid mv3
    clear h3 mv3
    go_wp2
    go_ret
    exact ⟨rfl, F3, H3.out, M2.out.trans M3.out⟩
set_option maxRecDepth 100000 in
set_option maxHeartbeats 1000000 in
theorem rmove_any (w : World) (m : Nat) (t : Tl) (ok : t.Ok) (a b n : Int) (hn : U64 n) (F : Nat → Prop) (h : (tillX 59 m t).sat F w) : Calls Try.prog 23 #[.pointer (some ⟨m, 0, none⟩), .int .i64 a, .int .i64 b, .int .u64 n] w fun e w' => e = .returned (.int .i64 (moveE t a b n)) ∧ ∃ F', (tillX 59 m (moveS t a b n)).sat F' w' ∧ Moves F F' w w' := by
  have HA := Lib.hid (rin_any w m t F h a)
  have HB := Lib.hid (rin_any w m t F h b)
  obtain ⟨Ah, ch, An, cn, hS⟩ := tillX_open (Sat.ofOne h)
  dsimp only [List.cons_append, List.nil_append] at hS
  have hk := hS.all
  simp only [allFacts, tillB, wRow, box_facts, row_facts, emp_facts, cellFacts, Nat.zero_add, Nat.reduceAdd, true_and, and_true] at hk
  have H := Lib.hid h
  clear h
  rcases (show t.inB a ∨ ¬ t.inB a from Decidable.em _) with ha | ha
  rotate_left 1
  · rw [(move_not (b := b) (n := n) (fun x => ha x.1)).1, (move_not (b := b) (n := n) (fun x => ha x.1)).2]
    rw [show decide (t.inB a) = false from by simp [ha]] at HA
    clear ha HB
    go_enter Try.func23, Try.ntmps23
    go_wp2_with fail
    refine HA.out.mono ?_
    rintro e w1 ⟨rfl, rfl⟩
    go_wp2
    go_ret
    exact ⟨rfl, _, H.out, Moves.refl _ _⟩
  rw [show decide (t.inB a) = true from by simp [ha]] at HA
  rcases (show t.inB b ∨ ¬ t.inB b from Decidable.em _) with hb | hb
  rotate_left 1
  · rw [(move_not (a := a) (n := n) (fun x => hb x.2)).1, (move_not (a := a) (n := n) (fun x => hb x.2)).2]
    rw [show decide (t.inB b) = false from by simp [hb]] at HB
    clear hb ha
    go_enter Try.func23, Try.ntmps23
    go_wp2_with fail
    refine HA.out.mono ?_
    rintro e w1 ⟨rfl, rfl⟩
    go_wp2_with fail
    refine HB.out.mono ?_
    rintro e w1 ⟨rfl, rfl⟩
    go_wp2
    go_ret
    exact ⟨rfl, _, H.out, Moves.refl _ _⟩
  rw [show decide (t.inB b) = true from by simp [hb]] at HB
  have hmb := move_both (n := n) ha hb
  obtain ⟨i, rfl, hil⟩ := Tl.inB_nat ha
  obtain ⟨j, rfl, hjl⟩ := Tl.inB_nat hb
  have hl := ok.few
  have hln := ok.len
  obtain ⟨g, hg, hc, hfz, hglt⟩ := row_at (hS.rowOf (i := 2) rfl) (j := i) (by omega)
  have hci := hc _ (words_at (by omega))
  subst hg
  have hu := ok.h.getD hil
  obtain ⟨x, hx⟩ : ∃ x, t.has.getD i 0 = x := ⟨_, rfl⟩
  rw [hx] at hci hu
  have hk0 := ok.k0
  have htot := ok.tot
  have hle := getD_le_sum ok.h hil
  rw [hx] at hle
  have hsn := sum_nonneg ok.h
  obtain ⟨n0, n1⟩ := hn
  have hgm := row_ne_box hS (i := 0) (j := 2) rfl rfl (by decide)
  rcases (show x < n ∨ ¬ x < n by omega) with hc1 | hc1
  · have e1 : moveE t i j n = 12 := by rw [hmb]; unfold keepE; rw [if_pos ha, Int.toNat_natCast, hx, if_pos hc1]
    have s1 : moveS t i j n = t := by unfold moveS; rw [e1]; rfl
    rw [e1, s1]
    clear e1 s1 hmb ha hb hx hc
    go_enter Try.func23, Try.ntmps23
    go_wp2_with fail
    refine HA.out.mono ?_
    rintro e w1 ⟨rfl, rfl⟩
    go_wp2_with fail
    refine HB.out.mono ?_
    rintro e w1 ⟨rfl, rfl⟩
    go_wp2
    go_ret
    exact ⟨rfl, _, H.out, Moves.refl _ _⟩
  · obtain ⟨e1, s1⟩ := move_ok hil hjl hx hc1 hk0 n0
    rw [e1, s1]
    clear e1 s1 hmb ha hb hc
    have h5 := hS.drew.setRow 2 rfl i (by rw [words_len]; exact hil) (.int .u64 (x - n))
    rw [words_set] at h5
    have hsum := sum_set (b := x - n) hil
    have hus := ok.h.set (i := i) (b := x - n) ⟨by omega, by omega⟩
    have hsl : (t.has.set i (x - n)).length = t.has.length := List.length_set
    obtain ⟨hs, hhs⟩ : ∃ hs, t.has.set i (x - n) = hs := ⟨_, rfl⟩
    rw [hhs] at h5 hsum hus hsl
    rw [hx] at hsum
    rw [hhs]
    skip
    have hjl2 : j < hs.length := by omega
    have hle5 := getD_le_sum hus hjl2
    have hu5 := hus.getD hjl2
    obtain ⟨y, hy⟩ : ∃ y, hs.getD j 0 = y := ⟨_, rfl⟩
    rw [hy] at hle5 hu5
    rw [hy]
    have ew1 := wrap_u (n := x - n) (by omega) (by omega)
    have ew2 := wrap_u (n := y + n) (by omega) (by omega)
    have hS5 : Sat w (w.drew.setCell ⟨g, i, none⟩ (.int .u64 (x - n))) (tillB 59 m ⟨hs, t.next, t.kept⟩ (some ⟨g, 0, none⟩) ch An cn :: [rest w fun k => k < w.heap.size ∧ ¬F k] ++ [wRow (some ⟨g, 0, none⟩) ch hs, wRow An cn t.next]) := by unfold wRow at *; unfold tillB at *; simpa [hsl] using h5
    dsimp only [List.cons_append, List.nil_append] at hS5
    have HS5 := Lib.hid hS5
    clear hS5 h5 hS hhs hsum hus hx
    go_enter Try.func23, Try.ntmps23
    go_wp2_with fail
    refine HA.out.mono ?_
    rintro e w1 ⟨rfl, rfl⟩
    go_wp2_with fail
    refine HB.out.mono ?_
    rintro e w1 ⟨rfl, rfl⟩
    go_wp2_with fail
    refine region_chain (E := [15]) (kn := [true, true, true, true, true, true, true, true, true, true, true, true, true, true, true, false]) (mask := [true, true, true, true, true, true, true, true, true, true, true, true, true, true, true, false]) (vs := [?vr0_0, ?vr0_1, ?vr0_2, ?vr0_3, ?vr0_4, ?vr0_5, ?vr0_6, ?vr0_7, ?vr0_8, ?vr0_9, ?vr0_10, ?vr0_11, ?vr0_12, ?vr0_13, ?vr0_14, undef]) (S := fun w' => w' = w1.drew) (by kernel_rfl) (by kernel_rfl) (by kernel_rfl) (by kernel_rfl) (by kernel_rfl) ?hSr ?hchr
    case hSr => exact rfl
    case hchr =>
      refine chain_cons _ (by kernel_rfl) rfl rfl ?opsr0 ?wantr0 ?effr0
      case opsr0 =>
        simp only [OpsAt, fillT, List.setIfInBounds_toArray, List.set_cons_zero, List.set_cons_succ]
        refine ⟨.inl ⟨by rfl, opOk_pure fun wS hS => ?_⟩, ?_⟩
        · ((subst hS; go_simp)); try (with_reducible rfl)
        refine ⟨.inl ⟨by rfl, opOk_pure fun wS hS => ?_⟩, ?_⟩
        · ((subst hS; go_simp)); try (with_reducible rfl)
        refine ⟨.inl ⟨by rfl, opOk_pure fun wS hS => ?_⟩, ?_⟩
        · ((subst hS; go_simp)); try (with_reducible rfl)
        refine ⟨.inl ⟨by rfl, opOk_pure fun wS hS => ?_⟩, ?_⟩
        · ((subst hS; go_simp)); try (with_reducible rfl)
        refine ⟨.inl ⟨by rfl, opOk_pure fun wS hS => ?_⟩, ?_⟩
        · ((subst hS; go_simp)); try (with_reducible rfl)
        refine ⟨.inl ⟨by rfl, opOk_pure fun wS hS => ?_⟩, ?_⟩
        · ((subst hS; go_simp)); try (with_reducible rfl)
        refine ⟨.inl ⟨by rfl, opOk_pure fun wS hS => ?_⟩, ?_⟩
        · ((subst hS; go_simp)); try (with_reducible rfl)
        refine ⟨.inl ⟨by rfl, opOk_pure fun wS hS => ?_⟩, ?_⟩
        · ((subst hS; go_simp)); try (with_reducible rfl)
        refine ⟨.inl ⟨by rfl, opOk_pure fun wS hS => ?_⟩, ?_⟩
        · ((subst hS; go_simp)); try (with_reducible rfl)
        refine ⟨.inl ⟨by rfl, opOk_pure fun wS hS => ?_⟩, ?_⟩
        · ((subst hS; go_simp)); try (with_reducible rfl)
        refine ⟨.inl ⟨by rfl, opOk_pure fun wS hS => ?_⟩, ?_⟩
        · ((subst hS; go_simp)); try (with_reducible rfl)
        refine ⟨.inl ⟨by rfl, opOk_pure fun wS hS => ?_⟩, ?_⟩
        · ((subst hS; go_simp)); try (with_reducible rfl)
        refine ⟨.inl ⟨by rfl, opOk_pure fun wS hS => ?_⟩, ?_⟩
        · ((subst hS; go_simp)); try (with_reducible rfl)
        refine ⟨.inl ⟨by rfl, opOk_pure fun wS hS => ?_⟩, ?_⟩
        · ((subst hS; go_simp)); try (with_reducible rfl)
        refine ⟨.inl ⟨by rfl, opOk_pure fun wS hS => ?_⟩, ?_⟩
        · ((subst hS; go_simp)); try (with_reducible rfl)
        try trivial
      case wantr0 => rfl
      case effr0 =>
        intro wS hS
        simp only [fillT, List.setIfInBounds_toArray, List.set_cons_zero, List.set_cons_succ]
        rw [hS]
        refine eff_skip (w' := (w1.drew).setCell ⟨g, i, none⟩ (.int .u64 (x - n))) ?run ?pp
        case run => go_simp
        case pp =>
          refine ⟨_, [true, true, true, true, true, true, true, true, true, true, true, true, true, true, true, true], [false, false, false, false, false, false, false, false, false, false, false, false, false, false, false, false], [14, 13, 0, 1, 2, 3, 4, 5, 6, 7, 8, 9, 10, 11, 12], [?vr1_0, ?vr1_1, ?vr1_2, ?vr1_3, ?vr1_4, ?vr1_5, ?vr1_6, ?vr1_7, ?vr1_8, ?vr1_9, ?vr1_10, ?vr1_11, ?vr1_12, ?vr1_13, ?vr1_14, undef], fun w' => w' = (w1.drew).setCell ⟨g, i, none⟩ (.int .u64 (x - n)), rfl, rfl, ?samer0, by kernel_rfl, ?hSr0, ?nxr0⟩
          case samer0 =>
            refine And.intro ?_ ?_
            · with_reducible rfl
            refine And.intro ?_ ?_
            · with_reducible rfl
            refine And.intro ?_ ?_
            · with_reducible rfl
            refine And.intro ?_ ?_
            · with_reducible rfl
            refine And.intro ?_ ?_
            · with_reducible rfl
            refine And.intro ?_ ?_
            · with_reducible rfl
            refine And.intro ?_ ?_
            · with_reducible rfl
            refine And.intro ?_ ?_
            · with_reducible rfl
            refine And.intro ?_ ?_
            · with_reducible rfl
            refine And.intro ?_ ?_
            · with_reducible rfl
            refine And.intro ?_ ?_
            · with_reducible rfl
            refine And.intro ?_ ?_
            · with_reducible rfl
            refine And.intro ?_ ?_
            · with_reducible rfl
            refine And.intro ?_ ?_
            · with_reducible rfl
            refine And.intro ?_ ?_
            · with_reducible rfl
            trivial
          case hSr0 => rfl
          case nxr0 =>
            refine chain_nil (by kernel_rfl) rfl ?opsr1 ?endr1
            case opsr1 =>
              simp only [OpsAt, fillT, List.setIfInBounds_toArray, List.set_cons_zero, List.set_cons_succ]
              try trivial
            case endr1 =>
              intro wE hE
              simp only [fillT, List.setIfInBounds_toArray, List.set_cons_zero, List.set_cons_succ]
              have hS5 := HS5.out
              rw [← hE] at hS5
              clear hE HS5 hci hk hgm
              have hk5 := hS5.all
              simp only [allFacts, tillB, wRow, box_facts, row_facts, emp_facts, cellFacts, Nat.zero_add, Nat.reduceAdd, true_and, and_true] at hk5
              obtain ⟨g5, hg5, hc5, hfz5, hglt5⟩ := row_at (hS5.rowOf (i := 2) rfl) (j := j) (by omega)
              have hcj := hc5 _ (words_at (by omega))
              injection hg5 with hg5
              injection hg5 with hg5
              subst hg5
              rw [hy] at hcj
              clear hc5
              have hfin := tillX_shut (t := { t with has := hs.set j (y + n) }) (l := [_]) (by have := hS5.drew.setRow 2 rfl j (by rw [words_len]; omega) (.int .u64 (y + n)); rw [words_set] at this; unfold wRow at *; unfold tillB at *; simpa using this)
              have HFN := Lib.hid hfin
              clear hfin
              have HSat := Lib.hid hS5
              clear hS5 hy
              go_wp2_with fail
              refine region_chain (E := [15]) (kn := [true, true, true, true, true, true, true, true, true, true, true, true, true, true, true, false]) (mask := [true, true, true, true, true, true, true, true, true, true, true, true, true, true, true, false]) (vs := [?vq0_0, ?vq0_1, ?vq0_2, ?vq0_3, ?vq0_4, ?vq0_5, ?vq0_6, ?vq0_7, ?vq0_8, ?vq0_9, ?vq0_10, ?vq0_11, ?vq0_12, ?vq0_13, ?vq0_14, undef]) (S := fun w' => w' = wE.drew) (by kernel_rfl) (by kernel_rfl) (by kernel_rfl) (by kernel_rfl) (by kernel_rfl) ?hSq ?hchq
              case hSq => exact rfl
              case hchq =>
                refine chain_cons _ (by kernel_rfl) rfl rfl ?opsq0 ?wantq0 ?effq0
                case opsq0 =>
                  simp only [OpsAt, fillT, List.setIfInBounds_toArray, List.set_cons_zero, List.set_cons_succ]
                  refine ⟨.inl ⟨by rfl, opOk_pure fun wS hS => ?_⟩, ?_⟩
                  · ((subst hS; go_simp)); try (with_reducible rfl)
                  refine ⟨.inl ⟨by rfl, opOk_pure fun wS hS => ?_⟩, ?_⟩
                  · ((subst hS; go_simp)); try (with_reducible rfl)
                  refine ⟨.inl ⟨by rfl, opOk_pure fun wS hS => ?_⟩, ?_⟩
                  · ((subst hS; go_simp)); try (with_reducible rfl)
                  refine ⟨.inl ⟨by rfl, opOk_pure fun wS hS => ?_⟩, ?_⟩
                  · ((subst hS; go_simp)); try (with_reducible rfl)
                  refine ⟨.inl ⟨by rfl, opOk_pure fun wS hS => ?_⟩, ?_⟩
                  · ((subst hS; go_simp)); try (with_reducible rfl)
                  refine ⟨.inl ⟨by rfl, opOk_pure fun wS hS => ?_⟩, ?_⟩
                  · ((subst hS; go_simp)); try (with_reducible rfl)
                  refine ⟨.inl ⟨by rfl, opOk_pure fun wS hS => ?_⟩, ?_⟩
                  · ((subst hS; go_simp)); try (with_reducible rfl)
                  refine ⟨.inl ⟨by rfl, opOk_pure fun wS hS => ?_⟩, ?_⟩
                  · ((subst hS; go_simp)); try (with_reducible rfl)
                  refine ⟨.inl ⟨by rfl, opOk_pure fun wS hS => ?_⟩, ?_⟩
                  · ((subst hS; go_simp)); try (with_reducible rfl)
                  refine ⟨.inl ⟨by rfl, opOk_pure fun wS hS => ?_⟩, ?_⟩
                  · ((subst hS; go_simp)); try (with_reducible rfl)
                  refine ⟨.inl ⟨by rfl, opOk_pure fun wS hS => ?_⟩, ?_⟩
                  · ((subst hS; go_simp)); try (with_reducible rfl)
                  refine ⟨.inl ⟨by rfl, opOk_pure fun wS hS => ?_⟩, ?_⟩
                  · ((subst hS; go_simp)); try (with_reducible rfl)
                  refine ⟨.inl ⟨by rfl, opOk_pure fun wS hS => ?_⟩, ?_⟩
                  · ((subst hS; go_simp)); try (with_reducible rfl)
                  refine ⟨.inl ⟨by rfl, opOk_pure fun wS hS => ?_⟩, ?_⟩
                  · ((subst hS; go_simp)); try (with_reducible rfl)
                  refine ⟨.inl ⟨by rfl, opOk_pure fun wS hS => ?_⟩, ?_⟩
                  · ((subst hS; go_simp)); try (with_reducible rfl)
                  try trivial
                case wantq0 => rfl
                case effq0 =>
                  intro wS hS
                  simp only [fillT, List.setIfInBounds_toArray, List.set_cons_zero, List.set_cons_succ]
                  rw [hS]
                  refine eff_skip (w' := (wE.drew).setCell ⟨g, j, none⟩ (.int .u64 (y + n))) ?run ?pp
                  case run => go_simp
                  case pp =>
                    refine ⟨_, [true, true, true, true, true, true, true, true, true, true, true, true, true, true, true, true], [false, false, false, false, false, false, false, false, false, false, false, false, false, false, false, false], [14, 13, 0, 1, 2, 3, 4, 5, 6, 7, 8, 9, 10, 11, 12], [?vq1_0, ?vq1_1, ?vq1_2, ?vq1_3, ?vq1_4, ?vq1_5, ?vq1_6, ?vq1_7, ?vq1_8, ?vq1_9, ?vq1_10, ?vq1_11, ?vq1_12, ?vq1_13, ?vq1_14, undef], fun w' => w' = (wE.drew).setCell ⟨g, j, none⟩ (.int .u64 (y + n)), rfl, rfl, ?sameq0, by kernel_rfl, ?hSq0, ?nxq0⟩
                    case sameq0 =>
                      refine And.intro ?_ ?_
                      · with_reducible rfl
                      refine And.intro ?_ ?_
                      · with_reducible rfl
                      refine And.intro ?_ ?_
                      · with_reducible rfl
                      refine And.intro ?_ ?_
                      · with_reducible rfl
                      refine And.intro ?_ ?_
                      · with_reducible rfl
                      refine And.intro ?_ ?_
                      · with_reducible rfl
                      refine And.intro ?_ ?_
                      · with_reducible rfl
                      refine And.intro ?_ ?_
                      · with_reducible rfl
                      refine And.intro ?_ ?_
                      · with_reducible rfl
                      refine And.intro ?_ ?_
                      · with_reducible rfl
                      refine And.intro ?_ ?_
                      · with_reducible rfl
                      refine And.intro ?_ ?_
                      · with_reducible rfl
                      refine And.intro ?_ ?_
                      · with_reducible rfl
                      refine And.intro ?_ ?_
                      · with_reducible rfl
                      refine And.intro ?_ ?_
                      · with_reducible rfl
                      trivial
                    case hSq0 => rfl
                    case nxq0 =>
                      refine chain_nil (by kernel_rfl) rfl ?opsq1 ?endq1
                      case opsq1 =>
                        simp only [OpsAt, fillT, List.setIfInBounds_toArray, List.set_cons_zero, List.set_cons_succ]
                        try trivial
                      case endq1 =>
                        intro wE hE
                        simp only [fillT, List.setIfInBounds_toArray, List.set_cons_zero, List.set_cons_succ]
                        rw [hE]
                        go_wp2
                        go_ret
                        exact ⟨rfl, HFN.out.toMoves⟩
end Go.Proofs.Ytmcfmabnggffjaa
