/- Walk over the law ChartNear. -/
import Derived.Test.YtpmjigghboifdaaGot
import Derived.Test.YtpmjigghboifdaaAwake
namespace Go.Proofs.Ytpmjigghboifdaa
open Go.RowKit Fl

theorem sgn_neg (s : Int) : sgnI (-s) = - sgnI s := by
  unfold sgnI
  by_cases h1 : 0 < s
  · rw [if_neg (by omega), if_pos (by omega), if_pos h1]
  · by_cases h2 : s < 0
    · rw [if_pos (by omega), if_neg h1, if_pos h2]; rfl
    · rw [if_neg (by omega), if_neg (by omega), if_neg h1, if_neg h2]; rfl
theorem side_swap (a b c d e f : Int) : sideI a b c d e f = - sideI c d a b e f := by
  unfold sideI
  rw [Bool.and_comm (inB a b) (inB c d)]
  split
  · rw [← sgn_neg]
    congr 1
    simp only [Int.sub_mul, Int.mul_sub, Int.mul_comm]
    omega
  · rfl
theorem side_bd (a b c d e f : Int) : -1 ≤ sideI a b c d e f ∧ sideI a b c d e f ≤ 1 := by
  unfold sideI sgnI
  repeat' split
  all_goals omega
/-- The nearest of the first k is as near as each of them. -/
theorem nb_least (t : Int × Int) (L : List (Int × Int)) : ∀ k j, j < k → 0 ≤ farAt t L j → 0 ≤ nb t L k ∧ farAt t L (nb t L k).toNat ≤ farAt t L j
  | 0, j, h, _ => by omega
  | k + 1, j, h, h0 => by
    have ih := nb_least t L k
    have hb := nb_bd t L k
    have e : nb t L (k + 1) = if 0 ≤ farAt t L k ∧ (nb t L k < 0 ∨ farAt t L k < farAt t L (nb t L k).toNat) then (k : Int) else nb t L k := rfl
    rw [e]
    split
    · rename_i hc
      obtain ⟨c1, c2⟩ := hc
      refine ⟨by omega, ?_⟩
      simp only [Int.toNat_natCast]
      by_cases hjk : j = k
      · subst hjk; exact Int.le_refl _
      · have := ih j (by omega) h0
        rcases c2 with c2 | c2 <;> omega
    · rename_i hc
      by_cases hjk : j = k
      · subst hjk
        have h1 : ¬ (nb t L j < 0 ∨ farAt t L j < farAt t L (nb t L j).toNat) := fun h' => hc ⟨h0, h'⟩
        exact ⟨by omega, by omega⟩
      · exact ih j (by omega) h0

set_option maxRecDepth 100000 in
set_option maxHeartbeats 4000000 in
theorem nearlaw_any (x0 z0 x1 z1 x2 z2 : Int) (L : List (Int × Int)) (A : Option Addr) (c : Nat) (w : World) (hr : RowOf w A L) :
    Calls Try.prog 8 #[.agg #[.int .i64 x0, .int .i64 z0], .agg #[.int .i64 x1, .int .i64 z1], .agg #[.int .i64 x2, .int .i64 z2], .slice A L.length c] w fun e w' =>
    e = .returned (.bool true) ∧ Below w.heap.size w w' := by
  obtain ⟨i0, hi, hz0, hz1, hz2⟩ := info_parts info_spot
  have hK0 : Known w [(w.heap.size, x0, z0), (w.heap.size + 1, x1, z1), (w.heap.size + 1 + 1, x2, z2)] (((w.alloc (.cells #[.int .i64 x0, .int .i64 z0] 29)).alloc (.cells #[.int .i64 x1, .int .i64 z1] 29)).alloc (.cells #[.int .i64 x2, .int .i64 z2] 29)) := by
    have h := ((((Known.nil w).add x0 z0 29).add x1 z1 29).add x2 z2 29)
    refine ⟨fun e he => h.1 e ?_, h.2⟩
    simp at he ⊢
    rcases he with he | he | he <;> simp [he]
  have HG0 := Lib.hid (show Got w [(w.heap.size, x0, z0), (w.heap.size + 1, x1, z1), (w.heap.size + 1 + 1, x2, z2)] (w.heap.size + 1 + 1 + 1) L (.slice none 0 0) 0 (((w.alloc (.cells #[.int .i64 x0, .int .i64 z0] 29)).alloc (.cells #[.int .i64 x1, .int .i64 z1] 29)).alloc (.cells #[.int .i64 x2, .int .i64 z2] 29)) from ⟨hK0, World.ownsRow_nil _ _ _ _, by simp⟩)
  clear hK0
  have HR := Lib.hid hr
  clear hr
  have HA := Lib.hid awake_any
  have hKs : ∀ e ∈ [(w.heap.size, x0, z0), (w.heap.size + 1, x1, z1), (w.heap.size + 1 + 1, x2, z2)], e.1 < (w.heap.size + 1 + 1 + 1) := by
    intro e he; simp at he; rcases he with rfl | rfl | rfl <;> (dsimp only; omega)
  have HKS := Lib.hid hKs
  clear hKs
  by_cases hlen : 200 < L.length
  · go_enter Try.func8, Try.ntmps8
    go_wp2_with fail
    refine (HA.out _).mono ?_
    rintro e w1 ⟨rfl, hb1⟩
    go_wp2
    go_ret
    exact ⟨rfl, HG0.out.1.2.trans (hb1.mono HG0.out.1.2.size)⟩
  go_enter Try.func8, Try.ntmps8
  go_wp2
  go_loopw [9, 22] (fun v i wr => ∃ k : Nat, k ≤ L.length ∧ i = .int .i64 k ∧ Got w [(w.heap.size, x0, z0), (w.heap.size + 1, x1, z1), (w.heap.size + 1 + 1, x2, z2)] (w.heap.size + 1 + 1 + 1) L v k wr) (fun _ i _ => L.length - (intOf i).toNat)
  case atStart => exact ⟨0, Nat.zero_le _, rfl, HG0.out⟩
  case round =>
    obtain ⟨k, hk, rfl, hg⟩ := hrel
    have HG := Lib.hid hg
    by_cases hlt : k < L.length
    · obtain ⟨b, off, rfl, hs⟩ := HR.out (by omega)
      obtain ⟨c1, c2⟩ := (hs.below hs.1 hg.1.2).2 k L[k] (List.getElem?_eq_getElem hlt)
      have HT := Lib.hid (To_any L[k].1 L[k].2)
      have HS := Lib.hid (fun v v' w1 w2 h1 h3 h4 => @Got.step w w1 w2 [(w.heap.size, x0, z0), (w.heap.size + 1, x1, z1), (w.heap.size + 1 + 1, x2, z2)] (w.heap.size + 1 + 1 + 1) L v v' k h1 HKS.out (by omega) hlt h3 h4)
      clear hs HR HKS hg
      generalize L[k].1 = x, L[k].2 = y at *
      go_wp2_with fail
      refine (HT.out _).mono ?_
      rintro e w1 ⟨rfl, hb1⟩
      have HG1 := Lib.hid ((HG.out.alloc _).keep hb1)
      clear hb1 c1 c2 HG
      go_wp2_with (first
        | (at_builtin; refine wpList_append_own _ rfl _ _ 45 rfl (w.heap.size + 1 + 1 + 1) 23 i0 (.agg #[.int .i64 0, .int .i64 0]) 2 16 Try.underlying45 hi hz0 hz1 hz2 rfl (by decide) _ _ _ rfl (HG1.out.2.1.alloc _) ⟨w1.heap.size, 0, none⟩ 1 1 [.int .i64 x, .int .i64 y] rfl rfl ?c1 ?c2 ?c3 ?c4 ?c5 ?_)
        | fail)
      case c1 =>
        intro j u hj
        match j, hj with
        | 0, hj => simp at hj; subst hj; simp [Addr.add]
        | 1, hj => simp at hj; subst hj; simp [Addr.add]
      case c2 => intro u hu; simp at hu; rcases hu with rfl | rfl <;> rfl
      case c3 => unfold maxLen; omega
      case c4 => omega
      case c5 => have := HG1.out.2.2; simp; omega
      · intro v' w2 hown' hgrow _
        have hN := HS.out _ v' _ w2 (HG1.out.alloc _) hown' hgrow
        have HN := Lib.hid hN
        clear hN hown' hgrow
        go_wp2
        go_roundw
        case rel => exact ⟨k + 1, by omega, by go_num, HN.out⟩
        case measure => simp [intOf]; omega
    · obtain rfl : k = L.length := by omega
      obtain ⟨A', c', rfl, hr'⟩ := hg.row rfl
      have hk := hg.1.facts
      simp only [List.forall_mem_cons] at hk
      have HS := Lib.hid (show Known w [(w.heap.size, x0, z0), (w.heap.size + 1, x1, z1), (w.heap.size + 1 + 1, x2, z2)] wr ∧ RowOf wr A' L from ⟨hg.1, hr'⟩)
      clear hr' hg HG HR HG0 HKS
      have HT0 := Lib.hid (To_any x0 z0)
      go_wp2_with fail
      refine (HT0.out _).mono ?_
      rintro e w1 ⟨rfl, hb1⟩
      have HS1 := Lib.hid (show Known w [(w.heap.size, x0, z0), (w.heap.size + 1, x1, z1), (w.heap.size + 1 + 1, x2, z2)] w1 ∧ RowOf w1 A' L from ⟨HS.out.1.keep hb1, HS.out.2.keep hb1⟩)
      clear hb1 hk HS
      go_wp2_with fail
      refine (near_any (x0, z0) L A' c' _ HS1.out.2 (by omega)).mono ?_
      rintro e w2 ⟨rfl, hb2⟩
      have HS2 := Lib.hid (show Known w [(w.heap.size, x0, z0), (w.heap.size + 1, x1, z1), (w.heap.size + 1 + 1, x2, z2)] w2 ∧ RowOf w2 A' L from ⟨HS1.out.1.keep hb2, HS1.out.2.keep hb2⟩)
      clear hb2 HS1
      have HB := Lib.hid (nb_bd (x0, z0) L L.length)
      have HL := Lib.hid (nb_least (x0, z0) L L.length)
      generalize nb (x0, z0) L L.length = q at *
      go_wp2
      go_loopw [38] (fun i wr => ∃ k : Nat, k ≤ L.length ∧ i = .int .i64 k ∧ Known w [(w.heap.size, x0, z0), (w.heap.size + 1, x1, z1), (w.heap.size + 1 + 1, x2, z2)] wr ∧ RowOf wr A' L) (fun i _ => L.length - (intOf i).toNat)
      case atStart => exact ⟨0, Nat.zero_le _, rfl, HS2.out⟩
      case round =>
        obtain ⟨k, hk, rfl, hg⟩ := hrel
        rename_i wr
        by_cases hlt : k < L.length
        · obtain ⟨b, off, rfl, hs⟩ := hg.2 (by omega)
          have hLk : L[k]? = some (L[k].1, L[k].2) := List.getElem?_eq_getElem hlt
          obtain ⟨c1, c2⟩ := hs.2 k _ hLk
          have hbw := hs.1
          have e1 : farAt (x0, z0) L k = farI x0 z0 L[k].1 L[k].2 := by
            unfold farAt
            rw [List.getD_eq_getElem?_getD, hLk]; rfl
          have HL1 := HL.out k hlt
          rw [e1] at HL1
          have HF := far_any x0 z0 L[k].1 L[k].2
          have HSa := side_any x1 z1 x2 z2 L[k].1 L[k].2
          have HSb := side_any x2 z2 x1 z1 L[k].1 L[k].2
          rw [side_swap] at HSa
          obtain ⟨s1, s2⟩ := side_bd x2 z2 x1 z1 L[k].1 L[k].2
          have HT1 := Lib.hid (To_any x1 z1)
          have HT2 := Lib.hid (To_any x2 z2)
          have HK0 := Lib.hid (show Known w [(w.heap.size, x0, z0), (w.heap.size + 1, x1, z1), (w.heap.size + 1 + 1, x2, z2)] wr ∧ SpotsAt wr b off L from ⟨hg.1, hs⟩)
          clear hs hg HL e1 HS2
          generalize L[k].1 = x, L[k].2 = y at *
          generalize farI x0 z0 x y = d at *
          generalize sideI x2 z2 x1 z1 x y = sd at *
          have hwr : IntKind.i64.wrap (-sd) = -sd := by rcases (show sd = -1 ∨ sd = 0 ∨ sd = 1 by omega) with rfl | rfl | rfl <;> rfl
          have HF := Lib.hid HF
          have HSa := Lib.hid HSa
          have HSb := Lib.hid HSb
          obtain ⟨qb1, qb2⟩ := HB.out
          go_wp2_with fail
          refine region_flow (S := fun w' => (Known w ((wr.heap.size, x, y) :: [(w.heap.size, x0, z0), (w.heap.size + 1, x1, z1), (w.heap.size + 1 + 1, x2, z2)]) w' ∧ SpotsAt w' b off L)) (vs := [?va0, ?va1, ?va2, ?va3, ?va4]) (by kernel_rfl) (by kernel_rfl) (by kernel_rfl) (by kernel_rfl) (by kernel_rfl) rfl ?hSa ?hopsa ?henda
          case hSa => exact ⟨(HK0.out.1.add x y 23).drew, HK0.out.2.below HK0.out.2.1 ((Below.refl _ _).alloc (Nat.le_refl _) _).drew⟩
          case hopsa =>
            simp only [OpsOk, fillT, List.setIfInBounds_toArray, List.set_cons_zero, List.set_cons_succ]
            refine ⟨.inl ⟨by rfl, opOk_pure fun wS hS => ?_⟩, ?_⟩
            · ((have hk := hS.1.facts; simp only [List.forall_mem_cons] at hk; go_simp)); try (with_reducible rfl)
            refine ⟨.inl ⟨by rfl, opOk_call (f := 11) (args := ?aa1) (fun wS hS => ?_) (fun wS hS => ?_)⟩, ?_⟩
            rotate_left 1
            · ((have hk := hS.1.facts; simp only [List.forall_mem_cons] at hk; go_simp)); try (with_reducible rfl)
            · refine (HT0.out _).mono ?_
              rintro e' w2 ⟨rfl, hb⟩
              refine ⟨?_, ⟨hS.1.keep hb, hS.2.below hS.2.1 hb⟩⟩
              rfl
            refine ⟨.inl ⟨by rfl, opOk_pure fun wS hS => ?_⟩, ?_⟩
            · ((have hk := hS.1.facts; simp only [List.forall_mem_cons] at hk; go_simp)); try (with_reducible rfl)
            refine ⟨.inl ⟨by rfl, opOk_call (f := 22) (args := ?aa3) (fun wS hS => ?_) (fun wS hS => ?_)⟩, ?_⟩
            rotate_left 1
            · ((have hk := hS.1.facts; simp only [List.forall_mem_cons] at hk; go_simp)); try (with_reducible rfl)
            · refine (HF.out _).mono ?_
              rintro e' w2 ⟨rfl, hb⟩
              refine ⟨?_, ⟨hS.1.keep hb, hS.2.below hS.2.1 hb⟩⟩
              rfl
            refine ⟨.inl ⟨by rfl, opOk_pure fun wS hS => ?_⟩, ?_⟩
            · ((have hk := hS.1.facts; simp only [List.forall_mem_cons] at hk; go_simp)); try (with_reducible rfl)
            trivial
          case henda =>
            intro wE hE
            simp only [OpsOk, fillT, List.setIfInBounds_toArray, List.set_cons_zero, List.set_cons_succ]
            go_wp2_with fail
            by_cases hd : 0 ≤ d
            · obtain ⟨q1, q2⟩ := HL1 hd
              clear HL1
              obtain ⟨j, rfl⟩ : ∃ j : Nat, q = j := ⟨q.toNat, by omega⟩
              have hjl : j < L.length := by omega
              have hLj : L[j]? = some (L[j].1, L[j].2) := List.getElem?_eq_getElem hjl
              have e2 : farAt (x0, z0) L (j : Int).toNat = farI x0 z0 L[j].1 L[j].2 := by
                unfold farAt
                rw [Int.toNat_natCast, List.getD_eq_getElem?_getD, hLj]; rfl
              rw [e2] at q2
              have HFj := far_any x0 z0 L[j].1 L[j].2
              clear e2
              generalize L[j].1 = x', L[j].2 = y' at *
              generalize farI x0 z0 x' y' = dj at *
              have HFj := Lib.hid HFj
              have dq1 : decide (L.length ≤ j) = false := decide_eq_false (by omega)
              have dq2 : decide ((L.length : Int) ≤ (j : Int)) = false := decide_eq_false (by omega)
              have dq3 : decide (d < dj) = false := decide_eq_false (by omega)
              refine region_flow (S := fun w' => (Known w ((wr.heap.size, x, y) :: [(w.heap.size, x0, z0), (w.heap.size + 1, x1, z1), (w.heap.size + 1 + 1, x2, z2)]) w' ∧ SpotsAt w' b off L)) (vs := [?vb0, ?vb1, ?vb2, ?vb3, ?vb4, ?vb5, ?vb6, ?vb7, ?vb8, ?vb9, ?vb10, ?vb11, ?vb12, ?vb13, ?vb14, ?vb15, ?vb16, ?vb17, ?vb18, ?vb19, ?vb20, ?vb21, ?vb22]) (by kernel_rfl) (by kernel_rfl) (by kernel_rfl) (by kernel_rfl) (by kernel_rfl) rfl ?hSb ?hopsb ?hendb
              case hSb => exact ⟨hE.1.drew, hE.2⟩
              case hopsb =>
                simp only [OpsOk, fillT, List.setIfInBounds_toArray, List.set_cons_zero, List.set_cons_succ]
                refine ⟨.inl ⟨by rfl, opOk_pure fun wS hS => ?_⟩, ?_⟩
                · ((have hk := hS.1.facts; simp only [List.forall_mem_cons] at hk; have hj := hS.2.2 _ _ hLj; have hbz := hS.2.1; go_simp; try simp only [dq1, dq2, dq3])); try (with_reducible rfl)
                refine ⟨.inl ⟨by rfl, opOk_pure fun wS hS => ?_⟩, ?_⟩
                · ((have hk := hS.1.facts; simp only [List.forall_mem_cons] at hk; have hj := hS.2.2 _ _ hLj; have hbz := hS.2.1; go_simp; try simp only [dq1, dq2, dq3])); try (with_reducible rfl)
                refine ⟨.inl ⟨by rfl, opOk_pure fun wS hS => ?_⟩, ?_⟩
                · ((have hk := hS.1.facts; simp only [List.forall_mem_cons] at hk; have hj := hS.2.2 _ _ hLj; have hbz := hS.2.1; go_simp; try simp only [dq1, dq2, dq3])); try (with_reducible rfl)
                refine ⟨.inl ⟨by rfl, opOk_pure fun wS hS => ?_⟩, ?_⟩
                · ((have hk := hS.1.facts; simp only [List.forall_mem_cons] at hk; have hj := hS.2.2 _ _ hLj; have hbz := hS.2.1; go_simp; try simp only [dq1, dq2, dq3])); try (with_reducible rfl)
                refine ⟨.inl ⟨by rfl, opOk_pure fun wS hS => ?_⟩, ?_⟩
                · ((have hk := hS.1.facts; simp only [List.forall_mem_cons] at hk; have hj := hS.2.2 _ _ hLj; have hbz := hS.2.1; go_simp; try simp only [dq1, dq2, dq3])); try (with_reducible rfl)
                refine ⟨.inl ⟨by rfl, opOk_pure fun wS hS => ?_⟩, ?_⟩
                · ((have hk := hS.1.facts; simp only [List.forall_mem_cons] at hk; have hj := hS.2.2 _ _ hLj; have hbz := hS.2.1; go_simp; try simp only [dq1, dq2, dq3])); try (with_reducible rfl)
                refine ⟨.inl ⟨by rfl, opOk_pure fun wS hS => ?_⟩, ?_⟩
                · ((have hk := hS.1.facts; simp only [List.forall_mem_cons] at hk; have hj := hS.2.2 _ _ hLj; have hbz := hS.2.1; go_simp; try simp only [dq1, dq2, dq3])); try (with_reducible rfl)
                refine ⟨.inl ⟨by rfl, opOk_pure fun wS hS => ?_⟩, ?_⟩
                · ((have hk := hS.1.facts; simp only [List.forall_mem_cons] at hk; have hj := hS.2.2 _ _ hLj; have hbz := hS.2.1; go_simp; try simp only [dq1, dq2, dq3])); try (with_reducible rfl)
                refine ⟨.inl ⟨by rfl, opOk_pure fun wS hS => ?_⟩, ?_⟩
                · ((have hk := hS.1.facts; simp only [List.forall_mem_cons] at hk; have hj := hS.2.2 _ _ hLj; have hbz := hS.2.1; go_simp; try simp only [dq1, dq2, dq3])); try (with_reducible rfl)
                refine ⟨.inl ⟨by rfl, opOk_pure fun wS hS => ?_⟩, ?_⟩
                · ((have hk := hS.1.facts; simp only [List.forall_mem_cons] at hk; have hj := hS.2.2 _ _ hLj; have hbz := hS.2.1; go_simp; try simp only [dq1, dq2, dq3])); try (with_reducible rfl)
                refine ⟨.inl ⟨by rfl, opOk_pure fun wS hS => ?_⟩, ?_⟩
                · ((have hk := hS.1.facts; simp only [List.forall_mem_cons] at hk; have hj := hS.2.2 _ _ hLj; have hbz := hS.2.1; go_simp; try simp only [dq1, dq2, dq3])); try (with_reducible rfl)
                refine ⟨.inl ⟨by rfl, opOk_pure fun wS hS => ?_⟩, ?_⟩
                · ((have hk := hS.1.facts; simp only [List.forall_mem_cons] at hk; have hj := hS.2.2 _ _ hLj; have hbz := hS.2.1; go_simp; try simp only [dq1, dq2, dq3])); try (with_reducible rfl)
                refine ⟨.inl ⟨by rfl, opOk_pure fun wS hS => ?_⟩, ?_⟩
                · ((have hk := hS.1.facts; simp only [List.forall_mem_cons] at hk; have hj := hS.2.2 _ _ hLj; have hbz := hS.2.1; go_simp; try simp only [dq1, dq2, dq3])); try (with_reducible rfl)
                refine ⟨.inl ⟨by rfl, opOk_call (f := 11) (args := ?ab13) (fun wS hS => ?_) (fun wS hS => ?_)⟩, ?_⟩
                rotate_left 1
                · ((have hk := hS.1.facts; simp only [List.forall_mem_cons] at hk; have hj := hS.2.2 _ _ hLj; have hbz := hS.2.1; go_simp; try simp only [dq1, dq2, dq3])); try (with_reducible rfl)
                · refine (HT0.out _).mono ?_
                  rintro e' w2 ⟨rfl, hb⟩
                  refine ⟨?_, ⟨hS.1.keep hb, hS.2.below hS.2.1 hb⟩⟩
                  rfl
                refine ⟨.inl ⟨by rfl, opOk_pure fun wS hS => ?_⟩, ?_⟩
                · ((have hk := hS.1.facts; simp only [List.forall_mem_cons] at hk; have hj := hS.2.2 _ _ hLj; have hbz := hS.2.1; go_simp; try simp only [dq1, dq2, dq3])); try (with_reducible rfl)
                refine ⟨.inl ⟨by rfl, opOk_pure fun wS hS => ?_⟩, ?_⟩
                · ((have hk := hS.1.facts; simp only [List.forall_mem_cons] at hk; have hj := hS.2.2 _ _ hLj; have hbz := hS.2.1; go_simp; try simp only [dq1, dq2, dq3])); try (with_reducible rfl)
                refine ⟨.inl ⟨by rfl, opOk_pure fun wS hS => ?_⟩, ?_⟩
                · ((have hk := hS.1.facts; simp only [List.forall_mem_cons] at hk; have hj := hS.2.2 _ _ hLj; have hbz := hS.2.1; go_simp; try simp only [dq1, dq2, dq3])); try (with_reducible rfl)
                refine ⟨.inl ⟨by rfl, opOk_pure fun wS hS => ?_⟩, ?_⟩
                · ((have hk := hS.1.facts; simp only [List.forall_mem_cons] at hk; have hj := hS.2.2 _ _ hLj; have hbz := hS.2.1; go_simp; try simp only [dq1, dq2, dq3])); try (with_reducible rfl)
                refine ⟨.inl ⟨by rfl, opOk_call (f := 22) (args := ?ab18) (fun wS hS => ?_) (fun wS hS => ?_)⟩, ?_⟩
                rotate_left 1
                · ((have hk := hS.1.facts; simp only [List.forall_mem_cons] at hk; have hj := hS.2.2 _ _ hLj; have hbz := hS.2.1; go_simp; try simp only [dq1, dq2, dq3])); try (with_reducible rfl)
                · refine (HFj.out _).mono ?_
                  rintro e' w2 ⟨rfl, hb⟩
                  refine ⟨?_, ⟨hS.1.keep hb, hS.2.below hS.2.1 hb⟩⟩
                  rfl
                refine ⟨.inl ⟨by rfl, opOk_pure fun wS hS => ?_⟩, ?_⟩
                · ((have hk := hS.1.facts; simp only [List.forall_mem_cons] at hk; have hj := hS.2.2 _ _ hLj; have hbz := hS.2.1; go_simp; try simp only [dq1, dq2, dq3])); try (with_reducible rfl)
                refine ⟨.inl ⟨by rfl, opOk_pure fun wS hS => ?_⟩, ?_⟩
                · ((have hk := hS.1.facts; simp only [List.forall_mem_cons] at hk; have hj := hS.2.2 _ _ hLj; have hbz := hS.2.1; go_simp; try simp only [dq1, dq2, dq3])); try (with_reducible rfl)
                refine ⟨.inl ⟨by rfl, opOk_pure fun wS hS => ?_⟩, ?_⟩
                · ((have hk := hS.1.facts; simp only [List.forall_mem_cons] at hk; have hj := hS.2.2 _ _ hLj; have hbz := hS.2.1; go_simp; try simp only [dq1, dq2, dq3])); try (with_reducible rfl)
                refine ⟨.inl ⟨by rfl, opOk_pure fun wS hS => ?_⟩, ?_⟩
                · ((have hk := hS.1.facts; simp only [List.forall_mem_cons] at hk; have hj := hS.2.2 _ _ hLj; have hbz := hS.2.1; go_simp; try simp only [dq1, dq2, dq3])); try (with_reducible rfl)
                trivial
              case hendb =>
                intro wE hE
                simp only [OpsOk, fillT, List.setIfInBounds_toArray, List.set_cons_zero, List.set_cons_succ]
                go_wp2_with fail
                refine region_flow (S := fun w' => (Known w ((wr.heap.size, x, y) :: [(w.heap.size, x0, z0), (w.heap.size + 1, x1, z1), (w.heap.size + 1 + 1, x2, z2)]) w' ∧ SpotsAt w' b off L)) (vs := [?vd0, ?vd1, ?vd2, ?vd3, ?vd4, ?vd5, ?vd6, ?vd7, ?vd8, ?vd9, ?vd10, ?vd11, ?vd12, ?vd13]) (by kernel_rfl) (by kernel_rfl) (by kernel_rfl) (by kernel_rfl) (by kernel_rfl) rfl ?hSd ?hopsd ?hendd
                case hSd => exact ⟨hE.1.drew, hE.2⟩
                case hopsd =>
                  simp only [OpsOk, fillT, List.setIfInBounds_toArray, List.set_cons_zero, List.set_cons_succ]
                  refine ⟨.inl ⟨by rfl, opOk_pure fun wS hS => ?_⟩, ?_⟩
                  · ((have hk := hS.1.facts; simp only [List.forall_mem_cons] at hk; go_simp; try simp only [hwr])); try (with_reducible rfl)
                  refine ⟨.inl ⟨by rfl, opOk_call (f := 11) (args := ?ad1) (fun wS hS => ?_) (fun wS hS => ?_)⟩, ?_⟩
                  rotate_left 1
                  · ((have hk := hS.1.facts; simp only [List.forall_mem_cons] at hk; go_simp; try simp only [hwr])); try (with_reducible rfl)
                  · refine (HT1.out _).mono ?_
                    rintro e' w2 ⟨rfl, hb⟩
                    refine ⟨?_, ⟨hS.1.keep hb, hS.2.below hS.2.1 hb⟩⟩
                    rfl
                  refine ⟨.inl ⟨by rfl, opOk_pure fun wS hS => ?_⟩, ?_⟩
                  · ((have hk := hS.1.facts; simp only [List.forall_mem_cons] at hk; go_simp; try simp only [hwr])); try (with_reducible rfl)
                  refine ⟨.inl ⟨by rfl, opOk_call (f := 11) (args := ?ad3) (fun wS hS => ?_) (fun wS hS => ?_)⟩, ?_⟩
                  rotate_left 1
                  · ((have hk := hS.1.facts; simp only [List.forall_mem_cons] at hk; go_simp; try simp only [hwr])); try (with_reducible rfl)
                  · refine (HT2.out _).mono ?_
                    rintro e' w2 ⟨rfl, hb⟩
                    refine ⟨?_, ⟨hS.1.keep hb, hS.2.below hS.2.1 hb⟩⟩
                    rfl
                  refine ⟨.inl ⟨by rfl, opOk_pure fun wS hS => ?_⟩, ?_⟩
                  · ((have hk := hS.1.facts; simp only [List.forall_mem_cons] at hk; go_simp; try simp only [hwr])); try (with_reducible rfl)
                  refine ⟨.inl ⟨by rfl, opOk_call (f := 26) (args := ?ad5) (fun wS hS => ?_) (fun wS hS => ?_)⟩, ?_⟩
                  rotate_left 1
                  · ((have hk := hS.1.facts; simp only [List.forall_mem_cons] at hk; go_simp; try simp only [hwr])); try (with_reducible rfl)
                  · refine (HSa.out _).mono ?_
                    rintro e' w2 ⟨rfl, hb⟩
                    refine ⟨?_, ⟨hS.1.keep hb, hS.2.below hS.2.1 hb⟩⟩
                    rfl
                  refine ⟨.inl ⟨by rfl, opOk_pure fun wS hS => ?_⟩, ?_⟩
                  · ((have hk := hS.1.facts; simp only [List.forall_mem_cons] at hk; go_simp; try simp only [hwr])); try (with_reducible rfl)
                  refine ⟨.inl ⟨by rfl, opOk_call (f := 11) (args := ?ad7) (fun wS hS => ?_) (fun wS hS => ?_)⟩, ?_⟩
                  rotate_left 1
                  · ((have hk := hS.1.facts; simp only [List.forall_mem_cons] at hk; go_simp; try simp only [hwr])); try (with_reducible rfl)
                  · refine (HT2.out _).mono ?_
                    rintro e' w2 ⟨rfl, hb⟩
                    refine ⟨?_, ⟨hS.1.keep hb, hS.2.below hS.2.1 hb⟩⟩
                    rfl
                  refine ⟨.inl ⟨by rfl, opOk_pure fun wS hS => ?_⟩, ?_⟩
                  · ((have hk := hS.1.facts; simp only [List.forall_mem_cons] at hk; go_simp; try simp only [hwr])); try (with_reducible rfl)
                  refine ⟨.inl ⟨by rfl, opOk_call (f := 11) (args := ?ad9) (fun wS hS => ?_) (fun wS hS => ?_)⟩, ?_⟩
                  rotate_left 1
                  · ((have hk := hS.1.facts; simp only [List.forall_mem_cons] at hk; go_simp; try simp only [hwr])); try (with_reducible rfl)
                  · refine (HT1.out _).mono ?_
                    rintro e' w2 ⟨rfl, hb⟩
                    refine ⟨?_, ⟨hS.1.keep hb, hS.2.below hS.2.1 hb⟩⟩
                    rfl
                  refine ⟨.inl ⟨by rfl, opOk_pure fun wS hS => ?_⟩, ?_⟩
                  · ((have hk := hS.1.facts; simp only [List.forall_mem_cons] at hk; go_simp; try simp only [hwr])); try (with_reducible rfl)
                  refine ⟨.inl ⟨by rfl, opOk_call (f := 26) (args := ?ad11) (fun wS hS => ?_) (fun wS hS => ?_)⟩, ?_⟩
                  rotate_left 1
                  · ((have hk := hS.1.facts; simp only [List.forall_mem_cons] at hk; go_simp; try simp only [hwr])); try (with_reducible rfl)
                  · refine (HSb.out _).mono ?_
                    rintro e' w2 ⟨rfl, hb⟩
                    refine ⟨?_, ⟨hS.1.keep hb, hS.2.below hS.2.1 hb⟩⟩
                    rfl
                  refine ⟨.inl ⟨by rfl, opOk_pure fun wS hS => ?_⟩, ?_⟩
                  · ((have hk := hS.1.facts; simp only [List.forall_mem_cons] at hk; go_simp; try simp only [hwr])); try (with_reducible rfl)
                  refine ⟨.inl ⟨by rfl, opOk_pure fun wS hS => ?_⟩, ?_⟩
                  · ((have hk := hS.1.facts; simp only [List.forall_mem_cons] at hk; go_simp; try simp only [hwr])); try (with_reducible rfl)
                  trivial
                case hendd =>
                  intro wE hE
                  simp only [OpsOk, fillT, List.setIfInBounds_toArray, List.set_cons_zero, List.set_cons_succ]
                  go_wp2
                  go_roundw
                  case rel => exact ⟨k + 1, by omega, by go_num, ⟨fun e he => hE.1.1 e (List.mem_cons_of_mem _ he), hE.1.2⟩, fun _ => ⟨b, off, rfl, hE.2⟩⟩
                  case measure => simp [intOf]; omega
            · have hd' : d < 0 := by omega
              clear HL1
              refine region_flow (S := fun w' => (Known w ((wr.heap.size, x, y) :: [(w.heap.size, x0, z0), (w.heap.size + 1, x1, z1), (w.heap.size + 1 + 1, x2, z2)]) w' ∧ SpotsAt w' b off L)) (vs := [?vc0, ?vc1, ?vc2, undef, undef, undef, undef, undef, undef, undef, undef, undef, undef, undef, undef, undef, undef, undef, undef, undef, undef, undef, ?vc22]) (by kernel_rfl) (by kernel_rfl) (by kernel_rfl) (by kernel_rfl) (by kernel_rfl) rfl ?hSc ?hopsc ?hendc
              case hSc => exact ⟨hE.1.drew, hE.2⟩
              case hopsc =>
                simp only [OpsOk, fillT, List.setIfInBounds_toArray, List.set_cons_zero, List.set_cons_succ]
                refine ⟨.inl ⟨by rfl, opOk_pure fun wS hS => ?_⟩, ?_⟩
                · ((have hk := hS.1.facts; simp only [List.forall_mem_cons] at hk; go_simp)); try (with_reducible rfl)
                refine ⟨.inl ⟨by rfl, opOk_pure fun wS hS => ?_⟩, ?_⟩
                · ((have hk := hS.1.facts; simp only [List.forall_mem_cons] at hk; go_simp)); try (with_reducible rfl)
                refine ⟨.inl ⟨by rfl, opOk_pure fun wS hS => ?_⟩, ?_⟩
                · ((have hk := hS.1.facts; simp only [List.forall_mem_cons] at hk; go_simp)); try (with_reducible rfl)
                refine ⟨.inr ⟨by rfl, by trivial⟩, ?_⟩
                refine ⟨.inr ⟨by rfl, by trivial⟩, ?_⟩
                refine ⟨.inr ⟨by rfl, by trivial⟩, ?_⟩
                refine ⟨.inr ⟨by rfl, by trivial⟩, ?_⟩
                refine ⟨.inr ⟨by rfl, by trivial⟩, ?_⟩
                refine ⟨.inr ⟨by rfl, by trivial⟩, ?_⟩
                refine ⟨.inr ⟨by rfl, by trivial⟩, ?_⟩
                refine ⟨.inr ⟨by rfl, by trivial⟩, ?_⟩
                refine ⟨.inr ⟨by rfl, by trivial⟩, ?_⟩
                refine ⟨.inr ⟨by rfl, by trivial⟩, ?_⟩
                refine ⟨.inr ⟨by rfl, by trivial⟩, ?_⟩
                refine ⟨.inr ⟨by rfl, by trivial⟩, ?_⟩
                refine ⟨.inr ⟨by rfl, by trivial⟩, ?_⟩
                refine ⟨.inr ⟨by rfl, by trivial⟩, ?_⟩
                refine ⟨.inr ⟨by rfl, by trivial⟩, ?_⟩
                refine ⟨.inr ⟨by rfl, by trivial⟩, ?_⟩
                refine ⟨.inr ⟨by rfl, by trivial⟩, ?_⟩
                refine ⟨.inr ⟨by rfl, by trivial⟩, ?_⟩
                refine ⟨.inr ⟨by rfl, by trivial⟩, ?_⟩
                refine ⟨.inl ⟨by rfl, opOk_pure fun wS hS => ?_⟩, ?_⟩
                · ((have hk := hS.1.facts; simp only [List.forall_mem_cons] at hk; go_simp)); try (with_reducible rfl)
                trivial
              case hendc =>
                intro wE hE
                simp only [OpsOk, fillT, List.setIfInBounds_toArray, List.set_cons_zero, List.set_cons_succ]
                go_wp2_with fail
                refine region_flow (S := fun w' => (Known w ((wr.heap.size, x, y) :: [(w.heap.size, x0, z0), (w.heap.size + 1, x1, z1), (w.heap.size + 1 + 1, x2, z2)]) w' ∧ SpotsAt w' b off L)) (vs := [?ve0, ?ve1, ?ve2, ?ve3, ?ve4, ?ve5, ?ve6, ?ve7, ?ve8, ?ve9, ?ve10, ?ve11, ?ve12, ?ve13]) (by kernel_rfl) (by kernel_rfl) (by kernel_rfl) (by kernel_rfl) (by kernel_rfl) rfl ?hSe ?hopse ?hende
                case hSe => exact ⟨hE.1.drew, hE.2⟩
                case hopse =>
                  simp only [OpsOk, fillT, List.setIfInBounds_toArray, List.set_cons_zero, List.set_cons_succ]
                  refine ⟨.inl ⟨by rfl, opOk_pure fun wS hS => ?_⟩, ?_⟩
                  · ((have hk := hS.1.facts; simp only [List.forall_mem_cons] at hk; go_simp; try simp only [hwr])); try (with_reducible rfl)
                  refine ⟨.inl ⟨by rfl, opOk_call (f := 11) (args := ?ae1) (fun wS hS => ?_) (fun wS hS => ?_)⟩, ?_⟩
                  rotate_left 1
                  · ((have hk := hS.1.facts; simp only [List.forall_mem_cons] at hk; go_simp; try simp only [hwr])); try (with_reducible rfl)
                  · refine (HT1.out _).mono ?_
                    rintro e' w2 ⟨rfl, hb⟩
                    refine ⟨?_, ⟨hS.1.keep hb, hS.2.below hS.2.1 hb⟩⟩
                    rfl
                  refine ⟨.inl ⟨by rfl, opOk_pure fun wS hS => ?_⟩, ?_⟩
                  · ((have hk := hS.1.facts; simp only [List.forall_mem_cons] at hk; go_simp; try simp only [hwr])); try (with_reducible rfl)
                  refine ⟨.inl ⟨by rfl, opOk_call (f := 11) (args := ?ae3) (fun wS hS => ?_) (fun wS hS => ?_)⟩, ?_⟩
                  rotate_left 1
                  · ((have hk := hS.1.facts; simp only [List.forall_mem_cons] at hk; go_simp; try simp only [hwr])); try (with_reducible rfl)
                  · refine (HT2.out _).mono ?_
                    rintro e' w2 ⟨rfl, hb⟩
                    refine ⟨?_, ⟨hS.1.keep hb, hS.2.below hS.2.1 hb⟩⟩
                    rfl
                  refine ⟨.inl ⟨by rfl, opOk_pure fun wS hS => ?_⟩, ?_⟩
                  · ((have hk := hS.1.facts; simp only [List.forall_mem_cons] at hk; go_simp; try simp only [hwr])); try (with_reducible rfl)
                  refine ⟨.inl ⟨by rfl, opOk_call (f := 26) (args := ?ae5) (fun wS hS => ?_) (fun wS hS => ?_)⟩, ?_⟩
                  rotate_left 1
                  · ((have hk := hS.1.facts; simp only [List.forall_mem_cons] at hk; go_simp; try simp only [hwr])); try (with_reducible rfl)
                  · refine (HSa.out _).mono ?_
                    rintro e' w2 ⟨rfl, hb⟩
                    refine ⟨?_, ⟨hS.1.keep hb, hS.2.below hS.2.1 hb⟩⟩
                    rfl
                  refine ⟨.inl ⟨by rfl, opOk_pure fun wS hS => ?_⟩, ?_⟩
                  · ((have hk := hS.1.facts; simp only [List.forall_mem_cons] at hk; go_simp; try simp only [hwr])); try (with_reducible rfl)
                  refine ⟨.inl ⟨by rfl, opOk_call (f := 11) (args := ?ae7) (fun wS hS => ?_) (fun wS hS => ?_)⟩, ?_⟩
                  rotate_left 1
                  · ((have hk := hS.1.facts; simp only [List.forall_mem_cons] at hk; go_simp; try simp only [hwr])); try (with_reducible rfl)
                  · refine (HT2.out _).mono ?_
                    rintro e' w2 ⟨rfl, hb⟩
                    refine ⟨?_, ⟨hS.1.keep hb, hS.2.below hS.2.1 hb⟩⟩
                    rfl
                  refine ⟨.inl ⟨by rfl, opOk_pure fun wS hS => ?_⟩, ?_⟩
                  · ((have hk := hS.1.facts; simp only [List.forall_mem_cons] at hk; go_simp; try simp only [hwr])); try (with_reducible rfl)
                  refine ⟨.inl ⟨by rfl, opOk_call (f := 11) (args := ?ae9) (fun wS hS => ?_) (fun wS hS => ?_)⟩, ?_⟩
                  rotate_left 1
                  · ((have hk := hS.1.facts; simp only [List.forall_mem_cons] at hk; go_simp; try simp only [hwr])); try (with_reducible rfl)
                  · refine (HT1.out _).mono ?_
                    rintro e' w2 ⟨rfl, hb⟩
                    refine ⟨?_, ⟨hS.1.keep hb, hS.2.below hS.2.1 hb⟩⟩
                    rfl
                  refine ⟨.inl ⟨by rfl, opOk_pure fun wS hS => ?_⟩, ?_⟩
                  · ((have hk := hS.1.facts; simp only [List.forall_mem_cons] at hk; go_simp; try simp only [hwr])); try (with_reducible rfl)
                  refine ⟨.inl ⟨by rfl, opOk_call (f := 26) (args := ?ae11) (fun wS hS => ?_) (fun wS hS => ?_)⟩, ?_⟩
                  rotate_left 1
                  · ((have hk := hS.1.facts; simp only [List.forall_mem_cons] at hk; go_simp; try simp only [hwr])); try (with_reducible rfl)
                  · refine (HSb.out _).mono ?_
                    rintro e' w2 ⟨rfl, hb⟩
                    refine ⟨?_, ⟨hS.1.keep hb, hS.2.below hS.2.1 hb⟩⟩
                    rfl
                  refine ⟨.inl ⟨by rfl, opOk_pure fun wS hS => ?_⟩, ?_⟩
                  · ((have hk := hS.1.facts; simp only [List.forall_mem_cons] at hk; go_simp; try simp only [hwr])); try (with_reducible rfl)
                  refine ⟨.inl ⟨by rfl, opOk_pure fun wS hS => ?_⟩, ?_⟩
                  · ((have hk := hS.1.facts; simp only [List.forall_mem_cons] at hk; go_simp; try simp only [hwr])); try (with_reducible rfl)
                  trivial
                case hende =>
                  intro wE hE
                  simp only [OpsOk, fillT, List.setIfInBounds_toArray, List.set_cons_zero, List.set_cons_succ]
                  go_wp2
                  go_roundw
                  case rel => exact ⟨k + 1, by omega, by go_num, ⟨fun e he => hE.1.1 e (List.mem_cons_of_mem _ he), hE.1.2⟩, fun _ => ⟨b, off, rfl, hE.2⟩⟩
                  case measure => simp [intOf]; omega
        · have hb := hg.1.2
          go_wp2_with fail
          refine (HA.out _).mono ?_
          rintro e w3 ⟨rfl, hb3⟩
          go_wp2
          go_ret
          exact ⟨rfl, hb.trans (hb3.mono hb.size)⟩
end Go.Proofs.Ytpmjigghboifdaa
