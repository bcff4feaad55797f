/- Walks over the laws MoneyFees, MoneyPays and MoneyOrder; a list of fees as it reads. -/
import Derived.Test.YtonjibjghijacaaBack02
import Derived.Test.YtonjibjghijacaaPaysP
import Derived.Test.YtonjibjghijacaaRead
import Derived.Test.YtonjibjghijacaaEnd
namespace Go.Proofs.Ytonjibjghijacaa
set_option linter.unusedVariables false
set_option linter.unusedSimpArgs false
set_option linter.unnecessarySimpa false
open Go.RowKit

def rFee : Rd (Int × Int × Unit) := rSeq 1 (rInt .u64) (rSeq 1 (rInt .u64) rNil)
theorem reads_fee : Reads Try.prog 46 2 rFee := reads_struct Try.underlying46 (by kernel_rfl) (.cons rfl (reads_int Try.underlying22 (by kernel_rfl)) (.cons rfl (reads_int Try.underlying22 (by kernel_rfl)) (.nil _)))
theorem reads_fees : Reads Try.prog 33 1 (rSlice 2 16 rFee) := reads_slice Try.underlying33 (by kernel_rfl) (by kernel_rfl) (by decide) reads_fee
theorem take_one {α : Type} {l : List α} {a : α} (h : l.take 1 = [a]) : l = a :: l.drop 1 := by
  match l, h with
  | x :: l, h => simp at h; subst h; rfl
theorem fee_at {W : World} {cs : List Value} {x : Int × Int × Unit} (h : rFee W cs x) : cs = feeC (x.1, x.2.1) ∧ U64 x.1 ∧ U64 x.2.1 := by
  obtain ⟨⟨h1, w1⟩, ⟨h2, w2⟩, h5⟩ := h
  have e5 : List.drop 1 (List.drop 1 cs) = [] := h5
  have e1 := take_one h1
  have e2 := take_one h2
  rw [e5] at e2
  rw [e2] at e1
  exact ⟨e1, ⟨(bd_u64 w1).1, by have := (bd_u64 w1).2; omega⟩, ⟨(bd_u64 w2).1, by have := (bd_u64 w2).2; omega⟩⟩
theorem fees_of {W : World} {A : Option Addr} {c : Nat} {L : List (Int × Int × Unit)} {cells : List Value} (hn : A = none → L.length = 0 ∧ c = 0) (hb : L.length * 16 ≤ 140737488355328) (hl : cells.length = L.length * 2) (hs : SrcOf W A cells)
    (h : ∀ (i : Nat) (x : Int × Int × Unit), L[i]? = some x → rFee W ((cells.drop (i * 2)).take 2) x) : Recs 2 feeC W A c (L.map fun x => (x.1, x.2.1)) ∧ P64 (L.map fun x => (x.1, x.2.1)) := by
  refine ⟨Recs.ofCells feeC_len (fun h => by simpa using hn h) (by simp; omega) (by simpa using hl) hs ?_, ?_⟩
  · intro i x hx
    simp only [List.getElem?_map, Option.map_eq_some_iff] at hx
    obtain ⟨y, hy, rfl⟩ := hx
    exact (fee_at (h i y hy)).1
  · intro p hp
    simp only [List.mem_map] at hp
    obtain ⟨y, hy, rfl⟩ := hp
    obtain ⟨i, hi, rfl⟩ := List.getElem_of_mem hy
    exact (fee_at (h i _ (List.getElem?_eq_getElem hi))).2
theorem row_words {w : World} {B : Nat} {T : TypeId} {A : Option Addr} {c : Nat} {xs : List Int} (h : w.ownsRow B T 1 (.slice A xs.length c) xs.length (words xs)) (hu : ∀ x ∈ xs, U64 x) (hl : xs.length * 8 ≤ 140737488355328) : Words w A c xs :=
  ⟨row_none h, src_row h, hu, hl⟩
theorem backP_few {a : Int} (l : List (Int × Int)) (hl : l.length ≤ 1000) : (backP a l).1.length ≤ 1001 := by
  by_cases h : (backP a l).2 = 0
  · rw [backP_len l h]; omega
  · rw [backP_bad l h]; simp
set_option maxRecDepth 100000 in
set_option maxHeartbeats 2000000 in
theorem fees_law (w : World) (a : Int) (ha : U64 a) (A : Option Addr) (c : Nat) (l : List (Int × Int)) (h : Recs 2 feeC w A c l) (hu : P64 l) : Calls Try.prog 5 #[.int .u64 a, .slice A l.length c] w fun e w' => e = .returned (.bool true) ∧ Below w.heap.size w w' := by
  have H0 := Lib.hid (Sat.pushRest w)
  have HR := Lib.hid h
  have HU := Lib.hid hu
  have hlen := h.len
  clear h hu
  rcases (show 20 < l.length ∨ l.length ≤ 20 by omega) with hn | hn
  · go_enter Try.func5, Try.ntmps5
    go_wp2_with fail
    refine (awake_any _).mono ?_
    rintro e w1 ⟨rfl, hb⟩
    have h1 := H0.out.grow hb
    have H1 := Lib.hid h1
    clear hb h1
    go_wp2
    go_ret
    exact ⟨rfl, H1.out.below (i := 0) rfl⟩
  · go_enter Try.func5, Try.ntmps5
    go_wp2_with fail
    refine (fees_any _ A c l HR.out (by omega)).mono ?_
    rintro e w1 ⟨A1, c1, rfl, g⟩
    have h1 := H0.out.pushThings g
    try simp only [List.cons_append, List.nil_append, List.set_cons_succ, List.set_cons_zero, Nat.zero_add, Nat.reduceAdd] at h1
    have H1 := Lib.hid h1
    clear g h1
    have hf1 := Recs.ofRow (k := 2) (f := feeC) (H1.out.rowOf (i := 1) rfl) (by omega)
    have HF1 := Lib.hid hf1
    clear hf1
    go_wp2_with fail
    refine (back_any _ a ha A1 c1 l HF1.out HU.out (by omega)).mono ?_
    rintro e w2 ⟨A2, c2, rfl, g⟩
    have h2 := H1.out.pushThings g
    try simp only [List.cons_append, List.nil_append, List.set_cons_succ, List.set_cons_zero, Nat.zero_add, Nat.reduceAdd] at h2
    have H2 := Lib.hid h2
    clear g h2
    have hr2 := HR.out.mono (src_rest H2.out (i := 0) rfl HR.out.src (src_lt HR.out.src))
    have HR2 := Lib.hid hr2
    clear hr2
    go_wp2_with fail
    refine (rback_any _ a ha A c l HR2.out HU.out (by omega)).mono ?_
    rintro e w3 ⟨A3, c3, rfl, g⟩
    have h3 := H2.out.pushThings g
    try simp only [List.cons_append, List.nil_append, List.set_cons_succ, List.set_cons_zero, Nat.zero_add, Nat.reduceAdd] at h3
    have H3 := Lib.hid h3
    clear g h3
    have hbu := backP_u ha l HU.out
    have hbl := backP_few (a := a) l (by omega)
    have w1' := row_words (H3.out.rowOf (i := 2) rfl) hbu (by omega)
    have w2' := row_words (H3.out.rowOf (i := 3) rfl) hbu (by omega)
    have HW1 := Lib.hid w1'
    have HW2 := Lib.hid w2'
    clear w1' w2' hbu hbl
    go_wp2_with fail
    refine (same_any _ A2 A3 c2 c3 _ HW1.out HW2.out).mono ?_
    rintro e w4 ⟨rfl, hb⟩
    have h4 := H3.out.grow hb
    have H4 := Lib.hid h4
    clear hb h4
    have hll : l.length ≤ 1000 := by omega
    go_wp2
    go_loopw [45] (fun i wr => ∃ k : Nat, k ≤ l.length ∧ i = .int .i64 k ∧ Sat w wr [rest w (· < w.heap.size), row 43 2 (.slice A1 l.length c1) l.length (l.flatMap feeC), row 22 1 (.slice A2 (backP a l).1.length c2) (backP a l).1.length (words (backP a l).1), row 22 1 (.slice A3 (backP a l).1.length c3) (backP a l).1.length (words (backP a l).1)]) (fun i _ => l.length - (intOf i).toNat)
    case atStart => exact ⟨0, Nat.zero_le _, rfl, H4.out⟩
    case round =>
      obtain ⟨k, hk, rfl, hS⟩ := hrel
      clear H4 HW1 HW2
      by_cases hlt : k < l.length
      · have hf := Recs.ofRow (k := 2) (f := feeC) (hS.rowOf (i := 1) rfl) (by omega)
        obtain ⟨bf, off, rfl, hb, hc⟩ := hf.at feeC_len (by decide) hlt
        have c0 := hc 0 _ rfl
        have d0 := hc 1 _ rfl
        have hR := HR.out.mono (src_rest hS (i := 0) rfl HR.out.src (src_lt HR.out.src))
        obtain ⟨b2, off2, rfl, hb2, hc2⟩ := hR.at feeC_len (by decide) hlt
        have hbo := src_lt HR.out.src _ rfl (by intro e; have h1 := recs_len feeC_len l; rw [e] at h1; simp at h1; omega)
        have hpu := HU.out l[k] (List.getElem_mem hlt)
        have e0 := hc2 0 _ rfl
        have e1 := hc2 1 _ rfl
        generalize l[k] = p at *
        obtain ⟨x, y⟩ := p
        dsimp only at c0 d0 e0 e1 hpu
        rw [Nat.add_zero] at c0 e0
        have hS2 := hS.alloc #[.int .u64 x, .int .u64 y] 43
        try simp only [List.cons_append, List.nil_append, List.set_cons_succ, List.set_cons_zero, Nat.zero_add, Nat.reduceAdd] at hS2
        have HO := Lib.hid (of_any x y a hpu.1 hpu.2 ha)
        have HRO := Lib.hid (rof_any x y a hpu.1 hpu.2 ha)
        have hou := ofP_u hpu.1 hpu.2 ha
        generalize ofP x y a = r at *
        obtain ⟨v, e⟩ := r
        dsimp only at HO HRO
        have HS2 := Lib.hid hS2
        have HE := Lib.hid (And.intro e0 e1)
        have hold : ∀ (w2 : World) (l2 : List Asn), Sat w w2 (rest w (· < w.heap.size) :: l2) → w2.cell? ⟨b2, off2 + k * 2, none⟩ = some (.int .u64 x) ∧ w2.cell? ⟨b2, off2 + k * 2 + 1, none⟩ = some (.int .u64 y) := fun w2 l2 h2 => ⟨((World.cell?_of_block (a := ⟨b2, _, none⟩) (h2.fact (i := 0) rfl b2 hbo)).trans (World.cell?_of_block (a := ⟨b2, _, none⟩) (hS.fact (i := 0) rfl b2 hbo)).symm).trans e0, ((World.cell?_of_block (a := ⟨b2, _, none⟩) (h2.fact (i := 0) rfl b2 hbo)).trans (World.cell?_of_block (a := ⟨b2, _, none⟩) (hS.fact (i := 0) rfl b2 hbo)).symm).trans e1⟩
        have HOLD := Lib.hid hold
        clear hS hS2 hf hc hR hc2 e0 e1 hold hou hpu
        go_wp2_with fail
        refine (HO.out _).mono ?_
        rintro e w21 ⟨rfl, hb⟩
        obtain ⟨f0, f1⟩ := HOLD.out _ _ (HS2.out.grow hb)
        have h21 := HS2.out.grow hb
        have H21 := Lib.hid h21
        clear hb h21
        go_wp2_with fail
        refine (HRO.out _).mono ?_
        rintro e w22 ⟨rfl, hb⟩
        clear f0 f1
        have h22 := H21.out.grow hb
        have H22 := Lib.hid h22
        clear hb h22
        go_wp2_with fail
        refine (is_any v e _).mono ?_
        rintro e w23 ⟨rfl, rfl⟩
        have h8 := H22.out.left (l := [_, _, _, _]) (l' := [_])
        have H8 := Lib.hid h8
        clear h8
        go_wp2
        go_roundw
        case rel => exact ⟨k + 1, by omega, by go_num, H8.out⟩
        case measure => (simp [intOf]; try omega)
      · obtain rfl : k = l.length := by omega
        have HS := Lib.hid hS
        clear hS
        go_wp2_with fail
        refine (awake_any _).mono ?_
        rintro e w41 ⟨rfl, hb⟩
        have h41 := HS.out.grow hb
        have H41 := Lib.hid h41
        clear hb h41
        go_wp2
        go_ret
        exact ⟨rfl, H41.out.below (i := 0) rfl⟩
set_option maxRecDepth 100000 in
set_option maxHeartbeats 2000000 in
theorem pays_law (w : World) (a : Int) (ha : U64 a) (A : Option Addr) (c : Nat) (l : List (Int × Int)) (h : Recs 2 feeC w A c l) (hu : P64 l) : Calls Try.prog 6 #[.int .u64 a, .slice A l.length c] w fun e w' => e = .returned (.bool true) ∧ Below w.heap.size w w' := by
  have H0 := Lib.hid (Sat.pushRest w)
  have HR := Lib.hid h
  have HU := Lib.hid hu
  have hlen := h.len
  clear h hu
  rcases (show 20 < l.length ∨ l.length ≤ 20 by omega) with hn | hn
  · go_enter Try.func6, Try.ntmps6
    go_wp2_with fail
    refine (awake_any _).mono ?_
    rintro e w1 ⟨rfl, hb⟩
    have h1 := H0.out.grow hb
    have H1 := Lib.hid h1
    clear hb h1
    go_wp2
    go_ret
    exact ⟨rfl, H1.out.below (i := 0) rfl⟩
  · rcases (show (backP a l).2 = 0 ∨ (backP a l).2 ≠ 0 by omega) with hbe | hbe
    · have hlen2 := backP_len l hbe
      have HP := Lib.hid (fun i hi => pays_of ha HU.out hbe (i := i) hi)
      have HLA := Lib.hid (pays_last hbe)
      have hbu := backP_u ha l HU.out
      obtain ⟨s, hs⟩ : ∃ s, (backP a l).1 = s := ⟨_, rfl⟩
      rw [hs] at HP HLA hbu hlen2
      have HBU := Lib.hid hbu
      have HSE := Lib.hid hs
      clear hs hbu
      have HSL := Lib.hid hlen2
      have HBE := Lib.hid hbe
      clear hlen2 hbe
      go_enter Try.func6, Try.ntmps6
      go_wp2_with fail
      refine (fees_any _ A c l HR.out (by omega)).mono ?_
      rintro e w1 ⟨A1, c1, rfl, g⟩
      have h1 := H0.out.pushThings g
      try simp only [List.cons_append, List.nil_append, List.set_cons_succ, List.set_cons_zero, Nat.zero_add, Nat.reduceAdd] at h1
      have H1 := Lib.hid h1
      clear g h1
      have hf1 := Recs.ofRow (k := 2) (f := feeC) (H1.out.rowOf (i := 1) rfl) (by omega)
      have HF1 := Lib.hid hf1
      clear hf1
      have hbk1 := back_any w1 a ha A1 c1 l HF1.out HU.out (by omega)
      rw [HBE.out, HSE.out, HSL.out] at hbk1
      have HBK1 := Lib.hid hbk1
      clear hbk1
      go_wp2_with fail
      refine (HBK1.out).mono ?_
      rintro e w2 ⟨A2, c2, rfl, g⟩
      have h2 := H1.out.pushThings g
      try simp only [List.cons_append, List.nil_append, List.set_cons_succ, List.set_cons_zero, Nat.zero_add, Nat.reduceAdd] at h2
      have H2 := Lib.hid h2
      clear g h2
      have hll : l.length ≤ 20 := hn
      go_wp2
      go_loopw [40] (fun i wr => ∃ k : Nat, k ≤ l.length ∧ i = .int .i64 k ∧ Sat w wr [rest w (· < w.heap.size), row 43 2 (.slice A1 l.length c1) l.length (l.flatMap feeC), row 22 1 (.slice A2 (l.length + 1) c2) (l.length + 1) (words s)]) (fun i _ => l.length - (intOf i).toNat)
      case atStart => exact ⟨0, Nat.zero_le _, rfl, H2.out⟩
      case round =>
        obtain ⟨k, hk, rfl, hS⟩ := hrel
        clear H2 HF1 HBK1
        by_cases hlt : k < l.length
        · have hpp := HP.out k hlt
          have hf := Recs.ofRow (k := 2) (f := feeC) (hS.rowOf (i := 1) rfl) (by omega)
          obtain ⟨bf, off, rfl, hb, hc⟩ := hf.at feeC_len (by decide) hlt
          have c0 := hc 0 _ rfl
          have d0 := hc 1 _ rfl
          have hpu := HU.out l[k] (List.getElem_mem hlt)
          generalize l[k] = p at *
          obtain ⟨x, y⟩ := p
          dsimp only at c0 d0 hpu hpp
          rw [Nat.add_zero] at c0
          obtain ⟨g, hg, gc, -, hglt⟩ := row_at (hS.rowOf (i := 2) rfl) (j := k + 1) (by omega)
          obtain ⟨g', hg', gc', -, hglt'⟩ := row_at (hS.rowOf (i := 2) rfl) (j := k) (by omega)
          subst hg
          cases hg'
          have r0 := gc' _ (words_at (i := k) (by rw [HSL.out]; omega))
          have r1 := gc _ (words_at (i := k + 1) (by rw [HSL.out]; omega))
          have u0 := getD_mem_u HBU.out (i := k)
          have u1 := getD_mem_u HBU.out (i := k + 1)
          obtain ⟨z, hz0⟩ : ∃ z, s.getD k 0 = z := ⟨_, rfl⟩
          obtain ⟨z1, hz1⟩ : ∃ z, s.getD (k + 1) 0 = z := ⟨_, rfl⟩
          rw [hz0] at r0 u0 hpp
          rw [hz1] at r1 u1 hpp
          obtain ⟨fee, hof, hz, hf0⟩ := hpp
          subst hz
          have Z0 := Lib.hid hz0
          have Z1 := Lib.hid hz1
          clear hz0 hz1
          have hoa := of_any x y z1 hpu.1 hpu.2 u1
          rw [hof] at hoa
          have HO := Lib.hid hoa
          obtain ⟨u10, u11⟩ := u1
          obtain ⟨u00, u01⟩ := u0
          have hS2 := (hS.alloc #[.int .u64 x, .int .u64 y] 43).drew
          try simp only [List.cons_append, List.nil_append, List.set_cons_succ, List.set_cons_zero, Nat.zero_add, Nat.reduceAdd] at hS2
          have HS2 := Lib.hid hS2
          have n0 : (0 : Int) ≤ (k : Int) + 1 := by omega
          have n1 : (k : Int) < (l.length : Int) + 1 := by omega
          clear hS hS2 hf hc gc gc' hoa hof hpu
          go_wp2_with fail
          refine region_chain (E := [6]) (kn := [true, true, true, true, true, true, false, false, false, false, false, false]) (mask := [true, true, true, true, true, true, false, false, false, false, false, false]) (vs := [?vp0_0, ?vp0_1, ?vp0_2, ?vp0_3, ?vp0_4, ?vp0_5, undef, undef, undef, undef, undef, undef]) (S := fun w' => w' = (wr.alloc (.cells #[.int .u64 x, .int .u64 y] 43)).drew) (by kernel_rfl) (by kernel_rfl) (by kernel_rfl) (by kernel_rfl) (by kernel_rfl) ?hSp ?hchp
          case hSp => exact rfl
          case hchp =>
            refine chain_cons _ (by kernel_rfl) rfl rfl ?opsp0 ?wantp0 ?effp0
            case opsp0 =>
              simp only [OpsAt, fillT, List.setIfInBounds_toArray, List.set_cons_zero, List.set_cons_succ]
              refine ⟨.inl ⟨by rfl, opOk_pure fun wS hS => ?_⟩, ?_⟩
              · ((subst hS; go_simp; try simp (disch := omega) only [wrap64_id])); try (with_reducible rfl)
              refine ⟨.inl ⟨by rfl, opOk_pure fun wS hS => ?_⟩, ?_⟩
              · ((subst hS; go_simp; try simp (disch := omega) only [wrap64_id])); try (with_reducible rfl)
              refine ⟨.inl ⟨by rfl, opOk_pure fun wS hS => ?_⟩, ?_⟩
              · ((subst hS; go_simp; try simp (disch := omega) only [wrap64_id])); try (with_reducible rfl)
              refine ⟨.inl ⟨by rfl, opOk_pure fun wS hS => ?_⟩, ?_⟩
              · ((subst hS; go_simp; try simp (disch := omega) only [wrap64_id])); try (with_reducible rfl)
              refine ⟨.inl ⟨by rfl, opOk_pure fun wS hS => ?_⟩, ?_⟩
              · ((subst hS; go_simp; try simp (disch := omega) only [wrap64_id])); try (with_reducible rfl)
              refine ⟨.inl ⟨by rfl, opOk_pure fun wS hS => ?_⟩, ?_⟩
              · ((subst hS; go_simp; try simp (disch := omega) only [wrap64_id])); try (with_reducible rfl)
              try trivial
            case wantp0 => (try simp only [fillT, List.setIfInBounds_toArray, List.set_cons_zero, List.set_cons_succ]) <;> rfl
            case effp0 =>
              intro wS hS
              simp only [fillT, List.setIfInBounds_toArray, List.set_cons_zero, List.set_cons_succ]
              rw [hS]
              refine eff_call (f := 21) (args := #[.agg #[.int .u64 x, .int .u64 y], .int .u64 z1]) (by go_simp) ?_
              refine (HO.out _).mono ?_
              rintro e2 w5 ⟨rfl, hb5⟩
              have h5 := HS2.out.grow hb5
              have h6 := (h5.left (l := [_, _, _]) (l' := [_])).drew
              obtain ⟨g3, hg3, gc3, -, hglt3⟩ := row_at (h6.rowOf (i := 2) rfl) (j := k + 1) (by omega)
              obtain ⟨g4, hg4, gc4, -, hglt4⟩ := row_at (h6.rowOf (i := 2) rfl) (j := k) (by omega)
              cases hg3
              cases hg4
              have r3 := gc4 _ ((words_at (i := k) (by rw [HSL.out]; omega)).trans (by rw [Z0.out]))
              have r4 := gc3 _ ((words_at (i := k + 1) (by rw [HSL.out]; omega)).trans (by rw [Z1.out]))
              have H6 := Lib.hid h6
              clear h5 h6 hb5 gc3 gc4
              refine ⟨_, rfl, ?_⟩
              refine ⟨_, [true, true, true, true, true, true, true, true, true, true, true, true], [false, false, false, false, false, false, false, true, true, true, true, true], [0, 5, 4, 1, 3, 2], [?vp1_0, ?vp1_1, ?vp1_2, ?vp1_3, ?vp1_4, ?vp1_5, (.tuple #[.int .u64 fee, .int .i64 0]), ?vp1_7, ?vp1_8, ?vp1_9, ?vp1_10, ?vp1_11], fun w' => w' = w5, rfl, rfl, ?samep0, by kernel_rfl, ?hSp0, ?nxp0⟩
              case samep0 =>
                refine And.intro ?_ ?_
                · with_reducible rfl
                refine And.intro ?_ ?_
                · with_reducible rfl
                refine And.intro ?_ ?_
                · with_reducible rfl
                refine And.intro ?_ ?_
                · with_reducible rfl
                refine And.intro ?_ ?_
                · with_reducible rfl
                refine And.intro ?_ ?_
                · with_reducible rfl
                trivial
              case hSp0 => rfl
              case nxp0 =>
                refine chain_nil (by kernel_rfl) rfl ?opsp1 ?endp1
                case opsp1 =>
                  simp only [OpsAt, fillT, List.setIfInBounds_toArray, List.set_cons_zero, List.set_cons_succ]
                  refine ⟨.inl ⟨by rfl, opOk_pure fun wS hS => ?_⟩, ?_⟩
                  · ((subst hS; go_simp; try simp (disch := omega) only [wrap64_id])); try (with_reducible rfl)
                  refine ⟨.inl ⟨by rfl, opOk_pure fun wS hS => ?_⟩, ?_⟩
                  · ((subst hS; go_simp; try simp (disch := omega) only [wrap64_id])); try (with_reducible rfl)
                  refine ⟨.inl ⟨by rfl, opOk_pure fun wS hS => ?_⟩, ?_⟩
                  · ((subst hS; go_simp; try simp (disch := omega) only [wrap64_id])); try (with_reducible rfl)
                  refine ⟨.inl ⟨by rfl, opOk_pure fun wS hS => ?_⟩, ?_⟩
                  · ((subst hS; go_simp; try simp (disch := omega) only [wrap64_id])); try (with_reducible rfl)
                  refine ⟨.inl ⟨by rfl, opOk_pure fun wS hS => ?_⟩, ?_⟩
                  · ((subst hS; go_simp; try simp (disch := omega) only [wrap64_id])); try (with_reducible rfl)
                  try trivial
                case endp1 =>
                  intro wE hE
                  simp only [fillT, List.setIfInBounds_toArray, List.set_cons_zero, List.set_cons_succ]
                  rw [hE]
                  clear c0 d0 r0 r1
                  have w1 : IntKind.u64.wrap (z1 + fee - z1) = fee := by rw [IntKind.wrap_u64]; omega
                  have w2 : IntKind.u64.wrap fee = fee := by rw [IntKind.wrap_u64]; omega
                  have t1 : decide (z1 + fee < z1) = false := by simp; omega
                  have t2 : ¬ z1 + fee < z1 := by omega
                  go_wp2
                  refine region_chain (E := []) (kn := [true, true, true, true, true, true, true, true, true, true, true, true, true, true, true, true, true, true, true, true, true, true, true, true, true, true, true, true]) (mask := [true, true, true, true, true, true, true, true, true, true, true, true, true, true, true, true, true, true, true, true, true, true, true, true, true, true, true, true]) (vs := [?vq0_0, ?vq0_1, ?vq0_2, ?vq0_3, ?vq0_4, ?vq0_5, ?vq0_6, ?vq0_7, ?vq0_8, ?vq0_9, ?vq0_10, ?vq0_11, ?vq0_12, ?vq0_13, ?vq0_14, ?vq0_15, ?vq0_16, ?vq0_17, ?vq0_18, ?vq0_19, ?vq0_20, ?vq0_21, ?vq0_22, ?vq0_23, ?vq0_24, ?vq0_25, ?vq0_26, ?vq0_27]) (S := fun w' => w' = w5.drew) (by kernel_rfl) (by kernel_rfl) (by kernel_rfl) (by kernel_rfl) (by kernel_rfl) ?hSq ?hchq
                  case hSq => exact rfl
                  case hchq =>
                    refine chain_nil (by kernel_rfl) rfl ?opsq0 ?endq0
                    case opsq0 =>
                      simp only [OpsAt, fillT, List.setIfInBounds_toArray, List.set_cons_zero, List.set_cons_succ]
                      refine ⟨.inl ⟨by rfl, opOk_pure fun wS hS => ?_⟩, ?_⟩
                      · ((subst hS; go_simp; try simp (disch := omega) only [wrap64_id])); try (with_reducible rfl)
                      refine ⟨.inl ⟨by rfl, opOk_pure fun wS hS => ?_⟩, ?_⟩
                      · ((subst hS; go_simp; try simp (disch := omega) only [wrap64_id])); try (with_reducible rfl)
                      refine ⟨.inl ⟨by rfl, opOk_pure fun wS hS => ?_⟩, ?_⟩
                      · ((subst hS; go_simp; try simp (disch := omega) only [wrap64_id])); try (with_reducible rfl)
                      refine ⟨.inl ⟨by rfl, opOk_pure fun wS hS => ?_⟩, ?_⟩
                      · ((subst hS; go_simp; try simp (disch := omega) only [wrap64_id])); try (with_reducible rfl)
                      refine ⟨.inl ⟨by rfl, opOk_pure fun wS hS => ?_⟩, ?_⟩
                      · ((subst hS; go_simp; try simp (disch := omega) only [wrap64_id])); try (with_reducible rfl)
                      refine ⟨.inl ⟨by rfl, opOk_pure fun wS hS => ?_⟩, ?_⟩
                      · ((subst hS; go_simp; try simp (disch := omega) only [wrap64_id])); try (with_reducible rfl)
                      refine ⟨.inl ⟨by rfl, opOk_pure fun wS hS => ?_⟩, ?_⟩
                      · ((subst hS; go_simp; try simp (disch := omega) only [wrap64_id])); try (with_reducible rfl)
                      refine ⟨.inl ⟨by rfl, opOk_pure fun wS hS => ?_⟩, ?_⟩
                      · ((subst hS; go_simp; try simp (disch := omega) only [wrap64_id])); try (with_reducible rfl)
                      refine ⟨.inl ⟨by rfl, opOk_pure fun wS hS => ?_⟩, ?_⟩
                      · ((subst hS; go_simp; try simp (disch := omega) only [wrap64_id])); try (with_reducible rfl)
                      refine ⟨.inl ⟨by rfl, opOk_pure fun wS hS => ?_⟩, ?_⟩
                      · ((subst hS; go_simp; try simp (disch := omega) only [wrap64_id])); try (with_reducible rfl)
                      refine ⟨.inl ⟨by rfl, opOk_pure fun wS hS => ?_⟩, ?_⟩
                      · ((subst hS; go_simp; try simp (disch := omega) only [wrap64_id])); try (with_reducible rfl)
                      refine ⟨.inl ⟨by rfl, opOk_pure fun wS hS => ?_⟩, ?_⟩
                      · ((subst hS; go_simp; try simp (disch := omega) only [wrap64_id])); try (with_reducible rfl)
                      refine ⟨.inl ⟨by rfl, opOk_pure fun wS hS => ?_⟩, ?_⟩
                      · ((subst hS; go_simp; try simp (disch := omega) only [wrap64_id])); try (with_reducible rfl)
                      refine ⟨.inl ⟨by rfl, opOk_pure fun wS hS => ?_⟩, ?_⟩
                      · ((subst hS; go_simp; try simp (disch := omega) only [wrap64_id])); try (with_reducible rfl)
                      refine ⟨.inl ⟨by rfl, opOk_pure fun wS hS => ?_⟩, ?_⟩
                      · ((subst hS; go_simp; try simp (disch := omega) only [wrap64_id])); try (with_reducible rfl)
                      refine ⟨.inl ⟨by rfl, opOk_pure fun wS hS => ?_⟩, ?_⟩
                      · ((subst hS; go_simp; try simp (disch := omega) only [wrap64_id])); try (with_reducible rfl)
                      refine ⟨.inl ⟨by rfl, opOk_pure fun wS hS => ?_⟩, ?_⟩
                      · ((subst hS; go_simp; try simp (disch := omega) only [wrap64_id])); try (with_reducible rfl)
                      refine ⟨.inl ⟨by rfl, opOk_pure fun wS hS => ?_⟩, ?_⟩
                      · ((subst hS; go_simp; try simp (disch := omega) only [wrap64_id])); try (with_reducible rfl)
                      refine ⟨.inl ⟨by rfl, opOk_pure fun wS hS => ?_⟩, ?_⟩
                      · ((subst hS; go_simp; try simp (disch := omega) only [wrap64_id])); try (with_reducible rfl)
                      refine ⟨.inl ⟨by rfl, opOk_pure fun wS hS => ?_⟩, ?_⟩
                      · ((subst hS; go_simp; try simp (disch := omega) only [wrap64_id])); try (with_reducible rfl)
                      refine ⟨.inl ⟨by rfl, opOk_pure fun wS hS => ?_⟩, ?_⟩
                      · ((subst hS; go_simp; try simp (disch := omega) only [wrap64_id])); try (with_reducible rfl)
                      refine ⟨.inl ⟨by rfl, opOk_pure fun wS hS => ?_⟩, ?_⟩
                      · ((subst hS; go_simp; try simp (disch := omega) only [wrap64_id])); try (with_reducible rfl)
                      refine ⟨.inl ⟨by rfl, opOk_pure fun wS hS => ?_⟩, ?_⟩
                      · ((subst hS; go_simp; try simp (disch := omega) only [wrap64_id])); try (with_reducible rfl)
                      refine ⟨.inl ⟨by rfl, opOk_pure fun wS hS => ?_⟩, ?_⟩
                      · ((subst hS; go_simp; try simp (disch := omega) only [wrap64_id])); try (with_reducible rfl)
                      refine ⟨.inl ⟨by rfl, opOk_pure fun wS hS => ?_⟩, ?_⟩
                      · ((subst hS; go_simp; try simp (disch := omega) only [wrap64_id])); try (with_reducible rfl)
                      refine ⟨.inl ⟨by rfl, opOk_pure fun wS hS => ?_⟩, ?_⟩
                      · ((subst hS; go_simp; try simp (disch := omega) only [wrap64_id])); try (with_reducible rfl)
                      refine ⟨.inl ⟨by rfl, opOk_pure fun wS hS => ?_⟩, ?_⟩
                      · ((subst hS; go_simp; try simp (disch := omega) only [wrap64_id])); try (with_reducible rfl)
                      refine ⟨.inl ⟨by rfl, opOk_pure fun wS hS => ?_⟩, ?_⟩
                      · ((subst hS; go_simp; try simp (disch := omega) only [wrap64_id])); try (with_reducible rfl)
                      try trivial
                    case endq0 =>
                      intro wE hE
                      simp only [fillT, List.setIfInBounds_toArray, List.set_cons_zero, List.set_cons_succ]
                      rw [hE]
                      clear r3 r4
                      go_wp2
                      go_roundw
                      case rel => exact ⟨k + 1, by omega, by go_num, H6.out⟩
                      case measure => (simp [intOf]; try omega)
        · obtain rfl : k = l.length := by omega
          have HS := Lib.hid hS
          clear hS
          go_wp2_with fail
          refine (awake_any _).mono ?_
          rintro e w41 ⟨rfl, hb⟩
          have h41 := HS.out.grow hb
          have H41 := Lib.hid h41
          clear hb h41
          obtain ⟨g, hg, gc, -, hglt⟩ := row_at (H41.out.rowOf (i := 2) rfl) (j := l.length) (by omega)
          subst hg
          have r0 := gc _ ((words_at (i := l.length) (by rw [HSL.out]; omega)).trans (by rw [HLA.out]))
          clear gc
          go_wp2
          go_ret
          exact ⟨rfl, H41.out.below (i := 0) rfl⟩
    · have HB := Lib.hid (backP_bad l hbe)
      obtain ⟨r, hr⟩ : ∃ r, backP a l = r := ⟨_, rfl⟩
      have b1 : ((backP a l).2 == 0) = false := beq_eq_false_iff_ne.2 hbe
      have b2 : ((backP a l).2 != 0) = true := by simp [hbe]
      have b3 : (backP a l).1.length = 0 := by rw [HB.out]; rfl
      clear hr hbe
      go_enter Try.func6, Try.ntmps6
      go_wp2_with fail
      refine (fees_any _ A c l HR.out (by omega)).mono ?_
      rintro e w1 ⟨A1, c1, rfl, g⟩
      have h1 := H0.out.pushThings g
      try simp only [List.cons_append, List.nil_append, List.set_cons_succ, List.set_cons_zero, Nat.zero_add, Nat.reduceAdd] at h1
      have H1 := Lib.hid h1
      clear g h1
      have hf1 := Recs.ofRow (k := 2) (f := feeC) (H1.out.rowOf (i := 1) rfl) (by omega)
      have HF1 := Lib.hid hf1
      clear hf1
      go_wp2_with fail
      refine (back_any _ a ha A1 c1 l HF1.out HU.out (by omega)).mono ?_
      rintro e w2 ⟨A2, c2, rfl, g⟩
      have h2 := H1.out.pushThings g
      try simp only [List.cons_append, List.nil_append, List.set_cons_succ, List.set_cons_zero, Nat.zero_add, Nat.reduceAdd] at h2
      have H2 := Lib.hid h2
      clear g h2
      go_wp2_with fail
      refine (awake_any _).mono ?_
      rintro e w3 ⟨rfl, hb⟩
      have h3 := H2.out.grow hb
      have H3 := Lib.hid h3
      clear hb h3
      go_wp2
      go_ret
      exact ⟨rfl, H3.out.below (i := 0) rfl⟩
end Go.Proofs.Ytonjibjghijacaa
