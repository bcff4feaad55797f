/- Walks over webs: an amount goes over a channel. -/
import Derived.Test.YtjbblgefgjmdaaaAll07
import Derived.Test.YtjbblgefgjmdaaaChainT
namespace Go.Proofs.Ytjbblgefgjmdaaa
set_option linter.unusedVariables false
set_option linter.unusedSimpArgs false
set_option linter.unnecessarySimpa false
open Go.RowKit

theorem WebAt.none (w : World) : WebAt w none 0 none 0 noWeb := ⟨⟨fun _ => ⟨rfl, rfl⟩, (fun ad h => by cases h), Nat.zero_le _⟩, ⟨fun _ => ⟨rfl, rfl⟩, (fun ad h => by cases h), Nat.zero_le _⟩⟩
theorem rowK_at {α : Type} {k : Nat} {f : α → List Value} (hf : ∀ x, (f x).length = k) (hk : 0 < k) {w : World} {B : Nat} {T : TypeId} {A : Option Addr} {c : Nat} {L : List α} (h : w.ownsRow B T k (.slice A L.length c) L.length (L.flatMap f)) {i : Nat} (hi : i < L.length) :
    ∃ g, A = some ⟨g, 0, none⟩ ∧ (∀ (j : Nat) (u : Value), (f L[i])[j]? = some u → w.cell? ⟨g, i * k + j, none⟩ = some u) ∧ (∀ j, w.frozen? ⟨g, j, none⟩ = false) ∧ g < w.heap.size := by
  rcases h.2 with ⟨h1, h2⟩ | ⟨g, cap, cur, h1, h2, h3, h4, h5, h6, h7⟩
  · omega
  · injection h1 with h1
    subst h1
    refine ⟨g, rfl, fun j u hu => ?_, fun j => by simp [World.frozen?, h3], (Array.getElem?_eq_some_iff.1 h3).1⟩
    have hjk : j < k := by have := (List.getElem?_eq_some_iff.1 hu).1; rw [hf] at this; exact this
    have := h.cells (g := g) rfl (i * k + j) u ((recs_at hf hi hjk).trans hu)
    have e : (⟨g, 0, Option.none⟩ : Addr).add (i * k + j) = ⟨g, i * k + j, Option.none⟩ := by unfold Addr.add; split <;> simp_all
    rwa [e] at this
theorem addP_val {a b : Int} (h : (addP a b).2 = 0) : (addP a b).1 = a + b ∧ a + b < 18446744073709551616 := by
  unfold addP at h ⊢
  split at h
  · rename_i h1; rw [if_pos h1]; exact ⟨rfl, h1⟩
  · cases h
theorem sent_bad {x : Wb} {edge node n : Int} (h : chkP x ≠ 0) : sentP x edge node n = (noWeb, chkP x) := by unfold sentP; rw [if_pos h]
theorem sent_out {x : Wb} {edge node n : Int} (hc : chkP x = 0) (h : edge < 0 ∨ (x.edges.length : Int) ≤ edge) : sentP x edge node n = (noWeb, 1) := by unfold sentP; rw [if_neg (by simpa using hc), dif_neg (by omega)]
theorem sent_at {x : Wb} {k : Nat} (hc : chkP x = 0) (hk : k < x.edges.length) (node n : Int) : sentP x k node n =
    if sideP x.edges[k] node < 0 then (noWeb, 1) else if x.edges[k].can (sideP x.edges[k] node) < n then (noWeb, 28) else
    if (addP (x.edges[k].can (1 - sideP x.edges[k] node)) n).2 = 0 then (⟨x.spots, x.edges.set k (x.edges[k].sent (sideP x.edges[k] node) n)⟩, 0) else (noWeb, (addP (x.edges[k].can (1 - sideP x.edges[k] node)) n).2) := by
  unfold sentP
  rw [if_neg (by simpa using hc), dif_pos ⟨by omega, by simpa using hk⟩]
  simp only [Int.toNat_natCast]
theorem ret_web {A1 A2 : Option Addr} {n1 n2 m1 m2 c1 c2 : Nat} {k : IntKind} {a b : Int} (h1 : n1 = m1) (h2 : n2 = m2) (h3 : a = b) : Ending.returned (.tuple #[.agg #[.slice A1 n1 c1, .slice A2 n2 c2], .int k a]) = .returned (.tuple #[.agg #[.slice A1 m1 c1, .slice A2 m2 c2], .int k b]) := by rw [h1, h2, h3]
theorem WebAt.ofRows {w : World} {l : List Asn} {w0 : World} {i j : Nat} {TS TE : TypeId} {A1 A2 : Option Addr} {c1 c2 : Nat} {x : Wb} (h : Sat w0 w l) (hi : l[i]? = some (row TS 2 (.slice A1 x.spots.length c1) x.spots.length (x.spots.flatMap spC))) (hj : l[j]? = some (row TE 8 (.slice A2 x.edges.length c2) x.edges.length (x.edges.flatMap edC)))
    (hs : x.spots.length ≤ 140737488355328 ∧ x.edges.length ≤ 140737488355328) : WebAt w A1 c1 A2 c2 x := ⟨Recs.ofRow (h.rowOf hi) hs.1, Recs.ofRow (h.rowOf hj) hs.2⟩
theorem webCell {w w' : World} {As : Option Addr} {cs : Nat} {Ae : Option Addr} {ce : Nat} {x : Wb} (h : WebAt w As cs Ae ce x) {k : Nat} (hk : k < x.edges.length) : ∃ g off, Ae = some ⟨g, off, none⟩ ∧ g < w.heap.size := by
  obtain ⟨g, off, h1, h2, _⟩ := h.e.at edC_len (by decide) hk
  exact ⟨g, off, h1, h2⟩
set_option maxRecDepth 100000 in
set_option maxHeartbeats 4000000 in
theorem sent_s0 (w : World) (As : Option Addr) (cs : Nat) (Ae : Option Addr) (ce : Nat) (x : Wb) (h : WebAt w As cs Ae ce x) (ok : x.Ok) (edge node n : Int) (hn : U64 n) (he : I64 edge) (hnd : I64 node) (HX : Hid (∀ e, x.edges[edge.toNat]? = some e → sideP e node ≠ 1)) : Calls Try.prog 15 #[.agg #[.slice As x.spots.length cs, .slice Ae x.edges.length ce], .int .i64 edge, .int .i64 node, .int .u64 n] w fun e w' => ∃ A1 c1 A2 c2, e = .returned (.tuple #[.agg #[.slice A1 (sentP x edge node n).1.spots.length c1, .slice A2 (sentP x edge node n).1.edges.length c2], .int .i64 (sentP x edge node n).2]) ∧ WebAt w' A1 c1 A2 c2 (sentP x edge node n).1 ∧ Below w.heap.size w w' := by
  have h1 := ((Sat.pushRest w).alloc #[.slice As x.spots.length cs, .slice Ae x.edges.length ce] 31).alloc #[.slice none 0 0, .slice none 0 0] 31
  try simp only [List.cons_append, List.nil_append, List.set_cons_succ, List.set_cons_zero, Nat.zero_add, Nat.reduceAdd, World.size_alloc, World.size_drew] at h1
  have hck := check_any _ As cs Ae ce x (h.move h1 rfl) ok
  have HW := Lib.hid h
  have H1 := Lib.hid h1
  obtain ⟨e0, e1⟩ := he
  obtain ⟨n0, n1⟩ := hn
  clear h h1
  rcases (show chkP x ≠ 0 ∨ chkP x = 0 by omega) with hz | hz
  · have HZ := Lib.hid (sent_bad (edge := edge) (node := node) (n := n) hz)
    obtain ⟨v, hv⟩ : ∃ v, chkP x = v := ⟨_, rfl⟩
    rw [hv] at hck hz HZ
    have d1 : (v == 0) = false := beq_eq_false_iff_ne.2 hz
    have d2 : (v != 0) = true := by simp [hz]
    have HCK := Lib.hid hck
    clear hck hz hv
    go_enter Try.func15, Try.ntmps15
    go_wp2_with fail
    refine (HCK.out).mono ?_
    rintro e w2 ⟨rfl, hb⟩
    have h2 := H1.out.grow hb
    have k2 := h2.all
    simp only [allFacts, box_facts, row_facts, emp_facts, cellFacts, Nat.zero_add, Nat.reduceAdd, true_and, and_true] at k2
    have H2 := Lib.hid h2
    clear hb h2
    go_wp2
    have hz9 := (H2.out.set 2 rfl 0 (.slice none 0 0)).set 2 rfl 1 (.slice none 0 0)
    have hz8 := hz9.below (i := 0) rfl
    have HZ8 := Lib.hid hz8
    clear hz9 hz8
    refine bodyPost_ret (v := .tuple #[.agg #[.slice none 0 0, .slice none 0 0], .int .i64 v]) (by simp only [results, Try.results15]; go_simp) rfl ⟨none, 0, none, 0, ret_web (by rw [HZ.out]; rfl) (by rw [HZ.out]; rfl) (by rw [HZ.out]), by rw [HZ.out]; exact WebAt.none _, HZ8.out⟩
  · obtain ⟨z1, z2, z3⟩ := chk_zero hz
    rw [hz] at hck
    have HCK := Lib.hid hck
    have HC := Lib.hid hz
    have HB := Lib.hid z3
    clear hck z3 hz
    rcases (show edge < 0 ∨ (0 ≤ edge ∧ (x.edges.length : Int) ≤ edge) ∨ (0 ≤ edge ∧ edge < x.edges.length) by omega) with g0 | ⟨g0, g1⟩ | ⟨g0, g1⟩
    · have HZ := Lib.hid (sent_out (node := node) (n := n) HC.out (.inl g0))
      go_enter Try.func15, Try.ntmps15
      go_wp2_with fail
      refine (HCK.out).mono ?_
      rintro e w2 ⟨rfl, hb⟩
      have h2 := H1.out.grow hb
      have k2 := h2.all
      simp only [allFacts, box_facts, row_facts, emp_facts, cellFacts, Nat.zero_add, Nat.reduceAdd, true_and, and_true] at k2
      have H2 := Lib.hid h2
      clear hb h2
      go_wp2
      have hz9 := (H2.out.set 2 rfl 0 (.slice none 0 0)).set 2 rfl 1 (.slice none 0 0)
      have hz8 := hz9.below (i := 0) rfl
      have HZ8 := Lib.hid hz8
      clear hz9 hz8
      refine bodyPost_ret (v := .tuple #[.agg #[.slice none 0 0, .slice none 0 0], .int .i64 1]) (by simp only [results, Try.results15]; go_simp) rfl ⟨none, 0, none, 0, ret_web (by rw [HZ.out]; rfl) (by rw [HZ.out]; rfl) (by rw [HZ.out]), by rw [HZ.out]; exact WebAt.none _, HZ8.out⟩
    · have HZ := Lib.hid (sent_out (node := node) (n := n) HC.out (.inr g1))
      go_enter Try.func15, Try.ntmps15
      go_wp2_with fail
      refine (HCK.out).mono ?_
      rintro e w2 ⟨rfl, hb⟩
      have h2 := H1.out.grow hb
      have k2 := h2.all
      simp only [allFacts, box_facts, row_facts, emp_facts, cellFacts, Nat.zero_add, Nat.reduceAdd, true_and, and_true] at k2
      have H2 := Lib.hid h2
      clear hb h2
      go_wp2
      have hz9 := (H2.out.set 2 rfl 0 (.slice none 0 0)).set 2 rfl 1 (.slice none 0 0)
      have hz8 := hz9.below (i := 0) rfl
      have HZ8 := Lib.hid hz8
      clear hz9 hz8
      refine bodyPost_ret (v := .tuple #[.agg #[.slice none 0 0, .slice none 0 0], .int .i64 1]) (by simp only [results, Try.results15]; go_simp) rfl ⟨none, 0, none, 0, ret_web (by rw [HZ.out]; rfl) (by rw [HZ.out]; rfl) (by rw [HZ.out]), by rw [HZ.out]; exact WebAt.none _, HZ8.out⟩
    · obtain ⟨k, rfl⟩ : ∃ k : Nat, edge = k := ⟨edge.toNat, by omega⟩
      have hlt : k < x.edges.length := by omega
      have hsa := sent_at HC.out hlt node n
      have hok := ok.e x.edges[k] (List.getElem_mem hlt)
      skip
      obtain ⟨g, off, rfl, hb, hc⟩ := HW.out.e.at edC_len (by decide) hlt
      have hlt2 : k < x.edges.length := hlt
      have hgk : x.edges[k]? = some x.edges[k] := List.getElem?_eq_getElem hlt
      generalize hed : x.edges[k] = ed at *
      obtain ⟨a, b, c0, c1, b0, r0, b1, r1⟩ := ed
      try dsimp only at hok
      have HC := Lib.hid hc
      clear hed hc
      have HSA := Lib.hid hsa
      have HGK := Lib.hid hgk
      obtain ⟨o1, o2, o3, o4, -, -, -, -⟩ := hok
      dsimp only at o1 o2 o3 o4
      clear hsa hgk hlt2
      rcases side_cases ⟨a, b, c0, c1, b0, r0, b1, r1⟩ node with ⟨hs, ha⟩ | ⟨hs, hb1, ha⟩ | ⟨hs, ha, hb1⟩
      · have hsd := fun w => side_any w a b c0 c1 b0 r0 b1 r1 node
        rw [hs] at hsd
        have HSD := Lib.hid hsd
        have hsa := HSA.out
        rw [hs] at hsa
        have HAQ := Lib.hid (fun w => add_any c1 n o4 ⟨n0, n1⟩ w)
        obtain ⟨u0, u1⟩ := o3
        clear hs ha hsd
        rcases (show c0 < n ∨ n ≤ c0 by omega) with r1' | r1'
        · have HZ := Lib.hid (hsa.trans ((if_neg (by decide)).trans (if_pos (show _ < n from r1'))))
          clear hsa HAQ
          go_enter Try.func15, Try.ntmps15
          go_wp2_with fail
          refine (HCK.out).mono ?_
          rintro e w2 ⟨rfl, hb⟩
          have h2 := H1.out.grow hb
          have k2 := h2.all
          simp only [allFacts, box_facts, row_facts, emp_facts, cellFacts, Nat.zero_add, Nat.reduceAdd, true_and, and_true] at k2
          have H2 := Lib.hid h2
          clear hb h2
          have q0 := restCell H2.out rfl hb (HC.out 0 _ rfl)
          have q1 := restCell H2.out rfl hb (HC.out 1 _ rfl)
          have q2 := restCell H2.out rfl hb (HC.out 2 _ rfl)
          have q3 := restCell H2.out rfl hb (HC.out 3 _ rfl)
          have q4 := restCell H2.out rfl hb (HC.out 4 _ rfl)
          have q5 := restCell H2.out rfl hb (HC.out 5 _ rfl)
          have q6 := restCell H2.out rfl hb (HC.out 6 _ rfl)
          have q7 := restCell H2.out rfl hb (HC.out 7 _ rfl)
          rw [Nat.add_zero] at q0
          go_wp2_with fail
          refine (HSD.out _).mono ?_
          rintro e w3 ⟨rfl, hb⟩
          clear q0 q1 q2 q3 q4 q5 q6 q7
          have h3 := H2.out.grow hb
          have k3 := h3.all
          simp only [allFacts, box_facts, row_facts, emp_facts, cellFacts, Nat.zero_add, Nat.reduceAdd, true_and, and_true] at k3
          clear k2
          have H3 := Lib.hid h3
          clear hb h3
          go_wp2_with fail
          refine region_chainT (m := 4) (E := [2, 5, 7, 8]) (kn := [true, true, false, true, true, false, false, false, false]) (mask := [true, true, false, true, true, false, false, false, false]) (vs := [?vr0r0_0_u4, ?vr0r0_1_u4, undef, ?vr0r0_3_u4, ?vr0r0_4_u4, undef, undef, undef, undef]) (S := fun w' => w' = w3.drew) (by kernel_rfl) (by kernel_rfl) (by kernel_rfl) (by kernel_rfl) (by kernel_rfl) ?hSr0r_u4 ?hchr0r_u4
          case hSr0r_u4 => exact rfl
          case hchr0r_u4 =>
            refine chainT_two 2 7 (by decide) (by kernel_rfl) rfl ?opsr0r0_u4 ?mr0r0_0_u4 ?mr0r0_1_u4
            case opsr0r0_u4 =>
              simp only [OpsAt, fillT, List.setIfInBounds_toArray, List.set_cons_zero, List.set_cons_succ]
              refine ⟨.inl ⟨by rfl, opOk_pure fun wS hS => ?_⟩, ?_⟩
              · ((subst hS; go_simp)); try (with_reducible rfl)
              refine ⟨.inl ⟨by rfl, opOk_pure fun wS hS => ?_⟩, ?_⟩
              · ((subst hS; go_simp)); try (with_reducible rfl)
              refine ⟨.inl ⟨by rfl, opOk_pure fun wS hS => ?_⟩, ?_⟩
              · ((subst hS; go_simp)); try (with_reducible rfl)
              refine ⟨.inl ⟨by rfl, opOk_pure fun wS hS => ?_⟩, ?_⟩
              · ((subst hS; go_simp)); try (with_reducible rfl)
              try trivial
            case mr0r0_0_u4 =>
              refine makeT _ rfl ?wantr0r0_0_u4 ?effr0r0_0_u4
              case wantr0r0_0_u4 => (try simp only [fillT, List.setIfInBounds_toArray, List.set_cons_zero, List.set_cons_succ]) <;> rfl
              intro wS hS
              simp only [fillT, List.setIfInBounds_toArray, List.set_cons_zero, List.set_cons_succ]
              rw [hS]
              refine eff_call (f := 28) (args := #[.slice As x.spots.length cs]) (by go_simp) ?_
              refine (cloneS_any (w3.drew) As cs x.spots (HW.out.s.mono (src_rest (H3.out.drew) (i := 0) rfl HW.out.s.src (src_lt HW.out.s.src))) (by omega)).mono ?_
              rintro e y1 ⟨A1, C1, rfl, gq⟩
              have hs1 := (H3.out.drew).pushThings gq
              try simp only [List.cons_append, List.nil_append, List.set_cons_succ, List.set_cons_zero, Nat.zero_add, Nat.reduceAdd, World.size_alloc, World.size_drew] at hs1
              have kk1 := hs1.all
              simp only [allFacts, box_facts, row_facts, emp_facts, cellFacts, Nat.zero_add, Nat.reduceAdd, true_and, and_true] at kk1
              have HS1 := Lib.hid hs1
              clear hs1
              clear gq
              refine ⟨_, rfl, ?_⟩
              refine ⟨_, [true, true, true, true, true, false, false, false, false], [false, false, false, true, true, false, false, false, false], [1, 0], [?vr0r1_0_u4, ?vr0r1_1_u4, (.slice A1 x.spots.length C1), ?vr0r1_3_u4, ?vr0r1_4_u4, undef, undef, undef, undef], fun w' => w' = y1, rfl, rfl, ?samer0r1_u4, by kernel_rfl, ?hSr0r1_u4, ?nxr0r1_u4⟩
              case samer0r1_u4 =>
                refine And.intro ?_ ?_
                · with_reducible rfl
                refine And.intro ?_ ?_
                · with_reducible rfl
                refine And.intro ?_ ?_
                · with_reducible rfl
                refine And.intro ?_ ?_
                · with_reducible rfl
                trivial
              case hSr0r1_u4 => rfl
              case nxr0r1_u4 =>
                refine chainT_two 5 7 (by decide) (by kernel_rfl) rfl ?opsr0r1_u4 ?mr0r1_0_u4 ?mr0r1_1_u4
                case opsr0r1_u4 =>
                  simp only [OpsAt, fillT, List.setIfInBounds_toArray, List.set_cons_zero, List.set_cons_succ]
                  refine ⟨.inl ⟨by rfl, opOk_pure fun wS hS => ?_⟩, ?_⟩
                  · ((subst hS; go_simp)); try (with_reducible rfl)
                  refine ⟨.inl ⟨by rfl, opOk_pure fun wS hS => ?_⟩, ?_⟩
                  · ((subst hS; go_simp)); try (with_reducible rfl)
                  try trivial
                case mr0r1_0_u4 =>
                  refine makeT _ rfl ?wantr0r1_0_u4 ?effr0r1_0_u4
                  case wantr0r1_0_u4 => (try simp only [fillT, List.setIfInBounds_toArray, List.set_cons_zero, List.set_cons_succ]) <;> rfl
                  intro wS hS
                  simp only [fillT, List.setIfInBounds_toArray, List.set_cons_zero, List.set_cons_succ]
                  rw [hS]
                  refine eff_call (f := 29) (args := #[.slice (some ⟨g, off, none⟩) x.edges.length ce]) (by go_simp) ?_
                  refine (cloneE_any (y1) (some ⟨g, off, none⟩) ce x.edges (HW.out.e.mono (src_rest (HS1.out) (i := 0) rfl HW.out.e.src (src_lt HW.out.e.src))) (by omega)).mono ?_
                  rintro e y2 ⟨A2, C2, rfl, gq⟩
                  have hs2 := (HS1.out).pushThings gq
                  try simp only [List.cons_append, List.nil_append, List.set_cons_succ, List.set_cons_zero, Nat.zero_add, Nat.reduceAdd, World.size_alloc, World.size_drew] at hs2
                  have kk2 := hs2.all
                  simp only [allFacts, box_facts, row_facts, emp_facts, cellFacts, Nat.zero_add, Nat.reduceAdd, true_and, and_true] at kk2
                  have HS2 := Lib.hid hs2
                  clear hs2
                  clear gq
                  refine ⟨_, rfl, ?_⟩
                  refine ⟨_, [true, true, true, true, true, true, true, false, false], [false, false, false, false, false, false, true, false, false], [4, 3], [?vr0r2_0_u4, ?vr0r2_1_u4, (.slice A1 x.spots.length C1), ?vr0r2_3_u4, ?vr0r2_4_u4, (.slice A2 x.edges.length C2), ?vr0r2_6_u4, undef, undef], fun w' => w' = y2, rfl, rfl, ?samer0r2_u4, by kernel_rfl, ?hSr0r2_u4, ?nxr0r2_u4⟩
                  case samer0r2_u4 =>
                    refine And.intro ?_ ?_
                    · with_reducible rfl
                    refine And.intro ?_ ?_
                    · with_reducible rfl
                    refine And.intro ?_ ?_
                    · with_reducible rfl
                    refine And.intro ?_ ?_
                    · with_reducible rfl
                    refine And.intro ?_ ?_
                    · with_reducible rfl
                    trivial
                  case hSr0r2_u4 => rfl
                  case nxr0r2_u4 =>
                    refine chainT_one 7 (by decide) (by kernel_rfl) rfl ?opsr0r2_u4 ?mr0r2_0_u4
                    case opsr0r2_u4 =>
                      simp only [OpsAt, fillT, List.setIfInBounds_toArray, List.set_cons_zero, List.set_cons_succ]
                      refine ⟨.inl ⟨by rfl, opOk_pure fun wS hS => ?_⟩, ?_⟩
                      · ((subst hS; go_simp)); try (with_reducible rfl)
                      try trivial
                    case mr0r2_0_u4 =>
                      refine makeT _ rfl ?wantr0r2_0_u4 ?effr0r2_0_u4
                      case wantr0r2_0_u4 => (try simp only [fillT, List.setIfInBounds_toArray, List.set_cons_zero, List.set_cons_succ]) <;> rfl
                      intro wS hS
                      simp only [fillT, List.setIfInBounds_toArray, List.set_cons_zero, List.set_cons_succ]
                      rw [hS]
                      refine eff_run (w' := (y2).alloc (.cells #[.slice none 0 0, .slice none 0 0] 31)) (by go_simp; try rfl) ?_
                      have hs3 := (HS2.out).alloc #[.slice none 0 0, .slice none 0 0] 31
                      try simp only [List.cons_append, List.nil_append, List.set_cons_succ, List.set_cons_zero, Nat.zero_add, Nat.reduceAdd, World.size_alloc, World.size_drew] at hs3
                      have kk3 := hs3.all
                      simp only [allFacts, box_facts, row_facts, emp_facts, cellFacts, Nat.zero_add, Nat.reduceAdd, true_and, and_true] at kk3
                      have HS3 := Lib.hid hs3
                      clear hs3
                      refine ⟨_, [true, true, true, true, true, true, true, true, false], [false, false, false, false, false, false, true, false, false], [], [?vr0r3_0_u4, ?vr0r3_1_u4, (.slice A1 x.spots.length C1), ?vr0r3_3_u4, ?vr0r3_4_u4, (.slice A2 x.edges.length C2), ?vr0r3_6_u4, (.pointer (some ⟨(y2).heap.size, 0, none⟩)), undef], fun w' => w' = (y2).alloc (.cells #[.slice none 0 0, .slice none 0 0] 31), rfl, rfl, ?samer0r3_u4, by kernel_rfl, ?hSr0r3_u4, ?nxr0r3_u4⟩
                      case samer0r3_u4 =>
                        refine And.intro ?_ ?_
                        · with_reducible rfl
                        refine And.intro ?_ ?_
                        · with_reducible rfl
                        refine And.intro ?_ ?_
                        · with_reducible rfl
                        refine And.intro ?_ ?_
                        · with_reducible rfl
                        refine And.intro ?_ ?_
                        · with_reducible rfl
                        refine And.intro ?_ ?_
                        · with_reducible rfl
                        refine And.intro ?_ ?_
                        · with_reducible rfl
                        trivial
                      case hSr0r3_u4 => rfl
                      case nxr0r3_u4 =>
                        refine chainT_one 8 (by decide) (by kernel_rfl) rfl ?opsr0r3_u4 ?mr0r3_0_u4
                        case opsr0r3_u4 =>
                          simp only [OpsAt, fillT, List.setIfInBounds_toArray, List.set_cons_zero, List.set_cons_succ]
                          refine ⟨.inl ⟨by rfl, opOk_pure fun wS hS => ?_⟩, ?_⟩
                          · ((subst hS; go_simp)); try (with_reducible rfl)
                          try trivial
                        case mr0r3_0_u4 =>
                          refine makeT _ rfl ?wantr0r3_0_u4 ?effr0r3_0_u4
                          case wantr0r3_0_u4 => (try simp only [fillT, List.setIfInBounds_toArray, List.set_cons_zero, List.set_cons_succ]) <;> rfl
                          intro wS hS
                          simp only [fillT, List.setIfInBounds_toArray, List.set_cons_zero, List.set_cons_succ]
                          rw [hS]
                          refine eff_skip (w' := (((y2).alloc (.cells #[.slice none 0 0, .slice none 0 0] 31)).setCell ⟨(y2).heap.size, 0, none⟩ (.slice A1 x.spots.length C1)).setCell ⟨(y2).heap.size, 1, none⟩ (.slice A2 x.edges.length C2)) ?run_u1_u4 ?pp_u1_u4
                          case run_u1_u4 => go_simp
                          case pp_u1_u4 =>
                            have hs4 := ((HS3.out).set 5 rfl 0 (.slice A1 x.spots.length C1)).set 5 rfl 1 (.slice A2 x.edges.length C2)
                            try simp only [List.cons_append, List.nil_append, List.set_cons_succ, List.set_cons_zero, Nat.zero_add, Nat.reduceAdd, World.size_alloc, World.size_drew] at hs4
                            have HS4 := Lib.hid hs4
                            clear hs4
                            refine ⟨_, [true, true, true, true, true, true, true, true, true], [false, false, false, false, false, false, false, false, false], [6], [?vr0r4_0_u4, ?vr0r4_1_u4, (.slice A1 x.spots.length C1), ?vr0r4_3_u4, ?vr0r4_4_u4, (.slice A2 x.edges.length C2), ?vr0r4_6_u4, (.pointer (some ⟨(y2).heap.size, 0, none⟩)), undef], fun w' => w' = (((y2).alloc (.cells #[.slice none 0 0, .slice none 0 0] 31)).setCell ⟨(y2).heap.size, 0, none⟩ (.slice A1 x.spots.length C1)).setCell ⟨(y2).heap.size, 1, none⟩ (.slice A2 x.edges.length C2), rfl, rfl, ?samer0r4_u4, by kernel_rfl, ?hSr0r4_u4, ?nxr0r4_u4⟩
                            case samer0r4_u4 =>
                              refine And.intro ?_ ?_
                              · with_reducible rfl
                              refine And.intro ?_ ?_
                              · with_reducible rfl
                              refine And.intro ?_ ?_
                              · with_reducible rfl
                              refine And.intro ?_ ?_
                              · with_reducible rfl
                              refine And.intro ?_ ?_
                              · with_reducible rfl
                              refine And.intro ?_ ?_
                              · with_reducible rfl
                              refine And.intro ?_ ?_
                              · with_reducible rfl
                              refine And.intro ?_ ?_
                              · with_reducible rfl
                              trivial
                            case hSr0r4_u4 => rfl
                            case nxr0r4_u4 =>
                              refine chainT_nil (by rfl) (by kernel_rfl) rfl ?opsr0r4_u4 ?endr0r4_u4
                              case opsr0r4_u4 =>
                                simp only [OpsAt, fillT, List.setIfInBounds_toArray, List.set_cons_zero, List.set_cons_succ]
                                try trivial
                              case endr0r4_u4 =>
                                intro wE hE
                                simp only [fillT, List.setIfInBounds_toArray, List.set_cons_zero, List.set_cons_succ]
                                rw [hE]
                                have ht := (HS4.out).pick [0, 1, 2, 3, 4, 5] (by decide)
                                simp only [List.filterMap_cons, List.filterMap_nil, List.getElem?_cons_zero, List.getElem?_cons_succ] at ht
                                try clear kk1
                                try clear kk2
                                try clear kk3
                                try clear kk4
                                clear hE
                                generalize (y2).heap.size = p at ht ⊢
                                generalize (((y2).alloc (.cells #[.slice none 0 0, .slice none 0 0] 31)).setCell ⟨p, 0, none⟩ (.slice A1 x.spots.length C1)).setCell ⟨p, 1, none⟩ (.slice A2 x.edges.length C2) = wx at ht ⊢
                                have HT := Lib.hid ht
                                clear ht
                                obtain ⟨gE, hgE, gc, gf, glt⟩ := rowK_at edC_len (by decide) (HT.out.rowOf (i := 4) rfl) (i := k) hlt
                                subst hgE
                                have hek : x.edges[k] = ⟨a, b, c0, c1, b0, r0, b1, r1⟩ := Option.some.inj ((List.getElem?_eq_getElem hlt).symm.trans HGK.out)
                                rw [hek] at gc
                                have s2 := gc 2 _ rfl
                                have s3 := gc 3 _ rfl
                                have f2 := gf (k * 8 + 2)
                                have f3 := gf (k * 8 + 3)
                                clear gc gf hek
                                have k9 := HT.out.all
                                simp only [allFacts, box_facts, row_facts, emp_facts, cellFacts, Nat.zero_add, Nat.reduceAdd, true_and, and_true] at k9
                                go_wp2
                                have hz9 := (HT.out.set 2 rfl 0 (.slice none 0 0)).set 2 rfl 1 (.slice none 0 0)
                                have hz8 := hz9.below (i := 0) rfl
                                have HZ8 := Lib.hid hz8
                                clear hz9 hz8
                                refine bodyPost_ret (v := .tuple #[.agg #[.slice none 0 0, .slice none 0 0], .int .i64 28]) (by simp only [results, Try.results15]; go_simp) rfl ⟨none, 0, none, 0, ret_web (by rw [HZ.out]; rfl) (by rw [HZ.out]; rfl) (by rw [HZ.out]), by rw [HZ.out]; exact WebAt.none _, HZ8.out⟩
                case mr0r1_1_u4 =>
                  refine makeT _ rfl ?wantr0r1_1_u4 ?effr0r1_1_u4
                  case wantr0r1_1_u4 => (try simp only [fillT, List.setIfInBounds_toArray, List.set_cons_zero, List.set_cons_succ]) <;> rfl
                  intro wS hS
                  simp only [fillT, List.setIfInBounds_toArray, List.set_cons_zero, List.set_cons_succ]
                  rw [hS]
                  refine eff_run (w' := (y1).alloc (.cells #[.slice none 0 0, .slice none 0 0] 31)) (by go_simp; try rfl) ?_
                  have hs5 := (HS1.out).alloc #[.slice none 0 0, .slice none 0 0] 31
                  try simp only [List.cons_append, List.nil_append, List.set_cons_succ, List.set_cons_zero, Nat.zero_add, Nat.reduceAdd, World.size_alloc, World.size_drew] at hs5
                  have kk5 := hs5.all
                  simp only [allFacts, box_facts, row_facts, emp_facts, cellFacts, Nat.zero_add, Nat.reduceAdd, true_and, and_true] at kk5
                  have HS5 := Lib.hid hs5
                  clear hs5
                  refine ⟨_, [true, true, true, true, true, false, false, true, false], [false, false, false, true, true, false, false, false, false], [], [?vr0r5_0_u4, ?vr0r5_1_u4, (.slice A1 x.spots.length C1), ?vr0r5_3_u4, ?vr0r5_4_u4, undef, undef, (.pointer (some ⟨(y1).heap.size, 0, none⟩)), undef], fun w' => w' = (y1).alloc (.cells #[.slice none 0 0, .slice none 0 0] 31), rfl, rfl, ?samer0r5_u4, by kernel_rfl, ?hSr0r5_u4, ?nxr0r5_u4⟩
                  case samer0r5_u4 =>
                    refine And.intro ?_ ?_
                    · with_reducible rfl
                    refine And.intro ?_ ?_
                    · with_reducible rfl
                    refine And.intro ?_ ?_
                    · with_reducible rfl
                    refine And.intro ?_ ?_
                    · with_reducible rfl
                    refine And.intro ?_ ?_
                    · with_reducible rfl
                    trivial
                  case hSr0r5_u4 => rfl
                  case nxr0r5_u4 =>
                    refine chainT_one 5 (by decide) (by kernel_rfl) rfl ?opsr0r5_u4 ?mr0r5_0_u4
                    case opsr0r5_u4 =>
                      simp only [OpsAt, fillT, List.setIfInBounds_toArray, List.set_cons_zero, List.set_cons_succ]
                      refine ⟨.inl ⟨by rfl, opOk_pure fun wS hS => ?_⟩, ?_⟩
                      · ((subst hS; go_simp)); try (with_reducible rfl)
                      refine ⟨.inl ⟨by rfl, opOk_pure fun wS hS => ?_⟩, ?_⟩
                      · ((subst hS; go_simp)); try (with_reducible rfl)
                      try trivial
                    case mr0r5_0_u4 =>
                      refine makeT _ rfl ?wantr0r5_0_u4 ?effr0r5_0_u4
                      case wantr0r5_0_u4 => (try simp only [fillT, List.setIfInBounds_toArray, List.set_cons_zero, List.set_cons_succ]) <;> rfl
                      intro wS hS
                      simp only [fillT, List.setIfInBounds_toArray, List.set_cons_zero, List.set_cons_succ]
                      rw [hS]
                      refine eff_call (f := 29) (args := #[.slice (some ⟨g, off, none⟩) x.edges.length ce]) (by go_simp) ?_
                      refine (cloneE_any ((y1).alloc (.cells #[.slice none 0 0, .slice none 0 0] 31)) (some ⟨g, off, none⟩) ce x.edges (HW.out.e.mono (src_rest (HS5.out) (i := 0) rfl HW.out.e.src (src_lt HW.out.e.src))) (by omega)).mono ?_
                      rintro e y6 ⟨A6, C6, rfl, gq⟩
                      have hs6 := (HS5.out).pushThings gq
                      try simp only [List.cons_append, List.nil_append, List.set_cons_succ, List.set_cons_zero, Nat.zero_add, Nat.reduceAdd, World.size_alloc, World.size_drew] at hs6
                      have kk6 := hs6.all
                      simp only [allFacts, box_facts, row_facts, emp_facts, cellFacts, Nat.zero_add, Nat.reduceAdd, true_and, and_true] at kk6
                      have HS6 := Lib.hid hs6
                      clear hs6
                      clear gq
                      refine ⟨_, rfl, ?_⟩
                      refine ⟨_, [true, true, true, true, true, true, true, true, false], [false, false, false, false, false, false, true, false, false], [4, 3], [?vr0r6_0_u4, ?vr0r6_1_u4, (.slice A1 x.spots.length C1), ?vr0r6_3_u4, ?vr0r6_4_u4, (.slice A6 x.edges.length C6), ?vr0r6_6_u4, (.pointer (some ⟨(y1).heap.size, 0, none⟩)), undef], fun w' => w' = y6, rfl, rfl, ?samer0r6_u4, by kernel_rfl, ?hSr0r6_u4, ?nxr0r6_u4⟩
                      case samer0r6_u4 =>
                        refine And.intro ?_ ?_
                        · with_reducible rfl
                        refine And.intro ?_ ?_
                        · with_reducible rfl
                        refine And.intro ?_ ?_
                        · with_reducible rfl
                        refine And.intro ?_ ?_
                        · with_reducible rfl
                        refine And.intro ?_ ?_
                        · with_reducible rfl
                        refine And.intro ?_ ?_
                        · with_reducible rfl
                        trivial
                      case hSr0r6_u4 => rfl
                      case nxr0r6_u4 =>
                        refine chainT_one 8 (by decide) (by kernel_rfl) rfl ?opsr0r6_u4 ?mr0r6_0_u4
                        case opsr0r6_u4 =>
                          simp only [OpsAt, fillT, List.setIfInBounds_toArray, List.set_cons_zero, List.set_cons_succ]
                          refine ⟨.inl ⟨by rfl, opOk_pure fun wS hS => ?_⟩, ?_⟩
                          · ((subst hS; go_simp)); try (with_reducible rfl)
                          try trivial
                        case mr0r6_0_u4 =>
                          refine makeT _ rfl ?wantr0r6_0_u4 ?effr0r6_0_u4
                          case wantr0r6_0_u4 => (try simp only [fillT, List.setIfInBounds_toArray, List.set_cons_zero, List.set_cons_succ]) <;> rfl
                          intro wS hS
                          simp only [fillT, List.setIfInBounds_toArray, List.set_cons_zero, List.set_cons_succ]
                          rw [hS]
                          refine eff_skip (w' := ((y6).setCell ⟨(y1).heap.size, 0, none⟩ (.slice A1 x.spots.length C1)).setCell ⟨(y1).heap.size, 1, none⟩ (.slice A6 x.edges.length C6)) ?run_u2_u4 ?pp_u2_u4
                          case run_u2_u4 => go_simp
                          case pp_u2_u4 =>
                            have hs7 := ((HS6.out).set 4 rfl 0 (.slice A1 x.spots.length C1)).set 4 rfl 1 (.slice A6 x.edges.length C6)
                            try simp only [List.cons_append, List.nil_append, List.set_cons_succ, List.set_cons_zero, Nat.zero_add, Nat.reduceAdd, World.size_alloc, World.size_drew] at hs7
                            have HS7 := Lib.hid hs7
                            clear hs7
                            refine ⟨_, [true, true, true, true, true, true, true, true, true], [false, false, false, false, false, false, false, false, false], [6], [?vr0r7_0_u4, ?vr0r7_1_u4, (.slice A1 x.spots.length C1), ?vr0r7_3_u4, ?vr0r7_4_u4, (.slice A6 x.edges.length C6), ?vr0r7_6_u4, (.pointer (some ⟨(y1).heap.size, 0, none⟩)), undef], fun w' => w' = ((y6).setCell ⟨(y1).heap.size, 0, none⟩ (.slice A1 x.spots.length C1)).setCell ⟨(y1).heap.size, 1, none⟩ (.slice A6 x.edges.length C6), rfl, rfl, ?samer0r7_u4, by kernel_rfl, ?hSr0r7_u4, ?nxr0r7_u4⟩
                            case samer0r7_u4 =>
                              refine And.intro ?_ ?_
                              · with_reducible rfl
                              refine And.intro ?_ ?_
                              · with_reducible rfl
                              refine And.intro ?_ ?_
                              · with_reducible rfl
                              refine And.intro ?_ ?_
                              · with_reducible rfl
                              refine And.intro ?_ ?_
                              · with_reducible rfl
                              refine And.intro ?_ ?_
                              · with_reducible rfl
                              refine And.intro ?_ ?_
                              · with_reducible rfl
                              refine And.intro ?_ ?_
                              · with_reducible rfl
                              trivial
                            case hSr0r7_u4 => rfl
                            case nxr0r7_u4 =>
                              refine chainT_nil (by rfl) (by kernel_rfl) rfl ?opsr0r7_u4 ?endr0r7_u4
                              case opsr0r7_u4 =>
                                simp only [OpsAt, fillT, List.setIfInBounds_toArray, List.set_cons_zero, List.set_cons_succ]
                                try trivial
                              case endr0r7_u4 =>
                                intro wE hE
                                simp only [fillT, List.setIfInBounds_toArray, List.set_cons_zero, List.set_cons_succ]
                                rw [hE]
                                have ht := (HS7.out).pick [0, 1, 2, 3, 5, 4] (by decide)
                                simp only [List.filterMap_cons, List.filterMap_nil, List.getElem?_cons_zero, List.getElem?_cons_succ] at ht
                                try clear kk1
                                try clear kk2
                                try clear kk3
                                try clear kk4
                                try clear kk5
                                try clear kk6
                                try clear kk7
                                clear hE
                                generalize (y1).heap.size = p at ht ⊢
                                generalize ((y6).setCell ⟨p, 0, none⟩ (.slice A1 x.spots.length C1)).setCell ⟨p, 1, none⟩ (.slice A6 x.edges.length C6) = wx at ht ⊢
                                have HT := Lib.hid ht
                                clear ht
                                obtain ⟨gE, hgE, gc, gf, glt⟩ := rowK_at edC_len (by decide) (HT.out.rowOf (i := 4) rfl) (i := k) hlt
                                subst hgE
                                have hek : x.edges[k] = ⟨a, b, c0, c1, b0, r0, b1, r1⟩ := Option.some.inj ((List.getElem?_eq_getElem hlt).symm.trans HGK.out)
                                rw [hek] at gc
                                have s2 := gc 2 _ rfl
                                have s3 := gc 3 _ rfl
                                have f2 := gf (k * 8 + 2)
                                have f3 := gf (k * 8 + 3)
                                clear gc gf hek
                                have k9 := HT.out.all
                                simp only [allFacts, box_facts, row_facts, emp_facts, cellFacts, Nat.zero_add, Nat.reduceAdd, true_and, and_true] at k9
                                go_wp2
                                have hz9 := (HT.out.set 2 rfl 0 (.slice none 0 0)).set 2 rfl 1 (.slice none 0 0)
                                have hz8 := hz9.below (i := 0) rfl
                                have HZ8 := Lib.hid hz8
                                clear hz9 hz8
                                refine bodyPost_ret (v := .tuple #[.agg #[.slice none 0 0, .slice none 0 0], .int .i64 28]) (by simp only [results, Try.results15]; go_simp) rfl ⟨none, 0, none, 0, ret_web (by rw [HZ.out]; rfl) (by rw [HZ.out]; rfl) (by rw [HZ.out]), by rw [HZ.out]; exact WebAt.none _, HZ8.out⟩
            case mr0r0_1_u4 =>
              refine makeT _ rfl ?wantr0r0_1_u4 ?effr0r0_1_u4
              case wantr0r0_1_u4 => (try simp only [fillT, List.setIfInBounds_toArray, List.set_cons_zero, List.set_cons_succ]) <;> rfl
              intro wS hS
              simp only [fillT, List.setIfInBounds_toArray, List.set_cons_zero, List.set_cons_succ]
              rw [hS]
              refine eff_run (w' := (w3.drew).alloc (.cells #[.slice none 0 0, .slice none 0 0] 31)) (by go_simp; try rfl) ?_
              have hs8 := (H3.out.drew).alloc #[.slice none 0 0, .slice none 0 0] 31
              try simp only [List.cons_append, List.nil_append, List.set_cons_succ, List.set_cons_zero, Nat.zero_add, Nat.reduceAdd, World.size_alloc, World.size_drew] at hs8
              have kk8 := hs8.all
              simp only [allFacts, box_facts, row_facts, emp_facts, cellFacts, Nat.zero_add, Nat.reduceAdd, true_and, and_true] at kk8
              have HS8 := Lib.hid hs8
              clear hs8
              refine ⟨_, [true, true, false, true, true, false, false, true, false], [true, true, false, true, true, false, false, false, false], [], [?vr0r8_0_u4, ?vr0r8_1_u4, undef, ?vr0r8_3_u4, ?vr0r8_4_u4, undef, undef, (.pointer (some ⟨(w3).heap.size, 0, none⟩)), undef], fun w' => w' = (w3.drew).alloc (.cells #[.slice none 0 0, .slice none 0 0] 31), rfl, rfl, ?samer0r8_u4, by kernel_rfl, ?hSr0r8_u4, ?nxr0r8_u4⟩
              case samer0r8_u4 =>
                refine And.intro ?_ ?_
                · with_reducible rfl
                refine And.intro ?_ ?_
                · with_reducible rfl
                refine And.intro ?_ ?_
                · with_reducible rfl
                refine And.intro ?_ ?_
                · with_reducible rfl
                trivial
              case hSr0r8_u4 => rfl
              case nxr0r8_u4 =>
                refine chainT_one 2 (by decide) (by kernel_rfl) rfl ?opsr0r8_u4 ?mr0r8_0_u4
                case opsr0r8_u4 =>
                  simp only [OpsAt, fillT, List.setIfInBounds_toArray, List.set_cons_zero, List.set_cons_succ]
                  refine ⟨.inl ⟨by rfl, opOk_pure fun wS hS => ?_⟩, ?_⟩
                  · ((subst hS; go_simp)); try (with_reducible rfl)
                  refine ⟨.inl ⟨by rfl, opOk_pure fun wS hS => ?_⟩, ?_⟩
                  · ((subst hS; go_simp)); try (with_reducible rfl)
                  refine ⟨.inl ⟨by rfl, opOk_pure fun wS hS => ?_⟩, ?_⟩
                  · ((subst hS; go_simp)); try (with_reducible rfl)
                  refine ⟨.inl ⟨by rfl, opOk_pure fun wS hS => ?_⟩, ?_⟩
                  · ((subst hS; go_simp)); try (with_reducible rfl)
                  try trivial
                case mr0r8_0_u4 =>
                  refine makeT _ rfl ?wantr0r8_0_u4 ?effr0r8_0_u4
                  case wantr0r8_0_u4 => (try simp only [fillT, List.setIfInBounds_toArray, List.set_cons_zero, List.set_cons_succ]) <;> rfl
                  intro wS hS
                  simp only [fillT, List.setIfInBounds_toArray, List.set_cons_zero, List.set_cons_succ]
                  rw [hS]
                  refine eff_call (f := 28) (args := #[.slice As x.spots.length cs]) (by go_simp) ?_
                  refine (cloneS_any ((w3.drew).alloc (.cells #[.slice none 0 0, .slice none 0 0] 31)) As cs x.spots (HW.out.s.mono (src_rest (HS8.out) (i := 0) rfl HW.out.s.src (src_lt HW.out.s.src))) (by omega)).mono ?_
                  rintro e y9 ⟨A9, C9, rfl, gq⟩
                  have hs9 := (HS8.out).pushThings gq
                  try simp only [List.cons_append, List.nil_append, List.set_cons_succ, List.set_cons_zero, Nat.zero_add, Nat.reduceAdd, World.size_alloc, World.size_drew] at hs9
                  have kk9 := hs9.all
                  simp only [allFacts, box_facts, row_facts, emp_facts, cellFacts, Nat.zero_add, Nat.reduceAdd, true_and, and_true] at kk9
                  have HS9 := Lib.hid hs9
                  clear hs9
                  clear gq
                  refine ⟨_, rfl, ?_⟩
                  refine ⟨_, [true, true, true, true, true, false, false, true, false], [false, false, false, true, true, false, false, false, false], [1, 0], [?vr0r9_0_u4, ?vr0r9_1_u4, (.slice A9 x.spots.length C9), ?vr0r9_3_u4, ?vr0r9_4_u4, undef, undef, (.pointer (some ⟨(w3).heap.size, 0, none⟩)), undef], fun w' => w' = y9, rfl, rfl, ?samer0r9_u4, by kernel_rfl, ?hSr0r9_u4, ?nxr0r9_u4⟩
                  case samer0r9_u4 =>
                    refine And.intro ?_ ?_
                    · with_reducible rfl
                    refine And.intro ?_ ?_
                    · with_reducible rfl
                    refine And.intro ?_ ?_
                    · with_reducible rfl
                    refine And.intro ?_ ?_
                    · with_reducible rfl
                    refine And.intro ?_ ?_
                    · with_reducible rfl
                    trivial
                  case hSr0r9_u4 => rfl
                  case nxr0r9_u4 =>
                    refine chainT_one 5 (by decide) (by kernel_rfl) rfl ?opsr0r9_u4 ?mr0r9_0_u4
                    case opsr0r9_u4 =>
                      simp only [OpsAt, fillT, List.setIfInBounds_toArray, List.set_cons_zero, List.set_cons_succ]
                      refine ⟨.inl ⟨by rfl, opOk_pure fun wS hS => ?_⟩, ?_⟩
                      · ((subst hS; go_simp)); try (with_reducible rfl)
                      refine ⟨.inl ⟨by rfl, opOk_pure fun wS hS => ?_⟩, ?_⟩
                      · ((subst hS; go_simp)); try (with_reducible rfl)
                      try trivial
                    case mr0r9_0_u4 =>
                      refine makeT _ rfl ?wantr0r9_0_u4 ?effr0r9_0_u4
                      case wantr0r9_0_u4 => (try simp only [fillT, List.setIfInBounds_toArray, List.set_cons_zero, List.set_cons_succ]) <;> rfl
                      intro wS hS
                      simp only [fillT, List.setIfInBounds_toArray, List.set_cons_zero, List.set_cons_succ]
                      rw [hS]
                      refine eff_call (f := 29) (args := #[.slice (some ⟨g, off, none⟩) x.edges.length ce]) (by go_simp) ?_
                      refine (cloneE_any (y9) (some ⟨g, off, none⟩) ce x.edges (HW.out.e.mono (src_rest (HS9.out) (i := 0) rfl HW.out.e.src (src_lt HW.out.e.src))) (by omega)).mono ?_
                      rintro e y10 ⟨A10, C10, rfl, gq⟩
                      have hs10 := (HS9.out).pushThings gq
                      try simp only [List.cons_append, List.nil_append, List.set_cons_succ, List.set_cons_zero, Nat.zero_add, Nat.reduceAdd, World.size_alloc, World.size_drew] at hs10
                      have kk10 := hs10.all
                      simp only [allFacts, box_facts, row_facts, emp_facts, cellFacts, Nat.zero_add, Nat.reduceAdd, true_and, and_true] at kk10
                      have HS10 := Lib.hid hs10
                      clear hs10
                      clear gq
                      refine ⟨_, rfl, ?_⟩
                      refine ⟨_, [true, true, true, true, true, true, true, true, false], [false, false, false, false, false, false, true, false, false], [4, 3], [?vr0r10_0_u4, ?vr0r10_1_u4, (.slice A9 x.spots.length C9), ?vr0r10_3_u4, ?vr0r10_4_u4, (.slice A10 x.edges.length C10), ?vr0r10_6_u4, (.pointer (some ⟨(w3).heap.size, 0, none⟩)), undef], fun w' => w' = y10, rfl, rfl, ?samer0r10_u4, by kernel_rfl, ?hSr0r10_u4, ?nxr0r10_u4⟩
                      case samer0r10_u4 =>
                        refine And.intro ?_ ?_
                        · with_reducible rfl
                        refine And.intro ?_ ?_
                        · with_reducible rfl
                        refine And.intro ?_ ?_
                        · with_reducible rfl
                        refine And.intro ?_ ?_
                        · with_reducible rfl
                        refine And.intro ?_ ?_
                        · with_reducible rfl
                        refine And.intro ?_ ?_
                        · with_reducible rfl
                        trivial
                      case hSr0r10_u4 => rfl
                      case nxr0r10_u4 =>
                        refine chainT_one 8 (by decide) (by kernel_rfl) rfl ?opsr0r10_u4 ?mr0r10_0_u4
                        case opsr0r10_u4 =>
                          simp only [OpsAt, fillT, List.setIfInBounds_toArray, List.set_cons_zero, List.set_cons_succ]
                          refine ⟨.inl ⟨by rfl, opOk_pure fun wS hS => ?_⟩, ?_⟩
                          · ((subst hS; go_simp)); try (with_reducible rfl)
                          try trivial
                        case mr0r10_0_u4 =>
                          refine makeT _ rfl ?wantr0r10_0_u4 ?effr0r10_0_u4
                          case wantr0r10_0_u4 => (try simp only [fillT, List.setIfInBounds_toArray, List.set_cons_zero, List.set_cons_succ]) <;> rfl
                          intro wS hS
                          simp only [fillT, List.setIfInBounds_toArray, List.set_cons_zero, List.set_cons_succ]
                          rw [hS]
                          refine eff_skip (w' := ((y10).setCell ⟨(w3).heap.size, 0, none⟩ (.slice A9 x.spots.length C9)).setCell ⟨(w3).heap.size, 1, none⟩ (.slice A10 x.edges.length C10)) ?run_u3_u4 ?pp_u3_u4
                          case run_u3_u4 => go_simp
                          case pp_u3_u4 =>
                            have hs11 := ((HS10.out).set 3 rfl 0 (.slice A9 x.spots.length C9)).set 3 rfl 1 (.slice A10 x.edges.length C10)
                            try simp only [List.cons_append, List.nil_append, List.set_cons_succ, List.set_cons_zero, Nat.zero_add, Nat.reduceAdd, World.size_alloc, World.size_drew] at hs11
                            have HS11 := Lib.hid hs11
                            clear hs11
                            refine ⟨_, [true, true, true, true, true, true, true, true, true], [false, false, false, false, false, false, false, false, false], [6], [?vr0r11_0_u4, ?vr0r11_1_u4, (.slice A9 x.spots.length C9), ?vr0r11_3_u4, ?vr0r11_4_u4, (.slice A10 x.edges.length C10), ?vr0r11_6_u4, (.pointer (some ⟨(w3).heap.size, 0, none⟩)), undef], fun w' => w' = ((y10).setCell ⟨(w3).heap.size, 0, none⟩ (.slice A9 x.spots.length C9)).setCell ⟨(w3).heap.size, 1, none⟩ (.slice A10 x.edges.length C10), rfl, rfl, ?samer0r11_u4, by kernel_rfl, ?hSr0r11_u4, ?nxr0r11_u4⟩
                            case samer0r11_u4 =>
                              refine And.intro ?_ ?_
                              · with_reducible rfl
                              refine And.intro ?_ ?_
                              · with_reducible rfl
                              refine And.intro ?_ ?_
                              · with_reducible rfl
                              refine And.intro ?_ ?_
                              · with_reducible rfl
                              refine And.intro ?_ ?_
                              · with_reducible rfl
                              refine And.intro ?_ ?_
                              · with_reducible rfl
                              refine And.intro ?_ ?_
                              · with_reducible rfl
                              refine And.intro ?_ ?_
                              · with_reducible rfl
                              trivial
                            case hSr0r11_u4 => rfl
                            case nxr0r11_u4 =>
                              refine chainT_nil (by rfl) (by kernel_rfl) rfl ?opsr0r11_u4 ?endr0r11_u4
                              case opsr0r11_u4 =>
                                simp only [OpsAt, fillT, List.setIfInBounds_toArray, List.set_cons_zero, List.set_cons_succ]
                                try trivial
                              case endr0r11_u4 =>
                                intro wE hE
                                simp only [fillT, List.setIfInBounds_toArray, List.set_cons_zero, List.set_cons_succ]
                                rw [hE]
                                have ht := (HS11.out).pick [0, 1, 2, 4, 5, 3] (by decide)
                                simp only [List.filterMap_cons, List.filterMap_nil, List.getElem?_cons_zero, List.getElem?_cons_succ] at ht
                                try clear kk1
                                try clear kk2
                                try clear kk3
                                try clear kk4
                                try clear kk5
                                try clear kk6
                                try clear kk7
                                try clear kk8
                                try clear kk9
                                try clear kk10
                                try clear kk11
                                clear hE
                                generalize (w3).heap.size = p at ht ⊢
                                generalize ((y10).setCell ⟨p, 0, none⟩ (.slice A9 x.spots.length C9)).setCell ⟨p, 1, none⟩ (.slice A10 x.edges.length C10) = wx at ht ⊢
                                have HT := Lib.hid ht
                                clear ht
                                obtain ⟨gE, hgE, gc, gf, glt⟩ := rowK_at edC_len (by decide) (HT.out.rowOf (i := 4) rfl) (i := k) hlt
                                subst hgE
                                have hek : x.edges[k] = ⟨a, b, c0, c1, b0, r0, b1, r1⟩ := Option.some.inj ((List.getElem?_eq_getElem hlt).symm.trans HGK.out)
                                rw [hek] at gc
                                have s2 := gc 2 _ rfl
                                have s3 := gc 3 _ rfl
                                have f2 := gf (k * 8 + 2)
                                have f3 := gf (k * 8 + 3)
                                clear gc gf hek
                                have k9 := HT.out.all
                                simp only [allFacts, box_facts, row_facts, emp_facts, cellFacts, Nat.zero_add, Nat.reduceAdd, true_and, and_true] at k9
                                go_wp2
                                have hz9 := (HT.out.set 2 rfl 0 (.slice none 0 0)).set 2 rfl 1 (.slice none 0 0)
                                have hz8 := hz9.below (i := 0) rfl
                                have HZ8 := Lib.hid hz8
                                clear hz9 hz8
                                refine bodyPost_ret (v := .tuple #[.agg #[.slice none 0 0, .slice none 0 0], .int .i64 28]) (by simp only [results, Try.results15]; go_simp) rfl ⟨none, 0, none, 0, ret_web (by rw [HZ.out]; rfl) (by rw [HZ.out]; rfl) (by rw [HZ.out]), by rw [HZ.out]; exact WebAt.none _, HZ8.out⟩
        · have hsb := hsa.trans ((if_neg (by decide)).trans (if_neg (show ¬ _ < n from by show ¬ c0 < n; omega)))
          have hval := fun h => addP_val (a := c1) (b := n) h
          have hsc : sentP x k node n = if (addP c1 n).2 = 0 then (⟨x.spots, x.edges.set k ⟨a, b, c0 - n, c1 + n, b0, r0, b1, r1⟩⟩, 0) else (noWeb, (addP c1 n).2) := hsb
          clear hsa hsb
          generalize addP c1 n = r9 at *
          obtain ⟨m, e⟩ := r9
          dsimp only at hsc hval HAQ
          rcases (show e ≠ 0 ∨ e = 0 by omega) with he0 | he0
          · have HZ := Lib.hid (hsc.trans (if_neg he0))
            have HAD := HAQ
            have d3 : (e == 0) = false := beq_eq_false_iff_ne.2 he0
            have d4 : (e != 0) = true := by simp [he0]
            clear hsc he0 hval
            go_enter Try.func15, Try.ntmps15
            go_wp2_with fail
            refine (HCK.out).mono ?_
            rintro e w2 ⟨rfl, hb⟩
            have h2 := H1.out.grow hb
            have k2 := h2.all
            simp only [allFacts, box_facts, row_facts, emp_facts, cellFacts, Nat.zero_add, Nat.reduceAdd, true_and, and_true] at k2
            have H2 := Lib.hid h2
            clear hb h2
            have q0 := restCell H2.out rfl hb (HC.out 0 _ rfl)
            have q1 := restCell H2.out rfl hb (HC.out 1 _ rfl)
            have q2 := restCell H2.out rfl hb (HC.out 2 _ rfl)
            have q3 := restCell H2.out rfl hb (HC.out 3 _ rfl)
            have q4 := restCell H2.out rfl hb (HC.out 4 _ rfl)
            have q5 := restCell H2.out rfl hb (HC.out 5 _ rfl)
            have q6 := restCell H2.out rfl hb (HC.out 6 _ rfl)
            have q7 := restCell H2.out rfl hb (HC.out 7 _ rfl)
            rw [Nat.add_zero] at q0
            go_wp2_with fail
            refine (HSD.out _).mono ?_
            rintro e w3 ⟨rfl, hb⟩
            clear q0 q1 q2 q3 q4 q5 q6 q7
            have h3 := H2.out.grow hb
            have k3 := h3.all
            simp only [allFacts, box_facts, row_facts, emp_facts, cellFacts, Nat.zero_add, Nat.reduceAdd, true_and, and_true] at k3
            clear k2
            have H3 := Lib.hid h3
            clear hb h3
            go_wp2_with fail
            refine region_chainT (m := 4) (E := [2, 5, 7, 8]) (kn := [true, true, false, true, true, false, false, false, false]) (mask := [true, true, false, true, true, false, false, false, false]) (vs := [?vr0e0_0_u8, ?vr0e0_1_u8, undef, ?vr0e0_3_u8, ?vr0e0_4_u8, undef, undef, undef, undef]) (S := fun w' => w' = w3.drew) (by kernel_rfl) (by kernel_rfl) (by kernel_rfl) (by kernel_rfl) (by kernel_rfl) ?hSr0e_u8 ?hchr0e_u8
            case hSr0e_u8 => exact rfl
            case hchr0e_u8 =>
              refine chainT_two 2 7 (by decide) (by kernel_rfl) rfl ?opsr0e0_u8 ?mr0e0_0_u8 ?mr0e0_1_u8
              case opsr0e0_u8 =>
                simp only [OpsAt, fillT, List.setIfInBounds_toArray, List.set_cons_zero, List.set_cons_succ]
                refine ⟨.inl ⟨by rfl, opOk_pure fun wS hS => ?_⟩, ?_⟩
                · ((subst hS; go_simp)); try (with_reducible rfl)
                refine ⟨.inl ⟨by rfl, opOk_pure fun wS hS => ?_⟩, ?_⟩
                · ((subst hS; go_simp)); try (with_reducible rfl)
                refine ⟨.inl ⟨by rfl, opOk_pure fun wS hS => ?_⟩, ?_⟩
                · ((subst hS; go_simp)); try (with_reducible rfl)
                refine ⟨.inl ⟨by rfl, opOk_pure fun wS hS => ?_⟩, ?_⟩
                · ((subst hS; go_simp)); try (with_reducible rfl)
                try trivial
              case mr0e0_0_u8 =>
                refine makeT _ rfl ?wantr0e0_0_u8 ?effr0e0_0_u8
                case wantr0e0_0_u8 => (try simp only [fillT, List.setIfInBounds_toArray, List.set_cons_zero, List.set_cons_succ]) <;> rfl
                intro wS hS
                simp only [fillT, List.setIfInBounds_toArray, List.set_cons_zero, List.set_cons_succ]
                rw [hS]
                refine eff_call (f := 28) (args := #[.slice As x.spots.length cs]) (by go_simp) ?_
                refine (cloneS_any (w3.drew) As cs x.spots (HW.out.s.mono (src_rest (H3.out.drew) (i := 0) rfl HW.out.s.src (src_lt HW.out.s.src))) (by omega)).mono ?_
                rintro e y1 ⟨A1, C1, rfl, gq⟩
                have hs1 := (H3.out.drew).pushThings gq
                try simp only [List.cons_append, List.nil_append, List.set_cons_succ, List.set_cons_zero, Nat.zero_add, Nat.reduceAdd, World.size_alloc, World.size_drew] at hs1
                have kk1 := hs1.all
                simp only [allFacts, box_facts, row_facts, emp_facts, cellFacts, Nat.zero_add, Nat.reduceAdd, true_and, and_true] at kk1
                have HS1 := Lib.hid hs1
                clear hs1
                clear gq
                refine ⟨_, rfl, ?_⟩
                refine ⟨_, [true, true, true, true, true, false, false, false, false], [false, false, false, true, true, false, false, false, false], [1, 0], [?vr0e1_0_u8, ?vr0e1_1_u8, (.slice A1 x.spots.length C1), ?vr0e1_3_u8, ?vr0e1_4_u8, undef, undef, undef, undef], fun w' => w' = y1, rfl, rfl, ?samer0e1_u8, by kernel_rfl, ?hSr0e1_u8, ?nxr0e1_u8⟩
                case samer0e1_u8 =>
                  refine And.intro ?_ ?_
                  · with_reducible rfl
                  refine And.intro ?_ ?_
                  · with_reducible rfl
                  refine And.intro ?_ ?_
                  · with_reducible rfl
                  refine And.intro ?_ ?_
                  · with_reducible rfl
                  trivial
                case hSr0e1_u8 => rfl
                case nxr0e1_u8 =>
                  refine chainT_two 5 7 (by decide) (by kernel_rfl) rfl ?opsr0e1_u8 ?mr0e1_0_u8 ?mr0e1_1_u8
                  case opsr0e1_u8 =>
                    simp only [OpsAt, fillT, List.setIfInBounds_toArray, List.set_cons_zero, List.set_cons_succ]
                    refine ⟨.inl ⟨by rfl, opOk_pure fun wS hS => ?_⟩, ?_⟩
                    · ((subst hS; go_simp)); try (with_reducible rfl)
                    refine ⟨.inl ⟨by rfl, opOk_pure fun wS hS => ?_⟩, ?_⟩
                    · ((subst hS; go_simp)); try (with_reducible rfl)
                    try trivial
                  case mr0e1_0_u8 =>
                    refine makeT _ rfl ?wantr0e1_0_u8 ?effr0e1_0_u8
                    case wantr0e1_0_u8 => (try simp only [fillT, List.setIfInBounds_toArray, List.set_cons_zero, List.set_cons_succ]) <;> rfl
                    intro wS hS
                    simp only [fillT, List.setIfInBounds_toArray, List.set_cons_zero, List.set_cons_succ]
                    rw [hS]
                    refine eff_call (f := 29) (args := #[.slice (some ⟨g, off, none⟩) x.edges.length ce]) (by go_simp) ?_
                    refine (cloneE_any (y1) (some ⟨g, off, none⟩) ce x.edges (HW.out.e.mono (src_rest (HS1.out) (i := 0) rfl HW.out.e.src (src_lt HW.out.e.src))) (by omega)).mono ?_
                    rintro e y2 ⟨A2, C2, rfl, gq⟩
                    have hs2 := (HS1.out).pushThings gq
                    try simp only [List.cons_append, List.nil_append, List.set_cons_succ, List.set_cons_zero, Nat.zero_add, Nat.reduceAdd, World.size_alloc, World.size_drew] at hs2
                    have kk2 := hs2.all
                    simp only [allFacts, box_facts, row_facts, emp_facts, cellFacts, Nat.zero_add, Nat.reduceAdd, true_and, and_true] at kk2
                    have HS2 := Lib.hid hs2
                    clear hs2
                    clear gq
                    refine ⟨_, rfl, ?_⟩
                    refine ⟨_, [true, true, true, true, true, true, true, false, false], [false, false, false, false, false, false, true, false, false], [4, 3], [?vr0e2_0_u8, ?vr0e2_1_u8, (.slice A1 x.spots.length C1), ?vr0e2_3_u8, ?vr0e2_4_u8, (.slice A2 x.edges.length C2), ?vr0e2_6_u8, undef, undef], fun w' => w' = y2, rfl, rfl, ?samer0e2_u8, by kernel_rfl, ?hSr0e2_u8, ?nxr0e2_u8⟩
                    case samer0e2_u8 =>
                      refine And.intro ?_ ?_
                      · with_reducible rfl
                      refine And.intro ?_ ?_
                      · with_reducible rfl
                      refine And.intro ?_ ?_
                      · with_reducible rfl
                      refine And.intro ?_ ?_
                      · with_reducible rfl
                      refine And.intro ?_ ?_
                      · with_reducible rfl
                      trivial
                    case hSr0e2_u8 => rfl
                    case nxr0e2_u8 =>
                      refine chainT_one 7 (by decide) (by kernel_rfl) rfl ?opsr0e2_u8 ?mr0e2_0_u8
                      case opsr0e2_u8 =>
                        simp only [OpsAt, fillT, List.setIfInBounds_toArray, List.set_cons_zero, List.set_cons_succ]
                        refine ⟨.inl ⟨by rfl, opOk_pure fun wS hS => ?_⟩, ?_⟩
                        · ((subst hS; go_simp)); try (with_reducible rfl)
                        try trivial
                      case mr0e2_0_u8 =>
                        refine makeT _ rfl ?wantr0e2_0_u8 ?effr0e2_0_u8
                        case wantr0e2_0_u8 => (try simp only [fillT, List.setIfInBounds_toArray, List.set_cons_zero, List.set_cons_succ]) <;> rfl
                        intro wS hS
                        simp only [fillT, List.setIfInBounds_toArray, List.set_cons_zero, List.set_cons_succ]
                        rw [hS]
                        refine eff_run (w' := (y2).alloc (.cells #[.slice none 0 0, .slice none 0 0] 31)) (by go_simp; try rfl) ?_
                        have hs3 := (HS2.out).alloc #[.slice none 0 0, .slice none 0 0] 31
                        try simp only [List.cons_append, List.nil_append, List.set_cons_succ, List.set_cons_zero, Nat.zero_add, Nat.reduceAdd, World.size_alloc, World.size_drew] at hs3
                        have kk3 := hs3.all
                        simp only [allFacts, box_facts, row_facts, emp_facts, cellFacts, Nat.zero_add, Nat.reduceAdd, true_and, and_true] at kk3
                        have HS3 := Lib.hid hs3
                        clear hs3
                        refine ⟨_, [true, true, true, true, true, true, true, true, false], [false, false, false, false, false, false, true, false, false], [], [?vr0e3_0_u8, ?vr0e3_1_u8, (.slice A1 x.spots.length C1), ?vr0e3_3_u8, ?vr0e3_4_u8, (.slice A2 x.edges.length C2), ?vr0e3_6_u8, (.pointer (some ⟨(y2).heap.size, 0, none⟩)), undef], fun w' => w' = (y2).alloc (.cells #[.slice none 0 0, .slice none 0 0] 31), rfl, rfl, ?samer0e3_u8, by kernel_rfl, ?hSr0e3_u8, ?nxr0e3_u8⟩
                        case samer0e3_u8 =>
                          refine And.intro ?_ ?_
                          · with_reducible rfl
                          refine And.intro ?_ ?_
                          · with_reducible rfl
                          refine And.intro ?_ ?_
                          · with_reducible rfl
                          refine And.intro ?_ ?_
                          · with_reducible rfl
                          refine And.intro ?_ ?_
                          · with_reducible rfl
                          refine And.intro ?_ ?_
                          · with_reducible rfl
                          refine And.intro ?_ ?_
                          · with_reducible rfl
                          trivial
                        case hSr0e3_u8 => rfl
                        case nxr0e3_u8 =>
                          refine chainT_one 8 (by decide) (by kernel_rfl) rfl ?opsr0e3_u8 ?mr0e3_0_u8
                          case opsr0e3_u8 =>
                            simp only [OpsAt, fillT, List.setIfInBounds_toArray, List.set_cons_zero, List.set_cons_succ]
                            refine ⟨.inl ⟨by rfl, opOk_pure fun wS hS => ?_⟩, ?_⟩
                            · ((subst hS; go_simp)); try (with_reducible rfl)
                            try trivial
                          case mr0e3_0_u8 =>
                            refine makeT _ rfl ?wantr0e3_0_u8 ?effr0e3_0_u8
                            case wantr0e3_0_u8 => (try simp only [fillT, List.setIfInBounds_toArray, List.set_cons_zero, List.set_cons_succ]) <;> rfl
                            intro wS hS
                            simp only [fillT, List.setIfInBounds_toArray, List.set_cons_zero, List.set_cons_succ]
                            rw [hS]
                            refine eff_skip (w' := (((y2).alloc (.cells #[.slice none 0 0, .slice none 0 0] 31)).setCell ⟨(y2).heap.size, 0, none⟩ (.slice A1 x.spots.length C1)).setCell ⟨(y2).heap.size, 1, none⟩ (.slice A2 x.edges.length C2)) ?run_u5_u8 ?pp_u5_u8
                            case run_u5_u8 => go_simp
                            case pp_u5_u8 =>
                              have hs4 := ((HS3.out).set 5 rfl 0 (.slice A1 x.spots.length C1)).set 5 rfl 1 (.slice A2 x.edges.length C2)
                              try simp only [List.cons_append, List.nil_append, List.set_cons_succ, List.set_cons_zero, Nat.zero_add, Nat.reduceAdd, World.size_alloc, World.size_drew] at hs4
                              have HS4 := Lib.hid hs4
                              clear hs4
                              refine ⟨_, [true, true, true, true, true, true, true, true, true], [false, false, false, false, false, false, false, false, false], [6], [?vr0e4_0_u8, ?vr0e4_1_u8, (.slice A1 x.spots.length C1), ?vr0e4_3_u8, ?vr0e4_4_u8, (.slice A2 x.edges.length C2), ?vr0e4_6_u8, (.pointer (some ⟨(y2).heap.size, 0, none⟩)), undef], fun w' => w' = (((y2).alloc (.cells #[.slice none 0 0, .slice none 0 0] 31)).setCell ⟨(y2).heap.size, 0, none⟩ (.slice A1 x.spots.length C1)).setCell ⟨(y2).heap.size, 1, none⟩ (.slice A2 x.edges.length C2), rfl, rfl, ?samer0e4_u8, by kernel_rfl, ?hSr0e4_u8, ?nxr0e4_u8⟩
                              case samer0e4_u8 =>
                                refine And.intro ?_ ?_
                                · with_reducible rfl
                                refine And.intro ?_ ?_
                                · with_reducible rfl
                                refine And.intro ?_ ?_
                                · with_reducible rfl
                                refine And.intro ?_ ?_
                                · with_reducible rfl
                                refine And.intro ?_ ?_
                                · with_reducible rfl
                                refine And.intro ?_ ?_
                                · with_reducible rfl
                                refine And.intro ?_ ?_
                                · with_reducible rfl
                                refine And.intro ?_ ?_
                                · with_reducible rfl
                                trivial
                              case hSr0e4_u8 => rfl
                              case nxr0e4_u8 =>
                                refine chainT_nil (by rfl) (by kernel_rfl) rfl ?opsr0e4_u8 ?endr0e4_u8
                                case opsr0e4_u8 =>
                                  simp only [OpsAt, fillT, List.setIfInBounds_toArray, List.set_cons_zero, List.set_cons_succ]
                                  try trivial
                                case endr0e4_u8 =>
                                  intro wE hE
                                  simp only [fillT, List.setIfInBounds_toArray, List.set_cons_zero, List.set_cons_succ]
                                  rw [hE]
                                  have ht := (HS4.out).pick [0, 1, 2, 3, 4, 5] (by decide)
                                  simp only [List.filterMap_cons, List.filterMap_nil, List.getElem?_cons_zero, List.getElem?_cons_succ] at ht
                                  try clear kk1
                                  try clear kk2
                                  try clear kk3
                                  try clear kk4
                                  clear hE
                                  generalize (y2).heap.size = p at ht ⊢
                                  generalize (((y2).alloc (.cells #[.slice none 0 0, .slice none 0 0] 31)).setCell ⟨p, 0, none⟩ (.slice A1 x.spots.length C1)).setCell ⟨p, 1, none⟩ (.slice A2 x.edges.length C2) = wx at ht ⊢
                                  have HT := Lib.hid ht
                                  clear ht
                                  obtain ⟨gE, hgE, gc, gf, glt⟩ := rowK_at edC_len (by decide) (HT.out.rowOf (i := 4) rfl) (i := k) hlt
                                  subst hgE
                                  have hek : x.edges[k] = ⟨a, b, c0, c1, b0, r0, b1, r1⟩ := Option.some.inj ((List.getElem?_eq_getElem hlt).symm.trans HGK.out)
                                  rw [hek] at gc
                                  have s2 := gc 2 _ rfl
                                  have s3 := gc 3 _ rfl
                                  have f2 := gf (k * 8 + 2)
                                  have f3 := gf (k * 8 + 3)
                                  clear gc gf hek
                                  have k9 := HT.out.all
                                  simp only [allFacts, box_facts, row_facts, emp_facts, cellFacts, Nat.zero_add, Nat.reduceAdd, true_and, and_true] at k9
                                  go_wp2_with fail
                                  refine (HAD.out _).mono ?_
                                  rintro e w61 ⟨rfl, hw⟩
                                  first | rw [show w61 = _ from hw] | rw [show w61 = _ from hw.symm]
                                  clear hw
                                  go_wp2
                                  have hz9 := (HT.out.set 2 rfl 0 (.slice none 0 0)).set 2 rfl 1 (.slice none 0 0)
                                  have hz8 := hz9.below (i := 0) rfl
                                  have HZ8 := Lib.hid hz8
                                  clear hz9 hz8
                                  refine bodyPost_ret (v := .tuple #[.agg #[.slice none 0 0, .slice none 0 0], .int .i64 e]) (by simp only [results, Try.results15]; go_simp) rfl ⟨none, 0, none, 0, ret_web (by rw [HZ.out]; rfl) (by rw [HZ.out]; rfl) (by rw [HZ.out]), by rw [HZ.out]; exact WebAt.none _, HZ8.out⟩
                  case mr0e1_1_u8 =>
                    refine makeT _ rfl ?wantr0e1_1_u8 ?effr0e1_1_u8
                    case wantr0e1_1_u8 => (try simp only [fillT, List.setIfInBounds_toArray, List.set_cons_zero, List.set_cons_succ]) <;> rfl
                    intro wS hS
                    simp only [fillT, List.setIfInBounds_toArray, List.set_cons_zero, List.set_cons_succ]
                    rw [hS]
                    refine eff_run (w' := (y1).alloc (.cells #[.slice none 0 0, .slice none 0 0] 31)) (by go_simp; try rfl) ?_
                    have hs5 := (HS1.out).alloc #[.slice none 0 0, .slice none 0 0] 31
                    try simp only [List.cons_append, List.nil_append, List.set_cons_succ, List.set_cons_zero, Nat.zero_add, Nat.reduceAdd, World.size_alloc, World.size_drew] at hs5
                    have kk5 := hs5.all
                    simp only [allFacts, box_facts, row_facts, emp_facts, cellFacts, Nat.zero_add, Nat.reduceAdd, true_and, and_true] at kk5
                    have HS5 := Lib.hid hs5
                    clear hs5
                    refine ⟨_, [true, true, true, true, true, false, false, true, false], [false, false, false, true, true, false, false, false, false], [], [?vr0e5_0_u8, ?vr0e5_1_u8, (.slice A1 x.spots.length C1), ?vr0e5_3_u8, ?vr0e5_4_u8, undef, undef, (.pointer (some ⟨(y1).heap.size, 0, none⟩)), undef], fun w' => w' = (y1).alloc (.cells #[.slice none 0 0, .slice none 0 0] 31), rfl, rfl, ?samer0e5_u8, by kernel_rfl, ?hSr0e5_u8, ?nxr0e5_u8⟩
                    case samer0e5_u8 =>
                      refine And.intro ?_ ?_
                      · with_reducible rfl
                      refine And.intro ?_ ?_
                      · with_reducible rfl
                      refine And.intro ?_ ?_
                      · with_reducible rfl
                      refine And.intro ?_ ?_
                      · with_reducible rfl
                      refine And.intro ?_ ?_
                      · with_reducible rfl
                      trivial
                    case hSr0e5_u8 => rfl
                    case nxr0e5_u8 =>
                      refine chainT_one 5 (by decide) (by kernel_rfl) rfl ?opsr0e5_u8 ?mr0e5_0_u8
                      case opsr0e5_u8 =>
                        simp only [OpsAt, fillT, List.setIfInBounds_toArray, List.set_cons_zero, List.set_cons_succ]
                        refine ⟨.inl ⟨by rfl, opOk_pure fun wS hS => ?_⟩, ?_⟩
                        · ((subst hS; go_simp)); try (with_reducible rfl)
                        refine ⟨.inl ⟨by rfl, opOk_pure fun wS hS => ?_⟩, ?_⟩
                        · ((subst hS; go_simp)); try (with_reducible rfl)
                        try trivial
                      case mr0e5_0_u8 =>
                        refine makeT _ rfl ?wantr0e5_0_u8 ?effr0e5_0_u8
                        case wantr0e5_0_u8 => (try simp only [fillT, List.setIfInBounds_toArray, List.set_cons_zero, List.set_cons_succ]) <;> rfl
                        intro wS hS
                        simp only [fillT, List.setIfInBounds_toArray, List.set_cons_zero, List.set_cons_succ]
                        rw [hS]
                        refine eff_call (f := 29) (args := #[.slice (some ⟨g, off, none⟩) x.edges.length ce]) (by go_simp) ?_
                        refine (cloneE_any ((y1).alloc (.cells #[.slice none 0 0, .slice none 0 0] 31)) (some ⟨g, off, none⟩) ce x.edges (HW.out.e.mono (src_rest (HS5.out) (i := 0) rfl HW.out.e.src (src_lt HW.out.e.src))) (by omega)).mono ?_
                        rintro e y6 ⟨A6, C6, rfl, gq⟩
                        have hs6 := (HS5.out).pushThings gq
                        try simp only [List.cons_append, List.nil_append, List.set_cons_succ, List.set_cons_zero, Nat.zero_add, Nat.reduceAdd, World.size_alloc, World.size_drew] at hs6
                        have kk6 := hs6.all
                        simp only [allFacts, box_facts, row_facts, emp_facts, cellFacts, Nat.zero_add, Nat.reduceAdd, true_and, and_true] at kk6
                        have HS6 := Lib.hid hs6
                        clear hs6
                        clear gq
                        refine ⟨_, rfl, ?_⟩
                        refine ⟨_, [true, true, true, true, true, true, true, true, false], [false, false, false, false, false, false, true, false, false], [4, 3], [?vr0e6_0_u8, ?vr0e6_1_u8, (.slice A1 x.spots.length C1), ?vr0e6_3_u8, ?vr0e6_4_u8, (.slice A6 x.edges.length C6), ?vr0e6_6_u8, (.pointer (some ⟨(y1).heap.size, 0, none⟩)), undef], fun w' => w' = y6, rfl, rfl, ?samer0e6_u8, by kernel_rfl, ?hSr0e6_u8, ?nxr0e6_u8⟩
                        case samer0e6_u8 =>
                          refine And.intro ?_ ?_
                          · with_reducible rfl
                          refine And.intro ?_ ?_
                          · with_reducible rfl
                          refine And.intro ?_ ?_
                          · with_reducible rfl
                          refine And.intro ?_ ?_
                          · with_reducible rfl
                          refine And.intro ?_ ?_
                          · with_reducible rfl
                          refine And.intro ?_ ?_
                          · with_reducible rfl
                          trivial
                        case hSr0e6_u8 => rfl
                        case nxr0e6_u8 =>
                          refine chainT_one 8 (by decide) (by kernel_rfl) rfl ?opsr0e6_u8 ?mr0e6_0_u8
                          case opsr0e6_u8 =>
                            simp only [OpsAt, fillT, List.setIfInBounds_toArray, List.set_cons_zero, List.set_cons_succ]
                            refine ⟨.inl ⟨by rfl, opOk_pure fun wS hS => ?_⟩, ?_⟩
                            · ((subst hS; go_simp)); try (with_reducible rfl)
                            try trivial
                          case mr0e6_0_u8 =>
                            refine makeT _ rfl ?wantr0e6_0_u8 ?effr0e6_0_u8
                            case wantr0e6_0_u8 => (try simp only [fillT, List.setIfInBounds_toArray, List.set_cons_zero, List.set_cons_succ]) <;> rfl
                            intro wS hS
                            simp only [fillT, List.setIfInBounds_toArray, List.set_cons_zero, List.set_cons_succ]
                            rw [hS]
                            refine eff_skip (w' := ((y6).setCell ⟨(y1).heap.size, 0, none⟩ (.slice A1 x.spots.length C1)).setCell ⟨(y1).heap.size, 1, none⟩ (.slice A6 x.edges.length C6)) ?run_u6_u8 ?pp_u6_u8
                            case run_u6_u8 => go_simp
                            case pp_u6_u8 =>
                              have hs7 := ((HS6.out).set 4 rfl 0 (.slice A1 x.spots.length C1)).set 4 rfl 1 (.slice A6 x.edges.length C6)
                              try simp only [List.cons_append, List.nil_append, List.set_cons_succ, List.set_cons_zero, Nat.zero_add, Nat.reduceAdd, World.size_alloc, World.size_drew] at hs7
                              have HS7 := Lib.hid hs7
                              clear hs7
                              refine ⟨_, [true, true, true, true, true, true, true, true, true], [false, false, false, false, false, false, false, false, false], [6], [?vr0e7_0_u8, ?vr0e7_1_u8, (.slice A1 x.spots.length C1), ?vr0e7_3_u8, ?vr0e7_4_u8, (.slice A6 x.edges.length C6), ?vr0e7_6_u8, (.pointer (some ⟨(y1).heap.size, 0, none⟩)), undef], fun w' => w' = ((y6).setCell ⟨(y1).heap.size, 0, none⟩ (.slice A1 x.spots.length C1)).setCell ⟨(y1).heap.size, 1, none⟩ (.slice A6 x.edges.length C6), rfl, rfl, ?samer0e7_u8, by kernel_rfl, ?hSr0e7_u8, ?nxr0e7_u8⟩
                              case samer0e7_u8 =>
                                refine And.intro ?_ ?_
                                · with_reducible rfl
                                refine And.intro ?_ ?_
                                · with_reducible rfl
                                refine And.intro ?_ ?_
                                · with_reducible rfl
                                refine And.intro ?_ ?_
                                · with_reducible rfl
                                refine And.intro ?_ ?_
                                · with_reducible rfl
                                refine And.intro ?_ ?_
                                · with_reducible rfl
                                refine And.intro ?_ ?_
                                · with_reducible rfl
                                refine And.intro ?_ ?_
                                · with_reducible rfl
                                trivial
                              case hSr0e7_u8 => rfl
                              case nxr0e7_u8 =>
                                refine chainT_nil (by rfl) (by kernel_rfl) rfl ?opsr0e7_u8 ?endr0e7_u8
                                case opsr0e7_u8 =>
                                  simp only [OpsAt, fillT, List.setIfInBounds_toArray, List.set_cons_zero, List.set_cons_succ]
                                  try trivial
                                case endr0e7_u8 =>
                                  intro wE hE
                                  simp only [fillT, List.setIfInBounds_toArray, List.set_cons_zero, List.set_cons_succ]
                                  rw [hE]
                                  have ht := (HS7.out).pick [0, 1, 2, 3, 5, 4] (by decide)
                                  simp only [List.filterMap_cons, List.filterMap_nil, List.getElem?_cons_zero, List.getElem?_cons_succ] at ht
                                  try clear kk1
                                  try clear kk2
                                  try clear kk3
                                  try clear kk4
                                  try clear kk5
                                  try clear kk6
                                  try clear kk7
                                  clear hE
                                  generalize (y1).heap.size = p at ht ⊢
                                  generalize ((y6).setCell ⟨p, 0, none⟩ (.slice A1 x.spots.length C1)).setCell ⟨p, 1, none⟩ (.slice A6 x.edges.length C6) = wx at ht ⊢
                                  have HT := Lib.hid ht
                                  clear ht
                                  obtain ⟨gE, hgE, gc, gf, glt⟩ := rowK_at edC_len (by decide) (HT.out.rowOf (i := 4) rfl) (i := k) hlt
                                  subst hgE
                                  have hek : x.edges[k] = ⟨a, b, c0, c1, b0, r0, b1, r1⟩ := Option.some.inj ((List.getElem?_eq_getElem hlt).symm.trans HGK.out)
                                  rw [hek] at gc
                                  have s2 := gc 2 _ rfl
                                  have s3 := gc 3 _ rfl
                                  have f2 := gf (k * 8 + 2)
                                  have f3 := gf (k * 8 + 3)
                                  clear gc gf hek
                                  have k9 := HT.out.all
                                  simp only [allFacts, box_facts, row_facts, emp_facts, cellFacts, Nat.zero_add, Nat.reduceAdd, true_and, and_true] at k9
                                  go_wp2_with fail
                                  refine (HAD.out _).mono ?_
                                  rintro e w61 ⟨rfl, hw⟩
                                  first | rw [show w61 = _ from hw] | rw [show w61 = _ from hw.symm]
                                  clear hw
                                  go_wp2
                                  have hz9 := (HT.out.set 2 rfl 0 (.slice none 0 0)).set 2 rfl 1 (.slice none 0 0)
                                  have hz8 := hz9.below (i := 0) rfl
                                  have HZ8 := Lib.hid hz8
                                  clear hz9 hz8
                                  refine bodyPost_ret (v := .tuple #[.agg #[.slice none 0 0, .slice none 0 0], .int .i64 e]) (by simp only [results, Try.results15]; go_simp) rfl ⟨none, 0, none, 0, ret_web (by rw [HZ.out]; rfl) (by rw [HZ.out]; rfl) (by rw [HZ.out]), by rw [HZ.out]; exact WebAt.none _, HZ8.out⟩
              case mr0e0_1_u8 =>
                refine makeT _ rfl ?wantr0e0_1_u8 ?effr0e0_1_u8
                case wantr0e0_1_u8 => (try simp only [fillT, List.setIfInBounds_toArray, List.set_cons_zero, List.set_cons_succ]) <;> rfl
                intro wS hS
                simp only [fillT, List.setIfInBounds_toArray, List.set_cons_zero, List.set_cons_succ]
                rw [hS]
                refine eff_run (w' := (w3.drew).alloc (.cells #[.slice none 0 0, .slice none 0 0] 31)) (by go_simp; try rfl) ?_
                have hs8 := (H3.out.drew).alloc #[.slice none 0 0, .slice none 0 0] 31
                try simp only [List.cons_append, List.nil_append, List.set_cons_succ, List.set_cons_zero, Nat.zero_add, Nat.reduceAdd, World.size_alloc, World.size_drew] at hs8
                have kk8 := hs8.all
                simp only [allFacts, box_facts, row_facts, emp_facts, cellFacts, Nat.zero_add, Nat.reduceAdd, true_and, and_true] at kk8
                have HS8 := Lib.hid hs8
                clear hs8
                refine ⟨_, [true, true, false, true, true, false, false, true, false], [true, true, false, true, true, false, false, false, false], [], [?vr0e8_0_u8, ?vr0e8_1_u8, undef, ?vr0e8_3_u8, ?vr0e8_4_u8, undef, undef, (.pointer (some ⟨(w3).heap.size, 0, none⟩)), undef], fun w' => w' = (w3.drew).alloc (.cells #[.slice none 0 0, .slice none 0 0] 31), rfl, rfl, ?samer0e8_u8, by kernel_rfl, ?hSr0e8_u8, ?nxr0e8_u8⟩
                case samer0e8_u8 =>
                  refine And.intro ?_ ?_
                  · with_reducible rfl
                  refine And.intro ?_ ?_
                  · with_reducible rfl
                  refine And.intro ?_ ?_
                  · with_reducible rfl
                  refine And.intro ?_ ?_
                  · with_reducible rfl
                  trivial
                case hSr0e8_u8 => rfl
                case nxr0e8_u8 =>
                  refine chainT_one 2 (by decide) (by kernel_rfl) rfl ?opsr0e8_u8 ?mr0e8_0_u8
                  case opsr0e8_u8 =>
                    simp only [OpsAt, fillT, List.setIfInBounds_toArray, List.set_cons_zero, List.set_cons_succ]
                    refine ⟨.inl ⟨by rfl, opOk_pure fun wS hS => ?_⟩, ?_⟩
                    · ((subst hS; go_simp)); try (with_reducible rfl)
                    refine ⟨.inl ⟨by rfl, opOk_pure fun wS hS => ?_⟩, ?_⟩
                    · ((subst hS; go_simp)); try (with_reducible rfl)
                    refine ⟨.inl ⟨by rfl, opOk_pure fun wS hS => ?_⟩, ?_⟩
                    · ((subst hS; go_simp)); try (with_reducible rfl)
                    refine ⟨.inl ⟨by rfl, opOk_pure fun wS hS => ?_⟩, ?_⟩
                    · ((subst hS; go_simp)); try (with_reducible rfl)
                    try trivial
                  case mr0e8_0_u8 =>
                    refine makeT _ rfl ?wantr0e8_0_u8 ?effr0e8_0_u8
                    case wantr0e8_0_u8 => (try simp only [fillT, List.setIfInBounds_toArray, List.set_cons_zero, List.set_cons_succ]) <;> rfl
                    intro wS hS
                    simp only [fillT, List.setIfInBounds_toArray, List.set_cons_zero, List.set_cons_succ]
                    rw [hS]
                    refine eff_call (f := 28) (args := #[.slice As x.spots.length cs]) (by go_simp) ?_
                    refine (cloneS_any ((w3.drew).alloc (.cells #[.slice none 0 0, .slice none 0 0] 31)) As cs x.spots (HW.out.s.mono (src_rest (HS8.out) (i := 0) rfl HW.out.s.src (src_lt HW.out.s.src))) (by omega)).mono ?_
                    rintro e y9 ⟨A9, C9, rfl, gq⟩
                    have hs9 := (HS8.out).pushThings gq
                    try simp only [List.cons_append, List.nil_append, List.set_cons_succ, List.set_cons_zero, Nat.zero_add, Nat.reduceAdd, World.size_alloc, World.size_drew] at hs9
                    have kk9 := hs9.all
                    simp only [allFacts, box_facts, row_facts, emp_facts, cellFacts, Nat.zero_add, Nat.reduceAdd, true_and, and_true] at kk9
                    have HS9 := Lib.hid hs9
                    clear hs9
                    clear gq
                    refine ⟨_, rfl, ?_⟩
                    refine ⟨_, [true, true, true, true, true, false, false, true, false], [false, false, false, true, true, false, false, false, false], [1, 0], [?vr0e9_0_u8, ?vr0e9_1_u8, (.slice A9 x.spots.length C9), ?vr0e9_3_u8, ?vr0e9_4_u8, undef, undef, (.pointer (some ⟨(w3).heap.size, 0, none⟩)), undef], fun w' => w' = y9, rfl, rfl, ?samer0e9_u8, by kernel_rfl, ?hSr0e9_u8, ?nxr0e9_u8⟩
                    case samer0e9_u8 =>
                      refine And.intro ?_ ?_
                      · with_reducible rfl
                      refine And.intro ?_ ?_
                      · with_reducible rfl
                      refine And.intro ?_ ?_
                      · with_reducible rfl
                      refine And.intro ?_ ?_
                      · with_reducible rfl
                      refine And.intro ?_ ?_
                      · with_reducible rfl
                      trivial
                    case hSr0e9_u8 => rfl
                    case nxr0e9_u8 =>
                      refine chainT_one 5 (by decide) (by kernel_rfl) rfl ?opsr0e9_u8 ?mr0e9_0_u8
                      case opsr0e9_u8 =>
                        simp only [OpsAt, fillT, List.setIfInBounds_toArray, List.set_cons_zero, List.set_cons_succ]
                        refine ⟨.inl ⟨by rfl, opOk_pure fun wS hS => ?_⟩, ?_⟩
                        · ((subst hS; go_simp)); try (with_reducible rfl)
                        refine ⟨.inl ⟨by rfl, opOk_pure fun wS hS => ?_⟩, ?_⟩
                        · ((subst hS; go_simp)); try (with_reducible rfl)
                        try trivial
                      case mr0e9_0_u8 =>
                        refine makeT _ rfl ?wantr0e9_0_u8 ?effr0e9_0_u8
                        case wantr0e9_0_u8 => (try simp only [fillT, List.setIfInBounds_toArray, List.set_cons_zero, List.set_cons_succ]) <;> rfl
                        intro wS hS
                        simp only [fillT, List.setIfInBounds_toArray, List.set_cons_zero, List.set_cons_succ]
                        rw [hS]
                        refine eff_call (f := 29) (args := #[.slice (some ⟨g, off, none⟩) x.edges.length ce]) (by go_simp) ?_
                        refine (cloneE_any (y9) (some ⟨g, off, none⟩) ce x.edges (HW.out.e.mono (src_rest (HS9.out) (i := 0) rfl HW.out.e.src (src_lt HW.out.e.src))) (by omega)).mono ?_
                        rintro e y10 ⟨A10, C10, rfl, gq⟩
                        have hs10 := (HS9.out).pushThings gq
                        try simp only [List.cons_append, List.nil_append, List.set_cons_succ, List.set_cons_zero, Nat.zero_add, Nat.reduceAdd, World.size_alloc, World.size_drew] at hs10
                        have kk10 := hs10.all
                        simp only [allFacts, box_facts, row_facts, emp_facts, cellFacts, Nat.zero_add, Nat.reduceAdd, true_and, and_true] at kk10
                        have HS10 := Lib.hid hs10
                        clear hs10
                        clear gq
                        refine ⟨_, rfl, ?_⟩
                        refine ⟨_, [true, true, true, true, true, true, true, true, false], [false, false, false, false, false, false, true, false, false], [4, 3], [?vr0e10_0_u8, ?vr0e10_1_u8, (.slice A9 x.spots.length C9), ?vr0e10_3_u8, ?vr0e10_4_u8, (.slice A10 x.edges.length C10), ?vr0e10_6_u8, (.pointer (some ⟨(w3).heap.size, 0, none⟩)), undef], fun w' => w' = y10, rfl, rfl, ?samer0e10_u8, by kernel_rfl, ?hSr0e10_u8, ?nxr0e10_u8⟩
                        case samer0e10_u8 =>
                          refine And.intro ?_ ?_
                          · with_reducible rfl
                          refine And.intro ?_ ?_
                          · with_reducible rfl
                          refine And.intro ?_ ?_
                          · with_reducible rfl
                          refine And.intro ?_ ?_
                          · with_reducible rfl
                          refine And.intro ?_ ?_
                          · with_reducible rfl
                          refine And.intro ?_ ?_
                          · with_reducible rfl
                          trivial
                        case hSr0e10_u8 => rfl
                        case nxr0e10_u8 =>
                          refine chainT_one 8 (by decide) (by kernel_rfl) rfl ?opsr0e10_u8 ?mr0e10_0_u8
                          case opsr0e10_u8 =>
                            simp only [OpsAt, fillT, List.setIfInBounds_toArray, List.set_cons_zero, List.set_cons_succ]
                            refine ⟨.inl ⟨by rfl, opOk_pure fun wS hS => ?_⟩, ?_⟩
                            · ((subst hS; go_simp)); try (with_reducible rfl)
                            try trivial
                          case mr0e10_0_u8 =>
                            refine makeT _ rfl ?wantr0e10_0_u8 ?effr0e10_0_u8
                            case wantr0e10_0_u8 => (try simp only [fillT, List.setIfInBounds_toArray, List.set_cons_zero, List.set_cons_succ]) <;> rfl
                            intro wS hS
                            simp only [fillT, List.setIfInBounds_toArray, List.set_cons_zero, List.set_cons_succ]
                            rw [hS]
                            refine eff_skip (w' := ((y10).setCell ⟨(w3).heap.size, 0, none⟩ (.slice A9 x.spots.length C9)).setCell ⟨(w3).heap.size, 1, none⟩ (.slice A10 x.edges.length C10)) ?run_u7_u8 ?pp_u7_u8
                            case run_u7_u8 => go_simp
                            case pp_u7_u8 =>
                              have hs11 := ((HS10.out).set 3 rfl 0 (.slice A9 x.spots.length C9)).set 3 rfl 1 (.slice A10 x.edges.length C10)
                              try simp only [List.cons_append, List.nil_append, List.set_cons_succ, List.set_cons_zero, Nat.zero_add, Nat.reduceAdd, World.size_alloc, World.size_drew] at hs11
                              have HS11 := Lib.hid hs11
                              clear hs11
                              refine ⟨_, [true, true, true, true, true, true, true, true, true], [false, false, false, false, false, false, false, false, false], [6], [?vr0e11_0_u8, ?vr0e11_1_u8, (.slice A9 x.spots.length C9), ?vr0e11_3_u8, ?vr0e11_4_u8, (.slice A10 x.edges.length C10), ?vr0e11_6_u8, (.pointer (some ⟨(w3).heap.size, 0, none⟩)), undef], fun w' => w' = ((y10).setCell ⟨(w3).heap.size, 0, none⟩ (.slice A9 x.spots.length C9)).setCell ⟨(w3).heap.size, 1, none⟩ (.slice A10 x.edges.length C10), rfl, rfl, ?samer0e11_u8, by kernel_rfl, ?hSr0e11_u8, ?nxr0e11_u8⟩
                              case samer0e11_u8 =>
                                refine And.intro ?_ ?_
                                · with_reducible rfl
                                refine And.intro ?_ ?_
                                · with_reducible rfl
                                refine And.intro ?_ ?_
                                · with_reducible rfl
                                refine And.intro ?_ ?_
                                · with_reducible rfl
                                refine And.intro ?_ ?_
                                · with_reducible rfl
                                refine And.intro ?_ ?_
                                · with_reducible rfl
                                refine And.intro ?_ ?_
                                · with_reducible rfl
                                refine And.intro ?_ ?_
                                · with_reducible rfl
                                trivial
                              case hSr0e11_u8 => rfl
                              case nxr0e11_u8 =>
                                refine chainT_nil (by rfl) (by kernel_rfl) rfl ?opsr0e11_u8 ?endr0e11_u8
                                case opsr0e11_u8 =>
                                  simp only [OpsAt, fillT, List.setIfInBounds_toArray, List.set_cons_zero, List.set_cons_succ]
                                  try trivial
                                case endr0e11_u8 =>
                                  intro wE hE
                                  simp only [fillT, List.setIfInBounds_toArray, List.set_cons_zero, List.set_cons_succ]
                                  rw [hE]
                                  have ht := (HS11.out).pick [0, 1, 2, 4, 5, 3] (by decide)
                                  simp only [List.filterMap_cons, List.filterMap_nil, List.getElem?_cons_zero, List.getElem?_cons_succ] at ht
                                  try clear kk1
                                  try clear kk2
                                  try clear kk3
                                  try clear kk4
                                  try clear kk5
                                  try clear kk6
                                  try clear kk7
                                  try clear kk8
                                  try clear kk9
                                  try clear kk10
                                  try clear kk11
                                  clear hE
                                  generalize (w3).heap.size = p at ht ⊢
                                  generalize ((y10).setCell ⟨p, 0, none⟩ (.slice A9 x.spots.length C9)).setCell ⟨p, 1, none⟩ (.slice A10 x.edges.length C10) = wx at ht ⊢
                                  have HT := Lib.hid ht
                                  clear ht
                                  obtain ⟨gE, hgE, gc, gf, glt⟩ := rowK_at edC_len (by decide) (HT.out.rowOf (i := 4) rfl) (i := k) hlt
                                  subst hgE
                                  have hek : x.edges[k] = ⟨a, b, c0, c1, b0, r0, b1, r1⟩ := Option.some.inj ((List.getElem?_eq_getElem hlt).symm.trans HGK.out)
                                  rw [hek] at gc
                                  have s2 := gc 2 _ rfl
                                  have s3 := gc 3 _ rfl
                                  have f2 := gf (k * 8 + 2)
                                  have f3 := gf (k * 8 + 3)
                                  clear gc gf hek
                                  have k9 := HT.out.all
                                  simp only [allFacts, box_facts, row_facts, emp_facts, cellFacts, Nat.zero_add, Nat.reduceAdd, true_and, and_true] at k9
                                  go_wp2_with fail
                                  refine (HAD.out _).mono ?_
                                  rintro e w61 ⟨rfl, hw⟩
                                  first | rw [show w61 = _ from hw] | rw [show w61 = _ from hw.symm]
                                  clear hw
                                  go_wp2
                                  have hz9 := (HT.out.set 2 rfl 0 (.slice none 0 0)).set 2 rfl 1 (.slice none 0 0)
                                  have hz8 := hz9.below (i := 0) rfl
                                  have HZ8 := Lib.hid hz8
                                  clear hz9 hz8
                                  refine bodyPost_ret (v := .tuple #[.agg #[.slice none 0 0, .slice none 0 0], .int .i64 e]) (by simp only [results, Try.results15]; go_simp) rfl ⟨none, 0, none, 0, ret_web (by rw [HZ.out]; rfl) (by rw [HZ.out]; rfl) (by rw [HZ.out]), by rw [HZ.out]; exact WebAt.none _, HZ8.out⟩
          · subst he0
            obtain ⟨v0, v1⟩ := hval rfl
            have HZ := Lib.hid (show sentP x k node n = (⟨x.spots, x.edges.set k ⟨a, b, c0 - n, m, b0, r0, b1, r1⟩⟩, 0) from by rw [v0]; exact hsc.trans (if_pos rfl))
            have HAD := HAQ
            have w1' : IntKind.u64.wrap (c0 - n) = c0 - n := by rw [IntKind.wrap_u64]; omega
            clear hsc hval v0 v1
            go_enter Try.func15, Try.ntmps15
            go_wp2_with fail
            refine (HCK.out).mono ?_
            rintro e w2 ⟨rfl, hb⟩
            have h2 := H1.out.grow hb
            have k2 := h2.all
            simp only [allFacts, box_facts, row_facts, emp_facts, cellFacts, Nat.zero_add, Nat.reduceAdd, true_and, and_true] at k2
            have H2 := Lib.hid h2
            clear hb h2
            have q0 := restCell H2.out rfl hb (HC.out 0 _ rfl)
            have q1 := restCell H2.out rfl hb (HC.out 1 _ rfl)
            have q2 := restCell H2.out rfl hb (HC.out 2 _ rfl)
            have q3 := restCell H2.out rfl hb (HC.out 3 _ rfl)
            have q4 := restCell H2.out rfl hb (HC.out 4 _ rfl)
            have q5 := restCell H2.out rfl hb (HC.out 5 _ rfl)
            have q6 := restCell H2.out rfl hb (HC.out 6 _ rfl)
            have q7 := restCell H2.out rfl hb (HC.out 7 _ rfl)
            rw [Nat.add_zero] at q0
            go_wp2_with fail
            refine (HSD.out _).mono ?_
            rintro e w3 ⟨rfl, hb⟩
            clear q0 q1 q2 q3 q4 q5 q6 q7
            have h3 := H2.out.grow hb
            have k3 := h3.all
            simp only [allFacts, box_facts, row_facts, emp_facts, cellFacts, Nat.zero_add, Nat.reduceAdd, true_and, and_true] at k3
            clear k2
            have H3 := Lib.hid h3
            clear hb h3
            go_wp2_with fail
            refine region_chainT (m := 4) (E := [2, 5, 7, 8]) (kn := [true, true, false, true, true, false, false, false, false]) (mask := [true, true, false, true, true, false, false, false, false]) (vs := [?vr0o0_0_u21, ?vr0o0_1_u21, undef, ?vr0o0_3_u21, ?vr0o0_4_u21, undef, undef, undef, undef]) (S := fun w' => w' = w3.drew) (by kernel_rfl) (by kernel_rfl) (by kernel_rfl) (by kernel_rfl) (by kernel_rfl) ?hSr0o_u21 ?hchr0o_u21
            case hSr0o_u21 => exact rfl
            case hchr0o_u21 =>
              refine chainT_two 2 7 (by decide) (by kernel_rfl) rfl ?opsr0o0_u21 ?mr0o0_0_u21 ?mr0o0_1_u21
              case opsr0o0_u21 =>
                simp only [OpsAt, fillT, List.setIfInBounds_toArray, List.set_cons_zero, List.set_cons_succ]
                refine ⟨.inl ⟨by rfl, opOk_pure fun wS hS => ?_⟩, ?_⟩
                · ((subst hS; go_simp)); try (with_reducible rfl)
                refine ⟨.inl ⟨by rfl, opOk_pure fun wS hS => ?_⟩, ?_⟩
                · ((subst hS; go_simp)); try (with_reducible rfl)
                refine ⟨.inl ⟨by rfl, opOk_pure fun wS hS => ?_⟩, ?_⟩
                · ((subst hS; go_simp)); try (with_reducible rfl)
                refine ⟨.inl ⟨by rfl, opOk_pure fun wS hS => ?_⟩, ?_⟩
                · ((subst hS; go_simp)); try (with_reducible rfl)
                try trivial
              case mr0o0_0_u21 =>
                refine makeT _ rfl ?wantr0o0_0_u21 ?effr0o0_0_u21
                case wantr0o0_0_u21 => (try simp only [fillT, List.setIfInBounds_toArray, List.set_cons_zero, List.set_cons_succ]) <;> rfl
                intro wS hS
                simp only [fillT, List.setIfInBounds_toArray, List.set_cons_zero, List.set_cons_succ]
                rw [hS]
                refine eff_call (f := 28) (args := #[.slice As x.spots.length cs]) (by go_simp) ?_
                refine (cloneS_any (w3.drew) As cs x.spots (HW.out.s.mono (src_rest (H3.out.drew) (i := 0) rfl HW.out.s.src (src_lt HW.out.s.src))) (by omega)).mono ?_
                rintro e y1 ⟨A1, C1, rfl, gq⟩
                have hs1 := (H3.out.drew).pushThings gq
                try simp only [List.cons_append, List.nil_append, List.set_cons_succ, List.set_cons_zero, Nat.zero_add, Nat.reduceAdd, World.size_alloc, World.size_drew] at hs1
                have kk1 := hs1.all
                simp only [allFacts, box_facts, row_facts, emp_facts, cellFacts, Nat.zero_add, Nat.reduceAdd, true_and, and_true] at kk1
                have HS1 := Lib.hid hs1
                clear hs1
                clear gq
                refine ⟨_, rfl, ?_⟩
                refine ⟨_, [true, true, true, true, true, false, false, false, false], [false, false, false, true, true, false, false, false, false], [1, 0], [?vr0o1_0_u21, ?vr0o1_1_u21, (.slice A1 x.spots.length C1), ?vr0o1_3_u21, ?vr0o1_4_u21, undef, undef, undef, undef], fun w' => w' = y1, rfl, rfl, ?samer0o1_u21, by kernel_rfl, ?hSr0o1_u21, ?nxr0o1_u21⟩
                case samer0o1_u21 =>
                  refine And.intro ?_ ?_
                  · with_reducible rfl
                  refine And.intro ?_ ?_
                  · with_reducible rfl
                  refine And.intro ?_ ?_
                  · with_reducible rfl
                  refine And.intro ?_ ?_
                  · with_reducible rfl
                  trivial
                case hSr0o1_u21 => rfl
                case nxr0o1_u21 =>
                  refine chainT_two 5 7 (by decide) (by kernel_rfl) rfl ?opsr0o1_u21 ?mr0o1_0_u21 ?mr0o1_1_u21
                  case opsr0o1_u21 =>
                    simp only [OpsAt, fillT, List.setIfInBounds_toArray, List.set_cons_zero, List.set_cons_succ]
                    refine ⟨.inl ⟨by rfl, opOk_pure fun wS hS => ?_⟩, ?_⟩
                    · ((subst hS; go_simp)); try (with_reducible rfl)
                    refine ⟨.inl ⟨by rfl, opOk_pure fun wS hS => ?_⟩, ?_⟩
                    · ((subst hS; go_simp)); try (with_reducible rfl)
                    try trivial
                  case mr0o1_0_u21 =>
                    refine makeT _ rfl ?wantr0o1_0_u21 ?effr0o1_0_u21
                    case wantr0o1_0_u21 => (try simp only [fillT, List.setIfInBounds_toArray, List.set_cons_zero, List.set_cons_succ]) <;> rfl
                    intro wS hS
                    simp only [fillT, List.setIfInBounds_toArray, List.set_cons_zero, List.set_cons_succ]
                    rw [hS]
                    refine eff_call (f := 29) (args := #[.slice (some ⟨g, off, none⟩) x.edges.length ce]) (by go_simp) ?_
                    refine (cloneE_any (y1) (some ⟨g, off, none⟩) ce x.edges (HW.out.e.mono (src_rest (HS1.out) (i := 0) rfl HW.out.e.src (src_lt HW.out.e.src))) (by omega)).mono ?_
                    rintro e y2 ⟨A2, C2, rfl, gq⟩
                    have hs2 := (HS1.out).pushThings gq
                    try simp only [List.cons_append, List.nil_append, List.set_cons_succ, List.set_cons_zero, Nat.zero_add, Nat.reduceAdd, World.size_alloc, World.size_drew] at hs2
                    have kk2 := hs2.all
                    simp only [allFacts, box_facts, row_facts, emp_facts, cellFacts, Nat.zero_add, Nat.reduceAdd, true_and, and_true] at kk2
                    have HS2 := Lib.hid hs2
                    clear hs2
                    clear gq
                    refine ⟨_, rfl, ?_⟩
                    refine ⟨_, [true, true, true, true, true, true, true, false, false], [false, false, false, false, false, false, true, false, false], [4, 3], [?vr0o2_0_u21, ?vr0o2_1_u21, (.slice A1 x.spots.length C1), ?vr0o2_3_u21, ?vr0o2_4_u21, (.slice A2 x.edges.length C2), ?vr0o2_6_u21, undef, undef], fun w' => w' = y2, rfl, rfl, ?samer0o2_u21, by kernel_rfl, ?hSr0o2_u21, ?nxr0o2_u21⟩
                    case samer0o2_u21 =>
                      refine And.intro ?_ ?_
                      · with_reducible rfl
                      refine And.intro ?_ ?_
                      · with_reducible rfl
                      refine And.intro ?_ ?_
                      · with_reducible rfl
                      refine And.intro ?_ ?_
                      · with_reducible rfl
                      refine And.intro ?_ ?_
                      · with_reducible rfl
                      trivial
                    case hSr0o2_u21 => rfl
                    case nxr0o2_u21 =>
                      refine chainT_one 7 (by decide) (by kernel_rfl) rfl ?opsr0o2_u21 ?mr0o2_0_u21
                      case opsr0o2_u21 =>
                        simp only [OpsAt, fillT, List.setIfInBounds_toArray, List.set_cons_zero, List.set_cons_succ]
                        refine ⟨.inl ⟨by rfl, opOk_pure fun wS hS => ?_⟩, ?_⟩
                        · ((subst hS; go_simp)); try (with_reducible rfl)
                        try trivial
                      case mr0o2_0_u21 =>
                        refine makeT _ rfl ?wantr0o2_0_u21 ?effr0o2_0_u21
                        case wantr0o2_0_u21 => (try simp only [fillT, List.setIfInBounds_toArray, List.set_cons_zero, List.set_cons_succ]) <;> rfl
                        intro wS hS
                        simp only [fillT, List.setIfInBounds_toArray, List.set_cons_zero, List.set_cons_succ]
                        rw [hS]
                        refine eff_run (w' := (y2).alloc (.cells #[.slice none 0 0, .slice none 0 0] 31)) (by go_simp; try rfl) ?_
                        have hs3 := (HS2.out).alloc #[.slice none 0 0, .slice none 0 0] 31
                        try simp only [List.cons_append, List.nil_append, List.set_cons_succ, List.set_cons_zero, Nat.zero_add, Nat.reduceAdd, World.size_alloc, World.size_drew] at hs3
                        have kk3 := hs3.all
                        simp only [allFacts, box_facts, row_facts, emp_facts, cellFacts, Nat.zero_add, Nat.reduceAdd, true_and, and_true] at kk3
                        have HS3 := Lib.hid hs3
                        clear hs3
                        refine ⟨_, [true, true, true, true, true, true, true, true, false], [false, false, false, false, false, false, true, false, false], [], [?vr0o3_0_u21, ?vr0o3_1_u21, (.slice A1 x.spots.length C1), ?vr0o3_3_u21, ?vr0o3_4_u21, (.slice A2 x.edges.length C2), ?vr0o3_6_u21, (.pointer (some ⟨(y2).heap.size, 0, none⟩)), undef], fun w' => w' = (y2).alloc (.cells #[.slice none 0 0, .slice none 0 0] 31), rfl, rfl, ?samer0o3_u21, by kernel_rfl, ?hSr0o3_u21, ?nxr0o3_u21⟩
                        case samer0o3_u21 =>
                          refine And.intro ?_ ?_
                          · with_reducible rfl
                          refine And.intro ?_ ?_
                          · with_reducible rfl
                          refine And.intro ?_ ?_
                          · with_reducible rfl
                          refine And.intro ?_ ?_
                          · with_reducible rfl
                          refine And.intro ?_ ?_
                          · with_reducible rfl
                          refine And.intro ?_ ?_
                          · with_reducible rfl
                          refine And.intro ?_ ?_
                          · with_reducible rfl
                          trivial
                        case hSr0o3_u21 => rfl
                        case nxr0o3_u21 =>
                          refine chainT_one 8 (by decide) (by kernel_rfl) rfl ?opsr0o3_u21 ?mr0o3_0_u21
                          case opsr0o3_u21 =>
                            simp only [OpsAt, fillT, List.setIfInBounds_toArray, List.set_cons_zero, List.set_cons_succ]
                            refine ⟨.inl ⟨by rfl, opOk_pure fun wS hS => ?_⟩, ?_⟩
                            · ((subst hS; go_simp)); try (with_reducible rfl)
                            try trivial
                          case mr0o3_0_u21 =>
                            refine makeT _ rfl ?wantr0o3_0_u21 ?effr0o3_0_u21
                            case wantr0o3_0_u21 => (try simp only [fillT, List.setIfInBounds_toArray, List.set_cons_zero, List.set_cons_succ]) <;> rfl
                            intro wS hS
                            simp only [fillT, List.setIfInBounds_toArray, List.set_cons_zero, List.set_cons_succ]
                            rw [hS]
                            refine eff_skip (w' := (((y2).alloc (.cells #[.slice none 0 0, .slice none 0 0] 31)).setCell ⟨(y2).heap.size, 0, none⟩ (.slice A1 x.spots.length C1)).setCell ⟨(y2).heap.size, 1, none⟩ (.slice A2 x.edges.length C2)) ?run_u9_u21 ?pp_u9_u21
                            case run_u9_u21 => go_simp
                            case pp_u9_u21 =>
                              have hs4 := ((HS3.out).set 5 rfl 0 (.slice A1 x.spots.length C1)).set 5 rfl 1 (.slice A2 x.edges.length C2)
                              try simp only [List.cons_append, List.nil_append, List.set_cons_succ, List.set_cons_zero, Nat.zero_add, Nat.reduceAdd, World.size_alloc, World.size_drew] at hs4
                              have HS4 := Lib.hid hs4
                              clear hs4
                              refine ⟨_, [true, true, true, true, true, true, true, true, true], [false, false, false, false, false, false, false, false, false], [6], [?vr0o4_0_u21, ?vr0o4_1_u21, (.slice A1 x.spots.length C1), ?vr0o4_3_u21, ?vr0o4_4_u21, (.slice A2 x.edges.length C2), ?vr0o4_6_u21, (.pointer (some ⟨(y2).heap.size, 0, none⟩)), undef], fun w' => w' = (((y2).alloc (.cells #[.slice none 0 0, .slice none 0 0] 31)).setCell ⟨(y2).heap.size, 0, none⟩ (.slice A1 x.spots.length C1)).setCell ⟨(y2).heap.size, 1, none⟩ (.slice A2 x.edges.length C2), rfl, rfl, ?samer0o4_u21, by kernel_rfl, ?hSr0o4_u21, ?nxr0o4_u21⟩
                              case samer0o4_u21 =>
                                refine And.intro ?_ ?_
                                · with_reducible rfl
                                refine And.intro ?_ ?_
                                · with_reducible rfl
                                refine And.intro ?_ ?_
                                · with_reducible rfl
                                refine And.intro ?_ ?_
                                · with_reducible rfl
                                refine And.intro ?_ ?_
                                · with_reducible rfl
                                refine And.intro ?_ ?_
                                · with_reducible rfl
                                refine And.intro ?_ ?_
                                · with_reducible rfl
                                refine And.intro ?_ ?_
                                · with_reducible rfl
                                trivial
                              case hSr0o4_u21 => rfl
                              case nxr0o4_u21 =>
                                refine chainT_nil (by rfl) (by kernel_rfl) rfl ?opsr0o4_u21 ?endr0o4_u21
                                case opsr0o4_u21 =>
                                  simp only [OpsAt, fillT, List.setIfInBounds_toArray, List.set_cons_zero, List.set_cons_succ]
                                  try trivial
                                case endr0o4_u21 =>
                                  intro wE hE
                                  simp only [fillT, List.setIfInBounds_toArray, List.set_cons_zero, List.set_cons_succ]
                                  rw [hE]
                                  have ht := (HS4.out).pick [0, 1, 2, 3, 4, 5] (by decide)
                                  simp only [List.filterMap_cons, List.filterMap_nil, List.getElem?_cons_zero, List.getElem?_cons_succ] at ht
                                  try clear kk1
                                  try clear kk2
                                  try clear kk3
                                  try clear kk4
                                  clear hE
                                  generalize (y2).heap.size = p at ht ⊢
                                  generalize (((y2).alloc (.cells #[.slice none 0 0, .slice none 0 0] 31)).setCell ⟨p, 0, none⟩ (.slice A1 x.spots.length C1)).setCell ⟨p, 1, none⟩ (.slice A2 x.edges.length C2) = wx at ht ⊢
                                  have HT := Lib.hid ht
                                  clear ht
                                  obtain ⟨gE, hgE, gc, gf, glt⟩ := rowK_at edC_len (by decide) (HT.out.rowOf (i := 4) rfl) (i := k) hlt
                                  subst hgE
                                  have hek : x.edges[k] = ⟨a, b, c0, c1, b0, r0, b1, r1⟩ := Option.some.inj ((List.getElem?_eq_getElem hlt).symm.trans HGK.out)
                                  rw [hek] at gc
                                  have s2 := gc 2 _ rfl
                                  have s3 := gc 3 _ rfl
                                  have f2 := gf (k * 8 + 2)
                                  have f3 := gf (k * 8 + 3)
                                  clear gc gf hek
                                  have k9 := HT.out.all
                                  simp only [allFacts, box_facts, row_facts, emp_facts, cellFacts, Nat.zero_add, Nat.reduceAdd, true_and, and_true] at k9
                                  go_wp2_with fail
                                  refine (HAD.out _).mono ?_
                                  rintro e w61 ⟨rfl, hw⟩
                                  first | rw [show w61 = _ from hw] | rw [show w61 = _ from hw.symm]
                                  clear hw
                                  have hk1 := HT.out.drew.setRowK edC_len 4 rfl (i := k) hlt (j := 2) (by decide) (.int .u64 (c0 - n)) (⟨a, b, c0 - n, c1, b0, r0, b1, r1⟩ : Edg) (by rw [show x.edges[k] = ⟨a, b, c0, c1, b0, r0, b1, r1⟩ from Option.some.inj ((List.getElem?_eq_getElem hlt).symm.trans HGK.out)]; rfl)
                                  try simp only [List.cons_append, List.nil_append, List.set_cons_succ, List.set_cons_zero, Nat.zero_add, Nat.reduceAdd, World.size_alloc, World.size_drew] at hk1
                                  have hk2 := hk1.setRowK edC_len 4 rfl (i := k) (by simpa using hlt) (j := 3) (by decide) (.int .u64 m) (⟨a, b, c0 - n, m, b0, r0, b1, r1⟩ : Edg) (by simp [edC])
                                  try simp only [List.cons_append, List.nil_append, List.set_cons_succ, List.set_cons_zero, Nat.zero_add, Nat.reduceAdd, World.size_alloc, World.size_drew] at hk2
                                  simp only [List.length_set, List.set_set] at hk2
                                  have HK0 := Lib.hid hk2
                                  clear hk1 hk2
                                  go_wp2_with fail
                                  refine region_chain (E := [17, 21]) (kn := [true, true, true, true, true, true, true, true, true, true, true, true, true, true, true, true, true, false, true, true, false, false]) (mask := [true, true, true, true, true, true, true, true, true, true, true, true, true, true, true, true, true, false, true, true, false, false]) (vs := [?vs0_0_u12_u21, ?vs0_1_u12_u21, ?vs0_2_u12_u21, ?vs0_3_u12_u21, ?vs0_4_u12_u21, ?vs0_5_u12_u21, ?vs0_6_u12_u21, ?vs0_7_u12_u21, ?vs0_8_u12_u21, ?vs0_9_u12_u21, ?vs0_10_u12_u21, ?vs0_11_u12_u21, ?vs0_12_u12_u21, ?vs0_13_u12_u21, ?vs0_14_u12_u21, ?vs0_15_u12_u21, ?vs0_16_u12_u21, undef, ?vs0_18_u12_u21, ?vs0_19_u12_u21, undef, undef]) (S := fun w' => w' = (wx).drew) (by kernel_rfl) (by kernel_rfl) (by kernel_rfl) (by kernel_rfl) (by kernel_rfl) ?hSs_u12_u21 ?hchs_u12_u21
                                  case hSs_u12_u21 => exact rfl
                                  case hchs_u12_u21 =>
                                    refine chain_cons _ (by kernel_rfl) rfl rfl ?opss0_u12_u21 ?wants0_u12_u21 ?effs0_u12_u21
                                    case opss0_u12_u21 =>
                                      simp only [OpsAt, fillT, List.setIfInBounds_toArray, List.set_cons_zero, List.set_cons_succ]
                                      refine ⟨.inl ⟨by rfl, opOk_pure fun wS hS => ?_⟩, ?_⟩
                                      · ((subst hS; go_simp; try simp (disch := omega) only [wrap64_id])); try (with_reducible rfl)
                                      refine ⟨.inl ⟨by rfl, opOk_pure fun wS hS => ?_⟩, ?_⟩
                                      · ((subst hS; go_simp; try simp (disch := omega) only [wrap64_id])); try (with_reducible rfl)
                                      refine ⟨.inl ⟨by rfl, opOk_pure fun wS hS => ?_⟩, ?_⟩
                                      · ((subst hS; go_simp; try simp (disch := omega) only [wrap64_id])); try (with_reducible rfl)
                                      refine ⟨.inl ⟨by rfl, opOk_pure fun wS hS => ?_⟩, ?_⟩
                                      · ((subst hS; go_simp; try simp (disch := omega) only [wrap64_id])); try (with_reducible rfl)
                                      refine ⟨.inl ⟨by rfl, opOk_pure fun wS hS => ?_⟩, ?_⟩
                                      · ((subst hS; go_simp; try simp (disch := omega) only [wrap64_id])); try (with_reducible rfl)
                                      refine ⟨.inl ⟨by rfl, opOk_pure fun wS hS => ?_⟩, ?_⟩
                                      · ((subst hS; go_simp; try simp (disch := omega) only [wrap64_id])); try (with_reducible rfl)
                                      refine ⟨.inl ⟨by rfl, opOk_pure fun wS hS => ?_⟩, ?_⟩
                                      · ((subst hS; go_simp; try simp (disch := omega) only [wrap64_id])); try (with_reducible rfl)
                                      refine ⟨.inl ⟨by rfl, opOk_pure fun wS hS => ?_⟩, ?_⟩
                                      · ((subst hS; go_simp; try simp (disch := omega) only [wrap64_id])); try (with_reducible rfl)
                                      refine ⟨.inl ⟨by rfl, opOk_pure fun wS hS => ?_⟩, ?_⟩
                                      · ((subst hS; go_simp; try simp (disch := omega) only [wrap64_id])); try (with_reducible rfl)
                                      refine ⟨.inl ⟨by rfl, opOk_pure fun wS hS => ?_⟩, ?_⟩
                                      · ((subst hS; go_simp; try simp (disch := omega) only [wrap64_id])); try (with_reducible rfl)
                                      refine ⟨.inl ⟨by rfl, opOk_pure fun wS hS => ?_⟩, ?_⟩
                                      · ((subst hS; go_simp; try simp (disch := omega) only [wrap64_id])); try (with_reducible rfl)
                                      refine ⟨.inl ⟨by rfl, opOk_pure fun wS hS => ?_⟩, ?_⟩
                                      · ((subst hS; go_simp; try simp (disch := omega) only [wrap64_id])); try (with_reducible rfl)
                                      refine ⟨.inl ⟨by rfl, opOk_pure fun wS hS => ?_⟩, ?_⟩
                                      · ((subst hS; go_simp; try simp (disch := omega) only [wrap64_id])); try (with_reducible rfl)
                                      refine ⟨.inl ⟨by rfl, opOk_pure fun wS hS => ?_⟩, ?_⟩
                                      · ((subst hS; go_simp; try simp (disch := omega) only [wrap64_id])); try (with_reducible rfl)
                                      refine ⟨.inl ⟨by rfl, opOk_pure fun wS hS => ?_⟩, ?_⟩
                                      · ((subst hS; go_simp; try simp (disch := omega) only [wrap64_id])); try (with_reducible rfl)
                                      refine ⟨.inl ⟨by rfl, opOk_pure fun wS hS => ?_⟩, ?_⟩
                                      · ((subst hS; go_simp; try simp (disch := omega) only [wrap64_id])); try (with_reducible rfl)
                                      refine ⟨.inl ⟨by rfl, opOk_pure fun wS hS => ?_⟩, ?_⟩
                                      · ((subst hS; go_simp; try simp (disch := omega) only [wrap64_id])); try (with_reducible rfl)
                                      refine ⟨.inl ⟨by rfl, opOk_pure fun wS hS => ?_⟩, ?_⟩
                                      · ((subst hS; go_simp; try simp (disch := omega) only [wrap64_id])); try (with_reducible rfl)
                                      refine ⟨.inl ⟨by rfl, opOk_pure fun wS hS => ?_⟩, ?_⟩
                                      · ((subst hS; go_simp; try simp (disch := omega) only [wrap64_id])); try (with_reducible rfl)
                                      try trivial
                                    case wants0_u12_u21 => (try simp only [fillT, List.setIfInBounds_toArray, List.set_cons_zero, List.set_cons_succ]) <;> rfl
                                    case effs0_u12_u21 =>
                                      intro wS hS
                                      simp only [fillT, List.setIfInBounds_toArray, List.set_cons_zero, List.set_cons_succ]
                                      rw [hS]
                                      refine eff_skip (w' := ((wx).drew).setCell ⟨gE, k * 8 + 2, none⟩ (.int .u64 (c0 - n))) ?run_u10_u12_u21 ?pp_u10_u12_u21
                                      case run_u10_u12_u21 => go_simp
                                      case pp_u10_u12_u21 =>
                                        refine ⟨_, [true, true, true, true, true, true, true, true, true, true, true, true, true, true, true, true, true, true, true, true, true, false], [false, false, true, true, true, false, false, false, false, false, false, false, false, true, false, false, false, false, true, true, true, false], [16, 12, 0, 1, 5, 6, 7, 8, 9, 10, 11, 15, 14], [?vs1_0_u12_u21, ?vs1_1_u12_u21, ?vs1_2_u12_u21, ?vs1_3_u12_u21, ?vs1_4_u12_u21, ?vs1_5_u12_u21, ?vs1_6_u12_u21, ?vs1_7_u12_u21, ?vs1_8_u12_u21, ?vs1_9_u12_u21, ?vs1_10_u12_u21, ?vs1_11_u12_u21, ?vs1_12_u12_u21, ?vs1_13_u12_u21, ?vs1_14_u12_u21, ?vs1_15_u12_u21, ?vs1_16_u12_u21, undef, ?vs1_18_u12_u21, ?vs1_19_u12_u21, ?vs1_20_u12_u21, undef], fun w' => w' = ((wx).drew).setCell ⟨gE, k * 8 + 2, none⟩ (.int .u64 (c0 - n)), rfl, rfl, ?sames0_u12_u21, by kernel_rfl, ?hSs0_u12_u21, ?nxs0_u12_u21⟩
                                        case sames0_u12_u21 =>
                                          refine And.intro ?_ ?_
                                          · with_reducible rfl
                                          refine And.intro ?_ ?_
                                          · with_reducible rfl
                                          refine And.intro ?_ ?_
                                          · with_reducible rfl
                                          refine And.intro ?_ ?_
                                          · with_reducible rfl
                                          refine And.intro ?_ ?_
                                          · with_reducible rfl
                                          refine And.intro ?_ ?_
                                          · with_reducible rfl
                                          refine And.intro ?_ ?_
                                          · with_reducible rfl
                                          refine And.intro ?_ ?_
                                          · with_reducible rfl
                                          refine And.intro ?_ ?_
                                          · with_reducible rfl
                                          refine And.intro ?_ ?_
                                          · with_reducible rfl
                                          refine And.intro ?_ ?_
                                          · with_reducible rfl
                                          refine And.intro ?_ ?_
                                          · with_reducible rfl
                                          refine And.intro ?_ ?_
                                          · with_reducible rfl
                                          refine And.intro ?_ ?_
                                          · with_reducible rfl
                                          refine And.intro ?_ ?_
                                          · with_reducible rfl
                                          refine And.intro ?_ ?_
                                          · with_reducible rfl
                                          refine And.intro ?_ ?_
                                          · with_reducible rfl
                                          refine And.intro ?_ ?_
                                          · with_reducible rfl
                                          refine And.intro ?_ ?_
                                          · with_reducible rfl
                                          trivial
                                        case hSs0_u12_u21 => rfl
                                        case nxs0_u12_u21 =>
                                          refine chain_cons _ (by kernel_rfl) rfl rfl ?opss1_u12_u21 ?wants1_u12_u21 ?effs1_u12_u21
                                          case opss1_u12_u21 =>
                                            simp only [OpsAt, fillT, List.setIfInBounds_toArray, List.set_cons_zero, List.set_cons_succ]
                                            refine ⟨.inl ⟨by rfl, opOk_pure fun wS hS => ?_⟩, ?_⟩
                                            · ((subst hS; go_simp; try simp (disch := omega) only [wrap64_id])); try (with_reducible rfl)
                                            refine ⟨.inl ⟨by rfl, opOk_pure fun wS hS => ?_⟩, ?_⟩
                                            · ((subst hS; go_simp; try simp (disch := omega) only [wrap64_id])); try (with_reducible rfl)
                                            refine ⟨.inl ⟨by rfl, opOk_pure fun wS hS => ?_⟩, ?_⟩
                                            · ((subst hS; go_simp; try simp (disch := omega) only [wrap64_id])); try (with_reducible rfl)
                                            refine ⟨.inl ⟨by rfl, opOk_pure fun wS hS => ?_⟩, ?_⟩
                                            · ((subst hS; go_simp; try simp (disch := omega) only [wrap64_id])); try (with_reducible rfl)
                                            refine ⟨.inl ⟨by rfl, opOk_pure fun wS hS => ?_⟩, ?_⟩
                                            · ((subst hS; go_simp; try simp (disch := omega) only [wrap64_id])); try (with_reducible rfl)
                                            refine ⟨.inl ⟨by rfl, opOk_pure fun wS hS => ?_⟩, ?_⟩
                                            · ((subst hS; go_simp; try simp (disch := omega) only [wrap64_id])); try (with_reducible rfl)
                                            refine ⟨.inl ⟨by rfl, opOk_pure fun wS hS => ?_⟩, ?_⟩
                                            · ((subst hS; go_simp; try simp (disch := omega) only [wrap64_id])); try (with_reducible rfl)
                                            try trivial
                                          case wants1_u12_u21 => (try simp only [fillT, List.setIfInBounds_toArray, List.set_cons_zero, List.set_cons_succ]) <;> rfl
                                          case effs1_u12_u21 =>
                                            intro wS hS
                                            simp only [fillT, List.setIfInBounds_toArray, List.set_cons_zero, List.set_cons_succ]
                                            rw [hS]
                                            refine eff_skip (w' := (((wx).drew).setCell ⟨gE, k * 8 + 2, none⟩ (.int .u64 (c0 - n))).setCell ⟨gE, k * 8 + 3, none⟩ (.int .u64 m)) ?run_u11_u12_u21 ?pp_u11_u12_u21
                                            case run_u11_u12_u21 => go_simp
                                            case pp_u11_u12_u21 =>
                                              refine ⟨_, [true, true, true, true, true, true, true, true, true, true, true, true, true, true, true, true, true, true, true, true, true, true], [false, false, false, false, false, false, false, false, false, false, false, false, false, false, false, false, false, false, false, false, false, false], [20, 13, 2, 3, 4, 19, 18], [?vs2_0_u12_u21, ?vs2_1_u12_u21, ?vs2_2_u12_u21, ?vs2_3_u12_u21, ?vs2_4_u12_u21, ?vs2_5_u12_u21, ?vs2_6_u12_u21, ?vs2_7_u12_u21, ?vs2_8_u12_u21, ?vs2_9_u12_u21, ?vs2_10_u12_u21, ?vs2_11_u12_u21, ?vs2_12_u12_u21, ?vs2_13_u12_u21, ?vs2_14_u12_u21, ?vs2_15_u12_u21, ?vs2_16_u12_u21, undef, ?vs2_18_u12_u21, ?vs2_19_u12_u21, ?vs2_20_u12_u21, undef], fun w' => w' = (((wx).drew).setCell ⟨gE, k * 8 + 2, none⟩ (.int .u64 (c0 - n))).setCell ⟨gE, k * 8 + 3, none⟩ (.int .u64 m), rfl, rfl, ?sames1_u12_u21, by kernel_rfl, ?hSs1_u12_u21, ?nxs1_u12_u21⟩
                                              case sames1_u12_u21 =>
                                                refine And.intro ?_ ?_
                                                · with_reducible rfl
                                                refine And.intro ?_ ?_
                                                · with_reducible rfl
                                                refine And.intro ?_ ?_
                                                · with_reducible rfl
                                                refine And.intro ?_ ?_
                                                · with_reducible rfl
                                                refine And.intro ?_ ?_
                                                · with_reducible rfl
                                                refine And.intro ?_ ?_
                                                · with_reducible rfl
                                                refine And.intro ?_ ?_
                                                · with_reducible rfl
                                                refine And.intro ?_ ?_
                                                · with_reducible rfl
                                                refine And.intro ?_ ?_
                                                · with_reducible rfl
                                                refine And.intro ?_ ?_
                                                · with_reducible rfl
                                                refine And.intro ?_ ?_
                                                · with_reducible rfl
                                                refine And.intro ?_ ?_
                                                · with_reducible rfl
                                                refine And.intro ?_ ?_
                                                · with_reducible rfl
                                                refine And.intro ?_ ?_
                                                · with_reducible rfl
                                                refine And.intro ?_ ?_
                                                · with_reducible rfl
                                                refine And.intro ?_ ?_
                                                · with_reducible rfl
                                                refine And.intro ?_ ?_
                                                · with_reducible rfl
                                                refine And.intro ?_ ?_
                                                · with_reducible rfl
                                                refine And.intro ?_ ?_
                                                · with_reducible rfl
                                                refine And.intro ?_ ?_
                                                · with_reducible rfl
                                                refine And.intro ?_ ?_
                                                · with_reducible rfl
                                                trivial
                                              case hSs1_u12_u21 => rfl
                                              case nxs1_u12_u21 =>
                                                refine chain_nil (by kernel_rfl) rfl ?opss2_u12_u21 ?ends2_u12_u21
                                                case opss2_u12_u21 =>
                                                  simp only [OpsAt, fillT, List.setIfInBounds_toArray, List.set_cons_zero, List.set_cons_succ]
                                                  try trivial
                                                case ends2_u12_u21 =>
                                                  intro wE hE
                                                  simp only [fillT, List.setIfInBounds_toArray, List.set_cons_zero, List.set_cons_succ]
                                                  rw [hE]
                                                  clear hE s2 s3 f2 f3 k9
                                                  have hk := HK0.out
                                                  generalize (((wx).drew).setCell ⟨gE, k * 8 + 2, none⟩ (.int .u64 (c0 - n))).setCell ⟨gE, k * 8 + 3, none⟩ (.int .u64 m) = wy at hk ⊢
                                                  have HK := Lib.hid hk
                                                  clear hk HK0
                                                  skip
                                                  have k7 := HK.out.all
                                                  simp only [allFacts, box_facts, row_facts, emp_facts, cellFacts, Nat.zero_add, Nat.reduceAdd, true_and, and_true] at k7
                                                  go_wp2
                                                  have h8 := (HK.out.set 2 rfl 0 (.slice A1 x.spots.length C1)).set 2 rfl 1 (.slice (some ⟨gE, 0, none⟩) x.edges.length C2)
                                                  try simp only [List.cons_append, List.nil_append, List.set_cons_succ, List.set_cons_zero, Nat.zero_add, Nat.reduceAdd, World.size_alloc, World.size_drew] at h8
                                                  have hW9 := WebAt.ofRows (i := 3) (j := 4) (x := ⟨x.spots, x.edges.set k (⟨a, b, c0 - n, m, b0, r0, b1, r1⟩ : Edg)⟩) (c2 := C2) (A2 := some ⟨gE, 0, none⟩) h8 rfl (by rw [List.length_set]; rfl) ⟨by first | omega | (dsimp only; omega), by first | (rw [List.length_set]; omega) | (rw [List.length_set]; dsimp only; omega)⟩
                                                  have HW9 := Lib.hid hW9
                                                  have hb9 := h8.below (i := 0) rfl
                                                  have HB9 := Lib.hid hb9
                                                  clear h8 hW9 hb9
                                                  refine bodyPost_ret (v := .tuple #[.agg #[.slice A1 x.spots.length C1, .slice (some ⟨gE, 0, none⟩) x.edges.length C2], .int .i64 0]) (by simp only [results, Try.results15]; go_simp) rfl ⟨A1, C1, some ⟨gE, 0, none⟩, C2, ret_web (by rw [HZ.out]) (by rw [HZ.out]; simp) (by rw [HZ.out]), by rw [HZ.out]; exact HW9.out, HB9.out⟩
                  case mr0o1_1_u21 =>
                    refine makeT _ rfl ?wantr0o1_1_u21 ?effr0o1_1_u21
                    case wantr0o1_1_u21 => (try simp only [fillT, List.setIfInBounds_toArray, List.set_cons_zero, List.set_cons_succ]) <;> rfl
                    intro wS hS
                    simp only [fillT, List.setIfInBounds_toArray, List.set_cons_zero, List.set_cons_succ]
                    rw [hS]
                    refine eff_run (w' := (y1).alloc (.cells #[.slice none 0 0, .slice none 0 0] 31)) (by go_simp; try rfl) ?_
                    have hs5 := (HS1.out).alloc #[.slice none 0 0, .slice none 0 0] 31
                    try simp only [List.cons_append, List.nil_append, List.set_cons_succ, List.set_cons_zero, Nat.zero_add, Nat.reduceAdd, World.size_alloc, World.size_drew] at hs5
                    have kk5 := hs5.all
                    simp only [allFacts, box_facts, row_facts, emp_facts, cellFacts, Nat.zero_add, Nat.reduceAdd, true_and, and_true] at kk5
                    have HS5 := Lib.hid hs5
                    clear hs5
                    refine ⟨_, [true, true, true, true, true, false, false, true, false], [false, false, false, true, true, false, false, false, false], [], [?vr0o5_0_u21, ?vr0o5_1_u21, (.slice A1 x.spots.length C1), ?vr0o5_3_u21, ?vr0o5_4_u21, undef, undef, (.pointer (some ⟨(y1).heap.size, 0, none⟩)), undef], fun w' => w' = (y1).alloc (.cells #[.slice none 0 0, .slice none 0 0] 31), rfl, rfl, ?samer0o5_u21, by kernel_rfl, ?hSr0o5_u21, ?nxr0o5_u21⟩
                    case samer0o5_u21 =>
                      refine And.intro ?_ ?_
                      · with_reducible rfl
                      refine And.intro ?_ ?_
                      · with_reducible rfl
                      refine And.intro ?_ ?_
                      · with_reducible rfl
                      refine And.intro ?_ ?_
                      · with_reducible rfl
                      refine And.intro ?_ ?_
                      · with_reducible rfl
                      trivial
                    case hSr0o5_u21 => rfl
                    case nxr0o5_u21 =>
                      refine chainT_one 5 (by decide) (by kernel_rfl) rfl ?opsr0o5_u21 ?mr0o5_0_u21
                      case opsr0o5_u21 =>
                        simp only [OpsAt, fillT, List.setIfInBounds_toArray, List.set_cons_zero, List.set_cons_succ]
                        refine ⟨.inl ⟨by rfl, opOk_pure fun wS hS => ?_⟩, ?_⟩
                        · ((subst hS; go_simp)); try (with_reducible rfl)
                        refine ⟨.inl ⟨by rfl, opOk_pure fun wS hS => ?_⟩, ?_⟩
                        · ((subst hS; go_simp)); try (with_reducible rfl)
                        try trivial
                      case mr0o5_0_u21 =>
                        refine makeT _ rfl ?wantr0o5_0_u21 ?effr0o5_0_u21
                        case wantr0o5_0_u21 => (try simp only [fillT, List.setIfInBounds_toArray, List.set_cons_zero, List.set_cons_succ]) <;> rfl
                        intro wS hS
                        simp only [fillT, List.setIfInBounds_toArray, List.set_cons_zero, List.set_cons_succ]
                        rw [hS]
                        refine eff_call (f := 29) (args := #[.slice (some ⟨g, off, none⟩) x.edges.length ce]) (by go_simp) ?_
                        refine (cloneE_any ((y1).alloc (.cells #[.slice none 0 0, .slice none 0 0] 31)) (some ⟨g, off, none⟩) ce x.edges (HW.out.e.mono (src_rest (HS5.out) (i := 0) rfl HW.out.e.src (src_lt HW.out.e.src))) (by omega)).mono ?_
                        rintro e y6 ⟨A6, C6, rfl, gq⟩
                        have hs6 := (HS5.out).pushThings gq
                        try simp only [List.cons_append, List.nil_append, List.set_cons_succ, List.set_cons_zero, Nat.zero_add, Nat.reduceAdd, World.size_alloc, World.size_drew] at hs6
                        have kk6 := hs6.all
                        simp only [allFacts, box_facts, row_facts, emp_facts, cellFacts, Nat.zero_add, Nat.reduceAdd, true_and, and_true] at kk6
                        have HS6 := Lib.hid hs6
                        clear hs6
                        clear gq
                        refine ⟨_, rfl, ?_⟩
                        refine ⟨_, [true, true, true, true, true, true, true, true, false], [false, false, false, false, false, false, true, false, false], [4, 3], [?vr0o6_0_u21, ?vr0o6_1_u21, (.slice A1 x.spots.length C1), ?vr0o6_3_u21, ?vr0o6_4_u21, (.slice A6 x.edges.length C6), ?vr0o6_6_u21, (.pointer (some ⟨(y1).heap.size, 0, none⟩)), undef], fun w' => w' = y6, rfl, rfl, ?samer0o6_u21, by kernel_rfl, ?hSr0o6_u21, ?nxr0o6_u21⟩
                        case samer0o6_u21 =>
                          refine And.intro ?_ ?_
                          · with_reducible rfl
                          refine And.intro ?_ ?_
                          · with_reducible rfl
                          refine And.intro ?_ ?_
                          · with_reducible rfl
                          refine And.intro ?_ ?_
                          · with_reducible rfl
                          refine And.intro ?_ ?_
                          · with_reducible rfl
                          refine And.intro ?_ ?_
                          · with_reducible rfl
                          trivial
                        case hSr0o6_u21 => rfl
                        case nxr0o6_u21 =>
                          refine chainT_one 8 (by decide) (by kernel_rfl) rfl ?opsr0o6_u21 ?mr0o6_0_u21
                          case opsr0o6_u21 =>
                            simp only [OpsAt, fillT, List.setIfInBounds_toArray, List.set_cons_zero, List.set_cons_succ]
                            refine ⟨.inl ⟨by rfl, opOk_pure fun wS hS => ?_⟩, ?_⟩
                            · ((subst hS; go_simp)); try (with_reducible rfl)
                            try trivial
                          case mr0o6_0_u21 =>
                            refine makeT _ rfl ?wantr0o6_0_u21 ?effr0o6_0_u21
                            case wantr0o6_0_u21 => (try simp only [fillT, List.setIfInBounds_toArray, List.set_cons_zero, List.set_cons_succ]) <;> rfl
                            intro wS hS
                            simp only [fillT, List.setIfInBounds_toArray, List.set_cons_zero, List.set_cons_succ]
                            rw [hS]
                            refine eff_skip (w' := ((y6).setCell ⟨(y1).heap.size, 0, none⟩ (.slice A1 x.spots.length C1)).setCell ⟨(y1).heap.size, 1, none⟩ (.slice A6 x.edges.length C6)) ?run_u13_u21 ?pp_u13_u21
                            case run_u13_u21 => go_simp
                            case pp_u13_u21 =>
                              have hs7 := ((HS6.out).set 4 rfl 0 (.slice A1 x.spots.length C1)).set 4 rfl 1 (.slice A6 x.edges.length C6)
                              try simp only [List.cons_append, List.nil_append, List.set_cons_succ, List.set_cons_zero, Nat.zero_add, Nat.reduceAdd, World.size_alloc, World.size_drew] at hs7
                              have HS7 := Lib.hid hs7
                              clear hs7
                              refine ⟨_, [true, true, true, true, true, true, true, true, true], [false, false, false, false, false, false, false, false, false], [6], [?vr0o7_0_u21, ?vr0o7_1_u21, (.slice A1 x.spots.length C1), ?vr0o7_3_u21, ?vr0o7_4_u21, (.slice A6 x.edges.length C6), ?vr0o7_6_u21, (.pointer (some ⟨(y1).heap.size, 0, none⟩)), undef], fun w' => w' = ((y6).setCell ⟨(y1).heap.size, 0, none⟩ (.slice A1 x.spots.length C1)).setCell ⟨(y1).heap.size, 1, none⟩ (.slice A6 x.edges.length C6), rfl, rfl, ?samer0o7_u21, by kernel_rfl, ?hSr0o7_u21, ?nxr0o7_u21⟩
                              case samer0o7_u21 =>
                                refine And.intro ?_ ?_
                                · with_reducible rfl
                                refine And.intro ?_ ?_
                                · with_reducible rfl
                                refine And.intro ?_ ?_
                                · with_reducible rfl
                                refine And.intro ?_ ?_
                                · with_reducible rfl
                                refine And.intro ?_ ?_
                                · with_reducible rfl
                                refine And.intro ?_ ?_
                                · with_reducible rfl
                                refine And.intro ?_ ?_
                                · with_reducible rfl
                                refine And.intro ?_ ?_
                                · with_reducible rfl
                                trivial
                              case hSr0o7_u21 => rfl
                              case nxr0o7_u21 =>
                                refine chainT_nil (by rfl) (by kernel_rfl) rfl ?opsr0o7_u21 ?endr0o7_u21
                                case opsr0o7_u21 =>
                                  simp only [OpsAt, fillT, List.setIfInBounds_toArray, List.set_cons_zero, List.set_cons_succ]
                                  try trivial
                                case endr0o7_u21 =>
                                  intro wE hE
                                  simp only [fillT, List.setIfInBounds_toArray, List.set_cons_zero, List.set_cons_succ]
                                  rw [hE]
                                  have ht := (HS7.out).pick [0, 1, 2, 3, 5, 4] (by decide)
                                  simp only [List.filterMap_cons, List.filterMap_nil, List.getElem?_cons_zero, List.getElem?_cons_succ] at ht
                                  try clear kk1
                                  try clear kk2
                                  try clear kk3
                                  try clear kk4
                                  try clear kk5
                                  try clear kk6
                                  try clear kk7
                                  clear hE
                                  generalize (y1).heap.size = p at ht ⊢
                                  generalize ((y6).setCell ⟨p, 0, none⟩ (.slice A1 x.spots.length C1)).setCell ⟨p, 1, none⟩ (.slice A6 x.edges.length C6) = wx at ht ⊢
                                  have HT := Lib.hid ht
                                  clear ht
                                  obtain ⟨gE, hgE, gc, gf, glt⟩ := rowK_at edC_len (by decide) (HT.out.rowOf (i := 4) rfl) (i := k) hlt
                                  subst hgE
                                  have hek : x.edges[k] = ⟨a, b, c0, c1, b0, r0, b1, r1⟩ := Option.some.inj ((List.getElem?_eq_getElem hlt).symm.trans HGK.out)
                                  rw [hek] at gc
                                  have s2 := gc 2 _ rfl
                                  have s3 := gc 3 _ rfl
                                  have f2 := gf (k * 8 + 2)
                                  have f3 := gf (k * 8 + 3)
                                  clear gc gf hek
                                  have k9 := HT.out.all
                                  simp only [allFacts, box_facts, row_facts, emp_facts, cellFacts, Nat.zero_add, Nat.reduceAdd, true_and, and_true] at k9
                                  go_wp2_with fail
                                  refine (HAD.out _).mono ?_
                                  rintro e w61 ⟨rfl, hw⟩
                                  first | rw [show w61 = _ from hw] | rw [show w61 = _ from hw.symm]
                                  clear hw
                                  have hk1 := HT.out.drew.setRowK edC_len 4 rfl (i := k) hlt (j := 2) (by decide) (.int .u64 (c0 - n)) (⟨a, b, c0 - n, c1, b0, r0, b1, r1⟩ : Edg) (by rw [show x.edges[k] = ⟨a, b, c0, c1, b0, r0, b1, r1⟩ from Option.some.inj ((List.getElem?_eq_getElem hlt).symm.trans HGK.out)]; rfl)
                                  try simp only [List.cons_append, List.nil_append, List.set_cons_succ, List.set_cons_zero, Nat.zero_add, Nat.reduceAdd, World.size_alloc, World.size_drew] at hk1
                                  have hk2 := hk1.setRowK edC_len 4 rfl (i := k) (by simpa using hlt) (j := 3) (by decide) (.int .u64 m) (⟨a, b, c0 - n, m, b0, r0, b1, r1⟩ : Edg) (by simp [edC])
                                  try simp only [List.cons_append, List.nil_append, List.set_cons_succ, List.set_cons_zero, Nat.zero_add, Nat.reduceAdd, World.size_alloc, World.size_drew] at hk2
                                  simp only [List.length_set, List.set_set] at hk2
                                  have HK0 := Lib.hid hk2
                                  clear hk1 hk2
                                  go_wp2_with fail
                                  refine region_chain (E := [17, 21]) (kn := [true, true, true, true, true, true, true, true, true, true, true, true, true, true, true, true, true, false, true, true, false, false]) (mask := [true, true, true, true, true, true, true, true, true, true, true, true, true, true, true, true, true, false, true, true, false, false]) (vs := [?vs0_0_u16_u21, ?vs0_1_u16_u21, ?vs0_2_u16_u21, ?vs0_3_u16_u21, ?vs0_4_u16_u21, ?vs0_5_u16_u21, ?vs0_6_u16_u21, ?vs0_7_u16_u21, ?vs0_8_u16_u21, ?vs0_9_u16_u21, ?vs0_10_u16_u21, ?vs0_11_u16_u21, ?vs0_12_u16_u21, ?vs0_13_u16_u21, ?vs0_14_u16_u21, ?vs0_15_u16_u21, ?vs0_16_u16_u21, undef, ?vs0_18_u16_u21, ?vs0_19_u16_u21, undef, undef]) (S := fun w' => w' = (wx).drew) (by kernel_rfl) (by kernel_rfl) (by kernel_rfl) (by kernel_rfl) (by kernel_rfl) ?hSs_u16_u21 ?hchs_u16_u21
                                  case hSs_u16_u21 => exact rfl
                                  case hchs_u16_u21 =>
                                    refine chain_cons _ (by kernel_rfl) rfl rfl ?opss0_u16_u21 ?wants0_u16_u21 ?effs0_u16_u21
                                    case opss0_u16_u21 =>
                                      simp only [OpsAt, fillT, List.setIfInBounds_toArray, List.set_cons_zero, List.set_cons_succ]
                                      refine ⟨.inl ⟨by rfl, opOk_pure fun wS hS => ?_⟩, ?_⟩
                                      · ((subst hS; go_simp; try simp (disch := omega) only [wrap64_id])); try (with_reducible rfl)
                                      refine ⟨.inl ⟨by rfl, opOk_pure fun wS hS => ?_⟩, ?_⟩
                                      · ((subst hS; go_simp; try simp (disch := omega) only [wrap64_id])); try (with_reducible rfl)
                                      refine ⟨.inl ⟨by rfl, opOk_pure fun wS hS => ?_⟩, ?_⟩
                                      · ((subst hS; go_simp; try simp (disch := omega) only [wrap64_id])); try (with_reducible rfl)
                                      refine ⟨.inl ⟨by rfl, opOk_pure fun wS hS => ?_⟩, ?_⟩
                                      · ((subst hS; go_simp; try simp (disch := omega) only [wrap64_id])); try (with_reducible rfl)
                                      refine ⟨.inl ⟨by rfl, opOk_pure fun wS hS => ?_⟩, ?_⟩
                                      · ((subst hS; go_simp; try simp (disch := omega) only [wrap64_id])); try (with_reducible rfl)
                                      refine ⟨.inl ⟨by rfl, opOk_pure fun wS hS => ?_⟩, ?_⟩
                                      · ((subst hS; go_simp; try simp (disch := omega) only [wrap64_id])); try (with_reducible rfl)
                                      refine ⟨.inl ⟨by rfl, opOk_pure fun wS hS => ?_⟩, ?_⟩
                                      · ((subst hS; go_simp; try simp (disch := omega) only [wrap64_id])); try (with_reducible rfl)
                                      refine ⟨.inl ⟨by rfl, opOk_pure fun wS hS => ?_⟩, ?_⟩
                                      · ((subst hS; go_simp; try simp (disch := omega) only [wrap64_id])); try (with_reducible rfl)
                                      refine ⟨.inl ⟨by rfl, opOk_pure fun wS hS => ?_⟩, ?_⟩
                                      · ((subst hS; go_simp; try simp (disch := omega) only [wrap64_id])); try (with_reducible rfl)
                                      refine ⟨.inl ⟨by rfl, opOk_pure fun wS hS => ?_⟩, ?_⟩
                                      · ((subst hS; go_simp; try simp (disch := omega) only [wrap64_id])); try (with_reducible rfl)
                                      refine ⟨.inl ⟨by rfl, opOk_pure fun wS hS => ?_⟩, ?_⟩
                                      · ((subst hS; go_simp; try simp (disch := omega) only [wrap64_id])); try (with_reducible rfl)
                                      refine ⟨.inl ⟨by rfl, opOk_pure fun wS hS => ?_⟩, ?_⟩
                                      · ((subst hS; go_simp; try simp (disch := omega) only [wrap64_id])); try (with_reducible rfl)
                                      refine ⟨.inl ⟨by rfl, opOk_pure fun wS hS => ?_⟩, ?_⟩
                                      · ((subst hS; go_simp; try simp (disch := omega) only [wrap64_id])); try (with_reducible rfl)
                                      refine ⟨.inl ⟨by rfl, opOk_pure fun wS hS => ?_⟩, ?_⟩
                                      · ((subst hS; go_simp; try simp (disch := omega) only [wrap64_id])); try (with_reducible rfl)
                                      refine ⟨.inl ⟨by rfl, opOk_pure fun wS hS => ?_⟩, ?_⟩
                                      · ((subst hS; go_simp; try simp (disch := omega) only [wrap64_id])); try (with_reducible rfl)
                                      refine ⟨.inl ⟨by rfl, opOk_pure fun wS hS => ?_⟩, ?_⟩
                                      · ((subst hS; go_simp; try simp (disch := omega) only [wrap64_id])); try (with_reducible rfl)
                                      refine ⟨.inl ⟨by rfl, opOk_pure fun wS hS => ?_⟩, ?_⟩
                                      · ((subst hS; go_simp; try simp (disch := omega) only [wrap64_id])); try (with_reducible rfl)
                                      refine ⟨.inl ⟨by rfl, opOk_pure fun wS hS => ?_⟩, ?_⟩
                                      · ((subst hS; go_simp; try simp (disch := omega) only [wrap64_id])); try (with_reducible rfl)
                                      refine ⟨.inl ⟨by rfl, opOk_pure fun wS hS => ?_⟩, ?_⟩
                                      · ((subst hS; go_simp; try simp (disch := omega) only [wrap64_id])); try (with_reducible rfl)
                                      try trivial
                                    case wants0_u16_u21 => (try simp only [fillT, List.setIfInBounds_toArray, List.set_cons_zero, List.set_cons_succ]) <;> rfl
                                    case effs0_u16_u21 =>
                                      intro wS hS
                                      simp only [fillT, List.setIfInBounds_toArray, List.set_cons_zero, List.set_cons_succ]
                                      rw [hS]
                                      refine eff_skip (w' := ((wx).drew).setCell ⟨gE, k * 8 + 2, none⟩ (.int .u64 (c0 - n))) ?run_u14_u16_u21 ?pp_u14_u16_u21
                                      case run_u14_u16_u21 => go_simp
                                      case pp_u14_u16_u21 =>
                                        refine ⟨_, [true, true, true, true, true, true, true, true, true, true, true, true, true, true, true, true, true, true, true, true, true, false], [false, false, true, true, true, false, false, false, false, false, false, false, false, true, false, false, false, false, true, true, true, false], [16, 12, 0, 1, 5, 6, 7, 8, 9, 10, 11, 15, 14], [?vs1_0_u16_u21, ?vs1_1_u16_u21, ?vs1_2_u16_u21, ?vs1_3_u16_u21, ?vs1_4_u16_u21, ?vs1_5_u16_u21, ?vs1_6_u16_u21, ?vs1_7_u16_u21, ?vs1_8_u16_u21, ?vs1_9_u16_u21, ?vs1_10_u16_u21, ?vs1_11_u16_u21, ?vs1_12_u16_u21, ?vs1_13_u16_u21, ?vs1_14_u16_u21, ?vs1_15_u16_u21, ?vs1_16_u16_u21, undef, ?vs1_18_u16_u21, ?vs1_19_u16_u21, ?vs1_20_u16_u21, undef], fun w' => w' = ((wx).drew).setCell ⟨gE, k * 8 + 2, none⟩ (.int .u64 (c0 - n)), rfl, rfl, ?sames0_u16_u21, by kernel_rfl, ?hSs0_u16_u21, ?nxs0_u16_u21⟩
                                        case sames0_u16_u21 =>
                                          refine And.intro ?_ ?_
                                          · with_reducible rfl
                                          refine And.intro ?_ ?_
                                          · with_reducible rfl
                                          refine And.intro ?_ ?_
                                          · with_reducible rfl
                                          refine And.intro ?_ ?_
                                          · with_reducible rfl
                                          refine And.intro ?_ ?_
                                          · with_reducible rfl
                                          refine And.intro ?_ ?_
                                          · with_reducible rfl
                                          refine And.intro ?_ ?_
                                          · with_reducible rfl
                                          refine And.intro ?_ ?_
                                          · with_reducible rfl
                                          refine And.intro ?_ ?_
                                          · with_reducible rfl
                                          refine And.intro ?_ ?_
                                          · with_reducible rfl
                                          refine And.intro ?_ ?_
                                          · with_reducible rfl
                                          refine And.intro ?_ ?_
                                          · with_reducible rfl
                                          refine And.intro ?_ ?_
                                          · with_reducible rfl
                                          refine And.intro ?_ ?_
                                          · with_reducible rfl
                                          refine And.intro ?_ ?_
                                          · with_reducible rfl
                                          refine And.intro ?_ ?_
                                          · with_reducible rfl
                                          refine And.intro ?_ ?_
                                          · with_reducible rfl
                                          refine And.intro ?_ ?_
                                          · with_reducible rfl
                                          refine And.intro ?_ ?_
                                          · with_reducible rfl
                                          trivial
                                        case hSs0_u16_u21 => rfl
                                        case nxs0_u16_u21 =>
                                          refine chain_cons _ (by kernel_rfl) rfl rfl ?opss1_u16_u21 ?wants1_u16_u21 ?effs1_u16_u21
                                          case opss1_u16_u21 =>
                                            simp only [OpsAt, fillT, List.setIfInBounds_toArray, List.set_cons_zero, List.set_cons_succ]
                                            refine ⟨.inl ⟨by rfl, opOk_pure fun wS hS => ?_⟩, ?_⟩
                                            · ((subst hS; go_simp; try simp (disch := omega) only [wrap64_id])); try (with_reducible rfl)
                                            refine ⟨.inl ⟨by rfl, opOk_pure fun wS hS => ?_⟩, ?_⟩
                                            · ((subst hS; go_simp; try simp (disch := omega) only [wrap64_id])); try (with_reducible rfl)
                                            refine ⟨.inl ⟨by rfl, opOk_pure fun wS hS => ?_⟩, ?_⟩
                                            · ((subst hS; go_simp; try simp (disch := omega) only [wrap64_id])); try (with_reducible rfl)
                                            refine ⟨.inl ⟨by rfl, opOk_pure fun wS hS => ?_⟩, ?_⟩
                                            · ((subst hS; go_simp; try simp (disch := omega) only [wrap64_id])); try (with_reducible rfl)
                                            refine ⟨.inl ⟨by rfl, opOk_pure fun wS hS => ?_⟩, ?_⟩
                                            · ((subst hS; go_simp; try simp (disch := omega) only [wrap64_id])); try (with_reducible rfl)
                                            refine ⟨.inl ⟨by rfl, opOk_pure fun wS hS => ?_⟩, ?_⟩
                                            · ((subst hS; go_simp; try simp (disch := omega) only [wrap64_id])); try (with_reducible rfl)
                                            refine ⟨.inl ⟨by rfl, opOk_pure fun wS hS => ?_⟩, ?_⟩
                                            · ((subst hS; go_simp; try simp (disch := omega) only [wrap64_id])); try (with_reducible rfl)
                                            try trivial
                                          case wants1_u16_u21 => (try simp only [fillT, List.setIfInBounds_toArray, List.set_cons_zero, List.set_cons_succ]) <;> rfl
                                          case effs1_u16_u21 =>
                                            intro wS hS
                                            simp only [fillT, List.setIfInBounds_toArray, List.set_cons_zero, List.set_cons_succ]
                                            rw [hS]
                                            refine eff_skip (w' := (((wx).drew).setCell ⟨gE, k * 8 + 2, none⟩ (.int .u64 (c0 - n))).setCell ⟨gE, k * 8 + 3, none⟩ (.int .u64 m)) ?run_u15_u16_u21 ?pp_u15_u16_u21
                                            case run_u15_u16_u21 => go_simp
                                            case pp_u15_u16_u21 =>
                                              refine ⟨_, [true, true, true, true, true, true, true, true, true, true, true, true, true, true, true, true, true, true, true, true, true, true], [false, false, false, false, false, false, false, false, false, false, false, false, false, false, false, false, false, false, false, false, false, false], [20, 13, 2, 3, 4, 19, 18], [?vs2_0_u16_u21, ?vs2_1_u16_u21, ?vs2_2_u16_u21, ?vs2_3_u16_u21, ?vs2_4_u16_u21, ?vs2_5_u16_u21, ?vs2_6_u16_u21, ?vs2_7_u16_u21, ?vs2_8_u16_u21, ?vs2_9_u16_u21, ?vs2_10_u16_u21, ?vs2_11_u16_u21, ?vs2_12_u16_u21, ?vs2_13_u16_u21, ?vs2_14_u16_u21, ?vs2_15_u16_u21, ?vs2_16_u16_u21, undef, ?vs2_18_u16_u21, ?vs2_19_u16_u21, ?vs2_20_u16_u21, undef], fun w' => w' = (((wx).drew).setCell ⟨gE, k * 8 + 2, none⟩ (.int .u64 (c0 - n))).setCell ⟨gE, k * 8 + 3, none⟩ (.int .u64 m), rfl, rfl, ?sames1_u16_u21, by kernel_rfl, ?hSs1_u16_u21, ?nxs1_u16_u21⟩
                                              case sames1_u16_u21 =>
                                                refine And.intro ?_ ?_
                                                · with_reducible rfl
                                                refine And.intro ?_ ?_
                                                · with_reducible rfl
                                                refine And.intro ?_ ?_
                                                · with_reducible rfl
                                                refine And.intro ?_ ?_
                                                · with_reducible rfl
                                                refine And.intro ?_ ?_
                                                · with_reducible rfl
                                                refine And.intro ?_ ?_
                                                · with_reducible rfl
                                                refine And.intro ?_ ?_
                                                · with_reducible rfl
                                                refine And.intro ?_ ?_
                                                · with_reducible rfl
                                                refine And.intro ?_ ?_
                                                · with_reducible rfl
                                                refine And.intro ?_ ?_
                                                · with_reducible rfl
                                                refine And.intro ?_ ?_
                                                · with_reducible rfl
                                                refine And.intro ?_ ?_
                                                · with_reducible rfl
                                                refine And.intro ?_ ?_
                                                · with_reducible rfl
                                                refine And.intro ?_ ?_
                                                · with_reducible rfl
                                                refine And.intro ?_ ?_
                                                · with_reducible rfl
                                                refine And.intro ?_ ?_
                                                · with_reducible rfl
                                                refine And.intro ?_ ?_
                                                · with_reducible rfl
                                                refine And.intro ?_ ?_
                                                · with_reducible rfl
                                                refine And.intro ?_ ?_
                                                · with_reducible rfl
                                                refine And.intro ?_ ?_
                                                · with_reducible rfl
                                                refine And.intro ?_ ?_
                                                · with_reducible rfl
                                                trivial
                                              case hSs1_u16_u21 => rfl
                                              case nxs1_u16_u21 =>
                                                refine chain_nil (by kernel_rfl) rfl ?opss2_u16_u21 ?ends2_u16_u21
                                                case opss2_u16_u21 =>
                                                  simp only [OpsAt, fillT, List.setIfInBounds_toArray, List.set_cons_zero, List.set_cons_succ]
                                                  try trivial
                                                case ends2_u16_u21 =>
                                                  intro wE hE
                                                  simp only [fillT, List.setIfInBounds_toArray, List.set_cons_zero, List.set_cons_succ]
                                                  rw [hE]
                                                  clear hE s2 s3 f2 f3 k9
                                                  have hk := HK0.out
                                                  generalize (((wx).drew).setCell ⟨gE, k * 8 + 2, none⟩ (.int .u64 (c0 - n))).setCell ⟨gE, k * 8 + 3, none⟩ (.int .u64 m) = wy at hk ⊢
                                                  have HK := Lib.hid hk
                                                  clear hk HK0
                                                  skip
                                                  have k7 := HK.out.all
                                                  simp only [allFacts, box_facts, row_facts, emp_facts, cellFacts, Nat.zero_add, Nat.reduceAdd, true_and, and_true] at k7
                                                  go_wp2
                                                  have h8 := (HK.out.set 2 rfl 0 (.slice A1 x.spots.length C1)).set 2 rfl 1 (.slice (some ⟨gE, 0, none⟩) x.edges.length C6)
                                                  try simp only [List.cons_append, List.nil_append, List.set_cons_succ, List.set_cons_zero, Nat.zero_add, Nat.reduceAdd, World.size_alloc, World.size_drew] at h8
                                                  have hW9 := WebAt.ofRows (i := 3) (j := 4) (x := ⟨x.spots, x.edges.set k (⟨a, b, c0 - n, m, b0, r0, b1, r1⟩ : Edg)⟩) (c2 := C6) (A2 := some ⟨gE, 0, none⟩) h8 rfl (by rw [List.length_set]; rfl) ⟨by first | omega | (dsimp only; omega), by first | (rw [List.length_set]; omega) | (rw [List.length_set]; dsimp only; omega)⟩
                                                  have HW9 := Lib.hid hW9
                                                  have hb9 := h8.below (i := 0) rfl
                                                  have HB9 := Lib.hid hb9
                                                  clear h8 hW9 hb9
                                                  refine bodyPost_ret (v := .tuple #[.agg #[.slice A1 x.spots.length C1, .slice (some ⟨gE, 0, none⟩) x.edges.length C6], .int .i64 0]) (by simp only [results, Try.results15]; go_simp) rfl ⟨A1, C1, some ⟨gE, 0, none⟩, C6, ret_web (by rw [HZ.out]) (by rw [HZ.out]; simp) (by rw [HZ.out]), by rw [HZ.out]; exact HW9.out, HB9.out⟩
              case mr0o0_1_u21 =>
                refine makeT _ rfl ?wantr0o0_1_u21 ?effr0o0_1_u21
                case wantr0o0_1_u21 => (try simp only [fillT, List.setIfInBounds_toArray, List.set_cons_zero, List.set_cons_succ]) <;> rfl
                intro wS hS
                simp only [fillT, List.setIfInBounds_toArray, List.set_cons_zero, List.set_cons_succ]
                rw [hS]
                refine eff_run (w' := (w3.drew).alloc (.cells #[.slice none 0 0, .slice none 0 0] 31)) (by go_simp; try rfl) ?_
                have hs8 := (H3.out.drew).alloc #[.slice none 0 0, .slice none 0 0] 31
                try simp only [List.cons_append, List.nil_append, List.set_cons_succ, List.set_cons_zero, Nat.zero_add, Nat.reduceAdd, World.size_alloc, World.size_drew] at hs8
                have kk8 := hs8.all
                simp only [allFacts, box_facts, row_facts, emp_facts, cellFacts, Nat.zero_add, Nat.reduceAdd, true_and, and_true] at kk8
                have HS8 := Lib.hid hs8
                clear hs8
                refine ⟨_, [true, true, false, true, true, false, false, true, false], [true, true, false, true, true, false, false, false, false], [], [?vr0o8_0_u21, ?vr0o8_1_u21, undef, ?vr0o8_3_u21, ?vr0o8_4_u21, undef, undef, (.pointer (some ⟨(w3).heap.size, 0, none⟩)), undef], fun w' => w' = (w3.drew).alloc (.cells #[.slice none 0 0, .slice none 0 0] 31), rfl, rfl, ?samer0o8_u21, by kernel_rfl, ?hSr0o8_u21, ?nxr0o8_u21⟩
                case samer0o8_u21 =>
                  refine And.intro ?_ ?_
                  · with_reducible rfl
                  refine And.intro ?_ ?_
                  · with_reducible rfl
                  refine And.intro ?_ ?_
                  · with_reducible rfl
                  refine And.intro ?_ ?_
                  · with_reducible rfl
                  trivial
                case hSr0o8_u21 => rfl
                case nxr0o8_u21 =>
                  refine chainT_one 2 (by decide) (by kernel_rfl) rfl ?opsr0o8_u21 ?mr0o8_0_u21
                  case opsr0o8_u21 =>
                    simp only [OpsAt, fillT, List.setIfInBounds_toArray, List.set_cons_zero, List.set_cons_succ]
                    refine ⟨.inl ⟨by rfl, opOk_pure fun wS hS => ?_⟩, ?_⟩
                    · ((subst hS; go_simp)); try (with_reducible rfl)
                    refine ⟨.inl ⟨by rfl, opOk_pure fun wS hS => ?_⟩, ?_⟩
                    · ((subst hS; go_simp)); try (with_reducible rfl)
                    refine ⟨.inl ⟨by rfl, opOk_pure fun wS hS => ?_⟩, ?_⟩
                    · ((subst hS; go_simp)); try (with_reducible rfl)
                    refine ⟨.inl ⟨by rfl, opOk_pure fun wS hS => ?_⟩, ?_⟩
                    · ((subst hS; go_simp)); try (with_reducible rfl)
                    try trivial
                  case mr0o8_0_u21 =>
                    refine makeT _ rfl ?wantr0o8_0_u21 ?effr0o8_0_u21
                    case wantr0o8_0_u21 => (try simp only [fillT, List.setIfInBounds_toArray, List.set_cons_zero, List.set_cons_succ]) <;> rfl
                    intro wS hS
                    simp only [fillT, List.setIfInBounds_toArray, List.set_cons_zero, List.set_cons_succ]
                    rw [hS]
                    refine eff_call (f := 28) (args := #[.slice As x.spots.length cs]) (by go_simp) ?_
                    refine (cloneS_any ((w3.drew).alloc (.cells #[.slice none 0 0, .slice none 0 0] 31)) As cs x.spots (HW.out.s.mono (src_rest (HS8.out) (i := 0) rfl HW.out.s.src (src_lt HW.out.s.src))) (by omega)).mono ?_
                    rintro e y9 ⟨A9, C9, rfl, gq⟩
                    have hs9 := (HS8.out).pushThings gq
                    try simp only [List.cons_append, List.nil_append, List.set_cons_succ, List.set_cons_zero, Nat.zero_add, Nat.reduceAdd, World.size_alloc, World.size_drew] at hs9
                    have kk9 := hs9.all
                    simp only [allFacts, box_facts, row_facts, emp_facts, cellFacts, Nat.zero_add, Nat.reduceAdd, true_and, and_true] at kk9
                    have HS9 := Lib.hid hs9
                    clear hs9
                    clear gq
                    refine ⟨_, rfl, ?_⟩
                    refine ⟨_, [true, true, true, true, true, false, false, true, false], [false, false, false, true, true, false, false, false, false], [1, 0], [?vr0o9_0_u21, ?vr0o9_1_u21, (.slice A9 x.spots.length C9), ?vr0o9_3_u21, ?vr0o9_4_u21, undef, undef, (.pointer (some ⟨(w3).heap.size, 0, none⟩)), undef], fun w' => w' = y9, rfl, rfl, ?samer0o9_u21, by kernel_rfl, ?hSr0o9_u21, ?nxr0o9_u21⟩
                    case samer0o9_u21 =>
                      refine And.intro ?_ ?_
                      · with_reducible rfl
                      refine And.intro ?_ ?_
                      · with_reducible rfl
                      refine And.intro ?_ ?_
                      · with_reducible rfl
                      refine And.intro ?_ ?_
                      · with_reducible rfl
                      refine And.intro ?_ ?_
                      · with_reducible rfl
                      trivial
                    case hSr0o9_u21 => rfl
                    case nxr0o9_u21 =>
                      refine chainT_one 5 (by decide) (by kernel_rfl) rfl ?opsr0o9_u21 ?mr0o9_0_u21
                      case opsr0o9_u21 =>
                        simp only [OpsAt, fillT, List.setIfInBounds_toArray, List.set_cons_zero, List.set_cons_succ]
                        refine ⟨.inl ⟨by rfl, opOk_pure fun wS hS => ?_⟩, ?_⟩
                        · ((subst hS; go_simp)); try (with_reducible rfl)
                        refine ⟨.inl ⟨by rfl, opOk_pure fun wS hS => ?_⟩, ?_⟩
                        · ((subst hS; go_simp)); try (with_reducible rfl)
                        try trivial
                      case mr0o9_0_u21 =>
                        refine makeT _ rfl ?wantr0o9_0_u21 ?effr0o9_0_u21
                        case wantr0o9_0_u21 => (try simp only [fillT, List.setIfInBounds_toArray, List.set_cons_zero, List.set_cons_succ]) <;> rfl
                        intro wS hS
                        simp only [fillT, List.setIfInBounds_toArray, List.set_cons_zero, List.set_cons_succ]
                        rw [hS]
                        refine eff_call (f := 29) (args := #[.slice (some ⟨g, off, none⟩) x.edges.length ce]) (by go_simp) ?_
                        refine (cloneE_any (y9) (some ⟨g, off, none⟩) ce x.edges (HW.out.e.mono (src_rest (HS9.out) (i := 0) rfl HW.out.e.src (src_lt HW.out.e.src))) (by omega)).mono ?_
                        rintro e y10 ⟨A10, C10, rfl, gq⟩
                        have hs10 := (HS9.out).pushThings gq
                        try simp only [List.cons_append, List.nil_append, List.set_cons_succ, List.set_cons_zero, Nat.zero_add, Nat.reduceAdd, World.size_alloc, World.size_drew] at hs10
                        have kk10 := hs10.all
                        simp only [allFacts, box_facts, row_facts, emp_facts, cellFacts, Nat.zero_add, Nat.reduceAdd, true_and, and_true] at kk10
                        have HS10 := Lib.hid hs10
                        clear hs10
                        clear gq
                        refine ⟨_, rfl, ?_⟩
                        refine ⟨_, [true, true, true, true, true, true, true, true, false], [false, false, false, false, false, false, true, false, false], [4, 3], [?vr0o10_0_u21, ?vr0o10_1_u21, (.slice A9 x.spots.length C9), ?vr0o10_3_u21, ?vr0o10_4_u21, (.slice A10 x.edges.length C10), ?vr0o10_6_u21, (.pointer (some ⟨(w3).heap.size, 0, none⟩)), undef], fun w' => w' = y10, rfl, rfl, ?samer0o10_u21, by kernel_rfl, ?hSr0o10_u21, ?nxr0o10_u21⟩
                        case samer0o10_u21 =>
                          refine And.intro ?_ ?_
                          · with_reducible rfl
                          refine And.intro ?_ ?_
                          · with_reducible rfl
                          refine And.intro ?_ ?_
                          · with_reducible rfl
                          refine And.intro ?_ ?_
                          · with_reducible rfl
                          refine And.intro ?_ ?_
                          · with_reducible rfl
                          refine And.intro ?_ ?_
                          · with_reducible rfl
                          trivial
                        case hSr0o10_u21 => rfl
                        case nxr0o10_u21 =>
                          refine chainT_one 8 (by decide) (by kernel_rfl) rfl ?opsr0o10_u21 ?mr0o10_0_u21
                          case opsr0o10_u21 =>
                            simp only [OpsAt, fillT, List.setIfInBounds_toArray, List.set_cons_zero, List.set_cons_succ]
                            refine ⟨.inl ⟨by rfl, opOk_pure fun wS hS => ?_⟩, ?_⟩
                            · ((subst hS; go_simp)); try (with_reducible rfl)
                            try trivial
                          case mr0o10_0_u21 =>
                            refine makeT _ rfl ?wantr0o10_0_u21 ?effr0o10_0_u21
                            case wantr0o10_0_u21 => (try simp only [fillT, List.setIfInBounds_toArray, List.set_cons_zero, List.set_cons_succ]) <;> rfl
                            intro wS hS
                            simp only [fillT, List.setIfInBounds_toArray, List.set_cons_zero, List.set_cons_succ]
                            rw [hS]
                            refine eff_skip (w' := ((y10).setCell ⟨(w3).heap.size, 0, none⟩ (.slice A9 x.spots.length C9)).setCell ⟨(w3).heap.size, 1, none⟩ (.slice A10 x.edges.length C10)) ?run_u17_u21 ?pp_u17_u21
                            case run_u17_u21 => go_simp
                            case pp_u17_u21 =>
                              have hs11 := ((HS10.out).set 3 rfl 0 (.slice A9 x.spots.length C9)).set 3 rfl 1 (.slice A10 x.edges.length C10)
                              try simp only [List.cons_append, List.nil_append, List.set_cons_succ, List.set_cons_zero, Nat.zero_add, Nat.reduceAdd, World.size_alloc, World.size_drew] at hs11
                              have HS11 := Lib.hid hs11
                              clear hs11
                              refine ⟨_, [true, true, true, true, true, true, true, true, true], [false, false, false, false, false, false, false, false, false], [6], [?vr0o11_0_u21, ?vr0o11_1_u21, (.slice A9 x.spots.length C9), ?vr0o11_3_u21, ?vr0o11_4_u21, (.slice A10 x.edges.length C10), ?vr0o11_6_u21, (.pointer (some ⟨(w3).heap.size, 0, none⟩)), undef], fun w' => w' = ((y10).setCell ⟨(w3).heap.size, 0, none⟩ (.slice A9 x.spots.length C9)).setCell ⟨(w3).heap.size, 1, none⟩ (.slice A10 x.edges.length C10), rfl, rfl, ?samer0o11_u21, by kernel_rfl, ?hSr0o11_u21, ?nxr0o11_u21⟩
                              case samer0o11_u21 =>
                                refine And.intro ?_ ?_
                                · with_reducible rfl
                                refine And.intro ?_ ?_
                                · with_reducible rfl
                                refine And.intro ?_ ?_
                                · with_reducible rfl
                                refine And.intro ?_ ?_
                                · with_reducible rfl
                                refine And.intro ?_ ?_
                                · with_reducible rfl
                                refine And.intro ?_ ?_
                                · with_reducible rfl
                                refine And.intro ?_ ?_
                                · with_reducible rfl
                                refine And.intro ?_ ?_
                                · with_reducible rfl
                                trivial
                              case hSr0o11_u21 => rfl
                              case nxr0o11_u21 =>
                                refine chainT_nil (by rfl) (by kernel_rfl) rfl ?opsr0o11_u21 ?endr0o11_u21
                                case opsr0o11_u21 =>
                                  simp only [OpsAt, fillT, List.setIfInBounds_toArray, List.set_cons_zero, List.set_cons_succ]
                                  try trivial
                                case endr0o11_u21 =>
                                  intro wE hE
                                  simp only [fillT, List.setIfInBounds_toArray, List.set_cons_zero, List.set_cons_succ]
                                  rw [hE]
                                  have ht := (HS11.out).pick [0, 1, 2, 4, 5, 3] (by decide)
                                  simp only [List.filterMap_cons, List.filterMap_nil, List.getElem?_cons_zero, List.getElem?_cons_succ] at ht
                                  try clear kk1
                                  try clear kk2
                                  try clear kk3
                                  try clear kk4
                                  try clear kk5
                                  try clear kk6
                                  try clear kk7
                                  try clear kk8
                                  try clear kk9
                                  try clear kk10
                                  try clear kk11
                                  clear hE
                                  generalize (w3).heap.size = p at ht ⊢
                                  generalize ((y10).setCell ⟨p, 0, none⟩ (.slice A9 x.spots.length C9)).setCell ⟨p, 1, none⟩ (.slice A10 x.edges.length C10) = wx at ht ⊢
                                  have HT := Lib.hid ht
                                  clear ht
                                  obtain ⟨gE, hgE, gc, gf, glt⟩ := rowK_at edC_len (by decide) (HT.out.rowOf (i := 4) rfl) (i := k) hlt
                                  subst hgE
                                  have hek : x.edges[k] = ⟨a, b, c0, c1, b0, r0, b1, r1⟩ := Option.some.inj ((List.getElem?_eq_getElem hlt).symm.trans HGK.out)
                                  rw [hek] at gc
                                  have s2 := gc 2 _ rfl
                                  have s3 := gc 3 _ rfl
                                  have f2 := gf (k * 8 + 2)
                                  have f3 := gf (k * 8 + 3)
                                  clear gc gf hek
                                  have k9 := HT.out.all
                                  simp only [allFacts, box_facts, row_facts, emp_facts, cellFacts, Nat.zero_add, Nat.reduceAdd, true_and, and_true] at k9
                                  go_wp2_with fail
                                  refine (HAD.out _).mono ?_
                                  rintro e w61 ⟨rfl, hw⟩
                                  first | rw [show w61 = _ from hw] | rw [show w61 = _ from hw.symm]
                                  clear hw
                                  have hk1 := HT.out.drew.setRowK edC_len 4 rfl (i := k) hlt (j := 2) (by decide) (.int .u64 (c0 - n)) (⟨a, b, c0 - n, c1, b0, r0, b1, r1⟩ : Edg) (by rw [show x.edges[k] = ⟨a, b, c0, c1, b0, r0, b1, r1⟩ from Option.some.inj ((List.getElem?_eq_getElem hlt).symm.trans HGK.out)]; rfl)
                                  try simp only [List.cons_append, List.nil_append, List.set_cons_succ, List.set_cons_zero, Nat.zero_add, Nat.reduceAdd, World.size_alloc, World.size_drew] at hk1
                                  have hk2 := hk1.setRowK edC_len 4 rfl (i := k) (by simpa using hlt) (j := 3) (by decide) (.int .u64 m) (⟨a, b, c0 - n, m, b0, r0, b1, r1⟩ : Edg) (by simp [edC])
                                  try simp only [List.cons_append, List.nil_append, List.set_cons_succ, List.set_cons_zero, Nat.zero_add, Nat.reduceAdd, World.size_alloc, World.size_drew] at hk2
                                  simp only [List.length_set, List.set_set] at hk2
                                  have HK0 := Lib.hid hk2
                                  clear hk1 hk2
                                  go_wp2_with fail
                                  refine region_chain (E := [17, 21]) (kn := [true, true, true, true, true, true, true, true, true, true, true, true, true, true, true, true, true, false, true, true, false, false]) (mask := [true, true, true, true, true, true, true, true, true, true, true, true, true, true, true, true, true, false, true, true, false, false]) (vs := [?vs0_0_u20_u21, ?vs0_1_u20_u21, ?vs0_2_u20_u21, ?vs0_3_u20_u21, ?vs0_4_u20_u21, ?vs0_5_u20_u21, ?vs0_6_u20_u21, ?vs0_7_u20_u21, ?vs0_8_u20_u21, ?vs0_9_u20_u21, ?vs0_10_u20_u21, ?vs0_11_u20_u21, ?vs0_12_u20_u21, ?vs0_13_u20_u21, ?vs0_14_u20_u21, ?vs0_15_u20_u21, ?vs0_16_u20_u21, undef, ?vs0_18_u20_u21, ?vs0_19_u20_u21, undef, undef]) (S := fun w' => w' = (wx).drew) (by kernel_rfl) (by kernel_rfl) (by kernel_rfl) (by kernel_rfl) (by kernel_rfl) ?hSs_u20_u21 ?hchs_u20_u21
                                  case hSs_u20_u21 => exact rfl
                                  case hchs_u20_u21 =>
                                    refine chain_cons _ (by kernel_rfl) rfl rfl ?opss0_u20_u21 ?wants0_u20_u21 ?effs0_u20_u21
                                    case opss0_u20_u21 =>
                                      simp only [OpsAt, fillT, List.setIfInBounds_toArray, List.set_cons_zero, List.set_cons_succ]
                                      refine ⟨.inl ⟨by rfl, opOk_pure fun wS hS => ?_⟩, ?_⟩
                                      · ((subst hS; go_simp; try simp (disch := omega) only [wrap64_id])); try (with_reducible rfl)
                                      refine ⟨.inl ⟨by rfl, opOk_pure fun wS hS => ?_⟩, ?_⟩
                                      · ((subst hS; go_simp; try simp (disch := omega) only [wrap64_id])); try (with_reducible rfl)
                                      refine ⟨.inl ⟨by rfl, opOk_pure fun wS hS => ?_⟩, ?_⟩
                                      · ((subst hS; go_simp; try simp (disch := omega) only [wrap64_id])); try (with_reducible rfl)
                                      refine ⟨.inl ⟨by rfl, opOk_pure fun wS hS => ?_⟩, ?_⟩
                                      · ((subst hS; go_simp; try simp (disch := omega) only [wrap64_id])); try (with_reducible rfl)
                                      refine ⟨.inl ⟨by rfl, opOk_pure fun wS hS => ?_⟩, ?_⟩
                                      · ((subst hS; go_simp; try simp (disch := omega) only [wrap64_id])); try (with_reducible rfl)
                                      refine ⟨.inl ⟨by rfl, opOk_pure fun wS hS => ?_⟩, ?_⟩
                                      · ((subst hS; go_simp; try simp (disch := omega) only [wrap64_id])); try (with_reducible rfl)
                                      refine ⟨.inl ⟨by rfl, opOk_pure fun wS hS => ?_⟩, ?_⟩
                                      · ((subst hS; go_simp; try simp (disch := omega) only [wrap64_id])); try (with_reducible rfl)
                                      refine ⟨.inl ⟨by rfl, opOk_pure fun wS hS => ?_⟩, ?_⟩
                                      · ((subst hS; go_simp; try simp (disch := omega) only [wrap64_id])); try (with_reducible rfl)
                                      refine ⟨.inl ⟨by rfl, opOk_pure fun wS hS => ?_⟩, ?_⟩
                                      · ((subst hS; go_simp; try simp (disch := omega) only [wrap64_id])); try (with_reducible rfl)
                                      refine ⟨.inl ⟨by rfl, opOk_pure fun wS hS => ?_⟩, ?_⟩
                                      · ((subst hS; go_simp; try simp (disch := omega) only [wrap64_id])); try (with_reducible rfl)
                                      refine ⟨.inl ⟨by rfl, opOk_pure fun wS hS => ?_⟩, ?_⟩
                                      · ((subst hS; go_simp; try simp (disch := omega) only [wrap64_id])); try (with_reducible rfl)
                                      refine ⟨.inl ⟨by rfl, opOk_pure fun wS hS => ?_⟩, ?_⟩
                                      · ((subst hS; go_simp; try simp (disch := omega) only [wrap64_id])); try (with_reducible rfl)
                                      refine ⟨.inl ⟨by rfl, opOk_pure fun wS hS => ?_⟩, ?_⟩
                                      · ((subst hS; go_simp; try simp (disch := omega) only [wrap64_id])); try (with_reducible rfl)
                                      refine ⟨.inl ⟨by rfl, opOk_pure fun wS hS => ?_⟩, ?_⟩
                                      · ((subst hS; go_simp; try simp (disch := omega) only [wrap64_id])); try (with_reducible rfl)
                                      refine ⟨.inl ⟨by rfl, opOk_pure fun wS hS => ?_⟩, ?_⟩
                                      · ((subst hS; go_simp; try simp (disch := omega) only [wrap64_id])); try (with_reducible rfl)
                                      refine ⟨.inl ⟨by rfl, opOk_pure fun wS hS => ?_⟩, ?_⟩
                                      · ((subst hS; go_simp; try simp (disch := omega) only [wrap64_id])); try (with_reducible rfl)
                                      refine ⟨.inl ⟨by rfl, opOk_pure fun wS hS => ?_⟩, ?_⟩
                                      · ((subst hS; go_simp; try simp (disch := omega) only [wrap64_id])); try (with_reducible rfl)
                                      refine ⟨.inl ⟨by rfl, opOk_pure fun wS hS => ?_⟩, ?_⟩
                                      · ((subst hS; go_simp; try simp (disch := omega) only [wrap64_id])); try (with_reducible rfl)
                                      refine ⟨.inl ⟨by rfl, opOk_pure fun wS hS => ?_⟩, ?_⟩
                                      · ((subst hS; go_simp; try simp (disch := omega) only [wrap64_id])); try (with_reducible rfl)
                                      try trivial
                                    case wants0_u20_u21 => (try simp only [fillT, List.setIfInBounds_toArray, List.set_cons_zero, List.set_cons_succ]) <;> rfl
                                    case effs0_u20_u21 =>
                                      intro wS hS
                                      simp only [fillT, List.setIfInBounds_toArray, List.set_cons_zero, List.set_cons_succ]
                                      rw [hS]
                                      refine eff_skip (w' := ((wx).drew).setCell ⟨gE, k * 8 + 2, none⟩ (.int .u64 (c0 - n))) ?run_u18_u20_u21 ?pp_u18_u20_u21
                                      case run_u18_u20_u21 => go_simp
                                      case pp_u18_u20_u21 =>
                                        refine ⟨_, [true, true, true, true, true, true, true, true, true, true, true, true, true, true, true, true, true, true, true, true, true, false], [false, false, true, true, true, false, false, false, false, false, false, false, false, true, false, false, false, false, true, true, true, false], [16, 12, 0, 1, 5, 6, 7, 8, 9, 10, 11, 15, 14], [?vs1_0_u20_u21, ?vs1_1_u20_u21, ?vs1_2_u20_u21, ?vs1_3_u20_u21, ?vs1_4_u20_u21, ?vs1_5_u20_u21, ?vs1_6_u20_u21, ?vs1_7_u20_u21, ?vs1_8_u20_u21, ?vs1_9_u20_u21, ?vs1_10_u20_u21, ?vs1_11_u20_u21, ?vs1_12_u20_u21, ?vs1_13_u20_u21, ?vs1_14_u20_u21, ?vs1_15_u20_u21, ?vs1_16_u20_u21, undef, ?vs1_18_u20_u21, ?vs1_19_u20_u21, ?vs1_20_u20_u21, undef], fun w' => w' = ((wx).drew).setCell ⟨gE, k * 8 + 2, none⟩ (.int .u64 (c0 - n)), rfl, rfl, ?sames0_u20_u21, by kernel_rfl, ?hSs0_u20_u21, ?nxs0_u20_u21⟩
                                        case sames0_u20_u21 =>
                                          refine And.intro ?_ ?_
                                          · with_reducible rfl
                                          refine And.intro ?_ ?_
                                          · with_reducible rfl
                                          refine And.intro ?_ ?_
                                          · with_reducible rfl
                                          refine And.intro ?_ ?_
                                          · with_reducible rfl
                                          refine And.intro ?_ ?_
                                          · with_reducible rfl
                                          refine And.intro ?_ ?_
                                          · with_reducible rfl
                                          refine And.intro ?_ ?_
                                          · with_reducible rfl
                                          refine And.intro ?_ ?_
                                          · with_reducible rfl
                                          refine And.intro ?_ ?_
                                          · with_reducible rfl
                                          refine And.intro ?_ ?_
                                          · with_reducible rfl
                                          refine And.intro ?_ ?_
                                          · with_reducible rfl
                                          refine And.intro ?_ ?_
                                          · with_reducible rfl
                                          refine And.intro ?_ ?_
                                          · with_reducible rfl
                                          refine And.intro ?_ ?_
                                          · with_reducible rfl
                                          refine And.intro ?_ ?_
                                          · with_reducible rfl
                                          refine And.intro ?_ ?_
                                          · with_reducible rfl
                                          refine And.intro ?_ ?_
                                          · with_reducible rfl
                                          refine And.intro ?_ ?_
                                          · with_reducible rfl
                                          refine And.intro ?_ ?_
                                          · with_reducible rfl
                                          trivial
                                        case hSs0_u20_u21 => rfl
                                        case nxs0_u20_u21 =>
                                          refine chain_cons _ (by kernel_rfl) rfl rfl ?opss1_u20_u21 ?wants1_u20_u21 ?effs1_u20_u21
                                          case opss1_u20_u21 =>
                                            simp only [OpsAt, fillT, List.setIfInBounds_toArray, List.set_cons_zero, List.set_cons_succ]
                                            refine ⟨.inl ⟨by rfl, opOk_pure fun wS hS => ?_⟩, ?_⟩
                                            · ((subst hS; go_simp; try simp (disch := omega) only [wrap64_id])); try (with_reducible rfl)
                                            refine ⟨.inl ⟨by rfl, opOk_pure fun wS hS => ?_⟩, ?_⟩
                                            · ((subst hS; go_simp; try simp (disch := omega) only [wrap64_id])); try (with_reducible rfl)
                                            refine ⟨.inl ⟨by rfl, opOk_pure fun wS hS => ?_⟩, ?_⟩
                                            · ((subst hS; go_simp; try simp (disch := omega) only [wrap64_id])); try (with_reducible rfl)
                                            refine ⟨.inl ⟨by rfl, opOk_pure fun wS hS => ?_⟩, ?_⟩
                                            · ((subst hS; go_simp; try simp (disch := omega) only [wrap64_id])); try (with_reducible rfl)
                                            refine ⟨.inl ⟨by rfl, opOk_pure fun wS hS => ?_⟩, ?_⟩
                                            · ((subst hS; go_simp; try simp (disch := omega) only [wrap64_id])); try (with_reducible rfl)
                                            refine ⟨.inl ⟨by rfl, opOk_pure fun wS hS => ?_⟩, ?_⟩
                                            · ((subst hS; go_simp; try simp (disch := omega) only [wrap64_id])); try (with_reducible rfl)
                                            refine ⟨.inl ⟨by rfl, opOk_pure fun wS hS => ?_⟩, ?_⟩
                                            · ((subst hS; go_simp; try simp (disch := omega) only [wrap64_id])); try (with_reducible rfl)
                                            try trivial
                                          case wants1_u20_u21 => (try simp only [fillT, List.setIfInBounds_toArray, List.set_cons_zero, List.set_cons_succ]) <;> rfl
                                          case effs1_u20_u21 =>
                                            intro wS hS
                                            simp only [fillT, List.setIfInBounds_toArray, List.set_cons_zero, List.set_cons_succ]
                                            rw [hS]
                                            refine eff_skip (w' := (((wx).drew).setCell ⟨gE, k * 8 + 2, none⟩ (.int .u64 (c0 - n))).setCell ⟨gE, k * 8 + 3, none⟩ (.int .u64 m)) ?run_u19_u20_u21 ?pp_u19_u20_u21
                                            case run_u19_u20_u21 => go_simp
                                            case pp_u19_u20_u21 =>
                                              refine ⟨_, [true, true, true, true, true, true, true, true, true, true, true, true, true, true, true, true, true, true, true, true, true, true], [false, false, false, false, false, false, false, false, false, false, false, false, false, false, false, false, false, false, false, false, false, false], [20, 13, 2, 3, 4, 19, 18], [?vs2_0_u20_u21, ?vs2_1_u20_u21, ?vs2_2_u20_u21, ?vs2_3_u20_u21, ?vs2_4_u20_u21, ?vs2_5_u20_u21, ?vs2_6_u20_u21, ?vs2_7_u20_u21, ?vs2_8_u20_u21, ?vs2_9_u20_u21, ?vs2_10_u20_u21, ?vs2_11_u20_u21, ?vs2_12_u20_u21, ?vs2_13_u20_u21, ?vs2_14_u20_u21, ?vs2_15_u20_u21, ?vs2_16_u20_u21, undef, ?vs2_18_u20_u21, ?vs2_19_u20_u21, ?vs2_20_u20_u21, undef], fun w' => w' = (((wx).drew).setCell ⟨gE, k * 8 + 2, none⟩ (.int .u64 (c0 - n))).setCell ⟨gE, k * 8 + 3, none⟩ (.int .u64 m), rfl, rfl, ?sames1_u20_u21, by kernel_rfl, ?hSs1_u20_u21, ?nxs1_u20_u21⟩
                                              case sames1_u20_u21 =>
                                                refine And.intro ?_ ?_
                                                · with_reducible rfl
                                                refine And.intro ?_ ?_
                                                · with_reducible rfl
                                                refine And.intro ?_ ?_
                                                · with_reducible rfl
                                                refine And.intro ?_ ?_
                                                · with_reducible rfl
                                                refine And.intro ?_ ?_
                                                · with_reducible rfl
                                                refine And.intro ?_ ?_
                                                · with_reducible rfl
                                                refine And.intro ?_ ?_
                                                · with_reducible rfl
                                                refine And.intro ?_ ?_
                                                · with_reducible rfl
                                                refine And.intro ?_ ?_
                                                · with_reducible rfl
                                                refine And.intro ?_ ?_
                                                · with_reducible rfl
                                                refine And.intro ?_ ?_
                                                · with_reducible rfl
                                                refine And.intro ?_ ?_
                                                · with_reducible rfl
                                                refine And.intro ?_ ?_
                                                · with_reducible rfl
                                                refine And.intro ?_ ?_
                                                · with_reducible rfl
                                                refine And.intro ?_ ?_
                                                · with_reducible rfl
                                                refine And.intro ?_ ?_
                                                · with_reducible rfl
                                                refine And.intro ?_ ?_
                                                · with_reducible rfl
                                                refine And.intro ?_ ?_
                                                · with_reducible rfl
                                                refine And.intro ?_ ?_
                                                · with_reducible rfl
                                                refine And.intro ?_ ?_
                                                · with_reducible rfl
                                                refine And.intro ?_ ?_
                                                · with_reducible rfl
                                                trivial
                                              case hSs1_u20_u21 => rfl
                                              case nxs1_u20_u21 =>
                                                refine chain_nil (by kernel_rfl) rfl ?opss2_u20_u21 ?ends2_u20_u21
                                                case opss2_u20_u21 =>
                                                  simp only [OpsAt, fillT, List.setIfInBounds_toArray, List.set_cons_zero, List.set_cons_succ]
                                                  try trivial
                                                case ends2_u20_u21 =>
                                                  intro wE hE
                                                  simp only [fillT, List.setIfInBounds_toArray, List.set_cons_zero, List.set_cons_succ]
                                                  rw [hE]
                                                  clear hE s2 s3 f2 f3 k9
                                                  have hk := HK0.out
                                                  generalize (((wx).drew).setCell ⟨gE, k * 8 + 2, none⟩ (.int .u64 (c0 - n))).setCell ⟨gE, k * 8 + 3, none⟩ (.int .u64 m) = wy at hk ⊢
                                                  have HK := Lib.hid hk
                                                  clear hk HK0
                                                  skip
                                                  have k7 := HK.out.all
                                                  simp only [allFacts, box_facts, row_facts, emp_facts, cellFacts, Nat.zero_add, Nat.reduceAdd, true_and, and_true] at k7
                                                  go_wp2
                                                  have h8 := (HK.out.set 2 rfl 0 (.slice A9 x.spots.length C9)).set 2 rfl 1 (.slice (some ⟨gE, 0, none⟩) x.edges.length C10)
                                                  try simp only [List.cons_append, List.nil_append, List.set_cons_succ, List.set_cons_zero, Nat.zero_add, Nat.reduceAdd, World.size_alloc, World.size_drew] at h8
                                                  have hW9 := WebAt.ofRows (i := 3) (j := 4) (x := ⟨x.spots, x.edges.set k (⟨a, b, c0 - n, m, b0, r0, b1, r1⟩ : Edg)⟩) (c2 := C10) (A2 := some ⟨gE, 0, none⟩) h8 rfl (by rw [List.length_set]; rfl) ⟨by first | omega | (dsimp only; omega), by first | (rw [List.length_set]; omega) | (rw [List.length_set]; dsimp only; omega)⟩
                                                  have HW9 := Lib.hid hW9
                                                  have hb9 := h8.below (i := 0) rfl
                                                  have HB9 := Lib.hid hb9
                                                  clear h8 hW9 hb9
                                                  refine bodyPost_ret (v := .tuple #[.agg #[.slice A9 x.spots.length C9, .slice (some ⟨gE, 0, none⟩) x.edges.length C10], .int .i64 0]) (by simp only [results, Try.results15]; go_simp) rfl ⟨A9, C9, some ⟨gE, 0, none⟩, C10, ret_web (by rw [HZ.out]) (by rw [HZ.out]; simp) (by rw [HZ.out]), by rw [HZ.out]; exact HW9.out, HB9.out⟩
      · exact absurd hs (HX.out _ (by simpa using HGK.out))
      · have hsd := fun w => side_any w a b c0 c1 b0 r0 b1 r1 node
        rw [hs] at hsd
        have HSD := Lib.hid hsd
        have hsa := HSA.out
        rw [hs] at hsa
        have HZ := Lib.hid (hsa.trans (if_pos (by decide)))
        clear hs ha hb1 hsd hsa
        go_enter Try.func15, Try.ntmps15
        go_wp2_with fail
        refine (HCK.out).mono ?_
        rintro e w2 ⟨rfl, hb⟩
        have h2 := H1.out.grow hb
        have k2 := h2.all
        simp only [allFacts, box_facts, row_facts, emp_facts, cellFacts, Nat.zero_add, Nat.reduceAdd, true_and, and_true] at k2
        have H2 := Lib.hid h2
        clear hb h2
        have q0 := restCell H2.out rfl hb (HC.out 0 _ rfl)
        have q1 := restCell H2.out rfl hb (HC.out 1 _ rfl)
        have q2 := restCell H2.out rfl hb (HC.out 2 _ rfl)
        have q3 := restCell H2.out rfl hb (HC.out 3 _ rfl)
        have q4 := restCell H2.out rfl hb (HC.out 4 _ rfl)
        have q5 := restCell H2.out rfl hb (HC.out 5 _ rfl)
        have q6 := restCell H2.out rfl hb (HC.out 6 _ rfl)
        have q7 := restCell H2.out rfl hb (HC.out 7 _ rfl)
        rw [Nat.add_zero] at q0
        go_wp2_with fail
        refine (HSD.out _).mono ?_
        rintro e w3 ⟨rfl, hb⟩
        clear q0 q1 q2 q3 q4 q5 q6 q7
        have h3 := H2.out.grow hb
        have k3 := h3.all
        simp only [allFacts, box_facts, row_facts, emp_facts, cellFacts, Nat.zero_add, Nat.reduceAdd, true_and, and_true] at k3
        clear k2
        have H3 := Lib.hid h3
        clear hb h3
        go_wp2
        have hz9 := (H3.out.set 2 rfl 0 (.slice none 0 0)).set 2 rfl 1 (.slice none 0 0)
        have hz8 := hz9.below (i := 0) rfl
        have HZ8 := Lib.hid hz8
        clear hz9 hz8
        refine bodyPost_ret (v := .tuple #[.agg #[.slice none 0 0, .slice none 0 0], .int .i64 1]) (by simp only [results, Try.results15]; go_simp) rfl ⟨none, 0, none, 0, ret_web (by rw [HZ.out]; rfl) (by rw [HZ.out]; rfl) (by rw [HZ.out]), by rw [HZ.out]; exact WebAt.none _, HZ8.out⟩
end Go.Proofs.Ytjbblgefgjmdaaa
