/- Edges, compared with themselves. -/
import Derived.Test.YtcfpbemoocegfaaSteps
import Derived.DeepKeys
import Derived.Test.YtcfpbemoocegfaaLast
import Derived.Test.YtcfpbemoocegfaaSumA
import Derived.Test.YtcfpbemoocegfaaPayP8
import Derived.Test.YtcfpbemoocegfaaReach07
namespace Go.Proofs.Ytcfpbemoocegfaa
set_option linter.unusedVariables false
set_option linter.unusedSimpArgs false
set_option linter.unnecessarySimpa false
open Go.RowKit

theorem eq_self {t : TypeId} {xs : Array Value} {l : List Lit} (hk : Try.prog.keyTypeAt 5 t = true) (hf : (Value.agg xs).formed Try.prog t = true) (hl : Try.prog.keyLits 10 t xs.toList = some l) (w : World) : (Op.equalIn 9999 t (.agg xs) (.agg xs)).run Try.prog w = .ok true w := by
  obtain ⟨r, hr, hiff⟩ := run_equalIn_deep (P := Try.prog) 9994 5 t hk w 10 10 (.agg xs) (.agg xs) l l hf hf hl hl
  have h2 : r = true := hiff.2 rfl
  rw [h2] at hr
  exact hr
theorem kl_int {P : Program} {d : Nat} {t : TypeId} {q : IntKind} {n : Int} (hu : P.underlying t = some (.int q)) (hw : (Lit.int q n).wf = true) : P.keyLits (d + 1) t [.int q n] = some [.int q n] := by
  unfold Program.keyLits; rw [hu]; simp [hw]
theorem kl_arr2 {P : Program} {d : Nat} {t e : TypeId} {cs : List Value} {a b : List Lit} {k : Nat} (hu : P.underlying t = some (.array 2 e)) (hc : cs.length = P.cellsOf t) (he : P.cellsOf e = k) (h0 : P.keyLits d e (cs.take k) = some a) (h1 : P.keyLits d e ((cs.drop k).take k) = some b) :
    P.keyLits (d + 1) t cs = some (a ++ b) := by
  unfold Program.keyLits
  rw [hu]
  have e2 : (List.range 2).mapM (fun i => P.keyLits d e ((cs.drop (i * P.cellsOf e)).take (P.cellsOf e))) = some [a, b] := by
    rw [show List.range 2 = [0, 1] from rfl, he]
    simp only [List.mapM_cons, List.mapM_nil, Nat.zero_mul, List.drop_zero, Nat.one_mul, h0, h1]; rfl
  simp only [hc, if_true, e2]; simp
theorem kl_st2 {P : Program} {d : Nat} {t : TypeId} {cs : List Value} {a b : List Lit} {f0 f1 : Field} (hu : P.underlying t = some (.struct #[f0, f1])) (hc : cs.length = P.cellsOf t) (hn : (#[f0, f1] : Array Field).all (·.name != "_") = true)
    (h0 : P.keyLits d f0.type ((cs.drop f0.offset).take (P.cellsOf f0.type)) = some a) (h1 : P.keyLits d f1.type ((cs.drop f1.offset).take (P.cellsOf f1.type)) = some b) : P.keyLits (d + 1) t cs = some (a ++ b) := by
  unfold Program.keyLits
  rw [hu]
  have e2 : ([f0, f1] : List Field).mapM (fun f => P.keyLits d f.type ((cs.drop f.offset).take (P.cellsOf f.type))) = some [a, b] := by
    simp only [List.mapM_cons, List.mapM_nil, h0, h1]; rfl
  simp only [hc, hn, and_self, if_true, e2]; simp
theorem lit_i64 {a : Int} (h : I64 a) : (Lit.int .i64 a).wf = true := by
  unfold I64 at h
  simp [Lit.wf, IntKind.min, IntKind.max, IntKind.signed, IntKind.bits]; omega
theorem lit_u64 {a : Int} (h : U64 a) : (Lit.int .u64 a).wf = true := by
  unfold U64 at h
  simp [Lit.wf, IntKind.min, IntKind.max, IntKind.signed, IntKind.bits]; omega
set_option maxRecDepth 100000 in
theorem eq_ends {a b : Int} (ha : I64 a) (hb : I64 b) (w : World) : (Op.equalIn 9999 56 (.agg #[.int .i64 a, .int .i64 b]) (.agg #[.int .i64 a, .int .i64 b])).run Try.prog w = .ok true w := by
  have h1 := lit_i64 ha
  have h2 := lit_i64 hb
  refine eq_self (l := [.int .i64 a, .int .i64 b]) (by kernel_rfl) (by kernel_rfl) ?_ w
  exact kl_arr2 (d := 9) (cs := [.int .i64 a, .int .i64 b]) (a := [.int .i64 a]) (b := [.int .i64 b]) Try.underlying56 (by kernel_rfl) (show Try.prog.cellsOf 3 = 1 from by kernel_rfl) (show Try.prog.keyLits 9 3 [.int .i64 a] = some [.int .i64 a] from kl_int (d := 8) Try.underlying3 h1) (show Try.prog.keyLits 9 3 [.int .i64 b] = some [.int .i64 b] from kl_int (d := 8) Try.underlying3 h2)
set_option maxRecDepth 100000 in
theorem eq_cans {a b : Int} (ha : U64 a) (hb : U64 b) (w : World) : (Op.equalIn 9999 57 (.agg #[.int .u64 a, .int .u64 b]) (.agg #[.int .u64 a, .int .u64 b])).run Try.prog w = .ok true w := by
  have h1 := lit_u64 ha
  have h2 := lit_u64 hb
  refine eq_self (l := [.int .u64 a, .int .u64 b]) (by kernel_rfl) (by kernel_rfl) ?_ w
  exact kl_arr2 (d := 9) (cs := [.int .u64 a, .int .u64 b]) (a := [.int .u64 a]) (b := [.int .u64 b]) Try.underlying57 (by kernel_rfl) (show Try.prog.cellsOf 26 = 1 from by kernel_rfl) (show Try.prog.keyLits 9 26 [.int .u64 a] = some [.int .u64 a] from kl_int (d := 8) Try.underlying26 h1) (show Try.prog.keyLits 9 26 [.int .u64 b] = some [.int .u64 b] from kl_int (d := 8) Try.underlying26 h2)
set_option maxRecDepth 100000 in
theorem eq_fees {a b c d : Int} (ha : U64 a) (hb : U64 b) (hc : U64 c) (hd : U64 d) (w : World) : (Op.equalIn 9999 102 (.agg #[.int .u64 a, .int .u64 b, .int .u64 c, .int .u64 d]) (.agg #[.int .u64 a, .int .u64 b, .int .u64 c, .int .u64 d])).run Try.prog w = .ok true w := by
  have h1 := lit_u64 ha
  have h2 := lit_u64 hb
  have h3 := lit_u64 hc
  have h4 := lit_u64 hd
  refine eq_self (l := [.int .u64 a, .int .u64 b, .int .u64 c, .int .u64 d]) (by kernel_rfl) (by kernel_rfl) ?_ w
  have c2 : Try.prog.cellsOf 101 = 2 := by kernel_rfl
  have st : ∀ {x y : Int}, (Lit.int .u64 x).wf = true → (Lit.int .u64 y).wf = true → Try.prog.keyLits 9 101 [.int .u64 x, .int .u64 y] = some [.int .u64 x, .int .u64 y] := fun {x y} hx hy => kl_st2 (d := 8) (cs := [.int .u64 x, .int .u64 y]) (a := [.int .u64 x]) (b := [.int .u64 y]) Try.underlying101 (by rw [c2]; rfl) (by kernel_rfl) (show Try.prog.keyLits 8 26 [.int .u64 x] = some [.int .u64 x] from kl_int (d := 7) Try.underlying26 hx) (show Try.prog.keyLits 8 26 [.int .u64 y] = some [.int .u64 y] from kl_int (d := 7) Try.underlying26 hy)
  exact kl_arr2 (d := 9) (cs := [.int .u64 a, .int .u64 b, .int .u64 c, .int .u64 d]) (a := [.int .u64 a, .int .u64 b]) (b := [.int .u64 c, .int .u64 d]) Try.underlying102 (by kernel_rfl) c2 (st h1 h2) (st h3 h4)
open Go.RowKit

theorem words_appW (a b : List Int) : words a ++ words b = words (a ++ b) := by simp [words]
theorem row_words {w : World} {B : Nat} {T : TypeId} {A : Option Addr} {c : Nat} {xs : List Int} (h : w.ownsRow B T 1 (.slice A xs.length c) xs.length (words xs)) (hu : ∀ x ∈ xs, 0 ≤ x ∧ x < 18446744073709551616) (hl : xs.length * 8 ≤ 140737488355328) : Words w A c xs :=
  ⟨row_none h, src_row h, hu, hl⟩
set_option maxRecDepth 100000 in
set_option maxHeartbeats 2000000 in
theorem all_any (w : World) (As : Option Addr) (cs : Nat) (Ae : Option Addr) (ce : Nat) (x : Wb) (h : WebAt w As cs Ae ce x) (ok : x.Ok) (hs : x.edges.length ≤ 1000) : Calls Try.prog 44 #[.agg #[.slice As x.spots.length cs, .slice Ae x.edges.length ce]] w fun e w' => e = .returned (.tuple #[.int .u64 (allP x).1, .int .i64 (allP x).2]) ∧ Below w.heap.size w w' := by
  have h1 := ((Sat.pushRest w).alloc #[.slice As x.spots.length cs, .slice Ae x.edges.length ce] 32).nilRow 26 1
  try simp only [List.cons_append, List.nil_append, List.set_cons_succ, List.set_cons_zero, Nat.zero_add, Nat.reduceAdd, World.size_alloc] at h1
  have HW := Lib.hid h
  have H1 := Lib.hid h1
  clear h h1
  go_enter Try.func44, Try.ntmps44
  go_wp2
  go_loopw [4, 10] (fun v i wr => ∃ (k : Nat) (A' : Option Addr) (c' : Nat), k ≤ x.edges.length ∧ i = .int .i64 k ∧ v = .slice A' (cansP (x.edges.take k)).length c' ∧ Sat w wr [rest w (· < w.heap.size), box w.heap.size 32 [.slice As x.spots.length cs, .slice Ae x.edges.length ce], row 26 1 (.slice A' (cansP (x.edges.take k)).length c') (cansP (x.edges.take k)).length (words (cansP (x.edges.take k)))]) (fun _ i _ => x.edges.length - (intOf i).toNat)
  case atStart => exact ⟨0, none, 0, Nat.zero_le _, rfl, rfl, H1.out⟩
  case round =>
    obtain ⟨k, A', c', hk, rfl, rfl, hS⟩ := hrel
    clear H1
    have HS := Lib.hid hS
    clear hS
    by_cases hlt : k < x.edges.length
    · obtain ⟨g, off, rfl, hb, hc⟩ := HW.out.e.at edC_len (by decide) hlt
      have hsn := cansP_snoc hlt
      have hml : (cansP (x.edges.take k)).length ≤ 2000 := by rw [cansP_len]; simp; omega
      generalize hed : x.edges[k] = ed at *
      obtain ⟨a, b, c0, c1, b0, r0, b1, r1⟩ := ed
      try dsimp only at hsn
      have HC := Lib.hid hc
      clear hed hc
      generalize cansP (x.edges.take k) = ls at *
      have HSN := Lib.hid hsn
      clear hsn
      have q0 := restCell HS.out rfl hb (HC.out 0 _ rfl)
      have q1 := restCell HS.out rfl hb (HC.out 1 _ rfl)
      have q2 := restCell HS.out rfl hb (HC.out 2 _ rfl)
      have q3 := restCell HS.out rfl hb (HC.out 3 _ rfl)
      have q4 := restCell HS.out rfl hb (HC.out 4 _ rfl)
      have q5 := restCell HS.out rfl hb (HC.out 5 _ rfl)
      have q6 := restCell HS.out rfl hb (HC.out 6 _ rfl)
      have q7 := restCell HS.out rfl hb (HC.out 7 _ rfl)
      rw [Nat.add_zero] at q0
      have k1 := HS.out.all
      simp only [allFacts, box_facts, row_facts, emp_facts, cellFacts, Nat.zero_add, Nat.reduceAdd, true_and, and_true] at k1
      have h31 := (HS.out.alloc #[.int .i64 a, .int .i64 b, .int .u64 c0, .int .u64 c1, .int .u64 b0, .int .u64 r0, .int .u64 b1, .int .u64 r1] 62).alloc #[.int .u64 c0, .int .u64 c1] 26
      try simp only [List.cons_append, List.nil_append, List.set_cons_succ, List.set_cons_zero, Nat.zero_add, Nat.reduceAdd, World.size_alloc] at h31
      have H31 := Lib.hid h31
      clear h31
      go_wp2_with (first
        | (at_builtin; refine wpList_append_sat rfl _ _ 43 rfl H31.out 2 26 (.int .u64 0) 1 8 Try.underlying43 info_u64 rfl (by decide) (.slice A' ls.length c') ls.length (words ls) ?a0 rfl (some ⟨_, 0, none⟩) 2 2 [.int .u64 c0, .int .u64 c1] ?a1 (fun h => by cases h) ?a2 (box_src H31.out (i := 4) rfl) ?a3 ?a4 ?a5 ?a6)
        | fail)
      try (case a0 => go_simp)
      try (case a1 => go_simp)
      try (case a2 => rfl)
      case a3 => first | exact ⟨rfl, rfl⟩ | (intro u hu; simp at hu; rcases hu with rfl | rfl <;> rfl)
      case a4 => unfold maxLen; omega
      case a5 => omega
      case a6 =>
        intro A2 c2 w3 h4 hA2 hg2
        try simp only [List.cons_append, List.nil_append, List.set_cons_succ, List.set_cons_zero, Nat.zero_add, Nat.reduceAdd, World.size_alloc] at h4
        rw [show words ls ++ [Value.int .u64 c0, Value.int .u64 c1] = words (ls ++ [c0, c1]) from words_appW ls [c0, c1], show ls.length + 2 = (ls ++ [c0, c1]).length from by simp] at h4
        have h5 := h4.left (l := [_, _, _]) (l' := [_, _])
        have H5 := Lib.hid h5
        clear h4 h5 hA2 hg2
        clear q0 q1 q2 q3 q4 q5 q6 q7 k1
        go_wp2
        go_roundw
        case rel => exact ⟨k + 1, A2, c2, by omega, by go_num, by rw [HSN.out] <;> simp, by rw [HSN.out]; exact H5.out⟩
        case measure => (simp [intOf]; try omega)
    · obtain rfl : k = x.edges.length := by omega
      rw [List.take_length] at HS
      have hw := row_words (HS.out.rowOf (i := 2) rfl) (cansP_u ok.e) (by rw [cansP_len]; omega)
      have hsm := sum_any wr A' c' _ hw
      rw [List.take_length]
      have HSM := Lib.hid hsm
      have k1 := HS.out.all
      simp only [allFacts, box_facts, row_facts, emp_facts, cellFacts, Nat.zero_add, Nat.reduceAdd, true_and, and_true] at k1
      clear hw hsm
      go_wp2_with fail
      refine (HSM.out).mono ?_
      rintro e w31 ⟨rfl, hw⟩
      first | rw [show w31 = _ from hw] | rw [show w31 = _ from hw.symm]
      clear hw
      go_wp2
      go_ret2
      exact ⟨rfl, HS.out.below (i := 0) rfl⟩
set_option maxRecDepth 100000 in
set_option maxHeartbeats 2000000 in
theorem rall_any (w : World) (As : Option Addr) (cs : Nat) (Ae : Option Addr) (ce : Nat) (x : Wb) (h : WebAt w As cs Ae ce x) (ok : x.Ok) (hs : x.edges.length ≤ 1000) : Calls Try.prog 42 #[.agg #[.slice As x.spots.length cs, .slice Ae x.edges.length ce]] w fun e w' => e = .returned (.tuple #[.int .u64 (allP x).1, .int .i64 (allP x).2]) ∧ Below w.heap.size w w' := by
  have h1 := ((Sat.pushRest w).alloc #[.slice As x.spots.length cs, .slice Ae x.edges.length ce] 25).nilRow 26 1
  try simp only [List.cons_append, List.nil_append, List.set_cons_succ, List.set_cons_zero, Nat.zero_add, Nat.reduceAdd, World.size_alloc] at h1
  have HW := Lib.hid h
  have H1 := Lib.hid h1
  clear h h1
  go_enter Try.func42, Try.ntmps42
  go_wp2
  go_loopw [4, 5] (fun v i wr => ∃ (k : Nat) (A' : Option Addr) (c' : Nat), k ≤ x.edges.length ∧ i = .int .i64 k ∧ v = .slice A' (cansP (x.edges.take k)).length c' ∧ Sat w wr [rest w (· < w.heap.size), box w.heap.size 25 [.slice As x.spots.length cs, .slice Ae x.edges.length ce], row 26 1 (.slice A' (cansP (x.edges.take k)).length c') (cansP (x.edges.take k)).length (words (cansP (x.edges.take k)))]) (fun _ i _ => x.edges.length - (intOf i).toNat)
  case atStart => exact ⟨0, none, 0, Nat.zero_le _, rfl, rfl, H1.out⟩
  case round =>
    obtain ⟨k, A', c', hk, rfl, rfl, hS⟩ := hrel
    clear H1
    have HS := Lib.hid hS
    clear hS
    by_cases hlt : k < x.edges.length
    · obtain ⟨g, off, rfl, hb, hc⟩ := HW.out.e.at edC_len (by decide) hlt
      have hsn := cansP_snoc hlt
      have hml : (cansP (x.edges.take k)).length ≤ 2000 := by rw [cansP_len]; simp; omega
      generalize hed : x.edges[k] = ed at *
      obtain ⟨a, b, c0, c1, b0, r0, b1, r1⟩ := ed
      try dsimp only at hsn
      have HC := Lib.hid hc
      clear hed hc
      generalize cansP (x.edges.take k) = ls at *
      have HSN := Lib.hid hsn
      clear hsn
      have q0 := restCell HS.out rfl hb (HC.out 0 _ rfl)
      have q1 := restCell HS.out rfl hb (HC.out 1 _ rfl)
      have q2 := restCell HS.out rfl hb (HC.out 2 _ rfl)
      have q3 := restCell HS.out rfl hb (HC.out 3 _ rfl)
      have q4 := restCell HS.out rfl hb (HC.out 4 _ rfl)
      have q5 := restCell HS.out rfl hb (HC.out 5 _ rfl)
      have q6 := restCell HS.out rfl hb (HC.out 6 _ rfl)
      have q7 := restCell HS.out rfl hb (HC.out 7 _ rfl)
      rw [Nat.add_zero] at q0
      have k1 := HS.out.all
      simp only [allFacts, box_facts, row_facts, emp_facts, cellFacts, Nat.zero_add, Nat.reduceAdd, true_and, and_true] at k1
      go_wp2_with fail
      refine region_any (by kernel_rfl) ?_
      refine any_lastO ⟨by kernel_rfl, by kernel_rfl, by kernel_rfl, by kernel_rfl⟩ ?_
      simp only [initO, lastO]
      refine any_chain (E := [15, 16]) (kn := [true, true, true, true, true, true, true, true, true, true, true, true, true, true, true, false, false]) (mask := [true, true, true, true, true, true, true, true, true, true, true, true, true, true, true, false, false]) (vs := [?vq0_0, ?vq0_1, ?vq0_2, ?vq0_3, ?vq0_4, ?vq0_5, ?vq0_6, ?vq0_7, ?vq0_8, ?vq0_9, ?vq0_10, ?vq0_11, ?vq0_12, ?vq0_13, ?vq0_14, undef, undef]) (S := fun w' => w' = wr.drew) (by kernel_rfl) (by kernel_rfl) (by kernel_rfl) (by kernel_rfl) ?hSq ?hchq
      case hSq => exact rfl
      case hchq =>
        refine chain_cons _ (by kernel_rfl) rfl rfl ?opsq0 ?wantq0 ?effq0
        case opsq0 =>
          simp only [OpsAt, fillT, List.setIfInBounds_toArray, List.set_cons_zero, List.set_cons_succ]
          refine ⟨.inl ⟨by rfl, opOk_pure fun wS hS => ?_⟩, ?_⟩
          · ((subst hS; go_simp; try simp (disch := omega) only [wrap64_id])); try (with_reducible rfl)
          refine ⟨.inl ⟨by rfl, opOk_pure fun wS hS => ?_⟩, ?_⟩
          · ((subst hS; go_simp; try simp (disch := omega) only [wrap64_id])); try (with_reducible rfl)
          refine ⟨.inl ⟨by rfl, opOk_pure fun wS hS => ?_⟩, ?_⟩
          · ((subst hS; go_simp; try simp (disch := omega) only [wrap64_id])); try (with_reducible rfl)
          refine ⟨.inl ⟨by rfl, opOk_pure fun wS hS => ?_⟩, ?_⟩
          · ((subst hS; go_simp; try simp (disch := omega) only [wrap64_id])); try (with_reducible rfl)
          refine ⟨.inl ⟨by rfl, opOk_pure fun wS hS => ?_⟩, ?_⟩
          · ((subst hS; go_simp; try simp (disch := omega) only [wrap64_id])); try (with_reducible rfl)
          refine ⟨.inl ⟨by rfl, opOk_pure fun wS hS => ?_⟩, ?_⟩
          · ((subst hS; go_simp; try simp (disch := omega) only [wrap64_id])); try (with_reducible rfl)
          refine ⟨.inl ⟨by rfl, opOk_pure fun wS hS => ?_⟩, ?_⟩
          · ((subst hS; go_simp; try simp (disch := omega) only [wrap64_id])); try (with_reducible rfl)
          refine ⟨.inl ⟨by rfl, opOk_pure fun wS hS => ?_⟩, ?_⟩
          · ((subst hS; go_simp; try simp (disch := omega) only [wrap64_id])); try (with_reducible rfl)
          refine ⟨.inl ⟨by rfl, opOk_pure fun wS hS => ?_⟩, ?_⟩
          · ((subst hS; go_simp; try simp (disch := omega) only [wrap64_id])); try (with_reducible rfl)
          refine ⟨.inl ⟨by rfl, opOk_pure fun wS hS => ?_⟩, ?_⟩
          · ((subst hS; go_simp; try simp (disch := omega) only [wrap64_id])); try (with_reducible rfl)
          refine ⟨.inl ⟨by rfl, opOk_pure fun wS hS => ?_⟩, ?_⟩
          · ((subst hS; go_simp; try simp (disch := omega) only [wrap64_id])); try (with_reducible rfl)
          refine ⟨.inl ⟨by rfl, opOk_pure fun wS hS => ?_⟩, ?_⟩
          · ((subst hS; go_simp; try simp (disch := omega) only [wrap64_id])); try (with_reducible rfl)
          refine ⟨.inl ⟨by rfl, opOk_pure fun wS hS => ?_⟩, ?_⟩
          · ((subst hS; go_simp; try simp (disch := omega) only [wrap64_id])); try (with_reducible rfl)
          refine ⟨.inl ⟨by rfl, opOk_pure fun wS hS => ?_⟩, ?_⟩
          · ((subst hS; go_simp; try simp (disch := omega) only [wrap64_id])); try (with_reducible rfl)
          refine ⟨.inl ⟨by rfl, opOk_pure fun wS hS => ?_⟩, ?_⟩
          · ((subst hS; go_simp; try simp (disch := omega) only [wrap64_id])); try (with_reducible rfl)
          try trivial
        case wantq0 => (try simp only [fillT, List.setIfInBounds_toArray, List.set_cons_zero, List.set_cons_succ]) <;> rfl
        case effq0 =>
          intro wS hS
          simp only [fillT, List.setIfInBounds_toArray, List.set_cons_zero, List.set_cons_succ]
          rw [hS]
          refine eff_run (w' := wr.drew.alloc (.cells #[.int .u64 c0, .int .u64 c1] 26)) (by go_simp; try rfl) ?_
          have h3 := HS.out.drew.alloc #[.int .u64 c0, .int .u64 c1] 26
          try simp only [List.cons_append, List.nil_append, List.set_cons_succ, List.set_cons_zero, Nat.zero_add, Nat.reduceAdd, World.size_alloc] at h3
          have H3 := Lib.hid h3
          clear h3
          refine ⟨_, [true, true, true, true, true, true, true, true, true, true, true, true, true, true, true, true, false], [true, false, false, false, false, false, false, false, false, false, false, false, false, false, false, false, false], [7, 14, 6, 13, 5, 12, 4, 11, 2, 3, 9, 10, 1, 8], [?vq1_0, ?vq1_1, ?vq1_2, ?vq1_3, ?vq1_4, ?vq1_5, ?vq1_6, ?vq1_7, ?vq1_8, ?vq1_9, ?vq1_10, ?vq1_11, ?vq1_12, ?vq1_13, ?vq1_14, (.slice (some ⟨wr.drew.heap.size, 0, none⟩) 2 2), undef], fun w' => w' = wr.drew.alloc (.cells #[.int .u64 c0, .int .u64 c1] 26), rfl, rfl, ?sameq0, by kernel_rfl, ?hSq0, ?nxq0⟩
          case sameq0 =>
            refine And.intro ?_ ?_
            · with_reducible rfl
            refine And.intro ?_ ?_
            · with_reducible rfl
            refine And.intro ?_ ?_
            · with_reducible rfl
            refine And.intro ?_ ?_
            · with_reducible rfl
            refine And.intro ?_ ?_
            · with_reducible rfl
            refine And.intro ?_ ?_
            · with_reducible rfl
            refine And.intro ?_ ?_
            · with_reducible rfl
            refine And.intro ?_ ?_
            · with_reducible rfl
            refine And.intro ?_ ?_
            · with_reducible rfl
            refine And.intro ?_ ?_
            · with_reducible rfl
            refine And.intro ?_ ?_
            · with_reducible rfl
            refine And.intro ?_ ?_
            · with_reducible rfl
            refine And.intro ?_ ?_
            · with_reducible rfl
            refine And.intro ?_ ?_
            · with_reducible rfl
            refine And.intro ?_ ?_
            · with_reducible rfl
            trivial
          case hSq0 => rfl
          case nxq0 =>
            refine chain_cons _ (by kernel_rfl) rfl rfl ?opsq1 ?wantq1 ?effq1
            case opsq1 =>
              simp only [OpsAt, fillT, List.setIfInBounds_toArray, List.set_cons_zero, List.set_cons_succ]
              refine ⟨.inl ⟨by rfl, opOk_pure fun wS hS => ?_⟩, ?_⟩
              · ((subst hS; go_simp; try simp (disch := omega) only [wrap64_id])); try (with_reducible rfl)
              try trivial
            case wantq1 => (try simp only [fillT, List.setIfInBounds_toArray, List.set_cons_zero, List.set_cons_succ]) <;> rfl
            case effq1 =>
              intro wS hS
              simp only [fillT, List.setIfInBounds_toArray, List.set_cons_zero, List.set_cons_succ]
              rw [hS]
              refine wp_append_sat _ _ 43 rfl H3.out 2 26 (.int .u64 0) 1 8 Try.underlying43 info_u64 rfl (by decide) (.slice A' ls.length c') ls.length (words ls) ?a0 rfl (some ⟨_, 0, none⟩) 2 2 [.int .u64 c0, .int .u64 c1] ?a1 (fun h => by cases h) ?a2 (box_src H3.out (i := 3) rfl) ?a3 ?a4 ?a5 ?a6
              try (case a0 => go_simp)
              try (case a1 => go_simp)
              try (case a2 => rfl)
              case a3 => first | exact ⟨rfl, rfl⟩ | (intro u hu; simp at hu; rcases hu with rfl | rfl <;> rfl)
              case a4 => unfold maxLen; omega
              case a5 => omega
              case a6 =>
                intro A2 c2 w3 h4 hA2 hg2
                try simp only [List.cons_append, List.nil_append, List.set_cons_succ, List.set_cons_zero, Nat.zero_add, Nat.reduceAdd, World.size_alloc] at h4
                rw [show words ls ++ [Value.int .u64 c0, Value.int .u64 c1] = words (ls ++ [c0, c1]) from words_appW ls [c0, c1], show ls.length + 2 = (ls ++ [c0, c1]).length from by simp] at h4
                rw [show ls.length + 2 = (ls ++ [c0, c1]).length from by simp]
                have h5 := h4.left (l := [_, _, _]) (l' := [_])
                have H5 := Lib.hid h5
                clear h4 h5 hA2 hg2
                refine ⟨_, [true, true, true, true, true, true, true, true, true, true, true, true, true, true, true, true, true], [false, false, false, false, false, false, false, false, false, false, false, false, false, false, false, false, false], [0], [?vq2_0, ?vq2_1, ?vq2_2, ?vq2_3, ?vq2_4, ?vq2_5, ?vq2_6, ?vq2_7, ?vq2_8, ?vq2_9, ?vq2_10, ?vq2_11, ?vq2_12, ?vq2_13, ?vq2_14, (.slice (some ⟨wr.drew.heap.size, 0, none⟩) 2 2), (.slice A2 (ls ++ [c0, c1]).length c2)], fun w' => w' = w3, rfl, rfl, ?sameq1, by kernel_rfl, ?hSq1, ?nxq1⟩
                case sameq1 =>
                  refine And.intro ?_ ?_
                  · with_reducible rfl
                  refine And.intro ?_ ?_
                  · with_reducible rfl
                  refine And.intro ?_ ?_
                  · with_reducible rfl
                  refine And.intro ?_ ?_
                  · with_reducible rfl
                  refine And.intro ?_ ?_
                  · with_reducible rfl
                  refine And.intro ?_ ?_
                  · with_reducible rfl
                  refine And.intro ?_ ?_
                  · with_reducible rfl
                  refine And.intro ?_ ?_
                  · with_reducible rfl
                  refine And.intro ?_ ?_
                  · with_reducible rfl
                  refine And.intro ?_ ?_
                  · with_reducible rfl
                  refine And.intro ?_ ?_
                  · with_reducible rfl
                  refine And.intro ?_ ?_
                  · with_reducible rfl
                  refine And.intro ?_ ?_
                  · with_reducible rfl
                  refine And.intro ?_ ?_
                  · with_reducible rfl
                  refine And.intro ?_ ?_
                  · with_reducible rfl
                  refine And.intro ?_ ?_
                  · with_reducible rfl
                  trivial
                case hSq1 => rfl
                case nxq1 =>
                  refine chain_nil (by kernel_rfl) rfl ?opsq2 ?endq2
                  case opsq2 =>
                    simp only [OpsAt, fillT, List.setIfInBounds_toArray, List.set_cons_zero, List.set_cons_succ]
                    try trivial
                  case endq2 =>
                    intro wE hE
                    simp only [fillT, List.setIfInBounds_toArray, List.set_cons_zero, List.set_cons_succ]
                    refine ⟨rfl, last_pure (v := (.slice A2 (ls ++ [c0, c1]).length c2)) (by go_simp; try rfl) ?_⟩
                    simp only [Act.put, List.setIfInBounds_toArray, List.set_cons_zero, List.set_cons_succ]
                    rw [hE]
                    clear q0 q1 q2 q3 q4 q5 q6 q7 k1
                    go_wp2
                    go_roundw
                    case rel => exact ⟨k + 1, A2, c2, by omega, by go_num, by rw [HSN.out] <;> simp, by rw [HSN.out]; exact H5.out⟩
                    case measure => (simp [intOf]; try omega)
    · obtain rfl : k = x.edges.length := by omega
      rw [List.take_length] at HS
      have hw := row_words (HS.out.rowOf (i := 2) rfl) (cansP_u ok.e) (by rw [cansP_len]; omega)
      have hsm := rsum_any wr A' c' _ hw
      rw [List.take_length]
      have HSM := Lib.hid hsm
      have k1 := HS.out.all
      simp only [allFacts, box_facts, row_facts, emp_facts, cellFacts, Nat.zero_add, Nat.reduceAdd, true_and, and_true] at k1
      clear hw hsm
      go_wp2_with fail
      refine (HSM.out).mono ?_
      rintro e w31 ⟨rfl, hw⟩
      first | rw [show w31 = _ from hw] | rw [show w31 = _ from hw.symm]
      clear hw
      go_wp2
      go_ret2
      exact ⟨rfl, HS.out.below (i := 0) rfl⟩
open Go Go.RowKit

theorem iC_words (X : List Int) : X.flatMap iC_u64 = words X := by
  induction X with
  | nil => rfl
  | cons a X ih => rw [List.flatMap_cons, ih]; rfl
theorem words_recs {w : World} {A : Option Addr} {c : Nat} {X : List Int} (h : Recs 1 iC_u64 w A c X) (hu : ∀ a ∈ X, 0 ≤ a ∧ a < 18446744073709551616) (hl : X.length ≤ 1000) : Words w A c X := ⟨h.none_, by rw [← iC_words]; exact h.src, hu, by omega⟩
theorem can_u {x : Wb} (ok : x.Ok) (n : Int) : ∀ a ∈ canL x n, 0 ≤ a ∧ a < 18446744073709551616 := by
  intro a ha
  refine ⟨canL_nn ok n a ha, ?_⟩
  unfold canL stepsP at ha
  split at ha
  · rw [List.mem_map] at ha
    obtain ⟨s, hs, rfl⟩ := ha
    obtain ⟨k, hk, _, h2⟩ := stepsF_mem hs
    obtain ⟨_, h4⟩ := stpOf_side h2
    have h5 := ok.e _ (List.getElem_mem hk)
    rw [h4]
    have h6 := h5.c0.2; have h7 := h5.c1.2
    dsimp only [Edg.can]
    split <;> assumption
  · simp at ha
theorem can_take {x : Wb} {n : Int} {i : Nat} {s : Stp} (h : (stepsP x n)[i]? = some s) : ((stepsP x n).take (i + 1)).map Stp.can = ((stepsP x n).take i).map Stp.can ++ [s.can] := by
  rw [take_snoc_of h, List.map_append]; rfl
theorem rsum_at {X : List Int} {p : Int × Int} (hp : sumP 0 X = p) (w : World) (A : Option Addr) (c : Nat) (h : Words w A c X) : Calls Try.prog 66 #[.slice A X.length c] w fun e w' => e = .returned (.tuple #[.int .u64 p.1, .int .i64 p.2]) ∧ w' = w := by
  subst hp
  exact rsum_any w A c X h
set_option maxRecDepth 100000 in
set_option maxHeartbeats 4000000 in
theorem sends8_any (w : World) (As : Option Addr) (cs : Nat) (Ae : Option Addr) (ce : Nat) (x : Wb) (h : WebAt w As cs Ae ce x) (ok : x.Ok) (n : Int) : Calls Try.prog 31 #[.agg #[.slice As x.spots.length cs, .slice Ae x.edges.length ce], .int .i64 n] w fun e w' => e = .returned (.tuple #[.int .u64 (sendsP x n).1, .int .i64 (sendsP x n).2]) ∧ Below w.heap.size w w' := by
 refine enter 27 Try.func31 rfl rfl rfl fun a F => ?_
 have S := Sat.pushRest w
 refine s_reg ?_
 refine l_do F rfl rfl (op_box S _ _ (.agg #[.slice As x.spots.length cs, .slice Ae x.edges.length ce]) F rfl (by kernel_rfl) fun b1 z S a F => ?_)
 refine l_pure 2 (fun L => (5, .int .i64 0) :: (4, .int .u64 0) :: L) F (by kernel_rfl) fun a F => ?_
 refine l_then ?_
 refine s_reg ?_
 refine l_pure 1 (fun L => (6, .slice none 0 0) :: L) F (by kernel_rfl) fun a F => ?_
 refine l_then ?_
 refine wp_seq ?_
 refine s_reg ?_
 refine l_do F rfl rfl (op_loadK _ _ (some ⟨b1, 0, none⟩) 0 [.slice As x.spots.length cs, .slice Ae x.edges.length ce] F rfl (by kernel_rfl) (by kernel_rfl) (by kernel_rfl) (by simp) (cBoxK S 1 rfl 0 (by kernel_rfl)) (fun a F => ?_))
 refine l_pure 1 (fun L => (10, .int .i64 n) :: L) F (by kernel_rfl) fun a F => ?_
 refine l_do F rfl rfl (op_fn F (by kernel_rfl) (rsteps_any _ As cs Ae ce x (h.move S rfl) ok n) ?_)
 rintro e z ⟨A2, c3, rfl, g⟩
 have S := S.pushThings g
 refine ⟨_, rfl, ?_⟩
 intro a F
 refine l_pure 2 (fun L => (13, .int .i64 0) :: (12, .int .i64 ((stepsP x n).length : Nat)) :: L) F (by kernel_rfl) fun a F => ?_
 refine l_then ?_
 refine wp_block ?_
 refine wp_loop_m (fun m a z => ∃ (i : Nat) (B : Option Addr) (d : Nat), m = (stepsP x n).length - i ∧ (i ≤ (stepsP x n).length) ∧ Fr a 27 [(6, .slice B ((List.map Stp.can (List.take i (stepsP x n))).length) d), (11, .slice A2 ((stepsP x n).length) c3), (12, .int .i64 ((stepsP x n).length : Nat)), (13, .int .i64 (i : Nat))] ∧ Sat w z [rest w (· < w.heap.size), box b1 25 [.slice As x.spots.length cs, .slice Ae x.edges.length ce], row 126 5 (.slice A2 ((stepsP x n).length) c3) ((stepsP x n).length) ((stepsP x n).flatMap stC), row 26 1 (.slice B ((List.map Stp.can (List.take i (stepsP x n))).length) d) ((List.map Stp.can (List.take i (stepsP x n))).length) ((List.map Stp.can (List.take i (stepsP x n))).flatMap iC_u64)]) _ ⟨0, none, 0, rfl, Nat.zero_le _, F.sub ⟨by kernel_rfl, by kernel_rfl, by kernel_rfl, by kernel_rfl, trivial⟩, (S.nilRow 26 1)⟩ ?_
 rintro m a z ⟨i, B, d, hm, hf4, F, S⟩
 have hfew := steps_few x n
 have hml : (List.map Stp.can (List.take i (stepsP x n))).length ≤ 16 := by rw [List.length_map, List.length_take]; omega
 refine s_reg ?_
 by_cases ht5 : ((i : Nat) : Int) < (((stepsP x n).length : Nat) : Int)
 ·
  skip
  obtain ⟨s1, hs1⟩ : ∃ s1, (stepsP x n)[i]? = some s1 := ⟨_, List.getElem?_eq_getElem (by omega)⟩
  refine l_do F rfl rfl (op_pure F (v0 := .bool (decide (((i : Nat) : Int) < (((stepsP x n).length : Nat) : Int)))) (v := .bool true) (by kernel_rfl) (lssT ht5) fun a F => ?_)
  refine l_then ?_
  refine wp_seq ?_
  refine c_t F rfl ?_
  refine wp_skip ?_
  refine then_n ?_
  refine wp_seq ?_
  refine wp_block ?_
  refine s_reg ?_
  refine l_do F rfl rfl (op_index _ 126 _ _ A2 ((stepsP x n).length) c3 i 5 .i64 F rfl (by kernel_rfl) (by kernel_rfl) (by kernel_rfl) (by kernel_rfl) (get_lt hs1) (row_some S 2 rfl (m := i) (get_lt hs1)) (fun a F => ?_))
  refine l_do F rfl rfl (op_loadK _ _ A2 (i * 5) [.int .i64 s1.edge, .int .i64 s1.to, .int .u64 s1.can, .int .u64 s1.base, .int .u64 s1.rate] F rfl (by kernel_rfl) (by kernel_rfl) (by kernel_rfl) (by simp) (cRecK0 S 2 stC_len rfl hs1 (by kernel_rfl)) (fun a F => ?_))
  refine l_do F rfl rfl (op_alloc S _ (.agg #[.int .i64 0, .int .i64 0, .int .u64 0, .int .u64 0, .int .u64 0]) rfl (by kernel_rfl) fun b6 z S a F => ?_)
  refine l_do F rfl rfl (op_storeB S 4 _ _ _ b6 0 (.agg #[.int .i64 s1.edge, .int .i64 s1.to, .int .u64 s1.can, .int .u64 s1.base, .int .u64 s1.rate]) F rfl rfl (by kernel_rfl) (by kernel_rfl) (by kernel_rfl) (by kernel_rfl) (by kernel_rfl) fun z S a F => ?_)
  refine l_then ?_
  refine wp_region_list ?_
  refine l_pure 2 (fun L => (18, .pointer (some ⟨b6, 2, none⟩)) :: (17, .slice B ((List.map Stp.can (List.take i (stepsP x n))).length) d) :: L) F (by kernel_rfl) fun a F => ?_
  refine l_do F rfl rfl (op_load _ _ (some ⟨b6, 0, none⟩) 2 (.int .u64 s1.can) F rfl (by kernel_rfl) (by kernel_rfl) (cBox S 4 rfl (j := 2) rfl) (fun a F => ?_))
  refine l_do F rfl rfl (op_buildSlice S _ 1 _ 26 1 iC_u64 ([s1.can] : List Int) F rfl (by kernel_rfl) (by kernel_rfl) (by kernel_rfl) (by unfold maxLen; omega) fun b7 z S a F => ?_)
  refine l_do F rfl rfl (op_append S 3 _ _ _ 26 (.int .u64 0) 1 8 (List.map Stp.can (List.take i (stepsP x n))) ([s1.can] : List Int) iC_u64 (some ⟨b7, 0, none⟩) 1 F iC_len_u64 (fun _ => rfl) rfl rfl (by kernel_rfl) (by kernel_rfl) rfl rfl rfl (by kernel_rfl) (by kernel_rfl) (row_none (S.rowOf (i := 5) rfl)) (src_row (S.rowOf (i := 5) rfl)) (by first | omega | (simp <;> omega)) fun A8 c9 z S a F => ?_)
  refine l_pure 1 (fun L => (6, .slice A8 (((List.map Stp.can (List.take i (stepsP x n))) ++ ([s1.can] : List Int)).length) c9) :: L) F (by kernel_rfl) fun a F => ?_
  refine l_nil (inb_n ?_)
  refine then_n ?_
  refine wp_region_list ?_
  refine l_do F rfl rfl (op_pure F (v0 := .int .i64 (IntKind.wrap .i64 ((i : Nat) + 1))) (v := .int .i64 (i + 1 : Nat)) (by kernel_rfl) (wrn_i64 (by omega) (by omega) (by omega)) fun a F => ?_)
  refine l_pure 1 (fun L => (13, .int .i64 (i + 1 : Nat)) :: L) F (by kernel_rfl) fun a F => ?_
  refine l_then ?_
  have hcn : ((List.map Stp.can (List.take i (stepsP x n))) ++ ([s1.can] : List Int)) = (List.map Stp.can (List.take (i + 1) (stepsP x n))) := (can_take hs1).symm
  rw [hcn] at F S
  exact ⟨_, (by omega), i + 1, A8, c9, rfl, (by omega), F.sub ⟨by kernel_rfl, by kernel_rfl, by kernel_rfl, by kernel_rfl, trivial⟩, (S.pick [0, 1, 2, 3] (by decide))⟩
 ·
  skip
  refine l_do F rfl rfl (op_pure F (v0 := .bool (decide (((i : Nat) : Int) < (((stepsP x n).length : Nat) : Int)))) (v := .bool false) (by kernel_rfl) (lssF ht5) fun a F => ?_)
  refine l_then ?_
  refine wp_seq ?_
  refine c_f F rfl ?_
  refine wp_exit ?_
  refine then_x ?_
  refine then_x ?_
  refine inb_x ?_
  refine then_n ?_
  refine s_reg ?_
  refine l_pure 1 (fun L => (23, .slice B ((List.map Stp.can (List.take i (stepsP x n))).length) d) :: L) F (by kernel_rfl) fun a F => ?_
  have hi9 : i = (stepsP x n).length := by omega
  have hcl : (List.map Stp.can (List.take i (stepsP x n))) = canL x n := by rw [hi9, List.take_length]; rfl
  have hcu : ∀ a ∈ (List.map Stp.can (List.take i (stepsP x n))), 0 ≤ a ∧ a < 18446744073709551616 := by rw [hcl]; exact can_u ok n
  have hsv : sumP 0 (List.map Stp.can (List.take i (stepsP x n))) = sendsP x n := by rw [hcl]; rfl
  refine l_do F rfl rfl (op_fn F (by kernel_rfl) (rsum_at hsv _ B d (words_recs (Recs.ofRow (S.rowOf (i := 3) rfl) (by omega)) hcu (by omega))) ?_)
  rintro e z ⟨rfl, hw⟩
  first | subst hw | (have hw := hw.symm; subst hw)
  refine ⟨_, rfl, ?_⟩
  intro a F
  refine l_pure 4 (fun L => (5, .int .i64 ((sendsP x n).2)) :: (4, .int .u64 ((sendsP x n).1)) :: (26, .int .i64 ((sendsP x n).2)) :: (25, .int .u64 ((sendsP x n).1)) :: L) F (by kernel_rfl) fun a F => ?_
  refine l_then ?_
  refine wp_ret ?_
  exact fin F [.tmp 4, .tmp 5] [.int .u64 ((sendsP x n).1), .int .i64 ((sendsP x n).2)] rfl ⟨by kernel_rfl, by kernel_rfl, trivial⟩ (.tuple #[.int .u64 ((sendsP x n).1), .int .i64 ((sendsP x n).2)]) rfl ⟨rfl, S.below (i := 0) rfl⟩
set_option maxRecDepth 100000 in
set_option maxHeartbeats 4000000 in
theorem sends28_any (w : World) (As : Option Addr) (cs : Nat) (Ae : Option Addr) (ce : Nat) (x : Wb) (h : WebAt w As cs Ae ce x) (ok : x.Ok) (n : Int) : Calls Try.prog 52 #[.agg #[.slice As x.spots.length cs, .slice Ae x.edges.length ce], .int .i64 n] w fun e w' => e = .returned (.tuple #[.int .u64 (sendsP x n).1, .int .i64 (sendsP x n).2]) ∧ Below w.heap.size w w' := by
 refine enter 27 Try.func52 rfl rfl rfl fun a F => ?_
 have S := Sat.pushRest w
 refine s_reg ?_
 refine l_do F rfl rfl (op_box S _ _ (.agg #[.slice As x.spots.length cs, .slice Ae x.edges.length ce]) F rfl (by kernel_rfl) fun b1 z S a F => ?_)
 refine l_pure 2 (fun L => (5, .int .i64 0) :: (4, .int .u64 0) :: L) F (by kernel_rfl) fun a F => ?_
 refine l_then ?_
 refine s_reg ?_
 refine l_pure 1 (fun L => (6, .slice none 0 0) :: L) F (by kernel_rfl) fun a F => ?_
 refine l_then ?_
 refine wp_seq ?_
 refine s_reg ?_
 refine l_do F rfl rfl (op_loadK _ _ (some ⟨b1, 0, none⟩) 0 [.slice As x.spots.length cs, .slice Ae x.edges.length ce] F rfl (by kernel_rfl) (by kernel_rfl) (by kernel_rfl) (by simp) (cBoxK S 1 rfl 0 (by kernel_rfl)) (fun a F => ?_))
 refine l_pure 1 (fun L => (10, .int .i64 n) :: L) F (by kernel_rfl) fun a F => ?_
 refine l_do F rfl rfl (op_fn F (by kernel_rfl) (rsteps_any _ As cs Ae ce x (h.move S rfl) ok n) ?_)
 rintro e z ⟨A2, c3, rfl, g⟩
 have S := S.pushThings g
 refine ⟨_, rfl, ?_⟩
 intro a F
 refine l_pure 2 (fun L => (13, .int .i64 0) :: (12, .int .i64 ((stepsP x n).length : Nat)) :: L) F (by kernel_rfl) fun a F => ?_
 refine l_then ?_
 refine wp_block ?_
 refine wp_loop_m (fun m a z => ∃ (i : Nat) (B : Option Addr) (d : Nat), m = (stepsP x n).length - i ∧ (i ≤ (stepsP x n).length) ∧ Fr a 27 [(6, .slice B ((List.map Stp.can (List.take i (stepsP x n))).length) d), (11, .slice A2 ((stepsP x n).length) c3), (12, .int .i64 ((stepsP x n).length : Nat)), (13, .int .i64 (i : Nat))] ∧ Sat w z [rest w (· < w.heap.size), box b1 25 [.slice As x.spots.length cs, .slice Ae x.edges.length ce], row 126 5 (.slice A2 ((stepsP x n).length) c3) ((stepsP x n).length) ((stepsP x n).flatMap stC), row 26 1 (.slice B ((List.map Stp.can (List.take i (stepsP x n))).length) d) ((List.map Stp.can (List.take i (stepsP x n))).length) ((List.map Stp.can (List.take i (stepsP x n))).flatMap iC_u64)]) _ ⟨0, none, 0, rfl, Nat.zero_le _, F.sub ⟨by kernel_rfl, by kernel_rfl, by kernel_rfl, by kernel_rfl, trivial⟩, (S.nilRow 26 1)⟩ ?_
 rintro m a z ⟨i, B, d, hm, hf4, F, S⟩
 have hfew := steps_few x n
 have hml : (List.map Stp.can (List.take i (stepsP x n))).length ≤ 16 := by rw [List.length_map, List.length_take]; omega
 refine s_reg ?_
 by_cases ht5 : ((i : Nat) : Int) < (((stepsP x n).length : Nat) : Int)
 ·
  skip
  obtain ⟨s1, hs1⟩ : ∃ s1, (stepsP x n)[i]? = some s1 := ⟨_, List.getElem?_eq_getElem (by omega)⟩
  refine l_do F rfl rfl (op_pure F (v0 := .bool (decide (((i : Nat) : Int) < (((stepsP x n).length : Nat) : Int)))) (v := .bool true) (by kernel_rfl) (lssT ht5) fun a F => ?_)
  refine l_then ?_
  refine wp_seq ?_
  refine c_t F rfl ?_
  refine wp_skip ?_
  refine then_n ?_
  refine wp_seq ?_
  refine wp_block ?_
  refine s_reg ?_
  refine l_do F rfl rfl (op_index _ 126 _ _ A2 ((stepsP x n).length) c3 i 5 .i64 F rfl (by kernel_rfl) (by kernel_rfl) (by kernel_rfl) (by kernel_rfl) (get_lt hs1) (row_some S 2 rfl (m := i) (get_lt hs1)) (fun a F => ?_))
  refine l_do F rfl rfl (op_loadK _ _ A2 (i * 5) [.int .i64 s1.edge, .int .i64 s1.to, .int .u64 s1.can, .int .u64 s1.base, .int .u64 s1.rate] F rfl (by kernel_rfl) (by kernel_rfl) (by kernel_rfl) (by simp) (cRecK0 S 2 stC_len rfl hs1 (by kernel_rfl)) (fun a F => ?_))
  refine l_do F rfl rfl (op_alloc S _ (.agg #[.int .i64 0, .int .i64 0, .int .u64 0, .int .u64 0, .int .u64 0]) rfl (by kernel_rfl) fun b6 z S a F => ?_)
  refine l_do F rfl rfl (op_storeB S 4 _ _ _ b6 0 (.agg #[.int .i64 s1.edge, .int .i64 s1.to, .int .u64 s1.can, .int .u64 s1.base, .int .u64 s1.rate]) F rfl rfl (by kernel_rfl) (by kernel_rfl) (by kernel_rfl) (by kernel_rfl) (by kernel_rfl) fun z S a F => ?_)
  refine l_then ?_
  refine wp_region_list ?_
  refine l_pure 2 (fun L => (18, .pointer (some ⟨b6, 2, none⟩)) :: (17, .slice B ((List.map Stp.can (List.take i (stepsP x n))).length) d) :: L) F (by kernel_rfl) fun a F => ?_
  refine l_do F rfl rfl (op_load _ _ (some ⟨b6, 0, none⟩) 2 (.int .u64 s1.can) F rfl (by kernel_rfl) (by kernel_rfl) (cBox S 4 rfl (j := 2) rfl) (fun a F => ?_))
  refine l_do F rfl rfl (op_buildSlice S _ 1 _ 26 1 iC_u64 ([s1.can] : List Int) F rfl (by kernel_rfl) (by kernel_rfl) (by kernel_rfl) (by unfold maxLen; omega) fun b7 z S a F => ?_)
  refine l_do F rfl rfl (op_append S 3 _ _ _ 26 (.int .u64 0) 1 8 (List.map Stp.can (List.take i (stepsP x n))) ([s1.can] : List Int) iC_u64 (some ⟨b7, 0, none⟩) 1 F iC_len_u64 (fun _ => rfl) rfl rfl (by kernel_rfl) (by kernel_rfl) rfl rfl rfl (by kernel_rfl) (by kernel_rfl) (row_none (S.rowOf (i := 5) rfl)) (src_row (S.rowOf (i := 5) rfl)) (by first | omega | (simp <;> omega)) fun A8 c9 z S a F => ?_)
  refine l_pure 1 (fun L => (6, .slice A8 (((List.map Stp.can (List.take i (stepsP x n))) ++ ([s1.can] : List Int)).length) c9) :: L) F (by kernel_rfl) fun a F => ?_
  refine l_nil (inb_n ?_)
  refine then_n ?_
  refine wp_region_list ?_
  refine l_do F rfl rfl (op_pure F (v0 := .int .i64 (IntKind.wrap .i64 ((i : Nat) + 1))) (v := .int .i64 (i + 1 : Nat)) (by kernel_rfl) (wrn_i64 (by omega) (by omega) (by omega)) fun a F => ?_)
  refine l_pure 1 (fun L => (13, .int .i64 (i + 1 : Nat)) :: L) F (by kernel_rfl) fun a F => ?_
  refine l_then ?_
  have hcn : ((List.map Stp.can (List.take i (stepsP x n))) ++ ([s1.can] : List Int)) = (List.map Stp.can (List.take (i + 1) (stepsP x n))) := (can_take hs1).symm
  rw [hcn] at F S
  exact ⟨_, (by omega), i + 1, A8, c9, rfl, (by omega), F.sub ⟨by kernel_rfl, by kernel_rfl, by kernel_rfl, by kernel_rfl, trivial⟩, (S.pick [0, 1, 2, 3] (by decide))⟩
 ·
  skip
  refine l_do F rfl rfl (op_pure F (v0 := .bool (decide (((i : Nat) : Int) < (((stepsP x n).length : Nat) : Int)))) (v := .bool false) (by kernel_rfl) (lssF ht5) fun a F => ?_)
  refine l_then ?_
  refine wp_seq ?_
  refine c_f F rfl ?_
  refine wp_exit ?_
  refine then_x ?_
  refine then_x ?_
  refine inb_x ?_
  refine then_n ?_
  refine s_reg ?_
  refine l_pure 1 (fun L => (23, .slice B ((List.map Stp.can (List.take i (stepsP x n))).length) d) :: L) F (by kernel_rfl) fun a F => ?_
  have hi9 : i = (stepsP x n).length := by omega
  have hcl : (List.map Stp.can (List.take i (stepsP x n))) = canL x n := by rw [hi9, List.take_length]; rfl
  have hcu : ∀ a ∈ (List.map Stp.can (List.take i (stepsP x n))), 0 ≤ a ∧ a < 18446744073709551616 := by rw [hcl]; exact can_u ok n
  have hsv : sumP 0 (List.map Stp.can (List.take i (stepsP x n))) = sendsP x n := by rw [hcl]; rfl
  refine l_do F rfl rfl (op_fn F (by kernel_rfl) (rsum_at hsv _ B d (words_recs (Recs.ofRow (S.rowOf (i := 3) rfl) (by omega)) hcu (by omega))) ?_)
  rintro e z ⟨rfl, hw⟩
  first | subst hw | (have hw := hw.symm; subst hw)
  refine ⟨_, rfl, ?_⟩
  intro a F
  refine l_pure 4 (fun L => (5, .int .i64 ((sendsP x n).2)) :: (4, .int .u64 ((sendsP x n).1)) :: (26, .int .i64 ((sendsP x n).2)) :: (25, .int .u64 ((sendsP x n).1)) :: L) F (by kernel_rfl) fun a F => ?_
  refine l_then ?_
  refine wp_ret ?_
  exact fin F [.tmp 4, .tmp 5] [.int .u64 ((sendsP x n).1), .int .i64 ((sendsP x n).2)] rfl ⟨by kernel_rfl, by kernel_rfl, trivial⟩ (.tuple #[.int .u64 ((sendsP x n).1), .int .i64 ((sendsP x n).2)]) rfl ⟨rfl, S.below (i := 0) rfl⟩
end Go.Proofs.Ytcfpbemoocegfaa
