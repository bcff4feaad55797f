/- Walk over the law FlowCuts. -/
import Derived.Test.YtcfpbemoocegfaaDoc27
import Derived.Test.YtcfpbemoocegfaaGoes27
namespace Go.Proofs.Ytcfpbemoocegfaa
set_option linter.unusedVariables false
set_option linter.unusedSimpArgs false
set_option linter.unnecessarySimpa false
section
variable {P : Program} {a : Act} {n : Nat} {L : List (Nat × Value)} {o : Oper} {w : World} {R : Value → World → Prop}
/-- A shift to the left. -/
theorem op_shl (T T' : TypeId) (x y : Operand) (k k' : IntKind) (p : Int) (q : Nat) {v : Int} (F : Fr a n L) (ho : o.op = .binOp .shl T x y T') (hx : val? L x = some (.int k p)) (hy : val? L y = some (.int k' (q : Int))) (hq : q ≤ k.bits) (hv : k.wrap (p * 2 ^ q) = v) (hR : R (.int k v) w) : OpR P a w o R := by
  refine op_run (v := .int k v) (w' := w) ?_ hR
  unfold execOp
  simp only [ho, F.val hx, F.val hy]
  subst hv
  have h1 : ¬ ((q : Int) < 0) := by omega
  simp [eqGuard, binOp, Op.shift, h1, Nat.min_eq_left hq]
end
open Go Go.RowKit

theorem upsF_app : ∀ (l m : List Int) (i : Nat), upsF i (l ++ m) = upsF i l ++ upsF (i + l.length) m
  | [], m, i => by simp [upsF]
  | a :: l, m, i => by
    simp only [List.cons_append, upsF]
    rw [upsF_app l m (i + 1), List.append_assoc, show i + 1 + l.length = i + (a :: l).length from by simp; omega]
theorem ups_yes {b : List Int} {k : Nat} (h : come b (k : Int) = true) : upsTo b (k + 1) = upsTo b k ++ [(k : Int)] := by
  obtain ⟨q, hq, h0⟩ := come_iff.1 h
  rw [ups_snoc hq, if_pos h0]
theorem ups_no {b : List Int} {k : Nat} (hk : k < b.length) (h : come b (k : Int) = false) : upsTo b (k + 1) = upsTo b k := by
  have hq : b[k]? = some b[k] := List.getElem?_eq_getElem hk
  rw [ups_snoc hq, if_neg]
  · simp
  · intro h0
    rw [come_iff.2 ⟨_, hq, h0⟩] at h; cases h
theorem ups_at {b : List Int} {k : Nat} (h : come b (k : Int) = true) : (upsTo b b.length)[(upsTo b k).length]? = some (k : Int) := by
  have h1 : upsTo b b.length = upsTo b (k + 1) ++ upsF (0 + (b.take (k + 1)).length) (b.drop (k + 1)) := by
    unfold upsTo
    rw [List.take_length, ← upsF_app, List.take_append_drop]
  rw [h1, ups_yes h]
  simp
/-- The set of the nodes of a list, node by node. -/
def setIn (N : List Int) (k j : Nat) : Nat := if inL (N.take j) (k : Int) = true then 2 ^ k + setOf (inL N) k else setOf (inL N) k
theorem setIn_zero (N : List Int) (k : Nat) : setIn N k 0 = setOf (inL N) k := by unfold setIn inL; simp
theorem setIn_end (N : List Int) (k : Nat) : setIn N k N.length = setOf (inL N) (k + 1) := by unfold setIn; rw [List.take_length]; rfl
theorem setIn_lt (N : List Int) (k j : Nat) : setIn N k j < 2 ^ (k + 1) := by
  have h := setOf_lt (inL N) k
  unfold setIn
  rw [Nat.pow_succ]
  split <;> omega
theorem setIn_bit (N : List Int) (k j : Nat) : setT (setIn N k j) (k : Int) = inL (N.take j) (k : Int) := by
  rw [setT_nat]
  have h : (setOf (inL N) k).testBit k = false := by rw [setOf_bit]; simp
  unfold setIn
  cases hb : inL (N.take j) (k : Int) with
  | true => rw [if_pos rfl, Nat.testBit_two_pow_add_eq, h]; rfl
  | false => rw [if_neg (by decide), h]
theorem inL_next {N : List Int} {j : Nat} {m : Int} (hm : N[j]? = some m) (v : Int) : inL (N.take (j + 1)) v = (inL (N.take j) v || decide (m = v)) := by
  unfold inL
  rw [List.take_add_one, hm]
  by_cases h1 : v ∈ N.take j
  · simp [h1]
  · by_cases h2 : m = v
    · subst h2; simp
    · simp [h1, h2, Ne.symm h2]
theorem setIn_more {N : List Int} {k j : Nat} {m : Int} (hm : N[j]? = some m) (he : m = (k : Int)) (hb : setT (setIn N k j) (k : Int) = false) : setIn N k j + 2 ^ k = setIn N k (j + 1) := by
  rw [setIn_bit] at hb
  unfold setIn
  rw [inL_next hm, hb]
  simp [he]; omega
theorem setIn_same {N : List Int} {k j : Nat} {m : Int} (hm : N[j]? = some m) (h : ¬ m = (k : Int) ∨ setT (setIn N k j) (k : Int) = true) : setIn N k j = setIn N k (j + 1) := by
  rw [setIn_bit] at h
  unfold setIn
  rw [inL_next hm]
  rcases h with h | h
  · simp [h]
  · simp [h]
theorem shl_one {k : Nat} (hk : k ≤ 20) : IntKind.wrap .i64 ((1 : Int) * 2 ^ k) = ((2 ^ k : Nat) : Int) := by
  have h : 2 ^ k ≤ 2 ^ 20 := Nat.pow_le_pow_right (by omega) hk
  rw [Int.one_mul, show (2 : Int) ^ k = ((2 ^ k : Nat) : Int) from by simp]
  have hz : (0 : Int) ≤ ((2 ^ k : Nat) : Int) := Int.natCast_nonneg _
  have := wr_i64 (n := ((2 ^ k : Nat) : Int)) (by omega) (by omega)
  injection this
theorem cut_err {x : Wb} {from_ to : Int} {L : List Int} (h : CutOk x from_ to L) (hr : frightP x from_ to = 0) : ∃ (fr t : Nat) (y : Wb) (n : Int) (b : List Int), from_ = (fr : Int) ∧ to = (t : Int) ∧ FlowAt x y fr t n ∧ RchOk x y fr b ∧ come b (t : Int) = false ∧ L = upsTo b b.length := by
  rcases h with ⟨h, _⟩ | ⟨_, h⟩
  · exact absurd hr h
  · exact h

set_option maxRecDepth 100000 in
set_option maxHeartbeats 4000000 in
theorem fcuts_law (w : World) (As : Option Addr) (cs : Nat) (Ae : Option Addr) (ce : Nat) (x : Wb) (h : WebAt w As cs Ae ce x) (ok : x.Ok) (from_ to : Int) (An : Option Addr) (cn : Nat) (N : List Int) (hN : Recs 1 iC_i64 w An cn N) : Calls Try.prog 9 #[.agg #[.slice As x.spots.length cs, .slice Ae x.edges.length ce], .int .i64 from_, .int .i64 to, .slice An N.length cn] w fun e w' => e = .returned (.bool true) ∧ Below w.heap.size w w' := by
 refine enter 163 Try.func9 rfl rfl rfl fun a F => ?_
 have S := Sat.pushRest w
 refine s_reg ?_
 refine l_do F rfl rfl (op_box S _ _ (.agg #[.slice As x.spots.length cs, .slice Ae x.edges.length ce]) F rfl (by kernel_rfl) fun b1 z S a F => ?_)
 refine l_pure 1 (fun L => (8, .bool false) :: L) F (by kernel_rfl) fun a F => ?_
 refine l_then ?_
 refine wp_seq ?_
 refine s_reg ?_
 refine l_do F rfl rfl (op_loadK _ _ (some ⟨b1, 0, none⟩) 0 [.slice As x.spots.length cs, .slice Ae x.edges.length ce] F rfl (by kernel_rfl) (by kernel_rfl) (by kernel_rfl) (by simp) (cBoxK S 1 rfl 0 (by kernel_rfl)) (fun a F => ?_))
 cases hb2 : (lightP x) with
 | false =>
  refine l_do F rfl rfl (op_fn F (by kernel_rfl) (light_any _ As cs Ae ce x) ?_)
  rintro e z ⟨rfl, hb⟩
  have S := S.grow hb
  refine ⟨_, rfl, ?_⟩
  rw [hb2]
  intro a F
  refine l_pure 6 (fun L => (31, .bool true) :: (30, undef) :: (29, undef) :: (28, undef) :: (27, .bool true) :: (26, .bool true) :: L) F (by kernel_rfl) fun a F => ?_
  refine l_then ?_
  refine c_t F rfl ?_
  refine s_reg ?_
  refine l_do F rfl rfl (op_fn F (by kernel_rfl) (awake27_any _) ?_)
  rintro e z ⟨rfl, hb⟩
  have S := S.grow hb
  refine ⟨_, rfl, ?_⟩
  intro a F
  refine l_pure 1 (fun L => (8, .bool true) :: L) F (by kernel_rfl) fun a F => ?_
  refine l_then ?_
  refine wp_ret ?_
  refine then_r (?_)
  exact fin F [.tmp 8] [.bool true] rfl ⟨by kernel_rfl, trivial⟩ (.bool true) rfl ⟨rfl, S.below (i := 0) rfl⟩
 | true =>
  obtain ⟨l1, l2, l3, l4⟩ := light_small hb2
  refine l_do F rfl rfl (op_fn F (by kernel_rfl) (light_any _ As cs Ae ce x) ?_)
  rintro e z ⟨rfl, hb⟩
  have S := S.grow hb
  refine ⟨_, rfl, ?_⟩
  rw [hb2]
  intro a F
  refine l_pure 4 (fun L => (29, .int .i64 (N.length : Nat)) :: (28, .slice An N.length cn) :: (27, .bool false) :: (26, .bool false) :: L) F (by kernel_rfl) fun a F => ?_
  by_cases ht3 : (60 : Int) < ((N.length : Nat) : Int)
  ·
   skip
   refine l_do F rfl rfl (op_pure F (v0 := .bool (decide (((N.length : Nat) : Int) > (60 : Int)))) (v := .bool true) (by kernel_rfl) (gtrT ht3) fun a F => ?_)
   refine l_pure 1 (fun L => (31, .bool true) :: L) F (by kernel_rfl) fun a F => ?_
   refine l_then ?_
   refine c_t F rfl ?_
   refine s_reg ?_
   refine l_do F rfl rfl (op_fn F (by kernel_rfl) (awake27_any _) ?_)
   rintro e z ⟨rfl, hb⟩
   have S := S.grow hb
   refine ⟨_, rfl, ?_⟩
   intro a F
   refine l_pure 1 (fun L => (8, .bool true) :: L) F (by kernel_rfl) fun a F => ?_
   refine l_then ?_
   refine wp_ret ?_
   refine then_r (?_)
   exact fin F [.tmp 8] [.bool true] rfl ⟨by kernel_rfl, trivial⟩ (.bool true) rfl ⟨rfl, S.below (i := 0) rfl⟩
  ·
   skip
   refine l_do F rfl rfl (op_pure F (v0 := .bool (decide (((N.length : Nat) : Int) > (60 : Int)))) (v := .bool false) (by kernel_rfl) (gtrF ht3) fun a F => ?_)
   refine l_pure 1 (fun L => (31, .bool false) :: L) F (by kernel_rfl) fun a F => ?_
   refine l_then ?_
   refine c_f F rfl ?_
   refine wp_skip ?_
   refine then_n ?_
   refine s_reg ?_
   refine l_do F rfl rfl (op_loadK _ _ (some ⟨b1, 0, none⟩) 0 [.slice As x.spots.length cs, .slice Ae x.edges.length ce] F rfl (by kernel_rfl) (by kernel_rfl) (by kernel_rfl) (by simp) (cBoxK S 1 rfl 0 (by kernel_rfl)) (fun a F => ?_))
   refine l_do F rfl rfl (op_fn F (by kernel_rfl) (to_any _ As cs Ae ce x (h.move S rfl) ok ⟨l1, l2⟩) ?_)
   rintro e z ⟨A4, c5, A6, c7, rfl, g⟩
   have S := S.pushThings g
   refine ⟨_, rfl, ?_⟩
   intro a F
   refine l_pure 2 (fun L => (37, .int .i64 to) :: (36, .int .i64 from_) :: L) F (by kernel_rfl) fun a F => ?_
   refine l_do F rfl rfl (op_fn F (by kernel_rfl) (cut27_any _ A4 c5 A6 c7 x (WebAt.ofNew (x := x) (w := w) S (i := 2) (j := 3) rfl rfl ⟨l1, l2⟩) ok (by omega) (by omega) from_ to) ?_)
   rintro e z ⟨Ac, cc, Lc, rfl, hcut, g⟩
   have S := S.pushThings g
   refine ⟨_, rfl, ?_⟩
   intro a F
   refine l_pure 5 (fun L => (10, .int .i64 (frightP x from_ to)) :: (9, .slice Ac Lc.length cc) :: (40, .int .i64 (frightP x from_ to)) :: (39, .slice Ac Lc.length cc) :: (33, .tuple #[.slice Ac Lc.length cc, .int .i64 (frightP x from_ to)]) :: L) F (by kernel_rfl) fun a F => ?_
   refine l_then ?_
   refine s_reg ?_
   refine l_do F rfl rfl (op_loadK _ _ (some ⟨b1, 0, none⟩) 0 [.slice As x.spots.length cs, .slice Ae x.edges.length ce] F rfl (by kernel_rfl) (by kernel_rfl) (by kernel_rfl) (by simp) (cBoxK S 1 rfl 0 (by kernel_rfl)) (fun a F => ?_))
   refine l_pure 2 (fun L => (43, .int .i64 to) :: (42, .int .i64 from_) :: L) F (by kernel_rfl) fun a F => ?_
   refine l_do F rfl rfl (op_fn F (by kernel_rfl) (rfright_any _ As cs Ae ce x (h.move S rfl) ok (by omega) from_ to) ?_)
   rintro e z ⟨rfl, hb⟩
   have S := S.grow hb
   refine ⟨_, rfl, ?_⟩
   intro a F
   refine l_pure 1 (fun L => (11, .int .i64 (frightP x from_ to)) :: L) F (by kernel_rfl) fun a F => ?_
   refine l_then ?_
   refine wp_seq ?_
   refine s_reg ?_
   refine l_pure 2 (fun L => (46, .int .i64 (frightP x from_ to)) :: (45, .int .i64 (frightP x from_ to)) :: L) F (by kernel_rfl) fun a F => ?_
   refine l_do F rfl rfl (op_pure F (v0 := .bool ((frightP x from_ to : Int) != (frightP x from_ to : Int))) (v := .bool false) (by kernel_rfl) (neqF rfl) fun a F => ?_)
   refine l_then ?_
   refine c_f F rfl ?_
   refine wp_skip ?_
   refine then_n ?_
   refine wp_seq ?_
   refine s_reg ?_
   refine l_pure 1 (fun L => (48, .int .i64 (frightP x from_ to)) :: L) F (by kernel_rfl) fun a F => ?_
   by_cases ht8 : (frightP x from_ to : Int) = (0 : Int)
   ·
    skip
    have hr := ht8
    obtain ⟨hc, ⟨fr, t, hq1, hq2, hfr, ht, hne⟩, hal, hho, hsum⟩ := fright_zero ok hr
    obtain ⟨fr', t', y, nf, b, hq3, hq4, hflow, hrch, hto, hLc⟩ := cut_err hcut hr
    subst hq1
    subst hq2
    obtain rfl : fr = fr' := by omega
    obtain rfl : t = t' := by omega
    have hbl := hrch.len
    have hck := hc
    have hal9 := hal
    refine l_do F rfl rfl (op_pure F (v0 := .bool ((frightP x (fr : Nat) (t : Nat) : Int) == (0 : Int))) (v := .bool true) (by kernel_rfl) (eqlT hr) fun a F => ?_)
    refine l_then ?_
    refine c_t F rfl ?_
    refine s_reg ?_
    refine l_do F rfl rfl (op_loadK _ _ (some ⟨b1, 0, none⟩) 0 [.slice As x.spots.length cs, .slice Ae x.edges.length ce] F rfl (by kernel_rfl) (by kernel_rfl) (by kernel_rfl) (by simp) (cBoxK S 1 rfl 0 (by kernel_rfl)) (fun a F => ?_))
    refine l_pure 2 (fun L => (53, .int .i64 (t : Nat)) :: (52, .int .i64 (fr : Nat)) :: L) F (by kernel_rfl) fun a F => ?_
    refine l_do F rfl rfl (op_fn F (by kernel_rfl) (rmost_any _ As cs Ae ce x (h.move S rfl) ok (by omega) hc hho fr t hfr ht) ?_)
    rintro e z ⟨best, nodes, many, rfl, hms, hb⟩
    have S := S.grow hb
    have hbits := cut_least hc hfr ht hne hms hflow hrch hto
    have hnd : nodes ≤ 1048576 := by have h9 := (mostS_end hc hfr ht hne hms).1; have h8 : 2 ^ x.spots.length ≤ 2 ^ 20 := Nat.pow_le_pow_right (by omega) (by omega); omega
    refine ⟨_, rfl, ?_⟩
    intro a F
    refine l_pure 5 (fun L => (13, .int .i64 (nodes : Nat)) :: (12, .int .u64 best) :: (56, .int .i64 (nodes : Nat)) :: (55, .int .u64 best) :: (50, .tuple #[.int .u64 best, .int .i64 (nodes : Nat)]) :: L) F (by kernel_rfl) fun a F => ?_
    refine l_then ?_
    refine s_reg ?_
    refine l_pure 1 (fun L => (14, .int .i64 0) :: L) F (by kernel_rfl) fun a F => ?_
    refine l_then ?_
    refine wp_seq ?_
    refine s_reg ?_
    refine l_pure 1 (fun L => (57, .pointer (some ⟨b1, 0, none⟩)) :: L) F (by kernel_rfl) fun a F => ?_
    refine l_do F rfl rfl (op_load _ _ (some ⟨b1, 0, none⟩) 0 (.slice As x.spots.length cs) F rfl (by kernel_rfl) (by kernel_rfl) (cBox S 1 rfl (j := 0) rfl) (fun a F => ?_))
    refine l_pure 2 (fun L => (60, .int .i64 0) :: (59, .int .i64 (x.spots.length : Nat)) :: L) F (by kernel_rfl) fun a F => ?_
    refine l_then ?_
    refine wp_block ?_
    refine wp_loop_m (fun m a z => ∃ (k : Nat), m = x.spots.length - k ∧ (k ≤ x.spots.length) ∧ Fr a 163 [(3, .slice An N.length cn), (4, .pointer (some ⟨b1, 0, none⟩)), (9, .slice Ac Lc.length cc), (13, .int .i64 (nodes : Nat)), (14, .int .i64 ((upsTo b k).length : Nat)), (59, .int .i64 (x.spots.length : Nat)), (60, .int .i64 (k : Nat))] ∧ Sat w z [rest w (· < w.heap.size), box b1 25 [.slice As x.spots.length cs, .slice Ae x.edges.length ce], row 107 2 (.slice A4 x.spots.length c5) x.spots.length (x.spots.flatMap spC), row 62 8 (.slice A6 x.edges.length c7) x.edges.length (x.edges.flatMap edC), row 3 1 (.slice Ac Lc.length cc) Lc.length (Lc.flatMap iC_i64)]) _ ⟨0, rfl, Nat.zero_le _, F.sub ⟨by kernel_rfl, by kernel_rfl, by kernel_rfl, by kernel_rfl, by kernel_rfl, by kernel_rfl, by kernel_rfl, trivial⟩, S⟩ ?_
    rintro m a z ⟨k, hm, hf9, F, S⟩
    have hul := ups_len b k
    refine s_reg ?_
    by_cases ht10 : ((k : Nat) : Int) < ((x.spots.length : Nat) : Int)
    ·
     skip
     refine l_do F rfl rfl (op_pure F (v0 := .bool (decide (((k : Nat) : Int) < ((x.spots.length : Nat) : Int)))) (v := .bool true) (by kernel_rfl) (lssT ht10) fun a F => ?_)
     refine l_then ?_
     refine wp_seq ?_
     refine c_t F rfl ?_
     refine wp_skip ?_
     refine then_n ?_
     refine wp_seq ?_
     refine wp_block ?_
     refine s_reg ?_
     refine l_pure 2 (fun L => (15, .int .i64 (k : Nat)) :: (62, .int .i64 (k : Nat)) :: L) F (by kernel_rfl) fun a F => ?_
     refine l_then ?_
     refine wp_seq ?_
     refine s_reg ?_
     refine l_pure 2 (fun L => (64, .int .i64 (k : Nat)) :: (63, .int .i64 (nodes : Nat)) :: L) F (by kernel_rfl) fun a F => ?_
     cases hb11 : (setT nodes (k : Nat)) with
     | false =>
      have hcm := hb11
      rw [setT_nat, hbits k (by omega)] at hcm
      refine l_do F rfl rfl (op_fn F (by kernel_rfl) (in_any _ nodes (k : Nat) (by omega) (by omega) (by omega)) ?_)
      rintro e z ⟨rfl, hb⟩
      have S := S.grow hb
      refine ⟨_, rfl, ?_⟩
      rw [hb11]
      intro a F
      refine l_pure 1 (fun L => (66, .bool true) :: L) F (by kernel_rfl) fun a F => ?_
      refine l_then ?_
      refine c_t F rfl ?_
      refine wp_exit ?_
      refine then_x ?_
      refine inb_x ?_
      refine then_n ?_
      refine wp_region_list ?_
      refine l_do F rfl rfl (op_pure F (v0 := .int .i64 (IntKind.wrap .i64 ((k : Nat) + 1))) (v := .int .i64 (k + 1 : Nat)) (by kernel_rfl) (wrn_i64 (by omega) (by omega) (by omega)) fun a F => ?_)
      refine l_pure 1 (fun L => (60, .int .i64 (k + 1 : Nat)) :: L) F (by kernel_rfl) fun a F => ?_
      refine l_then ?_
      have hsn : (upsTo b k).length = (upsTo b (k + 1)).length := by rw [ups_no (by omega) hcm]
      rw [hsn] at F
      exact ⟨_, (by omega), k + 1, rfl, (by omega), F.sub ⟨by kernel_rfl, by kernel_rfl, by kernel_rfl, by kernel_rfl, by kernel_rfl, by kernel_rfl, by kernel_rfl, trivial⟩, S⟩
     | true =>
      have hcm := hb11
      rw [setT_nat, hbits k (by omega)] at hcm
      have hat := ups_at hcm
      rw [← hLc] at hat
      have hatl := get_lt hat
      refine l_do F rfl rfl (op_fn F (by kernel_rfl) (in_any _ nodes (k : Nat) (by omega) (by omega) (by omega)) ?_)
      rintro e z ⟨rfl, hb⟩
      have S := S.grow hb
      refine ⟨_, rfl, ?_⟩
      rw [hb11]
      intro a F
      refine l_pure 1 (fun L => (66, .bool false) :: L) F (by kernel_rfl) fun a F => ?_
      refine l_then ?_
      refine c_f F rfl ?_
      refine wp_skip ?_
      refine then_n ?_
      refine wp_seq ?_
      refine s_reg ?_
      refine l_pure 3 (fun L => (69, .int .i64 (Lc.length : Nat)) :: (68, .slice Ac Lc.length cc) :: (67, .int .i64 ((upsTo b k).length : Nat)) :: L) F (by kernel_rfl) fun a F => ?_
      refine l_do F rfl rfl (op_pure F (v0 := .bool (decide ((((upsTo b k).length : Nat) : Int) ≥ ((Lc.length : Nat) : Int)))) (v := .bool false) (by kernel_rfl) (geqF (by omega)) fun a F => ?_)
      refine l_pure 3 (fun L => (73, .int .i64 ((upsTo b k).length : Nat)) :: (72, .slice Ac Lc.length cc) :: (71, .bool false) :: L) F (by kernel_rfl) fun a F => ?_
      refine l_do F rfl rfl (op_index _ 3 _ _ Ac Lc.length cc ((upsTo b k).length) 1 .i64 F rfl (by kernel_rfl) (by kernel_rfl) (by kernel_rfl) (by kernel_rfl) (get_lt hat) (row_some S 4 rfl (m := (upsTo b k).length) (get_lt hat)) (fun a F => ?_))
      refine l_do F rfl rfl (op_load _ _ Ac (((upsTo b k).length) * 1) (.int .i64 (k : Nat)) F rfl (by kernel_rfl) (by kernel_rfl) (cRec S 4 iC_len_i64 rfl 0 hat rfl) (fun a F => ?_))
      refine l_pure 1 (fun L => (76, .int .i64 (k : Nat)) :: L) F (by kernel_rfl) fun a F => ?_
      refine l_do F rfl rfl (op_pure F (v0 := .bool (((k : Nat) : Int) != ((k : Nat) : Int))) (v := .bool false) (by kernel_rfl) (neqF rfl) fun a F => ?_)
      refine l_pure 1 (fun L => (78, .bool false) :: L) F (by kernel_rfl) fun a F => ?_
      refine l_then ?_
      refine c_f F rfl ?_
      refine wp_skip ?_
      refine then_n ?_
      refine wp_region_list ?_
      refine l_pure 1 (fun L => (79, .int .i64 ((upsTo b k).length : Nat)) :: L) F (by kernel_rfl) fun a F => ?_
      refine l_do F rfl rfl (op_pure F (v0 := .int .i64 (IntKind.wrap .i64 (((upsTo b k).length : Nat) + 1))) (v := .int .i64 ((upsTo b k).length + 1 : Nat)) (by kernel_rfl) (wrn_i64 (by omega) (by omega) (by omega)) fun a F => ?_)
      refine l_pure 1 (fun L => (14, .int .i64 ((upsTo b k).length + 1 : Nat)) :: L) F (by kernel_rfl) fun a F => ?_
      refine l_nil (inb_n ?_)
      refine then_n ?_
      refine wp_region_list ?_
      refine l_do F rfl rfl (op_pure F (v0 := .int .i64 (IntKind.wrap .i64 ((k : Nat) + 1))) (v := .int .i64 (k + 1 : Nat)) (by kernel_rfl) (wrn_i64 (by omega) (by omega) (by omega)) fun a F => ?_)
      refine l_pure 1 (fun L => (60, .int .i64 (k + 1 : Nat)) :: L) F (by kernel_rfl) fun a F => ?_
      refine l_then ?_
      have hsn : (upsTo b k).length + 1 = (upsTo b (k + 1)).length := by rw [ups_yes hcm]; simp
      rw [hsn] at F
      exact ⟨_, (by omega), k + 1, rfl, (by omega), F.sub ⟨by kernel_rfl, by kernel_rfl, by kernel_rfl, by kernel_rfl, by kernel_rfl, by kernel_rfl, by kernel_rfl, trivial⟩, S⟩
    ·
     skip
     have hk : k = b.length := by omega
     have hLl : Lc.length = (upsTo b k).length := by rw [hLc, hk]
     refine l_do F rfl rfl (op_pure F (v0 := .bool (decide (((k : Nat) : Int) < ((x.spots.length : Nat) : Int)))) (v := .bool false) (by kernel_rfl) (lssF ht10) fun a F => ?_)
     refine l_then ?_
     refine wp_seq ?_
     refine c_f F rfl ?_
     refine wp_exit ?_
     refine then_x ?_
     refine then_x ?_
     refine inb_x ?_
     refine then_n ?_
     refine s_reg ?_
     refine l_pure 3 (fun L => (84, .int .i64 (Lc.length : Nat)) :: (83, .slice Ac Lc.length cc) :: (82, .int .i64 ((upsTo b k).length : Nat)) :: L) F (by kernel_rfl) fun a F => ?_
     refine l_do F rfl rfl (op_pure F (v0 := .bool ((((upsTo b k).length : Nat) : Int) != ((Lc.length : Nat) : Int))) (v := .bool false) (by kernel_rfl) (neqF (by omega)) fun a F => ?_)
     refine l_then ?_
     refine c_f F rfl ?_
     refine wp_skip ?_
     refine then_n ?_
     refine s_reg ?_
     refine l_pure 1 (fun L => (16, .int .i64 0) :: L) F (by kernel_rfl) fun a F => ?_
     refine l_then ?_
     refine wp_seq ?_
     refine s_reg ?_
     refine l_pure 1 (fun L => (86, .pointer (some ⟨b1, 0, none⟩)) :: L) F (by kernel_rfl) fun a F => ?_
     refine l_do F rfl rfl (op_load _ _ (some ⟨b1, 0, none⟩) 0 (.slice As x.spots.length cs) F rfl (by kernel_rfl) (by kernel_rfl) (cBox S 1 rfl (j := 0) rfl) (fun a F => ?_))
     refine l_pure 2 (fun L => (89, .int .i64 0) :: (88, .int .i64 (x.spots.length : Nat)) :: L) F (by kernel_rfl) fun a F => ?_
     refine l_then ?_
     refine wp_block ?_
     refine wp_loop_m (fun m a z => ∃ (k2 : Nat), m = x.spots.length - k2 ∧ (k2 ≤ x.spots.length) ∧ Fr a 163 [(3, .slice An N.length cn), (4, .pointer (some ⟨b1, 0, none⟩)), (16, .int .i64 (setOf (inL N) k2 : Nat)), (88, .int .i64 (x.spots.length : Nat)), (89, .int .i64 (k2 : Nat))] ∧ Sat w z [rest w (· < w.heap.size), box b1 25 [.slice As x.spots.length cs, .slice Ae x.edges.length ce], row 107 2 (.slice A4 x.spots.length c5) x.spots.length (x.spots.flatMap spC), row 62 8 (.slice A6 x.edges.length c7) x.edges.length (x.edges.flatMap edC), row 3 1 (.slice Ac Lc.length cc) Lc.length (Lc.flatMap iC_i64)]) _ ⟨0, rfl, Nat.zero_le _, F.sub ⟨by kernel_rfl, by kernel_rfl, by kernel_rfl, by kernel_rfl, by kernel_rfl, trivial⟩, S⟩ ?_
     rintro m a z ⟨k2, hm, hf12, F, S⟩
     refine s_reg ?_
     by_cases ht13 : ((k2 : Nat) : Int) < ((x.spots.length : Nat) : Int)
     ·
      skip
      have hp2 : 2 ^ k2 ≤ 2 ^ 20 := Nat.pow_le_pow_right (by omega) (by omega)
      have hz2 : (0 : Int) ≤ ((2 ^ k2 : Nat) : Int) := Int.natCast_nonneg _
      refine l_do F rfl rfl (op_pure F (v0 := .bool (decide (((k2 : Nat) : Int) < ((x.spots.length : Nat) : Int)))) (v := .bool true) (by kernel_rfl) (lssT ht13) fun a F => ?_)
      refine l_then ?_
      refine wp_seq ?_
      refine c_t F rfl ?_
      refine wp_skip ?_
      refine then_n ?_
      refine wp_seq ?_
      refine wp_block ?_
      refine s_reg ?_
      refine l_pure 2 (fun L => (17, .int .i64 (k2 : Nat)) :: (91, .int .i64 (k2 : Nat)) :: L) F (by kernel_rfl) fun a F => ?_
      refine l_then ?_
      refine s_reg ?_
      refine l_pure 3 (fun L => (94, .int .i64 0) :: (93, .int .i64 (N.length : Nat)) :: (92, .slice An N.length cn) :: L) F (by kernel_rfl) fun a F => ?_
      refine l_then ?_
      refine wp_block ?_
      rw [← setIn_zero N k2] at F
      refine wp_loop_m (fun m a z => ∃ (j : Nat), m = N.length - j ∧ (j ≤ N.length) ∧ Fr a 163 [(3, .slice An N.length cn), (4, .pointer (some ⟨b1, 0, none⟩)), (16, .int .i64 (setIn N k2 j : Nat)), (17, .int .i64 (k2 : Nat)), (88, .int .i64 (x.spots.length : Nat)), (89, .int .i64 (k2 : Nat)), (92, .slice An N.length cn), (93, .int .i64 (N.length : Nat)), (94, .int .i64 (j : Nat))] ∧ Sat w z [rest w (· < w.heap.size), box b1 25 [.slice As x.spots.length cs, .slice Ae x.edges.length ce], row 107 2 (.slice A4 x.spots.length c5) x.spots.length (x.spots.flatMap spC), row 62 8 (.slice A6 x.edges.length c7) x.edges.length (x.edges.flatMap edC), row 3 1 (.slice Ac Lc.length cc) Lc.length (Lc.flatMap iC_i64)]) _ ⟨0, rfl, Nat.zero_le _, F.sub ⟨by kernel_rfl, by kernel_rfl, by kernel_rfl, by kernel_rfl, by kernel_rfl, by kernel_rfl, by kernel_rfl, by kernel_rfl, by kernel_rfl, trivial⟩, S⟩ ?_
      rintro m a z ⟨j, hm, hf14, F, S⟩
      have hsi : setIn N k2 j < 2 ^ 20 := Nat.lt_of_lt_of_le (setIn_lt N k2 j) (Nat.pow_le_pow_right (n := 2) (by omega) (by omega : k2 + 1 ≤ 20))
      refine s_reg ?_
      by_cases ht15 : ((j : Nat) : Int) < ((N.length : Nat) : Int)
      ·
       skip
       obtain ⟨mj, hmj⟩ : ∃ mj, N[j]? = some mj := ⟨_, List.getElem?_eq_getElem (by omega)⟩
       refine l_do F rfl rfl (op_pure F (v0 := .bool (decide (((j : Nat) : Int) < ((N.length : Nat) : Int)))) (v := .bool true) (by kernel_rfl) (lssT ht15) fun a F => ?_)
       refine l_then ?_
       refine wp_seq ?_
       refine c_t F rfl ?_
       refine wp_skip ?_
       refine then_n ?_
       refine wp_seq ?_
       refine wp_block ?_
       refine s_reg ?_
       refine l_do F rfl rfl (op_index _ 3 _ _ An N.length cn j 1 .i64 F rfl (by kernel_rfl) (by kernel_rfl) (by kernel_rfl) (by kernel_rfl) (get_lt hmj) (recs_some hN (m := j) (get_lt hmj)) (fun a F => ?_))
       refine l_do F rfl rfl (op_load _ _ An (j * 1) (.int .i64 mj) F rfl (by kernel_rfl) (by kernel_rfl) (cOld S 0 iC_len_i64 hN rfl 0 hmj rfl) (fun a F => ?_))
       refine l_pure 1 (fun L => (19, .int .i64 mj) :: L) F (by kernel_rfl) fun a F => ?_
       refine l_then ?_
       refine s_reg ?_
       refine l_pure 2 (fun L => (99, .int .i64 (k2 : Nat)) :: (98, .int .i64 mj) :: L) F (by kernel_rfl) fun a F => ?_
       by_cases ht16 : (mj : Int) = ((k2 : Nat) : Int)
       ·
        skip
        refine l_do F rfl rfl (op_pure F (v0 := .bool ((mj : Int) == ((k2 : Nat) : Int))) (v := .bool true) (by kernel_rfl) (eqlT ht16) fun a F => ?_)
        refine l_pure 3 (fun L => (103, .int .i64 (k2 : Nat)) :: (102, .int .i64 (setIn N k2 j : Nat)) :: (101, .bool true) :: L) F (by kernel_rfl) fun a F => ?_
        cases hb17 : (setT (setIn N k2 j) (k2 : Nat)) with
        | false =>
         refine l_do F rfl rfl (op_fn F (by kernel_rfl) (in_any _ (setIn N k2 j) (k2 : Nat) (by omega) (by omega) (by omega)) ?_)
         rintro e z ⟨rfl, hb⟩
         have S := S.grow hb
         refine ⟨_, rfl, ?_⟩
         rw [hb17]
         intro a F
         refine l_pure 2 (fun L => (106, .bool true) :: (105, .bool true) :: L) F (by kernel_rfl) fun a F => ?_
         refine l_then ?_
         refine c_t F rfl ?_
         refine wp_region_list ?_
         refine l_pure 2 (fun L => (108, .int .i64 (k2 : Nat)) :: (107, .int .i64 (setIn N k2 j : Nat)) :: L) F (by kernel_rfl) fun a F => ?_
         refine l_do F rfl rfl (op_shl _ _ _ _ .i64 .i64 1 k2 F rfl (by kernel_rfl) (by kernel_rfl) (by show k2 ≤ 64; omega) (shl_one (by omega)) (fun a F => ?_))
         refine l_do F rfl rfl (op_pure F (v0 := .int .i64 (IntKind.wrap .i64 ((setIn N k2 j : Nat) + (2 ^ k2 : Nat)))) (v := .int .i64 (setIn N k2 j + (2 ^ k2) : Nat)) (by kernel_rfl) (wrn_i64 (by omega) (by omega) (by omega)) fun a F => ?_)
         refine l_pure 1 (fun L => (16, .int .i64 (setIn N k2 j + (2 ^ k2) : Nat)) :: L) F (by kernel_rfl) fun a F => ?_
         refine l_nil (inb_n ?_)
         refine then_n ?_
         refine wp_region_list ?_
         refine l_do F rfl rfl (op_pure F (v0 := .int .i64 (IntKind.wrap .i64 ((j : Nat) + 1))) (v := .int .i64 (j + 1 : Nat)) (by kernel_rfl) (wrn_i64 (by omega) (by omega) (by omega)) fun a F => ?_)
         refine l_pure 1 (fun L => (94, .int .i64 (j + 1 : Nat)) :: L) F (by kernel_rfl) fun a F => ?_
         refine l_then ?_
         have hsn := setIn_more hmj ht16 hb17
         rw [hsn] at F
         exact ⟨_, (by omega), j + 1, rfl, (by omega), F.sub ⟨by kernel_rfl, by kernel_rfl, by kernel_rfl, by kernel_rfl, by kernel_rfl, by kernel_rfl, by kernel_rfl, by kernel_rfl, by kernel_rfl, trivial⟩, S⟩
        | true =>
         refine l_do F rfl rfl (op_fn F (by kernel_rfl) (in_any _ (setIn N k2 j) (k2 : Nat) (by omega) (by omega) (by omega)) ?_)
         rintro e z ⟨rfl, hb⟩
         have S := S.grow hb
         refine ⟨_, rfl, ?_⟩
         rw [hb17]
         intro a F
         refine l_pure 2 (fun L => (106, .bool false) :: (105, .bool false) :: L) F (by kernel_rfl) fun a F => ?_
         refine l_then ?_
         refine c_f F rfl ?_
         refine wp_skip ?_
         refine inb_n ?_
         refine then_n ?_
         refine wp_region_list ?_
         refine l_do F rfl rfl (op_pure F (v0 := .int .i64 (IntKind.wrap .i64 ((j : Nat) + 1))) (v := .int .i64 (j + 1 : Nat)) (by kernel_rfl) (wrn_i64 (by omega) (by omega) (by omega)) fun a F => ?_)
         refine l_pure 1 (fun L => (94, .int .i64 (j + 1 : Nat)) :: L) F (by kernel_rfl) fun a F => ?_
         refine l_then ?_
         rw [setIn_same hmj (.inr hb17)] at F
         exact ⟨_, (by omega), j + 1, rfl, (by omega), F.sub ⟨by kernel_rfl, by kernel_rfl, by kernel_rfl, by kernel_rfl, by kernel_rfl, by kernel_rfl, by kernel_rfl, by kernel_rfl, by kernel_rfl, trivial⟩, S⟩
       ·
        skip
        refine l_do F rfl rfl (op_pure F (v0 := .bool ((mj : Int) == ((k2 : Nat) : Int))) (v := .bool false) (by kernel_rfl) (eqlF ht16) fun a F => ?_)
        refine l_pure 6 (fun L => (106, .bool false) :: (105, undef) :: (104, undef) :: (103, undef) :: (102, undef) :: (101, .bool false) :: L) F (by kernel_rfl) fun a F => ?_
        refine l_then ?_
        refine c_f F rfl ?_
        refine wp_skip ?_
        refine inb_n ?_
        refine then_n ?_
        refine wp_region_list ?_
        refine l_do F rfl rfl (op_pure F (v0 := .int .i64 (IntKind.wrap .i64 ((j : Nat) + 1))) (v := .int .i64 (j + 1 : Nat)) (by kernel_rfl) (wrn_i64 (by omega) (by omega) (by omega)) fun a F => ?_)
        refine l_pure 1 (fun L => (94, .int .i64 (j + 1 : Nat)) :: L) F (by kernel_rfl) fun a F => ?_
        refine l_then ?_
        rw [setIn_same hmj (.inl ht16)] at F
        exact ⟨_, (by omega), j + 1, rfl, (by omega), F.sub ⟨by kernel_rfl, by kernel_rfl, by kernel_rfl, by kernel_rfl, by kernel_rfl, by kernel_rfl, by kernel_rfl, by kernel_rfl, by kernel_rfl, trivial⟩, S⟩
      ·
       skip
       have hj : j = N.length := by omega
       refine l_do F rfl rfl (op_pure F (v0 := .bool (decide (((j : Nat) : Int) < ((N.length : Nat) : Int)))) (v := .bool false) (by kernel_rfl) (lssF ht15) fun a F => ?_)
       refine l_then ?_
       refine wp_seq ?_
       refine c_f F rfl ?_
       refine wp_exit ?_
       refine then_x ?_
       refine then_x ?_
       refine inb_x ?_
       refine inb_n ?_
       refine then_n ?_
       refine wp_region_list ?_
       refine l_do F rfl rfl (op_pure F (v0 := .int .i64 (IntKind.wrap .i64 ((k2 : Nat) + 1))) (v := .int .i64 (k2 + 1 : Nat)) (by kernel_rfl) (wrn_i64 (by omega) (by omega) (by omega)) fun a F => ?_)
       refine l_pure 1 (fun L => (89, .int .i64 (k2 + 1 : Nat)) :: L) F (by kernel_rfl) fun a F => ?_
       refine l_then ?_
       rw [hj, setIn_end] at F
       exact ⟨_, (by omega), k2 + 1, rfl, (by omega), F.sub ⟨by kernel_rfl, by kernel_rfl, by kernel_rfl, by kernel_rfl, by kernel_rfl, trivial⟩, S⟩
     ·
      skip
      have hk2 : k2 = x.spots.length := by omega
      have hsl : setOf (inL N) k2 ≤ 1048576 := Nat.le_of_lt (Nat.lt_of_lt_of_le (setOf_lt (inL N) k2) (Nat.pow_le_pow_right (n := 2) (by omega) (by omega : k2 ≤ 20)))
      refine l_do F rfl rfl (op_pure F (v0 := .bool (decide (((k2 : Nat) : Int) < ((x.spots.length : Nat) : Int)))) (v := .bool false) (by kernel_rfl) (lssF ht13) fun a F => ?_)
      refine l_then ?_
      refine wp_seq ?_
      refine c_f F rfl ?_
      refine wp_exit ?_
      refine then_x ?_
      refine then_x ?_
      refine inb_x ?_
      refine then_n ?_
      refine s_reg ?_
      refine l_do F rfl rfl (op_loadK _ _ (some ⟨b1, 0, none⟩) 0 [.slice As x.spots.length cs, .slice Ae x.edges.length ce] F rfl (by kernel_rfl) (by kernel_rfl) (by kernel_rfl) (by simp) (cBoxK S 1 rfl 0 (by kernel_rfl)) (fun a F => ?_))
      refine l_do F rfl rfl (op_fn F (by kernel_rfl) (to_any _ As cs Ae ce x (h.move S rfl) ok ⟨l1, l2⟩) ?_)
      rintro e z ⟨A18, c19, A20, c21, rfl, g⟩
      have S := S.pushThings g
      refine ⟨_, rfl, ?_⟩
      intro a F
      refine l_pure 1 (fun L => (116, .slice An N.length cn) :: L) F (by kernel_rfl) fun a F => ?_
      refine l_do F rfl rfl (op_fn F (by kernel_rfl) (over27_any _ A18 c19 A20 c21 x (WebAt.ofNew (x := x) (w := w) S (i := 5) (j := 6) rfl rfl ⟨l1, l2⟩) ok (by omega) An cn N (hN.mono (src_rest S (i := 0) rfl hN.src (src_lt hN.src))) (by omega)) ?_)
      rintro e z ⟨rfl, hb⟩
      have S := S.grow hb
      refine ⟨_, rfl, ?_⟩
      intro a F
      refine l_pure 5 (fun L => (21, .int .i64 ((outP x N).2)) :: (20, .int .u64 ((outP x N).1)) :: (119, .int .i64 ((outP x N).2)) :: (118, .int .u64 ((outP x N).1)) :: (113, .tuple #[.int .u64 ((outP x N).1), .int .i64 ((outP x N).2)]) :: L) F (by kernel_rfl) fun a F => ?_
      refine l_then ?_
      refine wp_seq ?_
      refine s_reg ?_
      refine l_do F rfl rfl (op_loadK _ _ (some ⟨b1, 0, none⟩) 0 [.slice As x.spots.length cs, .slice Ae x.edges.length ce] F rfl (by kernel_rfl) (by kernel_rfl) (by kernel_rfl) (by simp) (cBoxK S 1 rfl 0 (by kernel_rfl)) (fun a F => ?_))
      refine l_do F rfl rfl (op_fn F (by kernel_rfl) (rcheck_any _ As cs Ae ce x (h.move S rfl) ok) ?_)
      rintro e z ⟨rfl, hb⟩
      have S := S.grow hb
      refine ⟨_, rfl, ?_⟩
      intro a F
      refine l_do F rfl rfl (op_pure F (v0 := .bool ((chkP x : Int) != (0 : Int))) (v := .bool false) (by kernel_rfl) (neqF hck) fun a F => ?_)
      refine l_then ?_
      refine c_f F rfl ?_
      refine wp_skip ?_
      refine then_n ?_
      refine wp_seq ?_
      refine s_reg ?_
      refine l_do F rfl rfl (op_loadK _ _ (some ⟨b1, 0, none⟩) 0 [.slice As x.spots.length cs, .slice Ae x.edges.length ce] F rfl (by kernel_rfl) (by kernel_rfl) (by kernel_rfl) (by simp) (cBoxK S 1 rfl 0 (by kernel_rfl)) (fun a F => ?_))
      refine l_do F rfl rfl (op_fn F (by kernel_rfl) (rall_any _ As cs Ae ce x (h.move S rfl) ok (by omega)) ?_)
      rintro e z ⟨rfl, hb⟩
      have S := S.grow hb
      refine ⟨_, rfl, ?_⟩
      intro a F
      refine l_pure 5 (fun L => (23, .int .i64 ((allP x).2)) :: (22, .int .u64 ((allP x).1)) :: (138, .int .i64 ((allP x).2)) :: (137, .int .u64 ((allP x).1)) :: (134, .tuple #[.int .u64 ((allP x).1), .int .i64 ((allP x).2)]) :: L) F (by kernel_rfl) fun a F => ?_
      refine l_then ?_
      refine s_reg ?_
      refine l_pure 1 (fun L => (139, .int .i64 ((allP x).2)) :: L) F (by kernel_rfl) fun a F => ?_
      refine l_do F rfl rfl (op_pure F (v0 := .bool (((allP x).2 : Int) != (0 : Int))) (v := .bool false) (by kernel_rfl) (neqF hal9) fun a F => ?_)
      refine l_then ?_
      refine c_f F rfl ?_
      refine wp_skip ?_
      refine then_n ?_
      refine s_reg ?_
      refine l_do F rfl rfl (op_fn F (by kernel_rfl) (awake27_any _) ?_)
      rintro e z ⟨rfl, hb⟩
      have S := S.grow hb
      refine ⟨_, rfl, ?_⟩
      intro a F
      refine l_pure 2 (fun L => (153, .int .i64 ((outP x N).2)) :: (152, .bool true) :: L) F (by kernel_rfl) fun a F => ?_
      refine l_do F rfl rfl (op_pure F (v0 := .bool (((outP x N).2 : Int) == (0 : Int))) (v := .bool true) (by kernel_rfl) (eqlT (by rw [outP_ok hck hal9])) fun a F => ?_)
      refine l_pure 3 (fun L => (157, .int .u64 ((outP x N).1)) :: (156, .bool true) :: (155, .bool true) :: L) F (by kernel_rfl) fun a F => ?_
      refine l_do F rfl rfl (op_loadK _ _ (some ⟨b1, 0, none⟩) 0 [.slice As x.spots.length cs, .slice Ae x.edges.length ce] F rfl (by kernel_rfl) (by kernel_rfl) (by kernel_rfl) (by simp) (cBoxK S 1 rfl 0 (by kernel_rfl)) (fun a F => ?_))
      refine l_pure 1 (fun L => (159, .int .i64 (setOf (inL N) k2 : Nat)) :: L) F (by kernel_rfl) fun a F => ?_
      refine l_do F rfl rfl (op_fn F (by kernel_rfl) (rover_any _ As cs Ae ce x (h.move S rfl) ok (by omega) (setOf (inL N) k2) (by omega) hck (all_holds ok hal9).2) ?_)
      rintro e z ⟨rfl, hb⟩
      have S := S.grow hb
      refine ⟨_, rfl, ?_⟩
      intro a F
      refine l_do F rfl rfl (op_pure F (v0 := .bool (((outP x N).1 : Int) == (cutP x (setT (setOf (inL N) k2)) : Int))) (v := .bool true) (by kernel_rfl) (eqlT (by rw [outP_ok hck hal9, hk2, cut_setOf hck])) fun a F => ?_)
      refine l_pure 2 (fun L => (8, .bool true) :: (162, .bool true) :: L) F (by kernel_rfl) fun a F => ?_
      refine l_then ?_
      refine wp_ret ?_
      exact fin F [.tmp 8] [.bool true] rfl ⟨by kernel_rfl, trivial⟩ (.bool true) rfl ⟨rfl, S.below (i := 0) rfl⟩
   ·
    skip
    refine l_do F rfl rfl (op_pure F (v0 := .bool ((frightP x from_ to : Int) == (0 : Int))) (v := .bool false) (by kernel_rfl) (eqlF ht8) fun a F => ?_)
    refine l_then ?_
    refine c_f F rfl ?_
    refine wp_skip ?_
    refine then_n ?_
    refine s_reg ?_
    refine l_pure 1 (fun L => (16, .int .i64 0) :: L) F (by kernel_rfl) fun a F => ?_
    refine l_then ?_
    refine wp_seq ?_
    refine s_reg ?_
    refine l_pure 1 (fun L => (86, .pointer (some ⟨b1, 0, none⟩)) :: L) F (by kernel_rfl) fun a F => ?_
    refine l_do F rfl rfl (op_load _ _ (some ⟨b1, 0, none⟩) 0 (.slice As x.spots.length cs) F rfl (by kernel_rfl) (by kernel_rfl) (cBox S 1 rfl (j := 0) rfl) (fun a F => ?_))
    refine l_pure 2 (fun L => (89, .int .i64 0) :: (88, .int .i64 (x.spots.length : Nat)) :: L) F (by kernel_rfl) fun a F => ?_
    refine l_then ?_
    refine wp_block ?_
    refine wp_loop_m (fun m a z => ∃ (k2 : Nat), m = x.spots.length - k2 ∧ (k2 ≤ x.spots.length) ∧ Fr a 163 [(3, .slice An N.length cn), (4, .pointer (some ⟨b1, 0, none⟩)), (16, .int .i64 (setOf (inL N) k2 : Nat)), (88, .int .i64 (x.spots.length : Nat)), (89, .int .i64 (k2 : Nat))] ∧ Sat w z [rest w (· < w.heap.size), box b1 25 [.slice As x.spots.length cs, .slice Ae x.edges.length ce], row 107 2 (.slice A4 x.spots.length c5) x.spots.length (x.spots.flatMap spC), row 62 8 (.slice A6 x.edges.length c7) x.edges.length (x.edges.flatMap edC), row 3 1 (.slice Ac Lc.length cc) Lc.length (Lc.flatMap iC_i64)]) _ ⟨0, rfl, Nat.zero_le _, F.sub ⟨by kernel_rfl, by kernel_rfl, by kernel_rfl, by kernel_rfl, by kernel_rfl, trivial⟩, S⟩ ?_
    rintro m a z ⟨k2, hm, hf22, F, S⟩
    refine s_reg ?_
    by_cases ht23 : ((k2 : Nat) : Int) < ((x.spots.length : Nat) : Int)
    ·
     skip
     have hp2 : 2 ^ k2 ≤ 2 ^ 20 := Nat.pow_le_pow_right (by omega) (by omega)
     have hz2 : (0 : Int) ≤ ((2 ^ k2 : Nat) : Int) := Int.natCast_nonneg _
     refine l_do F rfl rfl (op_pure F (v0 := .bool (decide (((k2 : Nat) : Int) < ((x.spots.length : Nat) : Int)))) (v := .bool true) (by kernel_rfl) (lssT ht23) fun a F => ?_)
     refine l_then ?_
     refine wp_seq ?_
     refine c_t F rfl ?_
     refine wp_skip ?_
     refine then_n ?_
     refine wp_seq ?_
     refine wp_block ?_
     refine s_reg ?_
     refine l_pure 2 (fun L => (17, .int .i64 (k2 : Nat)) :: (91, .int .i64 (k2 : Nat)) :: L) F (by kernel_rfl) fun a F => ?_
     refine l_then ?_
     refine s_reg ?_
     refine l_pure 3 (fun L => (94, .int .i64 0) :: (93, .int .i64 (N.length : Nat)) :: (92, .slice An N.length cn) :: L) F (by kernel_rfl) fun a F => ?_
     refine l_then ?_
     refine wp_block ?_
     rw [← setIn_zero N k2] at F
     refine wp_loop_m (fun m a z => ∃ (j : Nat), m = N.length - j ∧ (j ≤ N.length) ∧ Fr a 163 [(3, .slice An N.length cn), (4, .pointer (some ⟨b1, 0, none⟩)), (16, .int .i64 (setIn N k2 j : Nat)), (17, .int .i64 (k2 : Nat)), (88, .int .i64 (x.spots.length : Nat)), (89, .int .i64 (k2 : Nat)), (92, .slice An N.length cn), (93, .int .i64 (N.length : Nat)), (94, .int .i64 (j : Nat))] ∧ Sat w z [rest w (· < w.heap.size), box b1 25 [.slice As x.spots.length cs, .slice Ae x.edges.length ce], row 107 2 (.slice A4 x.spots.length c5) x.spots.length (x.spots.flatMap spC), row 62 8 (.slice A6 x.edges.length c7) x.edges.length (x.edges.flatMap edC), row 3 1 (.slice Ac Lc.length cc) Lc.length (Lc.flatMap iC_i64)]) _ ⟨0, rfl, Nat.zero_le _, F.sub ⟨by kernel_rfl, by kernel_rfl, by kernel_rfl, by kernel_rfl, by kernel_rfl, by kernel_rfl, by kernel_rfl, by kernel_rfl, by kernel_rfl, trivial⟩, S⟩ ?_
     rintro m a z ⟨j, hm, hf24, F, S⟩
     have hsi : setIn N k2 j < 2 ^ 20 := Nat.lt_of_lt_of_le (setIn_lt N k2 j) (Nat.pow_le_pow_right (n := 2) (by omega) (by omega : k2 + 1 ≤ 20))
     refine s_reg ?_
     by_cases ht25 : ((j : Nat) : Int) < ((N.length : Nat) : Int)
     ·
      skip
      obtain ⟨mj, hmj⟩ : ∃ mj, N[j]? = some mj := ⟨_, List.getElem?_eq_getElem (by omega)⟩
      refine l_do F rfl rfl (op_pure F (v0 := .bool (decide (((j : Nat) : Int) < ((N.length : Nat) : Int)))) (v := .bool true) (by kernel_rfl) (lssT ht25) fun a F => ?_)
      refine l_then ?_
      refine wp_seq ?_
      refine c_t F rfl ?_
      refine wp_skip ?_
      refine then_n ?_
      refine wp_seq ?_
      refine wp_block ?_
      refine s_reg ?_
      refine l_do F rfl rfl (op_index _ 3 _ _ An N.length cn j 1 .i64 F rfl (by kernel_rfl) (by kernel_rfl) (by kernel_rfl) (by kernel_rfl) (get_lt hmj) (recs_some hN (m := j) (get_lt hmj)) (fun a F => ?_))
      refine l_do F rfl rfl (op_load _ _ An (j * 1) (.int .i64 mj) F rfl (by kernel_rfl) (by kernel_rfl) (cOld S 0 iC_len_i64 hN rfl 0 hmj rfl) (fun a F => ?_))
      refine l_pure 1 (fun L => (19, .int .i64 mj) :: L) F (by kernel_rfl) fun a F => ?_
      refine l_then ?_
      refine s_reg ?_
      refine l_pure 2 (fun L => (99, .int .i64 (k2 : Nat)) :: (98, .int .i64 mj) :: L) F (by kernel_rfl) fun a F => ?_
      by_cases ht26 : (mj : Int) = ((k2 : Nat) : Int)
      ·
       skip
       refine l_do F rfl rfl (op_pure F (v0 := .bool ((mj : Int) == ((k2 : Nat) : Int))) (v := .bool true) (by kernel_rfl) (eqlT ht26) fun a F => ?_)
       refine l_pure 3 (fun L => (103, .int .i64 (k2 : Nat)) :: (102, .int .i64 (setIn N k2 j : Nat)) :: (101, .bool true) :: L) F (by kernel_rfl) fun a F => ?_
       cases hb27 : (setT (setIn N k2 j) (k2 : Nat)) with
       | false =>
        refine l_do F rfl rfl (op_fn F (by kernel_rfl) (in_any _ (setIn N k2 j) (k2 : Nat) (by omega) (by omega) (by omega)) ?_)
        rintro e z ⟨rfl, hb⟩
        have S := S.grow hb
        refine ⟨_, rfl, ?_⟩
        rw [hb27]
        intro a F
        refine l_pure 2 (fun L => (106, .bool true) :: (105, .bool true) :: L) F (by kernel_rfl) fun a F => ?_
        refine l_then ?_
        refine c_t F rfl ?_
        refine wp_region_list ?_
        refine l_pure 2 (fun L => (108, .int .i64 (k2 : Nat)) :: (107, .int .i64 (setIn N k2 j : Nat)) :: L) F (by kernel_rfl) fun a F => ?_
        refine l_do F rfl rfl (op_shl _ _ _ _ .i64 .i64 1 k2 F rfl (by kernel_rfl) (by kernel_rfl) (by show k2 ≤ 64; omega) (shl_one (by omega)) (fun a F => ?_))
        refine l_do F rfl rfl (op_pure F (v0 := .int .i64 (IntKind.wrap .i64 ((setIn N k2 j : Nat) + (2 ^ k2 : Nat)))) (v := .int .i64 (setIn N k2 j + (2 ^ k2) : Nat)) (by kernel_rfl) (wrn_i64 (by omega) (by omega) (by omega)) fun a F => ?_)
        refine l_pure 1 (fun L => (16, .int .i64 (setIn N k2 j + (2 ^ k2) : Nat)) :: L) F (by kernel_rfl) fun a F => ?_
        refine l_nil (inb_n ?_)
        refine then_n ?_
        refine wp_region_list ?_
        refine l_do F rfl rfl (op_pure F (v0 := .int .i64 (IntKind.wrap .i64 ((j : Nat) + 1))) (v := .int .i64 (j + 1 : Nat)) (by kernel_rfl) (wrn_i64 (by omega) (by omega) (by omega)) fun a F => ?_)
        refine l_pure 1 (fun L => (94, .int .i64 (j + 1 : Nat)) :: L) F (by kernel_rfl) fun a F => ?_
        refine l_then ?_
        have hsn := setIn_more hmj ht26 hb27
        rw [hsn] at F
        exact ⟨_, (by omega), j + 1, rfl, (by omega), F.sub ⟨by kernel_rfl, by kernel_rfl, by kernel_rfl, by kernel_rfl, by kernel_rfl, by kernel_rfl, by kernel_rfl, by kernel_rfl, by kernel_rfl, trivial⟩, S⟩
       | true =>
        refine l_do F rfl rfl (op_fn F (by kernel_rfl) (in_any _ (setIn N k2 j) (k2 : Nat) (by omega) (by omega) (by omega)) ?_)
        rintro e z ⟨rfl, hb⟩
        have S := S.grow hb
        refine ⟨_, rfl, ?_⟩
        rw [hb27]
        intro a F
        refine l_pure 2 (fun L => (106, .bool false) :: (105, .bool false) :: L) F (by kernel_rfl) fun a F => ?_
        refine l_then ?_
        refine c_f F rfl ?_
        refine wp_skip ?_
        refine inb_n ?_
        refine then_n ?_
        refine wp_region_list ?_
        refine l_do F rfl rfl (op_pure F (v0 := .int .i64 (IntKind.wrap .i64 ((j : Nat) + 1))) (v := .int .i64 (j + 1 : Nat)) (by kernel_rfl) (wrn_i64 (by omega) (by omega) (by omega)) fun a F => ?_)
        refine l_pure 1 (fun L => (94, .int .i64 (j + 1 : Nat)) :: L) F (by kernel_rfl) fun a F => ?_
        refine l_then ?_
        rw [setIn_same hmj (.inr hb27)] at F
        exact ⟨_, (by omega), j + 1, rfl, (by omega), F.sub ⟨by kernel_rfl, by kernel_rfl, by kernel_rfl, by kernel_rfl, by kernel_rfl, by kernel_rfl, by kernel_rfl, by kernel_rfl, by kernel_rfl, trivial⟩, S⟩
      ·
       skip
       refine l_do F rfl rfl (op_pure F (v0 := .bool ((mj : Int) == ((k2 : Nat) : Int))) (v := .bool false) (by kernel_rfl) (eqlF ht26) fun a F => ?_)
       refine l_pure 6 (fun L => (106, .bool false) :: (105, undef) :: (104, undef) :: (103, undef) :: (102, undef) :: (101, .bool false) :: L) F (by kernel_rfl) fun a F => ?_
       refine l_then ?_
       refine c_f F rfl ?_
       refine wp_skip ?_
       refine inb_n ?_
       refine then_n ?_
       refine wp_region_list ?_
       refine l_do F rfl rfl (op_pure F (v0 := .int .i64 (IntKind.wrap .i64 ((j : Nat) + 1))) (v := .int .i64 (j + 1 : Nat)) (by kernel_rfl) (wrn_i64 (by omega) (by omega) (by omega)) fun a F => ?_)
       refine l_pure 1 (fun L => (94, .int .i64 (j + 1 : Nat)) :: L) F (by kernel_rfl) fun a F => ?_
       refine l_then ?_
       rw [setIn_same hmj (.inl ht26)] at F
       exact ⟨_, (by omega), j + 1, rfl, (by omega), F.sub ⟨by kernel_rfl, by kernel_rfl, by kernel_rfl, by kernel_rfl, by kernel_rfl, by kernel_rfl, by kernel_rfl, by kernel_rfl, by kernel_rfl, trivial⟩, S⟩
     ·
      skip
      have hj : j = N.length := by omega
      refine l_do F rfl rfl (op_pure F (v0 := .bool (decide (((j : Nat) : Int) < ((N.length : Nat) : Int)))) (v := .bool false) (by kernel_rfl) (lssF ht25) fun a F => ?_)
      refine l_then ?_
      refine wp_seq ?_
      refine c_f F rfl ?_
      refine wp_exit ?_
      refine then_x ?_
      refine then_x ?_
      refine inb_x ?_
      refine inb_n ?_
      refine then_n ?_
      refine wp_region_list ?_
      refine l_do F rfl rfl (op_pure F (v0 := .int .i64 (IntKind.wrap .i64 ((k2 : Nat) + 1))) (v := .int .i64 (k2 + 1 : Nat)) (by kernel_rfl) (wrn_i64 (by omega) (by omega) (by omega)) fun a F => ?_)
      refine l_pure 1 (fun L => (89, .int .i64 (k2 + 1 : Nat)) :: L) F (by kernel_rfl) fun a F => ?_
      refine l_then ?_
      rw [hj, setIn_end] at F
      exact ⟨_, (by omega), k2 + 1, rfl, (by omega), F.sub ⟨by kernel_rfl, by kernel_rfl, by kernel_rfl, by kernel_rfl, by kernel_rfl, trivial⟩, S⟩
    ·
     skip
     have hk2 : k2 = x.spots.length := by omega
     have hsl : setOf (inL N) k2 ≤ 1048576 := Nat.le_of_lt (Nat.lt_of_lt_of_le (setOf_lt (inL N) k2) (Nat.pow_le_pow_right (n := 2) (by omega) (by omega : k2 ≤ 20)))
     refine l_do F rfl rfl (op_pure F (v0 := .bool (decide (((k2 : Nat) : Int) < ((x.spots.length : Nat) : Int)))) (v := .bool false) (by kernel_rfl) (lssF ht23) fun a F => ?_)
     refine l_then ?_
     refine wp_seq ?_
     refine c_f F rfl ?_
     refine wp_exit ?_
     refine then_x ?_
     refine then_x ?_
     refine inb_x ?_
     refine then_n ?_
     refine s_reg ?_
     refine l_do F rfl rfl (op_loadK _ _ (some ⟨b1, 0, none⟩) 0 [.slice As x.spots.length cs, .slice Ae x.edges.length ce] F rfl (by kernel_rfl) (by kernel_rfl) (by kernel_rfl) (by simp) (cBoxK S 1 rfl 0 (by kernel_rfl)) (fun a F => ?_))
     refine l_do F rfl rfl (op_fn F (by kernel_rfl) (to_any _ As cs Ae ce x (h.move S rfl) ok ⟨l1, l2⟩) ?_)
     rintro e z ⟨A28, c29, A30, c31, rfl, g⟩
     have S := S.pushThings g
     refine ⟨_, rfl, ?_⟩
     intro a F
     refine l_pure 1 (fun L => (116, .slice An N.length cn) :: L) F (by kernel_rfl) fun a F => ?_
     refine l_do F rfl rfl (op_fn F (by kernel_rfl) (over27_any _ A28 c29 A30 c31 x (WebAt.ofNew (x := x) (w := w) S (i := 5) (j := 6) rfl rfl ⟨l1, l2⟩) ok (by omega) An cn N (hN.mono (src_rest S (i := 0) rfl hN.src (src_lt hN.src))) (by omega)) ?_)
     rintro e z ⟨rfl, hb⟩
     have S := S.grow hb
     refine ⟨_, rfl, ?_⟩
     intro a F
     refine l_pure 5 (fun L => (21, .int .i64 ((outP x N).2)) :: (20, .int .u64 ((outP x N).1)) :: (119, .int .i64 ((outP x N).2)) :: (118, .int .u64 ((outP x N).1)) :: (113, .tuple #[.int .u64 ((outP x N).1), .int .i64 ((outP x N).2)]) :: L) F (by kernel_rfl) fun a F => ?_
     refine l_then ?_
     refine wp_seq ?_
     refine s_reg ?_
     refine l_do F rfl rfl (op_loadK _ _ (some ⟨b1, 0, none⟩) 0 [.slice As x.spots.length cs, .slice Ae x.edges.length ce] F rfl (by kernel_rfl) (by kernel_rfl) (by kernel_rfl) (by simp) (cBoxK S 1 rfl 0 (by kernel_rfl)) (fun a F => ?_))
     refine l_do F rfl rfl (op_fn F (by kernel_rfl) (rcheck_any _ As cs Ae ce x (h.move S rfl) ok) ?_)
     rintro e z ⟨rfl, hb⟩
     have S := S.grow hb
     refine ⟨_, rfl, ?_⟩
     intro a F
     by_cases ht32 : (chkP x : Int) = (0 : Int)
     ·
      skip
      have hck := ht32
      refine l_do F rfl rfl (op_pure F (v0 := .bool ((chkP x : Int) != (0 : Int))) (v := .bool false) (by kernel_rfl) (neqF ht32) fun a F => ?_)
      refine l_then ?_
      refine c_f F rfl ?_
      refine wp_skip ?_
      refine then_n ?_
      refine wp_seq ?_
      refine s_reg ?_
      refine l_do F rfl rfl (op_loadK _ _ (some ⟨b1, 0, none⟩) 0 [.slice As x.spots.length cs, .slice Ae x.edges.length ce] F rfl (by kernel_rfl) (by kernel_rfl) (by kernel_rfl) (by simp) (cBoxK S 1 rfl 0 (by kernel_rfl)) (fun a F => ?_))
      refine l_do F rfl rfl (op_fn F (by kernel_rfl) (rall_any _ As cs Ae ce x (h.move S rfl) ok (by omega)) ?_)
      rintro e z ⟨rfl, hb⟩
      have S := S.grow hb
      refine ⟨_, rfl, ?_⟩
      intro a F
      refine l_pure 5 (fun L => (23, .int .i64 ((allP x).2)) :: (22, .int .u64 ((allP x).1)) :: (138, .int .i64 ((allP x).2)) :: (137, .int .u64 ((allP x).1)) :: (134, .tuple #[.int .u64 ((allP x).1), .int .i64 ((allP x).2)]) :: L) F (by kernel_rfl) fun a F => ?_
      refine l_then ?_
      refine s_reg ?_
      refine l_pure 1 (fun L => (139, .int .i64 ((allP x).2)) :: L) F (by kernel_rfl) fun a F => ?_
      by_cases ht33 : ((allP x).2 : Int) = (0 : Int)
      ·
       skip
       have hal9 := ht33
       refine l_do F rfl rfl (op_pure F (v0 := .bool (((allP x).2 : Int) != (0 : Int))) (v := .bool false) (by kernel_rfl) (neqF ht33) fun a F => ?_)
       refine l_then ?_
       refine c_f F rfl ?_
       refine wp_skip ?_
       refine then_n ?_
       refine s_reg ?_
       refine l_do F rfl rfl (op_fn F (by kernel_rfl) (awake27_any _) ?_)
       rintro e z ⟨rfl, hb⟩
       have S := S.grow hb
       refine ⟨_, rfl, ?_⟩
       intro a F
       refine l_pure 2 (fun L => (153, .int .i64 ((outP x N).2)) :: (152, .bool true) :: L) F (by kernel_rfl) fun a F => ?_
       refine l_do F rfl rfl (op_pure F (v0 := .bool (((outP x N).2 : Int) == (0 : Int))) (v := .bool true) (by kernel_rfl) (eqlT (by rw [outP_ok hck hal9])) fun a F => ?_)
       refine l_pure 3 (fun L => (157, .int .u64 ((outP x N).1)) :: (156, .bool true) :: (155, .bool true) :: L) F (by kernel_rfl) fun a F => ?_
       refine l_do F rfl rfl (op_loadK _ _ (some ⟨b1, 0, none⟩) 0 [.slice As x.spots.length cs, .slice Ae x.edges.length ce] F rfl (by kernel_rfl) (by kernel_rfl) (by kernel_rfl) (by simp) (cBoxK S 1 rfl 0 (by kernel_rfl)) (fun a F => ?_))
       refine l_pure 1 (fun L => (159, .int .i64 (setOf (inL N) k2 : Nat)) :: L) F (by kernel_rfl) fun a F => ?_
       refine l_do F rfl rfl (op_fn F (by kernel_rfl) (rover_any _ As cs Ae ce x (h.move S rfl) ok (by omega) (setOf (inL N) k2) (by omega) hck (all_holds ok hal9).2) ?_)
       rintro e z ⟨rfl, hb⟩
       have S := S.grow hb
       refine ⟨_, rfl, ?_⟩
       intro a F
       refine l_do F rfl rfl (op_pure F (v0 := .bool (((outP x N).1 : Int) == (cutP x (setT (setOf (inL N) k2)) : Int))) (v := .bool true) (by kernel_rfl) (eqlT (by rw [outP_ok hck hal9, hk2, cut_setOf hck])) fun a F => ?_)
       refine l_pure 2 (fun L => (8, .bool true) :: (162, .bool true) :: L) F (by kernel_rfl) fun a F => ?_
       refine l_then ?_
       refine wp_ret ?_
       exact fin F [.tmp 8] [.bool true] rfl ⟨by kernel_rfl, trivial⟩ (.bool true) rfl ⟨rfl, S.below (i := 0) rfl⟩
      ·
       skip
       have hal9 := ht33
       refine l_do F rfl rfl (op_pure F (v0 := .bool (((allP x).2 : Int) != (0 : Int))) (v := .bool true) (by kernel_rfl) (neqT ht33) fun a F => ?_)
       refine l_then ?_
       refine c_t F rfl ?_
       refine s_reg ?_
       refine l_do F rfl rfl (op_fn F (by kernel_rfl) (awake27_any _) ?_)
       rintro e z ⟨rfl, hb⟩
       have S := S.grow hb
       refine ⟨_, rfl, ?_⟩
       intro a F
       refine l_pure 3 (fun L => (144, .int .i64 ((allP x).2)) :: (143, .int .i64 ((outP x N).2)) :: (142, .bool true) :: L) F (by kernel_rfl) fun a F => ?_
       refine l_do F rfl rfl (op_pure F (v0 := .bool (((outP x N).2 : Int) == ((allP x).2 : Int))) (v := .bool true) (by kernel_rfl) (eqlT (by rw [outP_all hck hal9])) fun a F => ?_)
       refine l_pure 3 (fun L => (148, .int .u64 ((outP x N).1)) :: (147, .bool true) :: (146, .bool true) :: L) F (by kernel_rfl) fun a F => ?_
       refine l_do F rfl rfl (op_pure F (v0 := .bool (((outP x N).1 : Int) == (0 : Int))) (v := .bool true) (by kernel_rfl) (eqlT (by rw [outP_all hck hal9])) fun a F => ?_)
       refine l_pure 2 (fun L => (8, .bool true) :: (150, .bool true) :: L) F (by kernel_rfl) fun a F => ?_
       refine l_then ?_
       refine wp_ret ?_
       refine then_r (?_)
       exact fin F [.tmp 8] [.bool true] rfl ⟨by kernel_rfl, trivial⟩ (.bool true) rfl ⟨rfl, S.below (i := 0) rfl⟩
     ·
      skip
      have hck := ht32
      refine l_do F rfl rfl (op_pure F (v0 := .bool ((chkP x : Int) != (0 : Int))) (v := .bool true) (by kernel_rfl) (neqT ht32) fun a F => ?_)
      refine l_then ?_
      refine c_t F rfl ?_
      refine s_reg ?_
      refine l_do F rfl rfl (op_fn F (by kernel_rfl) (awake27_any _) ?_)
      rintro e z ⟨rfl, hb⟩
      have S := S.grow hb
      refine ⟨_, rfl, ?_⟩
      intro a F
      refine l_pure 2 (fun L => (125, .int .i64 ((outP x N).2)) :: (124, .bool true) :: L) F (by kernel_rfl) fun a F => ?_
      refine l_do F rfl rfl (op_loadK _ _ (some ⟨b1, 0, none⟩) 0 [.slice As x.spots.length cs, .slice Ae x.edges.length ce] F rfl (by kernel_rfl) (by kernel_rfl) (by kernel_rfl) (by simp) (cBoxK S 1 rfl 0 (by kernel_rfl)) (fun a F => ?_))
      refine l_do F rfl rfl (op_fn F (by kernel_rfl) (rcheck_any _ As cs Ae ce x (h.move S rfl) ok) ?_)
      rintro e z ⟨rfl, hb⟩
      have S := S.grow hb
      refine ⟨_, rfl, ?_⟩
      intro a F
      refine l_do F rfl rfl (op_pure F (v0 := .bool (((outP x N).2 : Int) == (chkP x : Int))) (v := .bool true) (by kernel_rfl) (eqlT (by rw [outP_chk hck])) fun a F => ?_)
      refine l_pure 3 (fun L => (131, .int .u64 ((outP x N).1)) :: (130, .bool true) :: (129, .bool true) :: L) F (by kernel_rfl) fun a F => ?_
      refine l_do F rfl rfl (op_pure F (v0 := .bool (((outP x N).1 : Int) == (0 : Int))) (v := .bool true) (by kernel_rfl) (eqlT (by rw [outP_chk hck])) fun a F => ?_)
      refine l_pure 2 (fun L => (8, .bool true) :: (133, .bool true) :: L) F (by kernel_rfl) fun a F => ?_
      refine l_then ?_
      refine wp_ret ?_
      refine then_r (?_)
      exact fin F [.tmp 8] [.bool true] rfl ⟨by kernel_rfl, trivial⟩ (.bool true) rfl ⟨rfl, S.below (i := 0) rfl⟩
end Go.Proofs.Ytcfpbemoocegfaa
