/- How full a channel is; which of a node's channels are fullest and emptiest: plain. -/
import Derived.Test.YtcfpbemoocegfaaCyc0
import Derived.IntWalk
import Derived.Test.YtcfpbemoocegfaaCyc1
namespace Go.Proofs.Ytcfpbemoocegfaa
set_option linter.unusedVariables false
set_option linter.unusedSimpArgs false
set_option linter.unnecessarySimpa false
open Go Go.RowKit

def halfP : Nat → Int → Int → Int × Int
  | 0, a, b => (a, b)
  | f + 1, a, b => if 4294967296 < a + b then halfP f (a / 2) (b / 2) else (a, b)
theorem half_off {f : Nat} {a b : Int} (h : ¬ 4294967296 < a + b) : halfP f a b = (a, b) := by
  cases f with
  | zero => rfl
  | succ f => unfold halfP; rw [if_neg h]
theorem half_step {f : Nat} {a b : Int} (h : a + b ≤ 4294967296 * 2 ^ f) (hlt : 4294967296 < a + b) : ∃ f', f = f' + 1 ∧ a / 2 + b / 2 ≤ 4294967296 * 2 ^ f' ∧ halfP f a b = halfP f' (a / 2) (b / 2) := by
  cases f with
  | zero => simp at h; omega
  | succ f =>
    refine ⟨f, rfl, ?_, by rw [halfP, if_pos hlt]⟩
    rw [Int.pow_succ] at h
    generalize (2 : Int) ^ f = p at h ⊢
    omega
def shareV (a b : Int) : Int := if (halfP 32 a b).1 + (halfP 32 a b).2 = 0 then 500 else 1000 * (halfP 32 a b).1 / ((halfP 32 a b).1 + (halfP 32 a b).2)
/-- How much of a channel an end can send, in thousandths. -/
def shareP (e : Edg) (s : Nat) : Int := shareV (e.can (s : Int) / 2) (e.can ((1 - s : Nat) : Int) / 2)
theorem share_is {e : Edg} {s f : Nat} {a b : Int} (h : halfP f a b = halfP 32 (e.can (s : Int) / 2) (e.can ((1 - s : Nat) : Int) / 2)) (hle : ¬ 4294967296 < a + b) : shareP e s = if a + b = 0 then 500 else 1000 * a / (a + b) := by
  unfold shareP shareV
  rw [← h, half_off hle]
theorem half_nn : ∀ (f : Nat) (a b : Int), 0 ≤ a → 0 ≤ b → 0 ≤ (halfP f a b).1 ∧ 0 ≤ (halfP f a b).2
  | 0, a, b, ha, hb => ⟨ha, hb⟩
  | f + 1, a, b, ha, hb => by
    unfold halfP
    split
    · exact half_nn f _ _ (by omega) (by omega)
    · exact ⟨ha, hb⟩
theorem share_bd {e : Edg} (ok : e.Ok) (s : Nat) : 0 ≤ shareP e s ∧ shareP e s ≤ 1000 := by
  have h1 := (ok.can (s : Int)).1; have h2 := (ok.can ((1 - s : Nat) : Int)).1
  obtain ⟨h3, h4⟩ := half_nn 32 (e.can (s : Int) / 2) (e.can ((1 - s : Nat) : Int) / 2) (by omega) (by omega)
  unfold shareP shareV
  generalize (halfP 32 (e.can (s : Int) / 2) (e.can ((1 - s : Nat) : Int) / 2)).1 = a at *
  generalize (halfP 32 (e.can (s : Int) / 2) (e.can ((1 - s : Nat) : Int) / 2)).2 = b at *
  split
  · omega
  · rename_i hne
    have hpos : 0 < a + b := by omega
    refine ⟨Int.ediv_nonneg (by omega) (by omega), ?_⟩
    have : 1000 * a / (a + b) < 1001 := Int.ediv_lt_of_lt_mul hpos (by omega)
    omega
/-- A step is over a channel of the node. -/
def StpIn (x : Wb) (node : Int) (q : Stp) (k : Nat) (ed : Edg) (s : Nat) : Prop := q.edge = (k : Int) ∧ x.edges[k]? = some ed ∧ sideP ed node = (s : Int) ∧ s < 2
def atP (x : Wb) (node : Int) (q : Stp) : Int := shareP (edgeAt x q.edge) (sideP (edgeAt x q.edge) node).toNat
theorem atP_of {x : Wb} {node : Int} {q : Stp} {k : Nat} {ed : Edg} {s : Nat} (h : StpIn x node q k ed s) : atP x node q = shareP ed s := by
  obtain ⟨h1, h2, h3, _⟩ := h
  unfold atP
  rw [h1, edge_of h2, h3, Int.toNat_natCast]
theorem step_in {x : Wb} {node : Int} {i : Nat} {q : Stp} (h : (stepsP x node)[i]? = some q) : ∃ k ed s, StpIn x node q k ed s := by
  have hm := List.mem_of_getElem? h
  unfold stepsP at hm
  split at hm
  · obtain ⟨k, hk, h1, h2⟩ := stepsF_mem hm
    obtain ⟨h3, h4⟩ := stpOf_side h2
    have hed : x.edges[k]? = some x.edges[k] := List.getElem?_eq_getElem hk
    have h5 : q.edge = (k : Int) := by rw [h1, Nat.zero_add]
    rcases h3 with h3 | h3
    · exact ⟨k, _, 0, h5, hed, h3, by omega⟩
    · exact ⟨k, _, 1, h5, hed, h3, by omega⟩
  · simp at hm
theorem stepsF_rise (n : Int) : ∀ (l : List Edg) (i : Nat), (stepsF n i l).Pairwise (fun a b => a.edge < b.edge) ∧ ∀ s ∈ stepsF n i l, (i : Int) ≤ s.edge
  | [], i => ⟨List.Pairwise.nil, fun s hs => by simp [stepsF] at hs⟩
  | e :: l, i => by
    obtain ⟨h1, h2⟩ := stepsF_rise n l (i + 1)
    have h3 : ∀ s ∈ stpOf i e n, s.edge = (i : Int) := fun s hs => by obtain ⟨_, h⟩ := stpOf_side hs; rw [h]
    have h4 : (stpOf i e n).Pairwise (fun a b => a.edge < b.edge) := by
      unfold stpOf; split
      · simp
      · split <;> simp
    unfold stepsF
    refine ⟨List.pairwise_append.2 ⟨h4, h1, fun a ha b hb => ?_⟩, fun s hs => ?_⟩
    · have := h3 a ha; have := h2 b hb; omega
    · rcases List.mem_append.1 hs with hs | hs
      · have := h3 s hs; omega
      · have := h2 s hs; omega
theorem steps_inj {x : Wb} {node : Int} {i j : Nat} {a b : Stp} (ha : (stepsP x node)[i]? = some a) (hb : (stepsP x node)[j]? = some b) (h : a.edge = b.edge) : i = j := by
  have hp : (stepsP x node).Pairwise (fun a b => a.edge < b.edge) := by
    unfold stepsP; split
    · exact (stepsF_rise node x.edges 0).1
    · exact List.Pairwise.nil
  rw [List.pairwise_iff_getElem] at hp
  obtain ⟨hi, ea⟩ := List.getElem?_eq_some_iff.1 ha
  obtain ⟨hj, eb⟩ := List.getElem?_eq_some_iff.1 hb
  rcases Nat.lt_trichotomy i j with hlt | heq | hgt
  · have := hp i j hi hj hlt; rw [ea, eb] at this; omega
  · exact heq
  · have := hp j i hj hi hgt; rw [ea, eb] at this; omega
def atI (x : Wb) (node : Int) (i : Nat) : Int := atP x node ((stepsP x node).getD i ⟨0, 0, 0, 0, 0⟩)
theorem atI_of {x : Wb} {node : Int} {i : Nat} {q : Stp} (h : (stepsP x node)[i]? = some q) : atI x node i = atP x node q := by
  unfold atI; rw [List.getD_eq_getElem?_getD, h]; rfl
/-- The first of those that are greatest. -/
def maxIx (v : Nat → Int) : Nat → Nat
  | 0 => 0
  | k + 1 => if v (maxIx v k) < v (k + 1) then k + 1 else maxIx v k
def minIx (v : Nat → Int) : Nat → Nat
  | 0 => 0
  | k + 1 => if v (k + 1) < v (minIx v k) then k + 1 else minIx v k
theorem maxIx_le (v : Nat → Int) : ∀ k, maxIx v k ≤ k
  | 0 => Nat.le_refl _
  | k + 1 => by unfold maxIx; have := maxIx_le v k; split <;> omega
theorem minIx_le (v : Nat → Int) : ∀ k, minIx v k ≤ k
  | 0 => Nat.le_refl _
  | k + 1 => by unfold minIx; have := minIx_le v k; split <;> omega
def worstP (x : Wb) (node : Int) : Int × Int × Bool :=
  if (stepsP x node).length < 2 then (0, 0, false) else
  if maxIx (atI x node) ((stepsP x node).length - 1) = minIx (atI x node) ((stepsP x node).length - 1) then (0, 0, false) else
  (((stepsP x node).getD (maxIx (atI x node) ((stepsP x node).length - 1)) ⟨0, 0, 0, 0, 0⟩).edge, ((stepsP x node).getD (minIx (atI x node) ((stepsP x node).length - 1)) ⟨0, 0, 0, 0, 0⟩).edge, true)
theorem worst_few {x : Wb} {node : Int} (h : (stepsP x node).length < 2) : worstP x node = (0, 0, false) := if_pos h
theorem worst_same {x : Wb} {node : Int} (h : ¬ (stepsP x node).length < 2) {a : Nat} (ha : a = maxIx (atI x node) ((stepsP x node).length - 1)) (hb : a = minIx (atI x node) ((stepsP x node).length - 1)) : worstP x node = (0, 0, false) := by
  unfold worstP; rw [if_neg h, if_pos (ha.symm.trans hb)]
theorem worst_two {x : Wb} {node : Int} (h : ¬ (stepsP x node).length < 2) {a b : Nat} {p q : Stp} (ha : a = maxIx (atI x node) ((stepsP x node).length - 1)) (hb : b = minIx (atI x node) ((stepsP x node).length - 1)) (hne : a ≠ b) (hp : (stepsP x node)[a]? = some p) (hq : (stepsP x node)[b]? = some q) : worstP x node = (p.edge, q.edge, true) := by
  unfold worstP
  rw [if_neg h, ← ha, ← hb, if_neg hne, List.getD_eq_getElem?_getD, hp, List.getD_eq_getElem?_getD, hq]; rfl
theorem max_step {v : Nat → Int} {k j : Nat} (hj : j = maxIx v k) : (v j < v (k + 1) → k + 1 = maxIx v (k + 1)) ∧ (¬ v j < v (k + 1) → j = maxIx v (k + 1)) := by
  subst hj
  refine ⟨fun h => ?_, fun h => ?_⟩
  · rw [maxIx, if_pos h]
  · rw [maxIx, if_neg h]
theorem min_step {v : Nat → Int} {k j : Nat} (hj : j = minIx v k) : (v (k + 1) < v j → k + 1 = minIx v (k + 1)) ∧ (¬ v (k + 1) < v j → j = minIx v (k + 1)) := by
  subst hj
  refine ⟨fun h => ?_, fun h => ?_⟩
  · rw [minIx, if_pos h]
  · rw [minIx, if_neg h]
section
variable {P : Program} {a : Act} {n : Nat} {L : List (Nat × Value)} {o : Oper} {w : World} {R : Value → World → Prop}
/-- A quotient. -/
theorem op_quo (T T' : TypeId) (x y : Operand) (k : IntKind) (p q : Int) {v : Int} (F : Fr a n L) (ho : o.op = .binOp .quo T x y T') (hx : val? L x = some (.int k p)) (hy : val? L y = some (.int k q)) (hq : ¬ q = 0) (hv : IntKind.wrap k (p.tdiv q) = v) (hR : R (.int k v) w) : OpR P a w o R := by
  refine op_run (v := .int k v) (w' := w) ?_ hR
  unfold execOp
  simp only [ho, F.val hx, F.val hy]
  subst hv
  simp [eqGuard, binOp, Op.intDiv, hq]
end
open Go Go.RowKit

set_option maxRecDepth 100000 in
set_option maxHeartbeats 4000000 in
theorem share_any (w : World) (ed : Edg) (ok : ed.Ok) (s : Nat) (hs2 : s < 2) : Calls Try.prog 87 #[.agg #[.int .i64 ed.a, .int .i64 ed.b, .int .u64 ed.c0, .int .u64 ed.c1, .int .u64 ed.b0, .int .u64 ed.r0, .int .u64 ed.b1, .int .u64 ed.r1], .int .i64 (s : Nat)] w fun e w' => e = .returned (.int .u64 (shareP ed s)) ∧ Below w.heap.size w w' := by
 refine enter 36 Try.func87 rfl rfl rfl fun a F => ?_
 obtain ⟨q0, q1⟩ := ok.can (s : Int)
 obtain ⟨q2, q3⟩ := ok.can ((1 - s : Nat) : Int)
 have S := Sat.pushRest w
 refine s_reg ?_
 refine l_do F rfl rfl (op_box S _ _ (.agg #[.int .i64 ed.a, .int .i64 ed.b, .int .u64 ed.c0, .int .u64 ed.c1, .int .u64 ed.b0, .int .u64 ed.r0, .int .u64 ed.b1, .int .u64 ed.r1]) F rfl (by kernel_rfl) fun b1 z S a F => ?_)
 refine l_pure 1 (fun L => (4, .int .u64 0) :: L) F (by kernel_rfl) fun a F => ?_
 refine l_then ?_
 refine wp_seq ?_
 refine region_gx (fun D => fun (_ : Unit) => [rest w (· < w.heap.size), box b1 62 [.int .i64 ed.a, .int .i64 ed.b, .int .u64 ed.c0, .int .u64 ed.c1, .int .u64 ed.b0, .int .u64 ed.r0, .int .u64 ed.b1, .int .u64 ed.r1]]) (fun (_ : Unit) => [.int .i64 (s : Nat), .pointer (some ⟨b1, 2, none⟩), ptrA (some ⟨b1, 0, none⟩) (2 + s * 1), .int .u64 (ed.can (s : Nat)), .int .u64 ((ed.can (s : Nat)) / 2), .int .i64 (s : Nat), .int .i64 (1 - s : Nat), .pointer (some ⟨b1, 2, none⟩), ptrA (some ⟨b1, 0, none⟩) (2 + (1 - s) * 1), .int .u64 (ed.can (1 - s : Nat)), .int .u64 ((ed.can (1 - s : Nat)) / 2), .int .u64 ((ed.can (s : Nat)) / 2), .int .u64 ((ed.can (1 - s : Nat)) / 2)]) [(2, [], [3, 4]), (3, [2], [4]), (4, [2, 3], []), (6, [], [8, 9, 10]), (8, [6], [9, 10]), (9, [6, 8], [10]), (10, [6, 8, 9], [])] () rfl (by kernel_rfl) (by kernel_rfl) F S.drew ?_ ?_ ?_ ?_ ?_
 · rintro ⟨⟩; rfl
 · rintro ⟨⟩; kernel_rfl
 ·
  intro D D' x h
  cases x
  rfl
 ·
  refine ⟨?_, ?_⟩
  ·
   refine ⟨_, rfl, rfl, by kernel_rfl, ?_⟩
   rintro D ⟨⟩ a z S F
   refine ⟨by kernel_rfl, ?_⟩
   exact op_indexArr _ 26 _ _ (some ⟨b1, 0, none⟩) (2) 2 s 1 .i64 F rfl (by kernel_rfl) (by kernel_rfl) (by kernel_rfl) (by kernel_rfl) (by omega) rfl (⟨(), rfl, (SameB.refl _ _ rfl), S⟩)
  refine ⟨?_, ?_⟩
  ·
   refine ⟨_, rfl, rfl, by kernel_rfl, ?_⟩
   rintro D ⟨⟩ a z S F
   refine ⟨by kernel_rfl, ?_⟩
   exact op_load _ _ (some ⟨b1, 0, none⟩) (2 + s * 1) (.int .u64 (ed.can (s : Nat))) F rfl (by kernel_rfl) (by kernel_rfl) (cell_off (cBox S 1 rfl (edC_can ed (m := s) (by omega))) (by omega)) (⟨(), rfl, (SameB.refl _ _ rfl), S⟩)
  refine ⟨?_, ?_⟩
  ·
   refine ⟨_, rfl, rfl, by kernel_rfl, ?_⟩
   rintro D ⟨⟩ a z S F
   refine ⟨by kernel_rfl, ?_⟩
   exact op_quo _ _ _ _ .u64 (ed.can (s : Nat)) 2 F rfl (by kernel_rfl) (by kernel_rfl) (by omega) (IntWalk.u64_quo _ _ ⟨by omega, by omega, by omega⟩) (⟨(), rfl, (SameB.refl _ _ rfl), S⟩)
  refine ⟨?_, ?_⟩
  ·
   refine ⟨_, rfl, rfl, by kernel_rfl, ?_⟩
   rintro D ⟨⟩ a z S F
   refine ⟨by kernel_rfl, ?_⟩
   exact op_pure F (v0 := .int .i64 (IntKind.wrap .i64 (1 - (s : Nat)))) (v := .int .i64 (1 - s : Nat)) (by kernel_rfl) (wrn_i64 (by omega) (by omega) (by omega)) ⟨(), rfl, (SameB.refl _ _ rfl), S⟩
  refine ⟨?_, ?_⟩
  ·
   refine ⟨_, rfl, rfl, by kernel_rfl, ?_⟩
   rintro D ⟨⟩ a z S F
   refine ⟨by kernel_rfl, ?_⟩
   exact op_indexArr _ 26 _ _ (some ⟨b1, 0, none⟩) (2) 2 (1 - s) 1 .i64 F rfl (by kernel_rfl) (by kernel_rfl) (by kernel_rfl) (by kernel_rfl) (by omega) rfl (⟨(), rfl, (SameB.refl _ _ rfl), S⟩)
  refine ⟨?_, ?_⟩
  ·
   refine ⟨_, rfl, rfl, by kernel_rfl, ?_⟩
   rintro D ⟨⟩ a z S F
   refine ⟨by kernel_rfl, ?_⟩
   exact op_load _ _ (some ⟨b1, 0, none⟩) (2 + (1 - s) * 1) (.int .u64 (ed.can (1 - s : Nat))) F rfl (by kernel_rfl) (by kernel_rfl) (cell_off (cBox S 1 rfl (edC_can ed (m := 1 - s) (by omega))) (by omega)) (⟨(), rfl, (SameB.refl _ _ rfl), S⟩)
  refine ⟨?_, ?_⟩
  ·
   refine ⟨_, rfl, rfl, by kernel_rfl, ?_⟩
   rintro D ⟨⟩ a z S F
   refine ⟨by kernel_rfl, ?_⟩
   exact op_quo _ _ _ _ .u64 (ed.can (1 - s : Nat)) 2 F rfl (by kernel_rfl) (by kernel_rfl) (by omega) (IntWalk.u64_quo _ _ ⟨by omega, by omega, by omega⟩) (⟨(), rfl, (SameB.refl _ _ rfl), S⟩)
  trivial
 ·
  rintro ⟨⟩ a z F S
  have F := F.sub (l := [(5, .int .u64 ((ed.can (s : Nat)) / 2)), (6, .int .u64 ((ed.can (1 - s : Nat)) / 2))]) ⟨by kernel_rfl, by kernel_rfl, trivial⟩
  have S : Sat w z [rest w (· < w.heap.size), box b1 62 [.int .i64 ed.a, .int .i64 ed.b, .int .u64 ed.c0, .int .u64 ed.c1, .int .u64 ed.b0, .int .u64 ed.r0, .int .u64 ed.b1, .int .u64 ed.r1]] := S
  refine then_n ?_
  refine wp_seq ?_
  refine wp_block ?_
  refine wp_loop_m (fun m a z => ∃ (fu : Nat) (pa : Int) (pb : Int), m = fu ∧ (0 ≤ pa) ∧ (0 ≤ pb) ∧ (pa + pb ≤ 18446744073709551615) ∧ (pa + pb ≤ 4294967296 * 2 ^ fu) ∧ (halfP fu pa pb = halfP 32 (ed.can (s : Nat) / 2) (ed.can (1 - s : Nat) / 2)) ∧ Fr a 36 [(5, .int .u64 pa), (6, .int .u64 pb)] ∧ Sat w z [rest w (· < w.heap.size), box b1 62 [.int .i64 ed.a, .int .i64 ed.b, .int .u64 ed.c0, .int .u64 ed.c1, .int .u64 ed.b0, .int .u64 ed.r0, .int .u64 ed.b1, .int .u64 ed.r1]]) _ ⟨32, ed.can (s : Nat) / 2, ed.can (1 - s : Nat) / 2, rfl, (by omega), (by omega), (by omega), (by rw [show (4294967296 : Int) * 2 ^ 32 = 18446744073709551616 from by decide]; omega), rfl, F.sub ⟨by kernel_rfl, by kernel_rfl, trivial⟩, S⟩ ?_
  rintro m a z ⟨fu, pa, pb, hm, hf2, hf3, hf4, hf5, hf6, F, S⟩
  have hle := hf5
  have hh := hf6
  refine wp_seq ?_
  refine s_reg ?_
  refine l_pure 2 (fun L => (19, .int .u64 pb) :: (18, .int .u64 pa) :: L) F (by kernel_rfl) fun a F => ?_
  refine l_do F rfl rfl (op_pure F (v0 := .int .u64 (IntKind.wrap .u64 (pa + pb))) (v := .int .u64 (pa + pb)) (by kernel_rfl) (wr_u64 (by omega) (by omega)) fun a F => ?_)
  by_cases ht7 : (4294967296 : Int) < (pa + pb : Int)
  ·
   skip
   obtain ⟨f2, hf2, hle2, hh2⟩ := half_step hle ht7
   have hh3 := hh2.symm.trans hh
   refine l_do F rfl rfl (op_pure F (v0 := .bool (decide ((pa + pb : Int) > (4294967296 : Int)))) (v := .bool true) (by kernel_rfl) (gtrT ht7) fun a F => ?_)
   refine l_then ?_
   refine c_t F rfl ?_
   refine wp_skip ?_
   refine then_n ?_
   refine wp_block ?_
   refine wp_region_list ?_
   refine l_pure 1 (fun L => (22, .int .u64 pa) :: L) F (by kernel_rfl) fun a F => ?_
   refine l_do F rfl rfl (op_quo _ _ _ _ .u64 pa 2 F rfl (by kernel_rfl) (by kernel_rfl) (by omega) (IntWalk.u64_quo _ _ ⟨by omega, by omega, by omega⟩) (fun a F => ?_))
   refine l_pure 1 (fun L => (24, .int .u64 pb) :: L) F (by kernel_rfl) fun a F => ?_
   refine l_do F rfl rfl (op_quo _ _ _ _ .u64 pb 2 F rfl (by kernel_rfl) (by kernel_rfl) (by omega) (IntWalk.u64_quo _ _ ⟨by omega, by omega, by omega⟩) (fun a F => ?_))
   refine l_pure 2 (fun L => (6, .int .u64 (pb / 2)) :: (5, .int .u64 (pa / 2)) :: L) F (by kernel_rfl) fun a F => ?_
   refine l_nil (inb_n ?_)
   refine then_n ?_
   exact ⟨_, (by omega), f2, (pa / 2), (pb / 2), rfl, (by omega), (by omega), (by omega), hle2, hh3, F.sub ⟨by kernel_rfl, by kernel_rfl, trivial⟩, S⟩
  ·
   skip
   have hsh := share_is (e := ed) (s := s) hh ht7
   refine l_do F rfl rfl (op_pure F (v0 := .bool (decide ((pa + pb : Int) > (4294967296 : Int)))) (v := .bool false) (by kernel_rfl) (gtrF ht7) fun a F => ?_)
   refine l_then ?_
   refine c_f F rfl ?_
   refine wp_exit ?_
   refine then_x ?_
   refine then_x ?_
   refine inb_x ?_
   refine then_n ?_
   refine wp_seq ?_
   refine s_reg ?_
   refine l_pure 2 (fun L => (27, .int .u64 pb) :: (26, .int .u64 pa) :: L) F (by kernel_rfl) fun a F => ?_
   refine l_do F rfl rfl (op_pure F (v0 := .int .u64 (IntKind.wrap .u64 (pa + pb))) (v := .int .u64 (pa + pb)) (by kernel_rfl) (wr_u64 (by omega) (by omega)) fun a F => ?_)
   by_cases ht8 : (pa + pb : Int) = (0 : Int)
   ·
    skip
    rw [if_pos ht8] at hsh
    refine l_do F rfl rfl (op_pure F (v0 := .bool ((pa + pb : Int) == (0 : Int))) (v := .bool true) (by kernel_rfl) (eqlT ht8) fun a F => ?_)
    refine l_then ?_
    refine c_t F rfl ?_
    refine s_reg ?_
    refine l_pure 1 (fun L => (4, .int .u64 500) :: L) F (by kernel_rfl) fun a F => ?_
    refine l_then ?_
    refine wp_ret ?_
    refine then_r (?_)
    exact fin F [.tmp 4] [.int .u64 500] rfl ⟨by kernel_rfl, trivial⟩ (.int .u64 500) rfl ⟨by rw [hsh], S.below (i := 0) rfl⟩
   ·
    skip
    rw [if_neg ht8] at hsh
    refine l_do F rfl rfl (op_pure F (v0 := .bool ((pa + pb : Int) == (0 : Int))) (v := .bool false) (by kernel_rfl) (eqlF ht8) fun a F => ?_)
    refine l_then ?_
    refine c_f F rfl ?_
    refine wp_skip ?_
    refine then_n ?_
    refine s_reg ?_
    refine l_pure 1 (fun L => (30, .int .u64 pa) :: L) F (by kernel_rfl) fun a F => ?_
    refine l_do F rfl rfl (op_pure F (v0 := .int .u64 (IntKind.wrap .u64 (1000 * pa))) (v := .int .u64 (1000 * pa)) (by kernel_rfl) (wr_u64 (by omega) (by omega)) fun a F => ?_)
    refine l_pure 2 (fun L => (33, .int .u64 pb) :: (32, .int .u64 pa) :: L) F (by kernel_rfl) fun a F => ?_
    refine l_do F rfl rfl (op_pure F (v0 := .int .u64 (IntKind.wrap .u64 (pa + pb))) (v := .int .u64 (pa + pb)) (by kernel_rfl) (wr_u64 (by omega) (by omega)) fun a F => ?_)
    refine l_do F rfl rfl (op_quo _ _ _ _ .u64 (1000 * pa) (pa + pb) F rfl (by kernel_rfl) (by kernel_rfl) (by omega) (IntWalk.u64_quo _ _ ⟨by omega, by omega, by omega⟩) (fun a F => ?_))
    refine l_pure 1 (fun L => (4, .int .u64 ((1000 * pa) / (pa + pb))) :: L) F (by kernel_rfl) fun a F => ?_
    refine l_then ?_
    refine wp_ret ?_
    exact fin F [.tmp 4] [.int .u64 ((1000 * pa) / (pa + pb))] rfl ⟨by kernel_rfl, trivial⟩ (.int .u64 ((1000 * pa) / (pa + pb))) rfl ⟨by rw [hsh], S.below (i := 0) rfl⟩
set_option maxRecDepth 100000 in
set_option maxHeartbeats 4000000 in
theorem rshare_any (w : World) (ed : Edg) (ok : ed.Ok) (s : Nat) (hs2 : s < 2) : Calls Try.prog 92 #[.agg #[.int .i64 ed.a, .int .i64 ed.b, .int .u64 ed.c0, .int .u64 ed.c1, .int .u64 ed.b0, .int .u64 ed.r0, .int .u64 ed.b1, .int .u64 ed.r1], .int .i64 (s : Nat)] w fun e w' => e = .returned (.int .u64 (shareP ed s)) ∧ Below w.heap.size w w' := by
 refine enter 36 Try.func92 rfl rfl rfl fun a F => ?_
 obtain ⟨q0, q1⟩ := ok.can (s : Int)
 obtain ⟨q2, q3⟩ := ok.can ((1 - s : Nat) : Int)
 have S := Sat.pushRest w
 refine s_reg ?_
 refine l_do F rfl rfl (op_box S _ _ (.agg #[.int .i64 ed.a, .int .i64 ed.b, .int .u64 ed.c0, .int .u64 ed.c1, .int .u64 ed.b0, .int .u64 ed.r0, .int .u64 ed.b1, .int .u64 ed.r1]) F rfl (by kernel_rfl) fun b1 z S a F => ?_)
 refine l_pure 1 (fun L => (4, .int .u64 0) :: L) F (by kernel_rfl) fun a F => ?_
 refine l_then ?_
 refine wp_seq ?_
 refine region_gx (fun D => fun (_ : Unit) => [rest w (· < w.heap.size), box b1 104 [.int .i64 ed.a, .int .i64 ed.b, .int .u64 ed.c0, .int .u64 ed.c1, .int .u64 ed.b0, .int .u64 ed.r0, .int .u64 ed.b1, .int .u64 ed.r1]]) (fun (_ : Unit) => [.int .i64 (s : Nat), .pointer (some ⟨b1, 2, none⟩), ptrA (some ⟨b1, 0, none⟩) (2 + s * 1), .int .u64 (ed.can (s : Nat)), .int .u64 ((ed.can (s : Nat)) / 2), .int .i64 (s : Nat), .int .i64 (1 - s : Nat), .pointer (some ⟨b1, 2, none⟩), ptrA (some ⟨b1, 0, none⟩) (2 + (1 - s) * 1), .int .u64 (ed.can (1 - s : Nat)), .int .u64 ((ed.can (1 - s : Nat)) / 2), .int .u64 ((ed.can (s : Nat)) / 2), .int .u64 ((ed.can (1 - s : Nat)) / 2)]) [(2, [], [3, 4]), (3, [2], [4]), (4, [2, 3], []), (6, [], [8, 9, 10]), (8, [6], [9, 10]), (9, [6, 8], [10]), (10, [6, 8, 9], [])] () rfl (by kernel_rfl) (by kernel_rfl) F S.drew ?_ ?_ ?_ ?_ ?_
 · rintro ⟨⟩; rfl
 · rintro ⟨⟩; kernel_rfl
 ·
  intro D D' x h
  cases x
  rfl
 ·
  refine ⟨?_, ?_⟩
  ·
   refine ⟨_, rfl, rfl, by kernel_rfl, ?_⟩
   rintro D ⟨⟩ a z S F
   refine ⟨by kernel_rfl, ?_⟩
   exact op_indexArr _ 26 _ _ (some ⟨b1, 0, none⟩) (2) 2 s 1 .i64 F rfl (by kernel_rfl) (by kernel_rfl) (by kernel_rfl) (by kernel_rfl) (by omega) rfl (⟨(), rfl, (SameB.refl _ _ rfl), S⟩)
  refine ⟨?_, ?_⟩
  ·
   refine ⟨_, rfl, rfl, by kernel_rfl, ?_⟩
   rintro D ⟨⟩ a z S F
   refine ⟨by kernel_rfl, ?_⟩
   exact op_load _ _ (some ⟨b1, 0, none⟩) (2 + s * 1) (.int .u64 (ed.can (s : Nat))) F rfl (by kernel_rfl) (by kernel_rfl) (cell_off (cBox S 1 rfl (edC_can ed (m := s) (by omega))) (by omega)) (⟨(), rfl, (SameB.refl _ _ rfl), S⟩)
  refine ⟨?_, ?_⟩
  ·
   refine ⟨_, rfl, rfl, by kernel_rfl, ?_⟩
   rintro D ⟨⟩ a z S F
   refine ⟨by kernel_rfl, ?_⟩
   exact op_quo _ _ _ _ .u64 (ed.can (s : Nat)) 2 F rfl (by kernel_rfl) (by kernel_rfl) (by omega) (IntWalk.u64_quo _ _ ⟨by omega, by omega, by omega⟩) (⟨(), rfl, (SameB.refl _ _ rfl), S⟩)
  refine ⟨?_, ?_⟩
  ·
   refine ⟨_, rfl, rfl, by kernel_rfl, ?_⟩
   rintro D ⟨⟩ a z S F
   refine ⟨by kernel_rfl, ?_⟩
   exact op_pure F (v0 := .int .i64 (IntKind.wrap .i64 (1 - (s : Nat)))) (v := .int .i64 (1 - s : Nat)) (by kernel_rfl) (wrn_i64 (by omega) (by omega) (by omega)) ⟨(), rfl, (SameB.refl _ _ rfl), S⟩
  refine ⟨?_, ?_⟩
  ·
   refine ⟨_, rfl, rfl, by kernel_rfl, ?_⟩
   rintro D ⟨⟩ a z S F
   refine ⟨by kernel_rfl, ?_⟩
   exact op_indexArr _ 26 _ _ (some ⟨b1, 0, none⟩) (2) 2 (1 - s) 1 .i64 F rfl (by kernel_rfl) (by kernel_rfl) (by kernel_rfl) (by kernel_rfl) (by omega) rfl (⟨(), rfl, (SameB.refl _ _ rfl), S⟩)
  refine ⟨?_, ?_⟩
  ·
   refine ⟨_, rfl, rfl, by kernel_rfl, ?_⟩
   rintro D ⟨⟩ a z S F
   refine ⟨by kernel_rfl, ?_⟩
   exact op_load _ _ (some ⟨b1, 0, none⟩) (2 + (1 - s) * 1) (.int .u64 (ed.can (1 - s : Nat))) F rfl (by kernel_rfl) (by kernel_rfl) (cell_off (cBox S 1 rfl (edC_can ed (m := 1 - s) (by omega))) (by omega)) (⟨(), rfl, (SameB.refl _ _ rfl), S⟩)
  refine ⟨?_, ?_⟩
  ·
   refine ⟨_, rfl, rfl, by kernel_rfl, ?_⟩
   rintro D ⟨⟩ a z S F
   refine ⟨by kernel_rfl, ?_⟩
   exact op_quo _ _ _ _ .u64 (ed.can (1 - s : Nat)) 2 F rfl (by kernel_rfl) (by kernel_rfl) (by omega) (IntWalk.u64_quo _ _ ⟨by omega, by omega, by omega⟩) (⟨(), rfl, (SameB.refl _ _ rfl), S⟩)
  trivial
 ·
  rintro ⟨⟩ a z F S
  have F := F.sub (l := [(5, .int .u64 ((ed.can (s : Nat)) / 2)), (6, .int .u64 ((ed.can (1 - s : Nat)) / 2))]) ⟨by kernel_rfl, by kernel_rfl, trivial⟩
  have S : Sat w z [rest w (· < w.heap.size), box b1 104 [.int .i64 ed.a, .int .i64 ed.b, .int .u64 ed.c0, .int .u64 ed.c1, .int .u64 ed.b0, .int .u64 ed.r0, .int .u64 ed.b1, .int .u64 ed.r1]] := S
  refine then_n ?_
  refine wp_seq ?_
  refine wp_block ?_
  refine wp_loop_m (fun m a z => ∃ (fu : Nat) (pa : Int) (pb : Int), m = fu ∧ (0 ≤ pa) ∧ (0 ≤ pb) ∧ (pa + pb ≤ 18446744073709551615) ∧ (pa + pb ≤ 4294967296 * 2 ^ fu) ∧ (halfP fu pa pb = halfP 32 (ed.can (s : Nat) / 2) (ed.can (1 - s : Nat) / 2)) ∧ Fr a 36 [(5, .int .u64 pa), (6, .int .u64 pb)] ∧ Sat w z [rest w (· < w.heap.size), box b1 104 [.int .i64 ed.a, .int .i64 ed.b, .int .u64 ed.c0, .int .u64 ed.c1, .int .u64 ed.b0, .int .u64 ed.r0, .int .u64 ed.b1, .int .u64 ed.r1]]) _ ⟨32, ed.can (s : Nat) / 2, ed.can (1 - s : Nat) / 2, rfl, (by omega), (by omega), (by omega), (by rw [show (4294967296 : Int) * 2 ^ 32 = 18446744073709551616 from by decide]; omega), rfl, F.sub ⟨by kernel_rfl, by kernel_rfl, trivial⟩, S⟩ ?_
  rintro m a z ⟨fu, pa, pb, hm, hf2, hf3, hf4, hf5, hf6, F, S⟩
  have hle := hf5
  have hh := hf6
  refine wp_seq ?_
  refine s_reg ?_
  refine l_pure 2 (fun L => (19, .int .u64 pb) :: (18, .int .u64 pa) :: L) F (by kernel_rfl) fun a F => ?_
  refine l_do F rfl rfl (op_pure F (v0 := .int .u64 (IntKind.wrap .u64 (pa + pb))) (v := .int .u64 (pa + pb)) (by kernel_rfl) (wr_u64 (by omega) (by omega)) fun a F => ?_)
  by_cases ht7 : (4294967296 : Int) < (pa + pb : Int)
  ·
   skip
   obtain ⟨f2, hf2, hle2, hh2⟩ := half_step hle ht7
   have hh3 := hh2.symm.trans hh
   refine l_do F rfl rfl (op_pure F (v0 := .bool (decide ((pa + pb : Int) > (4294967296 : Int)))) (v := .bool true) (by kernel_rfl) (gtrT ht7) fun a F => ?_)
   refine l_then ?_
   refine c_t F rfl ?_
   refine wp_skip ?_
   refine then_n ?_
   refine wp_block ?_
   refine s_reg ?_
   refine l_pure 1 (fun L => (22, .int .u64 pa) :: L) F (by kernel_rfl) fun a F => ?_
   refine l_do F rfl rfl (op_quo _ _ _ _ .u64 pa 2 F rfl (by kernel_rfl) (by kernel_rfl) (by omega) (IntWalk.u64_quo _ _ ⟨by omega, by omega, by omega⟩) (fun a F => ?_))
   refine l_pure 1 (fun L => (5, .int .u64 (pa / 2)) :: L) F (by kernel_rfl) fun a F => ?_
   refine l_then ?_
   refine wp_region_list ?_
   refine l_pure 1 (fun L => (24, .int .u64 pb) :: L) F (by kernel_rfl) fun a F => ?_
   refine l_do F rfl rfl (op_quo _ _ _ _ .u64 pb 2 F rfl (by kernel_rfl) (by kernel_rfl) (by omega) (IntWalk.u64_quo _ _ ⟨by omega, by omega, by omega⟩) (fun a F => ?_))
   refine l_pure 1 (fun L => (6, .int .u64 (pb / 2)) :: L) F (by kernel_rfl) fun a F => ?_
   refine l_nil (inb_n ?_)
   refine then_n ?_
   exact ⟨_, (by omega), f2, (pa / 2), (pb / 2), rfl, (by omega), (by omega), (by omega), hle2, hh3, F.sub ⟨by kernel_rfl, by kernel_rfl, trivial⟩, S⟩
  ·
   skip
   have hsh := share_is (e := ed) (s := s) hh ht7
   refine l_do F rfl rfl (op_pure F (v0 := .bool (decide ((pa + pb : Int) > (4294967296 : Int)))) (v := .bool false) (by kernel_rfl) (gtrF ht7) fun a F => ?_)
   refine l_then ?_
   refine c_f F rfl ?_
   refine wp_exit ?_
   refine then_x ?_
   refine then_x ?_
   refine inb_x ?_
   refine then_n ?_
   refine wp_seq ?_
   refine s_reg ?_
   refine l_pure 2 (fun L => (27, .int .u64 pb) :: (26, .int .u64 pa) :: L) F (by kernel_rfl) fun a F => ?_
   refine l_do F rfl rfl (op_pure F (v0 := .int .u64 (IntKind.wrap .u64 (pa + pb))) (v := .int .u64 (pa + pb)) (by kernel_rfl) (wr_u64 (by omega) (by omega)) fun a F => ?_)
   by_cases ht8 : (pa + pb : Int) = (0 : Int)
   ·
    skip
    rw [if_pos ht8] at hsh
    refine l_do F rfl rfl (op_pure F (v0 := .bool ((pa + pb : Int) == (0 : Int))) (v := .bool true) (by kernel_rfl) (eqlT ht8) fun a F => ?_)
    refine l_then ?_
    refine c_t F rfl ?_
    refine s_reg ?_
    refine l_pure 1 (fun L => (4, .int .u64 500) :: L) F (by kernel_rfl) fun a F => ?_
    refine l_then ?_
    refine wp_ret ?_
    refine then_r (?_)
    exact fin F [.tmp 4] [.int .u64 500] rfl ⟨by kernel_rfl, trivial⟩ (.int .u64 500) rfl ⟨by rw [hsh], S.below (i := 0) rfl⟩
   ·
    skip
    rw [if_neg ht8] at hsh
    refine l_do F rfl rfl (op_pure F (v0 := .bool ((pa + pb : Int) == (0 : Int))) (v := .bool false) (by kernel_rfl) (eqlF ht8) fun a F => ?_)
    refine l_then ?_
    refine c_f F rfl ?_
    refine wp_skip ?_
    refine then_n ?_
    refine s_reg ?_
    refine l_pure 1 (fun L => (30, .int .u64 pa) :: L) F (by kernel_rfl) fun a F => ?_
    refine l_do F rfl rfl (op_pure F (v0 := .int .u64 (IntKind.wrap .u64 (1000 * pa))) (v := .int .u64 (1000 * pa)) (by kernel_rfl) (wr_u64 (by omega) (by omega)) fun a F => ?_)
    refine l_pure 2 (fun L => (33, .int .u64 pb) :: (32, .int .u64 pa) :: L) F (by kernel_rfl) fun a F => ?_
    refine l_do F rfl rfl (op_pure F (v0 := .int .u64 (IntKind.wrap .u64 (pa + pb))) (v := .int .u64 (pa + pb)) (by kernel_rfl) (wr_u64 (by omega) (by omega)) fun a F => ?_)
    refine l_do F rfl rfl (op_quo _ _ _ _ .u64 (1000 * pa) (pa + pb) F rfl (by kernel_rfl) (by kernel_rfl) (by omega) (IntWalk.u64_quo _ _ ⟨by omega, by omega, by omega⟩) (fun a F => ?_))
    refine l_pure 1 (fun L => (4, .int .u64 ((1000 * pa) / (pa + pb))) :: L) F (by kernel_rfl) fun a F => ?_
    refine l_then ?_
    refine wp_ret ?_
    exact fin F [.tmp 4] [.int .u64 ((1000 * pa) / (pa + pb))] rfl ⟨by kernel_rfl, trivial⟩ (.int .u64 ((1000 * pa) / (pa + pb))) rfl ⟨by rw [hsh], S.below (i := 0) rfl⟩
theorem atP_bd {x : Wb} (ok : x.Ok) {node : Int} {q : Stp} (h : ∃ k ed s, StpIn x node q k ed s) : 0 ≤ atP x node q ∧ atP x node q ≤ 1000 := by
  obtain ⟨k, ed, s, h⟩ := h
  rw [atP_of h]
  exact share_bd (ok.e ed (List.mem_of_getElem? h.2.1)) s
set_option maxRecDepth 100000 in
set_option maxHeartbeats 4000000 in
theorem at1_any (w : World) (G : Nat → Prop) (bw bn : Nat) (As : Option Addr) (cs : Nat) (Ae : Option Addr) (ce : Nat) (x : Wb) (h : WebAt w As cs Ae ce x) (ok : x.Ok) (gs : InG G As (x.spots.flatMap spC)) (ge : InG G Ae (x.edges.flatMap edC)) (node : Int) (sq : Stp) (k : Nat) (ed : Edg) (s : Nat) (hst : StpIn x node sq k ed s) (hS : Sat w w [box bw 32 [.slice As x.spots.length cs, .slice Ae x.edges.length ce], box bn 3 [.int .i64 node], rest w G]) : Calls Try.prog 86 #[.agg #[.int .i64 sq.edge, .int .i64 sq.to, .int .u64 sq.can, .int .u64 sq.base, .int .u64 sq.rate], .pointer (some ⟨bw, 0, none⟩), .pointer (some ⟨bn, 0, none⟩)] w fun e w' => e = .returned (.int .u64 (atP x node sq)) ∧ Sat w w' [box bw 32 [.slice As x.spots.length cs, .slice Ae x.edges.length ce], box bn 3 [.int .i64 node], rest w G] := by
 have hat := atP_of hst
 obtain ⟨se, sto, sca, sba, sra⟩ := sq
 obtain ⟨hsq, hed, hsd, hs2⟩ := hst
 have hsq : se = (k : Nat) := hsq
 subst hsq
 have hk := get_lt hed
 refine enter 20 Try.func86 rfl rfl rfl fun a F => ?_
 have S : Sat w w [rest w G, box bw 32 [.slice As x.spots.length cs, .slice Ae x.edges.length ce], box bn 3 [.int .i64 node]] := hS.pick [2, 0, 1] (by decide)
 refine s_reg ?_
 refine l_do F rfl rfl (op_box S _ _ (.agg #[.int .i64 (k : Nat), .int .i64 sto, .int .u64 sca, .int .u64 sba, .int .u64 sra]) F rfl (by kernel_rfl) fun b1 z S a F => ?_)
 refine l_pure 1 (fun L => (4, .int .u64 0) :: L) F (by kernel_rfl) fun a F => ?_
 refine l_then ?_
 refine wp_seq ?_
 refine region_gx (fun D => fun (_ : Unit) => [rest w G, box bw 32 [.slice As x.spots.length cs, .slice Ae x.edges.length ce], box bn 3 [.int .i64 node], box b1 133 [.int .i64 (k : Nat), .int .i64 sto, .int .u64 sca, .int .u64 sba, .int .u64 sra]]) (fun (_ : Unit) => [.pointer (some ⟨bw, 1, none⟩), .slice Ae x.edges.length ce, .pointer (some ⟨b1, 0, none⟩), .int .i64 (k : Nat), ptrA Ae (k * 8), .agg #[.int .i64 ed.a, .int .i64 ed.b, .int .u64 ed.c0, .int .u64 ed.c1, .int .u64 ed.b0, .int .u64 ed.r0, .int .u64 ed.b1, .int .u64 ed.r1], .pointer (some ⟨bw, 1, none⟩), .slice Ae x.edges.length ce, .pointer (some ⟨b1, 0, none⟩), .int .i64 (k : Nat), ptrA Ae (k * 8), .agg #[.int .i64 ed.a, .int .i64 ed.b, .int .u64 ed.c0, .int .u64 ed.c1, .int .u64 ed.b0, .int .u64 ed.r0, .int .u64 ed.b1, .int .u64 ed.r1], .int .i64 node, .int .i64 (s : Nat), .int .u64 (shareP ed s), .int .u64 (shareP ed s)]) [(1, [], [4, 5, 14]), (3, [], [4, 5, 14]), (4, [1, 3], [5, 14]), (5, [1, 3, 4], [14]), (7, [], [10, 11, 13, 14]), (9, [], [10, 11, 13, 14]), (10, [7, 9], [11, 13, 14]), (11, [7, 9, 10], [13, 14]), (12, [], [13, 14]), (13, [7, 9, 10, 11, 12], [14]), (14, [1, 3, 4, 5, 7, 9, 10, 11, 12, 13], [])] () rfl (by kernel_rfl) (by kernel_rfl) F S.drew ?_ ?_ ?_ ?_ ?_
 · rintro ⟨⟩; rfl
 · rintro ⟨⟩; kernel_rfl
 ·
  intro D D' x h
  cases x
  rfl
 ·
  refine ⟨?_, ?_⟩
  ·
   refine ⟨_, rfl, rfl, by kernel_rfl, ?_⟩
   rintro D ⟨⟩ a z S F
   refine ⟨by kernel_rfl, ?_⟩
   exact op_load _ _ (some ⟨bw, 0, none⟩) 1 (.slice Ae x.edges.length ce) F rfl (by kernel_rfl) (by kernel_rfl) (cBox S 1 rfl (j := 1) rfl) (⟨(), rfl, (SameB.refl _ _ rfl), S⟩)
  refine ⟨?_, ?_⟩
  ·
   refine ⟨_, rfl, rfl, by kernel_rfl, ?_⟩
   rintro D ⟨⟩ a z S F
   refine ⟨by kernel_rfl, ?_⟩
   exact op_load _ _ (some ⟨b1, 0, none⟩) 0 (.int .i64 (k : Nat)) F rfl (by kernel_rfl) (by kernel_rfl) (cBox S 3 rfl (j := 0) rfl) (⟨(), rfl, (SameB.refl _ _ rfl), S⟩)
  refine ⟨?_, ?_⟩
  ·
   refine ⟨_, rfl, rfl, by kernel_rfl, ?_⟩
   rintro D ⟨⟩ a z S F
   refine ⟨by kernel_rfl, ?_⟩
   exact op_index _ 62 _ _ Ae x.edges.length ce k 8 .i64 F rfl (by kernel_rfl) (by kernel_rfl) (by kernel_rfl) (by kernel_rfl) (get_lt hed) (recs_some h.e (m := k) (get_lt hed)) (⟨(), rfl, (SameB.refl _ _ rfl), S⟩)
  refine ⟨?_, ?_⟩
  ·
   refine ⟨_, rfl, rfl, by kernel_rfl, ?_⟩
   rintro D ⟨⟩ a z S F
   refine ⟨by kernel_rfl, ?_⟩
   exact op_loadK _ _ Ae (k * 8) [.int .i64 ed.a, .int .i64 ed.b, .int .u64 ed.c0, .int .u64 ed.c1, .int .u64 ed.b0, .int .u64 ed.r0, .int .u64 ed.b1, .int .u64 ed.r1] F rfl (by kernel_rfl) (by kernel_rfl) (by kernel_rfl) (by simp) (cReadK0 edC_len (h.e.mono (src_rest S (i := 0) rfl h.e.src ge)) hed (by kernel_rfl)) (⟨(), rfl, (SameB.refl _ _ rfl), S⟩)
  refine ⟨?_, ?_⟩
  ·
   refine ⟨_, rfl, rfl, by kernel_rfl, ?_⟩
   rintro D ⟨⟩ a z S F
   refine ⟨by kernel_rfl, ?_⟩
   exact op_load _ _ (some ⟨bw, 0, none⟩) 1 (.slice Ae x.edges.length ce) F rfl (by kernel_rfl) (by kernel_rfl) (cBox S 1 rfl (j := 1) rfl) (⟨(), rfl, (SameB.refl _ _ rfl), S⟩)
  refine ⟨?_, ?_⟩
  ·
   refine ⟨_, rfl, rfl, by kernel_rfl, ?_⟩
   rintro D ⟨⟩ a z S F
   refine ⟨by kernel_rfl, ?_⟩
   exact op_load _ _ (some ⟨b1, 0, none⟩) 0 (.int .i64 (k : Nat)) F rfl (by kernel_rfl) (by kernel_rfl) (cBox S 3 rfl (j := 0) rfl) (⟨(), rfl, (SameB.refl _ _ rfl), S⟩)
  refine ⟨?_, ?_⟩
  ·
   refine ⟨_, rfl, rfl, by kernel_rfl, ?_⟩
   rintro D ⟨⟩ a z S F
   refine ⟨by kernel_rfl, ?_⟩
   exact op_index _ 62 _ _ Ae x.edges.length ce k 8 .i64 F rfl (by kernel_rfl) (by kernel_rfl) (by kernel_rfl) (by kernel_rfl) (get_lt hed) (recs_some h.e (m := k) (get_lt hed)) (⟨(), rfl, (SameB.refl _ _ rfl), S⟩)
  refine ⟨?_, ?_⟩
  ·
   refine ⟨_, rfl, rfl, by kernel_rfl, ?_⟩
   rintro D ⟨⟩ a z S F
   refine ⟨by kernel_rfl, ?_⟩
   exact op_loadK _ _ Ae (k * 8) [.int .i64 ed.a, .int .i64 ed.b, .int .u64 ed.c0, .int .u64 ed.c1, .int .u64 ed.b0, .int .u64 ed.r0, .int .u64 ed.b1, .int .u64 ed.r1] F rfl (by kernel_rfl) (by kernel_rfl) (by kernel_rfl) (by simp) (cReadK0 edC_len (h.e.mono (src_rest S (i := 0) rfl h.e.src ge)) hed (by kernel_rfl)) (⟨(), rfl, (SameB.refl _ _ rfl), S⟩)
  refine ⟨?_, ?_⟩
  ·
   refine ⟨_, rfl, rfl, by kernel_rfl, ?_⟩
   rintro D ⟨⟩ a z S F
   refine ⟨by kernel_rfl, ?_⟩
   exact op_load _ _ (some ⟨bn, 0, none⟩) 0 (.int .i64 node) F rfl (by kernel_rfl) (by kernel_rfl) (cBox S 2 rfl (j := 0) rfl) (⟨(), rfl, (SameB.refl _ _ rfl), S⟩)
  refine ⟨?_, ?_⟩
  ·
   refine ⟨_, rfl, rfl, by kernel_rfl, ?_⟩
   rintro D ⟨⟩ a z S F
   refine ⟨by kernel_rfl, ?_⟩
   refine op_fn F (by kernel_rfl) (side_at hsd _) ?_
   rintro e z ⟨rfl, hb⟩
   have S := S.grow hb
   exact ⟨_, rfl, (), rfl, (SameB.refl _ _ rfl), S⟩
  refine ⟨?_, ?_⟩
  ·
   refine ⟨_, rfl, rfl, by kernel_rfl, ?_⟩
   rintro D ⟨⟩ a z S F
   refine ⟨by kernel_rfl, ?_⟩
   refine op_fn F (by kernel_rfl) (share_any _ ed (ok.e ed (List.mem_of_getElem? hed)) s hs2) ?_
   rintro e z ⟨rfl, hb⟩
   have S := S.grow hb
   exact ⟨_, rfl, (), rfl, (SameB.refl _ _ rfl), S⟩
  trivial
 ·
  rintro ⟨⟩ a z F S
  have F := F.sub (l := [(4, .int .u64 (shareP ed s))]) ⟨by kernel_rfl, trivial⟩
  have S : Sat w z [rest w G, box bw 32 [.slice As x.spots.length cs, .slice Ae x.edges.length ce], box bn 3 [.int .i64 node], box b1 133 [.int .i64 (k : Nat), .int .i64 sto, .int .u64 sca, .int .u64 sba, .int .u64 sra]] := S
  refine then_n ?_
  refine wp_ret ?_
  exact fin F [.tmp 4] [.int .u64 (shareP ed s)] rfl ⟨by kernel_rfl, trivial⟩ (.int .u64 (shareP ed s)) rfl ⟨by rw [hat], S.pick [1, 2, 0] (by decide)⟩
set_option maxRecDepth 100000 in
set_option maxHeartbeats 4000000 in
theorem cmp2_any (w : World) (G : Nat → Prop) (bf bw bn : Nat) (As : Option Addr) (cs : Nat) (Ae : Option Addr) (ce : Nat) (x : Wb) (h : WebAt w As cs Ae ce x) (ok : x.Ok) (gs : InG G As (x.spots.flatMap spC)) (ge : InG G Ae (x.edges.flatMap edC)) (node : Int) (qa qb : Stp) (hqa : ∃ k ed s, StpIn x node qa k ed s) (hqb : ∃ k ed s, StpIn x node qb k ed s) (hS : Sat w w [box bf 156 [.func (.func 86) #[] #[.pointer (some ⟨bw, 0, none⟩), .pointer (some ⟨bn, 0, none⟩)]], box bw 32 [.slice As x.spots.length cs, .slice Ae x.edges.length ce], box bn 3 [.int .i64 node], rest w G]) : Calls Try.prog 89 #[.agg #[.int .i64 qa.edge, .int .i64 qa.to, .int .u64 qa.can, .int .u64 qa.base, .int .u64 qa.rate], .agg #[.int .i64 qb.edge, .int .i64 qb.to, .int .u64 qb.can, .int .u64 qb.base, .int .u64 qb.rate], .pointer (some ⟨bf, 0, none⟩)] w fun e w' => e = .returned (.int .i64 (atP x node qa - atP x node qb)) ∧ Sat w w' [box bf 156 [.func (.func 86) #[] #[.pointer (some ⟨bw, 0, none⟩), .pointer (some ⟨bn, 0, none⟩)]], box bw 32 [.slice As x.spots.length cs, .slice Ae x.edges.length ce], box bn 3 [.int .i64 node], rest w G] := by
 refine enter 15 Try.func89 rfl rfl rfl fun a F => ?_
 obtain ⟨hb1, hb2⟩ := atP_bd ok hqa
 obtain ⟨hb3, hb4⟩ := atP_bd ok hqb
 obtain ⟨kqa, eqa, sqa, hqa⟩ := hqa
 obtain ⟨kqb, eqb, sqb, hqb⟩ := hqb
 have S : Sat w w [rest w G, box bf 156 [.func (.func 86) #[] #[.pointer (some ⟨bw, 0, none⟩), .pointer (some ⟨bn, 0, none⟩)]], box bw 32 [.slice As x.spots.length cs, .slice Ae x.edges.length ce], box bn 3 [.int .i64 node]] := hS.pick [3, 0, 1, 2] (by decide)
 refine s_reg ?_
 refine l_do F rfl rfl (op_box S _ _ (.agg #[.int .i64 qa.edge, .int .i64 qa.to, .int .u64 qa.can, .int .u64 qa.base, .int .u64 qa.rate]) F rfl (by kernel_rfl) fun b1 z S a F => ?_)
 refine l_do F rfl rfl (op_box S _ _ (.agg #[.int .i64 qb.edge, .int .i64 qb.to, .int .u64 qb.can, .int .u64 qb.base, .int .u64 qb.rate]) F rfl (by kernel_rfl) fun b2 z S a F => ?_)
 refine l_pure 1 (fun L => (5, .int .i64 0) :: L) F (by kernel_rfl) fun a F => ?_
 refine l_then ?_
 refine wp_seq ?_
 refine region_gx (fun D => fun (_ : Unit) => [rest w G, box bf 156 [.func (.func 86) #[] #[.pointer (some ⟨bw, 0, none⟩), .pointer (some ⟨bn, 0, none⟩)]], box bw 32 [.slice As x.spots.length cs, .slice Ae x.edges.length ce], box bn 3 [.int .i64 node], box b1 133 [.int .i64 qa.edge, .int .i64 qa.to, .int .u64 qa.can, .int .u64 qa.base, .int .u64 qa.rate], box b2 133 [.int .i64 qb.edge, .int .i64 qb.to, .int .u64 qb.can, .int .u64 qb.base, .int .u64 qb.rate]]) (fun (_ : Unit) => [.func (.func 86) #[] #[.pointer (some ⟨bw, 0, none⟩), .pointer (some ⟨bn, 0, none⟩)], .agg #[.int .i64 qa.edge, .int .i64 qa.to, .int .u64 qa.can, .int .u64 qa.base, .int .u64 qa.rate], .int .u64 (atP x node qa), .int .i64 (atP x node qa), .func (.func 86) #[] #[.pointer (some ⟨bw, 0, none⟩), .pointer (some ⟨bn, 0, none⟩)], .agg #[.int .i64 qb.edge, .int .i64 qb.to, .int .u64 qb.can, .int .u64 qb.base, .int .u64 qb.rate], .int .u64 (atP x node qb), .int .i64 (atP x node qb), .int .i64 ((atP x node qa) - (atP x node qb)), .int .i64 ((atP x node qa) - (atP x node qb))]) [(0, [], [2, 3, 6, 7, 8]), (1, [], [2, 3, 6, 7, 8]), (2, [0, 1], [3, 6, 7, 8]), (3, [0, 1, 2], [8]), (4, [], [6, 7, 8]), (5, [], [6, 7, 8]), (6, [0, 1, 2, 4, 5], [7, 8]), (7, [0, 1, 2, 4, 5, 6], [8]), (8, [0, 1, 2, 3, 4, 5, 6, 7], [])] () rfl (by kernel_rfl) (by kernel_rfl) F S.drew ?_ ?_ ?_ ?_ ?_
 · rintro ⟨⟩; rfl
 · rintro ⟨⟩; kernel_rfl
 ·
  intro D D' x h
  cases x
  rfl
 ·
  refine ⟨?_, ?_⟩
  ·
   refine ⟨_, rfl, rfl, by kernel_rfl, ?_⟩
   rintro D ⟨⟩ a z S F
   refine ⟨by kernel_rfl, ?_⟩
   exact op_load _ _ (some ⟨bf, 0, none⟩) 0 (.func (.func 86) #[] #[.pointer (some ⟨bw, 0, none⟩), .pointer (some ⟨bn, 0, none⟩)]) F rfl (by kernel_rfl) (by kernel_rfl) (cBox S 1 rfl (j := 0) rfl) (⟨(), rfl, (SameB.refl _ _ rfl), S⟩)
  refine ⟨?_, ?_⟩
  ·
   refine ⟨_, rfl, rfl, by kernel_rfl, ?_⟩
   rintro D ⟨⟩ a z S F
   refine ⟨by kernel_rfl, ?_⟩
   exact op_loadK _ _ (some ⟨b1, 0, none⟩) 0 [.int .i64 qa.edge, .int .i64 qa.to, .int .u64 qa.can, .int .u64 qa.base, .int .u64 qa.rate] F rfl (by kernel_rfl) (by kernel_rfl) (by kernel_rfl) (by simp) (cBoxK S 4 rfl 0 (by kernel_rfl)) (⟨(), rfl, (SameB.refl _ _ rfl), S⟩)
  refine ⟨?_, ?_⟩
  ·
   refine ⟨_, rfl, rfl, by kernel_rfl, ?_⟩
   rintro D ⟨⟩ a z S F
   refine ⟨by kernel_rfl, ?_⟩
   have S : Sat w z [rest w G, box bf 156 [.func (.func 86) #[] #[.pointer (some ⟨bw, 0, none⟩), .pointer (some ⟨bn, 0, none⟩)]], box bw 32 [.slice As x.spots.length cs, .slice Ae x.edges.length ce], box bn 3 [.int .i64 node], box b1 133 [.int .i64 qa.edge, .int .i64 qa.to, .int .u64 qa.can, .int .u64 qa.base, .int .u64 qa.rate], box b2 133 [.int .i64 qb.edge, .int .i64 qb.to, .int .u64 qb.can, .int .u64 qb.base, .int .u64 qb.rate]] := S
   obtain ⟨G9, g9, hin9, hlt9, k9⟩ := S.frameB [2, 3] (by decide) rfl
   refine op_fn F (by kernel_rfl) (at1_any _ G9 bw bn As cs Ae ce x ⟨h.s.mono (src_rest S (i := 0) rfl h.s.src gs), h.e.mono (src_rest S (i := 0) rfl h.e.src ge)⟩ ok (InG.rest hin9 0 (by decide) rfl gs) (InG.rest hin9 0 (by decide) rfl ge) node qa kqa eqa sqa hqa g9) ?_
   rintro e z9 ⟨rfl, g⟩
   have S : Sat w z9 [rest w G, box bf 156 [.func (.func 86) #[] #[.pointer (some ⟨bw, 0, none⟩), .pointer (some ⟨bn, 0, none⟩)]], box bw 32 [.slice As x.spots.length cs, .slice Ae x.edges.length ce], box bn 3 [.int .i64 node], box b1 133 [.int .i64 qa.edge, .int .i64 qa.to, .int .u64 qa.can, .int .u64 qa.base, .int .u64 qa.rate], box b2 133 [.int .i64 qb.edge, .int .i64 qb.to, .int .u64 qb.can, .int .u64 qb.base, .int .u64 qb.rate]] := k9 z9 [box bw 32 [.slice As x.spots.length cs, .slice Ae x.edges.length ce], box bn 3 [.int .i64 node]] rfl g
   clear g g9 k9 hin9 hlt9
   exact ⟨_, rfl, (), rfl, (SameB.refl _ _ rfl), S⟩
  refine ⟨?_, ?_⟩
  ·
   refine ⟨_, rfl, rfl, by kernel_rfl, ?_⟩
   rintro D ⟨⟩ a z S F
   refine ⟨by kernel_rfl, ?_⟩
   exact op_pure F (v0 := .int .i64 (IntKind.wrap .i64 (atP x node qa))) (v := .int .i64 (atP x node qa)) (by kernel_rfl) (wr_i64 (by omega) (by omega)) ⟨(), rfl, (SameB.refl _ _ rfl), S⟩
  refine ⟨?_, ?_⟩
  ·
   refine ⟨_, rfl, rfl, by kernel_rfl, ?_⟩
   rintro D ⟨⟩ a z S F
   refine ⟨by kernel_rfl, ?_⟩
   exact op_load _ _ (some ⟨bf, 0, none⟩) 0 (.func (.func 86) #[] #[.pointer (some ⟨bw, 0, none⟩), .pointer (some ⟨bn, 0, none⟩)]) F rfl (by kernel_rfl) (by kernel_rfl) (cBox S 1 rfl (j := 0) rfl) (⟨(), rfl, (SameB.refl _ _ rfl), S⟩)
  refine ⟨?_, ?_⟩
  ·
   refine ⟨_, rfl, rfl, by kernel_rfl, ?_⟩
   rintro D ⟨⟩ a z S F
   refine ⟨by kernel_rfl, ?_⟩
   exact op_loadK _ _ (some ⟨b2, 0, none⟩) 0 [.int .i64 qb.edge, .int .i64 qb.to, .int .u64 qb.can, .int .u64 qb.base, .int .u64 qb.rate] F rfl (by kernel_rfl) (by kernel_rfl) (by kernel_rfl) (by simp) (cBoxK S 5 rfl 0 (by kernel_rfl)) (⟨(), rfl, (SameB.refl _ _ rfl), S⟩)
  refine ⟨?_, ?_⟩
  ·
   refine ⟨_, rfl, rfl, by kernel_rfl, ?_⟩
   rintro D ⟨⟩ a z S F
   refine ⟨by kernel_rfl, ?_⟩
   have S : Sat w z [rest w G, box bf 156 [.func (.func 86) #[] #[.pointer (some ⟨bw, 0, none⟩), .pointer (some ⟨bn, 0, none⟩)]], box bw 32 [.slice As x.spots.length cs, .slice Ae x.edges.length ce], box bn 3 [.int .i64 node], box b1 133 [.int .i64 qa.edge, .int .i64 qa.to, .int .u64 qa.can, .int .u64 qa.base, .int .u64 qa.rate], box b2 133 [.int .i64 qb.edge, .int .i64 qb.to, .int .u64 qb.can, .int .u64 qb.base, .int .u64 qb.rate]] := S
   obtain ⟨G9, g9, hin9, hlt9, k9⟩ := S.frameB [2, 3] (by decide) rfl
   refine op_fn F (by kernel_rfl) (at1_any _ G9 bw bn As cs Ae ce x ⟨h.s.mono (src_rest S (i := 0) rfl h.s.src gs), h.e.mono (src_rest S (i := 0) rfl h.e.src ge)⟩ ok (InG.rest hin9 0 (by decide) rfl gs) (InG.rest hin9 0 (by decide) rfl ge) node qb kqb eqb sqb hqb g9) ?_
   rintro e z9 ⟨rfl, g⟩
   have S : Sat w z9 [rest w G, box bf 156 [.func (.func 86) #[] #[.pointer (some ⟨bw, 0, none⟩), .pointer (some ⟨bn, 0, none⟩)]], box bw 32 [.slice As x.spots.length cs, .slice Ae x.edges.length ce], box bn 3 [.int .i64 node], box b1 133 [.int .i64 qa.edge, .int .i64 qa.to, .int .u64 qa.can, .int .u64 qa.base, .int .u64 qa.rate], box b2 133 [.int .i64 qb.edge, .int .i64 qb.to, .int .u64 qb.can, .int .u64 qb.base, .int .u64 qb.rate]] := k9 z9 [box bw 32 [.slice As x.spots.length cs, .slice Ae x.edges.length ce], box bn 3 [.int .i64 node]] rfl g
   clear g g9 k9 hin9 hlt9
   exact ⟨_, rfl, (), rfl, (SameB.refl _ _ rfl), S⟩
  refine ⟨?_, ?_⟩
  ·
   refine ⟨_, rfl, rfl, by kernel_rfl, ?_⟩
   rintro D ⟨⟩ a z S F
   refine ⟨by kernel_rfl, ?_⟩
   exact op_pure F (v0 := .int .i64 (IntKind.wrap .i64 (atP x node qb))) (v := .int .i64 (atP x node qb)) (by kernel_rfl) (wr_i64 (by omega) (by omega)) ⟨(), rfl, (SameB.refl _ _ rfl), S⟩
  refine ⟨?_, ?_⟩
  ·
   refine ⟨_, rfl, rfl, by kernel_rfl, ?_⟩
   rintro D ⟨⟩ a z S F
   refine ⟨by kernel_rfl, ?_⟩
   exact op_pure F (v0 := .int .i64 (IntKind.wrap .i64 ((atP x node qa) - (atP x node qb)))) (v := .int .i64 ((atP x node qa) - (atP x node qb))) (by kernel_rfl) (wr_i64 (by omega) (by omega)) ⟨(), rfl, (SameB.refl _ _ rfl), S⟩
  trivial
 ·
  rintro ⟨⟩ a z F S
  have F := F.sub (l := [(5, .int .i64 ((atP x node qa) - (atP x node qb)))]) ⟨by kernel_rfl, trivial⟩
  have S : Sat w z [rest w G, box bf 156 [.func (.func 86) #[] #[.pointer (some ⟨bw, 0, none⟩), .pointer (some ⟨bn, 0, none⟩)]], box bw 32 [.slice As x.spots.length cs, .slice Ae x.edges.length ce], box bn 3 [.int .i64 node], box b1 133 [.int .i64 qa.edge, .int .i64 qa.to, .int .u64 qa.can, .int .u64 qa.base, .int .u64 qa.rate], box b2 133 [.int .i64 qb.edge, .int .i64 qb.to, .int .u64 qb.can, .int .u64 qb.base, .int .u64 qb.rate]] := S
  refine then_n ?_
  refine wp_ret ?_
  exact fin F [.tmp 5] [.int .i64 ((atP x node qa) - (atP x node qb))] rfl ⟨by kernel_rfl, trivial⟩ (.int .i64 ((atP x node qa) - (atP x node qb))) rfl ⟨rfl, S.pick [1, 2, 3, 0] (by decide)⟩
set_option maxRecDepth 100000 in
set_option maxHeartbeats 4000000 in
theorem cmp3_any (w : World) (G : Nat → Prop) (bf bw bn : Nat) (As : Option Addr) (cs : Nat) (Ae : Option Addr) (ce : Nat) (x : Wb) (h : WebAt w As cs Ae ce x) (ok : x.Ok) (gs : InG G As (x.spots.flatMap spC)) (ge : InG G Ae (x.edges.flatMap edC)) (node : Int) (qa qb : Stp) (hqa : ∃ k ed s, StpIn x node qa k ed s) (hqb : ∃ k ed s, StpIn x node qb k ed s) (hS : Sat w w [box bf 156 [.func (.func 86) #[] #[.pointer (some ⟨bw, 0, none⟩), .pointer (some ⟨bn, 0, none⟩)]], box bw 32 [.slice As x.spots.length cs, .slice Ae x.edges.length ce], box bn 3 [.int .i64 node], rest w G]) : Calls Try.prog 91 #[.agg #[.int .i64 qa.edge, .int .i64 qa.to, .int .u64 qa.can, .int .u64 qa.base, .int .u64 qa.rate], .agg #[.int .i64 qb.edge, .int .i64 qb.to, .int .u64 qb.can, .int .u64 qb.base, .int .u64 qb.rate], .pointer (some ⟨bf, 0, none⟩)] w fun e w' => e = .returned (.int .i64 (atP x node qa - atP x node qb)) ∧ Sat w w' [box bf 156 [.func (.func 86) #[] #[.pointer (some ⟨bw, 0, none⟩), .pointer (some ⟨bn, 0, none⟩)]], box bw 32 [.slice As x.spots.length cs, .slice Ae x.edges.length ce], box bn 3 [.int .i64 node], rest w G] := by
 refine enter 15 Try.func91 rfl rfl rfl fun a F => ?_
 obtain ⟨hb1, hb2⟩ := atP_bd ok hqa
 obtain ⟨hb3, hb4⟩ := atP_bd ok hqb
 obtain ⟨kqa, eqa, sqa, hqa⟩ := hqa
 obtain ⟨kqb, eqb, sqb, hqb⟩ := hqb
 have S : Sat w w [rest w G, box bf 156 [.func (.func 86) #[] #[.pointer (some ⟨bw, 0, none⟩), .pointer (some ⟨bn, 0, none⟩)]], box bw 32 [.slice As x.spots.length cs, .slice Ae x.edges.length ce], box bn 3 [.int .i64 node]] := hS.pick [3, 0, 1, 2] (by decide)
 refine s_reg ?_
 refine l_do F rfl rfl (op_box S _ _ (.agg #[.int .i64 qa.edge, .int .i64 qa.to, .int .u64 qa.can, .int .u64 qa.base, .int .u64 qa.rate]) F rfl (by kernel_rfl) fun b1 z S a F => ?_)
 refine l_do F rfl rfl (op_box S _ _ (.agg #[.int .i64 qb.edge, .int .i64 qb.to, .int .u64 qb.can, .int .u64 qb.base, .int .u64 qb.rate]) F rfl (by kernel_rfl) fun b2 z S a F => ?_)
 refine l_pure 1 (fun L => (5, .int .i64 0) :: L) F (by kernel_rfl) fun a F => ?_
 refine l_then ?_
 refine wp_seq ?_
 refine region_gx (fun D => fun (_ : Unit) => [rest w G, box bf 156 [.func (.func 86) #[] #[.pointer (some ⟨bw, 0, none⟩), .pointer (some ⟨bn, 0, none⟩)]], box bw 32 [.slice As x.spots.length cs, .slice Ae x.edges.length ce], box bn 3 [.int .i64 node], box b1 133 [.int .i64 qa.edge, .int .i64 qa.to, .int .u64 qa.can, .int .u64 qa.base, .int .u64 qa.rate], box b2 133 [.int .i64 qb.edge, .int .i64 qb.to, .int .u64 qb.can, .int .u64 qb.base, .int .u64 qb.rate]]) (fun (_ : Unit) => [.func (.func 86) #[] #[.pointer (some ⟨bw, 0, none⟩), .pointer (some ⟨bn, 0, none⟩)], .agg #[.int .i64 qa.edge, .int .i64 qa.to, .int .u64 qa.can, .int .u64 qa.base, .int .u64 qa.rate], .int .u64 (atP x node qa), .int .i64 (atP x node qa), .func (.func 86) #[] #[.pointer (some ⟨bw, 0, none⟩), .pointer (some ⟨bn, 0, none⟩)], .agg #[.int .i64 qb.edge, .int .i64 qb.to, .int .u64 qb.can, .int .u64 qb.base, .int .u64 qb.rate], .int .u64 (atP x node qb), .int .i64 (atP x node qb), .int .i64 ((atP x node qa) - (atP x node qb)), .int .i64 ((atP x node qa) - (atP x node qb))]) [(0, [], [2, 3, 6, 7, 8]), (1, [], [2, 3, 6, 7, 8]), (2, [0, 1], [3, 6, 7, 8]), (3, [0, 1, 2], [8]), (4, [], [6, 7, 8]), (5, [], [6, 7, 8]), (6, [0, 1, 2, 4, 5], [7, 8]), (7, [0, 1, 2, 4, 5, 6], [8]), (8, [0, 1, 2, 3, 4, 5, 6, 7], [])] () rfl (by kernel_rfl) (by kernel_rfl) F S.drew ?_ ?_ ?_ ?_ ?_
 · rintro ⟨⟩; rfl
 · rintro ⟨⟩; kernel_rfl
 ·
  intro D D' x h
  cases x
  rfl
 ·
  refine ⟨?_, ?_⟩
  ·
   refine ⟨_, rfl, rfl, by kernel_rfl, ?_⟩
   rintro D ⟨⟩ a z S F
   refine ⟨by kernel_rfl, ?_⟩
   exact op_load _ _ (some ⟨bf, 0, none⟩) 0 (.func (.func 86) #[] #[.pointer (some ⟨bw, 0, none⟩), .pointer (some ⟨bn, 0, none⟩)]) F rfl (by kernel_rfl) (by kernel_rfl) (cBox S 1 rfl (j := 0) rfl) (⟨(), rfl, (SameB.refl _ _ rfl), S⟩)
  refine ⟨?_, ?_⟩
  ·
   refine ⟨_, rfl, rfl, by kernel_rfl, ?_⟩
   rintro D ⟨⟩ a z S F
   refine ⟨by kernel_rfl, ?_⟩
   exact op_loadK _ _ (some ⟨b1, 0, none⟩) 0 [.int .i64 qa.edge, .int .i64 qa.to, .int .u64 qa.can, .int .u64 qa.base, .int .u64 qa.rate] F rfl (by kernel_rfl) (by kernel_rfl) (by kernel_rfl) (by simp) (cBoxK S 4 rfl 0 (by kernel_rfl)) (⟨(), rfl, (SameB.refl _ _ rfl), S⟩)
  refine ⟨?_, ?_⟩
  ·
   refine ⟨_, rfl, rfl, by kernel_rfl, ?_⟩
   rintro D ⟨⟩ a z S F
   refine ⟨by kernel_rfl, ?_⟩
   have S : Sat w z [rest w G, box bf 156 [.func (.func 86) #[] #[.pointer (some ⟨bw, 0, none⟩), .pointer (some ⟨bn, 0, none⟩)]], box bw 32 [.slice As x.spots.length cs, .slice Ae x.edges.length ce], box bn 3 [.int .i64 node], box b1 133 [.int .i64 qa.edge, .int .i64 qa.to, .int .u64 qa.can, .int .u64 qa.base, .int .u64 qa.rate], box b2 133 [.int .i64 qb.edge, .int .i64 qb.to, .int .u64 qb.can, .int .u64 qb.base, .int .u64 qb.rate]] := S
   obtain ⟨G9, g9, hin9, hlt9, k9⟩ := S.frameB [2, 3] (by decide) rfl
   refine op_fn F (by kernel_rfl) (at1_any _ G9 bw bn As cs Ae ce x ⟨h.s.mono (src_rest S (i := 0) rfl h.s.src gs), h.e.mono (src_rest S (i := 0) rfl h.e.src ge)⟩ ok (InG.rest hin9 0 (by decide) rfl gs) (InG.rest hin9 0 (by decide) rfl ge) node qa kqa eqa sqa hqa g9) ?_
   rintro e z9 ⟨rfl, g⟩
   have S : Sat w z9 [rest w G, box bf 156 [.func (.func 86) #[] #[.pointer (some ⟨bw, 0, none⟩), .pointer (some ⟨bn, 0, none⟩)]], box bw 32 [.slice As x.spots.length cs, .slice Ae x.edges.length ce], box bn 3 [.int .i64 node], box b1 133 [.int .i64 qa.edge, .int .i64 qa.to, .int .u64 qa.can, .int .u64 qa.base, .int .u64 qa.rate], box b2 133 [.int .i64 qb.edge, .int .i64 qb.to, .int .u64 qb.can, .int .u64 qb.base, .int .u64 qb.rate]] := k9 z9 [box bw 32 [.slice As x.spots.length cs, .slice Ae x.edges.length ce], box bn 3 [.int .i64 node]] rfl g
   clear g g9 k9 hin9 hlt9
   exact ⟨_, rfl, (), rfl, (SameB.refl _ _ rfl), S⟩
  refine ⟨?_, ?_⟩
  ·
   refine ⟨_, rfl, rfl, by kernel_rfl, ?_⟩
   rintro D ⟨⟩ a z S F
   refine ⟨by kernel_rfl, ?_⟩
   exact op_pure F (v0 := .int .i64 (IntKind.wrap .i64 (atP x node qa))) (v := .int .i64 (atP x node qa)) (by kernel_rfl) (wr_i64 (by omega) (by omega)) ⟨(), rfl, (SameB.refl _ _ rfl), S⟩
  refine ⟨?_, ?_⟩
  ·
   refine ⟨_, rfl, rfl, by kernel_rfl, ?_⟩
   rintro D ⟨⟩ a z S F
   refine ⟨by kernel_rfl, ?_⟩
   exact op_load _ _ (some ⟨bf, 0, none⟩) 0 (.func (.func 86) #[] #[.pointer (some ⟨bw, 0, none⟩), .pointer (some ⟨bn, 0, none⟩)]) F rfl (by kernel_rfl) (by kernel_rfl) (cBox S 1 rfl (j := 0) rfl) (⟨(), rfl, (SameB.refl _ _ rfl), S⟩)
  refine ⟨?_, ?_⟩
  ·
   refine ⟨_, rfl, rfl, by kernel_rfl, ?_⟩
   rintro D ⟨⟩ a z S F
   refine ⟨by kernel_rfl, ?_⟩
   exact op_loadK _ _ (some ⟨b2, 0, none⟩) 0 [.int .i64 qb.edge, .int .i64 qb.to, .int .u64 qb.can, .int .u64 qb.base, .int .u64 qb.rate] F rfl (by kernel_rfl) (by kernel_rfl) (by kernel_rfl) (by simp) (cBoxK S 5 rfl 0 (by kernel_rfl)) (⟨(), rfl, (SameB.refl _ _ rfl), S⟩)
  refine ⟨?_, ?_⟩
  ·
   refine ⟨_, rfl, rfl, by kernel_rfl, ?_⟩
   rintro D ⟨⟩ a z S F
   refine ⟨by kernel_rfl, ?_⟩
   have S : Sat w z [rest w G, box bf 156 [.func (.func 86) #[] #[.pointer (some ⟨bw, 0, none⟩), .pointer (some ⟨bn, 0, none⟩)]], box bw 32 [.slice As x.spots.length cs, .slice Ae x.edges.length ce], box bn 3 [.int .i64 node], box b1 133 [.int .i64 qa.edge, .int .i64 qa.to, .int .u64 qa.can, .int .u64 qa.base, .int .u64 qa.rate], box b2 133 [.int .i64 qb.edge, .int .i64 qb.to, .int .u64 qb.can, .int .u64 qb.base, .int .u64 qb.rate]] := S
   obtain ⟨G9, g9, hin9, hlt9, k9⟩ := S.frameB [2, 3] (by decide) rfl
   refine op_fn F (by kernel_rfl) (at1_any _ G9 bw bn As cs Ae ce x ⟨h.s.mono (src_rest S (i := 0) rfl h.s.src gs), h.e.mono (src_rest S (i := 0) rfl h.e.src ge)⟩ ok (InG.rest hin9 0 (by decide) rfl gs) (InG.rest hin9 0 (by decide) rfl ge) node qb kqb eqb sqb hqb g9) ?_
   rintro e z9 ⟨rfl, g⟩
   have S : Sat w z9 [rest w G, box bf 156 [.func (.func 86) #[] #[.pointer (some ⟨bw, 0, none⟩), .pointer (some ⟨bn, 0, none⟩)]], box bw 32 [.slice As x.spots.length cs, .slice Ae x.edges.length ce], box bn 3 [.int .i64 node], box b1 133 [.int .i64 qa.edge, .int .i64 qa.to, .int .u64 qa.can, .int .u64 qa.base, .int .u64 qa.rate], box b2 133 [.int .i64 qb.edge, .int .i64 qb.to, .int .u64 qb.can, .int .u64 qb.base, .int .u64 qb.rate]] := k9 z9 [box bw 32 [.slice As x.spots.length cs, .slice Ae x.edges.length ce], box bn 3 [.int .i64 node]] rfl g
   clear g g9 k9 hin9 hlt9
   exact ⟨_, rfl, (), rfl, (SameB.refl _ _ rfl), S⟩
  refine ⟨?_, ?_⟩
  ·
   refine ⟨_, rfl, rfl, by kernel_rfl, ?_⟩
   rintro D ⟨⟩ a z S F
   refine ⟨by kernel_rfl, ?_⟩
   exact op_pure F (v0 := .int .i64 (IntKind.wrap .i64 (atP x node qb))) (v := .int .i64 (atP x node qb)) (by kernel_rfl) (wr_i64 (by omega) (by omega)) ⟨(), rfl, (SameB.refl _ _ rfl), S⟩
  refine ⟨?_, ?_⟩
  ·
   refine ⟨_, rfl, rfl, by kernel_rfl, ?_⟩
   rintro D ⟨⟩ a z S F
   refine ⟨by kernel_rfl, ?_⟩
   exact op_pure F (v0 := .int .i64 (IntKind.wrap .i64 ((atP x node qa) - (atP x node qb)))) (v := .int .i64 ((atP x node qa) - (atP x node qb))) (by kernel_rfl) (wr_i64 (by omega) (by omega)) ⟨(), rfl, (SameB.refl _ _ rfl), S⟩
  trivial
 ·
  rintro ⟨⟩ a z F S
  have F := F.sub (l := [(5, .int .i64 ((atP x node qa) - (atP x node qb)))]) ⟨by kernel_rfl, trivial⟩
  have S : Sat w z [rest w G, box bf 156 [.func (.func 86) #[] #[.pointer (some ⟨bw, 0, none⟩), .pointer (some ⟨bn, 0, none⟩)]], box bw 32 [.slice As x.spots.length cs, .slice Ae x.edges.length ce], box bn 3 [.int .i64 node], box b1 133 [.int .i64 qa.edge, .int .i64 qa.to, .int .u64 qa.can, .int .u64 qa.base, .int .u64 qa.rate], box b2 133 [.int .i64 qb.edge, .int .i64 qb.to, .int .u64 qb.can, .int .u64 qb.base, .int .u64 qb.rate]] := S
  refine then_n ?_
  refine wp_ret ?_
  exact fin F [.tmp 5] [.int .i64 ((atP x node qa) - (atP x node qb))] rfl ⟨by kernel_rfl, trivial⟩ (.int .i64 ((atP x node qa) - (atP x node qb))) rfl ⟨rfl, S.pick [1, 2, 3, 0] (by decide)⟩
set_option maxRecDepth 100000 in
set_option maxHeartbeats 4000000 in
theorem maxf_any (w : World) (G : Nat → Prop) (bf bw bn : Nat) (As : Option Addr) (cs : Nat) (Ae : Option Addr) (ce : Nat) (x : Wb) (h : WebAt w As cs Ae ce x) (ok : x.Ok) (gs : InG G As (x.spots.flatMap spC)) (ge : InG G Ae (x.edges.flatMap edC)) (node : Int) (A : Option Addr) (c : Nat) (hX : Recs 5 stC w A c (stepsP x node)) (gX : InG G A ((stepsP x node).flatMap stC)) (hl : 1 ≤ (stepsP x node).length) (hl2 : (stepsP x node).length ≤ 1000) (hS : Sat w w [box bf 156 [.func (.func 86) #[] #[.pointer (some ⟨bw, 0, none⟩), .pointer (some ⟨bn, 0, none⟩)]], box bw 32 [.slice As x.spots.length cs, .slice Ae x.edges.length ce], box bn 3 [.int .i64 node], rest w G]) : Calls Try.prog 88 #[.slice A ((stepsP x node).length) c, .func (.func 89) #[] #[.pointer (some ⟨bf, 0, none⟩)]] w fun e w' => ∃ qm, e = .returned (.agg #[.int .i64 qm.edge, .int .i64 qm.to, .int .u64 qm.can, .int .u64 qm.base, .int .u64 qm.rate]) ∧ (stepsP x node)[maxIx (atI x node) ((stepsP x node).length - 1)]? = some qm ∧ Sat w w' [box bf 156 [.func (.func 86) #[] #[.pointer (some ⟨bw, 0, none⟩), .pointer (some ⟨bn, 0, none⟩)]], box bw 32 [.slice As x.spots.length cs, .slice Ae x.edges.length ce], box bn 3 [.int .i64 node], rest w G] := by
 refine enter 33 Try.func88 rfl rfl rfl fun a F => ?_
 obtain ⟨q0, hq0⟩ : ∃ q0, (stepsP x node)[0]? = some q0 := ⟨_, List.getElem?_eq_getElem (by omega)⟩
 have S : Sat w w [rest w G, box bf 156 [.func (.func 86) #[] #[.pointer (some ⟨bw, 0, none⟩), .pointer (some ⟨bn, 0, none⟩)]], box bw 32 [.slice As x.spots.length cs, .slice Ae x.edges.length ce], box bn 3 [.int .i64 node]] := hS.pick [3, 0, 1, 2] (by decide)
 refine s_reg ?_
 refine l_do F rfl rfl (op_alloc S _ (.agg #[.int .i64 0, .int .i64 0, .int .u64 0, .int .u64 0, .int .u64 0]) rfl (by kernel_rfl) fun b1 z S a F => ?_)
 refine l_then ?_
 refine wp_seq ?_
 refine s_reg ?_
 refine l_pure 2 (fun L => (8, .int .i64 ((stepsP x node).length : Nat)) :: (7, .slice A ((stepsP x node).length) c) :: L) F (by kernel_rfl) fun a F => ?_
 refine l_do F rfl rfl (op_pure F (v0 := .bool (decide ((((stepsP x node).length : Nat) : Int) < (1 : Int)))) (v := .bool false) (by kernel_rfl) (lssF (by omega)) fun a F => ?_)
 refine l_then ?_
 refine c_f F rfl ?_
 refine wp_skip ?_
 refine then_n ?_
 refine s_reg ?_
 refine l_pure 1 (fun L => (11, .slice A ((stepsP x node).length) c) :: L) F (by kernel_rfl) fun a F => ?_
 refine l_do F rfl rfl (op_index _ 133 _ _ A ((stepsP x node).length) c 0 5 .i64 F rfl (by kernel_rfl) (by kernel_rfl) (by kernel_rfl) (by kernel_rfl) (by omega) (recs_some hX (m := 0) (by omega)) (fun a F => ?_))
 refine l_do F rfl rfl (op_loadK _ _ A (0 * 5) [.int .i64 q0.edge, .int .i64 q0.to, .int .u64 q0.can, .int .u64 q0.base, .int .u64 q0.rate] F rfl (by kernel_rfl) (by kernel_rfl) (by kernel_rfl) (by simp) (cReadK0 stC_len (hX.mono (src_rest S (i := 0) rfl hX.src gX)) hq0 (by kernel_rfl)) (fun a F => ?_))
 refine l_do F rfl rfl (op_alloc S _ (.agg #[.int .i64 0, .int .i64 0, .int .u64 0, .int .u64 0, .int .u64 0]) rfl (by kernel_rfl) fun b2 z S a F => ?_)
 refine l_do F rfl rfl (op_storeB S 5 _ _ _ b2 0 (.agg #[.int .i64 q0.edge, .int .i64 q0.to, .int .u64 q0.can, .int .u64 q0.base, .int .u64 q0.rate]) F rfl rfl (by kernel_rfl) (by kernel_rfl) (by kernel_rfl) (by kernel_rfl) (by kernel_rfl) fun z S a F => ?_)
 refine l_then ?_
 refine wp_seq ?_
 refine s_reg ?_
 refine l_pure 1 (fun L => (6, .int .i64 1) :: L) F (by kernel_rfl) fun a F => ?_
 refine l_then ?_
 refine wp_block ?_
 refine wp_loop_m (fun m a z => ∃ (k : Nat) (j : Nat) (qj : Stp), m = (stepsP x node).length - k ∧ (k + 1 ≤ (stepsP x node).length) ∧ (j = maxIx (atI x node) k) ∧ ((stepsP x node)[j]? = some qj) ∧ Fr a 33 [(0, .slice A ((stepsP x node).length) c), (1, .func (.func 89) #[] #[.pointer (some ⟨bf, 0, none⟩)]), (4, .pointer (some ⟨b1, 0, none⟩)), (5, .pointer (some ⟨b2, 0, none⟩)), (6, .int .i64 (k + 1 : Nat))] ∧ Sat w z [rest w G, box bf 156 [.func (.func 86) #[] #[.pointer (some ⟨bw, 0, none⟩), .pointer (some ⟨bn, 0, none⟩)]], box bw 32 [.slice As x.spots.length cs, .slice Ae x.edges.length ce], box bn 3 [.int .i64 node], box b1 133 [.int .i64 0, .int .i64 0, .int .u64 0, .int .u64 0, .int .u64 0], box b2 133 [.int .i64 qj.edge, .int .i64 qj.to, .int .u64 qj.can, .int .u64 qj.base, .int .u64 qj.rate]]) _ ⟨0, 0, q0, rfl, (by omega), rfl, hq0, F.sub ⟨by kernel_rfl, by kernel_rfl, by kernel_rfl, by kernel_rfl, by kernel_rfl, trivial⟩, S⟩ ?_
 rintro m a z ⟨k, j, qj, hm, hf3, hf4, hf5, F, S⟩
 have hj := hf4
 have hqj := hf5
 have haj := atI_of hqj
 refine wp_seq ?_
 refine s_reg ?_
 refine l_pure 3 (fun L => (16, .int .i64 ((stepsP x node).length : Nat)) :: (15, .slice A ((stepsP x node).length) c) :: (14, .int .i64 (k + 1 : Nat)) :: L) F (by kernel_rfl) fun a F => ?_
 by_cases ht6 : ((k + 1 : Nat) : Int) < (((stepsP x node).length : Nat) : Int)
 ·
  skip
  obtain ⟨qi, hqi⟩ : ∃ qi, (stepsP x node)[k + 1]? = some qi := ⟨_, List.getElem?_eq_getElem (by omega)⟩
  have hai := atI_of hqi
  refine l_do F rfl rfl (op_pure F (v0 := .bool (decide (((k + 1 : Nat) : Int) < (((stepsP x node).length : Nat) : Int)))) (v := .bool true) (by kernel_rfl) (lssT ht6) fun a F => ?_)
  refine l_then ?_
  refine c_t F rfl ?_
  refine wp_skip ?_
  refine then_n ?_
  refine wp_seq ?_
  refine wp_block ?_
  refine wp_seq ?_
  by_cases ht7 : (0 : Int) < (atP x node qi - atP x node qj : Int)
  ·
   skip
   refine region_gx (fun D => fun (_ : Unit) => [rest w G, box bf 156 [.func (.func 86) #[] #[.pointer (some ⟨bw, 0, none⟩), .pointer (some ⟨bn, 0, none⟩)]], box bw 32 [.slice As x.spots.length cs, .slice Ae x.edges.length ce], box bn 3 [.int .i64 node], box b1 133 [.int .i64 0, .int .i64 0, .int .u64 0, .int .u64 0, .int .u64 0], box b2 133 [.int .i64 qj.edge, .int .i64 qj.to, .int .u64 qj.can, .int .u64 qj.base, .int .u64 qj.rate]]) (fun (_ : Unit) => [.func (.func 89) #[] #[.pointer (some ⟨bf, 0, none⟩)], .slice A ((stepsP x node).length) c, .int .i64 (k + 1 : Nat), ptrA A ((k + 1) * 5), .agg #[.int .i64 qi.edge, .int .i64 qi.to, .int .u64 qi.can, .int .u64 qi.base, .int .u64 qi.rate], .agg #[.int .i64 qj.edge, .int .i64 qj.to, .int .u64 qj.can, .int .u64 qj.base, .int .u64 qj.rate], .int .i64 (atP x node qi - atP x node qj), .bool true]) [(3, [], [4, 6, 7]), (4, [3], [6, 7]), (5, [], [6, 7]), (6, [3, 4, 5], [7]), (7, [3, 4, 5, 6], [])] () rfl (by kernel_rfl) (by kernel_rfl) F S.drew ?_ ?_ ?_ ?_ ?_
   · rintro ⟨⟩; rfl
   · rintro ⟨⟩; kernel_rfl
   ·
    intro D D' x h
    cases x
    rfl
   ·
    refine ⟨?_, ?_⟩
    ·
     refine ⟨_, rfl, rfl, by kernel_rfl, ?_⟩
     rintro D ⟨⟩ a z S F
     refine ⟨by kernel_rfl, ?_⟩
     exact op_index _ 133 _ _ A ((stepsP x node).length) c (k + 1) 5 .i64 F rfl (by kernel_rfl) (by kernel_rfl) (by kernel_rfl) (by kernel_rfl) (get_lt hqi) (recs_some hX (m := k + 1) (get_lt hqi)) (⟨(), rfl, (SameB.refl _ _ rfl), S⟩)
    refine ⟨?_, ?_⟩
    ·
     refine ⟨_, rfl, rfl, by kernel_rfl, ?_⟩
     rintro D ⟨⟩ a z S F
     refine ⟨by kernel_rfl, ?_⟩
     exact op_loadK _ _ A ((k + 1) * 5) [.int .i64 qi.edge, .int .i64 qi.to, .int .u64 qi.can, .int .u64 qi.base, .int .u64 qi.rate] F rfl (by kernel_rfl) (by kernel_rfl) (by kernel_rfl) (by simp) (cReadK0 stC_len (hX.mono (src_rest S (i := 0) rfl hX.src gX)) hqi (by kernel_rfl)) (⟨(), rfl, (SameB.refl _ _ rfl), S⟩)
    refine ⟨?_, ?_⟩
    ·
     refine ⟨_, rfl, rfl, by kernel_rfl, ?_⟩
     rintro D ⟨⟩ a z S F
     refine ⟨by kernel_rfl, ?_⟩
     exact op_loadK _ _ (some ⟨b2, 0, none⟩) 0 [.int .i64 qj.edge, .int .i64 qj.to, .int .u64 qj.can, .int .u64 qj.base, .int .u64 qj.rate] F rfl (by kernel_rfl) (by kernel_rfl) (by kernel_rfl) (by simp) (cBoxK S 5 rfl 0 (by kernel_rfl)) (⟨(), rfl, (SameB.refl _ _ rfl), S⟩)
    refine ⟨?_, ?_⟩
    ·
     refine ⟨_, rfl, rfl, by kernel_rfl, ?_⟩
     rintro D ⟨⟩ a z S F
     refine ⟨by kernel_rfl, ?_⟩
     have S : Sat w z [rest w G, box bf 156 [.func (.func 86) #[] #[.pointer (some ⟨bw, 0, none⟩), .pointer (some ⟨bn, 0, none⟩)]], box bw 32 [.slice As x.spots.length cs, .slice Ae x.edges.length ce], box bn 3 [.int .i64 node], box b1 133 [.int .i64 0, .int .i64 0, .int .u64 0, .int .u64 0, .int .u64 0], box b2 133 [.int .i64 qj.edge, .int .i64 qj.to, .int .u64 qj.can, .int .u64 qj.base, .int .u64 qj.rate]] := S
     obtain ⟨G9, g9, hin9, hlt9, k9⟩ := S.frameB [1, 2, 3] (by decide) rfl
     refine op_fn F (by kernel_rfl) (cmp2_any _ G9 bf bw bn As cs Ae ce x ⟨h.s.mono (src_rest S (i := 0) rfl h.s.src gs), h.e.mono (src_rest S (i := 0) rfl h.e.src ge)⟩ ok (InG.rest hin9 0 (by decide) rfl gs) (InG.rest hin9 0 (by decide) rfl ge) node qi qj (step_in hqi) (step_in hqj) g9) ?_
     rintro e z9 ⟨rfl, g⟩
     have S : Sat w z9 [rest w G, box bf 156 [.func (.func 86) #[] #[.pointer (some ⟨bw, 0, none⟩), .pointer (some ⟨bn, 0, none⟩)]], box bw 32 [.slice As x.spots.length cs, .slice Ae x.edges.length ce], box bn 3 [.int .i64 node], box b1 133 [.int .i64 0, .int .i64 0, .int .u64 0, .int .u64 0, .int .u64 0], box b2 133 [.int .i64 qj.edge, .int .i64 qj.to, .int .u64 qj.can, .int .u64 qj.base, .int .u64 qj.rate]] := k9 z9 [box bf 156 [.func (.func 86) #[] #[.pointer (some ⟨bw, 0, none⟩), .pointer (some ⟨bn, 0, none⟩)]], box bw 32 [.slice As x.spots.length cs, .slice Ae x.edges.length ce], box bn 3 [.int .i64 node]] rfl g
     clear g g9 k9 hin9 hlt9
     exact ⟨_, rfl, (), rfl, (SameB.refl _ _ rfl), S⟩
    refine ⟨?_, ?_⟩
    ·
     refine ⟨_, rfl, rfl, by kernel_rfl, ?_⟩
     rintro D ⟨⟩ a z S F
     refine ⟨by kernel_rfl, ?_⟩
     exact op_pure F (v0 := .bool (decide ((atP x node qi - atP x node qj : Int) > (0 : Int)))) (v := .bool true) (by kernel_rfl) (gtrT ht7) ⟨(), rfl, (SameB.refl _ _ rfl), S⟩
    trivial
   ·
    rintro ⟨⟩ a z F S
    have F := F.sub (l := [(0, .slice A ((stepsP x node).length) c), (1, .func (.func 89) #[] #[.pointer (some ⟨bf, 0, none⟩)]), (4, .pointer (some ⟨b1, 0, none⟩)), (5, .pointer (some ⟨b2, 0, none⟩)), (6, .int .i64 (k + 1 : Nat)), (27, .bool true)]) ⟨by kernel_rfl, by kernel_rfl, by kernel_rfl, by kernel_rfl, by kernel_rfl, by kernel_rfl, trivial⟩
    have S : Sat w z [rest w G, box bf 156 [.func (.func 86) #[] #[.pointer (some ⟨bw, 0, none⟩), .pointer (some ⟨bn, 0, none⟩)]], box bw 32 [.slice As x.spots.length cs, .slice Ae x.edges.length ce], box bn 3 [.int .i64 node], box b1 133 [.int .i64 0, .int .i64 0, .int .u64 0, .int .u64 0, .int .u64 0], box b2 133 [.int .i64 qj.edge, .int .i64 qj.to, .int .u64 qj.can, .int .u64 qj.base, .int .u64 qj.rate]] := S
    refine then_n ?_
    refine c_t F rfl ?_
    refine wp_region_list ?_
    refine l_pure 2 (fun L => (29, .int .i64 (k + 1 : Nat)) :: (28, .slice A ((stepsP x node).length) c) :: L) F (by kernel_rfl) fun a F => ?_
    refine l_do F rfl rfl (op_index _ 133 _ _ A ((stepsP x node).length) c (k + 1) 5 .i64 F rfl (by kernel_rfl) (by kernel_rfl) (by kernel_rfl) (by kernel_rfl) (get_lt hqi) (recs_some hX (m := k + 1) (get_lt hqi)) (fun a F => ?_))
    refine l_do F rfl rfl (op_loadK _ _ A ((k + 1) * 5) [.int .i64 qi.edge, .int .i64 qi.to, .int .u64 qi.can, .int .u64 qi.base, .int .u64 qi.rate] F rfl (by kernel_rfl) (by kernel_rfl) (by kernel_rfl) (by simp) (cReadK0 stC_len (hX.mono (src_rest S (i := 0) rfl hX.src gX)) hqi (by kernel_rfl)) (fun a F => ?_))
    refine l_do F rfl rfl (op_storeB S 5 _ _ _ b2 0 (.agg #[.int .i64 qi.edge, .int .i64 qi.to, .int .u64 qi.can, .int .u64 qi.base, .int .u64 qi.rate]) F rfl rfl (by kernel_rfl) (by kernel_rfl) (by kernel_rfl) (by kernel_rfl) (by kernel_rfl) fun z S a F => ?_)
    refine l_nil (inb_n ?_)
    refine then_n ?_
    refine wp_region_list ?_
    refine l_pure 1 (fun L => (18, .int .i64 (k + 1 : Nat)) :: L) F (by kernel_rfl) fun a F => ?_
    refine l_do F rfl rfl (op_pure F (v0 := .int .i64 (IntKind.wrap .i64 ((k + 1 : Nat) + 1))) (v := .int .i64 (k + 1 + 1 : Nat)) (by kernel_rfl) (wrn_i64 (by omega) (by omega) (by omega)) fun a F => ?_)
    refine l_pure 1 (fun L => (6, .int .i64 (k + 1 + 1 : Nat)) :: L) F (by kernel_rfl) fun a F => ?_
    refine l_then ?_
    exact ⟨_, (by omega), k + 1, k + 1, qi, rfl, (by omega), ((max_step hj).1 (by rw [hai, haj]; exact (by have h9 := ht7; omega))), hqi, F.sub ⟨by kernel_rfl, by kernel_rfl, by kernel_rfl, by kernel_rfl, by kernel_rfl, trivial⟩, S⟩
  ·
   skip
   refine region_gx (fun D => fun (_ : Unit) => [rest w G, box bf 156 [.func (.func 86) #[] #[.pointer (some ⟨bw, 0, none⟩), .pointer (some ⟨bn, 0, none⟩)]], box bw 32 [.slice As x.spots.length cs, .slice Ae x.edges.length ce], box bn 3 [.int .i64 node], box b1 133 [.int .i64 0, .int .i64 0, .int .u64 0, .int .u64 0, .int .u64 0], box b2 133 [.int .i64 qj.edge, .int .i64 qj.to, .int .u64 qj.can, .int .u64 qj.base, .int .u64 qj.rate]]) (fun (_ : Unit) => [.func (.func 89) #[] #[.pointer (some ⟨bf, 0, none⟩)], .slice A ((stepsP x node).length) c, .int .i64 (k + 1 : Nat), ptrA A ((k + 1) * 5), .agg #[.int .i64 qi.edge, .int .i64 qi.to, .int .u64 qi.can, .int .u64 qi.base, .int .u64 qi.rate], .agg #[.int .i64 qj.edge, .int .i64 qj.to, .int .u64 qj.can, .int .u64 qj.base, .int .u64 qj.rate], .int .i64 (atP x node qi - atP x node qj), .bool false]) [(3, [], [4, 6, 7]), (4, [3], [6, 7]), (5, [], [6, 7]), (6, [3, 4, 5], [7]), (7, [3, 4, 5, 6], [])] () rfl (by kernel_rfl) (by kernel_rfl) F S.drew ?_ ?_ ?_ ?_ ?_
   · rintro ⟨⟩; rfl
   · rintro ⟨⟩; kernel_rfl
   ·
    intro D D' x h
    cases x
    rfl
   ·
    refine ⟨?_, ?_⟩
    ·
     refine ⟨_, rfl, rfl, by kernel_rfl, ?_⟩
     rintro D ⟨⟩ a z S F
     refine ⟨by kernel_rfl, ?_⟩
     exact op_index _ 133 _ _ A ((stepsP x node).length) c (k + 1) 5 .i64 F rfl (by kernel_rfl) (by kernel_rfl) (by kernel_rfl) (by kernel_rfl) (get_lt hqi) (recs_some hX (m := k + 1) (get_lt hqi)) (⟨(), rfl, (SameB.refl _ _ rfl), S⟩)
    refine ⟨?_, ?_⟩
    ·
     refine ⟨_, rfl, rfl, by kernel_rfl, ?_⟩
     rintro D ⟨⟩ a z S F
     refine ⟨by kernel_rfl, ?_⟩
     exact op_loadK _ _ A ((k + 1) * 5) [.int .i64 qi.edge, .int .i64 qi.to, .int .u64 qi.can, .int .u64 qi.base, .int .u64 qi.rate] F rfl (by kernel_rfl) (by kernel_rfl) (by kernel_rfl) (by simp) (cReadK0 stC_len (hX.mono (src_rest S (i := 0) rfl hX.src gX)) hqi (by kernel_rfl)) (⟨(), rfl, (SameB.refl _ _ rfl), S⟩)
    refine ⟨?_, ?_⟩
    ·
     refine ⟨_, rfl, rfl, by kernel_rfl, ?_⟩
     rintro D ⟨⟩ a z S F
     refine ⟨by kernel_rfl, ?_⟩
     exact op_loadK _ _ (some ⟨b2, 0, none⟩) 0 [.int .i64 qj.edge, .int .i64 qj.to, .int .u64 qj.can, .int .u64 qj.base, .int .u64 qj.rate] F rfl (by kernel_rfl) (by kernel_rfl) (by kernel_rfl) (by simp) (cBoxK S 5 rfl 0 (by kernel_rfl)) (⟨(), rfl, (SameB.refl _ _ rfl), S⟩)
    refine ⟨?_, ?_⟩
    ·
     refine ⟨_, rfl, rfl, by kernel_rfl, ?_⟩
     rintro D ⟨⟩ a z S F
     refine ⟨by kernel_rfl, ?_⟩
     have S : Sat w z [rest w G, box bf 156 [.func (.func 86) #[] #[.pointer (some ⟨bw, 0, none⟩), .pointer (some ⟨bn, 0, none⟩)]], box bw 32 [.slice As x.spots.length cs, .slice Ae x.edges.length ce], box bn 3 [.int .i64 node], box b1 133 [.int .i64 0, .int .i64 0, .int .u64 0, .int .u64 0, .int .u64 0], box b2 133 [.int .i64 qj.edge, .int .i64 qj.to, .int .u64 qj.can, .int .u64 qj.base, .int .u64 qj.rate]] := S
     obtain ⟨G9, g9, hin9, hlt9, k9⟩ := S.frameB [1, 2, 3] (by decide) rfl
     refine op_fn F (by kernel_rfl) (cmp2_any _ G9 bf bw bn As cs Ae ce x ⟨h.s.mono (src_rest S (i := 0) rfl h.s.src gs), h.e.mono (src_rest S (i := 0) rfl h.e.src ge)⟩ ok (InG.rest hin9 0 (by decide) rfl gs) (InG.rest hin9 0 (by decide) rfl ge) node qi qj (step_in hqi) (step_in hqj) g9) ?_
     rintro e z9 ⟨rfl, g⟩
     have S : Sat w z9 [rest w G, box bf 156 [.func (.func 86) #[] #[.pointer (some ⟨bw, 0, none⟩), .pointer (some ⟨bn, 0, none⟩)]], box bw 32 [.slice As x.spots.length cs, .slice Ae x.edges.length ce], box bn 3 [.int .i64 node], box b1 133 [.int .i64 0, .int .i64 0, .int .u64 0, .int .u64 0, .int .u64 0], box b2 133 [.int .i64 qj.edge, .int .i64 qj.to, .int .u64 qj.can, .int .u64 qj.base, .int .u64 qj.rate]] := k9 z9 [box bf 156 [.func (.func 86) #[] #[.pointer (some ⟨bw, 0, none⟩), .pointer (some ⟨bn, 0, none⟩)]], box bw 32 [.slice As x.spots.length cs, .slice Ae x.edges.length ce], box bn 3 [.int .i64 node]] rfl g
     clear g g9 k9 hin9 hlt9
     exact ⟨_, rfl, (), rfl, (SameB.refl _ _ rfl), S⟩
    refine ⟨?_, ?_⟩
    ·
     refine ⟨_, rfl, rfl, by kernel_rfl, ?_⟩
     rintro D ⟨⟩ a z S F
     refine ⟨by kernel_rfl, ?_⟩
     exact op_pure F (v0 := .bool (decide ((atP x node qi - atP x node qj : Int) > (0 : Int)))) (v := .bool false) (by kernel_rfl) (gtrF ht7) ⟨(), rfl, (SameB.refl _ _ rfl), S⟩
    trivial
   ·
    rintro ⟨⟩ a z F S
    have F := F.sub (l := [(0, .slice A ((stepsP x node).length) c), (1, .func (.func 89) #[] #[.pointer (some ⟨bf, 0, none⟩)]), (4, .pointer (some ⟨b1, 0, none⟩)), (5, .pointer (some ⟨b2, 0, none⟩)), (6, .int .i64 (k + 1 : Nat)), (27, .bool false)]) ⟨by kernel_rfl, by kernel_rfl, by kernel_rfl, by kernel_rfl, by kernel_rfl, by kernel_rfl, trivial⟩
    have S : Sat w z [rest w G, box bf 156 [.func (.func 86) #[] #[.pointer (some ⟨bw, 0, none⟩), .pointer (some ⟨bn, 0, none⟩)]], box bw 32 [.slice As x.spots.length cs, .slice Ae x.edges.length ce], box bn 3 [.int .i64 node], box b1 133 [.int .i64 0, .int .i64 0, .int .u64 0, .int .u64 0, .int .u64 0], box b2 133 [.int .i64 qj.edge, .int .i64 qj.to, .int .u64 qj.can, .int .u64 qj.base, .int .u64 qj.rate]] := S
    refine then_n ?_
    refine c_f F rfl ?_
    refine wp_skip ?_
    refine inb_n ?_
    refine then_n ?_
    refine wp_region_list ?_
    refine l_pure 1 (fun L => (18, .int .i64 (k + 1 : Nat)) :: L) F (by kernel_rfl) fun a F => ?_
    refine l_do F rfl rfl (op_pure F (v0 := .int .i64 (IntKind.wrap .i64 ((k + 1 : Nat) + 1))) (v := .int .i64 (k + 1 + 1 : Nat)) (by kernel_rfl) (wrn_i64 (by omega) (by omega) (by omega)) fun a F => ?_)
    refine l_pure 1 (fun L => (6, .int .i64 (k + 1 + 1 : Nat)) :: L) F (by kernel_rfl) fun a F => ?_
    refine l_then ?_
    exact ⟨_, (by omega), k + 1, j, qj, rfl, (by omega), ((max_step hj).2 (by rw [hai, haj]; exact (by have h9 := ht7; omega))), hqj, F.sub ⟨by kernel_rfl, by kernel_rfl, by kernel_rfl, by kernel_rfl, by kernel_rfl, trivial⟩, S⟩
 ·
  skip
  have hk9 : k = (stepsP x node).length - 1 := by omega
  refine l_do F rfl rfl (op_pure F (v0 := .bool (decide (((k + 1 : Nat) : Int) < (((stepsP x node).length : Nat) : Int)))) (v := .bool false) (by kernel_rfl) (lssF ht6) fun a F => ?_)
  refine l_then ?_
  refine c_f F rfl ?_
  refine wp_exit ?_
  refine then_x ?_
  refine then_x ?_
  refine inb_x ?_
  refine then_n ?_
  refine s_reg ?_
  refine l_do F rfl rfl (op_loadK _ _ (some ⟨b2, 0, none⟩) 0 [.int .i64 qj.edge, .int .i64 qj.to, .int .u64 qj.can, .int .u64 qj.base, .int .u64 qj.rate] F rfl (by kernel_rfl) (by kernel_rfl) (by kernel_rfl) (by simp) (cBoxK S 5 rfl 0 (by kernel_rfl)) (fun a F => ?_))
  refine l_do F rfl rfl (op_storeB S 4 _ _ _ b1 0 (.agg #[.int .i64 qj.edge, .int .i64 qj.to, .int .u64 qj.can, .int .u64 qj.base, .int .u64 qj.rate]) F rfl rfl (by kernel_rfl) (by kernel_rfl) (by kernel_rfl) (by kernel_rfl) (by kernel_rfl) fun z S a F => ?_)
  refine l_then ?_
  refine wp_ret ?_
  exact fin F [.cell 4 133] [.agg #[.int .i64 qj.edge, .int .i64 qj.to, .int .u64 qj.can, .int .u64 qj.base, .int .u64 qj.rate]] rfl ⟨⟨_, by kernel_rfl, resK S 4 (cs := [.int .i64 qj.edge, .int .i64 qj.to, .int .u64 qj.can, .int .u64 qj.base, .int .u64 qj.rate]) rfl (by kernel_rfl) (by kernel_rfl) (by simp)⟩, trivial⟩ (.agg #[.int .i64 qj.edge, .int .i64 qj.to, .int .u64 qj.can, .int .u64 qj.base, .int .u64 qj.rate]) rfl ⟨qj, rfl, by rw [← hk9, ← hj]; exact hqj, S.pick [1, 2, 3, 0] (by decide)⟩
set_option maxRecDepth 100000 in
set_option maxHeartbeats 4000000 in
theorem minf_any (w : World) (G : Nat → Prop) (bf bw bn : Nat) (As : Option Addr) (cs : Nat) (Ae : Option Addr) (ce : Nat) (x : Wb) (h : WebAt w As cs Ae ce x) (ok : x.Ok) (gs : InG G As (x.spots.flatMap spC)) (ge : InG G Ae (x.edges.flatMap edC)) (node : Int) (A : Option Addr) (c : Nat) (hX : Recs 5 stC w A c (stepsP x node)) (gX : InG G A ((stepsP x node).flatMap stC)) (hl : 1 ≤ (stepsP x node).length) (hl2 : (stepsP x node).length ≤ 1000) (hS : Sat w w [box bf 156 [.func (.func 86) #[] #[.pointer (some ⟨bw, 0, none⟩), .pointer (some ⟨bn, 0, none⟩)]], box bw 32 [.slice As x.spots.length cs, .slice Ae x.edges.length ce], box bn 3 [.int .i64 node], rest w G]) : Calls Try.prog 90 #[.slice A ((stepsP x node).length) c, .func (.func 91) #[] #[.pointer (some ⟨bf, 0, none⟩)]] w fun e w' => ∃ qm, e = .returned (.agg #[.int .i64 qm.edge, .int .i64 qm.to, .int .u64 qm.can, .int .u64 qm.base, .int .u64 qm.rate]) ∧ (stepsP x node)[minIx (atI x node) ((stepsP x node).length - 1)]? = some qm ∧ Sat w w' [box bf 156 [.func (.func 86) #[] #[.pointer (some ⟨bw, 0, none⟩), .pointer (some ⟨bn, 0, none⟩)]], box bw 32 [.slice As x.spots.length cs, .slice Ae x.edges.length ce], box bn 3 [.int .i64 node], rest w G] := by
 refine enter 33 Try.func90 rfl rfl rfl fun a F => ?_
 obtain ⟨q0, hq0⟩ : ∃ q0, (stepsP x node)[0]? = some q0 := ⟨_, List.getElem?_eq_getElem (by omega)⟩
 have S : Sat w w [rest w G, box bf 156 [.func (.func 86) #[] #[.pointer (some ⟨bw, 0, none⟩), .pointer (some ⟨bn, 0, none⟩)]], box bw 32 [.slice As x.spots.length cs, .slice Ae x.edges.length ce], box bn 3 [.int .i64 node]] := hS.pick [3, 0, 1, 2] (by decide)
 refine s_reg ?_
 refine l_do F rfl rfl (op_alloc S _ (.agg #[.int .i64 0, .int .i64 0, .int .u64 0, .int .u64 0, .int .u64 0]) rfl (by kernel_rfl) fun b1 z S a F => ?_)
 refine l_then ?_
 refine wp_seq ?_
 refine s_reg ?_
 refine l_pure 2 (fun L => (8, .int .i64 ((stepsP x node).length : Nat)) :: (7, .slice A ((stepsP x node).length) c) :: L) F (by kernel_rfl) fun a F => ?_
 refine l_do F rfl rfl (op_pure F (v0 := .bool (decide ((((stepsP x node).length : Nat) : Int) < (1 : Int)))) (v := .bool false) (by kernel_rfl) (lssF (by omega)) fun a F => ?_)
 refine l_then ?_
 refine c_f F rfl ?_
 refine wp_skip ?_
 refine then_n ?_
 refine s_reg ?_
 refine l_pure 1 (fun L => (11, .slice A ((stepsP x node).length) c) :: L) F (by kernel_rfl) fun a F => ?_
 refine l_do F rfl rfl (op_index _ 133 _ _ A ((stepsP x node).length) c 0 5 .i64 F rfl (by kernel_rfl) (by kernel_rfl) (by kernel_rfl) (by kernel_rfl) (by omega) (recs_some hX (m := 0) (by omega)) (fun a F => ?_))
 refine l_do F rfl rfl (op_loadK _ _ A (0 * 5) [.int .i64 q0.edge, .int .i64 q0.to, .int .u64 q0.can, .int .u64 q0.base, .int .u64 q0.rate] F rfl (by kernel_rfl) (by kernel_rfl) (by kernel_rfl) (by simp) (cReadK0 stC_len (hX.mono (src_rest S (i := 0) rfl hX.src gX)) hq0 (by kernel_rfl)) (fun a F => ?_))
 refine l_do F rfl rfl (op_alloc S _ (.agg #[.int .i64 0, .int .i64 0, .int .u64 0, .int .u64 0, .int .u64 0]) rfl (by kernel_rfl) fun b2 z S a F => ?_)
 refine l_do F rfl rfl (op_storeB S 5 _ _ _ b2 0 (.agg #[.int .i64 q0.edge, .int .i64 q0.to, .int .u64 q0.can, .int .u64 q0.base, .int .u64 q0.rate]) F rfl rfl (by kernel_rfl) (by kernel_rfl) (by kernel_rfl) (by kernel_rfl) (by kernel_rfl) fun z S a F => ?_)
 refine l_then ?_
 refine wp_seq ?_
 refine s_reg ?_
 refine l_pure 1 (fun L => (6, .int .i64 1) :: L) F (by kernel_rfl) fun a F => ?_
 refine l_then ?_
 refine wp_block ?_
 refine wp_loop_m (fun m a z => ∃ (k : Nat) (j : Nat) (qj : Stp), m = (stepsP x node).length - k ∧ (k + 1 ≤ (stepsP x node).length) ∧ (j = minIx (atI x node) k) ∧ ((stepsP x node)[j]? = some qj) ∧ Fr a 33 [(0, .slice A ((stepsP x node).length) c), (1, .func (.func 91) #[] #[.pointer (some ⟨bf, 0, none⟩)]), (4, .pointer (some ⟨b1, 0, none⟩)), (5, .pointer (some ⟨b2, 0, none⟩)), (6, .int .i64 (k + 1 : Nat))] ∧ Sat w z [rest w G, box bf 156 [.func (.func 86) #[] #[.pointer (some ⟨bw, 0, none⟩), .pointer (some ⟨bn, 0, none⟩)]], box bw 32 [.slice As x.spots.length cs, .slice Ae x.edges.length ce], box bn 3 [.int .i64 node], box b1 133 [.int .i64 0, .int .i64 0, .int .u64 0, .int .u64 0, .int .u64 0], box b2 133 [.int .i64 qj.edge, .int .i64 qj.to, .int .u64 qj.can, .int .u64 qj.base, .int .u64 qj.rate]]) _ ⟨0, 0, q0, rfl, (by omega), rfl, hq0, F.sub ⟨by kernel_rfl, by kernel_rfl, by kernel_rfl, by kernel_rfl, by kernel_rfl, trivial⟩, S⟩ ?_
 rintro m a z ⟨k, j, qj, hm, hf3, hf4, hf5, F, S⟩
 have hj := hf4
 have hqj := hf5
 have haj := atI_of hqj
 refine wp_seq ?_
 refine s_reg ?_
 refine l_pure 3 (fun L => (16, .int .i64 ((stepsP x node).length : Nat)) :: (15, .slice A ((stepsP x node).length) c) :: (14, .int .i64 (k + 1 : Nat)) :: L) F (by kernel_rfl) fun a F => ?_
 by_cases ht6 : ((k + 1 : Nat) : Int) < (((stepsP x node).length : Nat) : Int)
 ·
  skip
  obtain ⟨qi, hqi⟩ : ∃ qi, (stepsP x node)[k + 1]? = some qi := ⟨_, List.getElem?_eq_getElem (by omega)⟩
  have hai := atI_of hqi
  refine l_do F rfl rfl (op_pure F (v0 := .bool (decide (((k + 1 : Nat) : Int) < (((stepsP x node).length : Nat) : Int)))) (v := .bool true) (by kernel_rfl) (lssT ht6) fun a F => ?_)
  refine l_then ?_
  refine c_t F rfl ?_
  refine wp_skip ?_
  refine then_n ?_
  refine wp_seq ?_
  refine wp_block ?_
  refine wp_seq ?_
  by_cases ht7 : (atP x node qi - atP x node qj : Int) < (0 : Int)
  ·
   skip
   refine region_gx (fun D => fun (_ : Unit) => [rest w G, box bf 156 [.func (.func 86) #[] #[.pointer (some ⟨bw, 0, none⟩), .pointer (some ⟨bn, 0, none⟩)]], box bw 32 [.slice As x.spots.length cs, .slice Ae x.edges.length ce], box bn 3 [.int .i64 node], box b1 133 [.int .i64 0, .int .i64 0, .int .u64 0, .int .u64 0, .int .u64 0], box b2 133 [.int .i64 qj.edge, .int .i64 qj.to, .int .u64 qj.can, .int .u64 qj.base, .int .u64 qj.rate]]) (fun (_ : Unit) => [.func (.func 91) #[] #[.pointer (some ⟨bf, 0, none⟩)], .slice A ((stepsP x node).length) c, .int .i64 (k + 1 : Nat), ptrA A ((k + 1) * 5), .agg #[.int .i64 qi.edge, .int .i64 qi.to, .int .u64 qi.can, .int .u64 qi.base, .int .u64 qi.rate], .agg #[.int .i64 qj.edge, .int .i64 qj.to, .int .u64 qj.can, .int .u64 qj.base, .int .u64 qj.rate], .int .i64 (atP x node qi - atP x node qj), .bool true]) [(3, [], [4, 6, 7]), (4, [3], [6, 7]), (5, [], [6, 7]), (6, [3, 4, 5], [7]), (7, [3, 4, 5, 6], [])] () rfl (by kernel_rfl) (by kernel_rfl) F S.drew ?_ ?_ ?_ ?_ ?_
   · rintro ⟨⟩; rfl
   · rintro ⟨⟩; kernel_rfl
   ·
    intro D D' x h
    cases x
    rfl
   ·
    refine ⟨?_, ?_⟩
    ·
     refine ⟨_, rfl, rfl, by kernel_rfl, ?_⟩
     rintro D ⟨⟩ a z S F
     refine ⟨by kernel_rfl, ?_⟩
     exact op_index _ 133 _ _ A ((stepsP x node).length) c (k + 1) 5 .i64 F rfl (by kernel_rfl) (by kernel_rfl) (by kernel_rfl) (by kernel_rfl) (get_lt hqi) (recs_some hX (m := k + 1) (get_lt hqi)) (⟨(), rfl, (SameB.refl _ _ rfl), S⟩)
    refine ⟨?_, ?_⟩
    ·
     refine ⟨_, rfl, rfl, by kernel_rfl, ?_⟩
     rintro D ⟨⟩ a z S F
     refine ⟨by kernel_rfl, ?_⟩
     exact op_loadK _ _ A ((k + 1) * 5) [.int .i64 qi.edge, .int .i64 qi.to, .int .u64 qi.can, .int .u64 qi.base, .int .u64 qi.rate] F rfl (by kernel_rfl) (by kernel_rfl) (by kernel_rfl) (by simp) (cReadK0 stC_len (hX.mono (src_rest S (i := 0) rfl hX.src gX)) hqi (by kernel_rfl)) (⟨(), rfl, (SameB.refl _ _ rfl), S⟩)
    refine ⟨?_, ?_⟩
    ·
     refine ⟨_, rfl, rfl, by kernel_rfl, ?_⟩
     rintro D ⟨⟩ a z S F
     refine ⟨by kernel_rfl, ?_⟩
     exact op_loadK _ _ (some ⟨b2, 0, none⟩) 0 [.int .i64 qj.edge, .int .i64 qj.to, .int .u64 qj.can, .int .u64 qj.base, .int .u64 qj.rate] F rfl (by kernel_rfl) (by kernel_rfl) (by kernel_rfl) (by simp) (cBoxK S 5 rfl 0 (by kernel_rfl)) (⟨(), rfl, (SameB.refl _ _ rfl), S⟩)
    refine ⟨?_, ?_⟩
    ·
     refine ⟨_, rfl, rfl, by kernel_rfl, ?_⟩
     rintro D ⟨⟩ a z S F
     refine ⟨by kernel_rfl, ?_⟩
     have S : Sat w z [rest w G, box bf 156 [.func (.func 86) #[] #[.pointer (some ⟨bw, 0, none⟩), .pointer (some ⟨bn, 0, none⟩)]], box bw 32 [.slice As x.spots.length cs, .slice Ae x.edges.length ce], box bn 3 [.int .i64 node], box b1 133 [.int .i64 0, .int .i64 0, .int .u64 0, .int .u64 0, .int .u64 0], box b2 133 [.int .i64 qj.edge, .int .i64 qj.to, .int .u64 qj.can, .int .u64 qj.base, .int .u64 qj.rate]] := S
     obtain ⟨G9, g9, hin9, hlt9, k9⟩ := S.frameB [1, 2, 3] (by decide) rfl
     refine op_fn F (by kernel_rfl) (cmp3_any _ G9 bf bw bn As cs Ae ce x ⟨h.s.mono (src_rest S (i := 0) rfl h.s.src gs), h.e.mono (src_rest S (i := 0) rfl h.e.src ge)⟩ ok (InG.rest hin9 0 (by decide) rfl gs) (InG.rest hin9 0 (by decide) rfl ge) node qi qj (step_in hqi) (step_in hqj) g9) ?_
     rintro e z9 ⟨rfl, g⟩
     have S : Sat w z9 [rest w G, box bf 156 [.func (.func 86) #[] #[.pointer (some ⟨bw, 0, none⟩), .pointer (some ⟨bn, 0, none⟩)]], box bw 32 [.slice As x.spots.length cs, .slice Ae x.edges.length ce], box bn 3 [.int .i64 node], box b1 133 [.int .i64 0, .int .i64 0, .int .u64 0, .int .u64 0, .int .u64 0], box b2 133 [.int .i64 qj.edge, .int .i64 qj.to, .int .u64 qj.can, .int .u64 qj.base, .int .u64 qj.rate]] := k9 z9 [box bf 156 [.func (.func 86) #[] #[.pointer (some ⟨bw, 0, none⟩), .pointer (some ⟨bn, 0, none⟩)]], box bw 32 [.slice As x.spots.length cs, .slice Ae x.edges.length ce], box bn 3 [.int .i64 node]] rfl g
     clear g g9 k9 hin9 hlt9
     exact ⟨_, rfl, (), rfl, (SameB.refl _ _ rfl), S⟩
    refine ⟨?_, ?_⟩
    ·
     refine ⟨_, rfl, rfl, by kernel_rfl, ?_⟩
     rintro D ⟨⟩ a z S F
     refine ⟨by kernel_rfl, ?_⟩
     exact op_pure F (v0 := .bool (decide ((atP x node qi - atP x node qj : Int) < (0 : Int)))) (v := .bool true) (by kernel_rfl) (lssT ht7) ⟨(), rfl, (SameB.refl _ _ rfl), S⟩
    trivial
   ·
    rintro ⟨⟩ a z F S
    have F := F.sub (l := [(0, .slice A ((stepsP x node).length) c), (1, .func (.func 91) #[] #[.pointer (some ⟨bf, 0, none⟩)]), (4, .pointer (some ⟨b1, 0, none⟩)), (5, .pointer (some ⟨b2, 0, none⟩)), (6, .int .i64 (k + 1 : Nat)), (27, .bool true)]) ⟨by kernel_rfl, by kernel_rfl, by kernel_rfl, by kernel_rfl, by kernel_rfl, by kernel_rfl, trivial⟩
    have S : Sat w z [rest w G, box bf 156 [.func (.func 86) #[] #[.pointer (some ⟨bw, 0, none⟩), .pointer (some ⟨bn, 0, none⟩)]], box bw 32 [.slice As x.spots.length cs, .slice Ae x.edges.length ce], box bn 3 [.int .i64 node], box b1 133 [.int .i64 0, .int .i64 0, .int .u64 0, .int .u64 0, .int .u64 0], box b2 133 [.int .i64 qj.edge, .int .i64 qj.to, .int .u64 qj.can, .int .u64 qj.base, .int .u64 qj.rate]] := S
    refine then_n ?_
    refine c_t F rfl ?_
    refine wp_region_list ?_
    refine l_pure 2 (fun L => (29, .int .i64 (k + 1 : Nat)) :: (28, .slice A ((stepsP x node).length) c) :: L) F (by kernel_rfl) fun a F => ?_
    refine l_do F rfl rfl (op_index _ 133 _ _ A ((stepsP x node).length) c (k + 1) 5 .i64 F rfl (by kernel_rfl) (by kernel_rfl) (by kernel_rfl) (by kernel_rfl) (get_lt hqi) (recs_some hX (m := k + 1) (get_lt hqi)) (fun a F => ?_))
    refine l_do F rfl rfl (op_loadK _ _ A ((k + 1) * 5) [.int .i64 qi.edge, .int .i64 qi.to, .int .u64 qi.can, .int .u64 qi.base, .int .u64 qi.rate] F rfl (by kernel_rfl) (by kernel_rfl) (by kernel_rfl) (by simp) (cReadK0 stC_len (hX.mono (src_rest S (i := 0) rfl hX.src gX)) hqi (by kernel_rfl)) (fun a F => ?_))
    refine l_do F rfl rfl (op_storeB S 5 _ _ _ b2 0 (.agg #[.int .i64 qi.edge, .int .i64 qi.to, .int .u64 qi.can, .int .u64 qi.base, .int .u64 qi.rate]) F rfl rfl (by kernel_rfl) (by kernel_rfl) (by kernel_rfl) (by kernel_rfl) (by kernel_rfl) fun z S a F => ?_)
    refine l_nil (inb_n ?_)
    refine then_n ?_
    refine wp_region_list ?_
    refine l_pure 1 (fun L => (18, .int .i64 (k + 1 : Nat)) :: L) F (by kernel_rfl) fun a F => ?_
    refine l_do F rfl rfl (op_pure F (v0 := .int .i64 (IntKind.wrap .i64 ((k + 1 : Nat) + 1))) (v := .int .i64 (k + 1 + 1 : Nat)) (by kernel_rfl) (wrn_i64 (by omega) (by omega) (by omega)) fun a F => ?_)
    refine l_pure 1 (fun L => (6, .int .i64 (k + 1 + 1 : Nat)) :: L) F (by kernel_rfl) fun a F => ?_
    refine l_then ?_
    exact ⟨_, (by omega), k + 1, k + 1, qi, rfl, (by omega), ((min_step hj).1 (by rw [hai, haj]; exact (by have h9 := ht7; omega))), hqi, F.sub ⟨by kernel_rfl, by kernel_rfl, by kernel_rfl, by kernel_rfl, by kernel_rfl, trivial⟩, S⟩
  ·
   skip
   refine region_gx (fun D => fun (_ : Unit) => [rest w G, box bf 156 [.func (.func 86) #[] #[.pointer (some ⟨bw, 0, none⟩), .pointer (some ⟨bn, 0, none⟩)]], box bw 32 [.slice As x.spots.length cs, .slice Ae x.edges.length ce], box bn 3 [.int .i64 node], box b1 133 [.int .i64 0, .int .i64 0, .int .u64 0, .int .u64 0, .int .u64 0], box b2 133 [.int .i64 qj.edge, .int .i64 qj.to, .int .u64 qj.can, .int .u64 qj.base, .int .u64 qj.rate]]) (fun (_ : Unit) => [.func (.func 91) #[] #[.pointer (some ⟨bf, 0, none⟩)], .slice A ((stepsP x node).length) c, .int .i64 (k + 1 : Nat), ptrA A ((k + 1) * 5), .agg #[.int .i64 qi.edge, .int .i64 qi.to, .int .u64 qi.can, .int .u64 qi.base, .int .u64 qi.rate], .agg #[.int .i64 qj.edge, .int .i64 qj.to, .int .u64 qj.can, .int .u64 qj.base, .int .u64 qj.rate], .int .i64 (atP x node qi - atP x node qj), .bool false]) [(3, [], [4, 6, 7]), (4, [3], [6, 7]), (5, [], [6, 7]), (6, [3, 4, 5], [7]), (7, [3, 4, 5, 6], [])] () rfl (by kernel_rfl) (by kernel_rfl) F S.drew ?_ ?_ ?_ ?_ ?_
   · rintro ⟨⟩; rfl
   · rintro ⟨⟩; kernel_rfl
   ·
    intro D D' x h
    cases x
    rfl
   ·
    refine ⟨?_, ?_⟩
    ·
     refine ⟨_, rfl, rfl, by kernel_rfl, ?_⟩
     rintro D ⟨⟩ a z S F
     refine ⟨by kernel_rfl, ?_⟩
     exact op_index _ 133 _ _ A ((stepsP x node).length) c (k + 1) 5 .i64 F rfl (by kernel_rfl) (by kernel_rfl) (by kernel_rfl) (by kernel_rfl) (get_lt hqi) (recs_some hX (m := k + 1) (get_lt hqi)) (⟨(), rfl, (SameB.refl _ _ rfl), S⟩)
    refine ⟨?_, ?_⟩
    ·
     refine ⟨_, rfl, rfl, by kernel_rfl, ?_⟩
     rintro D ⟨⟩ a z S F
     refine ⟨by kernel_rfl, ?_⟩
     exact op_loadK _ _ A ((k + 1) * 5) [.int .i64 qi.edge, .int .i64 qi.to, .int .u64 qi.can, .int .u64 qi.base, .int .u64 qi.rate] F rfl (by kernel_rfl) (by kernel_rfl) (by kernel_rfl) (by simp) (cReadK0 stC_len (hX.mono (src_rest S (i := 0) rfl hX.src gX)) hqi (by kernel_rfl)) (⟨(), rfl, (SameB.refl _ _ rfl), S⟩)
    refine ⟨?_, ?_⟩
    ·
     refine ⟨_, rfl, rfl, by kernel_rfl, ?_⟩
     rintro D ⟨⟩ a z S F
     refine ⟨by kernel_rfl, ?_⟩
     exact op_loadK _ _ (some ⟨b2, 0, none⟩) 0 [.int .i64 qj.edge, .int .i64 qj.to, .int .u64 qj.can, .int .u64 qj.base, .int .u64 qj.rate] F rfl (by kernel_rfl) (by kernel_rfl) (by kernel_rfl) (by simp) (cBoxK S 5 rfl 0 (by kernel_rfl)) (⟨(), rfl, (SameB.refl _ _ rfl), S⟩)
    refine ⟨?_, ?_⟩
    ·
     refine ⟨_, rfl, rfl, by kernel_rfl, ?_⟩
     rintro D ⟨⟩ a z S F
     refine ⟨by kernel_rfl, ?_⟩
     have S : Sat w z [rest w G, box bf 156 [.func (.func 86) #[] #[.pointer (some ⟨bw, 0, none⟩), .pointer (some ⟨bn, 0, none⟩)]], box bw 32 [.slice As x.spots.length cs, .slice Ae x.edges.length ce], box bn 3 [.int .i64 node], box b1 133 [.int .i64 0, .int .i64 0, .int .u64 0, .int .u64 0, .int .u64 0], box b2 133 [.int .i64 qj.edge, .int .i64 qj.to, .int .u64 qj.can, .int .u64 qj.base, .int .u64 qj.rate]] := S
     obtain ⟨G9, g9, hin9, hlt9, k9⟩ := S.frameB [1, 2, 3] (by decide) rfl
     refine op_fn F (by kernel_rfl) (cmp3_any _ G9 bf bw bn As cs Ae ce x ⟨h.s.mono (src_rest S (i := 0) rfl h.s.src gs), h.e.mono (src_rest S (i := 0) rfl h.e.src ge)⟩ ok (InG.rest hin9 0 (by decide) rfl gs) (InG.rest hin9 0 (by decide) rfl ge) node qi qj (step_in hqi) (step_in hqj) g9) ?_
     rintro e z9 ⟨rfl, g⟩
     have S : Sat w z9 [rest w G, box bf 156 [.func (.func 86) #[] #[.pointer (some ⟨bw, 0, none⟩), .pointer (some ⟨bn, 0, none⟩)]], box bw 32 [.slice As x.spots.length cs, .slice Ae x.edges.length ce], box bn 3 [.int .i64 node], box b1 133 [.int .i64 0, .int .i64 0, .int .u64 0, .int .u64 0, .int .u64 0], box b2 133 [.int .i64 qj.edge, .int .i64 qj.to, .int .u64 qj.can, .int .u64 qj.base, .int .u64 qj.rate]] := k9 z9 [box bf 156 [.func (.func 86) #[] #[.pointer (some ⟨bw, 0, none⟩), .pointer (some ⟨bn, 0, none⟩)]], box bw 32 [.slice As x.spots.length cs, .slice Ae x.edges.length ce], box bn 3 [.int .i64 node]] rfl g
     clear g g9 k9 hin9 hlt9
     exact ⟨_, rfl, (), rfl, (SameB.refl _ _ rfl), S⟩
    refine ⟨?_, ?_⟩
    ·
     refine ⟨_, rfl, rfl, by kernel_rfl, ?_⟩
     rintro D ⟨⟩ a z S F
     refine ⟨by kernel_rfl, ?_⟩
     exact op_pure F (v0 := .bool (decide ((atP x node qi - atP x node qj : Int) < (0 : Int)))) (v := .bool false) (by kernel_rfl) (lssF ht7) ⟨(), rfl, (SameB.refl _ _ rfl), S⟩
    trivial
   ·
    rintro ⟨⟩ a z F S
    have F := F.sub (l := [(0, .slice A ((stepsP x node).length) c), (1, .func (.func 91) #[] #[.pointer (some ⟨bf, 0, none⟩)]), (4, .pointer (some ⟨b1, 0, none⟩)), (5, .pointer (some ⟨b2, 0, none⟩)), (6, .int .i64 (k + 1 : Nat)), (27, .bool false)]) ⟨by kernel_rfl, by kernel_rfl, by kernel_rfl, by kernel_rfl, by kernel_rfl, by kernel_rfl, trivial⟩
    have S : Sat w z [rest w G, box bf 156 [.func (.func 86) #[] #[.pointer (some ⟨bw, 0, none⟩), .pointer (some ⟨bn, 0, none⟩)]], box bw 32 [.slice As x.spots.length cs, .slice Ae x.edges.length ce], box bn 3 [.int .i64 node], box b1 133 [.int .i64 0, .int .i64 0, .int .u64 0, .int .u64 0, .int .u64 0], box b2 133 [.int .i64 qj.edge, .int .i64 qj.to, .int .u64 qj.can, .int .u64 qj.base, .int .u64 qj.rate]] := S
    refine then_n ?_
    refine c_f F rfl ?_
    refine wp_skip ?_
    refine inb_n ?_
    refine then_n ?_
    refine wp_region_list ?_
    refine l_pure 1 (fun L => (18, .int .i64 (k + 1 : Nat)) :: L) F (by kernel_rfl) fun a F => ?_
    refine l_do F rfl rfl (op_pure F (v0 := .int .i64 (IntKind.wrap .i64 ((k + 1 : Nat) + 1))) (v := .int .i64 (k + 1 + 1 : Nat)) (by kernel_rfl) (wrn_i64 (by omega) (by omega) (by omega)) fun a F => ?_)
    refine l_pure 1 (fun L => (6, .int .i64 (k + 1 + 1 : Nat)) :: L) F (by kernel_rfl) fun a F => ?_
    refine l_then ?_
    exact ⟨_, (by omega), k + 1, j, qj, rfl, (by omega), ((min_step hj).2 (by rw [hai, haj]; exact (by have h9 := ht7; omega))), hqj, F.sub ⟨by kernel_rfl, by kernel_rfl, by kernel_rfl, by kernel_rfl, by kernel_rfl, trivial⟩, S⟩
 ·
  skip
  have hk9 : k = (stepsP x node).length - 1 := by omega
  refine l_do F rfl rfl (op_pure F (v0 := .bool (decide (((k + 1 : Nat) : Int) < (((stepsP x node).length : Nat) : Int)))) (v := .bool false) (by kernel_rfl) (lssF ht6) fun a F => ?_)
  refine l_then ?_
  refine c_f F rfl ?_
  refine wp_exit ?_
  refine then_x ?_
  refine then_x ?_
  refine inb_x ?_
  refine then_n ?_
  refine s_reg ?_
  refine l_do F rfl rfl (op_loadK _ _ (some ⟨b2, 0, none⟩) 0 [.int .i64 qj.edge, .int .i64 qj.to, .int .u64 qj.can, .int .u64 qj.base, .int .u64 qj.rate] F rfl (by kernel_rfl) (by kernel_rfl) (by kernel_rfl) (by simp) (cBoxK S 5 rfl 0 (by kernel_rfl)) (fun a F => ?_))
  refine l_do F rfl rfl (op_storeB S 4 _ _ _ b1 0 (.agg #[.int .i64 qj.edge, .int .i64 qj.to, .int .u64 qj.can, .int .u64 qj.base, .int .u64 qj.rate]) F rfl rfl (by kernel_rfl) (by kernel_rfl) (by kernel_rfl) (by kernel_rfl) (by kernel_rfl) fun z S a F => ?_)
  refine l_then ?_
  refine wp_ret ?_
  exact fin F [.cell 4 133] [.agg #[.int .i64 qj.edge, .int .i64 qj.to, .int .u64 qj.can, .int .u64 qj.base, .int .u64 qj.rate]] rfl ⟨⟨_, by kernel_rfl, resK S 4 (cs := [.int .i64 qj.edge, .int .i64 qj.to, .int .u64 qj.can, .int .u64 qj.base, .int .u64 qj.rate]) rfl (by kernel_rfl) (by kernel_rfl) (by simp)⟩, trivial⟩ (.agg #[.int .i64 qj.edge, .int .i64 qj.to, .int .u64 qj.can, .int .u64 qj.base, .int .u64 qj.rate]) rfl ⟨qj, rfl, by rw [← hk9, ← hj]; exact hqj, S.pick [1, 2, 3, 0] (by decide)⟩
set_option maxRecDepth 100000 in
set_option maxHeartbeats 4000000 in
theorem worst_at (w : World) (As : Option Addr) (cs : Nat) (Ae : Option Addr) (ce : Nat) (x : Wb) (h : WebAt w As cs Ae ce x) (ok : x.Ok) (node : Int) {wa wb : Int} {wo : Bool} (hv : worstP x node = (wa, wb, wo)) : Calls Try.prog 49 #[.agg #[.slice As x.spots.length cs, .slice Ae x.edges.length ce], .int .i64 node] w fun e w' => e = .returned (.tuple #[.int .i64 wa, .int .i64 wb, .bool wo]) ∧ Below w.heap.size w w' := by
 refine enter 33 Try.func49 rfl rfl rfl fun a F => ?_
 have S := Sat.pushRest w
 refine s_reg ?_
 refine l_do F rfl rfl (op_box S _ _ (.agg #[.slice As x.spots.length cs, .slice Ae x.edges.length ce]) F rfl (by kernel_rfl) fun b1 z S a F => ?_)
 refine l_do F rfl rfl (op_box S _ _ (.int .i64 node) F rfl (by kernel_rfl) fun b2 z S a F => ?_)
 refine l_pure 3 (fun L => (6, .bool false) :: (5, .int .i64 0) :: (4, .int .i64 0) :: L) F (by kernel_rfl) fun a F => ?_
 refine l_then ?_
 refine s_reg ?_
 refine l_do F rfl rfl (op_loadK _ _ (some ⟨b1, 0, none⟩) 0 [.slice As x.spots.length cs, .slice Ae x.edges.length ce] F rfl (by kernel_rfl) (by kernel_rfl) (by kernel_rfl) (by simp) (cBoxK S 1 rfl 0 (by kernel_rfl)) (fun a F => ?_))
 refine l_do F rfl rfl (op_load _ _ (some ⟨b2, 0, none⟩) 0 (.int .i64 node) F rfl (by kernel_rfl) (by kernel_rfl) (cBox S 2 rfl (j := 0) rfl) (fun a F => ?_))
 refine l_do F rfl rfl (op_fn F (by kernel_rfl) (steps_any _ As cs Ae ce x (h.move S rfl) ok node) ?_)
 rintro e z ⟨A3, c4, rfl, g⟩
 have S := S.pushThings g
 refine ⟨_, rfl, ?_⟩
 intro a F
 refine l_pure 1 (fun L => (7, .slice A3 ((stepsP x node).length) c4) :: L) F (by kernel_rfl) fun a F => ?_
 refine l_then ?_
 refine wp_seq ?_
 refine s_reg ?_
 refine l_pure 2 (fun L => (15, .int .i64 ((stepsP x node).length : Nat)) :: (14, .slice A3 ((stepsP x node).length) c4) :: L) F (by kernel_rfl) fun a F => ?_
 by_cases ht5 : (((stepsP x node).length : Nat) : Int) < (2 : Int)
 ·
  skip
  have h9 := hv.symm.trans (worst_few (by omega))
  simp only [Prod.mk.injEq] at h9
  obtain ⟨rfl, rfl, rfl⟩ := h9
  refine l_do F rfl rfl (op_pure F (v0 := .bool (decide ((((stepsP x node).length : Nat) : Int) < (2 : Int)))) (v := .bool true) (by kernel_rfl) (lssT ht5) fun a F => ?_)
  refine l_then ?_
  refine c_t F rfl ?_
  refine s_reg ?_
  refine l_pure 3 (fun L => (6, .bool false) :: (5, .int .i64 0) :: (4, .int .i64 0) :: L) F (by kernel_rfl) fun a F => ?_
  refine l_then ?_
  refine wp_ret ?_
  refine then_r (?_)
  exact fin F [.tmp 4, .tmp 5, .tmp 6] [.int .i64 0, .int .i64 0, .bool false] rfl ⟨by kernel_rfl, by kernel_rfl, by kernel_rfl, trivial⟩ (.tuple #[.int .i64 0, .int .i64 0, .bool false]) rfl ⟨rfl, S.below (i := 0) rfl⟩
 ·
  skip
  have hl9 : ¬ (stepsP x node).length < 2 := by omega
  have hfew := steps_few x node
  refine l_do F rfl rfl (op_pure F (v0 := .bool (decide ((((stepsP x node).length : Nat) : Int) < (2 : Int)))) (v := .bool false) (by kernel_rfl) (lssF ht5) fun a F => ?_)
  refine l_then ?_
  refine c_f F rfl ?_
  refine wp_skip ?_
  refine then_n ?_
  refine s_reg ?_
  refine l_pure 1 (fun L => (17, .func (.func 86) #[] #[.pointer (some ⟨b1, 0, none⟩), .pointer (some ⟨b2, 0, none⟩)]) :: L) F (by kernel_rfl) fun a F => ?_
  refine l_do F rfl rfl (op_alloc S _ .nilFunc rfl (by kernel_rfl) fun b6 z S a F => ?_)
  refine l_do F rfl rfl (op_storeB S 4 _ _ _ b6 0 (.func (.func 86) #[] #[.pointer (some ⟨b1, 0, none⟩), .pointer (some ⟨b2, 0, none⟩)]) F rfl rfl (by kernel_rfl) (by kernel_rfl) (by kernel_rfl) (by kernel_rfl) (by kernel_rfl) fun z S a F => ?_)
  refine l_then ?_
  refine s_reg ?_
  refine l_pure 2 (fun L => (19, .func (.func 89) #[] #[.pointer (some ⟨b6, 0, none⟩)]) :: (18, .slice A3 ((stepsP x node).length) c4) :: L) F (by kernel_rfl) fun a F => ?_
  obtain ⟨G9, g9, hin9, hlt9, k9⟩ := S.frameB [4, 1, 2] (by decide) rfl
  refine l_do F rfl rfl (op_fn F (by kernel_rfl) (maxf_any _ G9 b6 b1 b2 As cs Ae ce x (h.move S rfl) ok (InG.rest hin9 0 (by decide) rfl (InG.all h.s.src)) (InG.rest hin9 0 (by decide) rfl (InG.all h.e.src)) node A3 c4 (Recs.ofRow (S.rowOf (i := 3) rfl) (by omega)) (InG.row S hin9 3 (by decide) rfl) (by omega) (by omega) g9) ?_)
  rintro e z9 ⟨qx, rfl, hqx, g⟩
  have S : Sat w z9 [rest w (· < w.heap.size), box b1 32 [.slice As x.spots.length cs, .slice Ae x.edges.length ce], box b2 3 [.int .i64 node], row 133 5 (.slice A3 ((stepsP x node).length) c4) ((stepsP x node).length) ((stepsP x node).flatMap stC), box b6 156 [.func (.func 86) #[] #[.pointer (some ⟨b1, 0, none⟩), .pointer (some ⟨b2, 0, none⟩)]]] := k9 z9 [box b6 156 [.func (.func 86) #[] #[.pointer (some ⟨b1, 0, none⟩), .pointer (some ⟨b2, 0, none⟩)]], box b1 32 [.slice As x.spots.length cs, .slice Ae x.edges.length ce], box b2 3 [.int .i64 node]] rfl g
  clear g g9 k9 hin9 hlt9
  refine ⟨_, rfl, ?_⟩
  intro a F
  refine l_do F rfl rfl (op_alloc S _ (.agg #[.int .i64 0, .int .i64 0, .int .u64 0, .int .u64 0, .int .u64 0]) rfl (by kernel_rfl) fun b7 z S a F => ?_)
  refine l_do F rfl rfl (op_storeB S 5 _ _ _ b7 0 (.agg #[.int .i64 qx.edge, .int .i64 qx.to, .int .u64 qx.can, .int .u64 qx.base, .int .u64 qx.rate]) F rfl rfl (by kernel_rfl) (by kernel_rfl) (by kernel_rfl) (by kernel_rfl) (by kernel_rfl) fun z S a F => ?_)
  refine l_then ?_
  refine s_reg ?_
  refine l_pure 2 (fun L => (22, .func (.func 91) #[] #[.pointer (some ⟨b6, 0, none⟩)]) :: (21, .slice A3 ((stepsP x node).length) c4) :: L) F (by kernel_rfl) fun a F => ?_
  obtain ⟨G9, g9, hin9, hlt9, k9⟩ := S.frameB [4, 1, 2] (by decide) rfl
  refine l_do F rfl rfl (op_fn F (by kernel_rfl) (minf_any _ G9 b6 b1 b2 As cs Ae ce x (h.move S rfl) ok (InG.rest hin9 0 (by decide) rfl (InG.all h.s.src)) (InG.rest hin9 0 (by decide) rfl (InG.all h.e.src)) node A3 c4 (Recs.ofRow (S.rowOf (i := 3) rfl) (by omega)) (InG.row S hin9 3 (by decide) rfl) (by omega) (by omega) g9) ?_)
  rintro e z9 ⟨qn, rfl, hqn, g⟩
  have S : Sat w z9 [rest w (· < w.heap.size), box b1 32 [.slice As x.spots.length cs, .slice Ae x.edges.length ce], box b2 3 [.int .i64 node], row 133 5 (.slice A3 ((stepsP x node).length) c4) ((stepsP x node).length) ((stepsP x node).flatMap stC), box b6 156 [.func (.func 86) #[] #[.pointer (some ⟨b1, 0, none⟩), .pointer (some ⟨b2, 0, none⟩)]], box b7 133 [.int .i64 qx.edge, .int .i64 qx.to, .int .u64 qx.can, .int .u64 qx.base, .int .u64 qx.rate]] := k9 z9 [box b6 156 [.func (.func 86) #[] #[.pointer (some ⟨b1, 0, none⟩), .pointer (some ⟨b2, 0, none⟩)]], box b1 32 [.slice As x.spots.length cs, .slice Ae x.edges.length ce], box b2 3 [.int .i64 node]] rfl g
  clear g g9 k9 hin9 hlt9
  refine ⟨_, rfl, ?_⟩
  intro a F
  refine l_do F rfl rfl (op_alloc S _ (.agg #[.int .i64 0, .int .i64 0, .int .u64 0, .int .u64 0, .int .u64 0]) rfl (by kernel_rfl) fun b8 z S a F => ?_)
  refine l_do F rfl rfl (op_storeB S 6 _ _ _ b8 0 (.agg #[.int .i64 qn.edge, .int .i64 qn.to, .int .u64 qn.can, .int .u64 qn.base, .int .u64 qn.rate]) F rfl rfl (by kernel_rfl) (by kernel_rfl) (by kernel_rfl) (by kernel_rfl) (by kernel_rfl) fun z S a F => ?_)
  refine l_then ?_
  refine wp_seq ?_
  refine s_reg ?_
  refine l_pure 1 (fun L => (24, .pointer (some ⟨b7, 0, none⟩)) :: L) F (by kernel_rfl) fun a F => ?_
  refine l_do F rfl rfl (op_load _ _ (some ⟨b7, 0, none⟩) 0 (.int .i64 qx.edge) F rfl (by kernel_rfl) (by kernel_rfl) (cBox S 5 rfl (j := 0) rfl) (fun a F => ?_))
  refine l_pure 1 (fun L => (26, .pointer (some ⟨b8, 0, none⟩)) :: L) F (by kernel_rfl) fun a F => ?_
  refine l_do F rfl rfl (op_load _ _ (some ⟨b8, 0, none⟩) 0 (.int .i64 qn.edge) F rfl (by kernel_rfl) (by kernel_rfl) (cBox S 6 rfl (j := 0) rfl) (fun a F => ?_))
  by_cases ht9 : (qx.edge : Int) = (qn.edge : Int)
  ·
   skip
   have hij := steps_inj hqx hqn ht9
   have h9 := hv.symm.trans (worst_same hl9 rfl hij)
   simp only [Prod.mk.injEq] at h9
   obtain ⟨rfl, rfl, rfl⟩ := h9
   refine l_do F rfl rfl (op_pure F (v0 := .bool ((qx.edge : Int) == (qn.edge : Int))) (v := .bool true) (by kernel_rfl) (eqlT ht9) fun a F => ?_)
   refine l_then ?_
   refine c_t F rfl ?_
   refine s_reg ?_
   refine l_pure 3 (fun L => (6, .bool false) :: (5, .int .i64 0) :: (4, .int .i64 0) :: L) F (by kernel_rfl) fun a F => ?_
   refine l_then ?_
   refine wp_ret ?_
   refine then_r (?_)
   exact fin F [.tmp 4, .tmp 5, .tmp 6] [.int .i64 0, .int .i64 0, .bool false] rfl ⟨by kernel_rfl, by kernel_rfl, by kernel_rfl, trivial⟩ (.tuple #[.int .i64 0, .int .i64 0, .bool false]) rfl ⟨rfl, S.below (i := 0) rfl⟩
  ·
   skip
   have h9 := hv.symm.trans (worst_two hl9 rfl rfl (fun e9 => ht9 (by rw [e9, hqn] at hqx; injection hqx with hqx; rw [hqx])) hqx hqn)
   simp only [Prod.mk.injEq] at h9
   obtain ⟨rfl, rfl, rfl⟩ := h9
   refine l_do F rfl rfl (op_pure F (v0 := .bool ((qx.edge : Int) == (qn.edge : Int))) (v := .bool false) (by kernel_rfl) (eqlF ht9) fun a F => ?_)
   refine l_then ?_
   refine c_f F rfl ?_
   refine wp_skip ?_
   refine then_n ?_
   refine wp_seq ?_
   refine region_gx (fun D => fun (_ : Unit) => [rest w (· < w.heap.size), box b1 32 [.slice As x.spots.length cs, .slice Ae x.edges.length ce], box b2 3 [.int .i64 node], row 133 5 (.slice A3 ((stepsP x node).length) c4) ((stepsP x node).length) ((stepsP x node).flatMap stC), box b6 156 [.func (.func 86) #[] #[.pointer (some ⟨b1, 0, none⟩), .pointer (some ⟨b2, 0, none⟩)]], box b7 133 [.int .i64 qx.edge, .int .i64 qx.to, .int .u64 qx.can, .int .u64 qx.base, .int .u64 qx.rate], box b8 133 [.int .i64 qn.edge, .int .i64 qn.to, .int .u64 qn.can, .int .u64 qn.base, .int .u64 qn.rate]]) (fun (_ : Unit) => [.pointer (some ⟨b7, 0, none⟩), .int .i64 qx.edge, .pointer (some ⟨b8, 0, none⟩), .int .i64 qn.edge, .int .i64 qx.edge, .int .i64 qn.edge, .bool true]) [(1, [], []), (3, [], [])] () rfl (by kernel_rfl) (by kernel_rfl) F S.drew ?_ ?_ ?_ ?_ ?_
   · rintro ⟨⟩; rfl
   · rintro ⟨⟩; kernel_rfl
   ·
    intro D D' x h
    cases x
    rfl
   ·
    refine ⟨?_, ?_⟩
    ·
     refine ⟨_, rfl, rfl, by kernel_rfl, ?_⟩
     rintro D ⟨⟩ a z S F
     refine ⟨by kernel_rfl, ?_⟩
     exact op_load _ _ (some ⟨b7, 0, none⟩) 0 (.int .i64 qx.edge) F rfl (by kernel_rfl) (by kernel_rfl) (cBox S 5 rfl (j := 0) rfl) (⟨(), rfl, (SameB.refl _ _ rfl), S⟩)
    refine ⟨?_, ?_⟩
    ·
     refine ⟨_, rfl, rfl, by kernel_rfl, ?_⟩
     rintro D ⟨⟩ a z S F
     refine ⟨by kernel_rfl, ?_⟩
     exact op_load _ _ (some ⟨b8, 0, none⟩) 0 (.int .i64 qn.edge) F rfl (by kernel_rfl) (by kernel_rfl) (cBox S 6 rfl (j := 0) rfl) (⟨(), rfl, (SameB.refl _ _ rfl), S⟩)
    trivial
   ·
    rintro ⟨⟩ a z F S
    have F := F.sub (l := [(4, .int .i64 qx.edge), (5, .int .i64 qn.edge), (6, .bool true)]) ⟨by kernel_rfl, by kernel_rfl, by kernel_rfl, trivial⟩
    have S : Sat w z [rest w (· < w.heap.size), box b1 32 [.slice As x.spots.length cs, .slice Ae x.edges.length ce], box b2 3 [.int .i64 node], row 133 5 (.slice A3 ((stepsP x node).length) c4) ((stepsP x node).length) ((stepsP x node).flatMap stC), box b6 156 [.func (.func 86) #[] #[.pointer (some ⟨b1, 0, none⟩), .pointer (some ⟨b2, 0, none⟩)]], box b7 133 [.int .i64 qx.edge, .int .i64 qx.to, .int .u64 qx.can, .int .u64 qx.base, .int .u64 qx.rate], box b8 133 [.int .i64 qn.edge, .int .i64 qn.to, .int .u64 qn.can, .int .u64 qn.base, .int .u64 qn.rate]] := S
    refine then_n ?_
    refine wp_ret ?_
    exact fin F [.tmp 4, .tmp 5, .tmp 6] [.int .i64 qx.edge, .int .i64 qn.edge, .bool true] rfl ⟨by kernel_rfl, by kernel_rfl, by kernel_rfl, trivial⟩ (.tuple #[.int .i64 qx.edge, .int .i64 qn.edge, .bool true]) rfl ⟨rfl, S.below (i := 0) rfl⟩
end Go.Proofs.Ytcfpbemoocegfaa
