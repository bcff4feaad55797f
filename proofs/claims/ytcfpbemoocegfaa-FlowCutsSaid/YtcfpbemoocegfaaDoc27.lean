/- Walks over the document's cuts, set by set; over what nodes can send out. -/
import Derived.Test.YtcfpbemoocegfaaFlowR
import Derived.Test.YtcfpbemoocegfaaSoundP
import Derived.Test.YtcfpbemoocegfaaGmap
namespace Go.Proofs.Ytcfpbemoocegfaa
set_option linter.unusedVariables false
set_option linter.unusedSimpArgs false
set_option linter.unnecessarySimpa false
section
variable {P : Program} {a : Act} {n : Nat} {L : List (Nat × Value)} {o : Oper} {w : World} {R : Value → World → Prop}
/-- A quotient. -/
theorem op_quo (T T' : TypeId) (x y : Operand) (k : IntKind) (p q : Int) {v : Int} (F : Fr a n L) (ho : o.op = .binOp .quo T x y T') (hx : val? L x = some (.int k p)) (hy : val? L y = some (.int k q)) (hq : ¬ q = 0) (hv : IntKind.wrap k (p.tdiv q) = v) (hR : R (.int k v) w) : OpR P a w o R := by
  refine op_run (v := .int k v) (w' := w) ?_ hR
  unfold execOp
  simp only [ho, F.val hx, F.val hy]
  subst hv
  simp [eqGuard, binOp, Op.intDiv, hq]
/-- A rest. -/
theorem op_rem (T T' : TypeId) (x y : Operand) (k : IntKind) (p q : Int) {v : Int} (F : Fr a n L) (ho : o.op = .binOp .rem T x y T') (hx : val? L x = some (.int k p)) (hy : val? L y = some (.int k q)) (hq : ¬ q = 0) (hv : p.tmod q = v) (hR : R (.int k v) w) : OpR P a w o R := by
  refine op_run (v := .int k v) (w' := w) ?_ hR
  unfold execOp
  simp only [ho, F.val hx, F.val hy]
  subst hv
  simp [eqGuard, binOp, Op.intDiv, hq]
end
open Go Go.RowKit

theorem half_next {sv s i : Nat} (h : sv = s / 2 ^ i) : sv / 2 = s / 2 ^ (i + 1) := by rw [h, Nat.pow_succ, Nat.div_div_eq_div_mul]
theorem in_yes {s sv i : Nat} {v : Int} (hsv : sv = s / 2 ^ i) (hi : (i : Int) = v) (h : (sv : Int) % 2 = 1) : setT s v = true := by
  subst hi hsv
  rw [setT_nat]; exact (bit_div s i).1 h
theorem in_no {s sv i : Nat} {v : Int} (hsv : sv = s / 2 ^ i) (hi : (i : Int) = v) (h : ¬ (sv : Int) % 2 = 1) : setT s v = false := by
  subst hi hsv
  rw [setT_nat]
  cases hb : s.testBit i with
  | false => rfl
  | true => exact absurd ((bit_div s i).2 hb) h
/-- A cut over the first channels. -/
def cutTo (x : Wb) (T : Int → Bool) (k : Nat) : Int := totE (fun e => e.cut T) (x.edges.take k)
theorem cutTo_nil (x : Wb) (T : Int → Bool) : cutTo x T 0 = 0 := rfl
theorem totE_app (f : Edg → Int) : ∀ (l m : List Edg), totE f (l ++ m) = totE f l + totE f m
  | [], m => by simp [totE]
  | a :: l, m => by simp only [List.cons_append, totE, totE_app f l m]; omega
theorem cutTo_snoc {x : Wb} {T : Int → Bool} {k : Nat} {e : Edg} (h : x.edges[k]? = some e) : cutTo x T (k + 1) = cutTo x T k + e.cut T := by
  unfold cutTo
  rw [List.take_add_one, h, totE_app]
  simp [totE]
theorem cutTo_all (x : Wb) (T : Int → Bool) : cutTo x T x.edges.length = cutP x T := by unfold cutTo cutP; rw [List.take_length]
theorem cut_nn {e : Edg} (h : e.Ok) (T : Int → Bool) : 0 ≤ e.cut T := by
  have h0 := h.c0.1; have h1 := h.c1.1
  unfold Edg.cut
  split
  · exact h0
  · split
    · exact h1
    · exact Int.le_refl _
theorem cutTo_le {x : Wb} (ok : x.Ok) (T : Int → Bool) (k : Nat) : 0 ≤ cutTo x T k ∧ cutTo x T k ≤ holds x := by
  have h1 : 0 ≤ cutTo x T k := totE_nn _ _ fun e he => cut_nn (ok.e e (List.mem_of_mem_take he)) T
  have h2 : 0 ≤ totE (fun e => e.cut T) (x.edges.drop k) := totE_nn _ _ fun e he => cut_nn (ok.e e (List.mem_of_mem_drop he)) T
  have h3 := cutP_le ok T
  have h4 : cutP x T = cutTo x T k + totE (fun e => e.cut T) (x.edges.drop k) := by
    unfold cutP cutTo
    rw [← totE_app, List.take_append_drop]
  omega
theorem cut_tf {e : Edg} {T : Int → Bool} (ha : T e.a = true) (hb : T e.b = false) : e.cut T = e.c0 := if_pos ⟨ha, hb⟩
theorem cut_ft {e : Edg} {T : Int → Bool} (ha : T e.a = false) (hb : T e.b = true) : e.cut T = e.c1 := by unfold Edg.cut; rw [ha, hb]; rfl
theorem cut_ss {e : Edg} {T : Int → Bool} {q : Bool} (ha : T e.a = q) (hb : T e.b = q) : e.cut T = 0 := by unfold Edg.cut; rw [ha, hb]; cases q <;> rfl
theorem ends_pos {x : Wb} (hc : chkP x = 0) {k : Nat} {e : Edg} (he : x.edges[k]? = some e) : 0 ≤ e.a ∧ e.a ≤ 1000 ∧ 0 ≤ e.b ∧ e.b ≤ 1000 := by
  obtain ⟨z1, _, z3⟩ := chk_zero hc
  have hb := z3 e (List.mem_of_getElem? he)
  unfold badE at hb
  omega
/-- Nodes, as a list has them. -/
def inL (N : List Int) (v : Int) : Bool := decide (v ∈ N)
theorem getM_put (es : List Ent) (a b : Int) (v : Value) (ck : Nat) : getM (putM es a v ck) b = if a = b then some v else getM es b := by
  unfold getM putM
  cases hq : es.findIdx? (fun p => p.1 == a) with
  | none =>
    simp only [List.find?_append]
    have hno : ∀ p ∈ es, ¬ p.1 = a := by
      intro p hp he
      have := List.findIdx?_eq_none_iff.1 hq p hp
      simp [he] at this
    by_cases hab : a = b
    · subst hab
      have : es.find? (fun p => p.1 == a) = none := by
        rw [List.find?_eq_none]; intro p hp; simp [hno p hp]
      rw [this]; simp
    · cases hf : es.find? (fun p => p.1 == b) <;> simp [hab]
  | some i =>
    obtain ⟨hi, h1, h2⟩ := List.findIdx?_eq_some_iff_getElem.1 hq
    have hia : es[i].1 = a := by simpa using h1
    dsimp only
    have hsplit : es = es.take i ++ es[i] :: es.drop (i + 1) := by rw [List.getElem_cons_drop, List.take_append_drop]
    have hmod : es.modify i (fun p => (a, v, p.2.2)) = es.take i ++ (a, v, es[i].2.2) :: es.drop (i + 1) := by
      rw [List.modify_eq_take_cons_drop hi]
    rw [hmod]
    conv => rhs; rw [hsplit]
    rw [List.find?_append, List.find?_append]
    by_cases hab : a = b
    · subst hab
      have : (es.take i).find? (fun p => p.1 == a) = none := by
        rw [List.find?_eq_none]
        intro p hp
        obtain ⟨j, hj, rfl⟩ := List.getElem_of_mem hp
        rw [List.getElem_take]
        have hj' : j < i := by rw [List.length_take] at hj; omega
        simpa using h2 j hj'
      rw [this]; simp
    · rw [List.find?_cons_of_neg (by simp [hab]), List.find?_cons_of_neg (l := es.drop (i + 1)) (by simp [hia, hab]), if_neg hab]
theorem inL_snoc {N : List Int} {k : Nat} {n : Int} (hn : N[k]? = some n) {es : List Ent} {ck : Nat} (h : ∀ v, getM es v = if inL (N.take k) v = true then some (.bool true) else none) : ∀ v, getM (putM es n (.bool true) ck) v = if inL (N.take (k + 1)) v = true then some (.bool true) else none := by
  intro v
  rw [getM_put, h v, List.take_add_one, hn]
  unfold inL
  by_cases hv : n = v
  · subst hv; simp
  · have : ¬ v = n := fun e => hv e.symm
    simp [hv, this]
theorem inL_get {N : List Int} {es : List Ent} (h : ∀ v, getM es v = if inL N v = true then some (.bool true) else none) (v : Int) : (getM es v).getD (.bool false) = .bool (inL N v) := by
  rw [h v]
  cases inL N v <;> rfl
/-- What the channels that lead out of nodes can send to others. -/
def outP (x : Wb) (N : List Int) : Int × Int := if chkP x ≠ 0 then (0, chkP x) else if (allP x).2 ≠ 0 then (0, (allP x).2) else (cutP x (inL N), 0)
theorem outP_chk {x : Wb} {N : List Int} (h : chkP x ≠ 0) : outP x N = (0, chkP x) := if_pos h
theorem outP_all {x : Wb} {N : List Int} (hc : chkP x = 0) (h : (allP x).2 ≠ 0) : outP x N = (0, (allP x).2) := by unfold outP; rw [if_neg (by omega), if_pos h]
theorem outP_ok {x : Wb} {N : List Int} (hc : chkP x = 0) (h : (allP x).2 = 0) : outP x N = (cutP x (inL N), 0) := by unfold outP; rw [if_neg (by omega), if_neg (by omega)]

set_option maxRecDepth 100000 in
set_option maxHeartbeats 4000000 in
theorem in_any (w : World) (s : Nat) (v : Int) (hs : s ≤ 1048576) (h0 : 0 ≤ v) (h1 : v ≤ 1000) : Calls Try.prog 40 #[.int .i64 (s : Nat), .int .i64 v] w fun e w' => e = .returned (.bool (setT s v)) ∧ Below w.heap.size w w' := by
 refine enter 16 Try.func40 rfl rfl rfl fun a F => ?_
 have S := Sat.pushRest w
 refine s_reg ?_
 refine l_pure 1 (fun L => (4, .bool false) :: L) F (by kernel_rfl) fun a F => ?_
 refine l_then ?_
 refine wp_seq ?_
 refine s_reg ?_
 refine l_pure 1 (fun L => (5, .int .i64 0) :: L) F (by kernel_rfl) fun a F => ?_
 refine l_then ?_
 refine wp_block ?_
 refine wp_loop_m (fun m a z => ∃ (i : Nat) (sv : Nat), m = v.toNat - i ∧ (sv = s / 2 ^ i) ∧ (sv ≤ 1048576) ∧ (i ≤ v.toNat) ∧ Fr a 16 [(0, .int .i64 (sv : Nat)), (1, .int .i64 v), (5, .int .i64 (i : Nat))] ∧ Sat w z [rest w (· < w.heap.size)]) _ ⟨0, s, rfl, (Nat.div_one s).symm, hs, Nat.zero_le _, F.sub ⟨by kernel_rfl, by kernel_rfl, by kernel_rfl, trivial⟩, S⟩ ?_
 rintro m a z ⟨i, sv, hm, hf1, hf2, hf3, F, S⟩
 have hsv := hf1
 have hsb := hf2
 have hi := hf3
 refine wp_seq ?_
 refine s_reg ?_
 refine l_pure 2 (fun L => (7, .int .i64 v) :: (6, .int .i64 (i : Nat)) :: L) F (by kernel_rfl) fun a F => ?_
 by_cases ht4 : ((i : Nat) : Int) < (v : Int)
 ·
  skip
  refine l_do F rfl rfl (op_pure F (v0 := .bool (decide (((i : Nat) : Int) < (v : Int)))) (v := .bool true) (by kernel_rfl) (lssT ht4) fun a F => ?_)
  refine l_then ?_
  refine c_t F rfl ?_
  refine wp_skip ?_
  refine then_n ?_
  refine wp_seq ?_
  refine wp_block ?_
  refine wp_region_list ?_
  refine l_pure 1 (fun L => (11, .int .i64 (sv : Nat)) :: L) F (by kernel_rfl) fun a F => ?_
  refine l_do F rfl rfl (op_quo _ _ _ _ .i64 (sv : Nat) 2 F rfl (by kernel_rfl) (by kernel_rfl) (by omega) (IntWalk.i64_quo _ _ ⟨by omega, by omega, by omega⟩) (fun a F => ?_))
  refine l_pure 1 (fun L => (0, .int .i64 ((sv : Nat) / 2)) :: L) F (by kernel_rfl) fun a F => ?_
  refine l_nil (inb_n ?_)
  refine then_n ?_
  refine wp_region_list ?_
  refine l_pure 1 (fun L => (9, .int .i64 (i : Nat)) :: L) F (by kernel_rfl) fun a F => ?_
  refine l_do F rfl rfl (op_pure F (v0 := .int .i64 (IntKind.wrap .i64 ((i : Nat) + 1))) (v := .int .i64 (i + 1 : Nat)) (by kernel_rfl) (wrn_i64 (by omega) (by omega) (by omega)) fun a F => ?_)
  refine l_pure 1 (fun L => (5, .int .i64 (i + 1 : Nat)) :: L) F (by kernel_rfl) fun a F => ?_
  refine l_then ?_
  exact ⟨_, (by omega), i + 1, (sv / 2), rfl, (half_next hsv), (by omega), (by omega), F.sub ⟨by kernel_rfl, by kernel_rfl, by kernel_rfl, trivial⟩, S⟩
 ·
  skip
  have hiv : (i : Int) = v := by omega
  refine l_do F rfl rfl (op_pure F (v0 := .bool (decide (((i : Nat) : Int) < (v : Int)))) (v := .bool false) (by kernel_rfl) (lssF ht4) fun a F => ?_)
  refine l_then ?_
  refine c_f F rfl ?_
  refine wp_exit ?_
  refine then_x ?_
  refine then_x ?_
  refine inb_x ?_
  refine then_n ?_
  refine s_reg ?_
  refine l_pure 1 (fun L => (13, .int .i64 (sv : Nat)) :: L) F (by kernel_rfl) fun a F => ?_
  refine l_do F rfl rfl (op_rem _ _ _ _ .i64 (sv : Nat) 2 F rfl (by kernel_rfl) (by kernel_rfl) (by omega) (IntWalk.rem_in _ _ (by omega)) (fun a F => ?_))
  by_cases ht5 : ((sv : Nat) % 2 : Int) = (1 : Int)
  ·
   skip
   have hbit := ht5
   refine l_do F rfl rfl (op_pure F (v0 := .bool (((sv : Nat) % 2 : Int) == (1 : Int))) (v := .bool true) (by kernel_rfl) (eqlT ht5) fun a F => ?_)
   refine l_pure 1 (fun L => (4, .bool true) :: L) F (by kernel_rfl) fun a F => ?_
   refine l_then ?_
   refine wp_ret ?_
   exact fin F [.tmp 4] [.bool true] rfl ⟨by kernel_rfl, trivial⟩ (.bool true) rfl ⟨by rw [in_yes hsv hiv hbit], S.below (i := 0) rfl⟩
  ·
   skip
   have hbit := ht5
   refine l_do F rfl rfl (op_pure F (v0 := .bool (((sv : Nat) % 2 : Int) == (1 : Int))) (v := .bool false) (by kernel_rfl) (eqlF ht5) fun a F => ?_)
   refine l_pure 1 (fun L => (4, .bool false) :: L) F (by kernel_rfl) fun a F => ?_
   refine l_then ?_
   refine wp_ret ?_
   exact fin F [.tmp 4] [.bool false] rfl ⟨by kernel_rfl, trivial⟩ (.bool false) rfl ⟨by rw [in_no hsv hiv hbit], S.below (i := 0) rfl⟩
set_option maxRecDepth 100000 in
set_option maxHeartbeats 4000000 in
theorem rover_any (w : World) (As : Option Addr) (cs : Nat) (Ae : Option Addr) (ce : Nat) (x : Wb) (h : WebAt w As cs Ae ce x) (ok : x.Ok) (hs1 : x.edges.length ≤ 1000) (s : Nat) (hs : s ≤ 1048576) (hc : chkP x = 0) (hho : holds x < 18446744073709551616) : Calls Try.prog 43 #[.agg #[.slice As x.spots.length cs, .slice Ae x.edges.length ce], .int .i64 (s : Nat)] w fun e w' => e = .returned (.int .u64 (cutP x (setT s))) ∧ Below w.heap.size w w' := by
 refine enter 58 Try.func43 rfl rfl rfl fun a F => ?_
 have S := Sat.pushRest w
 refine s_reg ?_
 refine l_do F rfl rfl (op_box S _ _ (.agg #[.slice As x.spots.length cs, .slice Ae x.edges.length ce]) F rfl (by kernel_rfl) fun b1 z S a F => ?_)
 refine l_pure 1 (fun L => (4, .int .u64 0) :: L) F (by kernel_rfl) fun a F => ?_
 refine l_then ?_
 refine s_reg ?_
 refine l_pure 1 (fun L => (5, .int .u64 0) :: L) F (by kernel_rfl) fun a F => ?_
 refine l_then ?_
 refine wp_seq ?_
 refine s_reg ?_
 refine l_pure 1 (fun L => (6, .int .i64 0) :: L) F (by kernel_rfl) fun a F => ?_
 refine l_then ?_
 refine wp_block ?_
 refine wp_loop_m (fun m a z => ∃ (k : Nat), m = x.edges.length - k ∧ (k ≤ x.edges.length) ∧ Fr a 58 [(1, .int .i64 (s : Nat)), (2, .pointer (some ⟨b1, 0, none⟩)), (5, .int .u64 (cutTo x (setT s) k)), (6, .int .i64 (k : Nat))] ∧ Sat w z [rest w (· < w.heap.size), box b1 25 [.slice As x.spots.length cs, .slice Ae x.edges.length ce]]) _ ⟨0, rfl, Nat.zero_le _, F.sub ⟨by kernel_rfl, by kernel_rfl, by kernel_rfl, by kernel_rfl, trivial⟩, S⟩ ?_
 rintro m a z ⟨k, hm, hf2, F, S⟩
 refine wp_seq ?_
 refine s_reg ?_
 refine l_pure 2 (fun L => (11, .pointer (some ⟨b1, 1, none⟩)) :: (10, .int .i64 (k : Nat)) :: L) F (by kernel_rfl) fun a F => ?_
 refine l_do F rfl rfl (op_load _ _ (some ⟨b1, 0, none⟩) 1 (.slice Ae x.edges.length ce) F rfl (by kernel_rfl) (by kernel_rfl) (cBox S 1 rfl (j := 1) rfl) (fun a F => ?_))
 refine l_pure 1 (fun L => (13, .int .i64 (x.edges.length : Nat)) :: L) F (by kernel_rfl) fun a F => ?_
 by_cases ht3 : ((k : Nat) : Int) < ((x.edges.length : Nat) : Int)
 ·
  skip
  obtain ⟨ed, hed⟩ : ∃ ed, x.edges[k]? = some ed := ⟨_, List.getElem?_eq_getElem (by omega)⟩
  have hen := ends_pos hc hed
  have hedo := ok.e ed (List.mem_of_getElem? hed)
  have k1 := hedo.c0.1
  have k2 := hedo.c1.1
  have hsn := cutTo_snoc (T := setT s) hed
  have hk1 := cutTo_le ok (setT s) (k + 1)
  have hk0 := cutTo_le ok (setT s) k
  refine l_do F rfl rfl (op_pure F (v0 := .bool (decide (((k : Nat) : Int) < ((x.edges.length : Nat) : Int)))) (v := .bool true) (by kernel_rfl) (lssT ht3) fun a F => ?_)
  refine l_then ?_
  refine c_t F rfl ?_
  refine wp_skip ?_
  refine then_n ?_
  refine wp_seq ?_
  refine wp_block ?_
  refine s_reg ?_
  refine l_pure 1 (fun L => (7, .int .i64 0) :: L) F (by kernel_rfl) fun a F => ?_
  refine l_then ?_
  refine wp_block ?_
  refine wp_loop_rounds 3 (rnd ?_)
  refine wp_seq ?_
  refine s_reg ?_
  refine l_pure 2 (fun L => (18, .bool true) :: (17, .int .i64 0) :: L) F (by kernel_rfl) fun a F => ?_
  refine l_then ?_
  refine c_t F rfl ?_
  refine wp_skip ?_
  refine then_n ?_
  refine wp_seq ?_
  refine wp_block ?_
  refine wp_seq ?_
  refine region_gx (fun D => fun (_ : Unit) => [rest w (· < w.heap.size), box b1 25 [.slice As x.spots.length cs, .slice Ae x.edges.length ce]]) (fun (_ : Unit) => [.pointer (some ⟨b1, 1, none⟩), .slice Ae x.edges.length ce, .int .i64 (k : Nat), .int .i64 0, ptrA Ae (k * 8), ptrA Ae (k * 8), ptrA Ae (k * 8), .int .i64 ed.a, .pointer (some ⟨b1, 1, none⟩), .slice Ae x.edges.length ce, .int .i64 (k : Nat), .int .i64 0, .int .i64 1, ptrA Ae (k * 8), ptrA Ae (k * 8), ptrA Ae (k * 8 + 1), .int .i64 ed.b, .int .i64 ed.a, .int .i64 ed.b]) [(1, [], [4, 5, 6, 7]), (4, [1], [5, 6, 7]), (5, [1, 4], [6, 7]), (6, [1, 4, 5], [7]), (7, [1, 4, 5, 6], []), (9, [], [13, 14, 15, 16]), (13, [9], [14, 15, 16]), (14, [9, 13], [15, 16]), (15, [9, 13, 14], [16]), (16, [9, 13, 14, 15], [])] () rfl (by kernel_rfl) (by kernel_rfl) F S.drew ?_ ?_ ?_ ?_ ?_
  · rintro ⟨⟩; rfl
  · rintro ⟨⟩; kernel_rfl
  ·
   intro D D' x h
   cases x
   rfl
  ·
   refine ⟨?_, ?_⟩
   ·
    refine ⟨_, rfl, rfl, by kernel_rfl, ?_⟩
    rintro D ⟨⟩ a z S F
    refine ⟨by kernel_rfl, ?_⟩
    exact op_load _ _ (some ⟨b1, 0, none⟩) 1 (.slice Ae x.edges.length ce) F rfl (by kernel_rfl) (by kernel_rfl) (cBox S 1 rfl (j := 1) rfl) (⟨(), rfl, (SameB.refl _ _ rfl), S⟩)
   refine ⟨?_, ?_⟩
   ·
    refine ⟨_, rfl, rfl, by kernel_rfl, ?_⟩
    rintro D ⟨⟩ a z S F
    refine ⟨by kernel_rfl, ?_⟩
    exact op_index _ 104 _ _ Ae x.edges.length ce k 8 .i64 F rfl (by kernel_rfl) (by kernel_rfl) (by kernel_rfl) (by kernel_rfl) (get_lt hed) (recs_some h.e (m := k) (get_lt hed)) (⟨(), rfl, (SameB.refl _ _ rfl), S⟩)
   refine ⟨?_, ?_⟩
   ·
    refine ⟨_, rfl, rfl, by kernel_rfl, ?_⟩
    rintro D ⟨⟩ a z S F
    refine ⟨by kernel_rfl, ?_⟩
    exact op_field _ _ _ Ae (k * 8) 0 F rfl (by kernel_rfl) (by kernel_rfl) (recs_some h.e (m := k) (get_lt hed)) (⟨(), rfl, (SameB.refl _ _ rfl), S⟩)
   refine ⟨?_, ?_⟩
   ·
    refine ⟨_, rfl, rfl, by kernel_rfl, ?_⟩
    rintro D ⟨⟩ a z S F
    refine ⟨by kernel_rfl, ?_⟩
    exact op_indexArr _ 3 _ _ Ae (k * 8) 2 0 1 .i64 F rfl (by kernel_rfl) (by kernel_rfl) (by kernel_rfl) (by kernel_rfl) (by decide) (recs_some h.e (m := k) (get_lt hed)) (⟨(), rfl, (SameB.refl _ _ rfl), S⟩)
   refine ⟨?_, ?_⟩
   ·
    refine ⟨_, rfl, rfl, by kernel_rfl, ?_⟩
    rintro D ⟨⟩ a z S F
    refine ⟨by kernel_rfl, ?_⟩
    exact op_load _ _ Ae (k * 8) (.int .i64 ed.a) F rfl (by kernel_rfl) (by kernel_rfl) (cOld S 0 edC_len h.e rfl 0 hed rfl) (⟨(), rfl, (SameB.refl _ _ rfl), S⟩)
   refine ⟨?_, ?_⟩
   ·
    refine ⟨_, rfl, rfl, by kernel_rfl, ?_⟩
    rintro D ⟨⟩ a z S F
    refine ⟨by kernel_rfl, ?_⟩
    exact op_load _ _ (some ⟨b1, 0, none⟩) 1 (.slice Ae x.edges.length ce) F rfl (by kernel_rfl) (by kernel_rfl) (cBox S 1 rfl (j := 1) rfl) (⟨(), rfl, (SameB.refl _ _ rfl), S⟩)
   refine ⟨?_, ?_⟩
   ·
    refine ⟨_, rfl, rfl, by kernel_rfl, ?_⟩
    rintro D ⟨⟩ a z S F
    refine ⟨by kernel_rfl, ?_⟩
    exact op_index _ 104 _ _ Ae x.edges.length ce k 8 .i64 F rfl (by kernel_rfl) (by kernel_rfl) (by kernel_rfl) (by kernel_rfl) (get_lt hed) (recs_some h.e (m := k) (get_lt hed)) (⟨(), rfl, (SameB.refl _ _ rfl), S⟩)
   refine ⟨?_, ?_⟩
   ·
    refine ⟨_, rfl, rfl, by kernel_rfl, ?_⟩
    rintro D ⟨⟩ a z S F
    refine ⟨by kernel_rfl, ?_⟩
    exact op_field _ _ _ Ae (k * 8) 0 F rfl (by kernel_rfl) (by kernel_rfl) (recs_some h.e (m := k) (get_lt hed)) (⟨(), rfl, (SameB.refl _ _ rfl), S⟩)
   refine ⟨?_, ?_⟩
   ·
    refine ⟨_, rfl, rfl, by kernel_rfl, ?_⟩
    rintro D ⟨⟩ a z S F
    refine ⟨by kernel_rfl, ?_⟩
    exact op_indexArr _ 3 _ _ Ae (k * 8) 2 1 1 .i64 F rfl (by kernel_rfl) (by kernel_rfl) (by kernel_rfl) (by kernel_rfl) (by decide) (recs_some h.e (m := k) (get_lt hed)) (⟨(), rfl, (SameB.refl _ _ rfl), S⟩)
   refine ⟨?_, ?_⟩
   ·
    refine ⟨_, rfl, rfl, by kernel_rfl, ?_⟩
    rintro D ⟨⟩ a z S F
    refine ⟨by kernel_rfl, ?_⟩
    exact op_load _ _ Ae (k * 8 + 1) (.int .i64 ed.b) F rfl (by kernel_rfl) (by kernel_rfl) (cOld S 0 edC_len h.e rfl 1 hed rfl) (⟨(), rfl, (SameB.refl _ _ rfl), S⟩)
   trivial
  ·
   rintro ⟨⟩ a z F S
   have F := F.sub (l := [(1, .int .i64 (s : Nat)), (2, .pointer (some ⟨b1, 0, none⟩)), (5, .int .u64 (cutTo x (setT s) k)), (6, .int .i64 (k : Nat)), (7, .int .i64 0), (8, .int .i64 ed.a), (9, .int .i64 ed.b)]) ⟨by kernel_rfl, by kernel_rfl, by kernel_rfl, by kernel_rfl, by kernel_rfl, by kernel_rfl, by kernel_rfl, trivial⟩
   have S : Sat w z [rest w (· < w.heap.size), box b1 25 [.slice As x.spots.length cs, .slice Ae x.edges.length ce]] := S
   refine then_n ?_
   refine s_reg ?_
   refine l_pure 2 (fun L => (39, .int .i64 ed.a) :: (38, .int .i64 (s : Nat)) :: L) F (by kernel_rfl) fun a F => ?_
   cases hb4 : (setT s ed.a) with
   | false =>
    refine l_do F rfl rfl (op_fn F (by kernel_rfl) (in_any _ s ed.a (by omega) (by omega) (by omega)) ?_)
    rintro e z ⟨rfl, hb⟩
    have S := S.grow hb
    refine ⟨_, rfl, ?_⟩
    rw [hb4]
    intro a F
    refine l_pure 6 (fun L => (46, .bool false) :: (45, undef) :: (44, undef) :: (43, undef) :: (42, undef) :: (41, .bool false) :: L) F (by kernel_rfl) fun a F => ?_
    refine l_then ?_
    refine c_f F rfl ?_
    refine wp_skip ?_
    refine inb_n ?_
    refine then_n ?_
    refine wp_region_list ?_
    refine l_pure 3 (fun L => (7, .int .i64 1) :: (20, .int .i64 1) :: (19, .int .i64 0) :: L) F (by kernel_rfl) fun a F => ?_
    refine l_then ?_
    refine rnd ?_
    refine wp_seq ?_
    refine s_reg ?_
    refine l_pure 2 (fun L => (18, .bool true) :: (17, .int .i64 1) :: L) F (by kernel_rfl) fun a F => ?_
    refine l_then ?_
    refine c_t F rfl ?_
    refine wp_skip ?_
    refine then_n ?_
    refine wp_seq ?_
    refine wp_block ?_
    refine wp_seq ?_
    refine region_gx (fun D => fun (_ : Unit) => [rest w (· < w.heap.size), box b1 25 [.slice As x.spots.length cs, .slice Ae x.edges.length ce]]) (fun (_ : Unit) => [.pointer (some ⟨b1, 1, none⟩), .slice Ae x.edges.length ce, .int .i64 (k : Nat), .int .i64 1, ptrA Ae (k * 8), ptrA Ae (k * 8), ptrA Ae (k * 8 + 1), .int .i64 ed.b, .pointer (some ⟨b1, 1, none⟩), .slice Ae x.edges.length ce, .int .i64 (k : Nat), .int .i64 1, .int .i64 0, ptrA Ae (k * 8), ptrA Ae (k * 8), ptrA Ae (k * 8), .int .i64 ed.a, .int .i64 ed.b, .int .i64 ed.a]) [(1, [], [4, 5, 6, 7]), (4, [1], [5, 6, 7]), (5, [1, 4], [6, 7]), (6, [1, 4, 5], [7]), (7, [1, 4, 5, 6], []), (9, [], [13, 14, 15, 16]), (13, [9], [14, 15, 16]), (14, [9, 13], [15, 16]), (15, [9, 13, 14], [16]), (16, [9, 13, 14, 15], [])] () rfl (by kernel_rfl) (by kernel_rfl) F S.drew ?_ ?_ ?_ ?_ ?_
    · rintro ⟨⟩; rfl
    · rintro ⟨⟩; kernel_rfl
    ·
     intro D D' x h
     cases x
     rfl
    ·
     refine ⟨?_, ?_⟩
     ·
      refine ⟨_, rfl, rfl, by kernel_rfl, ?_⟩
      rintro D ⟨⟩ a z S F
      refine ⟨by kernel_rfl, ?_⟩
      exact op_load _ _ (some ⟨b1, 0, none⟩) 1 (.slice Ae x.edges.length ce) F rfl (by kernel_rfl) (by kernel_rfl) (cBox S 1 rfl (j := 1) rfl) (⟨(), rfl, (SameB.refl _ _ rfl), S⟩)
     refine ⟨?_, ?_⟩
     ·
      refine ⟨_, rfl, rfl, by kernel_rfl, ?_⟩
      rintro D ⟨⟩ a z S F
      refine ⟨by kernel_rfl, ?_⟩
      exact op_index _ 104 _ _ Ae x.edges.length ce k 8 .i64 F rfl (by kernel_rfl) (by kernel_rfl) (by kernel_rfl) (by kernel_rfl) (get_lt hed) (recs_some h.e (m := k) (get_lt hed)) (⟨(), rfl, (SameB.refl _ _ rfl), S⟩)
     refine ⟨?_, ?_⟩
     ·
      refine ⟨_, rfl, rfl, by kernel_rfl, ?_⟩
      rintro D ⟨⟩ a z S F
      refine ⟨by kernel_rfl, ?_⟩
      exact op_field _ _ _ Ae (k * 8) 0 F rfl (by kernel_rfl) (by kernel_rfl) (recs_some h.e (m := k) (get_lt hed)) (⟨(), rfl, (SameB.refl _ _ rfl), S⟩)
     refine ⟨?_, ?_⟩
     ·
      refine ⟨_, rfl, rfl, by kernel_rfl, ?_⟩
      rintro D ⟨⟩ a z S F
      refine ⟨by kernel_rfl, ?_⟩
      exact op_indexArr _ 3 _ _ Ae (k * 8) 2 1 1 .i64 F rfl (by kernel_rfl) (by kernel_rfl) (by kernel_rfl) (by kernel_rfl) (by decide) (recs_some h.e (m := k) (get_lt hed)) (⟨(), rfl, (SameB.refl _ _ rfl), S⟩)
     refine ⟨?_, ?_⟩
     ·
      refine ⟨_, rfl, rfl, by kernel_rfl, ?_⟩
      rintro D ⟨⟩ a z S F
      refine ⟨by kernel_rfl, ?_⟩
      exact op_load _ _ Ae (k * 8 + 1) (.int .i64 ed.b) F rfl (by kernel_rfl) (by kernel_rfl) (cOld S 0 edC_len h.e rfl 1 hed rfl) (⟨(), rfl, (SameB.refl _ _ rfl), S⟩)
     refine ⟨?_, ?_⟩
     ·
      refine ⟨_, rfl, rfl, by kernel_rfl, ?_⟩
      rintro D ⟨⟩ a z S F
      refine ⟨by kernel_rfl, ?_⟩
      exact op_load _ _ (some ⟨b1, 0, none⟩) 1 (.slice Ae x.edges.length ce) F rfl (by kernel_rfl) (by kernel_rfl) (cBox S 1 rfl (j := 1) rfl) (⟨(), rfl, (SameB.refl _ _ rfl), S⟩)
     refine ⟨?_, ?_⟩
     ·
      refine ⟨_, rfl, rfl, by kernel_rfl, ?_⟩
      rintro D ⟨⟩ a z S F
      refine ⟨by kernel_rfl, ?_⟩
      exact op_index _ 104 _ _ Ae x.edges.length ce k 8 .i64 F rfl (by kernel_rfl) (by kernel_rfl) (by kernel_rfl) (by kernel_rfl) (get_lt hed) (recs_some h.e (m := k) (get_lt hed)) (⟨(), rfl, (SameB.refl _ _ rfl), S⟩)
     refine ⟨?_, ?_⟩
     ·
      refine ⟨_, rfl, rfl, by kernel_rfl, ?_⟩
      rintro D ⟨⟩ a z S F
      refine ⟨by kernel_rfl, ?_⟩
      exact op_field _ _ _ Ae (k * 8) 0 F rfl (by kernel_rfl) (by kernel_rfl) (recs_some h.e (m := k) (get_lt hed)) (⟨(), rfl, (SameB.refl _ _ rfl), S⟩)
     refine ⟨?_, ?_⟩
     ·
      refine ⟨_, rfl, rfl, by kernel_rfl, ?_⟩
      rintro D ⟨⟩ a z S F
      refine ⟨by kernel_rfl, ?_⟩
      exact op_indexArr _ 3 _ _ Ae (k * 8) 2 0 1 .i64 F rfl (by kernel_rfl) (by kernel_rfl) (by kernel_rfl) (by kernel_rfl) (by decide) (recs_some h.e (m := k) (get_lt hed)) (⟨(), rfl, (SameB.refl _ _ rfl), S⟩)
     refine ⟨?_, ?_⟩
     ·
      refine ⟨_, rfl, rfl, by kernel_rfl, ?_⟩
      rintro D ⟨⟩ a z S F
      refine ⟨by kernel_rfl, ?_⟩
      exact op_load _ _ Ae (k * 8) (.int .i64 ed.a) F rfl (by kernel_rfl) (by kernel_rfl) (cOld S 0 edC_len h.e rfl 0 hed rfl) (⟨(), rfl, (SameB.refl _ _ rfl), S⟩)
     trivial
    ·
     rintro ⟨⟩ a z F S
     have F := F.sub (l := [(1, .int .i64 (s : Nat)), (2, .pointer (some ⟨b1, 0, none⟩)), (5, .int .u64 (cutTo x (setT s) k)), (6, .int .i64 (k : Nat)), (7, .int .i64 1), (8, .int .i64 ed.b), (9, .int .i64 ed.a)]) ⟨by kernel_rfl, by kernel_rfl, by kernel_rfl, by kernel_rfl, by kernel_rfl, by kernel_rfl, by kernel_rfl, trivial⟩
     have S : Sat w z [rest w (· < w.heap.size), box b1 25 [.slice As x.spots.length cs, .slice Ae x.edges.length ce]] := S
     refine then_n ?_
     refine s_reg ?_
     refine l_pure 2 (fun L => (39, .int .i64 ed.b) :: (38, .int .i64 (s : Nat)) :: L) F (by kernel_rfl) fun a F => ?_
     cases hb5 : (setT s ed.b) with
     | false =>
      have hcut := cut_ss (T := (setT s)) hb4 hb5
      rw [hcut] at hsn
      refine l_do F rfl rfl (op_fn F (by kernel_rfl) (in_any _ s ed.b (by omega) (by omega) (by omega)) ?_)
      rintro e z ⟨rfl, hb⟩
      have S := S.grow hb
      refine ⟨_, rfl, ?_⟩
      rw [hb5]
      intro a F
      refine l_pure 6 (fun L => (46, .bool false) :: (45, undef) :: (44, undef) :: (43, undef) :: (42, undef) :: (41, .bool false) :: L) F (by kernel_rfl) fun a F => ?_
      refine l_then ?_
      refine c_f F rfl ?_
      refine wp_skip ?_
      refine inb_n ?_
      refine then_n ?_
      refine wp_region_list ?_
      refine l_pure 3 (fun L => (7, .int .i64 2) :: (20, .int .i64 2) :: (19, .int .i64 1) :: L) F (by kernel_rfl) fun a F => ?_
      refine l_then ?_
      refine rnd ?_
      refine wp_seq ?_
      refine s_reg ?_
      refine l_pure 2 (fun L => (18, .bool false) :: (17, .int .i64 2) :: L) F (by kernel_rfl) fun a F => ?_
      refine l_then ?_
      refine c_f F rfl ?_
      refine wp_exit ?_
      refine then_x ?_
      refine then_x ?_
      refine inb_x ?_
      refine inb_n ?_
      refine then_n ?_
      refine wp_region_list ?_
      refine l_pure 1 (fun L => (15, .int .i64 (k : Nat)) :: L) F (by kernel_rfl) fun a F => ?_
      refine l_do F rfl rfl (op_pure F (v0 := .int .i64 (IntKind.wrap .i64 ((k : Nat) + 1))) (v := .int .i64 (k + 1 : Nat)) (by kernel_rfl) (wrn_i64 (by omega) (by omega) (by omega)) fun a F => ?_)
      refine l_pure 1 (fun L => (6, .int .i64 (k + 1 : Nat)) :: L) F (by kernel_rfl) fun a F => ?_
      refine l_then ?_
      have hsn2 : cutTo x (setT s) k = cutTo x (setT s) (k + 1) := by omega
      rw [hsn2] at F
      exact ⟨_, (by omega), k + 1, rfl, (by omega), F.sub ⟨by kernel_rfl, by kernel_rfl, by kernel_rfl, by kernel_rfl, trivial⟩, S⟩
     | true =>
      have hcut := cut_ft (T := (setT s)) hb4 hb5
      rw [hcut] at hsn
      refine l_do F rfl rfl (op_fn F (by kernel_rfl) (in_any _ s ed.b (by omega) (by omega) (by omega)) ?_)
      rintro e z ⟨rfl, hb⟩
      have S := S.grow hb
      refine ⟨_, rfl, ?_⟩
      rw [hb5]
      intro a F
      refine l_pure 3 (fun L => (43, .int .i64 ed.a) :: (42, .int .i64 (s : Nat)) :: (41, .bool true) :: L) F (by kernel_rfl) fun a F => ?_
      refine l_do F rfl rfl (op_fn F (by kernel_rfl) (in_any _ s ed.a (by omega) (by omega) (by omega)) ?_)
      rintro e z ⟨rfl, hb⟩
      have S := S.grow hb
      refine ⟨_, rfl, ?_⟩
      rw [hb4]
      intro a F
      refine l_pure 2 (fun L => (46, .bool true) :: (45, .bool true) :: L) F (by kernel_rfl) fun a F => ?_
      refine l_then ?_
      refine c_t F rfl ?_
      refine wp_region_list ?_
      refine l_pure 2 (fun L => (48, .pointer (some ⟨b1, 1, none⟩)) :: (47, .int .u64 (cutTo x (setT s) k)) :: L) F (by kernel_rfl) fun a F => ?_
      refine l_do F rfl rfl (op_load _ _ (some ⟨b1, 0, none⟩) 1 (.slice Ae x.edges.length ce) F rfl (by kernel_rfl) (by kernel_rfl) (cBox S 1 rfl (j := 1) rfl) (fun a F => ?_))
      refine l_pure 2 (fun L => (51, .int .i64 1) :: (50, .int .i64 (k : Nat)) :: L) F (by kernel_rfl) fun a F => ?_
      refine l_do F rfl rfl (op_index _ 104 _ _ Ae x.edges.length ce k 8 .i64 F rfl (by kernel_rfl) (by kernel_rfl) (by kernel_rfl) (by kernel_rfl) (get_lt hed) (recs_some h.e (m := k) (get_lt hed)) (fun a F => ?_))
      refine l_do F rfl rfl (op_field _ _ _ Ae (k * 8) 2 F rfl (by kernel_rfl) (by kernel_rfl) (recs_some h.e (m := k) (get_lt hed)) (fun a F => ?_))
      refine l_do F rfl rfl (op_indexArr _ 26 _ _ Ae (k * 8 + 2) 2 1 1 .i64 F rfl (by kernel_rfl) (by kernel_rfl) (by kernel_rfl) (by kernel_rfl) (by decide) (recs_some h.e (m := k) (get_lt hed)) (fun a F => ?_))
      refine l_do F rfl rfl (op_load _ _ Ae (k * 8 + 3) (.int .u64 ed.c1) F rfl (by kernel_rfl) (by kernel_rfl) (cOld S 0 edC_len h.e rfl 3 hed rfl) (fun a F => ?_))
      refine l_do F rfl rfl (op_pure F (v0 := .int .u64 (IntKind.wrap .u64 ((cutTo x (setT s) k) + ed.c1))) (v := .int .u64 ((cutTo x (setT s) k) + ed.c1)) (by kernel_rfl) (wr_u64 (by omega) (by omega)) fun a F => ?_)
      refine l_pure 1 (fun L => (5, .int .u64 ((cutTo x (setT s) k) + ed.c1)) :: L) F (by kernel_rfl) fun a F => ?_
      refine l_nil (inb_n ?_)
      refine then_n ?_
      refine wp_region_list ?_
      refine l_pure 3 (fun L => (7, .int .i64 2) :: (20, .int .i64 2) :: (19, .int .i64 1) :: L) F (by kernel_rfl) fun a F => ?_
      refine l_then ?_
      refine rnd ?_
      refine wp_seq ?_
      refine s_reg ?_
      refine l_pure 2 (fun L => (18, .bool false) :: (17, .int .i64 2) :: L) F (by kernel_rfl) fun a F => ?_
      refine l_then ?_
      refine c_f F rfl ?_
      refine wp_exit ?_
      refine then_x ?_
      refine then_x ?_
      refine inb_x ?_
      refine inb_n ?_
      refine then_n ?_
      refine wp_region_list ?_
      refine l_pure 1 (fun L => (15, .int .i64 (k : Nat)) :: L) F (by kernel_rfl) fun a F => ?_
      refine l_do F rfl rfl (op_pure F (v0 := .int .i64 (IntKind.wrap .i64 ((k : Nat) + 1))) (v := .int .i64 (k + 1 : Nat)) (by kernel_rfl) (wrn_i64 (by omega) (by omega) (by omega)) fun a F => ?_)
      refine l_pure 1 (fun L => (6, .int .i64 (k + 1 : Nat)) :: L) F (by kernel_rfl) fun a F => ?_
      refine l_then ?_
      have hsn2 : (cutTo x (setT s) k) + ed.c1 = cutTo x (setT s) (k + 1) := by omega
      rw [hsn2] at F
      exact ⟨_, (by omega), k + 1, rfl, (by omega), F.sub ⟨by kernel_rfl, by kernel_rfl, by kernel_rfl, by kernel_rfl, trivial⟩, S⟩
   | true =>
    refine l_do F rfl rfl (op_fn F (by kernel_rfl) (in_any _ s ed.a (by omega) (by omega) (by omega)) ?_)
    rintro e z ⟨rfl, hb⟩
    have S := S.grow hb
    refine ⟨_, rfl, ?_⟩
    rw [hb4]
    intro a F
    refine l_pure 3 (fun L => (43, .int .i64 ed.b) :: (42, .int .i64 (s : Nat)) :: (41, .bool true) :: L) F (by kernel_rfl) fun a F => ?_
    cases hb6 : (setT s ed.b) with
    | false =>
     have hcut := cut_tf (T := (setT s)) hb4 hb6
     rw [hcut] at hsn
     refine l_do F rfl rfl (op_fn F (by kernel_rfl) (in_any _ s ed.b (by omega) (by omega) (by omega)) ?_)
     rintro e z ⟨rfl, hb⟩
     have S := S.grow hb
     refine ⟨_, rfl, ?_⟩
     rw [hb6]
     intro a F
     refine l_pure 2 (fun L => (46, .bool true) :: (45, .bool true) :: L) F (by kernel_rfl) fun a F => ?_
     refine l_then ?_
     refine c_t F rfl ?_
     refine wp_region_list ?_
     refine l_pure 2 (fun L => (48, .pointer (some ⟨b1, 1, none⟩)) :: (47, .int .u64 (cutTo x (setT s) k)) :: L) F (by kernel_rfl) fun a F => ?_
     refine l_do F rfl rfl (op_load _ _ (some ⟨b1, 0, none⟩) 1 (.slice Ae x.edges.length ce) F rfl (by kernel_rfl) (by kernel_rfl) (cBox S 1 rfl (j := 1) rfl) (fun a F => ?_))
     refine l_pure 2 (fun L => (51, .int .i64 0) :: (50, .int .i64 (k : Nat)) :: L) F (by kernel_rfl) fun a F => ?_
     refine l_do F rfl rfl (op_index _ 104 _ _ Ae x.edges.length ce k 8 .i64 F rfl (by kernel_rfl) (by kernel_rfl) (by kernel_rfl) (by kernel_rfl) (get_lt hed) (recs_some h.e (m := k) (get_lt hed)) (fun a F => ?_))
     refine l_do F rfl rfl (op_field _ _ _ Ae (k * 8) 2 F rfl (by kernel_rfl) (by kernel_rfl) (recs_some h.e (m := k) (get_lt hed)) (fun a F => ?_))
     refine l_do F rfl rfl (op_indexArr _ 26 _ _ Ae (k * 8 + 2) 2 0 1 .i64 F rfl (by kernel_rfl) (by kernel_rfl) (by kernel_rfl) (by kernel_rfl) (by decide) (recs_some h.e (m := k) (get_lt hed)) (fun a F => ?_))
     refine l_do F rfl rfl (op_load _ _ Ae (k * 8 + 2) (.int .u64 ed.c0) F rfl (by kernel_rfl) (by kernel_rfl) (cOld S 0 edC_len h.e rfl 2 hed rfl) (fun a F => ?_))
     refine l_do F rfl rfl (op_pure F (v0 := .int .u64 (IntKind.wrap .u64 ((cutTo x (setT s) k) + ed.c0))) (v := .int .u64 ((cutTo x (setT s) k) + ed.c0)) (by kernel_rfl) (wr_u64 (by omega) (by omega)) fun a F => ?_)
     refine l_pure 1 (fun L => (5, .int .u64 ((cutTo x (setT s) k) + ed.c0)) :: L) F (by kernel_rfl) fun a F => ?_
     refine l_nil (inb_n ?_)
     refine then_n ?_
     refine wp_region_list ?_
     refine l_pure 3 (fun L => (7, .int .i64 1) :: (20, .int .i64 1) :: (19, .int .i64 0) :: L) F (by kernel_rfl) fun a F => ?_
     refine l_then ?_
     refine rnd ?_
     refine wp_seq ?_
     refine s_reg ?_
     refine l_pure 2 (fun L => (18, .bool true) :: (17, .int .i64 1) :: L) F (by kernel_rfl) fun a F => ?_
     refine l_then ?_
     refine c_t F rfl ?_
     refine wp_skip ?_
     refine then_n ?_
     refine wp_seq ?_
     refine wp_block ?_
     refine wp_seq ?_
     refine region_gx (fun D => fun (_ : Unit) => [rest w (· < w.heap.size), box b1 25 [.slice As x.spots.length cs, .slice Ae x.edges.length ce]]) (fun (_ : Unit) => [.pointer (some ⟨b1, 1, none⟩), .slice Ae x.edges.length ce, .int .i64 (k : Nat), .int .i64 1, ptrA Ae (k * 8), ptrA Ae (k * 8), ptrA Ae (k * 8 + 1), .int .i64 ed.b, .pointer (some ⟨b1, 1, none⟩), .slice Ae x.edges.length ce, .int .i64 (k : Nat), .int .i64 1, .int .i64 0, ptrA Ae (k * 8), ptrA Ae (k * 8), ptrA Ae (k * 8), .int .i64 ed.a, .int .i64 ed.b, .int .i64 ed.a]) [(1, [], [4, 5, 6, 7]), (4, [1], [5, 6, 7]), (5, [1, 4], [6, 7]), (6, [1, 4, 5], [7]), (7, [1, 4, 5, 6], []), (9, [], [13, 14, 15, 16]), (13, [9], [14, 15, 16]), (14, [9, 13], [15, 16]), (15, [9, 13, 14], [16]), (16, [9, 13, 14, 15], [])] () rfl (by kernel_rfl) (by kernel_rfl) F S.drew ?_ ?_ ?_ ?_ ?_
     · rintro ⟨⟩; rfl
     · rintro ⟨⟩; kernel_rfl
     ·
      intro D D' x h
      cases x
      rfl
     ·
      refine ⟨?_, ?_⟩
      ·
       refine ⟨_, rfl, rfl, by kernel_rfl, ?_⟩
       rintro D ⟨⟩ a z S F
       refine ⟨by kernel_rfl, ?_⟩
       exact op_load _ _ (some ⟨b1, 0, none⟩) 1 (.slice Ae x.edges.length ce) F rfl (by kernel_rfl) (by kernel_rfl) (cBox S 1 rfl (j := 1) rfl) (⟨(), rfl, (SameB.refl _ _ rfl), S⟩)
      refine ⟨?_, ?_⟩
      ·
       refine ⟨_, rfl, rfl, by kernel_rfl, ?_⟩
       rintro D ⟨⟩ a z S F
       refine ⟨by kernel_rfl, ?_⟩
       exact op_index _ 104 _ _ Ae x.edges.length ce k 8 .i64 F rfl (by kernel_rfl) (by kernel_rfl) (by kernel_rfl) (by kernel_rfl) (get_lt hed) (recs_some h.e (m := k) (get_lt hed)) (⟨(), rfl, (SameB.refl _ _ rfl), S⟩)
      refine ⟨?_, ?_⟩
      ·
       refine ⟨_, rfl, rfl, by kernel_rfl, ?_⟩
       rintro D ⟨⟩ a z S F
       refine ⟨by kernel_rfl, ?_⟩
       exact op_field _ _ _ Ae (k * 8) 0 F rfl (by kernel_rfl) (by kernel_rfl) (recs_some h.e (m := k) (get_lt hed)) (⟨(), rfl, (SameB.refl _ _ rfl), S⟩)
      refine ⟨?_, ?_⟩
      ·
       refine ⟨_, rfl, rfl, by kernel_rfl, ?_⟩
       rintro D ⟨⟩ a z S F
       refine ⟨by kernel_rfl, ?_⟩
       exact op_indexArr _ 3 _ _ Ae (k * 8) 2 1 1 .i64 F rfl (by kernel_rfl) (by kernel_rfl) (by kernel_rfl) (by kernel_rfl) (by decide) (recs_some h.e (m := k) (get_lt hed)) (⟨(), rfl, (SameB.refl _ _ rfl), S⟩)
      refine ⟨?_, ?_⟩
      ·
       refine ⟨_, rfl, rfl, by kernel_rfl, ?_⟩
       rintro D ⟨⟩ a z S F
       refine ⟨by kernel_rfl, ?_⟩
       exact op_load _ _ Ae (k * 8 + 1) (.int .i64 ed.b) F rfl (by kernel_rfl) (by kernel_rfl) (cOld S 0 edC_len h.e rfl 1 hed rfl) (⟨(), rfl, (SameB.refl _ _ rfl), S⟩)
      refine ⟨?_, ?_⟩
      ·
       refine ⟨_, rfl, rfl, by kernel_rfl, ?_⟩
       rintro D ⟨⟩ a z S F
       refine ⟨by kernel_rfl, ?_⟩
       exact op_load _ _ (some ⟨b1, 0, none⟩) 1 (.slice Ae x.edges.length ce) F rfl (by kernel_rfl) (by kernel_rfl) (cBox S 1 rfl (j := 1) rfl) (⟨(), rfl, (SameB.refl _ _ rfl), S⟩)
      refine ⟨?_, ?_⟩
      ·
       refine ⟨_, rfl, rfl, by kernel_rfl, ?_⟩
       rintro D ⟨⟩ a z S F
       refine ⟨by kernel_rfl, ?_⟩
       exact op_index _ 104 _ _ Ae x.edges.length ce k 8 .i64 F rfl (by kernel_rfl) (by kernel_rfl) (by kernel_rfl) (by kernel_rfl) (get_lt hed) (recs_some h.e (m := k) (get_lt hed)) (⟨(), rfl, (SameB.refl _ _ rfl), S⟩)
      refine ⟨?_, ?_⟩
      ·
       refine ⟨_, rfl, rfl, by kernel_rfl, ?_⟩
       rintro D ⟨⟩ a z S F
       refine ⟨by kernel_rfl, ?_⟩
       exact op_field _ _ _ Ae (k * 8) 0 F rfl (by kernel_rfl) (by kernel_rfl) (recs_some h.e (m := k) (get_lt hed)) (⟨(), rfl, (SameB.refl _ _ rfl), S⟩)
      refine ⟨?_, ?_⟩
      ·
       refine ⟨_, rfl, rfl, by kernel_rfl, ?_⟩
       rintro D ⟨⟩ a z S F
       refine ⟨by kernel_rfl, ?_⟩
       exact op_indexArr _ 3 _ _ Ae (k * 8) 2 0 1 .i64 F rfl (by kernel_rfl) (by kernel_rfl) (by kernel_rfl) (by kernel_rfl) (by decide) (recs_some h.e (m := k) (get_lt hed)) (⟨(), rfl, (SameB.refl _ _ rfl), S⟩)
      refine ⟨?_, ?_⟩
      ·
       refine ⟨_, rfl, rfl, by kernel_rfl, ?_⟩
       rintro D ⟨⟩ a z S F
       refine ⟨by kernel_rfl, ?_⟩
       exact op_load _ _ Ae (k * 8) (.int .i64 ed.a) F rfl (by kernel_rfl) (by kernel_rfl) (cOld S 0 edC_len h.e rfl 0 hed rfl) (⟨(), rfl, (SameB.refl _ _ rfl), S⟩)
      trivial
     ·
      rintro ⟨⟩ a z F S
      have F := F.sub (l := [(1, .int .i64 (s : Nat)), (2, .pointer (some ⟨b1, 0, none⟩)), (5, .int .u64 ((cutTo x (setT s) k) + ed.c0)), (6, .int .i64 (k : Nat)), (7, .int .i64 1), (8, .int .i64 ed.b), (9, .int .i64 ed.a)]) ⟨by kernel_rfl, by kernel_rfl, by kernel_rfl, by kernel_rfl, by kernel_rfl, by kernel_rfl, by kernel_rfl, trivial⟩
      have S : Sat w z [rest w (· < w.heap.size), box b1 25 [.slice As x.spots.length cs, .slice Ae x.edges.length ce]] := S
      refine then_n ?_
      refine s_reg ?_
      refine l_pure 2 (fun L => (39, .int .i64 ed.b) :: (38, .int .i64 (s : Nat)) :: L) F (by kernel_rfl) fun a F => ?_
      refine l_do F rfl rfl (op_fn F (by kernel_rfl) (in_any _ s ed.b (by omega) (by omega) (by omega)) ?_)
      rintro e z ⟨rfl, hb⟩
      have S := S.grow hb
      refine ⟨_, rfl, ?_⟩
      rw [hb6]
      intro a F
      refine l_pure 6 (fun L => (46, .bool false) :: (45, undef) :: (44, undef) :: (43, undef) :: (42, undef) :: (41, .bool false) :: L) F (by kernel_rfl) fun a F => ?_
      refine l_then ?_
      refine c_f F rfl ?_
      refine wp_skip ?_
      refine inb_n ?_
      refine then_n ?_
      refine wp_region_list ?_
      refine l_pure 3 (fun L => (7, .int .i64 2) :: (20, .int .i64 2) :: (19, .int .i64 1) :: L) F (by kernel_rfl) fun a F => ?_
      refine l_then ?_
      refine rnd ?_
      refine wp_seq ?_
      refine s_reg ?_
      refine l_pure 2 (fun L => (18, .bool false) :: (17, .int .i64 2) :: L) F (by kernel_rfl) fun a F => ?_
      refine l_then ?_
      refine c_f F rfl ?_
      refine wp_exit ?_
      refine then_x ?_
      refine then_x ?_
      refine inb_x ?_
      refine inb_n ?_
      refine then_n ?_
      refine wp_region_list ?_
      refine l_pure 1 (fun L => (15, .int .i64 (k : Nat)) :: L) F (by kernel_rfl) fun a F => ?_
      refine l_do F rfl rfl (op_pure F (v0 := .int .i64 (IntKind.wrap .i64 ((k : Nat) + 1))) (v := .int .i64 (k + 1 : Nat)) (by kernel_rfl) (wrn_i64 (by omega) (by omega) (by omega)) fun a F => ?_)
      refine l_pure 1 (fun L => (6, .int .i64 (k + 1 : Nat)) :: L) F (by kernel_rfl) fun a F => ?_
      refine l_then ?_
      have hsn2 : (cutTo x (setT s) k) + ed.c0 = cutTo x (setT s) (k + 1) := by omega
      rw [hsn2] at F
      exact ⟨_, (by omega), k + 1, rfl, (by omega), F.sub ⟨by kernel_rfl, by kernel_rfl, by kernel_rfl, by kernel_rfl, trivial⟩, S⟩
    | true =>
     have hcut := cut_ss (T := (setT s)) hb4 hb6
     rw [hcut] at hsn
     refine l_do F rfl rfl (op_fn F (by kernel_rfl) (in_any _ s ed.b (by omega) (by omega) (by omega)) ?_)
     rintro e z ⟨rfl, hb⟩
     have S := S.grow hb
     refine ⟨_, rfl, ?_⟩
     rw [hb6]
     intro a F
     refine l_pure 2 (fun L => (46, .bool false) :: (45, .bool false) :: L) F (by kernel_rfl) fun a F => ?_
     refine l_then ?_
     refine c_f F rfl ?_
     refine wp_skip ?_
     refine inb_n ?_
     refine then_n ?_
     refine wp_region_list ?_
     refine l_pure 3 (fun L => (7, .int .i64 1) :: (20, .int .i64 1) :: (19, .int .i64 0) :: L) F (by kernel_rfl) fun a F => ?_
     refine l_then ?_
     refine rnd ?_
     refine wp_seq ?_
     refine s_reg ?_
     refine l_pure 2 (fun L => (18, .bool true) :: (17, .int .i64 1) :: L) F (by kernel_rfl) fun a F => ?_
     refine l_then ?_
     refine c_t F rfl ?_
     refine wp_skip ?_
     refine then_n ?_
     refine wp_seq ?_
     refine wp_block ?_
     refine wp_seq ?_
     refine region_gx (fun D => fun (_ : Unit) => [rest w (· < w.heap.size), box b1 25 [.slice As x.spots.length cs, .slice Ae x.edges.length ce]]) (fun (_ : Unit) => [.pointer (some ⟨b1, 1, none⟩), .slice Ae x.edges.length ce, .int .i64 (k : Nat), .int .i64 1, ptrA Ae (k * 8), ptrA Ae (k * 8), ptrA Ae (k * 8 + 1), .int .i64 ed.b, .pointer (some ⟨b1, 1, none⟩), .slice Ae x.edges.length ce, .int .i64 (k : Nat), .int .i64 1, .int .i64 0, ptrA Ae (k * 8), ptrA Ae (k * 8), ptrA Ae (k * 8), .int .i64 ed.a, .int .i64 ed.b, .int .i64 ed.a]) [(1, [], [4, 5, 6, 7]), (4, [1], [5, 6, 7]), (5, [1, 4], [6, 7]), (6, [1, 4, 5], [7]), (7, [1, 4, 5, 6], []), (9, [], [13, 14, 15, 16]), (13, [9], [14, 15, 16]), (14, [9, 13], [15, 16]), (15, [9, 13, 14], [16]), (16, [9, 13, 14, 15], [])] () rfl (by kernel_rfl) (by kernel_rfl) F S.drew ?_ ?_ ?_ ?_ ?_
     · rintro ⟨⟩; rfl
     · rintro ⟨⟩; kernel_rfl
     ·
      intro D D' x h
      cases x
      rfl
     ·
      refine ⟨?_, ?_⟩
      ·
       refine ⟨_, rfl, rfl, by kernel_rfl, ?_⟩
       rintro D ⟨⟩ a z S F
       refine ⟨by kernel_rfl, ?_⟩
       exact op_load _ _ (some ⟨b1, 0, none⟩) 1 (.slice Ae x.edges.length ce) F rfl (by kernel_rfl) (by kernel_rfl) (cBox S 1 rfl (j := 1) rfl) (⟨(), rfl, (SameB.refl _ _ rfl), S⟩)
      refine ⟨?_, ?_⟩
      ·
       refine ⟨_, rfl, rfl, by kernel_rfl, ?_⟩
       rintro D ⟨⟩ a z S F
       refine ⟨by kernel_rfl, ?_⟩
       exact op_index _ 104 _ _ Ae x.edges.length ce k 8 .i64 F rfl (by kernel_rfl) (by kernel_rfl) (by kernel_rfl) (by kernel_rfl) (get_lt hed) (recs_some h.e (m := k) (get_lt hed)) (⟨(), rfl, (SameB.refl _ _ rfl), S⟩)
      refine ⟨?_, ?_⟩
      ·
       refine ⟨_, rfl, rfl, by kernel_rfl, ?_⟩
       rintro D ⟨⟩ a z S F
       refine ⟨by kernel_rfl, ?_⟩
       exact op_field _ _ _ Ae (k * 8) 0 F rfl (by kernel_rfl) (by kernel_rfl) (recs_some h.e (m := k) (get_lt hed)) (⟨(), rfl, (SameB.refl _ _ rfl), S⟩)
      refine ⟨?_, ?_⟩
      ·
       refine ⟨_, rfl, rfl, by kernel_rfl, ?_⟩
       rintro D ⟨⟩ a z S F
       refine ⟨by kernel_rfl, ?_⟩
       exact op_indexArr _ 3 _ _ Ae (k * 8) 2 1 1 .i64 F rfl (by kernel_rfl) (by kernel_rfl) (by kernel_rfl) (by kernel_rfl) (by decide) (recs_some h.e (m := k) (get_lt hed)) (⟨(), rfl, (SameB.refl _ _ rfl), S⟩)
      refine ⟨?_, ?_⟩
      ·
       refine ⟨_, rfl, rfl, by kernel_rfl, ?_⟩
       rintro D ⟨⟩ a z S F
       refine ⟨by kernel_rfl, ?_⟩
       exact op_load _ _ Ae (k * 8 + 1) (.int .i64 ed.b) F rfl (by kernel_rfl) (by kernel_rfl) (cOld S 0 edC_len h.e rfl 1 hed rfl) (⟨(), rfl, (SameB.refl _ _ rfl), S⟩)
      refine ⟨?_, ?_⟩
      ·
       refine ⟨_, rfl, rfl, by kernel_rfl, ?_⟩
       rintro D ⟨⟩ a z S F
       refine ⟨by kernel_rfl, ?_⟩
       exact op_load _ _ (some ⟨b1, 0, none⟩) 1 (.slice Ae x.edges.length ce) F rfl (by kernel_rfl) (by kernel_rfl) (cBox S 1 rfl (j := 1) rfl) (⟨(), rfl, (SameB.refl _ _ rfl), S⟩)
      refine ⟨?_, ?_⟩
      ·
       refine ⟨_, rfl, rfl, by kernel_rfl, ?_⟩
       rintro D ⟨⟩ a z S F
       refine ⟨by kernel_rfl, ?_⟩
       exact op_index _ 104 _ _ Ae x.edges.length ce k 8 .i64 F rfl (by kernel_rfl) (by kernel_rfl) (by kernel_rfl) (by kernel_rfl) (get_lt hed) (recs_some h.e (m := k) (get_lt hed)) (⟨(), rfl, (SameB.refl _ _ rfl), S⟩)
      refine ⟨?_, ?_⟩
      ·
       refine ⟨_, rfl, rfl, by kernel_rfl, ?_⟩
       rintro D ⟨⟩ a z S F
       refine ⟨by kernel_rfl, ?_⟩
       exact op_field _ _ _ Ae (k * 8) 0 F rfl (by kernel_rfl) (by kernel_rfl) (recs_some h.e (m := k) (get_lt hed)) (⟨(), rfl, (SameB.refl _ _ rfl), S⟩)
      refine ⟨?_, ?_⟩
      ·
       refine ⟨_, rfl, rfl, by kernel_rfl, ?_⟩
       rintro D ⟨⟩ a z S F
       refine ⟨by kernel_rfl, ?_⟩
       exact op_indexArr _ 3 _ _ Ae (k * 8) 2 0 1 .i64 F rfl (by kernel_rfl) (by kernel_rfl) (by kernel_rfl) (by kernel_rfl) (by decide) (recs_some h.e (m := k) (get_lt hed)) (⟨(), rfl, (SameB.refl _ _ rfl), S⟩)
      refine ⟨?_, ?_⟩
      ·
       refine ⟨_, rfl, rfl, by kernel_rfl, ?_⟩
       rintro D ⟨⟩ a z S F
       refine ⟨by kernel_rfl, ?_⟩
       exact op_load _ _ Ae (k * 8) (.int .i64 ed.a) F rfl (by kernel_rfl) (by kernel_rfl) (cOld S 0 edC_len h.e rfl 0 hed rfl) (⟨(), rfl, (SameB.refl _ _ rfl), S⟩)
      trivial
     ·
      rintro ⟨⟩ a z F S
      have F := F.sub (l := [(1, .int .i64 (s : Nat)), (2, .pointer (some ⟨b1, 0, none⟩)), (5, .int .u64 (cutTo x (setT s) k)), (6, .int .i64 (k : Nat)), (7, .int .i64 1), (8, .int .i64 ed.b), (9, .int .i64 ed.a)]) ⟨by kernel_rfl, by kernel_rfl, by kernel_rfl, by kernel_rfl, by kernel_rfl, by kernel_rfl, by kernel_rfl, trivial⟩
      have S : Sat w z [rest w (· < w.heap.size), box b1 25 [.slice As x.spots.length cs, .slice Ae x.edges.length ce]] := S
      refine then_n ?_
      refine s_reg ?_
      refine l_pure 2 (fun L => (39, .int .i64 ed.b) :: (38, .int .i64 (s : Nat)) :: L) F (by kernel_rfl) fun a F => ?_
      refine l_do F rfl rfl (op_fn F (by kernel_rfl) (in_any _ s ed.b (by omega) (by omega) (by omega)) ?_)
      rintro e z ⟨rfl, hb⟩
      have S := S.grow hb
      refine ⟨_, rfl, ?_⟩
      rw [hb6]
      intro a F
      refine l_pure 3 (fun L => (43, .int .i64 ed.a) :: (42, .int .i64 (s : Nat)) :: (41, .bool true) :: L) F (by kernel_rfl) fun a F => ?_
      refine l_do F rfl rfl (op_fn F (by kernel_rfl) (in_any _ s ed.a (by omega) (by omega) (by omega)) ?_)
      rintro e z ⟨rfl, hb⟩
      have S := S.grow hb
      refine ⟨_, rfl, ?_⟩
      rw [hb4]
      intro a F
      refine l_pure 2 (fun L => (46, .bool false) :: (45, .bool false) :: L) F (by kernel_rfl) fun a F => ?_
      refine l_then ?_
      refine c_f F rfl ?_
      refine wp_skip ?_
      refine inb_n ?_
      refine then_n ?_
      refine wp_region_list ?_
      refine l_pure 3 (fun L => (7, .int .i64 2) :: (20, .int .i64 2) :: (19, .int .i64 1) :: L) F (by kernel_rfl) fun a F => ?_
      refine l_then ?_
      refine rnd ?_
      refine wp_seq ?_
      refine s_reg ?_
      refine l_pure 2 (fun L => (18, .bool false) :: (17, .int .i64 2) :: L) F (by kernel_rfl) fun a F => ?_
      refine l_then ?_
      refine c_f F rfl ?_
      refine wp_exit ?_
      refine then_x ?_
      refine then_x ?_
      refine inb_x ?_
      refine inb_n ?_
      refine then_n ?_
      refine wp_region_list ?_
      refine l_pure 1 (fun L => (15, .int .i64 (k : Nat)) :: L) F (by kernel_rfl) fun a F => ?_
      refine l_do F rfl rfl (op_pure F (v0 := .int .i64 (IntKind.wrap .i64 ((k : Nat) + 1))) (v := .int .i64 (k + 1 : Nat)) (by kernel_rfl) (wrn_i64 (by omega) (by omega) (by omega)) fun a F => ?_)
      refine l_pure 1 (fun L => (6, .int .i64 (k + 1 : Nat)) :: L) F (by kernel_rfl) fun a F => ?_
      refine l_then ?_
      have hsn2 : cutTo x (setT s) k = cutTo x (setT s) (k + 1) := by omega
      rw [hsn2] at F
      exact ⟨_, (by omega), k + 1, rfl, (by omega), F.sub ⟨by kernel_rfl, by kernel_rfl, by kernel_rfl, by kernel_rfl, trivial⟩, S⟩
 ·
  skip
  have hk : k = x.edges.length := by omega
  refine l_do F rfl rfl (op_pure F (v0 := .bool (decide (((k : Nat) : Int) < ((x.edges.length : Nat) : Int)))) (v := .bool false) (by kernel_rfl) (lssF ht3) fun a F => ?_)
  refine l_then ?_
  refine c_f F rfl ?_
  refine wp_exit ?_
  refine then_x ?_
  refine then_x ?_
  refine inb_x ?_
  refine then_n ?_
  refine s_reg ?_
  refine l_pure 2 (fun L => (4, .int .u64 (cutTo x (setT s) k)) :: (57, .int .u64 (cutTo x (setT s) k)) :: L) F (by kernel_rfl) fun a F => ?_
  refine l_then ?_
  refine wp_ret ?_
  exact fin F [.tmp 4] [.int .u64 (cutTo x (setT s) k)] rfl ⟨by kernel_rfl, trivial⟩ (.int .u64 (cutTo x (setT s) k)) rfl ⟨by rw [hk, cutTo_all], S.below (i := 0) rfl⟩
set_option maxRecDepth 100000 in
set_option maxHeartbeats 4000000 in
theorem rfright_any (w : World) (As : Option Addr) (cs : Nat) (Ae : Option Addr) (ce : Nat) (x : Wb) (h : WebAt w As cs Ae ce x) (ok : x.Ok) (hs1 : x.edges.length ≤ 1000) (from_ to : Int) : Calls Try.prog 36 #[.agg #[.slice As x.spots.length cs, .slice Ae x.edges.length ce], .int .i64 from_, .int .i64 to] w fun e w' => e = .returned (.int .i64 (frightP x from_ to)) ∧ Below w.heap.size w w' := by
 refine enter 46 Try.func36 rfl rfl rfl fun a F => ?_
 have S := Sat.pushRest w
 refine s_reg ?_
 refine l_do F rfl rfl (op_box S _ _ (.agg #[.slice As x.spots.length cs, .slice Ae x.edges.length ce]) F rfl (by kernel_rfl) fun b1 z S a F => ?_)
 refine l_pure 1 (fun L => (6, .int .i64 0) :: L) F (by kernel_rfl) fun a F => ?_
 refine l_then ?_
 refine s_reg ?_
 refine l_do F rfl rfl (op_loadK _ _ (some ⟨b1, 0, none⟩) 0 [.slice As x.spots.length cs, .slice Ae x.edges.length ce] F rfl (by kernel_rfl) (by kernel_rfl) (by kernel_rfl) (by simp) (cBoxK S 1 rfl 0 (by kernel_rfl)) (fun a F => ?_))
 refine l_do F rfl rfl (op_fn F (by kernel_rfl) (rcheck_any _ As cs Ae ce x (h.move S rfl) ok) ?_)
 rintro e z ⟨rfl, hb⟩
 have S := S.grow hb
 refine ⟨_, rfl, ?_⟩
 intro a F
 refine l_pure 1 (fun L => (7, .int .i64 (chkP x)) :: L) F (by kernel_rfl) fun a F => ?_
 refine l_then ?_
 refine wp_seq ?_
 refine s_reg ?_
 refine l_pure 1 (fun L => (13, .int .i64 (chkP x)) :: L) F (by kernel_rfl) fun a F => ?_
 by_cases ht2 : (chkP x : Int) = (0 : Int)
 ·
  skip
  have hck := ht2
  refine l_do F rfl rfl (op_pure F (v0 := .bool ((chkP x : Int) != (0 : Int))) (v := .bool false) (by kernel_rfl) (neqF ht2) fun a F => ?_)
  refine l_then ?_
  refine c_f F rfl ?_
  refine wp_skip ?_
  refine then_n ?_
  refine s_reg ?_
  refine l_pure 1 (fun L => (16, .pointer (some ⟨b1, 0, none⟩)) :: L) F (by kernel_rfl) fun a F => ?_
  refine l_do F rfl rfl (op_load _ _ (some ⟨b1, 0, none⟩) 0 (.slice As x.spots.length cs) F rfl (by kernel_rfl) (by kernel_rfl) (cBox S 1 rfl (j := 0) rfl) (fun a F => ?_))
  refine l_pure 2 (fun L => (8, .int .i64 (x.spots.length : Nat)) :: (18, .int .i64 (x.spots.length : Nat)) :: L) F (by kernel_rfl) fun a F => ?_
  refine l_then ?_
  refine wp_seq ?_
  refine s_reg ?_
  refine l_pure 1 (fun L => (19, .int .i64 from_) :: L) F (by kernel_rfl) fun a F => ?_
  by_cases ht3 : (from_ : Int) < (0 : Int)
  ·
   skip
   refine l_do F rfl rfl (op_pure F (v0 := .bool (decide ((from_ : Int) < (0 : Int)))) (v := .bool true) (by kernel_rfl) (lssT ht3) fun a F => ?_)
   refine l_pure 19 (fun L => (39, .bool true) :: (38, undef) :: (37, undef) :: (36, undef) :: (35, .bool true) :: (34, .bool true) :: (33, undef) :: (32, undef) :: (31, undef) :: (30, .bool true) :: (29, .bool true) :: (28, undef) :: (27, undef) :: (26, .bool true) :: (25, .bool true) :: (24, undef) :: (23, undef) :: (22, undef) :: (21, .bool true) :: L) F (by kernel_rfl) fun a F => ?_
   refine l_then ?_
   refine c_t F rfl ?_
   refine s_reg ?_
   refine l_pure 1 (fun L => (6, .int .i64 1) :: L) F (by kernel_rfl) fun a F => ?_
   refine l_then ?_
   refine wp_ret ?_
   refine then_r (?_)
   exact fin F [.tmp 6] [.int .i64 1] rfl ⟨by kernel_rfl, trivial⟩ (.int .i64 1) rfl ⟨by rw [fright_arg hck (by omega)], S.below (i := 0) rfl⟩
  ·
   skip
   refine l_do F rfl rfl (op_pure F (v0 := .bool (decide ((from_ : Int) < (0 : Int)))) (v := .bool false) (by kernel_rfl) (lssF ht3) fun a F => ?_)
   refine l_pure 3 (fun L => (23, .int .i64 (x.spots.length : Nat)) :: (22, .int .i64 from_) :: (21, .bool false) :: L) F (by kernel_rfl) fun a F => ?_
   by_cases ht4 : ((x.spots.length : Nat) : Int) ≤ (from_ : Int)
   ·
    skip
    refine l_do F rfl rfl (op_pure F (v0 := .bool (decide ((from_ : Int) ≥ ((x.spots.length : Nat) : Int)))) (v := .bool true) (by kernel_rfl) (geqT ht4) fun a F => ?_)
    refine l_pure 15 (fun L => (39, .bool true) :: (38, undef) :: (37, undef) :: (36, undef) :: (35, .bool true) :: (34, .bool true) :: (33, undef) :: (32, undef) :: (31, undef) :: (30, .bool true) :: (29, .bool true) :: (28, undef) :: (27, undef) :: (26, .bool true) :: (25, .bool true) :: L) F (by kernel_rfl) fun a F => ?_
    refine l_then ?_
    refine c_t F rfl ?_
    refine s_reg ?_
    refine l_pure 1 (fun L => (6, .int .i64 1) :: L) F (by kernel_rfl) fun a F => ?_
    refine l_then ?_
    refine wp_ret ?_
    refine then_r (?_)
    exact fin F [.tmp 6] [.int .i64 1] rfl ⟨by kernel_rfl, trivial⟩ (.int .i64 1) rfl ⟨by rw [fright_arg hck (by omega)], S.below (i := 0) rfl⟩
   ·
    skip
    refine l_do F rfl rfl (op_pure F (v0 := .bool (decide ((from_ : Int) ≥ ((x.spots.length : Nat) : Int)))) (v := .bool false) (by kernel_rfl) (geqF ht4) fun a F => ?_)
    refine l_pure 3 (fun L => (27, .int .i64 to) :: (26, .bool false) :: (25, .bool false) :: L) F (by kernel_rfl) fun a F => ?_
    by_cases ht5 : (to : Int) < (0 : Int)
    ·
     skip
     refine l_do F rfl rfl (op_pure F (v0 := .bool (decide ((to : Int) < (0 : Int)))) (v := .bool true) (by kernel_rfl) (lssT ht5) fun a F => ?_)
     refine l_pure 11 (fun L => (39, .bool true) :: (38, undef) :: (37, undef) :: (36, undef) :: (35, .bool true) :: (34, .bool true) :: (33, undef) :: (32, undef) :: (31, undef) :: (30, .bool true) :: (29, .bool true) :: L) F (by kernel_rfl) fun a F => ?_
     refine l_then ?_
     refine c_t F rfl ?_
     refine s_reg ?_
     refine l_pure 1 (fun L => (6, .int .i64 1) :: L) F (by kernel_rfl) fun a F => ?_
     refine l_then ?_
     refine wp_ret ?_
     refine then_r (?_)
     exact fin F [.tmp 6] [.int .i64 1] rfl ⟨by kernel_rfl, trivial⟩ (.int .i64 1) rfl ⟨by rw [fright_arg hck (by omega)], S.below (i := 0) rfl⟩
    ·
     skip
     refine l_do F rfl rfl (op_pure F (v0 := .bool (decide ((to : Int) < (0 : Int)))) (v := .bool false) (by kernel_rfl) (lssF ht5) fun a F => ?_)
     refine l_pure 4 (fun L => (32, .int .i64 (x.spots.length : Nat)) :: (31, .int .i64 to) :: (30, .bool false) :: (29, .bool false) :: L) F (by kernel_rfl) fun a F => ?_
     by_cases ht6 : ((x.spots.length : Nat) : Int) ≤ (to : Int)
     ·
      skip
      refine l_do F rfl rfl (op_pure F (v0 := .bool (decide ((to : Int) ≥ ((x.spots.length : Nat) : Int)))) (v := .bool true) (by kernel_rfl) (geqT ht6) fun a F => ?_)
      refine l_pure 6 (fun L => (39, .bool true) :: (38, undef) :: (37, undef) :: (36, undef) :: (35, .bool true) :: (34, .bool true) :: L) F (by kernel_rfl) fun a F => ?_
      refine l_then ?_
      refine c_t F rfl ?_
      refine s_reg ?_
      refine l_pure 1 (fun L => (6, .int .i64 1) :: L) F (by kernel_rfl) fun a F => ?_
      refine l_then ?_
      refine wp_ret ?_
      refine then_r (?_)
      exact fin F [.tmp 6] [.int .i64 1] rfl ⟨by kernel_rfl, trivial⟩ (.int .i64 1) rfl ⟨by rw [fright_arg hck (by omega)], S.below (i := 0) rfl⟩
     ·
      skip
      refine l_do F rfl rfl (op_pure F (v0 := .bool (decide ((to : Int) ≥ ((x.spots.length : Nat) : Int)))) (v := .bool false) (by kernel_rfl) (geqF ht6) fun a F => ?_)
      refine l_pure 4 (fun L => (37, .int .i64 to) :: (36, .int .i64 from_) :: (35, .bool false) :: (34, .bool false) :: L) F (by kernel_rfl) fun a F => ?_
      by_cases ht7 : (from_ : Int) = (to : Int)
      ·
       skip
       refine l_do F rfl rfl (op_pure F (v0 := .bool ((from_ : Int) == (to : Int))) (v := .bool true) (by kernel_rfl) (eqlT ht7) fun a F => ?_)
       refine l_pure 1 (fun L => (39, .bool true) :: L) F (by kernel_rfl) fun a F => ?_
       refine l_then ?_
       refine c_t F rfl ?_
       refine s_reg ?_
       refine l_pure 1 (fun L => (6, .int .i64 1) :: L) F (by kernel_rfl) fun a F => ?_
       refine l_then ?_
       refine wp_ret ?_
       refine then_r (?_)
       exact fin F [.tmp 6] [.int .i64 1] rfl ⟨by kernel_rfl, trivial⟩ (.int .i64 1) rfl ⟨by rw [fright_arg hck (by omega)], S.below (i := 0) rfl⟩
      ·
       skip
       refine l_do F rfl rfl (op_pure F (v0 := .bool ((from_ : Int) == (to : Int))) (v := .bool false) (by kernel_rfl) (eqlF ht7) fun a F => ?_)
       refine l_pure 1 (fun L => (39, .bool false) :: L) F (by kernel_rfl) fun a F => ?_
       refine l_then ?_
       refine c_f F rfl ?_
       refine wp_skip ?_
       refine then_n ?_
       refine s_reg ?_
       refine l_do F rfl rfl (op_loadK _ _ (some ⟨b1, 0, none⟩) 0 [.slice As x.spots.length cs, .slice Ae x.edges.length ce] F rfl (by kernel_rfl) (by kernel_rfl) (by kernel_rfl) (by simp) (cBoxK S 1 rfl 0 (by kernel_rfl)) (fun a F => ?_))
       refine l_do F rfl rfl (op_fn F (by kernel_rfl) (rall_any _ As cs Ae ce x (h.move S rfl) ok hs1) ?_)
       rintro e z ⟨rfl, hb⟩
       have S := S.grow hb
       refine ⟨_, rfl, ?_⟩
       intro a F
       refine l_pure 5 (fun L => (10, .int .i64 ((allP x).2)) :: (9, .int .u64 ((allP x).1)) :: (44, .int .i64 ((allP x).2)) :: (43, .int .u64 ((allP x).1)) :: (40, .tuple #[.int .u64 ((allP x).1), .int .i64 ((allP x).2)]) :: L) F (by kernel_rfl) fun a F => ?_
       refine l_then ?_
       refine s_reg ?_
       refine l_pure 2 (fun L => (6, .int .i64 ((allP x).2)) :: (45, .int .i64 ((allP x).2)) :: L) F (by kernel_rfl) fun a F => ?_
       refine l_then ?_
       refine wp_ret ?_
       exact fin F [.tmp 6] [.int .i64 ((allP x).2)] rfl ⟨by kernel_rfl, trivial⟩ (.int .i64 ((allP x).2)) rfl ⟨by rw [fright_all hck (by omega)], S.below (i := 0) rfl⟩
 ·
  skip
  have hck := ht2
  have hr := fright_chk (from_ := from_) (to := to) hck
  refine l_do F rfl rfl (op_pure F (v0 := .bool ((chkP x : Int) != (0 : Int))) (v := .bool true) (by kernel_rfl) (neqT ht2) fun a F => ?_)
  refine l_then ?_
  refine c_t F rfl ?_
  refine s_reg ?_
  refine l_pure 2 (fun L => (6, .int .i64 (chkP x)) :: (15, .int .i64 (chkP x)) :: L) F (by kernel_rfl) fun a F => ?_
  refine l_then ?_
  refine wp_ret ?_
  refine then_r (?_)
  exact fin F [.tmp 6] [.int .i64 (chkP x)] rfl ⟨by kernel_rfl, trivial⟩ (.int .i64 (chkP x)) rfl ⟨by rw [fright_chk hck], S.below (i := 0) rfl⟩
set_option maxRecDepth 100000 in
set_option maxHeartbeats 4000000 in
theorem rmost_any (w : World) (As : Option Addr) (cs : Nat) (Ae : Option Addr) (ce : Nat) (x : Wb) (h : WebAt w As cs Ae ce x) (ok : x.Ok) (hs1 : x.edges.length ≤ 1000) (hc : chkP x = 0) (hho : holds x < 18446744073709551616) (fr t : Nat) (hfr : fr < x.spots.length) (ht : t < x.spots.length) : Calls Try.prog 37 #[.agg #[.slice As x.spots.length cs, .slice Ae x.edges.length ce], .int .i64 (fr : Nat), .int .i64 (t : Nat)] w fun e w' => ∃ (best : Int) (nodes many : Nat), e = .returned (.tuple #[.int .u64 best, .int .i64 (nodes : Nat)]) ∧ MostS x fr t (2 ^ x.spots.length) best nodes many ∧ Below w.heap.size w w' := by
 refine enter 73 Try.func37 rfl rfl rfl fun a F => ?_
 obtain ⟨z1, z2, _⟩ := chk_zero hc
 have S := Sat.pushRest w
 refine s_reg ?_
 refine l_do F rfl rfl (op_box S _ _ (.agg #[.slice As x.spots.length cs, .slice Ae x.edges.length ce]) F rfl (by kernel_rfl) fun b1 z S a F => ?_)
 refine l_pure 2 (fun L => (7, .int .i64 0) :: (6, .int .u64 0) :: L) F (by kernel_rfl) fun a F => ?_
 refine l_then ?_
 refine s_reg ?_
 refine l_pure 2 (fun L => (9, .int .i64 0) :: (8, .int .u64 18446744073709551615) :: L) F (by kernel_rfl) fun a F => ?_
 refine l_then ?_
 refine s_reg ?_
 refine l_pure 1 (fun L => (10, .int .i64 1) :: L) F (by kernel_rfl) fun a F => ?_
 refine l_then ?_
 refine wp_seq ?_
 refine s_reg ?_
 refine l_pure 1 (fun L => (11, .int .i64 0) :: L) F (by kernel_rfl) fun a F => ?_
 refine l_then ?_
 refine wp_block ?_
 refine wp_loop_m (fun m a z => ∃ (i : Nat) (al : Nat), m = x.spots.length - i ∧ (i ≤ x.spots.length) ∧ (al = 2 ^ i) ∧ Fr a 73 [(1, .int .i64 (fr : Nat)), (2, .int .i64 (t : Nat)), (3, .pointer (some ⟨b1, 0, none⟩)), (8, .int .u64 18446744073709551615), (9, .int .i64 0), (10, .int .i64 (al : Nat)), (11, .int .i64 (i : Nat))] ∧ Sat w z [rest w (· < w.heap.size), box b1 25 [.slice As x.spots.length cs, .slice Ae x.edges.length ce]]) _ ⟨0, 1, rfl, Nat.zero_le _, rfl, F.sub ⟨by kernel_rfl, by kernel_rfl, by kernel_rfl, by kernel_rfl, by kernel_rfl, by kernel_rfl, by kernel_rfl, trivial⟩, S⟩ ?_
 rintro m a z ⟨i, al, hm, hf2, hf3, F, S⟩
 have hal := hf3
 refine wp_seq ?_
 refine s_reg ?_
 refine l_pure 2 (fun L => (18, .pointer (some ⟨b1, 0, none⟩)) :: (17, .int .i64 (i : Nat)) :: L) F (by kernel_rfl) fun a F => ?_
 refine l_do F rfl rfl (op_load _ _ (some ⟨b1, 0, none⟩) 0 (.slice As x.spots.length cs) F rfl (by kernel_rfl) (by kernel_rfl) (cBox S 1 rfl (j := 0) rfl) (fun a F => ?_))
 refine l_pure 1 (fun L => (20, .int .i64 (x.spots.length : Nat)) :: L) F (by kernel_rfl) fun a F => ?_
 by_cases ht4 : ((i : Nat) : Int) < ((x.spots.length : Nat) : Int)
 ·
  skip
  have hal8 : al ≤ 128 := by rw [hal]; exact (Nat.pow_le_pow_right (by omega) (by omega) : 2 ^ i ≤ 2 ^ 7)
  refine l_do F rfl rfl (op_pure F (v0 := .bool (decide (((i : Nat) : Int) < ((x.spots.length : Nat) : Int)))) (v := .bool true) (by kernel_rfl) (lssT ht4) fun a F => ?_)
  refine l_then ?_
  refine c_t F rfl ?_
  refine wp_skip ?_
  refine then_n ?_
  refine wp_seq ?_
  refine wp_block ?_
  refine wp_region_list ?_
  refine l_pure 1 (fun L => (24, .int .i64 (al : Nat)) :: L) F (by kernel_rfl) fun a F => ?_
  refine l_do F rfl rfl (op_pure F (v0 := .int .i64 (IntKind.wrap .i64 ((al : Nat) * 2))) (v := .int .i64 ((al : Nat) * 2)) (by kernel_rfl) (wr_i64 (by omega) (by omega)) fun a F => ?_)
  refine l_pure 1 (fun L => (10, .int .i64 ((al : Nat) * 2)) :: L) F (by kernel_rfl) fun a F => ?_
  refine l_nil (inb_n ?_)
  refine then_n ?_
  refine wp_region_list ?_
  refine l_pure 1 (fun L => (22, .int .i64 (i : Nat)) :: L) F (by kernel_rfl) fun a F => ?_
  refine l_do F rfl rfl (op_pure F (v0 := .int .i64 (IntKind.wrap .i64 ((i : Nat) + 1))) (v := .int .i64 (i + 1 : Nat)) (by kernel_rfl) (wrn_i64 (by omega) (by omega) (by omega)) fun a F => ?_)
  refine l_pure 1 (fun L => (11, .int .i64 (i + 1 : Nat)) :: L) F (by kernel_rfl) fun a F => ?_
  refine l_then ?_
  exact ⟨_, (by omega), i + 1, (al * 2), rfl, (by omega), (by rw [hal, Nat.pow_succ]), F.sub ⟨by kernel_rfl, by kernel_rfl, by kernel_rfl, by kernel_rfl, by kernel_rfl, by kernel_rfl, by kernel_rfl, trivial⟩, S⟩
 ·
  skip
  have hi : i = x.spots.length := by omega
  rw [hi] at hal
  have hal8 : al ≤ 256 := by rw [hal]; exact (Nat.pow_le_pow_right (by omega) (by omega) : 2 ^ x.spots.length ≤ 2 ^ 8)
  refine l_do F rfl rfl (op_pure F (v0 := .bool (decide (((i : Nat) : Int) < ((x.spots.length : Nat) : Int)))) (v := .bool false) (by kernel_rfl) (lssF ht4) fun a F => ?_)
  refine l_then ?_
  refine c_f F rfl ?_
  refine wp_exit ?_
  refine then_x ?_
  refine then_x ?_
  refine inb_x ?_
  refine then_n ?_
  refine s_reg ?_
  refine l_pure 1 (fun L => (12, .int .i64 99) :: L) F (by kernel_rfl) fun a F => ?_
  refine l_then ?_
  refine wp_seq ?_
  refine s_reg ?_
  refine l_pure 1 (fun L => (13, .int .i64 0) :: L) F (by kernel_rfl) fun a F => ?_
  refine l_then ?_
  refine wp_block ?_
  refine wp_loop_m (fun m a z => ∃ (set : Nat) (best : Int) (nodes : Nat) (many : Nat), m = al - set ∧ (set ≤ al) ∧ (MostS x fr t set best nodes many) ∧ Fr a 73 [(1, .int .i64 (fr : Nat)), (2, .int .i64 (t : Nat)), (3, .pointer (some ⟨b1, 0, none⟩)), (8, .int .u64 best), (9, .int .i64 (nodes : Nat)), (10, .int .i64 (al : Nat)), (12, .int .i64 (many : Nat)), (13, .int .i64 (set : Nat))] ∧ Sat w z [rest w (· < w.heap.size), box b1 25 [.slice As x.spots.length cs, .slice Ae x.edges.length ce]]) _ ⟨0, 18446744073709551615, 0, 99, rfl, Nat.zero_le _, (mostS_start x fr t), F.sub ⟨by kernel_rfl, by kernel_rfl, by kernel_rfl, by kernel_rfl, by kernel_rfl, by kernel_rfl, by kernel_rfl, by kernel_rfl, trivial⟩, S⟩ ?_
  rintro m a z ⟨set, best, nodes, many, hm, hf5, hf6, F, S⟩
  have hms := hf6
  refine wp_seq ?_
  refine s_reg ?_
  refine l_pure 2 (fun L => (27, .int .i64 (al : Nat)) :: (26, .int .i64 (set : Nat)) :: L) F (by kernel_rfl) fun a F => ?_
  by_cases ht7 : ((set : Nat) : Int) < ((al : Nat) : Int)
  ·
   skip
   refine l_do F rfl rfl (op_pure F (v0 := .bool (decide (((set : Nat) : Int) < ((al : Nat) : Int)))) (v := .bool true) (by kernel_rfl) (lssT ht7) fun a F => ?_)
   refine l_then ?_
   refine c_t F rfl ?_
   refine wp_skip ?_
   refine then_n ?_
   refine wp_seq ?_
   refine wp_block ?_
   refine wp_seq ?_
   refine s_reg ?_
   refine l_pure 2 (fun L => (32, .int .i64 (fr : Nat)) :: (31, .int .i64 (set : Nat)) :: L) F (by kernel_rfl) fun a F => ?_
   cases hb8 : (setT set (fr : Nat)) with
   | false =>
    refine l_do F rfl rfl (op_fn F (by kernel_rfl) (in_any _ set (fr : Nat) (by omega) (by omega) (by omega)) ?_)
    rintro e z ⟨rfl, hb⟩
    have S := S.grow hb
    refine ⟨_, rfl, ?_⟩
    rw [hb8]
    intro a F
    refine l_pure 6 (fun L => (39, .bool true) :: (38, undef) :: (37, undef) :: (36, undef) :: (35, .bool true) :: (34, .bool true) :: L) F (by kernel_rfl) fun a F => ?_
    refine l_then ?_
    refine c_t F rfl ?_
    refine wp_exit ?_
    refine then_x ?_
    refine inb_x ?_
    refine then_n ?_
    refine wp_region_list ?_
    refine l_pure 1 (fun L => (29, .int .i64 (set : Nat)) :: L) F (by kernel_rfl) fun a F => ?_
    refine l_do F rfl rfl (op_pure F (v0 := .int .i64 (IntKind.wrap .i64 ((set : Nat) + 1))) (v := .int .i64 (set + 1 : Nat)) (by kernel_rfl) (wrn_i64 (by omega) (by omega) (by omega)) fun a F => ?_)
    refine l_pure 1 (fun L => (13, .int .i64 (set + 1 : Nat)) :: L) F (by kernel_rfl) fun a F => ?_
    refine l_then ?_
    exact ⟨_, (by omega), set + 1, best, nodes, many, rfl, (by omega), (mostS_skip hms fun hv => by have h9 := hv.1; rw [← setT_nat, hb8] at h9; cases h9), F.sub ⟨by kernel_rfl, by kernel_rfl, by kernel_rfl, by kernel_rfl, by kernel_rfl, by kernel_rfl, by kernel_rfl, by kernel_rfl, trivial⟩, S⟩
   | true =>
    have hvf := hb8
    rw [setT_nat] at hvf
    refine l_do F rfl rfl (op_fn F (by kernel_rfl) (in_any _ set (fr : Nat) (by omega) (by omega) (by omega)) ?_)
    rintro e z ⟨rfl, hb⟩
    have S := S.grow hb
    refine ⟨_, rfl, ?_⟩
    rw [hb8]
    intro a F
    refine l_pure 4 (fun L => (37, .int .i64 (t : Nat)) :: (36, .int .i64 (set : Nat)) :: (35, .bool false) :: (34, .bool false) :: L) F (by kernel_rfl) fun a F => ?_
    cases hb9 : (setT set (t : Nat)) with
    | false =>
     have hvt := hb9
     rw [setT_nat] at hvt
     have hv : Valid set fr t := ⟨hvf, hvt⟩
     have hco := cutTo_le ok (setT set) x.edges.length
     rw [cutTo_all] at hco
     refine l_do F rfl rfl (op_fn F (by kernel_rfl) (in_any _ set (t : Nat) (by omega) (by omega) (by omega)) ?_)
     rintro e z ⟨rfl, hb⟩
     have S := S.grow hb
     refine ⟨_, rfl, ?_⟩
     rw [hb9]
     intro a F
     refine l_pure 1 (fun L => (39, .bool false) :: L) F (by kernel_rfl) fun a F => ?_
     refine l_then ?_
     refine c_f F rfl ?_
     refine wp_skip ?_
     refine then_n ?_
     refine s_reg ?_
     refine l_pure 1 (fun L => (14, .int .i64 0) :: L) F (by kernel_rfl) fun a F => ?_
     refine l_then ?_
     refine wp_seq ?_
     refine s_reg ?_
     refine l_pure 1 (fun L => (15, .int .i64 0) :: L) F (by kernel_rfl) fun a F => ?_
     refine l_then ?_
     refine wp_block ?_
     refine wp_loop_m (fun m a z => ∃ (j : Nat), m = x.spots.length - j ∧ (j ≤ x.spots.length) ∧ Fr a 73 [(1, .int .i64 (fr : Nat)), (2, .int .i64 (t : Nat)), (3, .pointer (some ⟨b1, 0, none⟩)), (8, .int .u64 best), (9, .int .i64 (nodes : Nat)), (10, .int .i64 (al : Nat)), (12, .int .i64 (many : Nat)), (13, .int .i64 (set : Nat)), (14, .int .i64 (cntS set j : Nat)), (15, .int .i64 (j : Nat))] ∧ Sat w z [rest w (· < w.heap.size), box b1 25 [.slice As x.spots.length cs, .slice Ae x.edges.length ce]]) _ ⟨0, rfl, Nat.zero_le _, F.sub ⟨by kernel_rfl, by kernel_rfl, by kernel_rfl, by kernel_rfl, by kernel_rfl, by kernel_rfl, by kernel_rfl, by kernel_rfl, by kernel_rfl, by kernel_rfl, trivial⟩, S⟩ ?_
     rintro m a z ⟨j, hm, hf10, F, S⟩
     have hcj := cntS_le set j
     refine wp_seq ?_
     refine s_reg ?_
     refine l_pure 2 (fun L => (41, .pointer (some ⟨b1, 0, none⟩)) :: (40, .int .i64 (j : Nat)) :: L) F (by kernel_rfl) fun a F => ?_
     refine l_do F rfl rfl (op_load _ _ (some ⟨b1, 0, none⟩) 0 (.slice As x.spots.length cs) F rfl (by kernel_rfl) (by kernel_rfl) (cBox S 1 rfl (j := 0) rfl) (fun a F => ?_))
     refine l_pure 1 (fun L => (43, .int .i64 (x.spots.length : Nat)) :: L) F (by kernel_rfl) fun a F => ?_
     by_cases ht11 : ((j : Nat) : Int) < ((x.spots.length : Nat) : Int)
     ·
      skip
      refine l_do F rfl rfl (op_pure F (v0 := .bool (decide (((j : Nat) : Int) < ((x.spots.length : Nat) : Int)))) (v := .bool true) (by kernel_rfl) (lssT ht11) fun a F => ?_)
      refine l_then ?_
      refine c_t F rfl ?_
      refine wp_skip ?_
      refine then_n ?_
      refine wp_seq ?_
      refine wp_block ?_
      refine s_reg ?_
      refine l_pure 2 (fun L => (48, .int .i64 (j : Nat)) :: (47, .int .i64 (set : Nat)) :: L) F (by kernel_rfl) fun a F => ?_
      cases hb12 : (setT set (j : Nat)) with
      | false =>
       refine l_do F rfl rfl (op_fn F (by kernel_rfl) (in_any _ set (j : Nat) (by omega) (by omega) (by omega)) ?_)
       rintro e z ⟨rfl, hb⟩
       have S := S.grow hb
       refine ⟨_, rfl, ?_⟩
       rw [hb12]
       intro a F
       refine l_then ?_
       refine c_f F rfl ?_
       refine wp_skip ?_
       refine inb_n ?_
       refine then_n ?_
       refine wp_region_list ?_
       refine l_pure 1 (fun L => (45, .int .i64 (j : Nat)) :: L) F (by kernel_rfl) fun a F => ?_
       refine l_do F rfl rfl (op_pure F (v0 := .int .i64 (IntKind.wrap .i64 ((j : Nat) + 1))) (v := .int .i64 (j + 1 : Nat)) (by kernel_rfl) (wrn_i64 (by omega) (by omega) (by omega)) fun a F => ?_)
       refine l_pure 1 (fun L => (15, .int .i64 (j + 1 : Nat)) :: L) F (by kernel_rfl) fun a F => ?_
       refine l_then ?_
       have hsn : cntS set j = cntS set (j + 1) := by rw [setT_nat] at hb12; rw [cntS, hb12]; simp
       rw [hsn] at F
       exact ⟨_, (by omega), j + 1, rfl, (by omega), F.sub ⟨by kernel_rfl, by kernel_rfl, by kernel_rfl, by kernel_rfl, by kernel_rfl, by kernel_rfl, by kernel_rfl, by kernel_rfl, by kernel_rfl, by kernel_rfl, trivial⟩, S⟩
      | true =>
       refine l_do F rfl rfl (op_fn F (by kernel_rfl) (in_any _ set (j : Nat) (by omega) (by omega) (by omega)) ?_)
       rintro e z ⟨rfl, hb⟩
       have S := S.grow hb
       refine ⟨_, rfl, ?_⟩
       rw [hb12]
       intro a F
       refine l_then ?_
       refine c_t F rfl ?_
       refine wp_region_list ?_
       refine l_pure 1 (fun L => (50, .int .i64 (cntS set j : Nat)) :: L) F (by kernel_rfl) fun a F => ?_
       refine l_do F rfl rfl (op_pure F (v0 := .int .i64 (IntKind.wrap .i64 ((cntS set j : Nat) + 1))) (v := .int .i64 (cntS set j + 1 : Nat)) (by kernel_rfl) (wrn_i64 (by omega) (by omega) (by omega)) fun a F => ?_)
       refine l_pure 1 (fun L => (14, .int .i64 (cntS set j + 1 : Nat)) :: L) F (by kernel_rfl) fun a F => ?_
       refine l_nil (inb_n ?_)
       refine then_n ?_
       refine wp_region_list ?_
       refine l_pure 1 (fun L => (45, .int .i64 (j : Nat)) :: L) F (by kernel_rfl) fun a F => ?_
       refine l_do F rfl rfl (op_pure F (v0 := .int .i64 (IntKind.wrap .i64 ((j : Nat) + 1))) (v := .int .i64 (j + 1 : Nat)) (by kernel_rfl) (wrn_i64 (by omega) (by omega) (by omega)) fun a F => ?_)
       refine l_pure 1 (fun L => (15, .int .i64 (j + 1 : Nat)) :: L) F (by kernel_rfl) fun a F => ?_
       refine l_then ?_
       have hsn : cntS set j + 1 = cntS set (j + 1) := by rw [setT_nat] at hb12; rw [cntS, hb12]; simp
       rw [hsn] at F
       exact ⟨_, (by omega), j + 1, rfl, (by omega), F.sub ⟨by kernel_rfl, by kernel_rfl, by kernel_rfl, by kernel_rfl, by kernel_rfl, by kernel_rfl, by kernel_rfl, by kernel_rfl, by kernel_rfl, by kernel_rfl, trivial⟩, S⟩
     ·
      skip
      have hj : j = x.spots.length := by omega
      have hcj : cntS set j = cntS set x.spots.length := by rw [hj]
      refine l_do F rfl rfl (op_pure F (v0 := .bool (decide (((j : Nat) : Int) < ((x.spots.length : Nat) : Int)))) (v := .bool false) (by kernel_rfl) (lssF ht11) fun a F => ?_)
      refine l_then ?_
      refine c_f F rfl ?_
      refine wp_exit ?_
      refine then_x ?_
      refine then_x ?_
      refine inb_x ?_
      refine then_n ?_
      refine s_reg ?_
      refine l_do F rfl rfl (op_loadK _ _ (some ⟨b1, 0, none⟩) 0 [.slice As x.spots.length cs, .slice Ae x.edges.length ce] F rfl (by kernel_rfl) (by kernel_rfl) (by kernel_rfl) (by simp) (cBoxK S 1 rfl 0 (by kernel_rfl)) (fun a F => ?_))
      refine l_pure 1 (fun L => (53, .int .i64 (set : Nat)) :: L) F (by kernel_rfl) fun a F => ?_
      refine l_do F rfl rfl (op_fn F (by kernel_rfl) (rover_any _ As cs Ae ce x (h.move S rfl) ok hs1 set (by omega) hc hho) ?_)
      rintro e z ⟨rfl, hb⟩
      have S := S.grow hb
      refine ⟨_, rfl, ?_⟩
      intro a F
      refine l_pure 1 (fun L => (16, .int .u64 (cutP x (setT set))) :: L) F (by kernel_rfl) fun a F => ?_
      refine l_then ?_
      refine s_reg ?_
      refine l_pure 2 (fun L => (56, .int .u64 best) :: (55, .int .u64 (cutP x (setT set))) :: L) F (by kernel_rfl) fun a F => ?_
      by_cases ht13 : (cutP x (setT set) : Int) < (best : Int)
      ·
       skip
       refine l_do F rfl rfl (op_pure F (v0 := .bool (decide ((cutP x (setT set) : Int) < (best : Int)))) (v := .bool true) (by kernel_rfl) (lssT ht13) fun a F => ?_)
       refine l_pure 10 (fun L => (67, .bool true) :: (66, undef) :: (65, undef) :: (64, undef) :: (63, undef) :: (62, undef) :: (61, undef) :: (60, undef) :: (59, undef) :: (58, .bool true) :: L) F (by kernel_rfl) fun a F => ?_
       refine l_then ?_
       refine c_t F rfl ?_
       refine s_reg ?_
       refine l_pure 2 (fun L => (8, .int .u64 (cutP x (setT set))) :: (68, .int .u64 (cutP x (setT set))) :: L) F (by kernel_rfl) fun a F => ?_
       refine l_then ?_
       refine s_reg ?_
       refine l_pure 2 (fun L => (9, .int .i64 (set : Nat)) :: (69, .int .i64 (set : Nat)) :: L) F (by kernel_rfl) fun a F => ?_
       refine l_then ?_
       refine wp_region_list ?_
       refine l_pure 2 (fun L => (12, .int .i64 (cntS set j : Nat)) :: (70, .int .i64 (cntS set j : Nat)) :: L) F (by kernel_rfl) fun a F => ?_
       refine l_nil (inb_n ?_)
       refine then_n ?_
       refine wp_region_list ?_
       refine l_pure 1 (fun L => (29, .int .i64 (set : Nat)) :: L) F (by kernel_rfl) fun a F => ?_
       refine l_do F rfl rfl (op_pure F (v0 := .int .i64 (IntKind.wrap .i64 ((set : Nat) + 1))) (v := .int .i64 (set + 1 : Nat)) (by kernel_rfl) (wrn_i64 (by omega) (by omega) (by omega)) fun a F => ?_)
       refine l_pure 1 (fun L => (13, .int .i64 (set + 1 : Nat)) :: L) F (by kernel_rfl) fun a F => ?_
       refine l_then ?_
       rw [hcj] at F
       exact ⟨_, (by omega), set + 1, cutP x (setT set), set, cntS set x.spots.length, rfl, (by omega), (mostS_take hms hv (by omega)), F.sub ⟨by kernel_rfl, by kernel_rfl, by kernel_rfl, by kernel_rfl, by kernel_rfl, by kernel_rfl, by kernel_rfl, by kernel_rfl, trivial⟩, S⟩
      ·
       skip
       refine l_do F rfl rfl (op_pure F (v0 := .bool (decide ((cutP x (setT set) : Int) < (best : Int)))) (v := .bool false) (by kernel_rfl) (lssF ht13) fun a F => ?_)
       refine l_pure 3 (fun L => (60, .int .u64 best) :: (59, .int .u64 (cutP x (setT set))) :: (58, .bool false) :: L) F (by kernel_rfl) fun a F => ?_
       by_cases ht14 : (cutP x (setT set) : Int) = (best : Int)
       ·
        skip
        refine l_do F rfl rfl (op_pure F (v0 := .bool ((cutP x (setT set) : Int) == (best : Int))) (v := .bool true) (by kernel_rfl) (eqlT ht14) fun a F => ?_)
        refine l_pure 3 (fun L => (64, .int .i64 (many : Nat)) :: (63, .int .i64 (cntS set j : Nat)) :: (62, .bool true) :: L) F (by kernel_rfl) fun a F => ?_
        by_cases ht15 : ((cntS set j : Nat) : Int) < ((many : Nat) : Int)
        ·
         skip
         refine l_do F rfl rfl (op_pure F (v0 := .bool (decide (((cntS set j : Nat) : Int) < ((many : Nat) : Int)))) (v := .bool true) (by kernel_rfl) (lssT ht15) fun a F => ?_)
         refine l_pure 2 (fun L => (67, .bool true) :: (66, .bool true) :: L) F (by kernel_rfl) fun a F => ?_
         refine l_then ?_
         refine c_t F rfl ?_
         refine s_reg ?_
         refine l_pure 2 (fun L => (8, .int .u64 (cutP x (setT set))) :: (68, .int .u64 (cutP x (setT set))) :: L) F (by kernel_rfl) fun a F => ?_
         refine l_then ?_
         refine s_reg ?_
         refine l_pure 2 (fun L => (9, .int .i64 (set : Nat)) :: (69, .int .i64 (set : Nat)) :: L) F (by kernel_rfl) fun a F => ?_
         refine l_then ?_
         refine wp_region_list ?_
         refine l_pure 2 (fun L => (12, .int .i64 (cntS set j : Nat)) :: (70, .int .i64 (cntS set j : Nat)) :: L) F (by kernel_rfl) fun a F => ?_
         refine l_nil (inb_n ?_)
         refine then_n ?_
         refine wp_region_list ?_
         refine l_pure 1 (fun L => (29, .int .i64 (set : Nat)) :: L) F (by kernel_rfl) fun a F => ?_
         refine l_do F rfl rfl (op_pure F (v0 := .int .i64 (IntKind.wrap .i64 ((set : Nat) + 1))) (v := .int .i64 (set + 1 : Nat)) (by kernel_rfl) (wrn_i64 (by omega) (by omega) (by omega)) fun a F => ?_)
         refine l_pure 1 (fun L => (13, .int .i64 (set + 1 : Nat)) :: L) F (by kernel_rfl) fun a F => ?_
         refine l_then ?_
         rw [hcj] at F
         exact ⟨_, (by omega), set + 1, cutP x (setT set), set, cntS set x.spots.length, rfl, (by omega), (mostS_take hms hv (by omega)), F.sub ⟨by kernel_rfl, by kernel_rfl, by kernel_rfl, by kernel_rfl, by kernel_rfl, by kernel_rfl, by kernel_rfl, by kernel_rfl, trivial⟩, S⟩
        ·
         skip
         refine l_do F rfl rfl (op_pure F (v0 := .bool (decide (((cntS set j : Nat) : Int) < ((many : Nat) : Int)))) (v := .bool false) (by kernel_rfl) (lssF ht15) fun a F => ?_)
         refine l_pure 2 (fun L => (67, .bool false) :: (66, .bool false) :: L) F (by kernel_rfl) fun a F => ?_
         refine l_then ?_
         refine c_f F rfl ?_
         refine wp_skip ?_
         refine inb_n ?_
         refine then_n ?_
         refine wp_region_list ?_
         refine l_pure 1 (fun L => (29, .int .i64 (set : Nat)) :: L) F (by kernel_rfl) fun a F => ?_
         refine l_do F rfl rfl (op_pure F (v0 := .int .i64 (IntKind.wrap .i64 ((set : Nat) + 1))) (v := .int .i64 (set + 1 : Nat)) (by kernel_rfl) (wrn_i64 (by omega) (by omega) (by omega)) fun a F => ?_)
         refine l_pure 1 (fun L => (13, .int .i64 (set + 1 : Nat)) :: L) F (by kernel_rfl) fun a F => ?_
         refine l_then ?_
         exact ⟨_, (by omega), set + 1, best, nodes, many, rfl, (by omega), (mostS_keep hms (by omega) (by omega) (by omega)), F.sub ⟨by kernel_rfl, by kernel_rfl, by kernel_rfl, by kernel_rfl, by kernel_rfl, by kernel_rfl, by kernel_rfl, by kernel_rfl, trivial⟩, S⟩
       ·
        skip
        refine l_do F rfl rfl (op_pure F (v0 := .bool ((cutP x (setT set) : Int) == (best : Int))) (v := .bool false) (by kernel_rfl) (eqlF ht14) fun a F => ?_)
        refine l_pure 6 (fun L => (67, .bool false) :: (66, .bool false) :: (65, undef) :: (64, undef) :: (63, undef) :: (62, .bool false) :: L) F (by kernel_rfl) fun a F => ?_
        refine l_then ?_
        refine c_f F rfl ?_
        refine wp_skip ?_
        refine inb_n ?_
        refine then_n ?_
        refine wp_region_list ?_
        refine l_pure 1 (fun L => (29, .int .i64 (set : Nat)) :: L) F (by kernel_rfl) fun a F => ?_
        refine l_do F rfl rfl (op_pure F (v0 := .int .i64 (IntKind.wrap .i64 ((set : Nat) + 1))) (v := .int .i64 (set + 1 : Nat)) (by kernel_rfl) (wrn_i64 (by omega) (by omega) (by omega)) fun a F => ?_)
        refine l_pure 1 (fun L => (13, .int .i64 (set + 1 : Nat)) :: L) F (by kernel_rfl) fun a F => ?_
        refine l_then ?_
        exact ⟨_, (by omega), set + 1, best, nodes, many, rfl, (by omega), (mostS_keep hms (by omega) (by omega) (by omega)), F.sub ⟨by kernel_rfl, by kernel_rfl, by kernel_rfl, by kernel_rfl, by kernel_rfl, by kernel_rfl, by kernel_rfl, by kernel_rfl, trivial⟩, S⟩
    | true =>
     refine l_do F rfl rfl (op_fn F (by kernel_rfl) (in_any _ set (t : Nat) (by omega) (by omega) (by omega)) ?_)
     rintro e z ⟨rfl, hb⟩
     have S := S.grow hb
     refine ⟨_, rfl, ?_⟩
     rw [hb9]
     intro a F
     refine l_pure 1 (fun L => (39, .bool true) :: L) F (by kernel_rfl) fun a F => ?_
     refine l_then ?_
     refine c_t F rfl ?_
     refine wp_exit ?_
     refine then_x ?_
     refine inb_x ?_
     refine then_n ?_
     refine wp_region_list ?_
     refine l_pure 1 (fun L => (29, .int .i64 (set : Nat)) :: L) F (by kernel_rfl) fun a F => ?_
     refine l_do F rfl rfl (op_pure F (v0 := .int .i64 (IntKind.wrap .i64 ((set : Nat) + 1))) (v := .int .i64 (set + 1 : Nat)) (by kernel_rfl) (wrn_i64 (by omega) (by omega) (by omega)) fun a F => ?_)
     refine l_pure 1 (fun L => (13, .int .i64 (set + 1 : Nat)) :: L) F (by kernel_rfl) fun a F => ?_
     refine l_then ?_
     exact ⟨_, (by omega), set + 1, best, nodes, many, rfl, (by omega), (mostS_skip hms fun hv => by have h9 := hv.2; rw [← setT_nat, hb9] at h9; cases h9), F.sub ⟨by kernel_rfl, by kernel_rfl, by kernel_rfl, by kernel_rfl, by kernel_rfl, by kernel_rfl, by kernel_rfl, by kernel_rfl, trivial⟩, S⟩
  ·
   skip
   have hset : set = al := by omega
   refine l_do F rfl rfl (op_pure F (v0 := .bool (decide (((set : Nat) : Int) < ((al : Nat) : Int)))) (v := .bool false) (by kernel_rfl) (lssF ht7) fun a F => ?_)
   refine l_then ?_
   refine c_f F rfl ?_
   refine wp_exit ?_
   refine then_x ?_
   refine then_x ?_
   refine inb_x ?_
   refine then_n ?_
   refine s_reg ?_
   refine l_pure 4 (fun L => (7, .int .i64 (nodes : Nat)) :: (6, .int .u64 best) :: (72, .int .i64 (nodes : Nat)) :: (71, .int .u64 best) :: L) F (by kernel_rfl) fun a F => ?_
   refine l_then ?_
   refine wp_ret ?_
   exact fin F [.tmp 6, .tmp 7] [.int .u64 best, .int .i64 (nodes : Nat)] rfl ⟨by kernel_rfl, by kernel_rfl, trivial⟩ (.tuple #[.int .u64 best, .int .i64 (nodes : Nat)]) rfl ⟨best, nodes, many, rfl, by rw [← hal, ← hset]; exact hms, S.below (i := 0) rfl⟩
set_option maxRecDepth 100000 in
set_option maxHeartbeats 4000000 in
theorem over27_any (w : World) (As : Option Addr) (cs : Nat) (Ae : Option Addr) (ce : Nat) (x : Wb) (h : WebAt w As cs Ae ce x) (ok : x.Ok) (hs1 : x.edges.length ≤ 1000) (An : Option Addr) (cn : Nat) (N : List Int) (hN : Recs 1 iC_i64 w An cn N) (hnl : N.length ≤ 1000) : Calls Try.prog 41 #[.agg #[.slice As x.spots.length cs, .slice Ae x.edges.length ce], .slice An N.length cn] w fun e w' => e = .returned (.tuple #[.int .u64 (outP x N).1, .int .i64 (outP x N).2]) ∧ Below w.heap.size w w' := by
 refine enter 75 Try.func41 rfl rfl rfl fun a F => ?_
 have S := Sat.pushRest w
 refine s_reg ?_
 refine l_do F rfl rfl (op_box S _ _ (.agg #[.slice As x.spots.length cs, .slice Ae x.edges.length ce]) F rfl (by kernel_rfl) fun b1 z S a F => ?_)
 refine l_pure 2 (fun L => (5, .int .i64 0) :: (4, .int .u64 0) :: L) F (by kernel_rfl) fun a F => ?_
 refine l_then ?_
 refine wp_seq ?_
 refine s_reg ?_
 refine l_do F rfl rfl (op_loadK _ _ (some ⟨b1, 0, none⟩) 0 [.slice As x.spots.length cs, .slice Ae x.edges.length ce] F rfl (by kernel_rfl) (by kernel_rfl) (by kernel_rfl) (by simp) (cBoxK S 1 rfl 0 (by kernel_rfl)) (fun a F => ?_))
 refine l_do F rfl rfl (op_fn F (by kernel_rfl) (check_any _ As cs Ae ce x (h.move S rfl) ok) ?_)
 rintro e z ⟨rfl, hb⟩
 have S := S.grow hb
 refine ⟨_, rfl, ?_⟩
 intro a F
 refine l_pure 1 (fun L => (6, .int .i64 (chkP x)) :: L) F (by kernel_rfl) fun a F => ?_
 refine l_then ?_
 refine s_reg ?_
 refine l_pure 1 (fun L => (19, .int .i64 (chkP x)) :: L) F (by kernel_rfl) fun a F => ?_
 by_cases ht2 : (chkP x : Int) = (0 : Int)
 ·
  skip
  have hck := ht2
  refine l_do F rfl rfl (op_pure F (v0 := .bool ((chkP x : Int) != (0 : Int))) (v := .bool false) (by kernel_rfl) (neqF ht2) fun a F => ?_)
  refine l_then ?_
  refine c_f F rfl ?_
  refine wp_skip ?_
  refine then_n ?_
  refine wp_seq ?_
  refine s_reg ?_
  refine l_do F rfl rfl (op_loadK _ _ (some ⟨b1, 0, none⟩) 0 [.slice As x.spots.length cs, .slice Ae x.edges.length ce] F rfl (by kernel_rfl) (by kernel_rfl) (by kernel_rfl) (by simp) (cBoxK S 1 rfl 0 (by kernel_rfl)) (fun a F => ?_))
  refine l_do F rfl rfl (op_fn F (by kernel_rfl) (all_any _ As cs Ae ce x (h.move S rfl) ok hs1) ?_)
  rintro e z ⟨rfl, hb⟩
  have S := S.grow hb
  refine ⟨_, rfl, ?_⟩
  intro a F
  refine l_pure 5 (fun L => (8, .int .i64 ((allP x).2)) :: (7, .int .u64 ((allP x).1)) :: (26, .int .i64 ((allP x).2)) :: (25, .int .u64 ((allP x).1)) :: (22, .tuple #[.int .u64 ((allP x).1), .int .i64 ((allP x).2)]) :: L) F (by kernel_rfl) fun a F => ?_
  refine l_then ?_
  refine s_reg ?_
  refine l_pure 1 (fun L => (27, .int .i64 ((allP x).2)) :: L) F (by kernel_rfl) fun a F => ?_
  by_cases ht3 : ((allP x).2 : Int) = (0 : Int)
  ·
   skip
   have hal := ht3
   have hho := (all_holds ok hal).2
   refine l_do F rfl rfl (op_pure F (v0 := .bool (((allP x).2 : Int) != (0 : Int))) (v := .bool false) (by kernel_rfl) (neqF ht3) fun a F => ?_)
   refine l_then ?_
   refine c_f F rfl ?_
   refine wp_skip ?_
   refine then_n ?_
   refine s_reg ?_
   refine l_do F rfl rfl (op_makeMap S _ .i64 rfl fun r4 z S a F => ?_)
   refine l_pure 1 (fun L => (9, .map (some r4)) :: L) F (by kernel_rfl) fun a F => ?_
   refine l_then ?_
   refine wp_seq ?_
   refine s_reg ?_
   refine l_pure 3 (fun L => (33, .int .i64 0) :: (32, .int .i64 (N.length : Nat)) :: (31, .slice An N.length cn) :: L) F (by kernel_rfl) fun a F => ?_
   refine l_then ?_
   refine wp_block ?_
   refine wp_loop_m (fun m a z => ∃ (k : Nat) (es : List Ent) (ck : Nat), m = N.length - k ∧ (k ≤ N.length) ∧ (∀ v, getM es v = if inL (N.take k) v = true then some (.bool true) else none) ∧ Fr a 75 [(2, .pointer (some ⟨b1, 0, none⟩)), (9, .map (some r4)), (31, .slice An N.length cn), (32, .int .i64 (N.length : Nat)), (33, .int .i64 (k : Nat))] ∧ Sat w z [rest w (· < w.heap.size), box b1 32 [.slice As x.spots.length cs, .slice Ae x.edges.length ce], mapA r4 .i64 es ck]) _ ⟨0, [], 0, rfl, Nat.zero_le _, (fun v => rfl), F.sub ⟨by kernel_rfl, by kernel_rfl, by kernel_rfl, by kernel_rfl, by kernel_rfl, trivial⟩, S⟩ ?_
   rintro m a z ⟨k, es, ck, hm, hf5, hf6, F, S⟩
   have hmem := hf6
   refine s_reg ?_
   by_cases ht7 : ((k : Nat) : Int) < ((N.length : Nat) : Int)
   ·
    skip
    obtain ⟨nk, hnk⟩ : ∃ nk, N[k]? = some nk := ⟨_, List.getElem?_eq_getElem (by omega)⟩
    refine l_do F rfl rfl (op_pure F (v0 := .bool (decide (((k : Nat) : Int) < ((N.length : Nat) : Int)))) (v := .bool true) (by kernel_rfl) (lssT ht7) fun a F => ?_)
    refine l_then ?_
    refine wp_seq ?_
    refine c_t F rfl ?_
    refine wp_skip ?_
    refine then_n ?_
    refine wp_seq ?_
    refine wp_block ?_
    refine s_reg ?_
    refine l_do F rfl rfl (op_index _ 3 _ _ An N.length cn k 1 .i64 F rfl (by kernel_rfl) (by kernel_rfl) (by kernel_rfl) (by kernel_rfl) (get_lt hnk) (recs_some hN (m := k) (get_lt hnk)) (fun a F => ?_))
    refine l_do F rfl rfl (op_load _ _ An (k * 1) (.int .i64 nk) F rfl (by kernel_rfl) (by kernel_rfl) (cOld S 0 iC_len_i64 hN rfl 0 hnk rfl) (fun a F => ?_))
    refine l_pure 1 (fun L => (11, .int .i64 nk) :: L) F (by kernel_rfl) fun a F => ?_
    refine l_then ?_
    refine wp_region_list ?_
    refine l_pure 2 (fun L => (38, .int .i64 nk) :: (37, .map (some r4)) :: L) F (by kernel_rfl) fun a F => ?_
    refine l_do F rfl rfl (op_mapUpdate S 2 _ 3 4 _ _ _ .i64 .i64 nk (.bool true) F rfl rfl (by kernel_rfl) (by kernel_rfl) (by kernel_rfl) (by kernel_rfl) (by kernel_rfl) fun z S a F => ?_)
    refine l_nil (inb_n ?_)
    refine then_n ?_
    refine wp_region_list ?_
    refine l_do F rfl rfl (op_pure F (v0 := .int .i64 (IntKind.wrap .i64 ((k : Nat) + 1))) (v := .int .i64 (k + 1 : Nat)) (by kernel_rfl) (wrn_i64 (by omega) (by omega) (by omega)) fun a F => ?_)
    refine l_pure 1 (fun L => (33, .int .i64 (k + 1 : Nat)) :: L) F (by kernel_rfl) fun a F => ?_
    refine l_then ?_
    exact ⟨_, (by omega), k + 1, putM es nk (.bool true) ck, putC es nk ck, rfl, (by omega), (inL_snoc hnk hmem), F.sub ⟨by kernel_rfl, by kernel_rfl, by kernel_rfl, by kernel_rfl, by kernel_rfl, trivial⟩, S⟩
   ·
    skip
    have hk : k = N.length := by omega
    rw [hk, List.take_length] at hmem
    refine l_do F rfl rfl (op_pure F (v0 := .bool (decide (((k : Nat) : Int) < ((N.length : Nat) : Int)))) (v := .bool false) (by kernel_rfl) (lssF ht7) fun a F => ?_)
    refine l_then ?_
    refine wp_seq ?_
    refine c_f F rfl ?_
    refine wp_exit ?_
    refine then_x ?_
    refine then_x ?_
    refine inb_x ?_
    refine then_n ?_
    refine s_reg ?_
    refine l_pure 1 (fun L => (12, .int .u64 0) :: L) F (by kernel_rfl) fun a F => ?_
    refine l_then ?_
    refine wp_seq ?_
    refine s_reg ?_
    refine l_pure 1 (fun L => (40, .pointer (some ⟨b1, 1, none⟩)) :: L) F (by kernel_rfl) fun a F => ?_
    refine l_do F rfl rfl (op_load _ _ (some ⟨b1, 0, none⟩) 1 (.slice Ae x.edges.length ce) F rfl (by kernel_rfl) (by kernel_rfl) (cBox S 1 rfl (j := 1) rfl) (fun a F => ?_))
    refine l_pure 2 (fun L => (43, .int .i64 0) :: (42, .int .i64 (x.edges.length : Nat)) :: L) F (by kernel_rfl) fun a F => ?_
    refine l_then ?_
    refine wp_block ?_
    refine wp_loop_m (fun m a z => ∃ (k2 : Nat), m = x.edges.length - k2 ∧ (k2 ≤ x.edges.length) ∧ Fr a 75 [(9, .map (some r4)), (12, .int .u64 (cutTo x (inL N) k2)), (41, .slice Ae x.edges.length ce), (42, .int .i64 (x.edges.length : Nat)), (43, .int .i64 (k2 : Nat))] ∧ Sat w z [rest w (· < w.heap.size), box b1 32 [.slice As x.spots.length cs, .slice Ae x.edges.length ce], mapA r4 .i64 es ck]) _ ⟨0, rfl, Nat.zero_le _, F.sub ⟨by kernel_rfl, by kernel_rfl, by kernel_rfl, by kernel_rfl, by kernel_rfl, trivial⟩, S⟩ ?_
    rintro m a z ⟨k2, hm, hf8, F, S⟩
    refine s_reg ?_
    by_cases ht9 : ((k2 : Nat) : Int) < ((x.edges.length : Nat) : Int)
    ·
     skip
     obtain ⟨ed, hed⟩ : ∃ ed, x.edges[k2]? = some ed := ⟨_, List.getElem?_eq_getElem (by omega)⟩
     have hedo := ok.e ed (List.mem_of_getElem? hed)
     have k1 := hedo.c0.1
     have k2' := hedo.c1.1
     have hsn := cutTo_snoc (T := inL N) hed
     have hk1 := cutTo_le ok (inL N) (k2 + 1)
     have hk0 := cutTo_le ok (inL N) k2
     refine l_do F rfl rfl (op_pure F (v0 := .bool (decide (((k2 : Nat) : Int) < ((x.edges.length : Nat) : Int)))) (v := .bool true) (by kernel_rfl) (lssT ht9) fun a F => ?_)
     refine l_then ?_
     refine wp_seq ?_
     refine c_t F rfl ?_
     refine wp_skip ?_
     refine then_n ?_
     refine wp_seq ?_
     refine wp_block ?_
     refine s_reg ?_
     refine l_do F rfl rfl (op_index _ 62 _ _ Ae x.edges.length ce k2 8 .i64 F rfl (by kernel_rfl) (by kernel_rfl) (by kernel_rfl) (by kernel_rfl) (get_lt hed) (recs_some h.e (m := k2) (get_lt hed)) (fun a F => ?_))
     refine l_do F rfl rfl (op_loadK _ _ Ae (k2 * 8) [.int .i64 ed.a, .int .i64 ed.b, .int .u64 ed.c0, .int .u64 ed.c1, .int .u64 ed.b0, .int .u64 ed.r0, .int .u64 ed.b1, .int .u64 ed.r1] F rfl (by kernel_rfl) (by kernel_rfl) (by kernel_rfl) (by simp) (cOldK0 S 0 edC_len h.e rfl hed (by kernel_rfl)) (fun a F => ?_))
     refine l_do F rfl rfl (op_alloc S _ (.agg #[.int .i64 0, .int .i64 0, .int .u64 0, .int .u64 0, .int .u64 0, .int .u64 0, .int .u64 0, .int .u64 0]) rfl (by kernel_rfl) fun b10 z S a F => ?_)
     refine l_do F rfl rfl (op_storeB S 3 _ _ _ b10 0 (.agg #[.int .i64 ed.a, .int .i64 ed.b, .int .u64 ed.c0, .int .u64 ed.c1, .int .u64 ed.b0, .int .u64 ed.r0, .int .u64 ed.b1, .int .u64 ed.r1]) F rfl rfl (by kernel_rfl) (by kernel_rfl) (by kernel_rfl) (by kernel_rfl) (by kernel_rfl) fun z S a F => ?_)
     refine l_then ?_
     refine s_reg ?_
     refine l_pure 1 (fun L => (47, .pointer (some ⟨b10, 0, none⟩)) :: L) F (by kernel_rfl) fun a F => ?_
     refine l_do F rfl rfl (op_loadK _ _ (some ⟨b10, 0, none⟩) 0 [.int .i64 ed.a, .int .i64 ed.b] F rfl (by kernel_rfl) (by kernel_rfl) (by kernel_rfl) (by simp) (cBoxK S 3 rfl 0 (by kernel_rfl)) (fun a F => ?_))
     refine l_pure 1 (fun L => (49, .int .i64 0) :: L) F (by kernel_rfl) fun a F => ?_
     refine l_then ?_
     refine wp_block ?_
     refine wp_loop_rounds 3 (rnd ?_)
     refine s_reg ?_
     refine l_pure 1 (fun L => (50, .bool true) :: L) F (by kernel_rfl) fun a F => ?_
     refine l_then ?_
     refine wp_seq ?_
     refine c_t F rfl ?_
     refine wp_skip ?_
     refine then_n ?_
     refine wp_seq ?_
     refine wp_block ?_
     refine s_reg ?_
     refine l_pure 4 (fun L => (16, .int .i64 ed.a) :: (15, .int .i64 0) :: (52, .int .i64 ed.a) :: (51, .int .i64 0) :: L) F (by kernel_rfl) fun a F => ?_
     refine l_then ?_
     refine s_reg ?_
     refine l_pure 2 (fun L => (54, .int .i64 ed.a) :: (53, .map (some r4)) :: L) F (by kernel_rfl) fun a F => ?_
     cases hb11 : (inL N ed.a) with
     | false =>
      refine l_do F rfl rfl (op_lookup S 2 _ 3 4 _ _ false (.bool false) .i64 .i64 ed.a (.bool false) F rfl rfl (by kernel_rfl) (by kernel_rfl) (by kernel_rfl) (by kernel_rfl) (by kernel_rfl) ((inL_get hmem _).trans (by rw [hb11])) (fun a F => ?_))
      refine l_pure 10 (fun L => (65, .bool false) :: (64, undef) :: (63, undef) :: (62, undef) :: (61, undef) :: (60, undef) :: (59, undef) :: (58, undef) :: (57, undef) :: (56, .bool false) :: L) F (by kernel_rfl) fun a F => ?_
      refine l_then ?_
      refine c_f F rfl ?_
      refine wp_skip ?_
      refine inb_n ?_
      refine then_n ?_
      refine wp_region_list ?_
      refine l_pure 2 (fun L => (49, .int .i64 1) :: (72, .int .i64 1) :: L) F (by kernel_rfl) fun a F => ?_
      refine l_then ?_
      refine rnd ?_
      refine s_reg ?_
      refine l_pure 1 (fun L => (50, .bool true) :: L) F (by kernel_rfl) fun a F => ?_
      refine l_then ?_
      refine wp_seq ?_
      refine c_t F rfl ?_
      refine wp_skip ?_
      refine then_n ?_
      refine wp_seq ?_
      refine wp_block ?_
      refine s_reg ?_
      refine l_pure 4 (fun L => (16, .int .i64 ed.b) :: (15, .int .i64 1) :: (52, .int .i64 ed.b) :: (51, .int .i64 1) :: L) F (by kernel_rfl) fun a F => ?_
      refine l_then ?_
      refine s_reg ?_
      refine l_pure 2 (fun L => (54, .int .i64 ed.b) :: (53, .map (some r4)) :: L) F (by kernel_rfl) fun a F => ?_
      cases hb12 : (inL N ed.b) with
      | false =>
       have hcut := cut_ss (T := (inL N)) hb11 hb12
       rw [hcut] at hsn
       refine l_do F rfl rfl (op_lookup S 2 _ 3 4 _ _ false (.bool false) .i64 .i64 ed.b (.bool false) F rfl rfl (by kernel_rfl) (by kernel_rfl) (by kernel_rfl) (by kernel_rfl) (by kernel_rfl) ((inL_get hmem _).trans (by rw [hb12])) (fun a F => ?_))
       refine l_pure 10 (fun L => (65, .bool false) :: (64, undef) :: (63, undef) :: (62, undef) :: (61, undef) :: (60, undef) :: (59, undef) :: (58, undef) :: (57, undef) :: (56, .bool false) :: L) F (by kernel_rfl) fun a F => ?_
       refine l_then ?_
       refine c_f F rfl ?_
       refine wp_skip ?_
       refine inb_n ?_
       refine then_n ?_
       refine wp_region_list ?_
       refine l_pure 2 (fun L => (49, .int .i64 2) :: (72, .int .i64 2) :: L) F (by kernel_rfl) fun a F => ?_
       refine l_then ?_
       refine rnd ?_
       refine s_reg ?_
       refine l_pure 1 (fun L => (50, .bool false) :: L) F (by kernel_rfl) fun a F => ?_
       refine l_then ?_
       refine wp_seq ?_
       refine c_f F rfl ?_
       refine wp_exit ?_
       refine then_x ?_
       refine then_x ?_
       refine inb_x ?_
       refine inb_n ?_
       refine then_n ?_
       refine wp_region_list ?_
       refine l_do F rfl rfl (op_pure F (v0 := .int .i64 (IntKind.wrap .i64 ((k2 : Nat) + 1))) (v := .int .i64 (k2 + 1 : Nat)) (by kernel_rfl) (wrn_i64 (by omega) (by omega) (by omega)) fun a F => ?_)
       refine l_pure 1 (fun L => (43, .int .i64 (k2 + 1 : Nat)) :: L) F (by kernel_rfl) fun a F => ?_
       refine l_then ?_
       have hsn2 : cutTo x (inL N) k2 = cutTo x (inL N) (k2 + 1) := by omega
       rw [hsn2] at F
       exact ⟨_, (by omega), k2 + 1, rfl, (by omega), F.sub ⟨by kernel_rfl, by kernel_rfl, by kernel_rfl, by kernel_rfl, by kernel_rfl, trivial⟩, (S.pick [0, 1, 2] (by decide))⟩
      | true =>
       have hcut := cut_ft (T := (inL N)) hb11 hb12
       rw [hcut] at hsn
       refine l_do F rfl rfl (op_lookup S 2 _ 3 4 _ _ false (.bool false) .i64 .i64 ed.b (.bool true) F rfl rfl (by kernel_rfl) (by kernel_rfl) (by kernel_rfl) (by kernel_rfl) (by kernel_rfl) ((inL_get hmem _).trans (by rw [hb12])) (fun a F => ?_))
       refine l_pure 6 (fun L => (61, .pointer (some ⟨b10, 0, none⟩)) :: (60, .pointer (some ⟨b10, 0, none⟩)) :: (59, .int .i64 0) :: (58, .int .i64 1) :: (57, .map (some r4)) :: (56, .bool true) :: L) F (by kernel_rfl) fun a F => ?_
       refine l_do F rfl rfl (op_load _ _ (some ⟨b10, 0, none⟩) 0 (.int .i64 ed.a) F rfl (by kernel_rfl) (by kernel_rfl) (cBox S 3 rfl (j := 0) rfl) (fun a F => ?_))
       refine l_do F rfl rfl (op_lookup S 2 _ 3 4 _ _ false (.bool false) .i64 .i64 ed.a (.bool false) F rfl rfl (by kernel_rfl) (by kernel_rfl) (by kernel_rfl) (by kernel_rfl) (by kernel_rfl) ((inL_get hmem _).trans (by rw [hb11])) (fun a F => ?_))
       refine l_pure 2 (fun L => (65, .bool true) :: (64, .bool true) :: L) F (by kernel_rfl) fun a F => ?_
       refine l_then ?_
       refine c_t F rfl ?_
       refine wp_region_list ?_
       refine l_pure 4 (fun L => (69, .pointer (some ⟨b10, 3, none⟩)) :: (68, .pointer (some ⟨b10, 2, none⟩)) :: (67, .int .i64 1) :: (66, .int .u64 (cutTo x (inL N) k2)) :: L) F (by kernel_rfl) fun a F => ?_
       refine l_do F rfl rfl (op_load _ _ (some ⟨b10, 0, none⟩) 3 (.int .u64 ed.c1) F rfl (by kernel_rfl) (by kernel_rfl) (cBox S 3 rfl (j := 3) rfl) (fun a F => ?_))
       refine l_do F rfl rfl (op_pure F (v0 := .int .u64 (IntKind.wrap .u64 ((cutTo x (inL N) k2) + ed.c1))) (v := .int .u64 ((cutTo x (inL N) k2) + ed.c1)) (by kernel_rfl) (wr_u64 (by omega) (by omega)) fun a F => ?_)
       refine l_pure 1 (fun L => (12, .int .u64 ((cutTo x (inL N) k2) + ed.c1)) :: L) F (by kernel_rfl) fun a F => ?_
       refine l_nil (inb_n ?_)
       refine then_n ?_
       refine wp_region_list ?_
       refine l_pure 2 (fun L => (49, .int .i64 2) :: (72, .int .i64 2) :: L) F (by kernel_rfl) fun a F => ?_
       refine l_then ?_
       refine rnd ?_
       refine s_reg ?_
       refine l_pure 1 (fun L => (50, .bool false) :: L) F (by kernel_rfl) fun a F => ?_
       refine l_then ?_
       refine wp_seq ?_
       refine c_f F rfl ?_
       refine wp_exit ?_
       refine then_x ?_
       refine then_x ?_
       refine inb_x ?_
       refine inb_n ?_
       refine then_n ?_
       refine wp_region_list ?_
       refine l_do F rfl rfl (op_pure F (v0 := .int .i64 (IntKind.wrap .i64 ((k2 : Nat) + 1))) (v := .int .i64 (k2 + 1 : Nat)) (by kernel_rfl) (wrn_i64 (by omega) (by omega) (by omega)) fun a F => ?_)
       refine l_pure 1 (fun L => (43, .int .i64 (k2 + 1 : Nat)) :: L) F (by kernel_rfl) fun a F => ?_
       refine l_then ?_
       have hsn2 : (cutTo x (inL N) k2) + ed.c1 = cutTo x (inL N) (k2 + 1) := by omega
       rw [hsn2] at F
       exact ⟨_, (by omega), k2 + 1, rfl, (by omega), F.sub ⟨by kernel_rfl, by kernel_rfl, by kernel_rfl, by kernel_rfl, by kernel_rfl, trivial⟩, (S.pick [0, 1, 2] (by decide))⟩
     | true =>
      refine l_do F rfl rfl (op_lookup S 2 _ 3 4 _ _ false (.bool false) .i64 .i64 ed.a (.bool true) F rfl rfl (by kernel_rfl) (by kernel_rfl) (by kernel_rfl) (by kernel_rfl) (by kernel_rfl) ((inL_get hmem _).trans (by rw [hb11])) (fun a F => ?_))
      refine l_pure 6 (fun L => (61, .pointer (some ⟨b10, 1, none⟩)) :: (60, .pointer (some ⟨b10, 0, none⟩)) :: (59, .int .i64 1) :: (58, .int .i64 0) :: (57, .map (some r4)) :: (56, .bool true) :: L) F (by kernel_rfl) fun a F => ?_
      refine l_do F rfl rfl (op_load _ _ (some ⟨b10, 0, none⟩) 1 (.int .i64 ed.b) F rfl (by kernel_rfl) (by kernel_rfl) (cBox S 3 rfl (j := 1) rfl) (fun a F => ?_))
      cases hb13 : (inL N ed.b) with
      | false =>
       have hcut := cut_tf (T := (inL N)) hb11 hb13
       rw [hcut] at hsn
       refine l_do F rfl rfl (op_lookup S 2 _ 3 4 _ _ false (.bool false) .i64 .i64 ed.b (.bool false) F rfl rfl (by kernel_rfl) (by kernel_rfl) (by kernel_rfl) (by kernel_rfl) (by kernel_rfl) ((inL_get hmem _).trans (by rw [hb13])) (fun a F => ?_))
       refine l_pure 2 (fun L => (65, .bool true) :: (64, .bool true) :: L) F (by kernel_rfl) fun a F => ?_
       refine l_then ?_
       refine c_t F rfl ?_
       refine wp_region_list ?_
       refine l_pure 4 (fun L => (69, .pointer (some ⟨b10, 2, none⟩)) :: (68, .pointer (some ⟨b10, 2, none⟩)) :: (67, .int .i64 0) :: (66, .int .u64 (cutTo x (inL N) k2)) :: L) F (by kernel_rfl) fun a F => ?_
       refine l_do F rfl rfl (op_load _ _ (some ⟨b10, 0, none⟩) 2 (.int .u64 ed.c0) F rfl (by kernel_rfl) (by kernel_rfl) (cBox S 3 rfl (j := 2) rfl) (fun a F => ?_))
       refine l_do F rfl rfl (op_pure F (v0 := .int .u64 (IntKind.wrap .u64 ((cutTo x (inL N) k2) + ed.c0))) (v := .int .u64 ((cutTo x (inL N) k2) + ed.c0)) (by kernel_rfl) (wr_u64 (by omega) (by omega)) fun a F => ?_)
       refine l_pure 1 (fun L => (12, .int .u64 ((cutTo x (inL N) k2) + ed.c0)) :: L) F (by kernel_rfl) fun a F => ?_
       refine l_nil (inb_n ?_)
       refine then_n ?_
       refine wp_region_list ?_
       refine l_pure 2 (fun L => (49, .int .i64 1) :: (72, .int .i64 1) :: L) F (by kernel_rfl) fun a F => ?_
       refine l_then ?_
       refine rnd ?_
       refine s_reg ?_
       refine l_pure 1 (fun L => (50, .bool true) :: L) F (by kernel_rfl) fun a F => ?_
       refine l_then ?_
       refine wp_seq ?_
       refine c_t F rfl ?_
       refine wp_skip ?_
       refine then_n ?_
       refine wp_seq ?_
       refine wp_block ?_
       refine s_reg ?_
       refine l_pure 4 (fun L => (16, .int .i64 ed.b) :: (15, .int .i64 1) :: (52, .int .i64 ed.b) :: (51, .int .i64 1) :: L) F (by kernel_rfl) fun a F => ?_
       refine l_then ?_
       refine s_reg ?_
       refine l_pure 2 (fun L => (54, .int .i64 ed.b) :: (53, .map (some r4)) :: L) F (by kernel_rfl) fun a F => ?_
       refine l_do F rfl rfl (op_lookup S 2 _ 3 4 _ _ false (.bool false) .i64 .i64 ed.b (.bool false) F rfl rfl (by kernel_rfl) (by kernel_rfl) (by kernel_rfl) (by kernel_rfl) (by kernel_rfl) ((inL_get hmem _).trans (by rw [hb13])) (fun a F => ?_))
       refine l_pure 10 (fun L => (65, .bool false) :: (64, undef) :: (63, undef) :: (62, undef) :: (61, undef) :: (60, undef) :: (59, undef) :: (58, undef) :: (57, undef) :: (56, .bool false) :: L) F (by kernel_rfl) fun a F => ?_
       refine l_then ?_
       refine c_f F rfl ?_
       refine wp_skip ?_
       refine inb_n ?_
       refine then_n ?_
       refine wp_region_list ?_
       refine l_pure 2 (fun L => (49, .int .i64 2) :: (72, .int .i64 2) :: L) F (by kernel_rfl) fun a F => ?_
       refine l_then ?_
       refine rnd ?_
       refine s_reg ?_
       refine l_pure 1 (fun L => (50, .bool false) :: L) F (by kernel_rfl) fun a F => ?_
       refine l_then ?_
       refine wp_seq ?_
       refine c_f F rfl ?_
       refine wp_exit ?_
       refine then_x ?_
       refine then_x ?_
       refine inb_x ?_
       refine inb_n ?_
       refine then_n ?_
       refine wp_region_list ?_
       refine l_do F rfl rfl (op_pure F (v0 := .int .i64 (IntKind.wrap .i64 ((k2 : Nat) + 1))) (v := .int .i64 (k2 + 1 : Nat)) (by kernel_rfl) (wrn_i64 (by omega) (by omega) (by omega)) fun a F => ?_)
       refine l_pure 1 (fun L => (43, .int .i64 (k2 + 1 : Nat)) :: L) F (by kernel_rfl) fun a F => ?_
       refine l_then ?_
       have hsn2 : (cutTo x (inL N) k2) + ed.c0 = cutTo x (inL N) (k2 + 1) := by omega
       rw [hsn2] at F
       exact ⟨_, (by omega), k2 + 1, rfl, (by omega), F.sub ⟨by kernel_rfl, by kernel_rfl, by kernel_rfl, by kernel_rfl, by kernel_rfl, trivial⟩, (S.pick [0, 1, 2] (by decide))⟩
      | true =>
       have hcut := cut_ss (T := (inL N)) hb11 hb13
       rw [hcut] at hsn
       refine l_do F rfl rfl (op_lookup S 2 _ 3 4 _ _ false (.bool false) .i64 .i64 ed.b (.bool true) F rfl rfl (by kernel_rfl) (by kernel_rfl) (by kernel_rfl) (by kernel_rfl) (by kernel_rfl) ((inL_get hmem _).trans (by rw [hb13])) (fun a F => ?_))
       refine l_pure 2 (fun L => (65, .bool false) :: (64, .bool false) :: L) F (by kernel_rfl) fun a F => ?_
       refine l_then ?_
       refine c_f F rfl ?_
       refine wp_skip ?_
       refine inb_n ?_
       refine then_n ?_
       refine wp_region_list ?_
       refine l_pure 2 (fun L => (49, .int .i64 1) :: (72, .int .i64 1) :: L) F (by kernel_rfl) fun a F => ?_
       refine l_then ?_
       refine rnd ?_
       refine s_reg ?_
       refine l_pure 1 (fun L => (50, .bool true) :: L) F (by kernel_rfl) fun a F => ?_
       refine l_then ?_
       refine wp_seq ?_
       refine c_t F rfl ?_
       refine wp_skip ?_
       refine then_n ?_
       refine wp_seq ?_
       refine wp_block ?_
       refine s_reg ?_
       refine l_pure 4 (fun L => (16, .int .i64 ed.b) :: (15, .int .i64 1) :: (52, .int .i64 ed.b) :: (51, .int .i64 1) :: L) F (by kernel_rfl) fun a F => ?_
       refine l_then ?_
       refine s_reg ?_
       refine l_pure 2 (fun L => (54, .int .i64 ed.b) :: (53, .map (some r4)) :: L) F (by kernel_rfl) fun a F => ?_
       refine l_do F rfl rfl (op_lookup S 2 _ 3 4 _ _ false (.bool false) .i64 .i64 ed.b (.bool true) F rfl rfl (by kernel_rfl) (by kernel_rfl) (by kernel_rfl) (by kernel_rfl) (by kernel_rfl) ((inL_get hmem _).trans (by rw [hb13])) (fun a F => ?_))
       refine l_pure 6 (fun L => (61, .pointer (some ⟨b10, 0, none⟩)) :: (60, .pointer (some ⟨b10, 0, none⟩)) :: (59, .int .i64 0) :: (58, .int .i64 1) :: (57, .map (some r4)) :: (56, .bool true) :: L) F (by kernel_rfl) fun a F => ?_
       refine l_do F rfl rfl (op_load _ _ (some ⟨b10, 0, none⟩) 0 (.int .i64 ed.a) F rfl (by kernel_rfl) (by kernel_rfl) (cBox S 3 rfl (j := 0) rfl) (fun a F => ?_))
       refine l_do F rfl rfl (op_lookup S 2 _ 3 4 _ _ false (.bool false) .i64 .i64 ed.a (.bool true) F rfl rfl (by kernel_rfl) (by kernel_rfl) (by kernel_rfl) (by kernel_rfl) (by kernel_rfl) ((inL_get hmem _).trans (by rw [hb11])) (fun a F => ?_))
       refine l_pure 2 (fun L => (65, .bool false) :: (64, .bool false) :: L) F (by kernel_rfl) fun a F => ?_
       refine l_then ?_
       refine c_f F rfl ?_
       refine wp_skip ?_
       refine inb_n ?_
       refine then_n ?_
       refine wp_region_list ?_
       refine l_pure 2 (fun L => (49, .int .i64 2) :: (72, .int .i64 2) :: L) F (by kernel_rfl) fun a F => ?_
       refine l_then ?_
       refine rnd ?_
       refine s_reg ?_
       refine l_pure 1 (fun L => (50, .bool false) :: L) F (by kernel_rfl) fun a F => ?_
       refine l_then ?_
       refine wp_seq ?_
       refine c_f F rfl ?_
       refine wp_exit ?_
       refine then_x ?_
       refine then_x ?_
       refine inb_x ?_
       refine inb_n ?_
       refine then_n ?_
       refine wp_region_list ?_
       refine l_do F rfl rfl (op_pure F (v0 := .int .i64 (IntKind.wrap .i64 ((k2 : Nat) + 1))) (v := .int .i64 (k2 + 1 : Nat)) (by kernel_rfl) (wrn_i64 (by omega) (by omega) (by omega)) fun a F => ?_)
       refine l_pure 1 (fun L => (43, .int .i64 (k2 + 1 : Nat)) :: L) F (by kernel_rfl) fun a F => ?_
       refine l_then ?_
       have hsn2 : cutTo x (inL N) k2 = cutTo x (inL N) (k2 + 1) := by omega
       rw [hsn2] at F
       exact ⟨_, (by omega), k2 + 1, rfl, (by omega), F.sub ⟨by kernel_rfl, by kernel_rfl, by kernel_rfl, by kernel_rfl, by kernel_rfl, trivial⟩, (S.pick [0, 1, 2] (by decide))⟩
    ·
     skip
     have hk2 : k2 = x.edges.length := by omega
     refine l_do F rfl rfl (op_pure F (v0 := .bool (decide (((k2 : Nat) : Int) < ((x.edges.length : Nat) : Int)))) (v := .bool false) (by kernel_rfl) (lssF ht9) fun a F => ?_)
     refine l_then ?_
     refine wp_seq ?_
     refine c_f F rfl ?_
     refine wp_exit ?_
     refine then_x ?_
     refine then_x ?_
     refine inb_x ?_
     refine then_n ?_
     refine s_reg ?_
     refine l_pure 3 (fun L => (5, .int .i64 0) :: (4, .int .u64 (cutTo x (inL N) k2)) :: (74, .int .u64 (cutTo x (inL N) k2)) :: L) F (by kernel_rfl) fun a F => ?_
     refine l_then ?_
     refine wp_ret ?_
     exact fin F [.tmp 4, .tmp 5] [.int .u64 (cutTo x (inL N) k2), .int .i64 0] rfl ⟨by kernel_rfl, by kernel_rfl, trivial⟩ (.tuple #[.int .u64 (cutTo x (inL N) k2), .int .i64 0]) rfl ⟨by rw [outP_ok hck hal, hk2, cutTo_all], S.below (i := 0) rfl⟩
  ·
   skip
   have hal := ht3
   refine l_do F rfl rfl (op_pure F (v0 := .bool (((allP x).2 : Int) != (0 : Int))) (v := .bool true) (by kernel_rfl) (neqT ht3) fun a F => ?_)
   refine l_then ?_
   refine c_t F rfl ?_
   refine s_reg ?_
   refine l_pure 3 (fun L => (5, .int .i64 ((allP x).2)) :: (4, .int .u64 0) :: (29, .int .i64 ((allP x).2)) :: L) F (by kernel_rfl) fun a F => ?_
   refine l_then ?_
   refine wp_ret ?_
   refine then_r (?_)
   exact fin F [.tmp 4, .tmp 5] [.int .u64 0, .int .i64 ((allP x).2)] rfl ⟨by kernel_rfl, by kernel_rfl, trivial⟩ (.tuple #[.int .u64 0, .int .i64 ((allP x).2)]) rfl ⟨by rw [outP_all hck hal], S.below (i := 0) rfl⟩
 ·
  skip
  have hck := ht2
  refine l_do F rfl rfl (op_pure F (v0 := .bool ((chkP x : Int) != (0 : Int))) (v := .bool true) (by kernel_rfl) (neqT ht2) fun a F => ?_)
  refine l_then ?_
  refine c_t F rfl ?_
  refine s_reg ?_
  refine l_pure 3 (fun L => (5, .int .i64 (chkP x)) :: (4, .int .u64 0) :: (21, .int .i64 (chkP x)) :: L) F (by kernel_rfl) fun a F => ?_
  refine l_then ?_
  refine wp_ret ?_
  refine then_r (?_)
  exact fin F [.tmp 4, .tmp 5] [.int .u64 0, .int .i64 (chkP x)] rfl ⟨by kernel_rfl, by kernel_rfl, trivial⟩ (.tuple #[.int .u64 0, .int .i64 (chkP x)]) rfl ⟨by rw [outP_chk hck], S.below (i := 0) rfl⟩
end Go.Proofs.Ytcfpbemoocegfaa
