/- Walk over the narrowest place. -/
import Derived.Test.YtcfpbemoocegfaaFright
import Derived.Test.YtcfpbemoocegfaaFlowQ
import Derived.Test.YtcfpbemoocegfaaGk
namespace Go.Proofs.Ytcfpbemoocegfaa
set_option linter.unusedVariables false
set_option linter.unusedSimpArgs false
set_option linter.unnecessarySimpa false
open Go Go.RowKit

/-- The places of what isn't less than nothing. -/
def upsF : Nat → List Int → List Int
  | i, b :: l => (if 0 ≤ b then [(i : Int)] else []) ++ upsF (i + 1) l
  | _, [] => []
def upsTo (l : List Int) (k : Nat) : List Int := upsF 0 (l.take k)
theorem upsF_snoc (b : Int) : ∀ (l : List Int) (i : Nat), upsF i (l ++ [b]) = upsF i l ++ (if 0 ≤ b then [((i + l.length : Nat) : Int)] else [])
  | [], i => by simp [upsF]
  | a :: l, i => by
    show _ ++ upsF (i + 1) (l ++ [b]) = (_ ++ upsF (i + 1) l) ++ (if 0 ≤ b then [((i + (l.length + 1) : Nat) : Int)] else [])
    rw [upsF_snoc b l (i + 1), List.append_assoc, show i + 1 + l.length = i + (l.length + 1) from by omega]
theorem ups_snoc {l : List Int} {k : Nat} {b : Int} (h : l[k]? = some b) : upsTo l (k + 1) = upsTo l k ++ (if 0 ≤ b then [(k : Int)] else []) := by
  have h1 := (List.getElem?_eq_some_iff.1 h).1
  unfold upsTo
  rw [List.take_add_one, h]
  show upsF 0 (_ ++ [b]) = _
  rw [upsF_snoc, List.length_take, Nat.min_eq_left (by omega), Nat.zero_add]
theorem upsF_len : ∀ (l : List Int) (i : Nat), (upsF i l).length ≤ l.length
  | [], _ => by simp [upsF]
  | a :: l, i => by
    have h := upsF_len l (i + 1)
    show (_ ++ upsF (i + 1) l).length ≤ l.length + 1
    rw [List.length_append]
    split <;> simp <;> omega
theorem ups_len (l : List Int) (k : Nat) : (upsTo l k).length ≤ l.length := by
  have h := upsF_len (l.take k) 0
  rw [List.length_take] at h
  unfold upsTo
  omega
theorem reach_again {x y : Wb} {fr t : Nat} {n : Int} (h : FlowAt x y fr t n) {b1 b2 : List Int} (h1 : RchOk x y fr b1) (hc : come b1 (t : Int) = false) (h2 : RchOk x y fr b2) : come b2 (t : Int) = false := by
  obtain ⟨hT, hn⟩ := flow_end h h1 hc
  cases hq : come b2 (t : Int) with
  | false => rfl
  | true =>
    have := come_sub h h2 hT hn.symm t hq
    rw [hc] at this; cases this
/-- What the narrowest place comes to. -/
def CutOk (x : Wb) (from_ to : Int) (L : List Int) : Prop :=
  (frightP x from_ to ≠ 0 ∧ L = []) ∨ (frightP x from_ to = 0 ∧ ∃ (fr t : Nat) (y : Wb) (n : Int) (b : List Int), from_ = (fr : Int) ∧ to = (t : Int) ∧ FlowAt x y fr t n ∧ RchOk x y fr b ∧ come b (t : Int) = false ∧ L = upsTo b b.length)

set_option maxRecDepth 100000 in
set_option maxHeartbeats 4000000 in
theorem cut27_any (w : World) (As : Option Addr) (cs : Nat) (Ae : Option Addr) (ce : Nat) (x : Wb) (h : WebAt w As cs Ae ce x) (ok : x.Ok) (hs1 : x.edges.length ≤ 1000) (hs2 : x.spots.length ≤ 1000) (from_ to : Int) : Calls Try.prog 39 #[.agg #[.slice As x.spots.length cs, .slice Ae x.edges.length ce], .int .i64 from_, .int .i64 to] w fun e w' => ∃ (A' : Option Addr) (c' : Nat) (L : List Int), e = .returned (.tuple #[.slice A' L.length c', .int .i64 (frightP x from_ to)]) ∧ CutOk x from_ to L ∧ Sat w w' [rest w (· < w.heap.size), row 3 1 (.slice A' L.length c') L.length (L.flatMap iC_i64)] := by
 refine enter 59 Try.func39 rfl rfl rfl fun a F => ?_
 have S := Sat.pushRest w
 refine s_reg ?_
 refine l_do F rfl rfl (op_box S _ _ (.agg #[.slice As x.spots.length cs, .slice Ae x.edges.length ce]) F rfl (by kernel_rfl) fun b1 z S a F => ?_)
 refine l_pure 2 (fun L => (7, .int .i64 0) :: (6, .slice none 0 0) :: L) F (by kernel_rfl) fun a F => ?_
 refine l_then ?_
 refine wp_seq ?_
 refine s_reg ?_
 refine l_do F rfl rfl (op_loadK _ _ (some ⟨b1, 0, none⟩) 0 [.slice As x.spots.length cs, .slice Ae x.edges.length ce] F rfl (by kernel_rfl) (by kernel_rfl) (by kernel_rfl) (by simp) (cBoxK S 1 rfl 0 (by kernel_rfl)) (fun a F => ?_))
 refine l_pure 2 (fun L => (17, .int .i64 to) :: (16, .int .i64 from_) :: L) F (by kernel_rfl) fun a F => ?_
 refine l_do F rfl rfl (op_fn F (by kernel_rfl) (fright_any _ As cs Ae ce x (h.move S rfl) ok hs1 from_ to) ?_)
 rintro e z ⟨rfl, hb⟩
 have S := S.grow hb
 refine ⟨_, rfl, ?_⟩
 intro a F
 refine l_pure 1 (fun L => (8, .int .i64 (frightP x from_ to)) :: L) F (by kernel_rfl) fun a F => ?_
 refine l_then ?_
 refine s_reg ?_
 refine l_pure 1 (fun L => (19, .int .i64 (frightP x from_ to)) :: L) F (by kernel_rfl) fun a F => ?_
 by_cases ht2 : (frightP x from_ to : Int) = (0 : Int)
 ·
  skip
  have hr := ht2
  obtain ⟨hc, ⟨fr, t, hq1, hq2, hfr, ht, hne⟩, hal, hho, hsum⟩ := fright_zero ok hr
  subst hq1
  subst hq2
  refine l_do F rfl rfl (op_pure F (v0 := .bool ((frightP x (fr : Nat) (t : Nat) : Int) != (0 : Int))) (v := .bool false) (by kernel_rfl) (neqF hr) fun a F => ?_)
  refine l_then ?_
  refine c_f F rfl ?_
  refine wp_skip ?_
  refine then_n ?_
  refine s_reg ?_
  refine l_pure 1 (fun L => (9, .slice none 0 0) :: L) F (by kernel_rfl) fun a F => ?_
  refine l_then ?_
  refine wp_seq ?_
  refine s_reg ?_
  refine l_pure 1 (fun L => (22, .pointer (some ⟨b1, 1, none⟩)) :: L) F (by kernel_rfl) fun a F => ?_
  refine l_do F rfl rfl (op_load _ _ (some ⟨b1, 0, none⟩) 1 (.slice Ae x.edges.length ce) F rfl (by kernel_rfl) (by kernel_rfl) (cBox S 1 rfl (j := 1) rfl) (fun a F => ?_))
  refine l_pure 2 (fun L => (25, .int .i64 0) :: (24, .int .i64 (x.edges.length : Nat)) :: L) F (by kernel_rfl) fun a F => ?_
  refine l_then ?_
  refine wp_block ?_
  refine wp_loop_m (fun m a z => ∃ (k : Nat) (Ar : Option Addr) (cr : Nat), m = x.edges.length - k ∧ (k ≤ x.edges.length) ∧ Fr a 59 [(1, .int .i64 (fr : Nat)), (2, .int .i64 (t : Nat)), (3, .pointer (some ⟨b1, 0, none⟩)), (9, .slice Ar ((x.edges.take k).length) cr), (23, .slice Ae x.edges.length ce), (24, .int .i64 (x.edges.length : Nat)), (25, .int .i64 (k : Nat))] ∧ Sat w z [rest w (· < w.heap.size), box b1 32 [.slice As x.spots.length cs, .slice Ae x.edges.length ce], row 57 2 (.slice Ar ((x.edges.take k).length) cr) ((x.edges.take k).length) ((x.edges.take k).flatMap resC)]) _ ⟨0, none, 0, rfl, Nat.zero_le _, F.sub ⟨by kernel_rfl, by kernel_rfl, by kernel_rfl, by kernel_rfl, by kernel_rfl, by kernel_rfl, by kernel_rfl, trivial⟩, (S.nilRow 57 2)⟩ ?_
  rintro m a z ⟨k, Ar, cr, hm, hf3, F, S⟩
  have hrl : (x.edges.take k).length ≤ 1000 := by rw [List.length_take]; omega
  refine s_reg ?_
  by_cases ht4 : ((k : Nat) : Int) < ((x.edges.length : Nat) : Int)
  ·
   skip
   obtain ⟨ed, hed⟩ : ∃ ed, x.edges[k]? = some ed := ⟨_, List.getElem?_eq_getElem (by omega)⟩
   refine l_do F rfl rfl (op_pure F (v0 := .bool (decide (((k : Nat) : Int) < ((x.edges.length : Nat) : Int)))) (v := .bool true) (by kernel_rfl) (lssT ht4) fun a F => ?_)
   refine l_then ?_
   refine wp_seq ?_
   refine c_t F rfl ?_
   refine wp_skip ?_
   refine then_n ?_
   refine wp_seq ?_
   refine wp_block ?_
   refine s_reg ?_
   refine l_do F rfl rfl (op_index _ 62 _ _ Ae x.edges.length ce k 8 .i64 F rfl (by kernel_rfl) (by kernel_rfl) (by kernel_rfl) (by kernel_rfl) (get_lt hed) (recs_some h.e (m := k) (get_lt hed)) (fun a F => ?_))
   refine l_do F rfl rfl (op_loadK _ _ Ae (k * 8) [.int .i64 ed.a, .int .i64 ed.b, .int .u64 ed.c0, .int .u64 ed.c1, .int .u64 ed.b0, .int .u64 ed.r0, .int .u64 ed.b1, .int .u64 ed.r1] F rfl (by kernel_rfl) (by kernel_rfl) (by kernel_rfl) (by simp) (cOldK0 S 0 edC_len h.e rfl hed (by kernel_rfl)) (fun a F => ?_))
   refine l_do F rfl rfl (op_alloc S _ (.agg #[.int .i64 0, .int .i64 0, .int .u64 0, .int .u64 0, .int .u64 0, .int .u64 0, .int .u64 0, .int .u64 0]) rfl (by kernel_rfl) fun b5 z S a F => ?_)
   refine l_do F rfl rfl (op_storeB S 3 _ _ _ b5 0 (.agg #[.int .i64 ed.a, .int .i64 ed.b, .int .u64 ed.c0, .int .u64 ed.c1, .int .u64 ed.b0, .int .u64 ed.r0, .int .u64 ed.b1, .int .u64 ed.r1]) F rfl rfl (by kernel_rfl) (by kernel_rfl) (by kernel_rfl) (by kernel_rfl) (by kernel_rfl) fun z S a F => ?_)
   refine l_then ?_
   refine wp_region_list ?_
   refine l_pure 2 (fun L => (30, .pointer (some ⟨b5, 2, none⟩)) :: (29, .slice Ar ((x.edges.take k).length) cr) :: L) F (by kernel_rfl) fun a F => ?_
   refine l_do F rfl rfl (op_loadK _ _ (some ⟨b5, 0, none⟩) 2 [.int .u64 ed.c0, .int .u64 ed.c1] F rfl (by kernel_rfl) (by kernel_rfl) (by kernel_rfl) (by simp) (cBoxK S 3 rfl 2 (by kernel_rfl)) (fun a F => ?_))
   refine l_do F rfl rfl (op_buildSlice S _ 1 _ 57 2 resC ([ed] : List Edg) F rfl (by kernel_rfl) (by kernel_rfl) (by kernel_rfl) (by unfold maxLen; omega) fun b6 z S a F => ?_)
   refine l_do F rfl rfl (op_append S 2 _ _ _ 57 (.agg #[.int .u64 0, .int .u64 0]) 2 16 (x.edges.take k) ([ed] : List Edg) resC (some ⟨b6, 0, none⟩) 1 F resC_len (fun _ => rfl) rfl rfl (by kernel_rfl) (by kernel_rfl) rfl rfl rfl (by kernel_rfl) (by kernel_rfl) (row_none (S.rowOf (i := 4) rfl)) (src_row (S.rowOf (i := 4) rfl)) (by first | omega | (simp <;> omega)) fun A7 c8 z S a F => ?_)
   refine l_pure 1 (fun L => (9, .slice A7 (((x.edges.take k) ++ ([ed] : List Edg)).length) c8) :: L) F (by kernel_rfl) fun a F => ?_
   refine l_nil (inb_n ?_)
   refine then_n ?_
   refine wp_region_list ?_
   refine l_do F rfl rfl (op_pure F (v0 := .int .i64 (IntKind.wrap .i64 ((k : Nat) + 1))) (v := .int .i64 (k + 1 : Nat)) (by kernel_rfl) (wrn_i64 (by omega) (by omega) (by omega)) fun a F => ?_)
   refine l_pure 1 (fun L => (25, .int .i64 (k + 1 : Nat)) :: L) F (by kernel_rfl) fun a F => ?_
   refine l_then ?_
   have hsn : ((x.edges.take k) ++ ([ed] : List Edg)) = (x.edges.take (k + 1)) := by rw [List.take_add_one, hed]; rfl
   rw [hsn] at F S
   exact ⟨_, (by omega), k + 1, A7, c8, rfl, (by omega), F.sub ⟨by kernel_rfl, by kernel_rfl, by kernel_rfl, by kernel_rfl, by kernel_rfl, by kernel_rfl, by kernel_rfl, trivial⟩, (S.pick [0, 1, 2] (by decide))⟩
  ·
   skip
   have hk : k = x.edges.length := by omega
   rw [hk, List.take_length] at F S
   refine l_do F rfl rfl (op_pure F (v0 := .bool (decide (((x.edges.length : Nat) : Int) < ((x.edges.length : Nat) : Int)))) (v := .bool false) (by kernel_rfl) (lssF (Int.lt_irrefl _)) fun a F => ?_)
   refine l_then ?_
   refine wp_seq ?_
   refine c_f F rfl ?_
   refine wp_exit ?_
   refine then_x ?_
   refine then_x ?_
   refine inb_x ?_
   refine then_n ?_
   refine wp_seq ?_
   refine wp_block ?_
   refine wp_loop_m (fun m a z => ∃ (sm : Int) (y2 : Wb), m = (holds x - sm).toNat ∧ (FlowAt x y2 fr t sm) ∧ Fr a 59 [(1, .int .i64 (fr : Nat)), (2, .int .i64 (t : Nat)), (3, .pointer (some ⟨b1, 0, none⟩)), (9, .slice Ar x.edges.length cr)] ∧ Sat w z [rest w (· < w.heap.size), box b1 32 [.slice As x.spots.length cs, .slice Ae x.edges.length ce], row 57 2 (.slice Ar x.edges.length cr) x.edges.length (y2.edges.flatMap resC)]) _ ⟨0, x, rfl, (flow_start ok fr t), F.sub ⟨by kernel_rfl, by kernel_rfl, by kernel_rfl, by kernel_rfl, trivial⟩, S⟩ ?_
   rintro m a z ⟨sm, y2, hm, hf9, F, S⟩
   have hflow := hf9
   have hnn := hflow.nn
   have hyl := hflow.res.len
   refine wp_seq ?_
   refine s_reg ?_
   refine l_pure 1 (fun L => (35, .slice Ar x.edges.length cr) :: L) F (by kernel_rfl) fun a F => ?_
   refine l_do F rfl rfl (op_loadK _ _ (some ⟨b1, 0, none⟩) 0 [.slice As x.spots.length cs, .slice Ae x.edges.length ce] F rfl (by kernel_rfl) (by kernel_rfl) (by kernel_rfl) (by simp) (cBoxK S 1 rfl 0 (by kernel_rfl)) (fun a F => ?_))
   refine l_pure 2 (fun L => (38, .int .i64 (t : Nat)) :: (37, .int .i64 (fr : Nat)) :: L) F (by kernel_rfl) fun a F => ?_
   obtain ⟨G9, g9, hin9, hlt9, k9⟩ := S.frameB [2] (by decide) rfl
   refine l_do F rfl rfl (op_fn F (by kernel_rfl) (push_any _ G9 As cs Ae ce x (h.move S rfl) ok (InG.rest hin9 0 (by decide) rfl (InG.all h.s.src)) (InG.rest hin9 0 (by decide) rfl (InG.all h.e.src)) Ar cr x.edges.length y2 hflow.res.len.symm hflow.res hc hsum fr t hfr ht 18446744073709551615 (by unfold U64; omega) (by decide) g9) ?_)
   rintro e z9 ⟨n9, y3, rfl, hpush, g⟩
   have S : Sat w z9 [rest w (· < w.heap.size), box b1 32 [.slice As x.spots.length cs, .slice Ae x.edges.length ce], row 57 2 (.slice Ar x.edges.length cr) x.edges.length (y3.edges.flatMap resC)] := k9 z9 [row 57 2 (.slice Ar x.edges.length cr) x.edges.length (y3.edges.flatMap resC)] rfl g
   clear g g9 k9 hin9 hlt9
   refine ⟨_, rfl, ?_⟩
   intro a F
   by_cases ht10 : (0 : Int) < (n9 : Int)
   ·
    skip
    obtain ⟨hf2, hle2⟩ := flow_push hflow hsum hpush (by omega)
    have hho2 := flow_holds ok hne hf2
    refine l_do F rfl rfl (op_pure F (v0 := .bool (decide ((n9 : Int) > (0 : Int)))) (v := .bool true) (by kernel_rfl) (gtrT ht10) fun a F => ?_)
    refine l_then ?_
    refine c_t F rfl ?_
    refine wp_skip ?_
    refine then_n ?_
    refine wp_block ?_
    refine wp_skip ?_
    refine inb_n ?_
    refine then_n ?_
    exact ⟨_, (by omega), (sm + n9), y3, rfl, hf2, F.sub ⟨by kernel_rfl, by kernel_rfl, by kernel_rfl, by kernel_rfl, trivial⟩, S⟩
   ·
    skip
    have hz := flow_zero hpush (by omega)
    rw [hz.2.1] at S
    obtain ⟨byz, hb1, hb2⟩ := hz.2.2
    refine l_do F rfl rfl (op_pure F (v0 := .bool (decide ((n9 : Int) > (0 : Int)))) (v := .bool false) (by kernel_rfl) (gtrF ht10) fun a F => ?_)
    refine l_then ?_
    refine c_f F rfl ?_
    refine wp_exit ?_
    refine then_x ?_
    refine then_x ?_
    refine inb_x ?_
    refine then_n ?_
    refine s_reg ?_
    refine l_pure 1 (fun L => (12, .slice none 0 0) :: L) F (by kernel_rfl) fun a F => ?_
    refine l_then ?_
    refine wp_seq ?_
    refine s_reg ?_
    refine l_pure 1 (fun L => (41, .slice Ar x.edges.length cr) :: L) F (by kernel_rfl) fun a F => ?_
    refine l_do F rfl rfl (op_loadK _ _ (some ⟨b1, 0, none⟩) 0 [.slice As x.spots.length cs, .slice Ae x.edges.length ce] F rfl (by kernel_rfl) (by kernel_rfl) (by kernel_rfl) (by simp) (cBoxK S 1 rfl 0 (by kernel_rfl)) (fun a F => ?_))
    refine l_pure 1 (fun L => (43, .int .i64 (fr : Nat)) :: L) F (by kernel_rfl) fun a F => ?_
    refine l_do F rfl rfl (op_fn F (by kernel_rfl) (reach27_n hflow.res.len.symm _ As cs Ae ce x (h.move S rfl) ok Ar cr y2 (Recs.ofRow (S.rowOf9 2 hflow.res.len.symm rfl) (by omega)) hflow.res hc fr hfr) ?_)
    rintro e z ⟨A11, c12, by_, rfl, hrch, g⟩
    have S := S.pushThings g
    have hbyl := hrch.len
    refine ⟨_, rfl, ?_⟩
    intro a F
    refine l_pure 2 (fun L => (46, .int .i64 0) :: (45, .int .i64 (by_.length : Nat)) :: L) F (by kernel_rfl) fun a F => ?_
    refine l_then ?_
    refine wp_block ?_
    refine wp_loop_m (fun m a z => ∃ (k4 : Nat) (Ap : Option Addr) (cp : Nat), m = by_.length - k4 ∧ (k4 ≤ by_.length) ∧ Fr a 59 [(12, .slice Ap ((upsTo by_ k4).length) cp), (44, .slice A11 by_.length c12), (45, .int .i64 (by_.length : Nat)), (46, .int .i64 (k4 : Nat))] ∧ Sat w z [rest w (· < w.heap.size), row 3 1 (.slice A11 by_.length c12) by_.length (by_.flatMap iC_i64), row 3 1 (.slice Ap ((upsTo by_ k4).length) cp) ((upsTo by_ k4).length) ((upsTo by_ k4).flatMap iC_i64)]) _ ⟨0, none, 0, rfl, Nat.zero_le _, F.sub ⟨by kernel_rfl, by kernel_rfl, by kernel_rfl, by kernel_rfl, trivial⟩, ((S.nilRow 3 1).pick [0, 3, 4] (by decide))⟩ ?_
    rintro m a z ⟨k4, Ap, cp, hm, hf13, F, S⟩
    refine s_reg ?_
    by_cases ht14 : ((k4 : Nat) : Int) < ((by_.length : Nat) : Int)
    ·
     skip
     obtain ⟨bv, hbv⟩ : ∃ bv, by_[k4]? = some bv := ⟨_, List.getElem?_eq_getElem (by omega)⟩
     have hul := ups_len by_ k4
     refine l_do F rfl rfl (op_pure F (v0 := .bool (decide (((k4 : Nat) : Int) < ((by_.length : Nat) : Int)))) (v := .bool true) (by kernel_rfl) (lssT ht14) fun a F => ?_)
     refine l_then ?_
     refine wp_seq ?_
     refine c_t F rfl ?_
     refine wp_skip ?_
     refine then_n ?_
     refine wp_seq ?_
     refine wp_block ?_
     refine s_reg ?_
     refine l_pure 1 (fun L => (48, .int .i64 (k4 : Nat)) :: L) F (by kernel_rfl) fun a F => ?_
     refine l_do F rfl rfl (op_index _ 3 _ _ A11 by_.length c12 k4 1 .i64 F rfl (by kernel_rfl) (by kernel_rfl) (by kernel_rfl) (by kernel_rfl) (get_lt hbv) (row_some S 1 rfl (m := k4) (get_lt hbv)) (fun a F => ?_))
     refine l_do F rfl rfl (op_load _ _ A11 (k4 * 1) (.int .i64 bv) F rfl (by kernel_rfl) (by kernel_rfl) (cRec S 1 iC_len_i64 rfl 0 hbv rfl) (fun a F => ?_))
     refine l_pure 2 (fun L => (14, .int .i64 bv) :: (13, .int .i64 (k4 : Nat)) :: L) F (by kernel_rfl) fun a F => ?_
     refine l_then ?_
     refine s_reg ?_
     refine l_pure 1 (fun L => (51, .int .i64 bv) :: L) F (by kernel_rfl) fun a F => ?_
     by_cases ht15 : (0 : Int) ≤ (bv : Int)
     ·
      skip
      refine l_do F rfl rfl (op_pure F (v0 := .bool (decide ((bv : Int) ≥ (0 : Int)))) (v := .bool true) (by kernel_rfl) (geqT ht15) fun a F => ?_)
      refine l_then ?_
      refine c_t F rfl ?_
      refine wp_region_list ?_
      refine l_pure 2 (fun L => (54, .int .i64 (k4 : Nat)) :: (53, .slice Ap ((upsTo by_ k4).length) cp) :: L) F (by kernel_rfl) fun a F => ?_
      refine l_do F rfl rfl (op_buildSlice S _ 1 _ 3 1 iC_i64 ([(k4 : Nat)] : List Int) F rfl (by kernel_rfl) (by kernel_rfl) (by kernel_rfl) (by unfold maxLen; omega) fun b16 z S a F => ?_)
      refine l_do F rfl rfl (op_append S 2 _ _ _ 3 (.int .i64 0) 1 8 (upsTo by_ k4) ([(k4 : Nat)] : List Int) iC_i64 (some ⟨b16, 0, none⟩) 1 F iC_len_i64 (fun _ => rfl) rfl rfl (by kernel_rfl) (by kernel_rfl) rfl rfl rfl (by kernel_rfl) (by kernel_rfl) (row_none (S.rowOf (i := 3) rfl)) (src_row (S.rowOf (i := 3) rfl)) (by first | omega | (simp <;> omega)) fun A17 c18 z S a F => ?_)
      refine l_pure 1 (fun L => (12, .slice A17 (((upsTo by_ k4) ++ ([(k4 : Nat)] : List Int)).length) c18) :: L) F (by kernel_rfl) fun a F => ?_
      refine l_nil (inb_n ?_)
      refine then_n ?_
      refine wp_region_list ?_
      refine l_do F rfl rfl (op_pure F (v0 := .int .i64 (IntKind.wrap .i64 ((k4 : Nat) + 1))) (v := .int .i64 (k4 + 1 : Nat)) (by kernel_rfl) (wrn_i64 (by omega) (by omega) (by omega)) fun a F => ?_)
      refine l_pure 1 (fun L => (46, .int .i64 (k4 + 1 : Nat)) :: L) F (by kernel_rfl) fun a F => ?_
      refine l_then ?_
      have hsn : ((upsTo by_ k4) ++ ([(k4 : Nat)] : List Int)) = (upsTo by_ (k4 + 1)) := by
        rw [ups_snoc hbv, if_pos ht15]
      rw [hsn] at F S
      exact ⟨_, (by omega), k4 + 1, A17, c18, rfl, (by omega), F.sub ⟨by kernel_rfl, by kernel_rfl, by kernel_rfl, by kernel_rfl, trivial⟩, (S.pick [0, 1, 2] (by decide))⟩
     ·
      skip
      refine l_do F rfl rfl (op_pure F (v0 := .bool (decide ((bv : Int) ≥ (0 : Int)))) (v := .bool false) (by kernel_rfl) (geqF ht15) fun a F => ?_)
      refine l_then ?_
      refine c_f F rfl ?_
      refine wp_skip ?_
      refine inb_n ?_
      refine then_n ?_
      refine wp_region_list ?_
      refine l_do F rfl rfl (op_pure F (v0 := .int .i64 (IntKind.wrap .i64 ((k4 : Nat) + 1))) (v := .int .i64 (k4 + 1 : Nat)) (by kernel_rfl) (wrn_i64 (by omega) (by omega) (by omega)) fun a F => ?_)
      refine l_pure 1 (fun L => (46, .int .i64 (k4 + 1 : Nat)) :: L) F (by kernel_rfl) fun a F => ?_
      refine l_then ?_
      have hsn : (upsTo by_ k4) = (upsTo by_ (k4 + 1)) := by
        rw [ups_snoc hbv, if_neg ht15]; simp
      rw [hsn] at F S
      exact ⟨_, (by omega), k4 + 1, Ap, cp, rfl, (by omega), F.sub ⟨by kernel_rfl, by kernel_rfl, by kernel_rfl, by kernel_rfl, trivial⟩, S⟩
    ·
     skip
     have hk4 : k4 = by_.length := by omega
     refine l_do F rfl rfl (op_pure F (v0 := .bool (decide (((k4 : Nat) : Int) < ((by_.length : Nat) : Int)))) (v := .bool false) (by kernel_rfl) (lssF ht14) fun a F => ?_)
     refine l_then ?_
     refine wp_seq ?_
     refine c_f F rfl ?_
     refine wp_exit ?_
     refine then_x ?_
     refine then_x ?_
     refine inb_x ?_
     refine then_n ?_
     refine s_reg ?_
     refine l_pure 3 (fun L => (7, .int .i64 0) :: (6, .slice Ap ((upsTo by_ k4).length) cp) :: (58, .slice Ap ((upsTo by_ k4).length) cp) :: L) F (by kernel_rfl) fun a F => ?_
     refine l_then ?_
     refine wp_ret ?_
     exact fin F [.tmp 6, .tmp 7] [.slice Ap ((upsTo by_ k4).length) cp, .int .i64 0] rfl ⟨by kernel_rfl, by kernel_rfl, trivial⟩ (.tuple #[.slice Ap ((upsTo by_ k4).length) cp, .int .i64 0]) rfl ⟨Ap, cp, upsTo by_ k4, by rw [hr], .inr ⟨hr, fr, t, y2, sm, by_, rfl, rfl, hflow, hrch, reach_again hflow hb1 hb2 hrch, by rw [hk4]⟩, S.pick [0, 2] (by decide)⟩
 ·
  skip
  have hr := ht2
  refine l_do F rfl rfl (op_pure F (v0 := .bool ((frightP x from_ to : Int) != (0 : Int))) (v := .bool true) (by kernel_rfl) (neqT ht2) fun a F => ?_)
  refine l_then ?_
  refine c_t F rfl ?_
  refine s_reg ?_
  refine l_pure 3 (fun L => (7, .int .i64 (frightP x from_ to)) :: (6, .slice none 0 0) :: (21, .int .i64 (frightP x from_ to)) :: L) F (by kernel_rfl) fun a F => ?_
  refine l_then ?_
  refine wp_ret ?_
  refine then_r (?_)
  exact fin F [.tmp 6, .tmp 7] [.slice none 0 0, .int .i64 (frightP x from_ to)] rfl ⟨by kernel_rfl, by kernel_rfl, trivial⟩ (.tuple #[.slice none 0 0, .int .i64 (frightP x from_ to)]) rfl ⟨none, 0, [], rfl, .inl ⟨hr, rfl⟩, (S.nilRow 3 1).pick [0, 2] (by decide)⟩
end Go.Proofs.Ytcfpbemoocegfaa
