/- Walk over the law IdealPlays. -/
import Derived.Test.YtecgpkjigbhneaaIdlY
import Derived.Test.YtecgpkjigbhneaaIdlZ
namespace Go.Proofs.Ytecgpkjigbhneaa
set_option linter.unusedVariables false
set_option linter.unusedSimpArgs false
set_option linter.unnecessarySimpa false
open Go Go.RowKit

theorem does24_same {I J : Idl} (h : I = J) (w : World) (G : Nat → Prop) (bx bm : Nat) (okI : IOk I) (okJ : IOk J) (hpn : J.pays.length ≤ 900) (hS : Sat w w [idA bx I, refA bm J, rest w G]) (o : OpV) (ho : StOk w o) (gE : InG G o.Ar (o.E.flatMap iC_i64)) (gA : InG G o.As (o.A.flatMap iC_u64)) : Calls Try.prog 16 #[.pointer (some ⟨bx, 0, none⟩), .pointer (some ⟨bm, 0, none⟩), .agg #[.int .i64 o.kind, .int .i64 o.a, .int .i64 o.b, .int .u64 o.n, .int .u64 o.m, .int .u64 o.id, .slice o.Ar o.E.length o.cr, .slice o.As o.A.length o.cs, .bool o.y]] w fun e w' => e = .returned (.bool true) ∧ Sat w w' [idA bx (stepP I o), refA bm (stepP J o), rest w G] :=
  (does24_any w G bx bm I J okI okJ hpn hS o ho gE gA).mono fun e w' hh => by
    obtain ⟨r, h1, h2, h3⟩ := hh
    rw [h2 h] at h1
    exact ⟨h1, h3⟩
set_option maxRecDepth 100000 in
set_option maxHeartbeats 4000000 in
theorem plays24_law (w : World) (Ax : Option Addr) (cx : Nat) (X : List Int) (hX : Recs 1 iC_u64 w Ax cx X) (hXu : ∀ a ∈ X, U64 a) (Ao : Option Addr) (co : Nat) (O : List OpV) (hO : Recs 9 opC w Ao co O) (hOk : ∀ o ∈ O, StOk w o) : Calls Try.prog 5 #[.slice Ax X.length cx, .slice Ao O.length co] w fun e w' => e = .returned (.bool true) ∧ Below w.heap.size w w' := by
 refine enter 77 Try.func5 rfl rfl rfl fun a F => ?_
 have hnew : newE X = 0 ∨ newE X ≠ 0 := by omega
 have S := Sat.pushRest w
 have hol := hO.len
 refine s_reg ?_
 refine l_pure 1 (fun L => (4, .bool false) :: L) F (by kernel_rfl) fun a F => ?_
 refine l_then ?_
 refine s_reg ?_
 refine l_pure 1 (fun L => (13, .slice Ax X.length cx) :: L) F (by kernel_rfl) fun a F => ?_
 rcases hnew with hz | hne
 ·
  skip
  have ok0 := new_ok hXu hz
  refine l_do F rfl rfl (op_fn F (by kernel_rfl) (new24_ok _ Ax cx X (hX.mono (src_rest S (i := 0) rfl hX.src (src_lt hX.src))) hXu hz) ?_)
  rintro e z ⟨bx, rfl, g⟩
  have S := S.pushThings g
  refine ⟨_, rfl, ?_⟩
  intro a F
  refine l_pure 5 (fun L => (6, .int .i64 0) :: (5, .pointer (some ⟨bx, 0, none⟩)) :: (16, .int .i64 0) :: (15, .pointer (some ⟨bx, 0, none⟩)) :: (12, .tuple #[.pointer (some ⟨bx, 0, none⟩), .int .i64 0]) :: L) F (by kernel_rfl) fun a F => ?_
  refine l_then ?_
  refine s_reg ?_
  refine l_pure 1 (fun L => (18, .slice Ax X.length cx) :: L) F (by kernel_rfl) fun a F => ?_
  refine l_do F rfl rfl (op_fn F (by kernel_rfl) (rnew24_ok _ Ax cx X (hX.mono (src_rest S (i := 0) rfl hX.src (src_lt hX.src))) hXu hz) ?_)
  rintro e z ⟨bm, rfl, g⟩
  have S := S.pushThings g
  refine ⟨_, rfl, ?_⟩
  intro a F
  refine l_pure 5 (fun L => (8, .int .i64 0) :: (7, .pointer (some ⟨bm, 0, none⟩)) :: (21, .int .i64 0) :: (20, .pointer (some ⟨bm, 0, none⟩)) :: (17, .tuple #[.pointer (some ⟨bm, 0, none⟩), .int .i64 0]) :: L) F (by kernel_rfl) fun a F => ?_
  refine l_then ?_
  refine wp_seq ?_
  refine s_reg ?_
  refine l_pure 10 (fun L => (31, .bool false) :: (30, .bool false) :: (29, .bool false) :: (28, .pointer (some ⟨bm, 0, none⟩)) :: (27, .bool false) :: (26, .pointer (some ⟨bx, 0, none⟩)) :: (25, .bool false) :: (24, .bool false) :: (23, .int .i64 0) :: (22, .int .i64 0) :: L) F (by kernel_rfl) fun a F => ?_
  refine l_then ?_
  refine c_f F rfl ?_
  refine wp_skip ?_
  refine then_n ?_
  refine wp_seq ?_
  refine s_reg ?_
  refine l_pure 2 (fun L => (33, .bool false) :: (32, .pointer (some ⟨bm, 0, none⟩)) :: L) F (by kernel_rfl) fun a F => ?_
  refine l_then ?_
  refine c_f F rfl ?_
  refine wp_skip ?_
  refine then_n ?_
  refine s_reg ?_
  refine l_pure 1 (fun L => (35, .pointer (some ⟨bx, 0, none⟩)) :: L) F (by kernel_rfl) fun a F => ?_
  obtain ⟨G9, g9, hin9, hlt9, k9⟩ := S.frameB [1] (by decide) rfl
  refine l_do F rfl rfl (op_fn F (by kernel_rfl) (all24_any _ G9 bx (newI X) ok0 g9) ?_)
  rintro e z9 ⟨rfl, g⟩
  have S : Sat w z9 [rest w (· < w.heap.size), idA bx (newI X), refA bm (newI X)] := k9 z9 [idA bx (newI X)] rfl g
  clear g g9 k9 hin9 hlt9
  refine ⟨_, rfl, ?_⟩
  intro a F
  refine l_pure 1 (fun L => (9, .int .u64 (totI (newI X))) :: L) F (by kernel_rfl) fun a F => ?_
  refine l_then ?_
  refine wp_seq ?_
  refine s_reg ?_
  refine l_pure 3 (fun L => (39, .int .i64 0) :: (38, .int .i64 (O.length : Nat)) :: (37, .slice Ao O.length co) :: L) F (by kernel_rfl) fun a F => ?_
  refine l_then ?_
  refine wp_block ?_
  refine wp_loop_m (fun m a z => ∃ (i : Nat) (I : Idl), m = O.length - i ∧ (i ≤ O.length) ∧ (IOk I) ∧ (I.pays.length ≤ i) ∧ (totI I = totI (newI X)) ∧ Fr a 77 [(5, .pointer (some ⟨bx, 0, none⟩)), (7, .pointer (some ⟨bm, 0, none⟩)), (9, .int .u64 (totI (newI X))), (37, .slice Ao O.length co), (38, .int .i64 (O.length : Nat)), (39, .int .i64 (i : Nat))] ∧ Sat w z [rest w (· < w.heap.size), idA bx I, refA bm I]) _ ⟨0, (newI X), rfl, Nat.zero_le _, ok0, (Nat.le_refl 0), rfl, F.sub ⟨by kernel_rfl, by kernel_rfl, by kernel_rfl, by kernel_rfl, by kernel_rfl, by kernel_rfl, trivial⟩, S⟩ ?_
  rintro m a z ⟨i, I, hm, hf1, hf2, hf3, hf4, F, S⟩
  have hok := hf2
  have hpl := hf3
  have hti := hf4
  refine s_reg ?_
  by_cases ht5 : ((i : Nat) : Int) < ((O.length : Nat) : Int)
  ·
   skip
   obtain ⟨o, ho⟩ : ∃ o, O[i]? = some o := ⟨_, List.getElem?_eq_getElem (by omega)⟩
   have hoo := hOk o (List.mem_of_getElem? ho)
   refine l_do F rfl rfl (op_pure F (v0 := .bool (decide (((i : Nat) : Int) < ((O.length : Nat) : Int)))) (v := .bool true) (by kernel_rfl) (lssT ht5) fun a F => ?_)
   refine l_then ?_
   refine wp_seq ?_
   refine c_t F rfl ?_
   refine wp_skip ?_
   refine then_n ?_
   refine wp_seq ?_
   refine wp_block ?_
   refine s_reg ?_
   refine l_pure 1 (fun L => (41, .int .i64 (i : Nat)) :: L) F (by kernel_rfl) fun a F => ?_
   refine l_do F rfl rfl (op_index _ 40 _ _ Ao O.length co i 9 .i64 F rfl (by kernel_rfl) (by kernel_rfl) (by kernel_rfl) (by kernel_rfl) (get_lt ho) (recs_some hO (m := i) (get_lt ho)) (fun a F => ?_))
   refine l_do F rfl rfl (op_loadK _ _ Ao (i * 9) [.int .i64 o.kind, .int .i64 o.a, .int .i64 o.b, .int .u64 o.n, .int .u64 o.m, .int .u64 o.id, .slice o.Ar o.E.length o.cr, .slice o.As o.A.length o.cs, .bool o.y] F rfl (by kernel_rfl) (by kernel_rfl) (by kernel_rfl) (by simp) (cOldK0 S 0 opC_len hO rfl ho (by kernel_rfl)) (fun a F => ?_))
   refine l_do F rfl rfl (op_alloc S _ (.agg #[.int .i64 0, .int .i64 0, .int .i64 0, .int .u64 0, .int .u64 0, .int .u64 0, .slice none 0 0, .slice none 0 0, .bool false]) rfl (by kernel_rfl) fun b6 z S a F => ?_)
   refine l_pure 1 (fun L => (10, .int .i64 (i : Nat)) :: L) F (by kernel_rfl) fun a F => ?_
   refine l_do F rfl rfl (op_storeB S 3 _ _ _ b6 0 (.agg #[.int .i64 o.kind, .int .i64 o.a, .int .i64 o.b, .int .u64 o.n, .int .u64 o.m, .int .u64 o.id, .slice o.Ar o.E.length o.cr, .slice o.As o.A.length o.cs, .bool o.y]) F rfl rfl (by kernel_rfl) (by kernel_rfl) (by kernel_rfl) (by kernel_rfl) (by kernel_rfl) fun z S a F => ?_)
   refine l_then ?_
   refine wp_seq ?_
   refine s_reg ?_
   refine l_pure 1 (fun L => (44, .int .i64 (i : Nat)) :: L) F (by kernel_rfl) fun a F => ?_
   by_cases ht7 : (60 : Int) ≤ ((i : Nat) : Int)
   ·
    skip
    refine l_do F rfl rfl (op_pure F (v0 := .bool (decide (((i : Nat) : Int) ≥ (60 : Int)))) (v := .bool true) (by kernel_rfl) (geqT ht7) fun a F => ?_)
    refine l_pure 12 (fun L => (57, .bool true) :: (56, undef) :: (55, undef) :: (54, undef) :: (53, undef) :: (52, .bool true) :: (51, .bool true) :: (50, undef) :: (49, undef) :: (48, undef) :: (47, undef) :: (46, .bool true) :: L) F (by kernel_rfl) fun a F => ?_
    refine l_then ?_
    refine c_t F rfl ?_
    refine wp_exit ?_
    refine then_x ?_
    refine inb_xo (by kernel_rfl) ?_
    refine then_x ?_
    refine then_x ?_
    refine inb_x ?_
    refine then_n ?_
    refine s_reg ?_
    refine l_do F rfl rfl (op_fn F (by kernel_rfl) (awake24_any _) ?_)
    rintro e z ⟨rfl, hb⟩
    have S := S.grow hb
    refine ⟨_, rfl, ?_⟩
    intro a F
    refine l_pure 1 (fun L => (4, .bool true) :: L) F (by kernel_rfl) fun a F => ?_
    refine l_then ?_
    refine wp_ret ?_
    exact fin F [.tmp 4] [.bool true] rfl ⟨by kernel_rfl, trivial⟩ (.bool true) rfl ⟨rfl, S.below (i := 0) rfl⟩
   ·
    skip
    refine l_do F rfl rfl (op_pure F (v0 := .bool (decide (((i : Nat) : Int) ≥ (60 : Int)))) (v := .bool false) (by kernel_rfl) (geqF ht7) fun a F => ?_)
    refine l_pure 2 (fun L => (47, .pointer (some ⟨b6, 6, none⟩)) :: (46, .bool false) :: L) F (by kernel_rfl) fun a F => ?_
    refine l_do F rfl rfl (op_load _ _ (some ⟨b6, 0, none⟩) 6 (.slice o.Ar o.E.length o.cr) F rfl (by kernel_rfl) (by kernel_rfl) (cBox S 3 rfl (j := 6) rfl) (fun a F => ?_))
    refine l_pure 1 (fun L => (49, .int .i64 (o.E.length : Nat)) :: L) F (by kernel_rfl) fun a F => ?_
    by_cases ht8 : (20 : Int) < ((o.E.length : Nat) : Int)
    ·
     skip
     refine l_do F rfl rfl (op_pure F (v0 := .bool (decide (((o.E.length : Nat) : Int) > (20 : Int)))) (v := .bool true) (by kernel_rfl) (gtrT ht8) fun a F => ?_)
     refine l_pure 7 (fun L => (57, .bool true) :: (56, undef) :: (55, undef) :: (54, undef) :: (53, undef) :: (52, .bool true) :: (51, .bool true) :: L) F (by kernel_rfl) fun a F => ?_
     refine l_then ?_
     refine c_t F rfl ?_
     refine wp_exit ?_
     refine then_x ?_
     refine inb_xo (by kernel_rfl) ?_
     refine then_x ?_
     refine then_x ?_
     refine inb_x ?_
     refine then_n ?_
     refine s_reg ?_
     refine l_do F rfl rfl (op_fn F (by kernel_rfl) (awake24_any _) ?_)
     rintro e z ⟨rfl, hb⟩
     have S := S.grow hb
     refine ⟨_, rfl, ?_⟩
     intro a F
     refine l_pure 1 (fun L => (4, .bool true) :: L) F (by kernel_rfl) fun a F => ?_
     refine l_then ?_
     refine wp_ret ?_
     exact fin F [.tmp 4] [.bool true] rfl ⟨by kernel_rfl, trivial⟩ (.bool true) rfl ⟨rfl, S.below (i := 0) rfl⟩
    ·
     skip
     refine l_do F rfl rfl (op_pure F (v0 := .bool (decide (((o.E.length : Nat) : Int) > (20 : Int)))) (v := .bool false) (by kernel_rfl) (gtrF ht8) fun a F => ?_)
     refine l_pure 3 (fun L => (53, .pointer (some ⟨b6, 7, none⟩)) :: (52, .bool false) :: (51, .bool false) :: L) F (by kernel_rfl) fun a F => ?_
     refine l_do F rfl rfl (op_load _ _ (some ⟨b6, 0, none⟩) 7 (.slice o.As o.A.length o.cs) F rfl (by kernel_rfl) (by kernel_rfl) (cBox S 3 rfl (j := 7) rfl) (fun a F => ?_))
     refine l_pure 1 (fun L => (55, .int .i64 (o.A.length : Nat)) :: L) F (by kernel_rfl) fun a F => ?_
     by_cases ht9 : (20 : Int) < ((o.A.length : Nat) : Int)
     ·
      skip
      refine l_do F rfl rfl (op_pure F (v0 := .bool (decide (((o.A.length : Nat) : Int) > (20 : Int)))) (v := .bool true) (by kernel_rfl) (gtrT ht9) fun a F => ?_)
      refine l_pure 1 (fun L => (57, .bool true) :: L) F (by kernel_rfl) fun a F => ?_
      refine l_then ?_
      refine c_t F rfl ?_
      refine wp_exit ?_
      refine then_x ?_
      refine inb_xo (by kernel_rfl) ?_
      refine then_x ?_
      refine then_x ?_
      refine inb_x ?_
      refine then_n ?_
      refine s_reg ?_
      refine l_do F rfl rfl (op_fn F (by kernel_rfl) (awake24_any _) ?_)
      rintro e z ⟨rfl, hb⟩
      have S := S.grow hb
      refine ⟨_, rfl, ?_⟩
      intro a F
      refine l_pure 1 (fun L => (4, .bool true) :: L) F (by kernel_rfl) fun a F => ?_
      refine l_then ?_
      refine wp_ret ?_
      exact fin F [.tmp 4] [.bool true] rfl ⟨by kernel_rfl, trivial⟩ (.bool true) rfl ⟨rfl, S.below (i := 0) rfl⟩
     ·
      skip
      refine l_do F rfl rfl (op_pure F (v0 := .bool (decide (((o.A.length : Nat) : Int) > (20 : Int)))) (v := .bool false) (by kernel_rfl) (gtrF ht9) fun a F => ?_)
      refine l_pure 1 (fun L => (57, .bool false) :: L) F (by kernel_rfl) fun a F => ?_
      refine l_then ?_
      refine c_f F rfl ?_
      refine wp_skip ?_
      refine then_n ?_
      refine s_reg ?_
      refine l_pure 2 (fun L => (59, .pointer (some ⟨bm, 0, none⟩)) :: (58, .pointer (some ⟨bx, 0, none⟩)) :: L) F (by kernel_rfl) fun a F => ?_
      refine l_do F rfl rfl (op_loadK _ _ (some ⟨b6, 0, none⟩) 0 [.int .i64 o.kind, .int .i64 o.a, .int .i64 o.b, .int .u64 o.n, .int .u64 o.m, .int .u64 o.id, .slice o.Ar o.E.length o.cr, .slice o.As o.A.length o.cs, .bool o.y] F rfl (by kernel_rfl) (by kernel_rfl) (by kernel_rfl) (by simp) (cBoxK S 3 rfl 0 (by kernel_rfl)) (fun a F => ?_))
      obtain ⟨G9, g9, hin9, hlt9, k9⟩ := S.frameB [1, 2] (by decide) rfl
      refine l_do F rfl rfl (op_fn F (by kernel_rfl) (does24_same (I := I) rfl _ G9 bx bm hok hok (by omega) g9 o ⟨hoo.e.mono (src_rest S (i := 0) rfl hoo.e.src (src_lt hoo.e.src)), hoo.a.mono (src_rest S (i := 0) rfl hoo.a.src (src_lt hoo.a.src)), hoo.n, hoo.m, hoo.u⟩ (InG.rest hin9 0 (by decide) rfl (InG.all hoo.e.src)) (InG.rest hin9 0 (by decide) rfl (InG.all hoo.a.src))) ?_)
      rintro e z9 ⟨rfl, g⟩
      have S : Sat w z9 [rest w (· < w.heap.size), idA bx (stepP I o), refA bm (stepP I o), box b6 40 [.int .i64 o.kind, .int .i64 o.a, .int .i64 o.b, .int .u64 o.n, .int .u64 o.m, .int .u64 o.id, .slice o.Ar o.E.length o.cr, .slice o.As o.A.length o.cs, .bool o.y]] := k9 z9 [idA bx (stepP I o), refA bm (stepP I o)] rfl g
      clear g g9 k9 hin9 hlt9
      have hkp := step_keeps hok hoo
      have hpy := step_pays I o
      refine ⟨_, rfl, ?_⟩
      intro a F
      refine l_pure 4 (fun L => (65, .pointer (some ⟨bm, 0, none⟩)) :: (64, .pointer (some ⟨bx, 0, none⟩)) :: (63, .bool false) :: (62, .bool false) :: L) F (by kernel_rfl) fun a F => ?_
      obtain ⟨G9, g9, hin9, hlt9, k9⟩ := S.frameB [1, 2] (by decide) rfl
      refine l_do F rfl rfl (op_fn F (by kernel_rfl) (is24_any _ G9 bx bm (stepP I o) hkp.1 (by omega) g9) ?_)
      rintro e z9 ⟨rfl, g⟩
      have S : Sat w z9 [rest w (· < w.heap.size), idA bx (stepP I o), refA bm (stepP I o), box b6 40 [.int .i64 o.kind, .int .i64 o.a, .int .i64 o.b, .int .u64 o.n, .int .u64 o.m, .int .u64 o.id, .slice o.Ar o.E.length o.cr, .slice o.As o.A.length o.cs, .bool o.y]] := k9 z9 [idA bx (stepP I o), refA bm (stepP I o)] rfl g
      clear g g9 k9 hin9 hlt9
      refine ⟨_, rfl, ?_⟩
      intro a F
      refine l_pure 4 (fun L => (70, .pointer (some ⟨bx, 0, none⟩)) :: (69, .bool false) :: (68, .bool false) :: (67, .bool false) :: L) F (by kernel_rfl) fun a F => ?_
      obtain ⟨G9, g9, hin9, hlt9, k9⟩ := S.frameB [1] (by decide) rfl
      refine l_do F rfl rfl (op_fn F (by kernel_rfl) (all24_any _ G9 bx (stepP I o) hkp.1 g9) ?_)
      rintro e z9 ⟨rfl, g⟩
      have S : Sat w z9 [rest w (· < w.heap.size), idA bx (stepP I o), refA bm (stepP I o), box b6 40 [.int .i64 o.kind, .int .i64 o.a, .int .i64 o.b, .int .u64 o.n, .int .u64 o.m, .int .u64 o.id, .slice o.Ar o.E.length o.cr, .slice o.As o.A.length o.cs, .bool o.y]] := k9 z9 [idA bx (stepP I o)] rfl g
      clear g g9 k9 hin9 hlt9
      refine ⟨_, rfl, ?_⟩
      intro a F
      refine l_pure 1 (fun L => (72, .int .u64 (totI (newI X))) :: L) F (by kernel_rfl) fun a F => ?_
      refine l_do F rfl rfl (op_pure F (v0 := .bool ((totI (stepP I o) : Int) != (totI (newI X) : Int))) (v := .bool false) (by kernel_rfl) (neqF (hkp.2.1.trans hti)) fun a F => ?_)
      refine l_pure 1 (fun L => (74, .bool false) :: L) F (by kernel_rfl) fun a F => ?_
      refine l_then ?_
      refine c_f F rfl ?_
      refine wp_skip ?_
      refine inb_n ?_
      refine then_n ?_
      refine wp_region_list ?_
      refine l_do F rfl rfl (op_pure F (v0 := .int .i64 (IntKind.wrap .i64 ((i : Nat) + 1))) (v := .int .i64 (i + 1 : Nat)) (by kernel_rfl) (wrn_i64 (by omega) (by omega) (by omega)) fun a F => ?_)
      refine l_pure 1 (fun L => (39, .int .i64 (i + 1 : Nat)) :: L) F (by kernel_rfl) fun a F => ?_
      refine l_then ?_
      exact ⟨_, (by omega), i + 1, (stepP I o), rfl, (by omega), hkp.1, (by omega), (hkp.2.1.trans hti), F.sub ⟨by kernel_rfl, by kernel_rfl, by kernel_rfl, by kernel_rfl, by kernel_rfl, by kernel_rfl, trivial⟩, (S.pick [0, 1, 2] (by decide))⟩
  ·
   skip
   refine l_do F rfl rfl (op_pure F (v0 := .bool (decide (((i : Nat) : Int) < ((O.length : Nat) : Int)))) (v := .bool false) (by kernel_rfl) (lssF ht5) fun a F => ?_)
   refine l_then ?_
   refine wp_seq ?_
   refine c_f F rfl ?_
   refine wp_exit ?_
   refine then_x ?_
   refine then_x ?_
   refine inb_x ?_
   refine then_n ?_
   refine s_reg ?_
   refine l_do F rfl rfl (op_fn F (by kernel_rfl) (awake24_any _) ?_)
   rintro e z ⟨rfl, hb⟩
   have S := S.grow hb
   refine ⟨_, rfl, ?_⟩
   intro a F
   refine l_pure 1 (fun L => (4, .bool true) :: L) F (by kernel_rfl) fun a F => ?_
   refine l_then ?_
   refine wp_ret ?_
   exact fin F [.tmp 4] [.bool true] rfl ⟨by kernel_rfl, trivial⟩ (.bool true) rfl ⟨rfl, S.below (i := 0) rfl⟩
 ·
  skip
  refine l_do F rfl rfl (op_fn F (by kernel_rfl) (new24_bad _ Ax cx X (hX.mono (src_rest S (i := 0) rfl hX.src (src_lt hX.src))) hXu hne) ?_)
  rintro e z ⟨rfl, hb⟩
  have S := S.grow hb
  refine ⟨_, rfl, ?_⟩
  intro a F
  refine l_pure 5 (fun L => (6, .int .i64 (newE X)) :: (5, .pointer none) :: (16, .int .i64 (newE X)) :: (15, .pointer none) :: (12, .tuple #[.pointer none, .int .i64 (newE X)]) :: L) F (by kernel_rfl) fun a F => ?_
  refine l_then ?_
  refine s_reg ?_
  refine l_pure 1 (fun L => (18, .slice Ax X.length cx) :: L) F (by kernel_rfl) fun a F => ?_
  refine l_do F rfl rfl (op_fn F (by kernel_rfl) (rnew24_bad _ Ax cx X (hX.mono (src_rest S (i := 0) rfl hX.src (src_lt hX.src))) hXu hne) ?_)
  rintro e z ⟨rfl, hb⟩
  have S := S.grow hb
  refine ⟨_, rfl, ?_⟩
  intro a F
  refine l_pure 5 (fun L => (8, .int .i64 (newE X)) :: (7, .pointer none) :: (21, .int .i64 (newE X)) :: (20, .pointer none) :: (17, .tuple #[.pointer none, .int .i64 (newE X)]) :: L) F (by kernel_rfl) fun a F => ?_
  refine l_then ?_
  refine wp_seq ?_
  refine s_reg ?_
  refine l_pure 2 (fun L => (23, .int .i64 (newE X)) :: (22, .int .i64 (newE X)) :: L) F (by kernel_rfl) fun a F => ?_
  refine l_do F rfl rfl (op_pure F (v0 := .bool ((newE X : Int) != (newE X : Int))) (v := .bool false) (by kernel_rfl) (neqF rfl) fun a F => ?_)
  refine l_pure 7 (fun L => (31, .bool false) :: (30, .bool false) :: (29, .bool true) :: (28, .pointer none) :: (27, .bool true) :: (26, .pointer none) :: (25, .bool false) :: L) F (by kernel_rfl) fun a F => ?_
  refine l_then ?_
  refine c_f F rfl ?_
  refine wp_skip ?_
  refine then_n ?_
  refine wp_seq ?_
  refine s_reg ?_
  refine l_pure 2 (fun L => (33, .bool true) :: (32, .pointer none) :: L) F (by kernel_rfl) fun a F => ?_
  refine l_then ?_
  refine c_t F rfl ?_
  refine s_reg ?_
  refine l_do F rfl rfl (op_fn F (by kernel_rfl) (awake24_any _) ?_)
  rintro e z ⟨rfl, hb⟩
  have S := S.grow hb
  refine ⟨_, rfl, ?_⟩
  intro a F
  refine l_pure 1 (fun L => (4, .bool true) :: L) F (by kernel_rfl) fun a F => ?_
  refine l_then ?_
  refine wp_ret ?_
  refine then_r (?_)
  exact fin F [.tmp 4] [.bool true] rfl ⟨by kernel_rfl, trivial⟩ (.bool true) rfl ⟨rfl, S.below (i := 0) rfl⟩
end Go.Proofs.Ytecgpkjigbhneaa
