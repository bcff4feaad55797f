/- Walk over the law IdealBacks. -/
import Derived.Test.YtecgpkjigbhneaaIdlY
import Derived.Test.YtecgpkjigbhneaaIdlZ
import Derived.Test.YtecgpkjigbhneaaIdlB
namespace Go.Proofs.Ytecgpkjigbhneaa
set_option linter.unusedVariables false
set_option linter.unusedSimpArgs false
set_option linter.unnecessarySimpa false
open Go Go.RowKit

set_option maxRecDepth 100000 in
set_option maxHeartbeats 4000000 in
theorem backs24_law (w : World) (Ax : Option Addr) (cx : Nat) (X : List Int) (hX : Recs 1 iC_u64 w Ax cx X) (hXu : ∀ a ∈ X, U64 a) (Ao : Option Addr) (co : Nat) (O : List OpV) (hO : Recs 9 opC w Ao co O) (hOk : ∀ o ∈ O, StOk w o) (o : OpV) (hoP : StOk w o) : Calls Try.prog 4 #[.slice Ax X.length cx, .slice Ao O.length co, .agg #[.int .i64 o.kind, .int .i64 o.a, .int .i64 o.b, .int .u64 o.n, .int .u64 o.m, .int .u64 o.id, .slice o.Ar o.E.length o.cr, .slice o.As o.A.length o.cs, .bool o.y]] w fun e w' => e = .returned (.bool true) ∧ Below w.heap.size w w' := by
 refine enter 147 Try.func4 rfl rfl rfl fun a F => ?_
 have hnew : newE X = 0 ∨ newE X ≠ 0 := by omega
 have S := Sat.pushRest w
 have hol := hO.len
 refine s_reg ?_
 refine l_do F rfl rfl (op_box S _ _ (.agg #[.int .i64 o.kind, .int .i64 o.a, .int .i64 o.b, .int .u64 o.n, .int .u64 o.m, .int .u64 o.id, .slice o.Ar o.E.length o.cr, .slice o.As o.A.length o.cs, .bool o.y]) F rfl (by kernel_rfl) fun b1 z S a F => ?_)
 refine l_pure 1 (fun L => (6, .bool false) :: L) F (by kernel_rfl) fun a F => ?_
 refine l_then ?_
 refine s_reg ?_
 refine l_pure 1 (fun L => (20, .slice Ax X.length cx) :: L) F (by kernel_rfl) fun a F => ?_
 rcases hnew with hz | hne
 ·
  skip
  have ok0 := new_ok hXu hz
  have hX8 := ok0.hl
  have hX8 : X.length ≤ 8 := hX8
  refine l_do F rfl rfl (op_fn F (by kernel_rfl) (new24_ok _ Ax cx X (hX.mono (src_rest S (i := 0) rfl hX.src (src_lt hX.src))) hXu hz) ?_)
  rintro e z ⟨bx, rfl, g⟩
  have S := S.pushThings g
  refine ⟨_, rfl, ?_⟩
  intro a F
  refine l_pure 5 (fun L => (8, .int .i64 0) :: (7, .pointer (some ⟨bx, 0, none⟩)) :: (23, .int .i64 0) :: (22, .pointer (some ⟨bx, 0, none⟩)) :: (19, .tuple #[.pointer (some ⟨bx, 0, none⟩), .int .i64 0]) :: L) F (by kernel_rfl) fun a F => ?_
  refine l_then ?_
  refine s_reg ?_
  refine l_pure 1 (fun L => (25, .slice Ax X.length cx) :: L) F (by kernel_rfl) fun a F => ?_
  refine l_do F rfl rfl (op_fn F (by kernel_rfl) (new24_ok _ Ax cx X (hX.mono (src_rest S (i := 0) rfl hX.src (src_lt hX.src))) hXu hz) ?_)
  rintro e z ⟨by_, rfl, g⟩
  have S := S.pushThings g
  refine ⟨_, rfl, ?_⟩
  intro a F
  refine l_pure 5 (fun L => (10, .int .i64 0) :: (9, .pointer (some ⟨by_, 0, none⟩)) :: (28, .int .i64 0) :: (27, .pointer (some ⟨by_, 0, none⟩)) :: (24, .tuple #[.pointer (some ⟨by_, 0, none⟩), .int .i64 0]) :: L) F (by kernel_rfl) fun a F => ?_
  refine l_then ?_
  refine wp_seq ?_
  refine s_reg ?_
  refine l_pure 8 (fun L => (36, .pointer (some ⟨b1, 6, none⟩)) :: (35, .bool false) :: (34, .bool false) :: (33, .bool false) :: (32, .int .i64 0) :: (31, .bool false) :: (30, .bool false) :: (29, .int .i64 0) :: L) F (by kernel_rfl) fun a F => ?_
  refine l_do F rfl rfl (op_load _ _ (some ⟨b1, 0, none⟩) 6 (.slice o.Ar o.E.length o.cr) F rfl (by kernel_rfl) (by kernel_rfl) (cBox S 1 rfl (j := 6) rfl) (fun a F => ?_))
  refine l_pure 1 (fun L => (38, .int .i64 (o.E.length : Nat)) :: L) F (by kernel_rfl) fun a F => ?_
  by_cases ht2 : (20 : Int) < ((o.E.length : Nat) : Int)
  ·
   skip
   refine l_do F rfl rfl (op_pure F (v0 := .bool (decide (((o.E.length : Nat) : Int) > (20 : Int)))) (v := .bool true) (by kernel_rfl) (gtrT ht2) fun a F => ?_)
   refine l_pure 7 (fun L => (46, .bool true) :: (45, undef) :: (44, undef) :: (43, undef) :: (42, undef) :: (41, .bool true) :: (40, .bool true) :: L) F (by kernel_rfl) fun a F => ?_
   refine l_then ?_
   refine c_t F rfl ?_
   refine s_reg ?_
   refine l_do F rfl rfl (op_fn F (by kernel_rfl) (awake24_any _) ?_)
   rintro e z ⟨rfl, hb⟩
   have S := S.grow hb
   refine ⟨_, rfl, ?_⟩
   intro a F
   refine l_pure 1 (fun L => (6, .bool true) :: L) F (by kernel_rfl) fun a F => ?_
   refine l_then ?_
   refine wp_ret ?_
   refine then_r (?_)
   exact fin F [.tmp 6] [.bool true] rfl ⟨by kernel_rfl, trivial⟩ (.bool true) rfl ⟨rfl, S.below (i := 0) rfl⟩
  ·
   skip
   refine l_do F rfl rfl (op_pure F (v0 := .bool (decide (((o.E.length : Nat) : Int) > (20 : Int)))) (v := .bool false) (by kernel_rfl) (gtrF ht2) fun a F => ?_)
   refine l_pure 3 (fun L => (42, .pointer (some ⟨b1, 7, none⟩)) :: (41, .bool false) :: (40, .bool false) :: L) F (by kernel_rfl) fun a F => ?_
   refine l_do F rfl rfl (op_load _ _ (some ⟨b1, 0, none⟩) 7 (.slice o.As o.A.length o.cs) F rfl (by kernel_rfl) (by kernel_rfl) (cBox S 1 rfl (j := 7) rfl) (fun a F => ?_))
   refine l_pure 1 (fun L => (44, .int .i64 (o.A.length : Nat)) :: L) F (by kernel_rfl) fun a F => ?_
   by_cases ht3 : (20 : Int) < ((o.A.length : Nat) : Int)
   ·
    skip
    refine l_do F rfl rfl (op_pure F (v0 := .bool (decide (((o.A.length : Nat) : Int) > (20 : Int)))) (v := .bool true) (by kernel_rfl) (gtrT ht3) fun a F => ?_)
    refine l_pure 1 (fun L => (46, .bool true) :: L) F (by kernel_rfl) fun a F => ?_
    refine l_then ?_
    refine c_t F rfl ?_
    refine s_reg ?_
    refine l_do F rfl rfl (op_fn F (by kernel_rfl) (awake24_any _) ?_)
    rintro e z ⟨rfl, hb⟩
    have S := S.grow hb
    refine ⟨_, rfl, ?_⟩
    intro a F
    refine l_pure 1 (fun L => (6, .bool true) :: L) F (by kernel_rfl) fun a F => ?_
    refine l_then ?_
    refine wp_ret ?_
    refine then_r (?_)
    exact fin F [.tmp 6] [.bool true] rfl ⟨by kernel_rfl, trivial⟩ (.bool true) rfl ⟨rfl, S.below (i := 0) rfl⟩
   ·
    skip
    refine l_do F rfl rfl (op_pure F (v0 := .bool (decide (((o.A.length : Nat) : Int) > (20 : Int)))) (v := .bool false) (by kernel_rfl) (gtrF ht3) fun a F => ?_)
    refine l_pure 1 (fun L => (46, .bool false) :: L) F (by kernel_rfl) fun a F => ?_
    refine l_then ?_
    refine c_f F rfl ?_
    refine wp_skip ?_
    refine then_n ?_
    refine s_reg ?_
    refine l_pure 1 (fun L => (49, .slice Ax X.length cx) :: L) F (by kernel_rfl) fun a F => ?_
    refine l_do F rfl rfl (op_fn F (by kernel_rfl) (rnew24_ok _ Ax cx X (hX.mono (src_rest S (i := 0) rfl hX.src (src_lt hX.src))) hXu hz) ?_)
    rintro e z ⟨bm, rfl, g⟩
    have S := S.pushThings g
    refine ⟨_, rfl, ?_⟩
    intro a F
    refine l_pure 5 (fun L => (12, .int .i64 0) :: (11, .pointer (some ⟨bm, 0, none⟩)) :: (52, .int .i64 0) :: (51, .pointer (some ⟨bm, 0, none⟩)) :: (48, .tuple #[.pointer (some ⟨bm, 0, none⟩), .int .i64 0]) :: L) F (by kernel_rfl) fun a F => ?_
    refine l_then ?_
    refine cutK 1 (fun a z => ∃ (I : Idl), (IOk I) ∧ Fr a 147 [(0, .slice Ax X.length cx), (5, .pointer (some ⟨b1, 0, none⟩)), (7, .pointer (some ⟨bx, 0, none⟩)), (9, .pointer (some ⟨by_, 0, none⟩))] ∧ Sat w z [rest w (· < w.heap.size), box b1 40 [.int .i64 o.kind, .int .i64 o.a, .int .i64 o.b, .int .u64 o.n, .int .u64 o.m, .int .u64 o.id, .slice o.Ar o.E.length o.cr, .slice o.As o.A.length o.cs, .bool o.y], idA bx I, idA by_ I, refA bm I]) ?_ ?_
    ·
     rintro a z ⟨I, hf4, F, S⟩
     dsimp only [tailAt]
     have hok := hf4
     refine cutK 1 (fun a z => ∃ (K : Idl), (IOk K) ∧ (SameI I K) ∧ Fr a 147 [(0, .slice Ax X.length cx), (7, .pointer (some ⟨bx, 0, none⟩)), (9, .pointer (some ⟨by_, 0, none⟩))] ∧ Sat w z [rest w (· < w.heap.size), box b1 40 [.int .i64 o.kind, .int .i64 o.a, .int .i64 o.b, .int .u64 o.n, .int .u64 o.m, .int .u64 o.id, .slice o.Ar o.E.length o.cr, .slice o.As o.A.length o.cs, .bool o.y], idA bx K, idA by_ I, refA bm I]) ?_ ?_
     ·
      rintro a z ⟨K, hf5, hf6, F, S⟩
      dsimp only [tailAt]
      have hokK := hf5
      have hsm := hf6
      refine wp_seq ?_
      refine s_reg ?_
      refine l_pure 3 (fun L => (108, .int .i64 0) :: (107, .int .i64 (X.length : Nat)) :: (106, .slice Ax X.length cx) :: L) F (by kernel_rfl) fun a F => ?_
      refine l_then ?_
      refine wp_block ?_
      refine wp_loop_m (fun m a z => ∃ (i2 : Nat), m = X.length - i2 ∧ (i2 ≤ X.length) ∧ Fr a 147 [(7, .pointer (some ⟨bx, 0, none⟩)), (9, .pointer (some ⟨by_, 0, none⟩)), (107, .int .i64 (X.length : Nat)), (108, .int .i64 (i2 : Nat))] ∧ Sat w z [rest w (· < w.heap.size), box b1 40 [.int .i64 o.kind, .int .i64 o.a, .int .i64 o.b, .int .u64 o.n, .int .u64 o.m, .int .u64 o.id, .slice o.Ar o.E.length o.cr, .slice o.As o.A.length o.cs, .bool o.y], idA bx K, idA by_ I, refA bm I]) _ ⟨0, rfl, Nat.zero_le _, F.sub ⟨by kernel_rfl, by kernel_rfl, by kernel_rfl, by kernel_rfl, trivial⟩, S⟩ ?_
      rintro m a z ⟨i2, hm, hf7, F, S⟩
      refine s_reg ?_
      by_cases ht8 : ((i2 : Nat) : Int) < ((X.length : Nat) : Int)
      ·
       skip
       refine l_do F rfl rfl (op_pure F (v0 := .bool (decide (((i2 : Nat) : Int) < ((X.length : Nat) : Int)))) (v := .bool true) (by kernel_rfl) (lssT ht8) fun a F => ?_)
       refine l_then ?_
       refine wp_seq ?_
       refine c_t F rfl ?_
       refine wp_skip ?_
       refine then_n ?_
       refine wp_seq ?_
       refine wp_block ?_
       refine s_reg ?_
       refine l_pure 2 (fun L => (17, .int .i64 (i2 : Nat)) :: (110, .int .i64 (i2 : Nat)) :: L) F (by kernel_rfl) fun a F => ?_
       refine l_then ?_
       refine wp_seq ?_
       refine s_reg ?_
       refine l_pure 2 (fun L => (112, .int .i64 (i2 : Nat)) :: (111, .pointer (some ⟨bx, 0, none⟩)) :: L) F (by kernel_rfl) fun a F => ?_
       obtain ⟨G9, g9, hin9, hlt9, k9⟩ := S.frameB [2] (by decide) rfl
       refine l_do F rfl rfl (op_fn F (by kernel_rfl) (has24_any _ G9 bx K g9 (i2 : Nat)) ?_)
       rintro e z9 ⟨rfl, g⟩
       have S : Sat w z9 [rest w (· < w.heap.size), box b1 40 [.int .i64 o.kind, .int .i64 o.a, .int .i64 o.b, .int .u64 o.n, .int .u64 o.m, .int .u64 o.id, .slice o.Ar o.E.length o.cr, .slice o.As o.A.length o.cs, .bool o.y], idA bx K, idA by_ I, refA bm I] := k9 z9 [idA bx K] rfl g
       clear g g9 k9 hin9 hlt9
       refine ⟨_, rfl, ?_⟩
       intro a F
       refine l_pure 2 (fun L => (115, .int .i64 (i2 : Nat)) :: (114, .pointer (some ⟨by_, 0, none⟩)) :: L) F (by kernel_rfl) fun a F => ?_
       obtain ⟨G9, g9, hin9, hlt9, k9⟩ := S.frameB [3] (by decide) rfl
       refine l_do F rfl rfl (op_fn F (by kernel_rfl) (has24_any _ G9 by_ I g9 (i2 : Nat)) ?_)
       rintro e z9 ⟨rfl, g⟩
       have S : Sat w z9 [rest w (· < w.heap.size), box b1 40 [.int .i64 o.kind, .int .i64 o.a, .int .i64 o.b, .int .u64 o.n, .int .u64 o.m, .int .u64 o.id, .slice o.Ar o.E.length o.cr, .slice o.As o.A.length o.cs, .bool o.y], idA bx K, idA by_ I, refA bm I] := k9 z9 [idA by_ I] rfl g
       clear g g9 k9 hin9 hlt9
       refine ⟨_, rfl, ?_⟩
       intro a F
       refine l_do F rfl rfl (op_pure F (v0 := .bool ((hasP K (i2 : Nat) : Int) != (hasP I (i2 : Nat) : Int))) (v := .bool false) (by kernel_rfl) (neqF (hsm.hasP _)) fun a F => ?_)
       refine l_then ?_
       refine c_f F rfl ?_
       refine wp_skip ?_
       refine then_n ?_
       refine s_reg ?_
       refine l_pure 1 (fun L => (118, .int .i64 0) :: L) F (by kernel_rfl) fun a F => ?_
       refine l_then ?_
       refine wp_block ?_
       refine wp_loop_m (fun m a z => ∃ (j2 : Nat), m = 16 - j2 ∧ (j2 ≤ 16) ∧ Fr a 147 [(7, .pointer (some ⟨bx, 0, none⟩)), (9, .pointer (some ⟨by_, 0, none⟩)), (17, .int .i64 (i2 : Nat)), (107, .int .i64 (X.length : Nat)), (108, .int .i64 (i2 : Nat)), (118, .int .i64 (j2 : Nat))] ∧ Sat w z [rest w (· < w.heap.size), box b1 40 [.int .i64 o.kind, .int .i64 o.a, .int .i64 o.b, .int .u64 o.n, .int .u64 o.m, .int .u64 o.id, .slice o.Ar o.E.length o.cr, .slice o.As o.A.length o.cs, .bool o.y], idA bx K, idA by_ I, refA bm I]) _ ⟨0, rfl, Nat.zero_le _, F.sub ⟨by kernel_rfl, by kernel_rfl, by kernel_rfl, by kernel_rfl, by kernel_rfl, by kernel_rfl, trivial⟩, S⟩ ?_
       rintro m a z ⟨j2, hm, hf9, F, S⟩
       refine s_reg ?_
       by_cases ht10 : ((j2 : Nat) : Int) < (16 : Int)
       ·
        skip
        refine l_do F rfl rfl (op_pure F (v0 := .bool (decide (((j2 : Nat) : Int) < (16 : Int)))) (v := .bool true) (by kernel_rfl) (lssT ht10) fun a F => ?_)
        refine l_then ?_
        refine wp_seq ?_
        refine c_t F rfl ?_
        refine wp_skip ?_
        refine then_n ?_
        refine wp_seq ?_
        refine wp_block ?_
        refine s_reg ?_
        refine l_pure 2 (fun L => (18, .int .i64 (j2 : Nat)) :: (120, .int .i64 (j2 : Nat)) :: L) F (by kernel_rfl) fun a F => ?_
        refine l_then ?_
        refine s_reg ?_
        refine l_pure 3 (fun L => (123, .int .i64 (i2 : Nat)) :: (122, .int .i64 (j2 : Nat)) :: (121, .pointer (some ⟨bx, 0, none⟩)) :: L) F (by kernel_rfl) fun a F => ?_
        obtain ⟨G9, g9, hin9, hlt9, k9⟩ := S.frameB [2] (by decide) rfl
        refine l_do F rfl rfl (op_fn F (by kernel_rfl) (free24_any _ G9 bx K hokK g9 (j2 : Nat) (i2 : Nat)) ?_)
        rintro e z9 ⟨rfl, g⟩
        have S : Sat w z9 [rest w (· < w.heap.size), box b1 40 [.int .i64 o.kind, .int .i64 o.a, .int .i64 o.b, .int .u64 o.n, .int .u64 o.m, .int .u64 o.id, .slice o.Ar o.E.length o.cr, .slice o.As o.A.length o.cs, .bool o.y], idA bx K, idA by_ I, refA bm I] := k9 z9 [idA bx K] rfl g
        clear g g9 k9 hin9 hlt9
        refine ⟨_, rfl, ?_⟩
        intro a F
        refine l_pure 3 (fun L => (127, .int .i64 (i2 : Nat)) :: (126, .int .i64 (j2 : Nat)) :: (125, .pointer (some ⟨by_, 0, none⟩)) :: L) F (by kernel_rfl) fun a F => ?_
        obtain ⟨G9, g9, hin9, hlt9, k9⟩ := S.frameB [3] (by decide) rfl
        refine l_do F rfl rfl (op_fn F (by kernel_rfl) (free24_any _ G9 by_ I hok g9 (j2 : Nat) (i2 : Nat)) ?_)
        rintro e z9 ⟨rfl, g⟩
        have S : Sat w z9 [rest w (· < w.heap.size), box b1 40 [.int .i64 o.kind, .int .i64 o.a, .int .i64 o.b, .int .u64 o.n, .int .u64 o.m, .int .u64 o.id, .slice o.Ar o.E.length o.cr, .slice o.As o.A.length o.cs, .bool o.y], idA bx K, idA by_ I, refA bm I] := k9 z9 [idA by_ I] rfl g
        clear g g9 k9 hin9 hlt9
        refine ⟨_, rfl, ?_⟩
        intro a F
        refine l_do F rfl rfl (op_pure F (v0 := .bool ((freeP K (j2 : Nat) (i2 : Nat) : Int) != (freeP I (j2 : Nat) (i2 : Nat) : Int))) (v := .bool false) (by kernel_rfl) (neqF (hsm.freeP _ _)) fun a F => ?_)
        refine l_then ?_
        refine c_f F rfl ?_
        refine wp_skip ?_
        refine inb_n ?_
        refine then_n ?_
        refine wp_region_list ?_
        refine l_do F rfl rfl (op_pure F (v0 := .int .i64 (IntKind.wrap .i64 ((j2 : Nat) + 1))) (v := .int .i64 (j2 + 1 : Nat)) (by kernel_rfl) (wrn_i64 (by omega) (by omega) (by omega)) fun a F => ?_)
        refine l_pure 1 (fun L => (118, .int .i64 (j2 + 1 : Nat)) :: L) F (by kernel_rfl) fun a F => ?_
        refine l_then ?_
        exact ⟨_, (by omega), j2 + 1, rfl, (by omega), F.sub ⟨by kernel_rfl, by kernel_rfl, by kernel_rfl, by kernel_rfl, by kernel_rfl, by kernel_rfl, trivial⟩, S⟩
       ·
        skip
        refine l_do F rfl rfl (op_pure F (v0 := .bool (decide (((j2 : Nat) : Int) < (16 : Int)))) (v := .bool false) (by kernel_rfl) (lssF ht10) fun a F => ?_)
        refine l_then ?_
        refine wp_seq ?_
        refine c_f F rfl ?_
        refine wp_exit ?_
        refine then_x ?_
        refine then_x ?_
        refine inb_x ?_
        refine inb_n ?_
        refine then_n ?_
        refine wp_region_list ?_
        refine l_do F rfl rfl (op_pure F (v0 := .int .i64 (IntKind.wrap .i64 ((i2 : Nat) + 1))) (v := .int .i64 (i2 + 1 : Nat)) (by kernel_rfl) (wrn_i64 (by omega) (by omega) (by omega)) fun a F => ?_)
        refine l_pure 1 (fun L => (108, .int .i64 (i2 + 1 : Nat)) :: L) F (by kernel_rfl) fun a F => ?_
        refine l_then ?_
        exact ⟨_, (by omega), i2 + 1, rfl, (by omega), F.sub ⟨by kernel_rfl, by kernel_rfl, by kernel_rfl, by kernel_rfl, trivial⟩, S⟩
      ·
       skip
       refine l_do F rfl rfl (op_pure F (v0 := .bool (decide (((i2 : Nat) : Int) < ((X.length : Nat) : Int)))) (v := .bool false) (by kernel_rfl) (lssF ht8) fun a F => ?_)
       refine l_then ?_
       refine wp_seq ?_
       refine c_f F rfl ?_
       refine wp_exit ?_
       refine then_x ?_
       refine then_x ?_
       refine inb_x ?_
       refine then_n ?_
       refine s_reg ?_
       refine l_do F rfl rfl (op_fn F (by kernel_rfl) (awake24_any _) ?_)
       rintro e z ⟨rfl, hb⟩
       have S := S.grow hb
       refine ⟨_, rfl, ?_⟩
       intro a F
       refine l_pure 2 (fun L => (134, .pointer (some ⟨bx, 0, none⟩)) :: (133, .bool true) :: L) F (by kernel_rfl) fun a F => ?_
       obtain ⟨G9, g9, hin9, hlt9, k9⟩ := S.frameB [2] (by decide) rfl
       refine l_do F rfl rfl (op_fn F (by kernel_rfl) (held24_any _ G9 bx K hokK g9 ) ?_)
       rintro e z9 ⟨rfl, g⟩
       have S : Sat w z9 [rest w (· < w.heap.size), box b1 40 [.int .i64 o.kind, .int .i64 o.a, .int .i64 o.b, .int .u64 o.n, .int .u64 o.m, .int .u64 o.id, .slice o.Ar o.E.length o.cr, .slice o.As o.A.length o.cs, .bool o.y], idA bx K, idA by_ I, refA bm I] := k9 z9 [idA bx K] rfl g
       clear g g9 k9 hin9 hlt9
       refine ⟨_, rfl, ?_⟩
       intro a F
       refine l_pure 1 (fun L => (136, .pointer (some ⟨by_, 0, none⟩)) :: L) F (by kernel_rfl) fun a F => ?_
       obtain ⟨G9, g9, hin9, hlt9, k9⟩ := S.frameB [3] (by decide) rfl
       refine l_do F rfl rfl (op_fn F (by kernel_rfl) (held24_any _ G9 by_ I hok g9 ) ?_)
       rintro e z9 ⟨rfl, g⟩
       have S : Sat w z9 [rest w (· < w.heap.size), box b1 40 [.int .i64 o.kind, .int .i64 o.a, .int .i64 o.b, .int .u64 o.n, .int .u64 o.m, .int .u64 o.id, .slice o.Ar o.E.length o.cr, .slice o.As o.A.length o.cs, .bool o.y], idA bx K, idA by_ I, refA bm I] := k9 z9 [idA by_ I] rfl g
       clear g g9 k9 hin9 hlt9
       refine ⟨_, rfl, ?_⟩
       intro a F
       refine l_do F rfl rfl (op_pure F (v0 := .bool ((heldP K.pays : Int) == (heldP I.pays : Int))) (v := .bool true) (by kernel_rfl) (eqlT hsm.held) fun a F => ?_)
       refine l_pure 3 (fun L => (141, .pointer (some ⟨bx, 0, none⟩)) :: (140, .bool true) :: (139, .bool true) :: L) F (by kernel_rfl) fun a F => ?_
       obtain ⟨G9, g9, hin9, hlt9, k9⟩ := S.frameB [2] (by decide) rfl
       refine l_do F rfl rfl (op_fn F (by kernel_rfl) (all24_any _ G9 bx K hokK g9 ) ?_)
       rintro e z9 ⟨rfl, g⟩
       have S : Sat w z9 [rest w (· < w.heap.size), box b1 40 [.int .i64 o.kind, .int .i64 o.a, .int .i64 o.b, .int .u64 o.n, .int .u64 o.m, .int .u64 o.id, .slice o.Ar o.E.length o.cr, .slice o.As o.A.length o.cs, .bool o.y], idA bx K, idA by_ I, refA bm I] := k9 z9 [idA bx K] rfl g
       clear g g9 k9 hin9 hlt9
       refine ⟨_, rfl, ?_⟩
       intro a F
       refine l_pure 1 (fun L => (143, .pointer (some ⟨by_, 0, none⟩)) :: L) F (by kernel_rfl) fun a F => ?_
       obtain ⟨G9, g9, hin9, hlt9, k9⟩ := S.frameB [3] (by decide) rfl
       refine l_do F rfl rfl (op_fn F (by kernel_rfl) (all24_any _ G9 by_ I hok g9 ) ?_)
       rintro e z9 ⟨rfl, g⟩
       have S : Sat w z9 [rest w (· < w.heap.size), box b1 40 [.int .i64 o.kind, .int .i64 o.a, .int .i64 o.b, .int .u64 o.n, .int .u64 o.m, .int .u64 o.id, .slice o.Ar o.E.length o.cr, .slice o.As o.A.length o.cs, .bool o.y], idA bx K, idA by_ I, refA bm I] := k9 z9 [idA by_ I] rfl g
       clear g g9 k9 hin9 hlt9
       refine ⟨_, rfl, ?_⟩
       intro a F
       refine l_do F rfl rfl (op_pure F (v0 := .bool ((totI K : Int) == (totI I : Int))) (v := .bool true) (by kernel_rfl) (eqlT hsm.tot) fun a F => ?_)
       refine l_pure 2 (fun L => (6, .bool true) :: (146, .bool true) :: L) F (by kernel_rfl) fun a F => ?_
       refine l_then ?_
       refine wp_ret ?_
       exact fin F [.tmp 6] [.bool true] rfl ⟨by kernel_rfl, trivial⟩ (.bool true) rfl ⟨rfl, S.below (i := 0) rfl⟩
     ·
      intro hcut16
      dsimp only [tailAt] at hcut16
      refine wp_seq ?_
      refine s_reg ?_
      refine l_pure 2 (fun L => (89, .pointer (some ⟨b1, 5, none⟩)) :: (88, .pointer (some ⟨bx, 0, none⟩)) :: L) F (by kernel_rfl) fun a F => ?_
      refine l_do F rfl rfl (op_load _ _ (some ⟨b1, 0, none⟩) 5 (.int .u64 o.id) F rfl (by kernel_rfl) (by kernel_rfl) (cBox S 1 rfl (j := 5) rfl) (fun a F => ?_))
      refine l_pure 1 (fun L => (91, .pointer (some ⟨b1, 1, none⟩)) :: L) F (by kernel_rfl) fun a F => ?_
      refine l_do F rfl rfl (op_load _ _ (some ⟨b1, 0, none⟩) 1 (.int .i64 o.a) F rfl (by kernel_rfl) (by kernel_rfl) (cBox S 1 rfl (j := 1) rfl) (fun a F => ?_))
      refine l_pure 1 (fun L => (93, .pointer (some ⟨b1, 6, none⟩)) :: L) F (by kernel_rfl) fun a F => ?_
      refine l_do F rfl rfl (op_load _ _ (some ⟨b1, 0, none⟩) 6 (.slice o.Ar o.E.length o.cr) F rfl (by kernel_rfl) (by kernel_rfl) (cBox S 1 rfl (j := 6) rfl) (fun a F => ?_))
      refine l_pure 1 (fun L => (95, .pointer (some ⟨b1, 7, none⟩)) :: L) F (by kernel_rfl) fun a F => ?_
      refine l_do F rfl rfl (op_load _ _ (some ⟨b1, 0, none⟩) 7 (.slice o.As o.A.length o.cs) F rfl (by kernel_rfl) (by kernel_rfl) (cBox S 1 rfl (j := 7) rfl) (fun a F => ?_))
      obtain ⟨G9, g9, hin9, hlt9, k9⟩ := S.frameB [2] (by decide) rfl
      refine l_do F rfl rfl (op_fn F (by kernel_rfl) (begin24_any _ G9 bx I hok g9 o.id o.a o.Ar o.cr o.E (hoP.e.mono (src_rest S (i := 0) rfl hoP.e.src (src_lt hoP.e.src))) (InG.rest hin9 0 (by decide) rfl (InG.all hoP.e.src)) o.As o.cs o.A (hoP.a.mono (src_rest S (i := 0) rfl hoP.a.src (src_lt hoP.a.src))) (InG.rest hin9 0 (by decide) rfl (InG.all hoP.a.src)) hoP.u) ?_)
      rintro e z9 ⟨rfl, g⟩
      have S : Sat w z9 [rest w (· < w.heap.size), box b1 40 [.int .i64 o.kind, .int .i64 o.a, .int .i64 o.b, .int .u64 o.n, .int .u64 o.m, .int .u64 o.id, .slice o.Ar o.E.length o.cr, .slice o.As o.A.length o.cs, .bool o.y], idA bx ((begP I o.id o.a o.E o.A).1), idA by_ I, refA bm I] := k9 z9 [idA bx ((begP I o.id o.a o.E o.A).1)] rfl g
      clear g g9 k9 hin9 hlt9
      refine ⟨_, rfl, ?_⟩
      intro a F
      by_cases ht11 : ((begP I o.id o.a o.E o.A).2 : Int) = (0 : Int)
      ·
       skip
       have hbz := ht11
       obtain ⟨hez, hsame⟩ := back_same hok (fun a9 ha9 => (hoP.u a9 ha9).1) hbz
       refine l_do F rfl rfl (op_pure F (v0 := .bool (((begP I o.id o.a o.E o.A).2 : Int) == (0 : Int))) (v := .bool true) (by kernel_rfl) (eqlT ht11) fun a F => ?_)
       refine l_pure 3 (fun L => (101, .pointer (some ⟨b1, 5, none⟩)) :: (100, .pointer (some ⟨bx, 0, none⟩)) :: (99, .bool true) :: L) F (by kernel_rfl) fun a F => ?_
       refine l_do F rfl rfl (op_load _ _ (some ⟨b1, 0, none⟩) 5 (.int .u64 o.id) F rfl (by kernel_rfl) (by kernel_rfl) (cBox S 1 rfl (j := 5) rfl) (fun a F => ?_))
       obtain ⟨G9, g9, hin9, hlt9, k9⟩ := S.frameB [2] (by decide) rfl
       refine l_do F rfl rfl (op_fn F (by kernel_rfl) (end24_any _ G9 bx (begP I o.id o.a o.E o.A).1 (beg_keeps hok (fun a9 ha9 => (hoP.u a9 ha9).1)).1 g9 o.id false) ?_)
       rintro e z9 ⟨rfl, g⟩
       have S : Sat w z9 [rest w (· < w.heap.size), box b1 40 [.int .i64 o.kind, .int .i64 o.a, .int .i64 o.b, .int .u64 o.n, .int .u64 o.m, .int .u64 o.id, .slice o.Ar o.E.length o.cr, .slice o.As o.A.length o.cs, .bool o.y], idA bx ((endP (begP I o.id o.a o.E o.A).1 o.id false).1), idA by_ I, refA bm I] := k9 z9 [idA bx ((endP (begP I o.id o.a o.E o.A).1 o.id false).1)] rfl g
       clear g g9 k9 hin9 hlt9
       refine ⟨_, rfl, ?_⟩
       intro a F
       refine l_do F rfl rfl (op_pure F (v0 := .bool (((endP (begP I o.id o.a o.E o.A).1 o.id false).2 : Int) != (0 : Int))) (v := .bool false) (by kernel_rfl) (neqF hez) fun a F => ?_)
       refine l_pure 1 (fun L => (105, .bool false) :: L) F (by kernel_rfl) fun a F => ?_
       refine l_then ?_
       refine c_f F rfl ?_
       refine wp_skip ?_
       refine then_n ?_
       exact hcut16 _ _ ⟨(endP (begP I o.id o.a o.E o.A).1 o.id false).1, (end_keeps (beg_keeps hok (fun a9 ha9 => (hoP.u a9 ha9).1)).1).1, hsame, F.sub ⟨by kernel_rfl, by kernel_rfl, by kernel_rfl, trivial⟩, S⟩
      ·
       skip
       have hbz := ht11
       refine l_do F rfl rfl (op_pure F (v0 := .bool (((begP I o.id o.a o.E o.A).2 : Int) == (0 : Int))) (v := .bool false) (by kernel_rfl) (eqlF ht11) fun a F => ?_)
       refine l_pure 7 (fun L => (105, .bool false) :: (104, undef) :: (103, undef) :: (102, undef) :: (101, undef) :: (100, undef) :: (99, .bool false) :: L) F (by kernel_rfl) fun a F => ?_
       refine l_then ?_
       refine c_f F rfl ?_
       refine wp_skip ?_
       refine then_n ?_
       exact hcut16 _ _ ⟨(begP I o.id o.a o.E o.A).1, (beg_keeps hok (fun a9 ha9 => (hoP.u a9 ha9).1)).1, (beg_same hbz), F.sub ⟨by kernel_rfl, by kernel_rfl, by kernel_rfl, trivial⟩, S⟩
    ·
     intro hcut14
     dsimp only [tailAt] at hcut14
     refine wp_seq ?_
     refine s_reg ?_
     refine l_pure 3 (fun L => (55, .int .i64 0) :: (54, .int .i64 (O.length : Nat)) :: (53, .slice Ao O.length co) :: L) F (by kernel_rfl) fun a F => ?_
     refine l_then ?_
     refine wp_block ?_
     refine wp_loop_m (fun m a z => ∃ (i : Nat) (I : Idl), m = O.length - i ∧ (i ≤ O.length) ∧ (IOk I) ∧ (I.pays.length ≤ i) ∧ Fr a 147 [(0, .slice Ax X.length cx), (5, .pointer (some ⟨b1, 0, none⟩)), (7, .pointer (some ⟨bx, 0, none⟩)), (9, .pointer (some ⟨by_, 0, none⟩)), (11, .pointer (some ⟨bm, 0, none⟩)), (53, .slice Ao O.length co), (54, .int .i64 (O.length : Nat)), (55, .int .i64 (i : Nat))] ∧ Sat w z [rest w (· < w.heap.size), box b1 40 [.int .i64 o.kind, .int .i64 o.a, .int .i64 o.b, .int .u64 o.n, .int .u64 o.m, .int .u64 o.id, .slice o.Ar o.E.length o.cr, .slice o.As o.A.length o.cs, .bool o.y], idA bx I, idA by_ I, refA bm I]) _ ⟨0, (newI X), rfl, Nat.zero_le _, ok0, (Nat.le_refl 0), F.sub ⟨by kernel_rfl, by kernel_rfl, by kernel_rfl, by kernel_rfl, by kernel_rfl, by kernel_rfl, by kernel_rfl, by kernel_rfl, trivial⟩, S⟩ ?_
     rintro m a z ⟨i, I, hm, hf12, hf13, hf14, F, S⟩
     have hok := hf13
     have hpl := hf14
     refine s_reg ?_
     by_cases ht15 : ((i : Nat) : Int) < ((O.length : Nat) : Int)
     ·
      skip
      obtain ⟨p, hp⟩ : ∃ p, O[i]? = some p := ⟨_, List.getElem?_eq_getElem (by omega)⟩
      have hoo := hOk p (List.mem_of_getElem? hp)
      refine l_do F rfl rfl (op_pure F (v0 := .bool (decide (((i : Nat) : Int) < ((O.length : Nat) : Int)))) (v := .bool true) (by kernel_rfl) (lssT ht15) fun a F => ?_)
      refine l_then ?_
      refine wp_seq ?_
      refine c_t F rfl ?_
      refine wp_skip ?_
      refine then_n ?_
      refine wp_seq ?_
      refine wp_block ?_
      refine s_reg ?_
      refine l_pure 1 (fun L => (57, .int .i64 (i : Nat)) :: L) F (by kernel_rfl) fun a F => ?_
      refine l_do F rfl rfl (op_index _ 40 _ _ Ao O.length co i 9 .i64 F rfl (by kernel_rfl) (by kernel_rfl) (by kernel_rfl) (by kernel_rfl) (get_lt hp) (recs_some hO (m := i) (get_lt hp)) (fun a F => ?_))
      refine l_do F rfl rfl (op_loadK _ _ Ao (i * 9) [.int .i64 p.kind, .int .i64 p.a, .int .i64 p.b, .int .u64 p.n, .int .u64 p.m, .int .u64 p.id, .slice p.Ar p.E.length p.cr, .slice p.As p.A.length p.cs, .bool p.y] F rfl (by kernel_rfl) (by kernel_rfl) (by kernel_rfl) (by simp) (cOldK0 S 0 opC_len hO rfl hp (by kernel_rfl)) (fun a F => ?_))
      refine l_do F rfl rfl (op_alloc S _ (.agg #[.int .i64 0, .int .i64 0, .int .i64 0, .int .u64 0, .int .u64 0, .int .u64 0, .slice none 0 0, .slice none 0 0, .bool false]) rfl (by kernel_rfl) fun b16 z S a F => ?_)
      refine l_pure 1 (fun L => (13, .int .i64 (i : Nat)) :: L) F (by kernel_rfl) fun a F => ?_
      refine l_do F rfl rfl (op_storeB S 5 _ _ _ b16 0 (.agg #[.int .i64 p.kind, .int .i64 p.a, .int .i64 p.b, .int .u64 p.n, .int .u64 p.m, .int .u64 p.id, .slice p.Ar p.E.length p.cr, .slice p.As p.A.length p.cs, .bool p.y]) F rfl rfl (by kernel_rfl) (by kernel_rfl) (by kernel_rfl) (by kernel_rfl) (by kernel_rfl) fun z S a F => ?_)
      refine l_then ?_
      refine wp_seq ?_
      refine s_reg ?_
      refine l_pure 1 (fun L => (60, .int .i64 (i : Nat)) :: L) F (by kernel_rfl) fun a F => ?_
      by_cases ht17 : (30 : Int) ≤ ((i : Nat) : Int)
      ·
       skip
       refine l_do F rfl rfl (op_pure F (v0 := .bool (decide (((i : Nat) : Int) ≥ (30 : Int)))) (v := .bool true) (by kernel_rfl) (geqT ht17) fun a F => ?_)
       refine l_pure 12 (fun L => (73, .bool true) :: (72, undef) :: (71, undef) :: (70, undef) :: (69, undef) :: (68, .bool true) :: (67, .bool true) :: (66, undef) :: (65, undef) :: (64, undef) :: (63, undef) :: (62, .bool true) :: L) F (by kernel_rfl) fun a F => ?_
       refine l_then ?_
       refine c_t F rfl ?_
       refine wp_exit ?_
       refine then_x ?_
       refine inb_xo (by kernel_rfl) ?_
       refine then_x ?_
       refine then_x ?_
       refine inb_x ?_
       refine then_n ?_
       exact hcut14 _ _ ⟨I, hok, F.sub ⟨by kernel_rfl, by kernel_rfl, by kernel_rfl, by kernel_rfl, trivial⟩, (S.pick [0, 1, 2, 3, 4] (by decide))⟩
      ·
       skip
       refine l_do F rfl rfl (op_pure F (v0 := .bool (decide (((i : Nat) : Int) ≥ (30 : Int)))) (v := .bool false) (by kernel_rfl) (geqF ht17) fun a F => ?_)
       refine l_pure 2 (fun L => (63, .pointer (some ⟨b16, 6, none⟩)) :: (62, .bool false) :: L) F (by kernel_rfl) fun a F => ?_
       refine l_do F rfl rfl (op_load _ _ (some ⟨b16, 0, none⟩) 6 (.slice p.Ar p.E.length p.cr) F rfl (by kernel_rfl) (by kernel_rfl) (cBox S 5 rfl (j := 6) rfl) (fun a F => ?_))
       refine l_pure 1 (fun L => (65, .int .i64 (p.E.length : Nat)) :: L) F (by kernel_rfl) fun a F => ?_
       by_cases ht18 : (20 : Int) < ((p.E.length : Nat) : Int)
       ·
        skip
        refine l_do F rfl rfl (op_pure F (v0 := .bool (decide (((p.E.length : Nat) : Int) > (20 : Int)))) (v := .bool true) (by kernel_rfl) (gtrT ht18) fun a F => ?_)
        refine l_pure 7 (fun L => (73, .bool true) :: (72, undef) :: (71, undef) :: (70, undef) :: (69, undef) :: (68, .bool true) :: (67, .bool true) :: L) F (by kernel_rfl) fun a F => ?_
        refine l_then ?_
        refine c_t F rfl ?_
        refine wp_exit ?_
        refine then_x ?_
        refine inb_xo (by kernel_rfl) ?_
        refine then_x ?_
        refine then_x ?_
        refine inb_x ?_
        refine then_n ?_
        exact hcut14 _ _ ⟨I, hok, F.sub ⟨by kernel_rfl, by kernel_rfl, by kernel_rfl, by kernel_rfl, trivial⟩, (S.pick [0, 1, 2, 3, 4] (by decide))⟩
       ·
        skip
        refine l_do F rfl rfl (op_pure F (v0 := .bool (decide (((p.E.length : Nat) : Int) > (20 : Int)))) (v := .bool false) (by kernel_rfl) (gtrF ht18) fun a F => ?_)
        refine l_pure 3 (fun L => (69, .pointer (some ⟨b16, 7, none⟩)) :: (68, .bool false) :: (67, .bool false) :: L) F (by kernel_rfl) fun a F => ?_
        refine l_do F rfl rfl (op_load _ _ (some ⟨b16, 0, none⟩) 7 (.slice p.As p.A.length p.cs) F rfl (by kernel_rfl) (by kernel_rfl) (cBox S 5 rfl (j := 7) rfl) (fun a F => ?_))
        refine l_pure 1 (fun L => (71, .int .i64 (p.A.length : Nat)) :: L) F (by kernel_rfl) fun a F => ?_
        by_cases ht19 : (20 : Int) < ((p.A.length : Nat) : Int)
        ·
         skip
         refine l_do F rfl rfl (op_pure F (v0 := .bool (decide (((p.A.length : Nat) : Int) > (20 : Int)))) (v := .bool true) (by kernel_rfl) (gtrT ht19) fun a F => ?_)
         refine l_pure 1 (fun L => (73, .bool true) :: L) F (by kernel_rfl) fun a F => ?_
         refine l_then ?_
         refine c_t F rfl ?_
         refine wp_exit ?_
         refine then_x ?_
         refine inb_xo (by kernel_rfl) ?_
         refine then_x ?_
         refine then_x ?_
         refine inb_x ?_
         refine then_n ?_
         exact hcut14 _ _ ⟨I, hok, F.sub ⟨by kernel_rfl, by kernel_rfl, by kernel_rfl, by kernel_rfl, trivial⟩, (S.pick [0, 1, 2, 3, 4] (by decide))⟩
        ·
         skip
         refine l_do F rfl rfl (op_pure F (v0 := .bool (decide (((p.A.length : Nat) : Int) > (20 : Int)))) (v := .bool false) (by kernel_rfl) (gtrF ht19) fun a F => ?_)
         refine l_pure 1 (fun L => (73, .bool false) :: L) F (by kernel_rfl) fun a F => ?_
         refine l_then ?_
         refine c_f F rfl ?_
         refine wp_skip ?_
         refine then_n ?_
         refine s_reg ?_
         refine l_pure 2 (fun L => (75, .pointer (some ⟨bm, 0, none⟩)) :: (74, .pointer (some ⟨bx, 0, none⟩)) :: L) F (by kernel_rfl) fun a F => ?_
         refine l_do F rfl rfl (op_loadK _ _ (some ⟨b16, 0, none⟩) 0 [.int .i64 p.kind, .int .i64 p.a, .int .i64 p.b, .int .u64 p.n, .int .u64 p.m, .int .u64 p.id, .slice p.Ar p.E.length p.cr, .slice p.As p.A.length p.cs, .bool p.y] F rfl (by kernel_rfl) (by kernel_rfl) (by kernel_rfl) (by simp) (cBoxK S 5 rfl 0 (by kernel_rfl)) (fun a F => ?_))
         obtain ⟨G9, g9, hin9, hlt9, k9⟩ := S.frameB [2, 4] (by decide) rfl
         refine l_do F rfl rfl (op_fn F (by kernel_rfl) (does24_any _ G9 bx bm I I hok hok (by omega) g9 p ⟨hoo.e.mono (src_rest S (i := 0) rfl hoo.e.src (src_lt hoo.e.src)), hoo.a.mono (src_rest S (i := 0) rfl hoo.a.src (src_lt hoo.a.src)), hoo.n, hoo.m, hoo.u⟩ (InG.rest hin9 0 (by decide) rfl (InG.all hoo.e.src)) (InG.rest hin9 0 (by decide) rfl (InG.all hoo.a.src))) ?_)
         rintro e z9 ⟨r20, rfl, hr9, g⟩
         have S : Sat w z9 [rest w (· < w.heap.size), box b1 40 [.int .i64 o.kind, .int .i64 o.a, .int .i64 o.b, .int .u64 o.n, .int .u64 o.m, .int .u64 o.id, .slice o.Ar o.E.length o.cr, .slice o.As o.A.length o.cs, .bool o.y], idA bx (stepP I p), idA by_ I, refA bm (stepP I p), box b16 40 [.int .i64 p.kind, .int .i64 p.a, .int .i64 p.b, .int .u64 p.n, .int .u64 p.m, .int .u64 p.id, .slice p.Ar p.E.length p.cr, .slice p.As p.A.length p.cs, .bool p.y]] := k9 z9 [idA bx (stepP I p), refA bm (stepP I p)] rfl g
         clear g g9 k9 hin9 hlt9
         refine ⟨_, rfl, ?_⟩
         intro a F
         refine l_then ?_
         refine s_reg ?_
         refine l_pure 1 (fun L => (79, .slice Ax X.length cx) :: L) F (by kernel_rfl) fun a F => ?_
         refine l_do F rfl rfl (op_fn F (by kernel_rfl) (rnew24_ok _ Ax cx X (hX.mono (src_rest S (i := 0) rfl hX.src (src_lt hX.src))) hXu hz) ?_)
         rintro e z ⟨bn, rfl, g⟩
         have S := S.pushThings g
         refine ⟨_, rfl, ?_⟩
         intro a F
         refine l_pure 5 (fun L => (16, .int .i64 0) :: (15, .pointer (some ⟨bn, 0, none⟩)) :: (82, .int .i64 0) :: (81, .pointer (some ⟨bn, 0, none⟩)) :: (78, .tuple #[.pointer (some ⟨bn, 0, none⟩), .int .i64 0]) :: L) F (by kernel_rfl) fun a F => ?_
         refine l_then ?_
         refine wp_region_list ?_
         refine l_pure 2 (fun L => (84, .pointer (some ⟨bn, 0, none⟩)) :: (83, .pointer (some ⟨by_, 0, none⟩)) :: L) F (by kernel_rfl) fun a F => ?_
         refine l_do F rfl rfl (op_loadK _ _ (some ⟨b16, 0, none⟩) 0 [.int .i64 p.kind, .int .i64 p.a, .int .i64 p.b, .int .u64 p.n, .int .u64 p.m, .int .u64 p.id, .slice p.Ar p.E.length p.cr, .slice p.As p.A.length p.cs, .bool p.y] F rfl (by kernel_rfl) (by kernel_rfl) (by kernel_rfl) (by simp) (cBoxK S 5 rfl 0 (by kernel_rfl)) (fun a F => ?_))
         obtain ⟨G9, g9, hin9, hlt9, k9⟩ := S.frameB [3, 6] (by decide) rfl
         refine l_do F rfl rfl (op_fn F (by kernel_rfl) (does24_any _ G9 by_ bn I (newI X) hok ok0 (Nat.zero_le _) g9 p ⟨hoo.e.mono (src_rest S (i := 0) rfl hoo.e.src (src_lt hoo.e.src)), hoo.a.mono (src_rest S (i := 0) rfl hoo.a.src (src_lt hoo.a.src)), hoo.n, hoo.m, hoo.u⟩ (InG.rest hin9 0 (by decide) rfl (InG.all hoo.e.src)) (InG.rest hin9 0 (by decide) rfl (InG.all hoo.a.src))) ?_)
         rintro e z9 ⟨r21, rfl, hr9, g⟩
         have S : Sat w z9 [rest w (· < w.heap.size), box b1 40 [.int .i64 o.kind, .int .i64 o.a, .int .i64 o.b, .int .u64 o.n, .int .u64 o.m, .int .u64 o.id, .slice o.Ar o.E.length o.cr, .slice o.As o.A.length o.cs, .bool o.y], idA bx (stepP I p), idA by_ (stepP I p), refA bm (stepP I p), box b16 40 [.int .i64 p.kind, .int .i64 p.a, .int .i64 p.b, .int .u64 p.n, .int .u64 p.m, .int .u64 p.id, .slice p.Ar p.E.length p.cr, .slice p.As p.A.length p.cs, .bool p.y], refA bn (stepP (newI X) p)] := k9 z9 [idA by_ (stepP I p), refA bn (stepP (newI X) p)] rfl g
         clear g g9 k9 hin9 hlt9
         refine ⟨_, rfl, ?_⟩
         intro a F
         refine l_nil (inb_n ?_)
         refine then_n ?_
         refine wp_region_list ?_
         refine l_do F rfl rfl (op_pure F (v0 := .int .i64 (IntKind.wrap .i64 ((i : Nat) + 1))) (v := .int .i64 (i + 1 : Nat)) (by kernel_rfl) (wrn_i64 (by omega) (by omega) (by omega)) fun a F => ?_)
         refine l_pure 1 (fun L => (55, .int .i64 (i + 1 : Nat)) :: L) F (by kernel_rfl) fun a F => ?_
         refine l_then ?_
         exact ⟨_, (by omega), i + 1, (stepP I p), rfl, (by omega), (step_keeps hok hoo).1, (by have h9 := step_pays I p; omega), F.sub ⟨by kernel_rfl, by kernel_rfl, by kernel_rfl, by kernel_rfl, by kernel_rfl, by kernel_rfl, by kernel_rfl, by kernel_rfl, trivial⟩, (S.pick [0, 1, 2, 3, 4] (by decide))⟩
     ·
      skip
      refine l_do F rfl rfl (op_pure F (v0 := .bool (decide (((i : Nat) : Int) < ((O.length : Nat) : Int)))) (v := .bool false) (by kernel_rfl) (lssF ht15) fun a F => ?_)
      refine l_then ?_
      refine wp_seq ?_
      refine c_f F rfl ?_
      refine wp_exit ?_
      refine then_x ?_
      refine then_x ?_
      refine inb_x ?_
      refine then_n ?_
      exact hcut14 _ _ ⟨I, hok, F.sub ⟨by kernel_rfl, by kernel_rfl, by kernel_rfl, by kernel_rfl, trivial⟩, S⟩
 ·
  skip
  refine l_do F rfl rfl (op_fn F (by kernel_rfl) (new24_bad _ Ax cx X (hX.mono (src_rest S (i := 0) rfl hX.src (src_lt hX.src))) hXu hne) ?_)
  rintro e z ⟨rfl, hb⟩
  have S := S.grow hb
  refine ⟨_, rfl, ?_⟩
  intro a F
  refine l_pure 5 (fun L => (8, .int .i64 (newE X)) :: (7, .pointer none) :: (23, .int .i64 (newE X)) :: (22, .pointer none) :: (19, .tuple #[.pointer none, .int .i64 (newE X)]) :: L) F (by kernel_rfl) fun a F => ?_
  refine l_then ?_
  refine s_reg ?_
  refine l_pure 1 (fun L => (25, .slice Ax X.length cx) :: L) F (by kernel_rfl) fun a F => ?_
  refine l_do F rfl rfl (op_fn F (by kernel_rfl) (new24_bad _ Ax cx X (hX.mono (src_rest S (i := 0) rfl hX.src (src_lt hX.src))) hXu hne) ?_)
  rintro e z ⟨rfl, hb⟩
  have S := S.grow hb
  refine ⟨_, rfl, ?_⟩
  intro a F
  refine l_pure 5 (fun L => (10, .int .i64 (newE X)) :: (9, .pointer none) :: (28, .int .i64 (newE X)) :: (27, .pointer none) :: (24, .tuple #[.pointer none, .int .i64 (newE X)]) :: L) F (by kernel_rfl) fun a F => ?_
  refine l_then ?_
  refine wp_seq ?_
  refine s_reg ?_
  refine l_pure 1 (fun L => (29, .int .i64 (newE X)) :: L) F (by kernel_rfl) fun a F => ?_
  refine l_do F rfl rfl (op_pure F (v0 := .bool ((newE X : Int) != (0 : Int))) (v := .bool true) (by kernel_rfl) (neqT hne) fun a F => ?_)
  refine l_pure 16 (fun L => (46, .bool true) :: (45, undef) :: (44, undef) :: (43, undef) :: (42, undef) :: (41, .bool true) :: (40, .bool true) :: (39, undef) :: (38, undef) :: (37, undef) :: (36, undef) :: (35, .bool true) :: (34, .bool true) :: (33, undef) :: (32, undef) :: (31, .bool true) :: L) F (by kernel_rfl) fun a F => ?_
  refine l_then ?_
  refine c_t F rfl ?_
  refine s_reg ?_
  refine l_do F rfl rfl (op_fn F (by kernel_rfl) (awake24_any _) ?_)
  rintro e z ⟨rfl, hb⟩
  have S := S.grow hb
  refine ⟨_, rfl, ?_⟩
  intro a F
  refine l_pure 1 (fun L => (6, .bool true) :: L) F (by kernel_rfl) fun a F => ?_
  refine l_then ?_
  refine wp_ret ?_
  refine then_r (?_)
  exact fin F [.tmp 6] [.bool true] rfl ⟨by kernel_rfl, trivial⟩ (.bool true) rfl ⟨rfl, S.below (i := 0) rfl⟩
end Go.Proofs.Ytecgpkjigbhneaa
