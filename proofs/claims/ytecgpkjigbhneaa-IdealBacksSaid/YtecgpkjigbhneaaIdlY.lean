/- Walk over a step of both ideals. -/
import Derived.Test.YtecgpkjigbhneaaIdlX
import Derived.Test.YtecgpkjigbhneaaIdl2
import Derived.Test.YtecgpkjigbhneaaIdl4
import Derived.Test.YtecgpkjigbhneaaIdl5
import Derived.Test.YtecgpkjigbhneaaIdl6
import Derived.Test.YtecgpkjigbhneaaIdlV
import Derived.Test.YtecgpkjigbhneaaIdlW
namespace Go.Proofs.Ytecgpkjigbhneaa
set_option linter.unusedVariables false
set_option linter.unusedSimpArgs false
set_option linter.unnecessarySimpa false
open Go Go.RowKit

set_option maxRecDepth 100000 in
set_option maxHeartbeats 4000000 in
theorem does24_any (w : World) (G : Nat → Prop) (bx bm : Nat) (I J : Idl) (okI : IOk I) (okJ : IOk J) (hpn : J.pays.length ≤ 900) (hS : Sat w w [idA bx I, refA bm J, rest w G]) (o : OpV) (ho : StOk w o) (gE : InG G o.Ar (o.E.flatMap iC_i64)) (gA : InG G o.As (o.A.flatMap iC_u64)) : Calls Try.prog 16 #[.pointer (some ⟨bx, 0, none⟩), .pointer (some ⟨bm, 0, none⟩), .agg #[.int .i64 o.kind, .int .i64 o.a, .int .i64 o.b, .int .u64 o.n, .int .u64 o.m, .int .u64 o.id, .slice o.Ar o.E.length o.cr, .slice o.As o.A.length o.cs, .bool o.y]] w fun e w' => ∃ r : Bool, e = .returned (.bool r) ∧ (I = J → r = true) ∧ Sat w w' [idA bx (stepP I o), refA bm (stepP J o), rest w G] := by
 refine enter 157 Try.func16 rfl rfl rfl fun a F => ?_
 have S : Sat w w [rest w G, idA bx I, refA bm J] := hS.pick [2, 0, 1] (by decide)
 refine s_reg ?_
 refine l_do F rfl rfl (op_box S _ _ (.agg #[.int .i64 o.kind, .int .i64 o.a, .int .i64 o.b, .int .u64 o.n, .int .u64 o.m, .int .u64 o.id, .slice o.Ar o.E.length o.cr, .slice o.As o.A.length o.cs, .bool o.y]) F rfl (by kernel_rfl) fun b1 z S a F => ?_)
 refine l_pure 1 (fun L => (6, .bool false) :: L) F (by kernel_rfl) fun a F => ?_
 refine l_then ?_
 refine wp_seq ?_
 refine s_reg ?_
 refine l_pure 1 (fun L => (11, .pointer (some ⟨b1, 0, none⟩)) :: L) F (by kernel_rfl) fun a F => ?_
 refine l_do F rfl rfl (op_load _ _ (some ⟨b1, 0, none⟩) 0 (.int .i64 o.kind) F rfl (by kernel_rfl) (by kernel_rfl) (cBox S 3 rfl (j := 0) rfl) (fun a F => ?_))
 refine l_then ?_
 refine wp_block ?_
 refine s_reg ?_
 by_cases ht2 : (o.kind : Int) = (0 : Int)
 ·
  skip
  refine l_do F rfl rfl (op_pure F (v0 := .bool ((o.kind : Int) == (0 : Int))) (v := .bool true) (by kernel_rfl) (eqlT ht2) fun a F => ?_)
  refine l_pure 1 (fun L => (13, .bool true) :: L) F (by kernel_rfl) fun a F => ?_
  refine l_then ?_
  refine c_t F rfl ?_
  refine s_reg ?_
  refine l_pure 2 (fun L => (17, .pointer (some ⟨b1, 1, none⟩)) :: (16, .pointer (some ⟨bx, 0, none⟩)) :: L) F (by kernel_rfl) fun a F => ?_
  refine l_do F rfl rfl (op_load _ _ (some ⟨b1, 0, none⟩) 1 (.int .i64 o.a) F rfl (by kernel_rfl) (by kernel_rfl) (cBox S 3 rfl (j := 1) rfl) (fun a F => ?_))
  refine l_pure 1 (fun L => (19, .pointer (some ⟨b1, 2, none⟩)) :: L) F (by kernel_rfl) fun a F => ?_
  refine l_do F rfl rfl (op_load _ _ (some ⟨b1, 0, none⟩) 2 (.int .i64 o.b) F rfl (by kernel_rfl) (by kernel_rfl) (cBox S 3 rfl (j := 2) rfl) (fun a F => ?_))
  refine l_pure 1 (fun L => (21, .pointer (some ⟨b1, 3, none⟩)) :: L) F (by kernel_rfl) fun a F => ?_
  refine l_do F rfl rfl (op_load _ _ (some ⟨b1, 0, none⟩) 3 (.int .u64 o.n) F rfl (by kernel_rfl) (by kernel_rfl) (cBox S 3 rfl (j := 3) rfl) (fun a F => ?_))
  refine l_pure 1 (fun L => (23, .pointer (some ⟨b1, 4, none⟩)) :: L) F (by kernel_rfl) fun a F => ?_
  refine l_do F rfl rfl (op_load _ _ (some ⟨b1, 0, none⟩) 4 (.int .u64 o.m) F rfl (by kernel_rfl) (by kernel_rfl) (cBox S 3 rfl (j := 4) rfl) (fun a F => ?_))
  refine l_pure 1 (fun L => (25, .agg #[.int .u64 o.n, .int .u64 o.m]) :: L) F (by kernel_rfl) fun a F => ?_
  obtain ⟨G9, g9, hin9, hlt9, k9⟩ := S.frameB [1] (by decide) rfl
  refine l_do F rfl rfl (op_fn F (by kernel_rfl) (open24_any _ G9 bx I okI g9 o.a o.b o.n o.m ho.n ho.m) ?_)
  rintro e z9 ⟨rfl, g⟩
  have S : Sat w z9 [rest w G, idA bx (openP I o.a o.b o.n o.m).1, refA bm J, box b1 40 [.int .i64 o.kind, .int .i64 o.a, .int .i64 o.b, .int .u64 o.n, .int .u64 o.m, .int .u64 o.id, .slice o.Ar o.E.length o.cr, .slice o.As o.A.length o.cs, .bool o.y]] := k9 z9 [idA bx (openP I o.a o.b o.n o.m).1] rfl g
  clear g g9 k9 hin9 hlt9
  refine ⟨_, rfl, ?_⟩
  intro a F
  refine l_pure 5 (fun L => (8, .int .i64 ((openP I o.a o.b o.n o.m).2.2)) :: (7, .int .i64 ((openP I o.a o.b o.n o.m).2.1)) :: (28, .int .i64 ((openP I o.a o.b o.n o.m).2.2)) :: (27, .int .i64 ((openP I o.a o.b o.n o.m).2.1)) :: (15, .tuple #[.int .i64 ((openP I o.a o.b o.n o.m).2.1), .int .i64 ((openP I o.a o.b o.n o.m).2.2)]) :: L) F (by kernel_rfl) fun a F => ?_
  refine l_then ?_
  refine s_reg ?_
  refine l_pure 2 (fun L => (31, .pointer (some ⟨b1, 1, none⟩)) :: (30, .pointer (some ⟨bm, 0, none⟩)) :: L) F (by kernel_rfl) fun a F => ?_
  refine l_do F rfl rfl (op_load _ _ (some ⟨b1, 0, none⟩) 1 (.int .i64 o.a) F rfl (by kernel_rfl) (by kernel_rfl) (cBox S 3 rfl (j := 1) rfl) (fun a F => ?_))
  refine l_pure 1 (fun L => (33, .pointer (some ⟨b1, 2, none⟩)) :: L) F (by kernel_rfl) fun a F => ?_
  refine l_do F rfl rfl (op_load _ _ (some ⟨b1, 0, none⟩) 2 (.int .i64 o.b) F rfl (by kernel_rfl) (by kernel_rfl) (cBox S 3 rfl (j := 2) rfl) (fun a F => ?_))
  refine l_pure 1 (fun L => (35, .pointer (some ⟨b1, 3, none⟩)) :: L) F (by kernel_rfl) fun a F => ?_
  refine l_do F rfl rfl (op_load _ _ (some ⟨b1, 0, none⟩) 3 (.int .u64 o.n) F rfl (by kernel_rfl) (by kernel_rfl) (cBox S 3 rfl (j := 3) rfl) (fun a F => ?_))
  refine l_pure 1 (fun L => (37, .pointer (some ⟨b1, 4, none⟩)) :: L) F (by kernel_rfl) fun a F => ?_
  refine l_do F rfl rfl (op_load _ _ (some ⟨b1, 0, none⟩) 4 (.int .u64 o.m) F rfl (by kernel_rfl) (by kernel_rfl) (cBox S 3 rfl (j := 4) rfl) (fun a F => ?_))
  refine l_pure 1 (fun L => (39, .agg #[.int .u64 o.n, .int .u64 o.m]) :: L) F (by kernel_rfl) fun a F => ?_
  obtain ⟨G9, g9, hin9, hlt9, k9⟩ := S.frameB [2] (by decide) rfl
  refine l_do F rfl rfl (op_fn F (by kernel_rfl) (ropen24_any _ G9 bm J okJ g9 o.a o.b o.n o.m ho.n ho.m) ?_)
  rintro e z9 ⟨rfl, g⟩
  have S : Sat w z9 [rest w G, idA bx (openP I o.a o.b o.n o.m).1, refA bm (openP J o.a o.b o.n o.m).1, box b1 40 [.int .i64 o.kind, .int .i64 o.a, .int .i64 o.b, .int .u64 o.n, .int .u64 o.m, .int .u64 o.id, .slice o.Ar o.E.length o.cr, .slice o.As o.A.length o.cs, .bool o.y]] := k9 z9 [refA bm (openP J o.a o.b o.n o.m).1] rfl g
  clear g g9 k9 hin9 hlt9
  refine ⟨_, rfl, ?_⟩
  intro a F
  refine l_pure 5 (fun L => (10, .int .i64 ((openP J o.a o.b o.n o.m).2.2)) :: (9, .int .i64 ((openP J o.a o.b o.n o.m).2.1)) :: (42, .int .i64 ((openP J o.a o.b o.n o.m).2.2)) :: (41, .int .i64 ((openP J o.a o.b o.n o.m).2.1)) :: (29, .tuple #[.int .i64 ((openP J o.a o.b o.n o.m).2.1), .int .i64 ((openP J o.a o.b o.n o.m).2.2)]) :: L) F (by kernel_rfl) fun a F => ?_
  refine l_then ?_
  refine s_reg ?_
  refine l_pure 2 (fun L => (44, .int .i64 ((openP J o.a o.b o.n o.m).2.1)) :: (43, .int .i64 ((openP I o.a o.b o.n o.m).2.1)) :: L) F (by kernel_rfl) fun a F => ?_
  by_cases ht3 : ((openP I o.a o.b o.n o.m).2.1 : Int) = ((openP J o.a o.b o.n o.m).2.1 : Int)
  ·
   skip
   refine l_do F rfl rfl (op_pure F (v0 := .bool (((openP I o.a o.b o.n o.m).2.1 : Int) == ((openP J o.a o.b o.n o.m).2.1 : Int))) (v := .bool true) (by kernel_rfl) (eqlT ht3) fun a F => ?_)
   refine l_pure 3 (fun L => (48, .int .i64 ((openP J o.a o.b o.n o.m).2.2)) :: (47, .int .i64 ((openP I o.a o.b o.n o.m).2.2)) :: (46, .bool true) :: L) F (by kernel_rfl) fun a F => ?_
   by_cases ht4 : ((openP I o.a o.b o.n o.m).2.2 : Int) = ((openP J o.a o.b o.n o.m).2.2 : Int)
   ·
    skip
    refine l_do F rfl rfl (op_pure F (v0 := .bool (((openP I o.a o.b o.n o.m).2.2 : Int) == ((openP J o.a o.b o.n o.m).2.2 : Int))) (v := .bool true) (by kernel_rfl) (eqlT ht4) fun a F => ?_)
    refine l_pure 2 (fun L => (6, .bool true) :: (50, .bool true) :: L) F (by kernel_rfl) fun a F => ?_
    refine l_then ?_
    refine wp_ret ?_
    refine inb_r (then_r (?_))
    exact fin F [.tmp 6] [.bool true] rfl ⟨by kernel_rfl, trivial⟩ (.bool true) rfl ⟨true, rfl, (fun _ => rfl), by rw [step_0 ht2, step_0 ht2]; exact S.pick [1, 2, 0] (by decide)⟩
   ·
    skip
    refine l_do F rfl rfl (op_pure F (v0 := .bool (((openP I o.a o.b o.n o.m).2.2 : Int) == ((openP J o.a o.b o.n o.m).2.2 : Int))) (v := .bool false) (by kernel_rfl) (eqlF ht4) fun a F => ?_)
    refine l_pure 2 (fun L => (6, .bool false) :: (50, .bool false) :: L) F (by kernel_rfl) fun a F => ?_
    refine l_then ?_
    refine wp_ret ?_
    refine inb_r (then_r (?_))
    exact fin F [.tmp 6] [.bool false] rfl ⟨by kernel_rfl, trivial⟩ (.bool false) rfl ⟨false, rfl, (fun hIJ => absurd (by rw [hIJ]) ht4), by rw [step_0 ht2, step_0 ht2]; exact S.pick [1, 2, 0] (by decide)⟩
  ·
   skip
   refine l_do F rfl rfl (op_pure F (v0 := .bool (((openP I o.a o.b o.n o.m).2.1 : Int) == ((openP J o.a o.b o.n o.m).2.1 : Int))) (v := .bool false) (by kernel_rfl) (eqlF ht3) fun a F => ?_)
   refine l_pure 6 (fun L => (6, .bool false) :: (50, .bool false) :: (49, undef) :: (48, undef) :: (47, undef) :: (46, .bool false) :: L) F (by kernel_rfl) fun a F => ?_
   refine l_then ?_
   refine wp_ret ?_
   refine inb_r (then_r (?_))
   exact fin F [.tmp 6] [.bool false] rfl ⟨by kernel_rfl, trivial⟩ (.bool false) rfl ⟨false, rfl, (fun hIJ => absurd (by rw [hIJ]) ht3), by rw [step_0 ht2, step_0 ht2]; exact S.pick [1, 2, 0] (by decide)⟩
 ·
  skip
  refine l_do F rfl rfl (op_pure F (v0 := .bool ((o.kind : Int) == (0 : Int))) (v := .bool false) (by kernel_rfl) (eqlF ht2) fun a F => ?_)
  refine l_pure 1 (fun L => (13, .bool false) :: L) F (by kernel_rfl) fun a F => ?_
  refine l_then ?_
  refine c_f F rfl ?_
  refine s_reg ?_
  by_cases ht5 : (o.kind : Int) = (1 : Int)
  ·
   skip
   refine l_do F rfl rfl (op_pure F (v0 := .bool ((o.kind : Int) == (1 : Int))) (v := .bool true) (by kernel_rfl) (eqlT ht5) fun a F => ?_)
   refine l_pure 1 (fun L => (51, .bool true) :: L) F (by kernel_rfl) fun a F => ?_
   refine l_then ?_
   refine c_t F rfl ?_
   refine wp_seq ?_
   by_cases ht6 : ((putP I o.a o.b o.n).2 : Int) = ((putP J o.a o.b o.n).2 : Int)
   ·
    skip
    refine region_gx (fun D => fun (_ : Unit) => [rest w G, bif D 7 then idA bx (putP I o.a o.b o.n).1 else idA bx I, bif D 15 then refA bm (putP J o.a o.b o.n).1 else refA bm J, box b1 40 [.int .i64 o.kind, .int .i64 o.a, .int .i64 o.b, .int .u64 o.n, .int .u64 o.m, .int .u64 o.id, .slice o.Ar o.E.length o.cr, .slice o.As o.A.length o.cs, .bool o.y]]) (fun (_ : Unit) => [.pointer (some ⟨bx, 0, none⟩), .pointer (some ⟨b1, 1, none⟩), .int .i64 o.a, .pointer (some ⟨b1, 2, none⟩), .int .i64 o.b, .pointer (some ⟨b1, 3, none⟩), .int .u64 o.n, .int .i64 ((putP I o.a o.b o.n).2), .pointer (some ⟨bm, 0, none⟩), .pointer (some ⟨b1, 1, none⟩), .int .i64 o.a, .pointer (some ⟨b1, 2, none⟩), .int .i64 o.b, .pointer (some ⟨b1, 3, none⟩), .int .u64 o.n, .int .i64 ((putP J o.a o.b o.n).2), .bool true, .bool true]) [(2, [], [7, 15, 16]), (4, [], [7, 15, 16]), (6, [], [7, 15, 16]), (7, [2, 4, 6], [15, 16]), (10, [], [15, 16]), (12, [], [15, 16]), (14, [], [15, 16]), (15, [2, 4, 6, 7, 10, 12, 14], [16]), (16, [2, 4, 6, 7, 10, 12, 14, 15], [])] () rfl (by kernel_rfl) (by kernel_rfl) F S.drew ?_ ?_ ?_ ?_ ?_
    · rintro ⟨⟩; rfl
    · rintro ⟨⟩; kernel_rfl
    ·
     intro D D' x h
     cases x
     simp only [h 7 (by decide), h 15 (by decide)]
    ·
     refine ⟨?_, ?_⟩
     ·
      refine ⟨_, rfl, rfl, by kernel_rfl, ?_⟩
      rintro D ⟨⟩ a z S F
      refine ⟨by kernel_rfl, ?_⟩
      exact op_load _ _ (some ⟨b1, 0, none⟩) 1 (.int .i64 o.a) F rfl (by kernel_rfl) (by kernel_rfl) (cBox S 3 rfl (j := 1) rfl) (⟨(), rfl, (SameB.refl _ _ rfl), S⟩)
     refine ⟨?_, ?_⟩
     ·
      refine ⟨_, rfl, rfl, by kernel_rfl, ?_⟩
      rintro D ⟨⟩ a z S F
      refine ⟨by kernel_rfl, ?_⟩
      exact op_load _ _ (some ⟨b1, 0, none⟩) 2 (.int .i64 o.b) F rfl (by kernel_rfl) (by kernel_rfl) (cBox S 3 rfl (j := 2) rfl) (⟨(), rfl, (SameB.refl _ _ rfl), S⟩)
     refine ⟨?_, ?_⟩
     ·
      refine ⟨_, rfl, rfl, by kernel_rfl, ?_⟩
      rintro D ⟨⟩ a z S F
      refine ⟨by kernel_rfl, ?_⟩
      exact op_load _ _ (some ⟨b1, 0, none⟩) 3 (.int .u64 o.n) F rfl (by kernel_rfl) (by kernel_rfl) (cBox S 3 rfl (j := 3) rfl) (⟨(), rfl, (SameB.refl _ _ rfl), S⟩)
     refine ⟨?_, ?_⟩
     ·
      refine ⟨_, rfl, rfl, by kernel_rfl, ?_⟩
      rintro D ⟨⟩ a z S F
      refine ⟨by kernel_rfl, ?_⟩
      have S : Sat w z [rest w G, idA bx I, refA bm J, box b1 40 [.int .i64 o.kind, .int .i64 o.a, .int .i64 o.b, .int .u64 o.n, .int .u64 o.m, .int .u64 o.id, .slice o.Ar o.E.length o.cr, .slice o.As o.A.length o.cs, .bool o.y]] := S
      obtain ⟨G9, g9, hin9, hlt9, k9⟩ := S.frameB [1] (by decide) rfl
      refine op_fn F (by kernel_rfl) (put24_any _ G9 bx I okI g9 o.a o.b o.n ho.n) ?_
      rintro e z9 ⟨rfl, g⟩
      have S : Sat w z9 [rest w G, idA bx (putP I o.a o.b o.n).1, refA bm J, box b1 40 [.int .i64 o.kind, .int .i64 o.a, .int .i64 o.b, .int .u64 o.n, .int .u64 o.m, .int .u64 o.id, .slice o.Ar o.E.length o.cr, .slice o.As o.A.length o.cs, .bool o.y]] := k9 z9 [idA bx (putP I o.a o.b o.n).1] rfl g
      clear g g9 k9 hin9 hlt9
      exact ⟨_, rfl, (), rfl, (SameB.refl _ _ rfl), S⟩
     refine ⟨?_, ?_⟩
     ·
      refine ⟨_, rfl, rfl, by kernel_rfl, ?_⟩
      rintro D ⟨⟩ a z S F
      refine ⟨by kernel_rfl, ?_⟩
      exact op_load _ _ (some ⟨b1, 0, none⟩) 1 (.int .i64 o.a) F rfl (by kernel_rfl) (by kernel_rfl) (cBox S 3 rfl (j := 1) rfl) (⟨(), rfl, (SameB.refl _ _ rfl), S⟩)
     refine ⟨?_, ?_⟩
     ·
      refine ⟨_, rfl, rfl, by kernel_rfl, ?_⟩
      rintro D ⟨⟩ a z S F
      refine ⟨by kernel_rfl, ?_⟩
      exact op_load _ _ (some ⟨b1, 0, none⟩) 2 (.int .i64 o.b) F rfl (by kernel_rfl) (by kernel_rfl) (cBox S 3 rfl (j := 2) rfl) (⟨(), rfl, (SameB.refl _ _ rfl), S⟩)
     refine ⟨?_, ?_⟩
     ·
      refine ⟨_, rfl, rfl, by kernel_rfl, ?_⟩
      rintro D ⟨⟩ a z S F
      refine ⟨by kernel_rfl, ?_⟩
      exact op_load _ _ (some ⟨b1, 0, none⟩) 3 (.int .u64 o.n) F rfl (by kernel_rfl) (by kernel_rfl) (cBox S 3 rfl (j := 3) rfl) (⟨(), rfl, (SameB.refl _ _ rfl), S⟩)
     refine ⟨?_, ?_⟩
     ·
      refine ⟨_, rfl, rfl, by kernel_rfl, ?_⟩
      rintro D ⟨⟩ a z S F
      refine ⟨by kernel_rfl, ?_⟩
      have S : Sat w z [rest w G, idA bx (putP I o.a o.b o.n).1, refA bm J, box b1 40 [.int .i64 o.kind, .int .i64 o.a, .int .i64 o.b, .int .u64 o.n, .int .u64 o.m, .int .u64 o.id, .slice o.Ar o.E.length o.cr, .slice o.As o.A.length o.cs, .bool o.y]] := S
      obtain ⟨G9, g9, hin9, hlt9, k9⟩ := S.frameB [2] (by decide) rfl
      refine op_fn F (by kernel_rfl) (rput24_any _ G9 bm J okJ g9 o.a o.b o.n ho.n) ?_
      rintro e z9 ⟨rfl, g⟩
      have S : Sat w z9 [rest w G, idA bx (putP I o.a o.b o.n).1, refA bm (putP J o.a o.b o.n).1, box b1 40 [.int .i64 o.kind, .int .i64 o.a, .int .i64 o.b, .int .u64 o.n, .int .u64 o.m, .int .u64 o.id, .slice o.Ar o.E.length o.cr, .slice o.As o.A.length o.cs, .bool o.y]] := k9 z9 [refA bm (putP J o.a o.b o.n).1] rfl g
      clear g g9 k9 hin9 hlt9
      exact ⟨_, rfl, (), rfl, (SameB.refl _ _ rfl), S⟩
     refine ⟨?_, ?_⟩
     ·
      refine ⟨_, rfl, rfl, by kernel_rfl, ?_⟩
      rintro D ⟨⟩ a z S F
      refine ⟨by kernel_rfl, ?_⟩
      exact op_pure F (v0 := .bool (((putP I o.a o.b o.n).2 : Int) == ((putP J o.a o.b o.n).2 : Int))) (v := .bool true) (by kernel_rfl) (eqlT ht6) ⟨(), rfl, (SameB.refl _ _ rfl), S⟩
     trivial
    ·
     rintro ⟨⟩ a z F S
     have F := F.sub (l := [(6, .bool true)]) ⟨by kernel_rfl, trivial⟩
     have S : Sat w z [rest w G, idA bx (putP I o.a o.b o.n).1, refA bm (putP J o.a o.b o.n).1, box b1 40 [.int .i64 o.kind, .int .i64 o.a, .int .i64 o.b, .int .u64 o.n, .int .u64 o.m, .int .u64 o.id, .slice o.Ar o.E.length o.cr, .slice o.As o.A.length o.cs, .bool o.y]] := S
     refine then_n ?_
     refine wp_ret ?_
     refine inb_r (then_r (?_))
     exact fin F [.tmp 6] [.bool true] rfl ⟨by kernel_rfl, trivial⟩ (.bool true) rfl ⟨true, rfl, (fun _ => rfl), by rw [step_1 ht5, step_1 ht5]; exact S.pick [1, 2, 0] (by decide)⟩
   ·
    skip
    refine region_gx (fun D => fun (_ : Unit) => [rest w G, bif D 7 then idA bx (putP I o.a o.b o.n).1 else idA bx I, bif D 15 then refA bm (putP J o.a o.b o.n).1 else refA bm J, box b1 40 [.int .i64 o.kind, .int .i64 o.a, .int .i64 o.b, .int .u64 o.n, .int .u64 o.m, .int .u64 o.id, .slice o.Ar o.E.length o.cr, .slice o.As o.A.length o.cs, .bool o.y]]) (fun (_ : Unit) => [.pointer (some ⟨bx, 0, none⟩), .pointer (some ⟨b1, 1, none⟩), .int .i64 o.a, .pointer (some ⟨b1, 2, none⟩), .int .i64 o.b, .pointer (some ⟨b1, 3, none⟩), .int .u64 o.n, .int .i64 ((putP I o.a o.b o.n).2), .pointer (some ⟨bm, 0, none⟩), .pointer (some ⟨b1, 1, none⟩), .int .i64 o.a, .pointer (some ⟨b1, 2, none⟩), .int .i64 o.b, .pointer (some ⟨b1, 3, none⟩), .int .u64 o.n, .int .i64 ((putP J o.a o.b o.n).2), .bool false, .bool false]) [(2, [], [7, 15, 16]), (4, [], [7, 15, 16]), (6, [], [7, 15, 16]), (7, [2, 4, 6], [15, 16]), (10, [], [15, 16]), (12, [], [15, 16]), (14, [], [15, 16]), (15, [2, 4, 6, 7, 10, 12, 14], [16]), (16, [2, 4, 6, 7, 10, 12, 14, 15], [])] () rfl (by kernel_rfl) (by kernel_rfl) F S.drew ?_ ?_ ?_ ?_ ?_
    · rintro ⟨⟩; rfl
    · rintro ⟨⟩; kernel_rfl
    ·
     intro D D' x h
     cases x
     simp only [h 7 (by decide), h 15 (by decide)]
    ·
     refine ⟨?_, ?_⟩
     ·
      refine ⟨_, rfl, rfl, by kernel_rfl, ?_⟩
      rintro D ⟨⟩ a z S F
      refine ⟨by kernel_rfl, ?_⟩
      exact op_load _ _ (some ⟨b1, 0, none⟩) 1 (.int .i64 o.a) F rfl (by kernel_rfl) (by kernel_rfl) (cBox S 3 rfl (j := 1) rfl) (⟨(), rfl, (SameB.refl _ _ rfl), S⟩)
     refine ⟨?_, ?_⟩
     ·
      refine ⟨_, rfl, rfl, by kernel_rfl, ?_⟩
      rintro D ⟨⟩ a z S F
      refine ⟨by kernel_rfl, ?_⟩
      exact op_load _ _ (some ⟨b1, 0, none⟩) 2 (.int .i64 o.b) F rfl (by kernel_rfl) (by kernel_rfl) (cBox S 3 rfl (j := 2) rfl) (⟨(), rfl, (SameB.refl _ _ rfl), S⟩)
     refine ⟨?_, ?_⟩
     ·
      refine ⟨_, rfl, rfl, by kernel_rfl, ?_⟩
      rintro D ⟨⟩ a z S F
      refine ⟨by kernel_rfl, ?_⟩
      exact op_load _ _ (some ⟨b1, 0, none⟩) 3 (.int .u64 o.n) F rfl (by kernel_rfl) (by kernel_rfl) (cBox S 3 rfl (j := 3) rfl) (⟨(), rfl, (SameB.refl _ _ rfl), S⟩)
     refine ⟨?_, ?_⟩
     ·
      refine ⟨_, rfl, rfl, by kernel_rfl, ?_⟩
      rintro D ⟨⟩ a z S F
      refine ⟨by kernel_rfl, ?_⟩
      have S : Sat w z [rest w G, idA bx I, refA bm J, box b1 40 [.int .i64 o.kind, .int .i64 o.a, .int .i64 o.b, .int .u64 o.n, .int .u64 o.m, .int .u64 o.id, .slice o.Ar o.E.length o.cr, .slice o.As o.A.length o.cs, .bool o.y]] := S
      obtain ⟨G9, g9, hin9, hlt9, k9⟩ := S.frameB [1] (by decide) rfl
      refine op_fn F (by kernel_rfl) (put24_any _ G9 bx I okI g9 o.a o.b o.n ho.n) ?_
      rintro e z9 ⟨rfl, g⟩
      have S : Sat w z9 [rest w G, idA bx (putP I o.a o.b o.n).1, refA bm J, box b1 40 [.int .i64 o.kind, .int .i64 o.a, .int .i64 o.b, .int .u64 o.n, .int .u64 o.m, .int .u64 o.id, .slice o.Ar o.E.length o.cr, .slice o.As o.A.length o.cs, .bool o.y]] := k9 z9 [idA bx (putP I o.a o.b o.n).1] rfl g
      clear g g9 k9 hin9 hlt9
      exact ⟨_, rfl, (), rfl, (SameB.refl _ _ rfl), S⟩
     refine ⟨?_, ?_⟩
     ·
      refine ⟨_, rfl, rfl, by kernel_rfl, ?_⟩
      rintro D ⟨⟩ a z S F
      refine ⟨by kernel_rfl, ?_⟩
      exact op_load _ _ (some ⟨b1, 0, none⟩) 1 (.int .i64 o.a) F rfl (by kernel_rfl) (by kernel_rfl) (cBox S 3 rfl (j := 1) rfl) (⟨(), rfl, (SameB.refl _ _ rfl), S⟩)
     refine ⟨?_, ?_⟩
     ·
      refine ⟨_, rfl, rfl, by kernel_rfl, ?_⟩
      rintro D ⟨⟩ a z S F
      refine ⟨by kernel_rfl, ?_⟩
      exact op_load _ _ (some ⟨b1, 0, none⟩) 2 (.int .i64 o.b) F rfl (by kernel_rfl) (by kernel_rfl) (cBox S 3 rfl (j := 2) rfl) (⟨(), rfl, (SameB.refl _ _ rfl), S⟩)
     refine ⟨?_, ?_⟩
     ·
      refine ⟨_, rfl, rfl, by kernel_rfl, ?_⟩
      rintro D ⟨⟩ a z S F
      refine ⟨by kernel_rfl, ?_⟩
      exact op_load _ _ (some ⟨b1, 0, none⟩) 3 (.int .u64 o.n) F rfl (by kernel_rfl) (by kernel_rfl) (cBox S 3 rfl (j := 3) rfl) (⟨(), rfl, (SameB.refl _ _ rfl), S⟩)
     refine ⟨?_, ?_⟩
     ·
      refine ⟨_, rfl, rfl, by kernel_rfl, ?_⟩
      rintro D ⟨⟩ a z S F
      refine ⟨by kernel_rfl, ?_⟩
      have S : Sat w z [rest w G, idA bx (putP I o.a o.b o.n).1, refA bm J, box b1 40 [.int .i64 o.kind, .int .i64 o.a, .int .i64 o.b, .int .u64 o.n, .int .u64 o.m, .int .u64 o.id, .slice o.Ar o.E.length o.cr, .slice o.As o.A.length o.cs, .bool o.y]] := S
      obtain ⟨G9, g9, hin9, hlt9, k9⟩ := S.frameB [2] (by decide) rfl
      refine op_fn F (by kernel_rfl) (rput24_any _ G9 bm J okJ g9 o.a o.b o.n ho.n) ?_
      rintro e z9 ⟨rfl, g⟩
      have S : Sat w z9 [rest w G, idA bx (putP I o.a o.b o.n).1, refA bm (putP J o.a o.b o.n).1, box b1 40 [.int .i64 o.kind, .int .i64 o.a, .int .i64 o.b, .int .u64 o.n, .int .u64 o.m, .int .u64 o.id, .slice o.Ar o.E.length o.cr, .slice o.As o.A.length o.cs, .bool o.y]] := k9 z9 [refA bm (putP J o.a o.b o.n).1] rfl g
      clear g g9 k9 hin9 hlt9
      exact ⟨_, rfl, (), rfl, (SameB.refl _ _ rfl), S⟩
     refine ⟨?_, ?_⟩
     ·
      refine ⟨_, rfl, rfl, by kernel_rfl, ?_⟩
      rintro D ⟨⟩ a z S F
      refine ⟨by kernel_rfl, ?_⟩
      exact op_pure F (v0 := .bool (((putP I o.a o.b o.n).2 : Int) == ((putP J o.a o.b o.n).2 : Int))) (v := .bool false) (by kernel_rfl) (eqlF ht6) ⟨(), rfl, (SameB.refl _ _ rfl), S⟩
     trivial
    ·
     rintro ⟨⟩ a z F S
     have F := F.sub (l := [(6, .bool false)]) ⟨by kernel_rfl, trivial⟩
     have S : Sat w z [rest w G, idA bx (putP I o.a o.b o.n).1, refA bm (putP J o.a o.b o.n).1, box b1 40 [.int .i64 o.kind, .int .i64 o.a, .int .i64 o.b, .int .u64 o.n, .int .u64 o.m, .int .u64 o.id, .slice o.Ar o.E.length o.cr, .slice o.As o.A.length o.cs, .bool o.y]] := S
     refine then_n ?_
     refine wp_ret ?_
     refine inb_r (then_r (?_))
     exact fin F [.tmp 6] [.bool false] rfl ⟨by kernel_rfl, trivial⟩ (.bool false) rfl ⟨false, rfl, (fun hIJ => absurd (by rw [hIJ]) ht6), by rw [step_1 ht5, step_1 ht5]; exact S.pick [1, 2, 0] (by decide)⟩
  ·
   skip
   refine l_do F rfl rfl (op_pure F (v0 := .bool ((o.kind : Int) == (1 : Int))) (v := .bool false) (by kernel_rfl) (eqlF ht5) fun a F => ?_)
   refine l_pure 1 (fun L => (51, .bool false) :: L) F (by kernel_rfl) fun a F => ?_
   refine l_then ?_
   refine c_f F rfl ?_
   refine s_reg ?_
   by_cases ht7 : (o.kind : Int) = (2 : Int)
   ·
    skip
    refine l_do F rfl rfl (op_pure F (v0 := .bool ((o.kind : Int) == (2 : Int))) (v := .bool true) (by kernel_rfl) (eqlT ht7) fun a F => ?_)
    refine l_pure 1 (fun L => (70, .bool true) :: L) F (by kernel_rfl) fun a F => ?_
    refine l_then ?_
    refine c_t F rfl ?_
    refine wp_seq ?_
    by_cases ht8 : ((takeP I o.a o.b o.n).2 : Int) = ((takeP J o.a o.b o.n).2 : Int)
    ·
     skip
     refine region_gx (fun D => fun (_ : Unit) => [rest w G, bif D 7 then idA bx (takeP I o.a o.b o.n).1 else idA bx I, bif D 15 then refA bm (takeP J o.a o.b o.n).1 else refA bm J, box b1 40 [.int .i64 o.kind, .int .i64 o.a, .int .i64 o.b, .int .u64 o.n, .int .u64 o.m, .int .u64 o.id, .slice o.Ar o.E.length o.cr, .slice o.As o.A.length o.cs, .bool o.y]]) (fun (_ : Unit) => [.pointer (some ⟨bx, 0, none⟩), .pointer (some ⟨b1, 1, none⟩), .int .i64 o.a, .pointer (some ⟨b1, 2, none⟩), .int .i64 o.b, .pointer (some ⟨b1, 3, none⟩), .int .u64 o.n, .int .i64 ((takeP I o.a o.b o.n).2), .pointer (some ⟨bm, 0, none⟩), .pointer (some ⟨b1, 1, none⟩), .int .i64 o.a, .pointer (some ⟨b1, 2, none⟩), .int .i64 o.b, .pointer (some ⟨b1, 3, none⟩), .int .u64 o.n, .int .i64 ((takeP J o.a o.b o.n).2), .bool true, .bool true]) [(2, [], [7, 15, 16]), (4, [], [7, 15, 16]), (6, [], [7, 15, 16]), (7, [2, 4, 6], [15, 16]), (10, [], [15, 16]), (12, [], [15, 16]), (14, [], [15, 16]), (15, [2, 4, 6, 7, 10, 12, 14], [16]), (16, [2, 4, 6, 7, 10, 12, 14, 15], [])] () rfl (by kernel_rfl) (by kernel_rfl) F S.drew ?_ ?_ ?_ ?_ ?_
     · rintro ⟨⟩; rfl
     · rintro ⟨⟩; kernel_rfl
     ·
      intro D D' x h
      cases x
      simp only [h 7 (by decide), h 15 (by decide)]
     ·
      refine ⟨?_, ?_⟩
      ·
       refine ⟨_, rfl, rfl, by kernel_rfl, ?_⟩
       rintro D ⟨⟩ a z S F
       refine ⟨by kernel_rfl, ?_⟩
       exact op_load _ _ (some ⟨b1, 0, none⟩) 1 (.int .i64 o.a) F rfl (by kernel_rfl) (by kernel_rfl) (cBox S 3 rfl (j := 1) rfl) (⟨(), rfl, (SameB.refl _ _ rfl), S⟩)
      refine ⟨?_, ?_⟩
      ·
       refine ⟨_, rfl, rfl, by kernel_rfl, ?_⟩
       rintro D ⟨⟩ a z S F
       refine ⟨by kernel_rfl, ?_⟩
       exact op_load _ _ (some ⟨b1, 0, none⟩) 2 (.int .i64 o.b) F rfl (by kernel_rfl) (by kernel_rfl) (cBox S 3 rfl (j := 2) rfl) (⟨(), rfl, (SameB.refl _ _ rfl), S⟩)
      refine ⟨?_, ?_⟩
      ·
       refine ⟨_, rfl, rfl, by kernel_rfl, ?_⟩
       rintro D ⟨⟩ a z S F
       refine ⟨by kernel_rfl, ?_⟩
       exact op_load _ _ (some ⟨b1, 0, none⟩) 3 (.int .u64 o.n) F rfl (by kernel_rfl) (by kernel_rfl) (cBox S 3 rfl (j := 3) rfl) (⟨(), rfl, (SameB.refl _ _ rfl), S⟩)
      refine ⟨?_, ?_⟩
      ·
       refine ⟨_, rfl, rfl, by kernel_rfl, ?_⟩
       rintro D ⟨⟩ a z S F
       refine ⟨by kernel_rfl, ?_⟩
       have S : Sat w z [rest w G, idA bx I, refA bm J, box b1 40 [.int .i64 o.kind, .int .i64 o.a, .int .i64 o.b, .int .u64 o.n, .int .u64 o.m, .int .u64 o.id, .slice o.Ar o.E.length o.cr, .slice o.As o.A.length o.cs, .bool o.y]] := S
       obtain ⟨G9, g9, hin9, hlt9, k9⟩ := S.frameB [1] (by decide) rfl
       refine op_fn F (by kernel_rfl) (take24_any _ G9 bx I okI g9 o.a o.b o.n ho.n) ?_
       rintro e z9 ⟨rfl, g⟩
       have S : Sat w z9 [rest w G, idA bx (takeP I o.a o.b o.n).1, refA bm J, box b1 40 [.int .i64 o.kind, .int .i64 o.a, .int .i64 o.b, .int .u64 o.n, .int .u64 o.m, .int .u64 o.id, .slice o.Ar o.E.length o.cr, .slice o.As o.A.length o.cs, .bool o.y]] := k9 z9 [idA bx (takeP I o.a o.b o.n).1] rfl g
       clear g g9 k9 hin9 hlt9
       exact ⟨_, rfl, (), rfl, (SameB.refl _ _ rfl), S⟩
      refine ⟨?_, ?_⟩
      ·
       refine ⟨_, rfl, rfl, by kernel_rfl, ?_⟩
       rintro D ⟨⟩ a z S F
       refine ⟨by kernel_rfl, ?_⟩
       exact op_load _ _ (some ⟨b1, 0, none⟩) 1 (.int .i64 o.a) F rfl (by kernel_rfl) (by kernel_rfl) (cBox S 3 rfl (j := 1) rfl) (⟨(), rfl, (SameB.refl _ _ rfl), S⟩)
      refine ⟨?_, ?_⟩
      ·
       refine ⟨_, rfl, rfl, by kernel_rfl, ?_⟩
       rintro D ⟨⟩ a z S F
       refine ⟨by kernel_rfl, ?_⟩
       exact op_load _ _ (some ⟨b1, 0, none⟩) 2 (.int .i64 o.b) F rfl (by kernel_rfl) (by kernel_rfl) (cBox S 3 rfl (j := 2) rfl) (⟨(), rfl, (SameB.refl _ _ rfl), S⟩)
      refine ⟨?_, ?_⟩
      ·
       refine ⟨_, rfl, rfl, by kernel_rfl, ?_⟩
       rintro D ⟨⟩ a z S F
       refine ⟨by kernel_rfl, ?_⟩
       exact op_load _ _ (some ⟨b1, 0, none⟩) 3 (.int .u64 o.n) F rfl (by kernel_rfl) (by kernel_rfl) (cBox S 3 rfl (j := 3) rfl) (⟨(), rfl, (SameB.refl _ _ rfl), S⟩)
      refine ⟨?_, ?_⟩
      ·
       refine ⟨_, rfl, rfl, by kernel_rfl, ?_⟩
       rintro D ⟨⟩ a z S F
       refine ⟨by kernel_rfl, ?_⟩
       have S : Sat w z [rest w G, idA bx (takeP I o.a o.b o.n).1, refA bm J, box b1 40 [.int .i64 o.kind, .int .i64 o.a, .int .i64 o.b, .int .u64 o.n, .int .u64 o.m, .int .u64 o.id, .slice o.Ar o.E.length o.cr, .slice o.As o.A.length o.cs, .bool o.y]] := S
       obtain ⟨G9, g9, hin9, hlt9, k9⟩ := S.frameB [2] (by decide) rfl
       refine op_fn F (by kernel_rfl) (rtake24_any _ G9 bm J okJ g9 o.a o.b o.n ho.n) ?_
       rintro e z9 ⟨rfl, g⟩
       have S : Sat w z9 [rest w G, idA bx (takeP I o.a o.b o.n).1, refA bm (takeP J o.a o.b o.n).1, box b1 40 [.int .i64 o.kind, .int .i64 o.a, .int .i64 o.b, .int .u64 o.n, .int .u64 o.m, .int .u64 o.id, .slice o.Ar o.E.length o.cr, .slice o.As o.A.length o.cs, .bool o.y]] := k9 z9 [refA bm (takeP J o.a o.b o.n).1] rfl g
       clear g g9 k9 hin9 hlt9
       exact ⟨_, rfl, (), rfl, (SameB.refl _ _ rfl), S⟩
      refine ⟨?_, ?_⟩
      ·
       refine ⟨_, rfl, rfl, by kernel_rfl, ?_⟩
       rintro D ⟨⟩ a z S F
       refine ⟨by kernel_rfl, ?_⟩
       exact op_pure F (v0 := .bool (((takeP I o.a o.b o.n).2 : Int) == ((takeP J o.a o.b o.n).2 : Int))) (v := .bool true) (by kernel_rfl) (eqlT ht8) ⟨(), rfl, (SameB.refl _ _ rfl), S⟩
      trivial
     ·
      rintro ⟨⟩ a z F S
      have F := F.sub (l := [(6, .bool true)]) ⟨by kernel_rfl, trivial⟩
      have S : Sat w z [rest w G, idA bx (takeP I o.a o.b o.n).1, refA bm (takeP J o.a o.b o.n).1, box b1 40 [.int .i64 o.kind, .int .i64 o.a, .int .i64 o.b, .int .u64 o.n, .int .u64 o.m, .int .u64 o.id, .slice o.Ar o.E.length o.cr, .slice o.As o.A.length o.cs, .bool o.y]] := S
      refine then_n ?_
      refine wp_ret ?_
      refine inb_r (then_r (?_))
      exact fin F [.tmp 6] [.bool true] rfl ⟨by kernel_rfl, trivial⟩ (.bool true) rfl ⟨true, rfl, (fun _ => rfl), by rw [step_2 ht7, step_2 ht7]; exact S.pick [1, 2, 0] (by decide)⟩
    ·
     skip
     refine region_gx (fun D => fun (_ : Unit) => [rest w G, bif D 7 then idA bx (takeP I o.a o.b o.n).1 else idA bx I, bif D 15 then refA bm (takeP J o.a o.b o.n).1 else refA bm J, box b1 40 [.int .i64 o.kind, .int .i64 o.a, .int .i64 o.b, .int .u64 o.n, .int .u64 o.m, .int .u64 o.id, .slice o.Ar o.E.length o.cr, .slice o.As o.A.length o.cs, .bool o.y]]) (fun (_ : Unit) => [.pointer (some ⟨bx, 0, none⟩), .pointer (some ⟨b1, 1, none⟩), .int .i64 o.a, .pointer (some ⟨b1, 2, none⟩), .int .i64 o.b, .pointer (some ⟨b1, 3, none⟩), .int .u64 o.n, .int .i64 ((takeP I o.a o.b o.n).2), .pointer (some ⟨bm, 0, none⟩), .pointer (some ⟨b1, 1, none⟩), .int .i64 o.a, .pointer (some ⟨b1, 2, none⟩), .int .i64 o.b, .pointer (some ⟨b1, 3, none⟩), .int .u64 o.n, .int .i64 ((takeP J o.a o.b o.n).2), .bool false, .bool false]) [(2, [], [7, 15, 16]), (4, [], [7, 15, 16]), (6, [], [7, 15, 16]), (7, [2, 4, 6], [15, 16]), (10, [], [15, 16]), (12, [], [15, 16]), (14, [], [15, 16]), (15, [2, 4, 6, 7, 10, 12, 14], [16]), (16, [2, 4, 6, 7, 10, 12, 14, 15], [])] () rfl (by kernel_rfl) (by kernel_rfl) F S.drew ?_ ?_ ?_ ?_ ?_
     · rintro ⟨⟩; rfl
     · rintro ⟨⟩; kernel_rfl
     ·
      intro D D' x h
      cases x
      simp only [h 7 (by decide), h 15 (by decide)]
     ·
      refine ⟨?_, ?_⟩
      ·
       refine ⟨_, rfl, rfl, by kernel_rfl, ?_⟩
       rintro D ⟨⟩ a z S F
       refine ⟨by kernel_rfl, ?_⟩
       exact op_load _ _ (some ⟨b1, 0, none⟩) 1 (.int .i64 o.a) F rfl (by kernel_rfl) (by kernel_rfl) (cBox S 3 rfl (j := 1) rfl) (⟨(), rfl, (SameB.refl _ _ rfl), S⟩)
      refine ⟨?_, ?_⟩
      ·
       refine ⟨_, rfl, rfl, by kernel_rfl, ?_⟩
       rintro D ⟨⟩ a z S F
       refine ⟨by kernel_rfl, ?_⟩
       exact op_load _ _ (some ⟨b1, 0, none⟩) 2 (.int .i64 o.b) F rfl (by kernel_rfl) (by kernel_rfl) (cBox S 3 rfl (j := 2) rfl) (⟨(), rfl, (SameB.refl _ _ rfl), S⟩)
      refine ⟨?_, ?_⟩
      ·
       refine ⟨_, rfl, rfl, by kernel_rfl, ?_⟩
       rintro D ⟨⟩ a z S F
       refine ⟨by kernel_rfl, ?_⟩
       exact op_load _ _ (some ⟨b1, 0, none⟩) 3 (.int .u64 o.n) F rfl (by kernel_rfl) (by kernel_rfl) (cBox S 3 rfl (j := 3) rfl) (⟨(), rfl, (SameB.refl _ _ rfl), S⟩)
      refine ⟨?_, ?_⟩
      ·
       refine ⟨_, rfl, rfl, by kernel_rfl, ?_⟩
       rintro D ⟨⟩ a z S F
       refine ⟨by kernel_rfl, ?_⟩
       have S : Sat w z [rest w G, idA bx I, refA bm J, box b1 40 [.int .i64 o.kind, .int .i64 o.a, .int .i64 o.b, .int .u64 o.n, .int .u64 o.m, .int .u64 o.id, .slice o.Ar o.E.length o.cr, .slice o.As o.A.length o.cs, .bool o.y]] := S
       obtain ⟨G9, g9, hin9, hlt9, k9⟩ := S.frameB [1] (by decide) rfl
       refine op_fn F (by kernel_rfl) (take24_any _ G9 bx I okI g9 o.a o.b o.n ho.n) ?_
       rintro e z9 ⟨rfl, g⟩
       have S : Sat w z9 [rest w G, idA bx (takeP I o.a o.b o.n).1, refA bm J, box b1 40 [.int .i64 o.kind, .int .i64 o.a, .int .i64 o.b, .int .u64 o.n, .int .u64 o.m, .int .u64 o.id, .slice o.Ar o.E.length o.cr, .slice o.As o.A.length o.cs, .bool o.y]] := k9 z9 [idA bx (takeP I o.a o.b o.n).1] rfl g
       clear g g9 k9 hin9 hlt9
       exact ⟨_, rfl, (), rfl, (SameB.refl _ _ rfl), S⟩
      refine ⟨?_, ?_⟩
      ·
       refine ⟨_, rfl, rfl, by kernel_rfl, ?_⟩
       rintro D ⟨⟩ a z S F
       refine ⟨by kernel_rfl, ?_⟩
       exact op_load _ _ (some ⟨b1, 0, none⟩) 1 (.int .i64 o.a) F rfl (by kernel_rfl) (by kernel_rfl) (cBox S 3 rfl (j := 1) rfl) (⟨(), rfl, (SameB.refl _ _ rfl), S⟩)
      refine ⟨?_, ?_⟩
      ·
       refine ⟨_, rfl, rfl, by kernel_rfl, ?_⟩
       rintro D ⟨⟩ a z S F
       refine ⟨by kernel_rfl, ?_⟩
       exact op_load _ _ (some ⟨b1, 0, none⟩) 2 (.int .i64 o.b) F rfl (by kernel_rfl) (by kernel_rfl) (cBox S 3 rfl (j := 2) rfl) (⟨(), rfl, (SameB.refl _ _ rfl), S⟩)
      refine ⟨?_, ?_⟩
      ·
       refine ⟨_, rfl, rfl, by kernel_rfl, ?_⟩
       rintro D ⟨⟩ a z S F
       refine ⟨by kernel_rfl, ?_⟩
       exact op_load _ _ (some ⟨b1, 0, none⟩) 3 (.int .u64 o.n) F rfl (by kernel_rfl) (by kernel_rfl) (cBox S 3 rfl (j := 3) rfl) (⟨(), rfl, (SameB.refl _ _ rfl), S⟩)
      refine ⟨?_, ?_⟩
      ·
       refine ⟨_, rfl, rfl, by kernel_rfl, ?_⟩
       rintro D ⟨⟩ a z S F
       refine ⟨by kernel_rfl, ?_⟩
       have S : Sat w z [rest w G, idA bx (takeP I o.a o.b o.n).1, refA bm J, box b1 40 [.int .i64 o.kind, .int .i64 o.a, .int .i64 o.b, .int .u64 o.n, .int .u64 o.m, .int .u64 o.id, .slice o.Ar o.E.length o.cr, .slice o.As o.A.length o.cs, .bool o.y]] := S
       obtain ⟨G9, g9, hin9, hlt9, k9⟩ := S.frameB [2] (by decide) rfl
       refine op_fn F (by kernel_rfl) (rtake24_any _ G9 bm J okJ g9 o.a o.b o.n ho.n) ?_
       rintro e z9 ⟨rfl, g⟩
       have S : Sat w z9 [rest w G, idA bx (takeP I o.a o.b o.n).1, refA bm (takeP J o.a o.b o.n).1, box b1 40 [.int .i64 o.kind, .int .i64 o.a, .int .i64 o.b, .int .u64 o.n, .int .u64 o.m, .int .u64 o.id, .slice o.Ar o.E.length o.cr, .slice o.As o.A.length o.cs, .bool o.y]] := k9 z9 [refA bm (takeP J o.a o.b o.n).1] rfl g
       clear g g9 k9 hin9 hlt9
       exact ⟨_, rfl, (), rfl, (SameB.refl _ _ rfl), S⟩
      refine ⟨?_, ?_⟩
      ·
       refine ⟨_, rfl, rfl, by kernel_rfl, ?_⟩
       rintro D ⟨⟩ a z S F
       refine ⟨by kernel_rfl, ?_⟩
       exact op_pure F (v0 := .bool (((takeP I o.a o.b o.n).2 : Int) == ((takeP J o.a o.b o.n).2 : Int))) (v := .bool false) (by kernel_rfl) (eqlF ht8) ⟨(), rfl, (SameB.refl _ _ rfl), S⟩
      trivial
     ·
      rintro ⟨⟩ a z F S
      have F := F.sub (l := [(6, .bool false)]) ⟨by kernel_rfl, trivial⟩
      have S : Sat w z [rest w G, idA bx (takeP I o.a o.b o.n).1, refA bm (takeP J o.a o.b o.n).1, box b1 40 [.int .i64 o.kind, .int .i64 o.a, .int .i64 o.b, .int .u64 o.n, .int .u64 o.m, .int .u64 o.id, .slice o.Ar o.E.length o.cr, .slice o.As o.A.length o.cs, .bool o.y]] := S
      refine then_n ?_
      refine wp_ret ?_
      refine inb_r (then_r (?_))
      exact fin F [.tmp 6] [.bool false] rfl ⟨by kernel_rfl, trivial⟩ (.bool false) rfl ⟨false, rfl, (fun hIJ => absurd (by rw [hIJ]) ht8), by rw [step_2 ht7, step_2 ht7]; exact S.pick [1, 2, 0] (by decide)⟩
   ·
    skip
    refine l_do F rfl rfl (op_pure F (v0 := .bool ((o.kind : Int) == (2 : Int))) (v := .bool false) (by kernel_rfl) (eqlF ht7) fun a F => ?_)
    refine l_pure 1 (fun L => (70, .bool false) :: L) F (by kernel_rfl) fun a F => ?_
    refine l_then ?_
    refine c_f F rfl ?_
    refine s_reg ?_
    by_cases ht9 : (o.kind : Int) = (3 : Int)
    ·
     skip
     refine l_do F rfl rfl (op_pure F (v0 := .bool ((o.kind : Int) == (3 : Int))) (v := .bool true) (by kernel_rfl) (eqlT ht9) fun a F => ?_)
     refine l_pure 1 (fun L => (89, .bool true) :: L) F (by kernel_rfl) fun a F => ?_
     refine l_then ?_
     refine c_t F rfl ?_
     refine wp_seq ?_
     by_cases ht10 : ((moveP I o.a o.b o.n).2 : Int) = ((moveP J o.a o.b o.n).2 : Int)
     ·
      skip
      refine region_gx (fun D => fun (_ : Unit) => [rest w G, bif D 7 then idA bx (moveP I o.a o.b o.n).1 else idA bx I, bif D 15 then refA bm (moveP J o.a o.b o.n).1 else refA bm J, box b1 40 [.int .i64 o.kind, .int .i64 o.a, .int .i64 o.b, .int .u64 o.n, .int .u64 o.m, .int .u64 o.id, .slice o.Ar o.E.length o.cr, .slice o.As o.A.length o.cs, .bool o.y]]) (fun (_ : Unit) => [.pointer (some ⟨bx, 0, none⟩), .pointer (some ⟨b1, 1, none⟩), .int .i64 o.a, .pointer (some ⟨b1, 2, none⟩), .int .i64 o.b, .pointer (some ⟨b1, 3, none⟩), .int .u64 o.n, .int .i64 ((moveP I o.a o.b o.n).2), .pointer (some ⟨bm, 0, none⟩), .pointer (some ⟨b1, 1, none⟩), .int .i64 o.a, .pointer (some ⟨b1, 2, none⟩), .int .i64 o.b, .pointer (some ⟨b1, 3, none⟩), .int .u64 o.n, .int .i64 ((moveP J o.a o.b o.n).2), .bool true, .bool true]) [(2, [], [7, 15, 16]), (4, [], [7, 15, 16]), (6, [], [7, 15, 16]), (7, [2, 4, 6], [15, 16]), (10, [], [15, 16]), (12, [], [15, 16]), (14, [], [15, 16]), (15, [2, 4, 6, 7, 10, 12, 14], [16]), (16, [2, 4, 6, 7, 10, 12, 14, 15], [])] () rfl (by kernel_rfl) (by kernel_rfl) F S.drew ?_ ?_ ?_ ?_ ?_
      · rintro ⟨⟩; rfl
      · rintro ⟨⟩; kernel_rfl
      ·
       intro D D' x h
       cases x
       simp only [h 7 (by decide), h 15 (by decide)]
      ·
       refine ⟨?_, ?_⟩
       ·
        refine ⟨_, rfl, rfl, by kernel_rfl, ?_⟩
        rintro D ⟨⟩ a z S F
        refine ⟨by kernel_rfl, ?_⟩
        exact op_load _ _ (some ⟨b1, 0, none⟩) 1 (.int .i64 o.a) F rfl (by kernel_rfl) (by kernel_rfl) (cBox S 3 rfl (j := 1) rfl) (⟨(), rfl, (SameB.refl _ _ rfl), S⟩)
       refine ⟨?_, ?_⟩
       ·
        refine ⟨_, rfl, rfl, by kernel_rfl, ?_⟩
        rintro D ⟨⟩ a z S F
        refine ⟨by kernel_rfl, ?_⟩
        exact op_load _ _ (some ⟨b1, 0, none⟩) 2 (.int .i64 o.b) F rfl (by kernel_rfl) (by kernel_rfl) (cBox S 3 rfl (j := 2) rfl) (⟨(), rfl, (SameB.refl _ _ rfl), S⟩)
       refine ⟨?_, ?_⟩
       ·
        refine ⟨_, rfl, rfl, by kernel_rfl, ?_⟩
        rintro D ⟨⟩ a z S F
        refine ⟨by kernel_rfl, ?_⟩
        exact op_load _ _ (some ⟨b1, 0, none⟩) 3 (.int .u64 o.n) F rfl (by kernel_rfl) (by kernel_rfl) (cBox S 3 rfl (j := 3) rfl) (⟨(), rfl, (SameB.refl _ _ rfl), S⟩)
       refine ⟨?_, ?_⟩
       ·
        refine ⟨_, rfl, rfl, by kernel_rfl, ?_⟩
        rintro D ⟨⟩ a z S F
        refine ⟨by kernel_rfl, ?_⟩
        have S : Sat w z [rest w G, idA bx I, refA bm J, box b1 40 [.int .i64 o.kind, .int .i64 o.a, .int .i64 o.b, .int .u64 o.n, .int .u64 o.m, .int .u64 o.id, .slice o.Ar o.E.length o.cr, .slice o.As o.A.length o.cs, .bool o.y]] := S
        obtain ⟨G9, g9, hin9, hlt9, k9⟩ := S.frameB [1] (by decide) rfl
        refine op_fn F (by kernel_rfl) (move24_any _ G9 bx I okI g9 o.a o.b o.n ho.n) ?_
        rintro e z9 ⟨rfl, g⟩
        have S : Sat w z9 [rest w G, idA bx (moveP I o.a o.b o.n).1, refA bm J, box b1 40 [.int .i64 o.kind, .int .i64 o.a, .int .i64 o.b, .int .u64 o.n, .int .u64 o.m, .int .u64 o.id, .slice o.Ar o.E.length o.cr, .slice o.As o.A.length o.cs, .bool o.y]] := k9 z9 [idA bx (moveP I o.a o.b o.n).1] rfl g
        clear g g9 k9 hin9 hlt9
        exact ⟨_, rfl, (), rfl, (SameB.refl _ _ rfl), S⟩
       refine ⟨?_, ?_⟩
       ·
        refine ⟨_, rfl, rfl, by kernel_rfl, ?_⟩
        rintro D ⟨⟩ a z S F
        refine ⟨by kernel_rfl, ?_⟩
        exact op_load _ _ (some ⟨b1, 0, none⟩) 1 (.int .i64 o.a) F rfl (by kernel_rfl) (by kernel_rfl) (cBox S 3 rfl (j := 1) rfl) (⟨(), rfl, (SameB.refl _ _ rfl), S⟩)
       refine ⟨?_, ?_⟩
       ·
        refine ⟨_, rfl, rfl, by kernel_rfl, ?_⟩
        rintro D ⟨⟩ a z S F
        refine ⟨by kernel_rfl, ?_⟩
        exact op_load _ _ (some ⟨b1, 0, none⟩) 2 (.int .i64 o.b) F rfl (by kernel_rfl) (by kernel_rfl) (cBox S 3 rfl (j := 2) rfl) (⟨(), rfl, (SameB.refl _ _ rfl), S⟩)
       refine ⟨?_, ?_⟩
       ·
        refine ⟨_, rfl, rfl, by kernel_rfl, ?_⟩
        rintro D ⟨⟩ a z S F
        refine ⟨by kernel_rfl, ?_⟩
        exact op_load _ _ (some ⟨b1, 0, none⟩) 3 (.int .u64 o.n) F rfl (by kernel_rfl) (by kernel_rfl) (cBox S 3 rfl (j := 3) rfl) (⟨(), rfl, (SameB.refl _ _ rfl), S⟩)
       refine ⟨?_, ?_⟩
       ·
        refine ⟨_, rfl, rfl, by kernel_rfl, ?_⟩
        rintro D ⟨⟩ a z S F
        refine ⟨by kernel_rfl, ?_⟩
        have S : Sat w z [rest w G, idA bx (moveP I o.a o.b o.n).1, refA bm J, box b1 40 [.int .i64 o.kind, .int .i64 o.a, .int .i64 o.b, .int .u64 o.n, .int .u64 o.m, .int .u64 o.id, .slice o.Ar o.E.length o.cr, .slice o.As o.A.length o.cs, .bool o.y]] := S
        obtain ⟨G9, g9, hin9, hlt9, k9⟩ := S.frameB [2] (by decide) rfl
        refine op_fn F (by kernel_rfl) (rmove24_any _ G9 bm J okJ g9 o.a o.b o.n ho.n) ?_
        rintro e z9 ⟨rfl, g⟩
        have S : Sat w z9 [rest w G, idA bx (moveP I o.a o.b o.n).1, refA bm (moveP J o.a o.b o.n).1, box b1 40 [.int .i64 o.kind, .int .i64 o.a, .int .i64 o.b, .int .u64 o.n, .int .u64 o.m, .int .u64 o.id, .slice o.Ar o.E.length o.cr, .slice o.As o.A.length o.cs, .bool o.y]] := k9 z9 [refA bm (moveP J o.a o.b o.n).1] rfl g
        clear g g9 k9 hin9 hlt9
        exact ⟨_, rfl, (), rfl, (SameB.refl _ _ rfl), S⟩
       refine ⟨?_, ?_⟩
       ·
        refine ⟨_, rfl, rfl, by kernel_rfl, ?_⟩
        rintro D ⟨⟩ a z S F
        refine ⟨by kernel_rfl, ?_⟩
        exact op_pure F (v0 := .bool (((moveP I o.a o.b o.n).2 : Int) == ((moveP J o.a o.b o.n).2 : Int))) (v := .bool true) (by kernel_rfl) (eqlT ht10) ⟨(), rfl, (SameB.refl _ _ rfl), S⟩
       trivial
      ·
       rintro ⟨⟩ a z F S
       have F := F.sub (l := [(6, .bool true)]) ⟨by kernel_rfl, trivial⟩
       have S : Sat w z [rest w G, idA bx (moveP I o.a o.b o.n).1, refA bm (moveP J o.a o.b o.n).1, box b1 40 [.int .i64 o.kind, .int .i64 o.a, .int .i64 o.b, .int .u64 o.n, .int .u64 o.m, .int .u64 o.id, .slice o.Ar o.E.length o.cr, .slice o.As o.A.length o.cs, .bool o.y]] := S
       refine then_n ?_
       refine wp_ret ?_
       refine inb_r (then_r (?_))
       exact fin F [.tmp 6] [.bool true] rfl ⟨by kernel_rfl, trivial⟩ (.bool true) rfl ⟨true, rfl, (fun _ => rfl), by rw [step_3 ht9, step_3 ht9]; exact S.pick [1, 2, 0] (by decide)⟩
     ·
      skip
      refine region_gx (fun D => fun (_ : Unit) => [rest w G, bif D 7 then idA bx (moveP I o.a o.b o.n).1 else idA bx I, bif D 15 then refA bm (moveP J o.a o.b o.n).1 else refA bm J, box b1 40 [.int .i64 o.kind, .int .i64 o.a, .int .i64 o.b, .int .u64 o.n, .int .u64 o.m, .int .u64 o.id, .slice o.Ar o.E.length o.cr, .slice o.As o.A.length o.cs, .bool o.y]]) (fun (_ : Unit) => [.pointer (some ⟨bx, 0, none⟩), .pointer (some ⟨b1, 1, none⟩), .int .i64 o.a, .pointer (some ⟨b1, 2, none⟩), .int .i64 o.b, .pointer (some ⟨b1, 3, none⟩), .int .u64 o.n, .int .i64 ((moveP I o.a o.b o.n).2), .pointer (some ⟨bm, 0, none⟩), .pointer (some ⟨b1, 1, none⟩), .int .i64 o.a, .pointer (some ⟨b1, 2, none⟩), .int .i64 o.b, .pointer (some ⟨b1, 3, none⟩), .int .u64 o.n, .int .i64 ((moveP J o.a o.b o.n).2), .bool false, .bool false]) [(2, [], [7, 15, 16]), (4, [], [7, 15, 16]), (6, [], [7, 15, 16]), (7, [2, 4, 6], [15, 16]), (10, [], [15, 16]), (12, [], [15, 16]), (14, [], [15, 16]), (15, [2, 4, 6, 7, 10, 12, 14], [16]), (16, [2, 4, 6, 7, 10, 12, 14, 15], [])] () rfl (by kernel_rfl) (by kernel_rfl) F S.drew ?_ ?_ ?_ ?_ ?_
      · rintro ⟨⟩; rfl
      · rintro ⟨⟩; kernel_rfl
      ·
       intro D D' x h
       cases x
       simp only [h 7 (by decide), h 15 (by decide)]
      ·
       refine ⟨?_, ?_⟩
       ·
        refine ⟨_, rfl, rfl, by kernel_rfl, ?_⟩
        rintro D ⟨⟩ a z S F
        refine ⟨by kernel_rfl, ?_⟩
        exact op_load _ _ (some ⟨b1, 0, none⟩) 1 (.int .i64 o.a) F rfl (by kernel_rfl) (by kernel_rfl) (cBox S 3 rfl (j := 1) rfl) (⟨(), rfl, (SameB.refl _ _ rfl), S⟩)
       refine ⟨?_, ?_⟩
       ·
        refine ⟨_, rfl, rfl, by kernel_rfl, ?_⟩
        rintro D ⟨⟩ a z S F
        refine ⟨by kernel_rfl, ?_⟩
        exact op_load _ _ (some ⟨b1, 0, none⟩) 2 (.int .i64 o.b) F rfl (by kernel_rfl) (by kernel_rfl) (cBox S 3 rfl (j := 2) rfl) (⟨(), rfl, (SameB.refl _ _ rfl), S⟩)
       refine ⟨?_, ?_⟩
       ·
        refine ⟨_, rfl, rfl, by kernel_rfl, ?_⟩
        rintro D ⟨⟩ a z S F
        refine ⟨by kernel_rfl, ?_⟩
        exact op_load _ _ (some ⟨b1, 0, none⟩) 3 (.int .u64 o.n) F rfl (by kernel_rfl) (by kernel_rfl) (cBox S 3 rfl (j := 3) rfl) (⟨(), rfl, (SameB.refl _ _ rfl), S⟩)
       refine ⟨?_, ?_⟩
       ·
        refine ⟨_, rfl, rfl, by kernel_rfl, ?_⟩
        rintro D ⟨⟩ a z S F
        refine ⟨by kernel_rfl, ?_⟩
        have S : Sat w z [rest w G, idA bx I, refA bm J, box b1 40 [.int .i64 o.kind, .int .i64 o.a, .int .i64 o.b, .int .u64 o.n, .int .u64 o.m, .int .u64 o.id, .slice o.Ar o.E.length o.cr, .slice o.As o.A.length o.cs, .bool o.y]] := S
        obtain ⟨G9, g9, hin9, hlt9, k9⟩ := S.frameB [1] (by decide) rfl
        refine op_fn F (by kernel_rfl) (move24_any _ G9 bx I okI g9 o.a o.b o.n ho.n) ?_
        rintro e z9 ⟨rfl, g⟩
        have S : Sat w z9 [rest w G, idA bx (moveP I o.a o.b o.n).1, refA bm J, box b1 40 [.int .i64 o.kind, .int .i64 o.a, .int .i64 o.b, .int .u64 o.n, .int .u64 o.m, .int .u64 o.id, .slice o.Ar o.E.length o.cr, .slice o.As o.A.length o.cs, .bool o.y]] := k9 z9 [idA bx (moveP I o.a o.b o.n).1] rfl g
        clear g g9 k9 hin9 hlt9
        exact ⟨_, rfl, (), rfl, (SameB.refl _ _ rfl), S⟩
       refine ⟨?_, ?_⟩
       ·
        refine ⟨_, rfl, rfl, by kernel_rfl, ?_⟩
        rintro D ⟨⟩ a z S F
        refine ⟨by kernel_rfl, ?_⟩
        exact op_load _ _ (some ⟨b1, 0, none⟩) 1 (.int .i64 o.a) F rfl (by kernel_rfl) (by kernel_rfl) (cBox S 3 rfl (j := 1) rfl) (⟨(), rfl, (SameB.refl _ _ rfl), S⟩)
       refine ⟨?_, ?_⟩
       ·
        refine ⟨_, rfl, rfl, by kernel_rfl, ?_⟩
        rintro D ⟨⟩ a z S F
        refine ⟨by kernel_rfl, ?_⟩
        exact op_load _ _ (some ⟨b1, 0, none⟩) 2 (.int .i64 o.b) F rfl (by kernel_rfl) (by kernel_rfl) (cBox S 3 rfl (j := 2) rfl) (⟨(), rfl, (SameB.refl _ _ rfl), S⟩)
       refine ⟨?_, ?_⟩
       ·
        refine ⟨_, rfl, rfl, by kernel_rfl, ?_⟩
        rintro D ⟨⟩ a z S F
        refine ⟨by kernel_rfl, ?_⟩
        exact op_load _ _ (some ⟨b1, 0, none⟩) 3 (.int .u64 o.n) F rfl (by kernel_rfl) (by kernel_rfl) (cBox S 3 rfl (j := 3) rfl) (⟨(), rfl, (SameB.refl _ _ rfl), S⟩)
       refine ⟨?_, ?_⟩
       ·
        refine ⟨_, rfl, rfl, by kernel_rfl, ?_⟩
        rintro D ⟨⟩ a z S F
        refine ⟨by kernel_rfl, ?_⟩
        have S : Sat w z [rest w G, idA bx (moveP I o.a o.b o.n).1, refA bm J, box b1 40 [.int .i64 o.kind, .int .i64 o.a, .int .i64 o.b, .int .u64 o.n, .int .u64 o.m, .int .u64 o.id, .slice o.Ar o.E.length o.cr, .slice o.As o.A.length o.cs, .bool o.y]] := S
        obtain ⟨G9, g9, hin9, hlt9, k9⟩ := S.frameB [2] (by decide) rfl
        refine op_fn F (by kernel_rfl) (rmove24_any _ G9 bm J okJ g9 o.a o.b o.n ho.n) ?_
        rintro e z9 ⟨rfl, g⟩
        have S : Sat w z9 [rest w G, idA bx (moveP I o.a o.b o.n).1, refA bm (moveP J o.a o.b o.n).1, box b1 40 [.int .i64 o.kind, .int .i64 o.a, .int .i64 o.b, .int .u64 o.n, .int .u64 o.m, .int .u64 o.id, .slice o.Ar o.E.length o.cr, .slice o.As o.A.length o.cs, .bool o.y]] := k9 z9 [refA bm (moveP J o.a o.b o.n).1] rfl g
        clear g g9 k9 hin9 hlt9
        exact ⟨_, rfl, (), rfl, (SameB.refl _ _ rfl), S⟩
       refine ⟨?_, ?_⟩
       ·
        refine ⟨_, rfl, rfl, by kernel_rfl, ?_⟩
        rintro D ⟨⟩ a z S F
        refine ⟨by kernel_rfl, ?_⟩
        exact op_pure F (v0 := .bool (((moveP I o.a o.b o.n).2 : Int) == ((moveP J o.a o.b o.n).2 : Int))) (v := .bool false) (by kernel_rfl) (eqlF ht10) ⟨(), rfl, (SameB.refl _ _ rfl), S⟩
       trivial
      ·
       rintro ⟨⟩ a z F S
       have F := F.sub (l := [(6, .bool false)]) ⟨by kernel_rfl, trivial⟩
       have S : Sat w z [rest w G, idA bx (moveP I o.a o.b o.n).1, refA bm (moveP J o.a o.b o.n).1, box b1 40 [.int .i64 o.kind, .int .i64 o.a, .int .i64 o.b, .int .u64 o.n, .int .u64 o.m, .int .u64 o.id, .slice o.Ar o.E.length o.cr, .slice o.As o.A.length o.cs, .bool o.y]] := S
       refine then_n ?_
       refine wp_ret ?_
       refine inb_r (then_r (?_))
       exact fin F [.tmp 6] [.bool false] rfl ⟨by kernel_rfl, trivial⟩ (.bool false) rfl ⟨false, rfl, (fun hIJ => absurd (by rw [hIJ]) ht10), by rw [step_3 ht9, step_3 ht9]; exact S.pick [1, 2, 0] (by decide)⟩
    ·
     skip
     refine l_do F rfl rfl (op_pure F (v0 := .bool ((o.kind : Int) == (3 : Int))) (v := .bool false) (by kernel_rfl) (eqlF ht9) fun a F => ?_)
     refine l_pure 1 (fun L => (89, .bool false) :: L) F (by kernel_rfl) fun a F => ?_
     refine l_then ?_
     refine c_f F rfl ?_
     refine s_reg ?_
     by_cases ht11 : (o.kind : Int) = (4 : Int)
     ·
      skip
      refine l_do F rfl rfl (op_pure F (v0 := .bool ((o.kind : Int) == (4 : Int))) (v := .bool true) (by kernel_rfl) (eqlT ht11) fun a F => ?_)
      refine l_pure 1 (fun L => (108, .bool true) :: L) F (by kernel_rfl) fun a F => ?_
      refine l_then ?_
      refine c_t F rfl ?_
      refine wp_seq ?_
      by_cases ht12 : ((begP I o.id o.a o.E o.A).2 : Int) = ((begP J o.id o.a o.E o.A).2 : Int)
      ·
       skip
       refine region_gx (fun D => fun (_ : Unit) => [rest w G, bif D 9 then idA bx (begP I o.id o.a o.E o.A).1 else idA bx I, bif D 19 then refA bm (begP J o.id o.a o.E o.A).1 else refA bm J, box b1 40 [.int .i64 o.kind, .int .i64 o.a, .int .i64 o.b, .int .u64 o.n, .int .u64 o.m, .int .u64 o.id, .slice o.Ar o.E.length o.cr, .slice o.As o.A.length o.cs, .bool o.y]]) (fun (_ : Unit) => [.pointer (some ⟨bx, 0, none⟩), .pointer (some ⟨b1, 5, none⟩), .int .u64 o.id, .pointer (some ⟨b1, 1, none⟩), .int .i64 o.a, .pointer (some ⟨b1, 6, none⟩), .slice o.Ar o.E.length o.cr, .pointer (some ⟨b1, 7, none⟩), .slice o.As o.A.length o.cs, .int .i64 ((begP I o.id o.a o.E o.A).2), .pointer (some ⟨bm, 0, none⟩), .pointer (some ⟨b1, 5, none⟩), .int .u64 o.id, .pointer (some ⟨b1, 1, none⟩), .int .i64 o.a, .pointer (some ⟨b1, 6, none⟩), .slice o.Ar o.E.length o.cr, .pointer (some ⟨b1, 7, none⟩), .slice o.As o.A.length o.cs, .int .i64 ((begP J o.id o.a o.E o.A).2), .bool true, .bool true]) [(2, [], [9, 19, 20]), (4, [], [9, 19, 20]), (6, [], [9, 19, 20]), (8, [], [9, 19, 20]), (9, [2, 4, 6, 8], [19, 20]), (12, [], [19, 20]), (14, [], [19, 20]), (16, [], [19, 20]), (18, [], [19, 20]), (19, [2, 4, 6, 8, 9, 12, 14, 16, 18], [20]), (20, [2, 4, 6, 8, 9, 12, 14, 16, 18, 19], [])] () rfl (by kernel_rfl) (by kernel_rfl) F S.drew ?_ ?_ ?_ ?_ ?_
       · rintro ⟨⟩; rfl
       · rintro ⟨⟩; kernel_rfl
       ·
        intro D D' x h
        cases x
        simp only [h 9 (by decide), h 19 (by decide)]
       ·
        refine ⟨?_, ?_⟩
        ·
         refine ⟨_, rfl, rfl, by kernel_rfl, ?_⟩
         rintro D ⟨⟩ a z S F
         refine ⟨by kernel_rfl, ?_⟩
         exact op_load _ _ (some ⟨b1, 0, none⟩) 5 (.int .u64 o.id) F rfl (by kernel_rfl) (by kernel_rfl) (cBox S 3 rfl (j := 5) rfl) (⟨(), rfl, (SameB.refl _ _ rfl), S⟩)
        refine ⟨?_, ?_⟩
        ·
         refine ⟨_, rfl, rfl, by kernel_rfl, ?_⟩
         rintro D ⟨⟩ a z S F
         refine ⟨by kernel_rfl, ?_⟩
         exact op_load _ _ (some ⟨b1, 0, none⟩) 1 (.int .i64 o.a) F rfl (by kernel_rfl) (by kernel_rfl) (cBox S 3 rfl (j := 1) rfl) (⟨(), rfl, (SameB.refl _ _ rfl), S⟩)
        refine ⟨?_, ?_⟩
        ·
         refine ⟨_, rfl, rfl, by kernel_rfl, ?_⟩
         rintro D ⟨⟩ a z S F
         refine ⟨by kernel_rfl, ?_⟩
         exact op_load _ _ (some ⟨b1, 0, none⟩) 6 (.slice o.Ar o.E.length o.cr) F rfl (by kernel_rfl) (by kernel_rfl) (cBox S 3 rfl (j := 6) rfl) (⟨(), rfl, (SameB.refl _ _ rfl), S⟩)
        refine ⟨?_, ?_⟩
        ·
         refine ⟨_, rfl, rfl, by kernel_rfl, ?_⟩
         rintro D ⟨⟩ a z S F
         refine ⟨by kernel_rfl, ?_⟩
         exact op_load _ _ (some ⟨b1, 0, none⟩) 7 (.slice o.As o.A.length o.cs) F rfl (by kernel_rfl) (by kernel_rfl) (cBox S 3 rfl (j := 7) rfl) (⟨(), rfl, (SameB.refl _ _ rfl), S⟩)
        refine ⟨?_, ?_⟩
        ·
         refine ⟨_, rfl, rfl, by kernel_rfl, ?_⟩
         rintro D ⟨⟩ a z S F
         refine ⟨by kernel_rfl, ?_⟩
         have S : Sat w z [rest w G, idA bx I, refA bm J, box b1 40 [.int .i64 o.kind, .int .i64 o.a, .int .i64 o.b, .int .u64 o.n, .int .u64 o.m, .int .u64 o.id, .slice o.Ar o.E.length o.cr, .slice o.As o.A.length o.cs, .bool o.y]] := S
         obtain ⟨G9, g9, hin9, hlt9, k9⟩ := S.frameB [1] (by decide) rfl
         refine op_fn F (by kernel_rfl) (begin24_any _ G9 bx I okI g9 o.id o.a o.Ar o.cr o.E (ho.e.mono (src_rest S (i := 0) rfl ho.e.src gE)) (InG.rest hin9 0 (by decide) rfl gE) o.As o.cs o.A (ho.a.mono (src_rest S (i := 0) rfl ho.a.src gA)) (InG.rest hin9 0 (by decide) rfl gA) ho.u) ?_
         rintro e z9 ⟨rfl, g⟩
         have S : Sat w z9 [rest w G, idA bx (begP I o.id o.a o.E o.A).1, refA bm J, box b1 40 [.int .i64 o.kind, .int .i64 o.a, .int .i64 o.b, .int .u64 o.n, .int .u64 o.m, .int .u64 o.id, .slice o.Ar o.E.length o.cr, .slice o.As o.A.length o.cs, .bool o.y]] := k9 z9 [idA bx (begP I o.id o.a o.E o.A).1] rfl g
         clear g g9 k9 hin9 hlt9
         exact ⟨_, rfl, (), rfl, (SameB.refl _ _ rfl), S⟩
        refine ⟨?_, ?_⟩
        ·
         refine ⟨_, rfl, rfl, by kernel_rfl, ?_⟩
         rintro D ⟨⟩ a z S F
         refine ⟨by kernel_rfl, ?_⟩
         exact op_load _ _ (some ⟨b1, 0, none⟩) 5 (.int .u64 o.id) F rfl (by kernel_rfl) (by kernel_rfl) (cBox S 3 rfl (j := 5) rfl) (⟨(), rfl, (SameB.refl _ _ rfl), S⟩)
        refine ⟨?_, ?_⟩
        ·
         refine ⟨_, rfl, rfl, by kernel_rfl, ?_⟩
         rintro D ⟨⟩ a z S F
         refine ⟨by kernel_rfl, ?_⟩
         exact op_load _ _ (some ⟨b1, 0, none⟩) 1 (.int .i64 o.a) F rfl (by kernel_rfl) (by kernel_rfl) (cBox S 3 rfl (j := 1) rfl) (⟨(), rfl, (SameB.refl _ _ rfl), S⟩)
        refine ⟨?_, ?_⟩
        ·
         refine ⟨_, rfl, rfl, by kernel_rfl, ?_⟩
         rintro D ⟨⟩ a z S F
         refine ⟨by kernel_rfl, ?_⟩
         exact op_load _ _ (some ⟨b1, 0, none⟩) 6 (.slice o.Ar o.E.length o.cr) F rfl (by kernel_rfl) (by kernel_rfl) (cBox S 3 rfl (j := 6) rfl) (⟨(), rfl, (SameB.refl _ _ rfl), S⟩)
        refine ⟨?_, ?_⟩
        ·
         refine ⟨_, rfl, rfl, by kernel_rfl, ?_⟩
         rintro D ⟨⟩ a z S F
         refine ⟨by kernel_rfl, ?_⟩
         exact op_load _ _ (some ⟨b1, 0, none⟩) 7 (.slice o.As o.A.length o.cs) F rfl (by kernel_rfl) (by kernel_rfl) (cBox S 3 rfl (j := 7) rfl) (⟨(), rfl, (SameB.refl _ _ rfl), S⟩)
        refine ⟨?_, ?_⟩
        ·
         refine ⟨_, rfl, rfl, by kernel_rfl, ?_⟩
         rintro D ⟨⟩ a z S F
         refine ⟨by kernel_rfl, ?_⟩
         have S : Sat w z [rest w G, idA bx (begP I o.id o.a o.E o.A).1, refA bm J, box b1 40 [.int .i64 o.kind, .int .i64 o.a, .int .i64 o.b, .int .u64 o.n, .int .u64 o.m, .int .u64 o.id, .slice o.Ar o.E.length o.cr, .slice o.As o.A.length o.cs, .bool o.y]] := S
         obtain ⟨G9, g9, hin9, hlt9, k9⟩ := S.frameB [2] (by decide) rfl
         refine op_fn F (by kernel_rfl) (rbegin24_any _ G9 bm J okJ g9 hpn o.id o.a o.Ar o.cr o.E (ho.e.mono (src_rest S (i := 0) rfl ho.e.src gE)) (InG.rest hin9 0 (by decide) rfl gE) o.As o.cs o.A (ho.a.mono (src_rest S (i := 0) rfl ho.a.src gA)) (InG.rest hin9 0 (by decide) rfl gA) ho.u) ?_
         rintro e z9 ⟨rfl, g⟩
         have S : Sat w z9 [rest w G, idA bx (begP I o.id o.a o.E o.A).1, refA bm (begP J o.id o.a o.E o.A).1, box b1 40 [.int .i64 o.kind, .int .i64 o.a, .int .i64 o.b, .int .u64 o.n, .int .u64 o.m, .int .u64 o.id, .slice o.Ar o.E.length o.cr, .slice o.As o.A.length o.cs, .bool o.y]] := k9 z9 [refA bm (begP J o.id o.a o.E o.A).1] rfl g
         clear g g9 k9 hin9 hlt9
         exact ⟨_, rfl, (), rfl, (SameB.refl _ _ rfl), S⟩
        refine ⟨?_, ?_⟩
        ·
         refine ⟨_, rfl, rfl, by kernel_rfl, ?_⟩
         rintro D ⟨⟩ a z S F
         refine ⟨by kernel_rfl, ?_⟩
         exact op_pure F (v0 := .bool (((begP I o.id o.a o.E o.A).2 : Int) == ((begP J o.id o.a o.E o.A).2 : Int))) (v := .bool true) (by kernel_rfl) (eqlT ht12) ⟨(), rfl, (SameB.refl _ _ rfl), S⟩
        trivial
       ·
        rintro ⟨⟩ a z F S
        have F := F.sub (l := [(6, .bool true)]) ⟨by kernel_rfl, trivial⟩
        have S : Sat w z [rest w G, idA bx (begP I o.id o.a o.E o.A).1, refA bm (begP J o.id o.a o.E o.A).1, box b1 40 [.int .i64 o.kind, .int .i64 o.a, .int .i64 o.b, .int .u64 o.n, .int .u64 o.m, .int .u64 o.id, .slice o.Ar o.E.length o.cr, .slice o.As o.A.length o.cs, .bool o.y]] := S
        refine then_n ?_
        refine wp_ret ?_
        refine inb_r (then_r (?_))
        exact fin F [.tmp 6] [.bool true] rfl ⟨by kernel_rfl, trivial⟩ (.bool true) rfl ⟨true, rfl, (fun _ => rfl), by rw [step_4 ht11, step_4 ht11]; exact S.pick [1, 2, 0] (by decide)⟩
      ·
       skip
       refine region_gx (fun D => fun (_ : Unit) => [rest w G, bif D 9 then idA bx (begP I o.id o.a o.E o.A).1 else idA bx I, bif D 19 then refA bm (begP J o.id o.a o.E o.A).1 else refA bm J, box b1 40 [.int .i64 o.kind, .int .i64 o.a, .int .i64 o.b, .int .u64 o.n, .int .u64 o.m, .int .u64 o.id, .slice o.Ar o.E.length o.cr, .slice o.As o.A.length o.cs, .bool o.y]]) (fun (_ : Unit) => [.pointer (some ⟨bx, 0, none⟩), .pointer (some ⟨b1, 5, none⟩), .int .u64 o.id, .pointer (some ⟨b1, 1, none⟩), .int .i64 o.a, .pointer (some ⟨b1, 6, none⟩), .slice o.Ar o.E.length o.cr, .pointer (some ⟨b1, 7, none⟩), .slice o.As o.A.length o.cs, .int .i64 ((begP I o.id o.a o.E o.A).2), .pointer (some ⟨bm, 0, none⟩), .pointer (some ⟨b1, 5, none⟩), .int .u64 o.id, .pointer (some ⟨b1, 1, none⟩), .int .i64 o.a, .pointer (some ⟨b1, 6, none⟩), .slice o.Ar o.E.length o.cr, .pointer (some ⟨b1, 7, none⟩), .slice o.As o.A.length o.cs, .int .i64 ((begP J o.id o.a o.E o.A).2), .bool false, .bool false]) [(2, [], [9, 19, 20]), (4, [], [9, 19, 20]), (6, [], [9, 19, 20]), (8, [], [9, 19, 20]), (9, [2, 4, 6, 8], [19, 20]), (12, [], [19, 20]), (14, [], [19, 20]), (16, [], [19, 20]), (18, [], [19, 20]), (19, [2, 4, 6, 8, 9, 12, 14, 16, 18], [20]), (20, [2, 4, 6, 8, 9, 12, 14, 16, 18, 19], [])] () rfl (by kernel_rfl) (by kernel_rfl) F S.drew ?_ ?_ ?_ ?_ ?_
       · rintro ⟨⟩; rfl
       · rintro ⟨⟩; kernel_rfl
       ·
        intro D D' x h
        cases x
        simp only [h 9 (by decide), h 19 (by decide)]
       ·
        refine ⟨?_, ?_⟩
        ·
         refine ⟨_, rfl, rfl, by kernel_rfl, ?_⟩
         rintro D ⟨⟩ a z S F
         refine ⟨by kernel_rfl, ?_⟩
         exact op_load _ _ (some ⟨b1, 0, none⟩) 5 (.int .u64 o.id) F rfl (by kernel_rfl) (by kernel_rfl) (cBox S 3 rfl (j := 5) rfl) (⟨(), rfl, (SameB.refl _ _ rfl), S⟩)
        refine ⟨?_, ?_⟩
        ·
         refine ⟨_, rfl, rfl, by kernel_rfl, ?_⟩
         rintro D ⟨⟩ a z S F
         refine ⟨by kernel_rfl, ?_⟩
         exact op_load _ _ (some ⟨b1, 0, none⟩) 1 (.int .i64 o.a) F rfl (by kernel_rfl) (by kernel_rfl) (cBox S 3 rfl (j := 1) rfl) (⟨(), rfl, (SameB.refl _ _ rfl), S⟩)
        refine ⟨?_, ?_⟩
        ·
         refine ⟨_, rfl, rfl, by kernel_rfl, ?_⟩
         rintro D ⟨⟩ a z S F
         refine ⟨by kernel_rfl, ?_⟩
         exact op_load _ _ (some ⟨b1, 0, none⟩) 6 (.slice o.Ar o.E.length o.cr) F rfl (by kernel_rfl) (by kernel_rfl) (cBox S 3 rfl (j := 6) rfl) (⟨(), rfl, (SameB.refl _ _ rfl), S⟩)
        refine ⟨?_, ?_⟩
        ·
         refine ⟨_, rfl, rfl, by kernel_rfl, ?_⟩
         rintro D ⟨⟩ a z S F
         refine ⟨by kernel_rfl, ?_⟩
         exact op_load _ _ (some ⟨b1, 0, none⟩) 7 (.slice o.As o.A.length o.cs) F rfl (by kernel_rfl) (by kernel_rfl) (cBox S 3 rfl (j := 7) rfl) (⟨(), rfl, (SameB.refl _ _ rfl), S⟩)
        refine ⟨?_, ?_⟩
        ·
         refine ⟨_, rfl, rfl, by kernel_rfl, ?_⟩
         rintro D ⟨⟩ a z S F
         refine ⟨by kernel_rfl, ?_⟩
         have S : Sat w z [rest w G, idA bx I, refA bm J, box b1 40 [.int .i64 o.kind, .int .i64 o.a, .int .i64 o.b, .int .u64 o.n, .int .u64 o.m, .int .u64 o.id, .slice o.Ar o.E.length o.cr, .slice o.As o.A.length o.cs, .bool o.y]] := S
         obtain ⟨G9, g9, hin9, hlt9, k9⟩ := S.frameB [1] (by decide) rfl
         refine op_fn F (by kernel_rfl) (begin24_any _ G9 bx I okI g9 o.id o.a o.Ar o.cr o.E (ho.e.mono (src_rest S (i := 0) rfl ho.e.src gE)) (InG.rest hin9 0 (by decide) rfl gE) o.As o.cs o.A (ho.a.mono (src_rest S (i := 0) rfl ho.a.src gA)) (InG.rest hin9 0 (by decide) rfl gA) ho.u) ?_
         rintro e z9 ⟨rfl, g⟩
         have S : Sat w z9 [rest w G, idA bx (begP I o.id o.a o.E o.A).1, refA bm J, box b1 40 [.int .i64 o.kind, .int .i64 o.a, .int .i64 o.b, .int .u64 o.n, .int .u64 o.m, .int .u64 o.id, .slice o.Ar o.E.length o.cr, .slice o.As o.A.length o.cs, .bool o.y]] := k9 z9 [idA bx (begP I o.id o.a o.E o.A).1] rfl g
         clear g g9 k9 hin9 hlt9
         exact ⟨_, rfl, (), rfl, (SameB.refl _ _ rfl), S⟩
        refine ⟨?_, ?_⟩
        ·
         refine ⟨_, rfl, rfl, by kernel_rfl, ?_⟩
         rintro D ⟨⟩ a z S F
         refine ⟨by kernel_rfl, ?_⟩
         exact op_load _ _ (some ⟨b1, 0, none⟩) 5 (.int .u64 o.id) F rfl (by kernel_rfl) (by kernel_rfl) (cBox S 3 rfl (j := 5) rfl) (⟨(), rfl, (SameB.refl _ _ rfl), S⟩)
        refine ⟨?_, ?_⟩
        ·
         refine ⟨_, rfl, rfl, by kernel_rfl, ?_⟩
         rintro D ⟨⟩ a z S F
         refine ⟨by kernel_rfl, ?_⟩
         exact op_load _ _ (some ⟨b1, 0, none⟩) 1 (.int .i64 o.a) F rfl (by kernel_rfl) (by kernel_rfl) (cBox S 3 rfl (j := 1) rfl) (⟨(), rfl, (SameB.refl _ _ rfl), S⟩)
        refine ⟨?_, ?_⟩
        ·
         refine ⟨_, rfl, rfl, by kernel_rfl, ?_⟩
         rintro D ⟨⟩ a z S F
         refine ⟨by kernel_rfl, ?_⟩
         exact op_load _ _ (some ⟨b1, 0, none⟩) 6 (.slice o.Ar o.E.length o.cr) F rfl (by kernel_rfl) (by kernel_rfl) (cBox S 3 rfl (j := 6) rfl) (⟨(), rfl, (SameB.refl _ _ rfl), S⟩)
        refine ⟨?_, ?_⟩
        ·
         refine ⟨_, rfl, rfl, by kernel_rfl, ?_⟩
         rintro D ⟨⟩ a z S F
         refine ⟨by kernel_rfl, ?_⟩
         exact op_load _ _ (some ⟨b1, 0, none⟩) 7 (.slice o.As o.A.length o.cs) F rfl (by kernel_rfl) (by kernel_rfl) (cBox S 3 rfl (j := 7) rfl) (⟨(), rfl, (SameB.refl _ _ rfl), S⟩)
        refine ⟨?_, ?_⟩
        ·
         refine ⟨_, rfl, rfl, by kernel_rfl, ?_⟩
         rintro D ⟨⟩ a z S F
         refine ⟨by kernel_rfl, ?_⟩
         have S : Sat w z [rest w G, idA bx (begP I o.id o.a o.E o.A).1, refA bm J, box b1 40 [.int .i64 o.kind, .int .i64 o.a, .int .i64 o.b, .int .u64 o.n, .int .u64 o.m, .int .u64 o.id, .slice o.Ar o.E.length o.cr, .slice o.As o.A.length o.cs, .bool o.y]] := S
         obtain ⟨G9, g9, hin9, hlt9, k9⟩ := S.frameB [2] (by decide) rfl
         refine op_fn F (by kernel_rfl) (rbegin24_any _ G9 bm J okJ g9 hpn o.id o.a o.Ar o.cr o.E (ho.e.mono (src_rest S (i := 0) rfl ho.e.src gE)) (InG.rest hin9 0 (by decide) rfl gE) o.As o.cs o.A (ho.a.mono (src_rest S (i := 0) rfl ho.a.src gA)) (InG.rest hin9 0 (by decide) rfl gA) ho.u) ?_
         rintro e z9 ⟨rfl, g⟩
         have S : Sat w z9 [rest w G, idA bx (begP I o.id o.a o.E o.A).1, refA bm (begP J o.id o.a o.E o.A).1, box b1 40 [.int .i64 o.kind, .int .i64 o.a, .int .i64 o.b, .int .u64 o.n, .int .u64 o.m, .int .u64 o.id, .slice o.Ar o.E.length o.cr, .slice o.As o.A.length o.cs, .bool o.y]] := k9 z9 [refA bm (begP J o.id o.a o.E o.A).1] rfl g
         clear g g9 k9 hin9 hlt9
         exact ⟨_, rfl, (), rfl, (SameB.refl _ _ rfl), S⟩
        refine ⟨?_, ?_⟩
        ·
         refine ⟨_, rfl, rfl, by kernel_rfl, ?_⟩
         rintro D ⟨⟩ a z S F
         refine ⟨by kernel_rfl, ?_⟩
         exact op_pure F (v0 := .bool (((begP I o.id o.a o.E o.A).2 : Int) == ((begP J o.id o.a o.E o.A).2 : Int))) (v := .bool false) (by kernel_rfl) (eqlF ht12) ⟨(), rfl, (SameB.refl _ _ rfl), S⟩
        trivial
       ·
        rintro ⟨⟩ a z F S
        have F := F.sub (l := [(6, .bool false)]) ⟨by kernel_rfl, trivial⟩
        have S : Sat w z [rest w G, idA bx (begP I o.id o.a o.E o.A).1, refA bm (begP J o.id o.a o.E o.A).1, box b1 40 [.int .i64 o.kind, .int .i64 o.a, .int .i64 o.b, .int .u64 o.n, .int .u64 o.m, .int .u64 o.id, .slice o.Ar o.E.length o.cr, .slice o.As o.A.length o.cs, .bool o.y]] := S
        refine then_n ?_
        refine wp_ret ?_
        refine inb_r (then_r (?_))
        exact fin F [.tmp 6] [.bool false] rfl ⟨by kernel_rfl, trivial⟩ (.bool false) rfl ⟨false, rfl, (fun hIJ => absurd (by rw [hIJ]) ht12), by rw [step_4 ht11, step_4 ht11]; exact S.pick [1, 2, 0] (by decide)⟩
     ·
      skip
      refine l_do F rfl rfl (op_pure F (v0 := .bool ((o.kind : Int) == (4 : Int))) (v := .bool false) (by kernel_rfl) (eqlF ht11) fun a F => ?_)
      refine l_pure 1 (fun L => (108, .bool false) :: L) F (by kernel_rfl) fun a F => ?_
      refine l_then ?_
      refine c_f F rfl ?_
      refine s_reg ?_
      by_cases ht13 : (o.kind : Int) = (5 : Int)
      ·
       skip
       refine l_do F rfl rfl (op_pure F (v0 := .bool ((o.kind : Int) == (5 : Int))) (v := .bool true) (by kernel_rfl) (eqlT ht13) fun a F => ?_)
       refine l_pure 1 (fun L => (131, .bool true) :: L) F (by kernel_rfl) fun a F => ?_
       refine l_then ?_
       refine c_t F rfl ?_
       refine wp_seq ?_
       by_cases ht14 : ((endP I o.id o.y).2 : Int) = ((endP J o.id o.y).2 : Int)
       ·
        skip
        refine region_gx (fun D => fun (_ : Unit) => [rest w G, bif D 5 then idA bx (endP I o.id o.y).1 else idA bx I, bif D 11 then refA bm (endP J o.id o.y).1 else refA bm J, box b1 40 [.int .i64 o.kind, .int .i64 o.a, .int .i64 o.b, .int .u64 o.n, .int .u64 o.m, .int .u64 o.id, .slice o.Ar o.E.length o.cr, .slice o.As o.A.length o.cs, .bool o.y]]) (fun (_ : Unit) => [.pointer (some ⟨bx, 0, none⟩), .pointer (some ⟨b1, 5, none⟩), .int .u64 o.id, .pointer (some ⟨b1, 8, none⟩), .bool o.y, .int .i64 ((endP I o.id o.y).2), .pointer (some ⟨bm, 0, none⟩), .pointer (some ⟨b1, 5, none⟩), .int .u64 o.id, .pointer (some ⟨b1, 8, none⟩), .bool o.y, .int .i64 ((endP J o.id o.y).2), .bool true, .bool true]) [(2, [], [5, 11, 12]), (4, [], [5, 11, 12]), (5, [2, 4], [11, 12]), (8, [], [11, 12]), (10, [], [11, 12]), (11, [2, 4, 5, 8, 10], [12]), (12, [2, 4, 5, 8, 10, 11], [])] () rfl (by kernel_rfl) (by kernel_rfl) F S.drew ?_ ?_ ?_ ?_ ?_
        · rintro ⟨⟩; rfl
        · rintro ⟨⟩; kernel_rfl
        ·
         intro D D' x h
         cases x
         simp only [h 5 (by decide), h 11 (by decide)]
        ·
         refine ⟨?_, ?_⟩
         ·
          refine ⟨_, rfl, rfl, by kernel_rfl, ?_⟩
          rintro D ⟨⟩ a z S F
          refine ⟨by kernel_rfl, ?_⟩
          exact op_load _ _ (some ⟨b1, 0, none⟩) 5 (.int .u64 o.id) F rfl (by kernel_rfl) (by kernel_rfl) (cBox S 3 rfl (j := 5) rfl) (⟨(), rfl, (SameB.refl _ _ rfl), S⟩)
         refine ⟨?_, ?_⟩
         ·
          refine ⟨_, rfl, rfl, by kernel_rfl, ?_⟩
          rintro D ⟨⟩ a z S F
          refine ⟨by kernel_rfl, ?_⟩
          exact op_load _ _ (some ⟨b1, 0, none⟩) 8 (.bool o.y) F rfl (by kernel_rfl) (by kernel_rfl) (cBox S 3 rfl (j := 8) rfl) (⟨(), rfl, (SameB.refl _ _ rfl), S⟩)
         refine ⟨?_, ?_⟩
         ·
          refine ⟨_, rfl, rfl, by kernel_rfl, ?_⟩
          rintro D ⟨⟩ a z S F
          refine ⟨by kernel_rfl, ?_⟩
          have S : Sat w z [rest w G, idA bx I, refA bm J, box b1 40 [.int .i64 o.kind, .int .i64 o.a, .int .i64 o.b, .int .u64 o.n, .int .u64 o.m, .int .u64 o.id, .slice o.Ar o.E.length o.cr, .slice o.As o.A.length o.cs, .bool o.y]] := S
          obtain ⟨G9, g9, hin9, hlt9, k9⟩ := S.frameB [1] (by decide) rfl
          refine op_fn F (by kernel_rfl) (end24_any _ G9 bx I okI g9 o.id o.y ) ?_
          rintro e z9 ⟨rfl, g⟩
          have S : Sat w z9 [rest w G, idA bx (endP I o.id o.y).1, refA bm J, box b1 40 [.int .i64 o.kind, .int .i64 o.a, .int .i64 o.b, .int .u64 o.n, .int .u64 o.m, .int .u64 o.id, .slice o.Ar o.E.length o.cr, .slice o.As o.A.length o.cs, .bool o.y]] := k9 z9 [idA bx (endP I o.id o.y).1] rfl g
          clear g g9 k9 hin9 hlt9
          exact ⟨_, rfl, (), rfl, (SameB.refl _ _ rfl), S⟩
         refine ⟨?_, ?_⟩
         ·
          refine ⟨_, rfl, rfl, by kernel_rfl, ?_⟩
          rintro D ⟨⟩ a z S F
          refine ⟨by kernel_rfl, ?_⟩
          exact op_load _ _ (some ⟨b1, 0, none⟩) 5 (.int .u64 o.id) F rfl (by kernel_rfl) (by kernel_rfl) (cBox S 3 rfl (j := 5) rfl) (⟨(), rfl, (SameB.refl _ _ rfl), S⟩)
         refine ⟨?_, ?_⟩
         ·
          refine ⟨_, rfl, rfl, by kernel_rfl, ?_⟩
          rintro D ⟨⟩ a z S F
          refine ⟨by kernel_rfl, ?_⟩
          exact op_load _ _ (some ⟨b1, 0, none⟩) 8 (.bool o.y) F rfl (by kernel_rfl) (by kernel_rfl) (cBox S 3 rfl (j := 8) rfl) (⟨(), rfl, (SameB.refl _ _ rfl), S⟩)
         refine ⟨?_, ?_⟩
         ·
          refine ⟨_, rfl, rfl, by kernel_rfl, ?_⟩
          rintro D ⟨⟩ a z S F
          refine ⟨by kernel_rfl, ?_⟩
          have S : Sat w z [rest w G, idA bx (endP I o.id o.y).1, refA bm J, box b1 40 [.int .i64 o.kind, .int .i64 o.a, .int .i64 o.b, .int .u64 o.n, .int .u64 o.m, .int .u64 o.id, .slice o.Ar o.E.length o.cr, .slice o.As o.A.length o.cs, .bool o.y]] := S
          obtain ⟨G9, g9, hin9, hlt9, k9⟩ := S.frameB [2] (by decide) rfl
          refine op_fn F (by kernel_rfl) (rend24_any _ G9 bm J okJ g9 hpn o.id o.y ) ?_
          rintro e z9 ⟨rfl, g⟩
          have S : Sat w z9 [rest w G, idA bx (endP I o.id o.y).1, refA bm (endP J o.id o.y).1, box b1 40 [.int .i64 o.kind, .int .i64 o.a, .int .i64 o.b, .int .u64 o.n, .int .u64 o.m, .int .u64 o.id, .slice o.Ar o.E.length o.cr, .slice o.As o.A.length o.cs, .bool o.y]] := k9 z9 [refA bm (endP J o.id o.y).1] rfl g
          clear g g9 k9 hin9 hlt9
          exact ⟨_, rfl, (), rfl, (SameB.refl _ _ rfl), S⟩
         refine ⟨?_, ?_⟩
         ·
          refine ⟨_, rfl, rfl, by kernel_rfl, ?_⟩
          rintro D ⟨⟩ a z S F
          refine ⟨by kernel_rfl, ?_⟩
          exact op_pure F (v0 := .bool (((endP I o.id o.y).2 : Int) == ((endP J o.id o.y).2 : Int))) (v := .bool true) (by kernel_rfl) (eqlT ht14) ⟨(), rfl, (SameB.refl _ _ rfl), S⟩
         trivial
        ·
         rintro ⟨⟩ a z F S
         have F := F.sub (l := [(6, .bool true)]) ⟨by kernel_rfl, trivial⟩
         have S : Sat w z [rest w G, idA bx (endP I o.id o.y).1, refA bm (endP J o.id o.y).1, box b1 40 [.int .i64 o.kind, .int .i64 o.a, .int .i64 o.b, .int .u64 o.n, .int .u64 o.m, .int .u64 o.id, .slice o.Ar o.E.length o.cr, .slice o.As o.A.length o.cs, .bool o.y]] := S
         refine then_n ?_
         refine wp_ret ?_
         refine inb_r (then_r (?_))
         exact fin F [.tmp 6] [.bool true] rfl ⟨by kernel_rfl, trivial⟩ (.bool true) rfl ⟨true, rfl, (fun _ => rfl), by rw [step_5 ht13, step_5 ht13]; exact S.pick [1, 2, 0] (by decide)⟩
       ·
        skip
        refine region_gx (fun D => fun (_ : Unit) => [rest w G, bif D 5 then idA bx (endP I o.id o.y).1 else idA bx I, bif D 11 then refA bm (endP J o.id o.y).1 else refA bm J, box b1 40 [.int .i64 o.kind, .int .i64 o.a, .int .i64 o.b, .int .u64 o.n, .int .u64 o.m, .int .u64 o.id, .slice o.Ar o.E.length o.cr, .slice o.As o.A.length o.cs, .bool o.y]]) (fun (_ : Unit) => [.pointer (some ⟨bx, 0, none⟩), .pointer (some ⟨b1, 5, none⟩), .int .u64 o.id, .pointer (some ⟨b1, 8, none⟩), .bool o.y, .int .i64 ((endP I o.id o.y).2), .pointer (some ⟨bm, 0, none⟩), .pointer (some ⟨b1, 5, none⟩), .int .u64 o.id, .pointer (some ⟨b1, 8, none⟩), .bool o.y, .int .i64 ((endP J o.id o.y).2), .bool false, .bool false]) [(2, [], [5, 11, 12]), (4, [], [5, 11, 12]), (5, [2, 4], [11, 12]), (8, [], [11, 12]), (10, [], [11, 12]), (11, [2, 4, 5, 8, 10], [12]), (12, [2, 4, 5, 8, 10, 11], [])] () rfl (by kernel_rfl) (by kernel_rfl) F S.drew ?_ ?_ ?_ ?_ ?_
        · rintro ⟨⟩; rfl
        · rintro ⟨⟩; kernel_rfl
        ·
         intro D D' x h
         cases x
         simp only [h 5 (by decide), h 11 (by decide)]
        ·
         refine ⟨?_, ?_⟩
         ·
          refine ⟨_, rfl, rfl, by kernel_rfl, ?_⟩
          rintro D ⟨⟩ a z S F
          refine ⟨by kernel_rfl, ?_⟩
          exact op_load _ _ (some ⟨b1, 0, none⟩) 5 (.int .u64 o.id) F rfl (by kernel_rfl) (by kernel_rfl) (cBox S 3 rfl (j := 5) rfl) (⟨(), rfl, (SameB.refl _ _ rfl), S⟩)
         refine ⟨?_, ?_⟩
         ·
          refine ⟨_, rfl, rfl, by kernel_rfl, ?_⟩
          rintro D ⟨⟩ a z S F
          refine ⟨by kernel_rfl, ?_⟩
          exact op_load _ _ (some ⟨b1, 0, none⟩) 8 (.bool o.y) F rfl (by kernel_rfl) (by kernel_rfl) (cBox S 3 rfl (j := 8) rfl) (⟨(), rfl, (SameB.refl _ _ rfl), S⟩)
         refine ⟨?_, ?_⟩
         ·
          refine ⟨_, rfl, rfl, by kernel_rfl, ?_⟩
          rintro D ⟨⟩ a z S F
          refine ⟨by kernel_rfl, ?_⟩
          have S : Sat w z [rest w G, idA bx I, refA bm J, box b1 40 [.int .i64 o.kind, .int .i64 o.a, .int .i64 o.b, .int .u64 o.n, .int .u64 o.m, .int .u64 o.id, .slice o.Ar o.E.length o.cr, .slice o.As o.A.length o.cs, .bool o.y]] := S
          obtain ⟨G9, g9, hin9, hlt9, k9⟩ := S.frameB [1] (by decide) rfl
          refine op_fn F (by kernel_rfl) (end24_any _ G9 bx I okI g9 o.id o.y ) ?_
          rintro e z9 ⟨rfl, g⟩
          have S : Sat w z9 [rest w G, idA bx (endP I o.id o.y).1, refA bm J, box b1 40 [.int .i64 o.kind, .int .i64 o.a, .int .i64 o.b, .int .u64 o.n, .int .u64 o.m, .int .u64 o.id, .slice o.Ar o.E.length o.cr, .slice o.As o.A.length o.cs, .bool o.y]] := k9 z9 [idA bx (endP I o.id o.y).1] rfl g
          clear g g9 k9 hin9 hlt9
          exact ⟨_, rfl, (), rfl, (SameB.refl _ _ rfl), S⟩
         refine ⟨?_, ?_⟩
         ·
          refine ⟨_, rfl, rfl, by kernel_rfl, ?_⟩
          rintro D ⟨⟩ a z S F
          refine ⟨by kernel_rfl, ?_⟩
          exact op_load _ _ (some ⟨b1, 0, none⟩) 5 (.int .u64 o.id) F rfl (by kernel_rfl) (by kernel_rfl) (cBox S 3 rfl (j := 5) rfl) (⟨(), rfl, (SameB.refl _ _ rfl), S⟩)
         refine ⟨?_, ?_⟩
         ·
          refine ⟨_, rfl, rfl, by kernel_rfl, ?_⟩
          rintro D ⟨⟩ a z S F
          refine ⟨by kernel_rfl, ?_⟩
          exact op_load _ _ (some ⟨b1, 0, none⟩) 8 (.bool o.y) F rfl (by kernel_rfl) (by kernel_rfl) (cBox S 3 rfl (j := 8) rfl) (⟨(), rfl, (SameB.refl _ _ rfl), S⟩)
         refine ⟨?_, ?_⟩
         ·
          refine ⟨_, rfl, rfl, by kernel_rfl, ?_⟩
          rintro D ⟨⟩ a z S F
          refine ⟨by kernel_rfl, ?_⟩
          have S : Sat w z [rest w G, idA bx (endP I o.id o.y).1, refA bm J, box b1 40 [.int .i64 o.kind, .int .i64 o.a, .int .i64 o.b, .int .u64 o.n, .int .u64 o.m, .int .u64 o.id, .slice o.Ar o.E.length o.cr, .slice o.As o.A.length o.cs, .bool o.y]] := S
          obtain ⟨G9, g9, hin9, hlt9, k9⟩ := S.frameB [2] (by decide) rfl
          refine op_fn F (by kernel_rfl) (rend24_any _ G9 bm J okJ g9 hpn o.id o.y ) ?_
          rintro e z9 ⟨rfl, g⟩
          have S : Sat w z9 [rest w G, idA bx (endP I o.id o.y).1, refA bm (endP J o.id o.y).1, box b1 40 [.int .i64 o.kind, .int .i64 o.a, .int .i64 o.b, .int .u64 o.n, .int .u64 o.m, .int .u64 o.id, .slice o.Ar o.E.length o.cr, .slice o.As o.A.length o.cs, .bool o.y]] := k9 z9 [refA bm (endP J o.id o.y).1] rfl g
          clear g g9 k9 hin9 hlt9
          exact ⟨_, rfl, (), rfl, (SameB.refl _ _ rfl), S⟩
         refine ⟨?_, ?_⟩
         ·
          refine ⟨_, rfl, rfl, by kernel_rfl, ?_⟩
          rintro D ⟨⟩ a z S F
          refine ⟨by kernel_rfl, ?_⟩
          exact op_pure F (v0 := .bool (((endP I o.id o.y).2 : Int) == ((endP J o.id o.y).2 : Int))) (v := .bool false) (by kernel_rfl) (eqlF ht14) ⟨(), rfl, (SameB.refl _ _ rfl), S⟩
         trivial
        ·
         rintro ⟨⟩ a z F S
         have F := F.sub (l := [(6, .bool false)]) ⟨by kernel_rfl, trivial⟩
         have S : Sat w z [rest w G, idA bx (endP I o.id o.y).1, refA bm (endP J o.id o.y).1, box b1 40 [.int .i64 o.kind, .int .i64 o.a, .int .i64 o.b, .int .u64 o.n, .int .u64 o.m, .int .u64 o.id, .slice o.Ar o.E.length o.cr, .slice o.As o.A.length o.cs, .bool o.y]] := S
         refine then_n ?_
         refine wp_ret ?_
         refine inb_r (then_r (?_))
         exact fin F [.tmp 6] [.bool false] rfl ⟨by kernel_rfl, trivial⟩ (.bool false) rfl ⟨false, rfl, (fun hIJ => absurd (by rw [hIJ]) ht14), by rw [step_5 ht13, step_5 ht13]; exact S.pick [1, 2, 0] (by decide)⟩
      ·
       skip
       refine l_do F rfl rfl (op_pure F (v0 := .bool ((o.kind : Int) == (5 : Int))) (v := .bool false) (by kernel_rfl) (eqlF ht13) fun a F => ?_)
       refine l_pure 1 (fun L => (131, .bool false) :: L) F (by kernel_rfl) fun a F => ?_
       refine l_then ?_
       refine c_f F rfl ?_
       refine s_reg ?_
       by_cases ht15 : (o.kind : Int) = (6 : Int)
       ·
        skip
        refine l_do F rfl rfl (op_pure F (v0 := .bool ((o.kind : Int) == (6 : Int))) (v := .bool true) (by kernel_rfl) (eqlT ht15) fun a F => ?_)
        refine l_pure 1 (fun L => (146, .bool true) :: L) F (by kernel_rfl) fun a F => ?_
        refine l_then ?_
        refine c_t F rfl ?_
        refine wp_seq ?_
        by_cases ht16 : ((closeP I o.a).2 : Int) = ((closeP J o.a).2 : Int)
        ·
         skip
         refine region_gx (fun D => fun (_ : Unit) => [rest w G, bif D 3 then idA bx (closeP I o.a).1 else idA bx I, bif D 7 then refA bm (closeP J o.a).1 else refA bm J, box b1 40 [.int .i64 o.kind, .int .i64 o.a, .int .i64 o.b, .int .u64 o.n, .int .u64 o.m, .int .u64 o.id, .slice o.Ar o.E.length o.cr, .slice o.As o.A.length o.cs, .bool o.y]]) (fun (_ : Unit) => [.pointer (some ⟨bx, 0, none⟩), .pointer (some ⟨b1, 1, none⟩), .int .i64 o.a, .int .i64 ((closeP I o.a).2), .pointer (some ⟨bm, 0, none⟩), .pointer (some ⟨b1, 1, none⟩), .int .i64 o.a, .int .i64 ((closeP J o.a).2), .bool true, .bool true]) [(2, [], [3, 7, 8]), (3, [2], [7, 8]), (6, [], [7, 8]), (7, [2, 3, 6], [8]), (8, [2, 3, 6, 7], [])] () rfl (by kernel_rfl) (by kernel_rfl) F S.drew ?_ ?_ ?_ ?_ ?_
         · rintro ⟨⟩; rfl
         · rintro ⟨⟩; kernel_rfl
         ·
          intro D D' x h
          cases x
          simp only [h 3 (by decide), h 7 (by decide)]
         ·
          refine ⟨?_, ?_⟩
          ·
           refine ⟨_, rfl, rfl, by kernel_rfl, ?_⟩
           rintro D ⟨⟩ a z S F
           refine ⟨by kernel_rfl, ?_⟩
           exact op_load _ _ (some ⟨b1, 0, none⟩) 1 (.int .i64 o.a) F rfl (by kernel_rfl) (by kernel_rfl) (cBox S 3 rfl (j := 1) rfl) (⟨(), rfl, (SameB.refl _ _ rfl), S⟩)
          refine ⟨?_, ?_⟩
          ·
           refine ⟨_, rfl, rfl, by kernel_rfl, ?_⟩
           rintro D ⟨⟩ a z S F
           refine ⟨by kernel_rfl, ?_⟩
           have S : Sat w z [rest w G, idA bx I, refA bm J, box b1 40 [.int .i64 o.kind, .int .i64 o.a, .int .i64 o.b, .int .u64 o.n, .int .u64 o.m, .int .u64 o.id, .slice o.Ar o.E.length o.cr, .slice o.As o.A.length o.cs, .bool o.y]] := S
           obtain ⟨G9, g9, hin9, hlt9, k9⟩ := S.frameB [1] (by decide) rfl
           refine op_fn F (by kernel_rfl) (close24_any _ G9 bx I okI g9 o.a ) ?_
           rintro e z9 ⟨rfl, g⟩
           have S : Sat w z9 [rest w G, idA bx (closeP I o.a).1, refA bm J, box b1 40 [.int .i64 o.kind, .int .i64 o.a, .int .i64 o.b, .int .u64 o.n, .int .u64 o.m, .int .u64 o.id, .slice o.Ar o.E.length o.cr, .slice o.As o.A.length o.cs, .bool o.y]] := k9 z9 [idA bx (closeP I o.a).1] rfl g
           clear g g9 k9 hin9 hlt9
           exact ⟨_, rfl, (), rfl, (SameB.refl _ _ rfl), S⟩
          refine ⟨?_, ?_⟩
          ·
           refine ⟨_, rfl, rfl, by kernel_rfl, ?_⟩
           rintro D ⟨⟩ a z S F
           refine ⟨by kernel_rfl, ?_⟩
           exact op_load _ _ (some ⟨b1, 0, none⟩) 1 (.int .i64 o.a) F rfl (by kernel_rfl) (by kernel_rfl) (cBox S 3 rfl (j := 1) rfl) (⟨(), rfl, (SameB.refl _ _ rfl), S⟩)
          refine ⟨?_, ?_⟩
          ·
           refine ⟨_, rfl, rfl, by kernel_rfl, ?_⟩
           rintro D ⟨⟩ a z S F
           refine ⟨by kernel_rfl, ?_⟩
           have S : Sat w z [rest w G, idA bx (closeP I o.a).1, refA bm J, box b1 40 [.int .i64 o.kind, .int .i64 o.a, .int .i64 o.b, .int .u64 o.n, .int .u64 o.m, .int .u64 o.id, .slice o.Ar o.E.length o.cr, .slice o.As o.A.length o.cs, .bool o.y]] := S
           obtain ⟨G9, g9, hin9, hlt9, k9⟩ := S.frameB [2] (by decide) rfl
           refine op_fn F (by kernel_rfl) (rclose24_any _ G9 bm J okJ g9 hpn o.a ) ?_
           rintro e z9 ⟨rfl, g⟩
           have S : Sat w z9 [rest w G, idA bx (closeP I o.a).1, refA bm (closeP J o.a).1, box b1 40 [.int .i64 o.kind, .int .i64 o.a, .int .i64 o.b, .int .u64 o.n, .int .u64 o.m, .int .u64 o.id, .slice o.Ar o.E.length o.cr, .slice o.As o.A.length o.cs, .bool o.y]] := k9 z9 [refA bm (closeP J o.a).1] rfl g
           clear g g9 k9 hin9 hlt9
           exact ⟨_, rfl, (), rfl, (SameB.refl _ _ rfl), S⟩
          refine ⟨?_, ?_⟩
          ·
           refine ⟨_, rfl, rfl, by kernel_rfl, ?_⟩
           rintro D ⟨⟩ a z S F
           refine ⟨by kernel_rfl, ?_⟩
           exact op_pure F (v0 := .bool (((closeP I o.a).2 : Int) == ((closeP J o.a).2 : Int))) (v := .bool true) (by kernel_rfl) (eqlT ht16) ⟨(), rfl, (SameB.refl _ _ rfl), S⟩
          trivial
         ·
          rintro ⟨⟩ a z F S
          have F := F.sub (l := [(6, .bool true)]) ⟨by kernel_rfl, trivial⟩
          have S : Sat w z [rest w G, idA bx (closeP I o.a).1, refA bm (closeP J o.a).1, box b1 40 [.int .i64 o.kind, .int .i64 o.a, .int .i64 o.b, .int .u64 o.n, .int .u64 o.m, .int .u64 o.id, .slice o.Ar o.E.length o.cr, .slice o.As o.A.length o.cs, .bool o.y]] := S
          refine then_n ?_
          refine wp_ret ?_
          refine inb_r (then_r (?_))
          exact fin F [.tmp 6] [.bool true] rfl ⟨by kernel_rfl, trivial⟩ (.bool true) rfl ⟨true, rfl, (fun _ => rfl), by rw [step_6 ht15, step_6 ht15]; exact S.pick [1, 2, 0] (by decide)⟩
        ·
         skip
         refine region_gx (fun D => fun (_ : Unit) => [rest w G, bif D 3 then idA bx (closeP I o.a).1 else idA bx I, bif D 7 then refA bm (closeP J o.a).1 else refA bm J, box b1 40 [.int .i64 o.kind, .int .i64 o.a, .int .i64 o.b, .int .u64 o.n, .int .u64 o.m, .int .u64 o.id, .slice o.Ar o.E.length o.cr, .slice o.As o.A.length o.cs, .bool o.y]]) (fun (_ : Unit) => [.pointer (some ⟨bx, 0, none⟩), .pointer (some ⟨b1, 1, none⟩), .int .i64 o.a, .int .i64 ((closeP I o.a).2), .pointer (some ⟨bm, 0, none⟩), .pointer (some ⟨b1, 1, none⟩), .int .i64 o.a, .int .i64 ((closeP J o.a).2), .bool false, .bool false]) [(2, [], [3, 7, 8]), (3, [2], [7, 8]), (6, [], [7, 8]), (7, [2, 3, 6], [8]), (8, [2, 3, 6, 7], [])] () rfl (by kernel_rfl) (by kernel_rfl) F S.drew ?_ ?_ ?_ ?_ ?_
         · rintro ⟨⟩; rfl
         · rintro ⟨⟩; kernel_rfl
         ·
          intro D D' x h
          cases x
          simp only [h 3 (by decide), h 7 (by decide)]
         ·
          refine ⟨?_, ?_⟩
          ·
           refine ⟨_, rfl, rfl, by kernel_rfl, ?_⟩
           rintro D ⟨⟩ a z S F
           refine ⟨by kernel_rfl, ?_⟩
           exact op_load _ _ (some ⟨b1, 0, none⟩) 1 (.int .i64 o.a) F rfl (by kernel_rfl) (by kernel_rfl) (cBox S 3 rfl (j := 1) rfl) (⟨(), rfl, (SameB.refl _ _ rfl), S⟩)
          refine ⟨?_, ?_⟩
          ·
           refine ⟨_, rfl, rfl, by kernel_rfl, ?_⟩
           rintro D ⟨⟩ a z S F
           refine ⟨by kernel_rfl, ?_⟩
           have S : Sat w z [rest w G, idA bx I, refA bm J, box b1 40 [.int .i64 o.kind, .int .i64 o.a, .int .i64 o.b, .int .u64 o.n, .int .u64 o.m, .int .u64 o.id, .slice o.Ar o.E.length o.cr, .slice o.As o.A.length o.cs, .bool o.y]] := S
           obtain ⟨G9, g9, hin9, hlt9, k9⟩ := S.frameB [1] (by decide) rfl
           refine op_fn F (by kernel_rfl) (close24_any _ G9 bx I okI g9 o.a ) ?_
           rintro e z9 ⟨rfl, g⟩
           have S : Sat w z9 [rest w G, idA bx (closeP I o.a).1, refA bm J, box b1 40 [.int .i64 o.kind, .int .i64 o.a, .int .i64 o.b, .int .u64 o.n, .int .u64 o.m, .int .u64 o.id, .slice o.Ar o.E.length o.cr, .slice o.As o.A.length o.cs, .bool o.y]] := k9 z9 [idA bx (closeP I o.a).1] rfl g
           clear g g9 k9 hin9 hlt9
           exact ⟨_, rfl, (), rfl, (SameB.refl _ _ rfl), S⟩
          refine ⟨?_, ?_⟩
          ·
           refine ⟨_, rfl, rfl, by kernel_rfl, ?_⟩
           rintro D ⟨⟩ a z S F
           refine ⟨by kernel_rfl, ?_⟩
           exact op_load _ _ (some ⟨b1, 0, none⟩) 1 (.int .i64 o.a) F rfl (by kernel_rfl) (by kernel_rfl) (cBox S 3 rfl (j := 1) rfl) (⟨(), rfl, (SameB.refl _ _ rfl), S⟩)
          refine ⟨?_, ?_⟩
          ·
           refine ⟨_, rfl, rfl, by kernel_rfl, ?_⟩
           rintro D ⟨⟩ a z S F
           refine ⟨by kernel_rfl, ?_⟩
           have S : Sat w z [rest w G, idA bx (closeP I o.a).1, refA bm J, box b1 40 [.int .i64 o.kind, .int .i64 o.a, .int .i64 o.b, .int .u64 o.n, .int .u64 o.m, .int .u64 o.id, .slice o.Ar o.E.length o.cr, .slice o.As o.A.length o.cs, .bool o.y]] := S
           obtain ⟨G9, g9, hin9, hlt9, k9⟩ := S.frameB [2] (by decide) rfl
           refine op_fn F (by kernel_rfl) (rclose24_any _ G9 bm J okJ g9 hpn o.a ) ?_
           rintro e z9 ⟨rfl, g⟩
           have S : Sat w z9 [rest w G, idA bx (closeP I o.a).1, refA bm (closeP J o.a).1, box b1 40 [.int .i64 o.kind, .int .i64 o.a, .int .i64 o.b, .int .u64 o.n, .int .u64 o.m, .int .u64 o.id, .slice o.Ar o.E.length o.cr, .slice o.As o.A.length o.cs, .bool o.y]] := k9 z9 [refA bm (closeP J o.a).1] rfl g
           clear g g9 k9 hin9 hlt9
           exact ⟨_, rfl, (), rfl, (SameB.refl _ _ rfl), S⟩
          refine ⟨?_, ?_⟩
          ·
           refine ⟨_, rfl, rfl, by kernel_rfl, ?_⟩
           rintro D ⟨⟩ a z S F
           refine ⟨by kernel_rfl, ?_⟩
           exact op_pure F (v0 := .bool (((closeP I o.a).2 : Int) == ((closeP J o.a).2 : Int))) (v := .bool false) (by kernel_rfl) (eqlF ht16) ⟨(), rfl, (SameB.refl _ _ rfl), S⟩
          trivial
         ·
          rintro ⟨⟩ a z F S
          have F := F.sub (l := [(6, .bool false)]) ⟨by kernel_rfl, trivial⟩
          have S : Sat w z [rest w G, idA bx (closeP I o.a).1, refA bm (closeP J o.a).1, box b1 40 [.int .i64 o.kind, .int .i64 o.a, .int .i64 o.b, .int .u64 o.n, .int .u64 o.m, .int .u64 o.id, .slice o.Ar o.E.length o.cr, .slice o.As o.A.length o.cs, .bool o.y]] := S
          refine then_n ?_
          refine wp_ret ?_
          refine inb_r (then_r (?_))
          exact fin F [.tmp 6] [.bool false] rfl ⟨by kernel_rfl, trivial⟩ (.bool false) rfl ⟨false, rfl, (fun hIJ => absurd (by rw [hIJ]) ht16), by rw [step_6 ht15, step_6 ht15]; exact S.pick [1, 2, 0] (by decide)⟩
       ·
        skip
        refine l_do F rfl rfl (op_pure F (v0 := .bool ((o.kind : Int) == (6 : Int))) (v := .bool false) (by kernel_rfl) (eqlF ht15) fun a F => ?_)
        refine l_pure 1 (fun L => (146, .bool false) :: L) F (by kernel_rfl) fun a F => ?_
        refine l_then ?_
        refine c_f F rfl ?_
        refine wp_skip ?_
        refine inb_n ?_
        refine then_n ?_
        refine s_reg ?_
        refine l_pure 1 (fun L => (6, .bool true) :: L) F (by kernel_rfl) fun a F => ?_
        refine l_then ?_
        refine wp_ret ?_
        exact fin F [.tmp 6] [.bool true] rfl ⟨by kernel_rfl, trivial⟩ (.bool true) rfl ⟨true, rfl, (fun _ => rfl), by rw [step_7 ht2 ht5 ht7 ht9 ht11 ht13 ht15, step_7 ht2 ht5 ht7 ht9 ht11 ht13 ht15]; exact S.pick [1, 2, 0] (by decide)⟩
end Go.Proofs.Ytecgpkjigbhneaa
