/- Walk over the program's logbook: Open. -/
import Derived.Test.YtidcdfilfccigaaLgD17
import Derived.Test.YtidcdfilfccigaaLgE17
namespace Go.Proofs.Ytidcdfilfccigaa
set_option linter.unusedVariables false
set_option linter.unusedSimpArgs false
set_option linter.unnecessarySimpa false
open Go Go.RowKit

def pickT (lb : Lb) (i : Nat) (t : Tale) : Lb := if t.2.1 = true ∧ lb.life < t.1 then ⟨i, t.1, t.2.2, 0⟩ else lb
def lb0 : Lb := ⟨1, 0, [], 0⟩
/-- What Open finds. -/
def foundT (s0 s1 : Sd) : Lb := pickT (pickT lb0 0 (tellP s0.rd)) 1 (tellP s1.rd)
def openT (s0 s1 : Sd) : Int × Lg := compT ⟨foundT s0 s1, s0, s1⟩
theorem pick_yes {lb : Lb} {i life : Nat} {L : List NV} (h : (lb.life : Int) < (life : Nat)) : pickT lb i (life, true, L) = ⟨i, life, L, 0⟩ := by
  unfold pickT; rw [if_pos ⟨rfl, by simpa using h⟩]
theorem pick_no {lb : Lb} {i life : Nat} {L : List NV} (h : ¬ (lb.life : Int) < (life : Nat)) : pickT lb i (life, true, L) = lb := by
  unfold pickT; rw [if_neg (fun h9 => h (by simpa using h9.2))]
theorem pick_un {lb : Lb} {i life : Nat} {L : List NV} : pickT lb i (life, false, L) = lb := by
  unfold pickT; rw [if_neg (fun h9 => by cases h9.1)]
theorem tellF_ok : ∀ (f : Nat) (fst : Bool) (t : Tale) (p : Bs), t.1 < 4294967296 → Rises t.2.2 → (∀ x ∈ t.2.2, x.1.length ≤ 255) → (∀ x ∈ t.2.2, x.2.length ≤ 262144) → t.2.2.length + p.length ≤ 262144 → TaleOk (tellF f fst t p)
  | 0, _, t, p, h1, h2, h3, h4, h5 => ⟨h1, h2, h3, h4, by show t.2.2.length ≤ _; omega⟩
  | f + 1, fst, t, p, h1, h2, h3, h4, h5 => by
    have h0 : TaleOk t := ⟨h1, h2, h3, h4, by omega⟩
    unfold tellF
    cases hn : nextP p with
    | none => exact h0
    | some r =>
      obtain ⟨k, n, v, q⟩ := r
      obtain ⟨a1, a2, a3⟩ := next_shorter hn
      have a4 := put_len t.2.2 (n, v)
      have a5 := del_len t.2.2 n
      simp only
      split
      · exact h0
      · split
        · split
          · exact h0
          · exact tellF_ok f false _ q (n4p_lt v) h2 h3 h4 (by simp only; omega)
        · split
          · exact tellF_ok f false _ q h1 (put_rises h2 _) (fun y hy => by rcases put_mem hy with rfl | hy; exact a2; exact h3 y hy) (fun y hy => by rcases put_mem hy with rfl | hy; exact (show v.length ≤ 262144 from by omega); exact h4 y hy) (by simp only; omega)
          · split
            · exact tellF_ok f false _ q h1 (del_rises h2 _) (fun y hy => h3 y (del_mem hy)) (fun y hy => h4 y (del_mem hy)) (by simp only; omega)
            · split
              · exact tellF_ok f false _ q h1 h2 h3 h4 (by simp only; omega)
              · exact h0
theorem tell_ok {p : Bs} (h : p.length ≤ 262144) : TaleOk (tellP p) := tellF_ok _ _ _ _ (by decide) Rises.nil nofun nofun (by simpa using h)
theorem lb0_ok : LbOk lb0 262144 := ⟨by decide, by decide, Rises.nil, nofun, nofun, by decide⟩
theorem pick_ok {lb : Lb} {t : Tale} {i : Nat} (h : LbOk lb 262144) (ht : TaleOk t) (hi : i ≤ 1) : LbOk (pickT lb i t) 262144 := by
  unfold pickT
  split
  · exact ⟨hi, ht.life, ht.ri, ht.nm, ht.vl, ht.ct⟩
  · exact h
theorem found_ok {s0 s1 : Sd} {n m : Int} (h0 : s0.In n) (h1 : s1.In m) : LbOk (foundT s0 s1) 262144 := pick_ok (pick_ok lb0_ok (tell_ok (rd_len h0)) (by decide)) (tell_ok (rd_len h1)) (by decide)
theorem LbOk.up {lb : Lb} {k m : Nat} (h : LbOk lb k) (hk : k ≤ m) : LbOk lb m := ⟨h.on, h.life, h.ri, h.nm, h.vl, Nat.le_trans h.ct hk⟩
section
variable {w0 w w1 : World} {G : Nat → Prop} {b g0 g1 : Nat}
theorem lg_ofHas {l : List Asn} {L : List NV} {on life r : Nat} {dead : Int} (h : Sat w0 w (l ++ [lgBox b g0 g1 on life r dead, hasA r L])) : Sat w0 w (l ++ [lgA b g0 g1 ⟨on, life, L, dead⟩]) := by
  have e : l ++ [lgBox b g0 g1 on life r dead, hasA r L] = (l ++ [lgBox b g0 g1 on life r dead]) ++ [hasA r L] := by simp
  rw [e] at h
  obtain ⟨ck, es, rs, hp, h1⟩ := has_open h
  rw [List.append_assoc] at h1
  exact Sat.shutTold (p := fun m : Nat × HasM => HasOk m.2 (Lb.mk on life L dead).L) (f := fun m => [lgBox b g0 g1 on life m.1 dead, smapA m.1 (m.2.es.map LEnt.e) m.2.ck, bag m.2.rs]) l (r, (⟨ck, es, rs⟩ : HasM)) hp h1
end
set_option maxRecDepth 100000 in
set_option maxHeartbeats 4000000 in
theorem lopen_up (w : World) (G : Nat → Prop) (g0 g1 : Nat) (sd0 sd1 : Sd) (N : Int) (in0 : sd0.In N) (in1 : sd1.In N) (hN : N ≤ 1000000) (hd0 : sd0.down = false) (hd1 : sd1.down = false) (hS : Sat w w [sdA g0 sd0, sdA g1 sd1, rest w G]) : Calls Try.prog 8 #[pt g0 0, pt g1 0] w fun e w' => ((openT sd0 sd1).1 = 0 ∧ ∃ b, e = .returned (.tuple #[pt b 0, .int .i64 0]) ∧ Sat w w' [star2 (sdA g0 (openT sd0 sd1).2.s0) (lgA b g0 g1 (openT sd0 sd1).2.lb), sdA g1 (openT sd0 sd1).2.s1, rest w G]) ∨ (¬ (openT sd0 sd1).1 = 0 ∧ e = .returned (.tuple #[.pointer none, .int .i64 (openT sd0 sd1).1]) ∧ Sat w w' [sdA g0 (openT sd0 sd1).2.s0, sdA g1 (openT sd0 sd1).2.s1, rest w G]) := by
 refine enter 66 Try.func8 rfl rfl rfl fun a F => ?_
 have S : Sat w w [rest w G, sdA g0 sd0, sdA g1 sd1] := hS.pick [2, 0, 1] (by decide)
 obtain ⟨li0, se0, L0, ht0⟩ : ∃ x y z, tellP sd0.rd = (x, y, z) := ⟨_, _, _, rfl⟩
 obtain ⟨li1, se1, L1, ht1⟩ : ∃ x y z, tellP sd1.rd = (x, y, z) := ⟨_, _, _, rfl⟩
 refine s_reg ?_
 refine l_pk 2 (fun L => (5, .int .i64 0) :: (4, .pointer none) :: L) F fun a F => ?_
 refine l_then ?_
 refine s_reg ?_
 refine l_pk 3 (fun L => (14, .agg #[pt g0 0, pt g1 0]) :: (13, pt g1 0) :: (12, pt g0 0) :: L) F fun a F => ?_
 refine l_do F rfl rfl (op_smakeMap S _ rfl fun r1 z S a F => ?_)
 refine l_pk 1 (fun L => (16, .agg #[pt g0 0, pt g1 0, .int .i64 1, .int .u32 0, .map (some r1), .int .i64 0]) :: L) F fun a F => ?_
 refine l_do F rfl rfl (op_box S _ _ (.agg #[pt g0 0, pt g1 0, .int .i64 1, .int .u32 0, .map (some r1), .int .i64 0]) F rfl (by kernel_rfl) fun b2 z S a F => ?_)
 refine l_pk 1 (fun L => (6, pt b2 0) :: L) F fun a F => ?_
 refine l_then ?_
 refine wp_seq ?_
 refine s_reg ?_
 refine l_pk 3 (fun L => (20, pt b2 0) :: (19, pt b2 0) :: (18, pt b2 0) :: L) F fun a F => ?_
 refine l_do F rfl rfl (op_loadK _ _ (some ⟨b2, 0, none⟩) 0 [pt g0 0, pt g1 0] F rfl (by kernel_rfl) (by kernel_rfl) (by kernel_rfl) (by simp) (cBoxK S 4 rfl 0 (by kernel_rfl)) (fun a F => ?_))
 refine l_pk 1 (fun L => (22, .int .i64 0) :: L) F fun a F => ?_
 refine l_then ?_
 refine wp_block ?_
 refine wp_loop_rounds 3 (rnd ?_)
 refine s_reg ?_
 refine l_pk 1 (fun L => (23, .bool true) :: L) F fun a F => ?_
 refine l_then ?_
 refine wp_seq ?_
 refine c_t F rfl ?_
 refine wp_skip ?_
 refine then_n ?_
 refine wp_seq ?_
 refine wp_block ?_
 refine s_reg ?_
 refine l_pk 4 (fun L => (8, pt g0 0) :: (7, .int .i64 0) :: (25, pt g0 0) :: (24, .int .i64 0) :: L) F fun a F => ?_
 refine l_then ?_
 refine s_reg ?_
 refine l_pk 1 (fun L => (27, pt g0 0) :: L) F fun a F => ?_
 obtain ⟨G9, g9, hin9, hlt9, k9⟩ := S.frameB [1] (by decide) rfl
 refine l_do F rfl rfl (op_fn F (by kernel_rfl) ((by have h9 := lread_up _ G9 g0 sd0 N in0 hN hd0 g9; rw [ht0] at h9; exact h9)) ?_)
 rintro e z9 ⟨rt0, rfl, g⟩
 have S : Sat w z9 [rest w G, star2 (sdA g0 sd0) (hasA rt0 L0), sdA g1 sd1, smapA r1 [] 0, box b2 70 [pt g0 0, pt g1 0, .int .i64 1, .int .u32 0, .map (some r1), .int .i64 0]] := k9 z9 [star2 (sdA g0 sd0) (hasA rt0 L0)] rfl g
 clear g g9 k9 hin9 hlt9
 have S := S.open2 (i := 1) rfl
 have S : Sat w z9 [rest w G, sdA g0 sd0, sdA g1 sd1, smapA r1 [] 0, box b2 70 [pt g0 0, pt g1 0, .int .i64 1, .int .u32 0, .map (some r1), .int .i64 0], hasA rt0 L0] := S
 refine ⟨_, rfl, ?_⟩
 intro a F
 refine l_pk 3 (fun L => (30, .int .i64 0) :: (29, .agg #[.int .u32 (li0 : Nat), .bool se0, .map (some rt0)]) :: (26, .tuple #[.agg #[.int .u32 (li0 : Nat), .bool se0, .map (some rt0)], .int .i64 0]) :: L) F fun a F => ?_
 refine l_do F rfl rfl (op_alloc S _ (.agg #[.int .u32 0, .bool false, .map none]) rfl (by kernel_rfl) fun b3 z S a F => ?_)
 refine l_do F rfl rfl (op_storeB S 6 _ _ _ b3 0 (.agg #[.int .u32 (li0 : Nat), .bool se0, .map (some rt0)]) F rfl rfl (by kernel_rfl) (by kernel_rfl) (by kernel_rfl) (by kernel_rfl) (by kernel_rfl) fun z S a F => ?_)
 refine l_pk 1 (fun L => (10, .int .i64 0) :: L) F fun a F => ?_
 refine l_then ?_
 refine wp_seq ?_
 refine s_reg ?_
 refine l_pk 2 (fun L => (32, .bool false) :: (31, .int .i64 0) :: L) F fun a F => ?_
 refine l_then ?_
 refine c_f F rfl ?_
 refine wp_skip ?_
 refine then_n ?_
 refine wp_seq ?_
 cases se0 with
 | false =>
  skip
  refine region_gx (fun D => fun (_ : Unit) => [rest w G, sdA g0 sd0, sdA g1 sd1, smapA r1 [] 0, box b2 70 [pt g0 0, pt g1 0, .int .i64 1, .int .u32 0, .map (some r1), .int .i64 0], hasA rt0 L0, box b3 72 [.int .u32 (li0 : Nat), .bool false, .map (some rt0)]]) (fun (_ : Unit) => [pt b3 1, .bool false, .bool false, undef, undef, undef, undef, undef, undef, undef, .bool false]) [(1, [], [])] () rfl (by kernel_rfl) (by kernel_rfl) F S.drew ?_ ?_ ?_ ?_ ?_
  · rintro ⟨⟩; rfl
  · rintro ⟨⟩; kernel_rfl
  ·
   intro D D' x h
   cases x
   rfl
  ·
   refine ⟨?_, ?_⟩
   ·
    refine ⟨_, rfl, rfl, by kernel_rfl, ?_⟩
    rintro D ⟨⟩ a z S F
    refine ⟨by kernel_rfl, ?_⟩
    exact op_ldk (some ⟨b3, 0, none⟩) 1 (.bool false) F rfl (cBox S 6 rfl (j := 1) rfl) (⟨(), rfl, (SameB.refl _ _ rfl), S⟩)
   trivial
  rintro ⟨⟩ a z F S
  have F := F.subk (l := [(6, pt b2 0), (7, .int .i64 0), (9, pt b3 0), (21, .agg #[pt g0 0, pt g1 0]), (22, .int .i64 0), (44, .bool false)])
  have S : Sat w z [rest w G, sdA g0 sd0, sdA g1 sd1, smapA r1 [] 0, box b2 70 [pt g0 0, pt g1 0, .int .i64 1, .int .u32 0, .map (some r1), .int .i64 0], hasA rt0 L0, box b3 72 [.int .u32 (li0 : Nat), .bool false, .map (some rt0)]] := S
  refine then_n ?_
  refine c_f F rfl ?_
  refine wp_skip ?_
  refine inb_n ?_
  refine then_n ?_
  refine wp_region_list ?_
  refine l_pk 2 (fun L => (22, .int .i64 1) :: (59, .int .i64 1) :: L) F fun a F => ?_
  refine l_then ?_
  refine rnd ?_
  refine s_reg ?_
  refine l_pk 1 (fun L => (23, .bool true) :: L) F fun a F => ?_
  refine l_then ?_
  refine wp_seq ?_
  refine c_t F rfl ?_
  refine wp_skip ?_
  refine then_n ?_
  refine wp_seq ?_
  refine wp_block ?_
  refine s_reg ?_
  refine l_pk 4 (fun L => (8, pt g1 0) :: (7, .int .i64 1) :: (25, pt g1 0) :: (24, .int .i64 1) :: L) F fun a F => ?_
  refine l_then ?_
  refine s_reg ?_
  refine l_pk 1 (fun L => (27, pt g1 0) :: L) F fun a F => ?_
  obtain ⟨G9, g9, hin9, hlt9, k9⟩ := S.frameB [2] (by decide) rfl
  refine l_do F rfl rfl (op_fn F (by kernel_rfl) ((by have h9 := lread_up _ G9 g1 sd1 N in1 hN hd1 g9; rw [ht1] at h9; exact h9)) ?_)
  rintro e z9 ⟨rt1, rfl, g⟩
  have S : Sat w z9 [rest w G, sdA g0 sd0, star2 (sdA g1 sd1) (hasA rt1 L1), smapA r1 [] 0, box b2 70 [pt g0 0, pt g1 0, .int .i64 1, .int .u32 0, .map (some r1), .int .i64 0], hasA rt0 L0, box b3 72 [.int .u32 (li0 : Nat), .bool false, .map (some rt0)]] := k9 z9 [star2 (sdA g1 sd1) (hasA rt1 L1)] rfl g
  clear g g9 k9 hin9 hlt9
  have S := S.open2 (i := 2) rfl
  have S : Sat w z9 [rest w G, sdA g0 sd0, sdA g1 sd1, smapA r1 [] 0, box b2 70 [pt g0 0, pt g1 0, .int .i64 1, .int .u32 0, .map (some r1), .int .i64 0], hasA rt0 L0, box b3 72 [.int .u32 (li0 : Nat), .bool false, .map (some rt0)], hasA rt1 L1] := S
  refine ⟨_, rfl, ?_⟩
  intro a F
  refine l_pk 3 (fun L => (30, .int .i64 0) :: (29, .agg #[.int .u32 (li1 : Nat), .bool se1, .map (some rt1)]) :: (26, .tuple #[.agg #[.int .u32 (li1 : Nat), .bool se1, .map (some rt1)], .int .i64 0]) :: L) F fun a F => ?_
  refine l_do F rfl rfl (op_alloc S _ (.agg #[.int .u32 0, .bool false, .map none]) rfl (by kernel_rfl) fun b4 z S a F => ?_)
  refine l_do F rfl rfl (op_storeB S 8 _ _ _ b4 0 (.agg #[.int .u32 (li1 : Nat), .bool se1, .map (some rt1)]) F rfl rfl (by kernel_rfl) (by kernel_rfl) (by kernel_rfl) (by kernel_rfl) (by kernel_rfl) fun z S a F => ?_)
  refine l_pk 1 (fun L => (10, .int .i64 0) :: L) F fun a F => ?_
  refine l_then ?_
  refine wp_seq ?_
  refine s_reg ?_
  refine l_pk 2 (fun L => (32, .bool false) :: (31, .int .i64 0) :: L) F fun a F => ?_
  refine l_then ?_
  refine c_f F rfl ?_
  refine wp_skip ?_
  refine then_n ?_
  refine wp_seq ?_
  cases se1 with
  | false =>
   skip
   refine region_gx (fun D => fun (_ : Unit) => [rest w G, sdA g0 sd0, sdA g1 sd1, smapA r1 [] 0, box b2 70 [pt g0 0, pt g1 0, .int .i64 1, .int .u32 0, .map (some r1), .int .i64 0], hasA rt0 L0, box b3 72 [.int .u32 (li0 : Nat), .bool false, .map (some rt0)], hasA rt1 L1, box b4 72 [.int .u32 (li1 : Nat), .bool false, .map (some rt1)]]) (fun (_ : Unit) => [pt b4 1, .bool false, .bool false, undef, undef, undef, undef, undef, undef, undef, .bool false]) [(1, [], [])] () rfl (by kernel_rfl) (by kernel_rfl) F S.drew ?_ ?_ ?_ ?_ ?_
   · rintro ⟨⟩; rfl
   · rintro ⟨⟩; kernel_rfl
   ·
    intro D D' x h
    cases x
    rfl
   ·
    refine ⟨?_, ?_⟩
    ·
     refine ⟨_, rfl, rfl, by kernel_rfl, ?_⟩
     rintro D ⟨⟩ a z S F
     refine ⟨by kernel_rfl, ?_⟩
     exact op_ldk (some ⟨b4, 0, none⟩) 1 (.bool false) F rfl (cBox S 8 rfl (j := 1) rfl) (⟨(), rfl, (SameB.refl _ _ rfl), S⟩)
    trivial
   rintro ⟨⟩ a z F S
   have F := F.subk (l := [(6, pt b2 0), (7, .int .i64 1), (9, pt b4 0), (21, .agg #[pt g0 0, pt g1 0]), (22, .int .i64 1), (44, .bool false)])
   have S : Sat w z [rest w G, sdA g0 sd0, sdA g1 sd1, smapA r1 [] 0, box b2 70 [pt g0 0, pt g1 0, .int .i64 1, .int .u32 0, .map (some r1), .int .i64 0], hasA rt0 L0, box b3 72 [.int .u32 (li0 : Nat), .bool false, .map (some rt0)], hasA rt1 L1, box b4 72 [.int .u32 (li1 : Nat), .bool false, .map (some rt1)]] := S
   refine then_n ?_
   refine c_f F rfl ?_
   refine wp_skip ?_
   refine inb_n ?_
   refine then_n ?_
   refine wp_region_list ?_
   refine l_pk 2 (fun L => (22, .int .i64 2) :: (59, .int .i64 2) :: L) F fun a F => ?_
   refine l_then ?_
   refine rnd ?_
   refine s_reg ?_
   refine l_pk 1 (fun L => (23, .bool false) :: L) F fun a F => ?_
   refine l_then ?_
   refine wp_seq ?_
   refine c_f F rfl ?_
   refine wp_exit ?_
   refine then_x ?_
   refine then_x ?_
   refine inb_x ?_
   refine then_n ?_
   refine wp_seq ?_
   refine s_reg ?_
   refine l_pk 1 (fun L => (60, pt b2 0) :: L) F fun a F => ?_
   have hp0 := pick_un (lb := lb0) (i := 0) (life := li0) (L := L0)
   have hp1 := pick_un (lb := lb0) (i := 1) (life := li1) (L := L1)
   have hfo : foundT sd0 sd1 = ⟨1, 0, [], 0⟩ := by unfold foundT; rw [ht0, ht1, hp0, hp1]; rfl
   have hfk := (found_ok in0 in1).up (m := 900000) (by decide)
   rw [hfo] at hfk
   have hox : openT sd0 sd1 = compT (⟨⟨1, 0, [], 0⟩, sd0, sd1⟩ : Lg) := by unfold openT; rw [hfo]
   have S := S.pushBag
   have S : Sat w z ([rest w G, sdA g0 sd0, sdA g1 sd1, lgBox b2 g0 g1 1 0 r1 0] ++ [smapA r1 (([] : List LEnt).map LEnt.e) 0, bag []]) := S.pick [0, 1, 2, 4, 3, 9] (by decide)
   have S := has_shut has_nil S
   have S : Sat w z ([rest w G, sdA g0 sd0, sdA g1 sd1] ++ [lgBox b2 g0 g1 1 0 r1 0, hasA r1 []]) := S
   have S := lg_ofHas S
   have S : Sat w z [rest w G, sdA g0 sd0, sdA g1 sd1, lgA b2 g0 g1 ⟨1, 0, [], 0⟩] := S
   obtain ⟨G9, g9, hin9, hlt9, k9⟩ := S.frameB [3, 1, 2] (by decide) rfl
   refine l_do F rfl rfl (op_fn F (by kernel_rfl) (lcomp_any (x := (⟨⟨1, 0, [], 0⟩, sd0, sd1⟩ : Lg)) N in0 in1 hN hfk g9) ?_)
   rintro e z9 ⟨rfl, g⟩
   have S : Sat w z9 [rest w G, sdA g0 (compT (⟨⟨1, 0, [], 0⟩, sd0, sd1⟩ : Lg)).2.s0, sdA g1 (compT (⟨⟨1, 0, [], 0⟩, sd0, sd1⟩ : Lg)).2.s1, lgA b2 g0 g1 (compT (⟨⟨1, 0, [], 0⟩, sd0, sd1⟩ : Lg)).2.lb] := k9 z9 [lgA b2 g0 g1 (compT (⟨⟨1, 0, [], 0⟩, sd0, sd1⟩ : Lg)).2.lb, sdA g0 (compT (⟨⟨1, 0, [], 0⟩, sd0, sd1⟩ : Lg)).2.s0, sdA g1 (compT (⟨⟨1, 0, [], 0⟩, sd0, sd1⟩ : Lg)).2.s1] rfl g
   clear g g9 k9 hin9 hlt9
   refine ⟨_, rfl, ?_⟩
   intro a F
   refine l_pk 1 (fun L => (11, .int .i64 ((compT (⟨⟨1, 0, [], 0⟩, sd0, sd1⟩ : Lg)).1)) :: L) F fun a F => ?_
   refine l_then ?_
   refine s_reg ?_
   refine l_pk 1 (fun L => (62, .int .i64 ((compT (⟨⟨1, 0, [], 0⟩, sd0, sd1⟩ : Lg)).1)) :: L) F fun a F => ?_
   by_cases ht5 : ((compT (⟨⟨1, 0, [], 0⟩, sd0, sd1⟩ : Lg)).1 : Int) = (0 : Int)
   ·
    refine l_do F rfl rfl (op_pk F (v0 := .bool (((compT (⟨⟨1, 0, [], 0⟩, sd0, sd1⟩ : Lg)).1 : Int) != (0 : Int))) (v := .bool false) (neqF ht5) fun a F => ?_)
    refine l_then ?_
    refine c_f F rfl ?_
    refine wp_skip ?_
    refine then_n ?_
    refine s_reg ?_
    refine l_pk 3 (fun L => (5, .int .i64 0) :: (4, pt b2 0) :: (65, pt b2 0) :: L) F fun a F => ?_
    refine l_then ?_
    refine wp_ret ?_
    exact fin F [.tmp 4, .tmp 5] [pt b2 0, .int .i64 0] rfl ⟨by kernel_rfl, by kernel_rfl, trivial⟩ (.tuple #[pt b2 0, .int .i64 0]) rfl (by rw [hox]; exact .inl ⟨ht5, b2, rfl, (S.join (i := 1) (j := 3) rfl rfl (by decide)).pick [1, 2, 0] (by decide)⟩)
   refine l_do F rfl rfl (op_pk F (v0 := .bool (((compT (⟨⟨1, 0, [], 0⟩, sd0, sd1⟩ : Lg)).1 : Int) != (0 : Int))) (v := .bool true) (neqT ht5) fun a F => ?_)
   refine l_then ?_
   refine c_t F rfl ?_
   refine s_reg ?_
   refine l_pk 3 (fun L => (5, .int .i64 ((compT (⟨⟨1, 0, [], 0⟩, sd0, sd1⟩ : Lg)).1)) :: (4, .pointer none) :: (64, .int .i64 ((compT (⟨⟨1, 0, [], 0⟩, sd0, sd1⟩ : Lg)).1)) :: L) F fun a F => ?_
   refine l_then ?_
   refine wp_ret ?_
   refine then_r (?_)
   exact fin F [.tmp 4, .tmp 5] [.pointer none, .int .i64 ((compT (⟨⟨1, 0, [], 0⟩, sd0, sd1⟩ : Lg)).1)] rfl ⟨by kernel_rfl, by kernel_rfl, trivial⟩ (.tuple #[.pointer none, .int .i64 ((compT (⟨⟨1, 0, [], 0⟩, sd0, sd1⟩ : Lg)).1)]) rfl (by rw [hox]; exact .inr ⟨ht5, rfl, S.pick [1, 2, 0] (by decide)⟩)
  | true =>
   skip
   by_cases ht6 : (0 : Int) < ((li1 : Nat) : Int)
   ·
    refine region_gx (fun D => fun (_ : Unit) => [rest w G, sdA g0 sd0, sdA g1 sd1, smapA r1 [] 0, box b2 70 [pt g0 0, pt g1 0, .int .i64 1, .int .u32 0, .map (some r1), .int .i64 0], hasA rt0 L0, box b3 72 [.int .u32 (li0 : Nat), .bool false, .map (some rt0)], hasA rt1 L1, box b4 72 [.int .u32 (li1 : Nat), .bool true, .map (some rt1)]]) (fun (_ : Unit) => [pt b4 1, .bool true, .bool true, pt b4 0, .int .u32 (li1 : Nat), pt b2 0, pt b2 0, pt b2 3, .int .u32 0, .bool true, .bool true]) [(1, [], [4, 8, 9]), (4, [1], [9]), (8, [1], [9]), (9, [1, 4, 8], [])] () rfl (by kernel_rfl) (by kernel_rfl) F S.drew ?_ ?_ ?_ ?_ ?_
    · rintro ⟨⟩; rfl
    · rintro ⟨⟩; kernel_rfl
    ·
     intro D D' x h
     cases x
     rfl
    ·
     refine ⟨?_, ?_⟩
     ·
      refine ⟨_, rfl, rfl, by kernel_rfl, ?_⟩
      rintro D ⟨⟩ a z S F
      refine ⟨by kernel_rfl, ?_⟩
      exact op_ldk (some ⟨b4, 0, none⟩) 1 (.bool true) F rfl (cBox S 8 rfl (j := 1) rfl) (⟨(), rfl, (SameB.refl _ _ rfl), S⟩)
     refine ⟨?_, ?_⟩
     ·
      refine ⟨_, rfl, rfl, by kernel_rfl, ?_⟩
      rintro D ⟨⟩ a z S F
      refine ⟨by kernel_rfl, ?_⟩
      exact op_ldk (some ⟨b4, 0, none⟩) 0 (.int .u32 (li1 : Nat)) F rfl (cBox S 8 rfl (j := 0) rfl) (⟨(), rfl, (SameB.refl _ _ rfl), S⟩)
     refine ⟨?_, ?_⟩
     ·
      refine ⟨_, rfl, rfl, by kernel_rfl, ?_⟩
      rintro D ⟨⟩ a z S F
      refine ⟨by kernel_rfl, ?_⟩
      exact op_ldk (some ⟨b2, 0, none⟩) 3 (.int .u32 0) F rfl (cBox S 4 rfl (j := 3) rfl) (⟨(), rfl, (SameB.refl _ _ rfl), S⟩)
     refine ⟨?_, ?_⟩
     ·
      refine ⟨_, rfl, rfl, by kernel_rfl, ?_⟩
      rintro D ⟨⟩ a z S F
      refine ⟨by kernel_rfl, ?_⟩
      exact op_pk F (v0 := .bool (decide (((li1 : Nat) : Int) > (0 : Int)))) (v := .bool true) (gtrT ht6) ⟨(), rfl, (SameB.refl _ _ rfl), S⟩
     trivial
    rintro ⟨⟩ a z F S
    have F := F.subk (l := [(6, pt b2 0), (7, .int .i64 1), (9, pt b4 0), (21, .agg #[pt g0 0, pt g1 0]), (22, .int .i64 1), (44, .bool true)])
    have S : Sat w z [rest w G, sdA g0 sd0, sdA g1 sd1, smapA r1 [] 0, box b2 70 [pt g0 0, pt g1 0, .int .i64 1, .int .u32 0, .map (some r1), .int .i64 0], hasA rt0 L0, box b3 72 [.int .u32 (li0 : Nat), .bool false, .map (some rt0)], hasA rt1 L1, box b4 72 [.int .u32 (li1 : Nat), .bool true, .map (some rt1)]] := S
    refine then_n ?_
    refine c_t F rfl ?_
    refine region_gx (fun D => fun (_ : Unit) => [rest w G, sdA g0 sd0, sdA g1 sd1, smapA r1 [] 0, bif D 16 then box b2 70 [pt g0 0, pt g1 0, .int .i64 1, .int .u32 (li1 : Nat), .map (some rt1), .int .i64 0] else (bif D 13 then box b2 70 [pt g0 0, pt g1 0, .int .i64 1, .int .u32 (li1 : Nat), .map (some r1), .int .i64 0] else box b2 70 [pt g0 0, pt g1 0, .int .i64 1, .int .u32 0, .map (some r1), .int .i64 0]), hasA rt0 L0, box b3 72 [.int .u32 (li0 : Nat), .bool false, .map (some rt0)], hasA rt1 L1, box b4 72 [.int .u32 (li1 : Nat), .bool true, .map (some rt1)]]) (fun (_ : Unit) => [pt b2 0, pt b2 0, pt b2 0, .int .i64 1, pt b4 0, .int .u32 (li1 : Nat), pt b4 2, .map (some rt1), pt b2 0, pt b2 2, undef, pt b2 0, pt b2 3, undef, pt b2 0, pt b2 4, undef]) [(5, [], [13, 16]), (7, [], [16]), (10, [], [13, 16]), (13, [5, 10], [16]), (16, [5, 7, 10, 13], [])] () rfl (by kernel_rfl) (by kernel_rfl) F S.drew ?_ ?_ ?_ ?_ ?_
    · rintro ⟨⟩; rfl
    · rintro ⟨⟩; kernel_rfl
    ·
     intro D D' x h
     cases x
     simp only [h 13 (by decide), h 16 (by decide)]
    ·
     refine ⟨?_, ?_⟩
     ·
      refine ⟨_, rfl, rfl, by kernel_rfl, ?_⟩
      rintro D ⟨⟩ a z S F
      refine ⟨by kernel_rfl, ?_⟩
      exact op_ldk (some ⟨b4, 0, none⟩) 0 (.int .u32 (li1 : Nat)) F rfl (cBox S 8 rfl (j := 0) rfl) (⟨(), rfl, (SameB.refl _ _ rfl), S⟩)
     refine ⟨?_, ?_⟩
     ·
      refine ⟨_, rfl, rfl, by kernel_rfl, ?_⟩
      rintro D ⟨⟩ a z S F
      refine ⟨by kernel_rfl, ?_⟩
      exact op_ldk (some ⟨b4, 0, none⟩) 2 (.map (some rt1)) F rfl (cBox S 8 rfl (j := 2) rfl) (⟨(), rfl, (SameB.refl _ _ rfl), S⟩)
     refine ⟨?_, ?_⟩
     ·
      refine ⟨_, rfl, rfl, by kernel_rfl, ?_⟩
      rintro D ⟨⟩ a z S F
      refine ⟨by kernel_rfl, ?_⟩
      exact op_storeB S 4 _ _ _ b2 2 (.int .i64 1) F rfl rfl (by kernel_rfl) (by kernel_rfl) (by kernel_rfl) (by kernel_rfl) (by kernel_rfl) fun z S => ⟨(), rfl, (SameB.refl _ _ rfl), S⟩
     refine ⟨?_, ?_⟩
     ·
      refine ⟨_, rfl, rfl, by kernel_rfl, ?_⟩
      rintro D ⟨⟩ a z S F
      refine ⟨by kernel_rfl, ?_⟩
      exact op_storeB S 4 _ _ _ b2 3 (.int .u32 (li1 : Nat)) F rfl rfl (by kernel_rfl) (by kernel_rfl) (by kernel_rfl) (by kernel_rfl) (by kernel_rfl) fun z S => ⟨(), rfl, (SameB.refl _ _ rfl), S⟩
     refine ⟨?_, ?_⟩
     ·
      refine ⟨_, rfl, rfl, by kernel_rfl, ?_⟩
      rintro D ⟨⟩ a z S F
      refine ⟨by kernel_rfl, ?_⟩
      exact op_storeB S 4 _ _ _ b2 4 (.map (some rt1)) F rfl rfl (by kernel_rfl) (by kernel_rfl) (by kernel_rfl) (by kernel_rfl) (by kernel_rfl) fun z S => ⟨(), rfl, (SameB.refl _ _ rfl), S⟩
     trivial
    rintro ⟨⟩ a z F S
    have F := F.subk (l := [(6, pt b2 0), (21, .agg #[pt g0 0, pt g1 0]), (22, .int .i64 1)])
    have S : Sat w z [rest w G, sdA g0 sd0, sdA g1 sd1, smapA r1 [] 0, box b2 70 [pt g0 0, pt g1 0, .int .i64 1, .int .u32 (li1 : Nat), .map (some rt1), .int .i64 0], hasA rt0 L0, box b3 72 [.int .u32 (li0 : Nat), .bool false, .map (some rt0)], hasA rt1 L1, box b4 72 [.int .u32 (li1 : Nat), .bool true, .map (some rt1)]] := S
    refine inb_n ?_
    refine then_n ?_
    refine wp_region_list ?_
    refine l_pk 2 (fun L => (22, .int .i64 2) :: (59, .int .i64 2) :: L) F fun a F => ?_
    refine l_then ?_
    refine rnd ?_
    refine s_reg ?_
    refine l_pk 1 (fun L => (23, .bool false) :: L) F fun a F => ?_
    refine l_then ?_
    refine wp_seq ?_
    refine c_f F rfl ?_
    refine wp_exit ?_
    refine then_x ?_
    refine then_x ?_
    refine inb_x ?_
    refine then_n ?_
    refine wp_seq ?_
    refine s_reg ?_
    refine l_pk 1 (fun L => (60, pt b2 0) :: L) F fun a F => ?_
    have hp0 := pick_un (lb := lb0) (i := 0) (life := li0) (L := L0)
    have hp1 := pick_yes (lb := lb0) (i := 1) (L := L1) ht6
    have hfo : foundT sd0 sd1 = ⟨1, li1, L1, 0⟩ := by unfold foundT; rw [ht0, ht1, hp0, hp1]
    have hfk := (found_ok in0 in1).up (m := 900000) (by decide)
    rw [hfo] at hfk
    have hox : openT sd0 sd1 = compT (⟨⟨1, li1, L1, 0⟩, sd0, sd1⟩ : Lg) := by unfold openT; rw [hfo]
    have S : Sat w z ([rest w G, sdA g0 sd0, sdA g1 sd1] ++ [lgBox b2 g0 g1 1 li1 rt1 0, hasA rt1 L1]) := S.pick [0, 1, 2, 4, 7] (by decide)
    have S := lg_ofHas S
    have S : Sat w z [rest w G, sdA g0 sd0, sdA g1 sd1, lgA b2 g0 g1 ⟨1, li1, L1, 0⟩] := S
    obtain ⟨G9, g9, hin9, hlt9, k9⟩ := S.frameB [3, 1, 2] (by decide) rfl
    refine l_do F rfl rfl (op_fn F (by kernel_rfl) (lcomp_any (x := (⟨⟨1, li1, L1, 0⟩, sd0, sd1⟩ : Lg)) N in0 in1 hN hfk g9) ?_)
    rintro e z9 ⟨rfl, g⟩
    have S : Sat w z9 [rest w G, sdA g0 (compT (⟨⟨1, li1, L1, 0⟩, sd0, sd1⟩ : Lg)).2.s0, sdA g1 (compT (⟨⟨1, li1, L1, 0⟩, sd0, sd1⟩ : Lg)).2.s1, lgA b2 g0 g1 (compT (⟨⟨1, li1, L1, 0⟩, sd0, sd1⟩ : Lg)).2.lb] := k9 z9 [lgA b2 g0 g1 (compT (⟨⟨1, li1, L1, 0⟩, sd0, sd1⟩ : Lg)).2.lb, sdA g0 (compT (⟨⟨1, li1, L1, 0⟩, sd0, sd1⟩ : Lg)).2.s0, sdA g1 (compT (⟨⟨1, li1, L1, 0⟩, sd0, sd1⟩ : Lg)).2.s1] rfl g
    clear g g9 k9 hin9 hlt9
    refine ⟨_, rfl, ?_⟩
    intro a F
    refine l_pk 1 (fun L => (11, .int .i64 ((compT (⟨⟨1, li1, L1, 0⟩, sd0, sd1⟩ : Lg)).1)) :: L) F fun a F => ?_
    refine l_then ?_
    refine s_reg ?_
    refine l_pk 1 (fun L => (62, .int .i64 ((compT (⟨⟨1, li1, L1, 0⟩, sd0, sd1⟩ : Lg)).1)) :: L) F fun a F => ?_
    by_cases ht7 : ((compT (⟨⟨1, li1, L1, 0⟩, sd0, sd1⟩ : Lg)).1 : Int) = (0 : Int)
    ·
     refine l_do F rfl rfl (op_pk F (v0 := .bool (((compT (⟨⟨1, li1, L1, 0⟩, sd0, sd1⟩ : Lg)).1 : Int) != (0 : Int))) (v := .bool false) (neqF ht7) fun a F => ?_)
     refine l_then ?_
     refine c_f F rfl ?_
     refine wp_skip ?_
     refine then_n ?_
     refine s_reg ?_
     refine l_pk 3 (fun L => (5, .int .i64 0) :: (4, pt b2 0) :: (65, pt b2 0) :: L) F fun a F => ?_
     refine l_then ?_
     refine wp_ret ?_
     exact fin F [.tmp 4, .tmp 5] [pt b2 0, .int .i64 0] rfl ⟨by kernel_rfl, by kernel_rfl, trivial⟩ (.tuple #[pt b2 0, .int .i64 0]) rfl (by rw [hox]; exact .inl ⟨ht7, b2, rfl, (S.join (i := 1) (j := 3) rfl rfl (by decide)).pick [1, 2, 0] (by decide)⟩)
    refine l_do F rfl rfl (op_pk F (v0 := .bool (((compT (⟨⟨1, li1, L1, 0⟩, sd0, sd1⟩ : Lg)).1 : Int) != (0 : Int))) (v := .bool true) (neqT ht7) fun a F => ?_)
    refine l_then ?_
    refine c_t F rfl ?_
    refine s_reg ?_
    refine l_pk 3 (fun L => (5, .int .i64 ((compT (⟨⟨1, li1, L1, 0⟩, sd0, sd1⟩ : Lg)).1)) :: (4, .pointer none) :: (64, .int .i64 ((compT (⟨⟨1, li1, L1, 0⟩, sd0, sd1⟩ : Lg)).1)) :: L) F fun a F => ?_
    refine l_then ?_
    refine wp_ret ?_
    refine then_r (?_)
    exact fin F [.tmp 4, .tmp 5] [.pointer none, .int .i64 ((compT (⟨⟨1, li1, L1, 0⟩, sd0, sd1⟩ : Lg)).1)] rfl ⟨by kernel_rfl, by kernel_rfl, trivial⟩ (.tuple #[.pointer none, .int .i64 ((compT (⟨⟨1, li1, L1, 0⟩, sd0, sd1⟩ : Lg)).1)]) rfl (by rw [hox]; exact .inr ⟨ht7, rfl, S.pick [1, 2, 0] (by decide)⟩)
   refine region_gx (fun D => fun (_ : Unit) => [rest w G, sdA g0 sd0, sdA g1 sd1, smapA r1 [] 0, box b2 70 [pt g0 0, pt g1 0, .int .i64 1, .int .u32 0, .map (some r1), .int .i64 0], hasA rt0 L0, box b3 72 [.int .u32 (li0 : Nat), .bool false, .map (some rt0)], hasA rt1 L1, box b4 72 [.int .u32 (li1 : Nat), .bool true, .map (some rt1)]]) (fun (_ : Unit) => [pt b4 1, .bool true, .bool true, pt b4 0, .int .u32 (li1 : Nat), pt b2 0, pt b2 0, pt b2 3, .int .u32 0, .bool false, .bool false]) [(1, [], [4, 8, 9]), (4, [1], [9]), (8, [1], [9]), (9, [1, 4, 8], [])] () rfl (by kernel_rfl) (by kernel_rfl) F S.drew ?_ ?_ ?_ ?_ ?_
   · rintro ⟨⟩; rfl
   · rintro ⟨⟩; kernel_rfl
   ·
    intro D D' x h
    cases x
    rfl
   ·
    refine ⟨?_, ?_⟩
    ·
     refine ⟨_, rfl, rfl, by kernel_rfl, ?_⟩
     rintro D ⟨⟩ a z S F
     refine ⟨by kernel_rfl, ?_⟩
     exact op_ldk (some ⟨b4, 0, none⟩) 1 (.bool true) F rfl (cBox S 8 rfl (j := 1) rfl) (⟨(), rfl, (SameB.refl _ _ rfl), S⟩)
    refine ⟨?_, ?_⟩
    ·
     refine ⟨_, rfl, rfl, by kernel_rfl, ?_⟩
     rintro D ⟨⟩ a z S F
     refine ⟨by kernel_rfl, ?_⟩
     exact op_ldk (some ⟨b4, 0, none⟩) 0 (.int .u32 (li1 : Nat)) F rfl (cBox S 8 rfl (j := 0) rfl) (⟨(), rfl, (SameB.refl _ _ rfl), S⟩)
    refine ⟨?_, ?_⟩
    ·
     refine ⟨_, rfl, rfl, by kernel_rfl, ?_⟩
     rintro D ⟨⟩ a z S F
     refine ⟨by kernel_rfl, ?_⟩
     exact op_ldk (some ⟨b2, 0, none⟩) 3 (.int .u32 0) F rfl (cBox S 4 rfl (j := 3) rfl) (⟨(), rfl, (SameB.refl _ _ rfl), S⟩)
    refine ⟨?_, ?_⟩
    ·
     refine ⟨_, rfl, rfl, by kernel_rfl, ?_⟩
     rintro D ⟨⟩ a z S F
     refine ⟨by kernel_rfl, ?_⟩
     exact op_pk F (v0 := .bool (decide (((li1 : Nat) : Int) > (0 : Int)))) (v := .bool false) (gtrF ht6) ⟨(), rfl, (SameB.refl _ _ rfl), S⟩
    trivial
   rintro ⟨⟩ a z F S
   have F := F.subk (l := [(6, pt b2 0), (7, .int .i64 1), (9, pt b4 0), (21, .agg #[pt g0 0, pt g1 0]), (22, .int .i64 1), (44, .bool false)])
   have S : Sat w z [rest w G, sdA g0 sd0, sdA g1 sd1, smapA r1 [] 0, box b2 70 [pt g0 0, pt g1 0, .int .i64 1, .int .u32 0, .map (some r1), .int .i64 0], hasA rt0 L0, box b3 72 [.int .u32 (li0 : Nat), .bool false, .map (some rt0)], hasA rt1 L1, box b4 72 [.int .u32 (li1 : Nat), .bool true, .map (some rt1)]] := S
   refine then_n ?_
   refine c_f F rfl ?_
   refine wp_skip ?_
   refine inb_n ?_
   refine then_n ?_
   refine wp_region_list ?_
   refine l_pk 2 (fun L => (22, .int .i64 2) :: (59, .int .i64 2) :: L) F fun a F => ?_
   refine l_then ?_
   refine rnd ?_
   refine s_reg ?_
   refine l_pk 1 (fun L => (23, .bool false) :: L) F fun a F => ?_
   refine l_then ?_
   refine wp_seq ?_
   refine c_f F rfl ?_
   refine wp_exit ?_
   refine then_x ?_
   refine then_x ?_
   refine inb_x ?_
   refine then_n ?_
   refine wp_seq ?_
   refine s_reg ?_
   refine l_pk 1 (fun L => (60, pt b2 0) :: L) F fun a F => ?_
   have hp0 := pick_un (lb := lb0) (i := 0) (life := li0) (L := L0)
   have hp1 := pick_no (lb := lb0) (i := 1) (L := L1) ht6
   have hfo : foundT sd0 sd1 = ⟨1, 0, [], 0⟩ := by unfold foundT; rw [ht0, ht1, hp0, hp1]; rfl
   have hfk := (found_ok in0 in1).up (m := 900000) (by decide)
   rw [hfo] at hfk
   have hox : openT sd0 sd1 = compT (⟨⟨1, 0, [], 0⟩, sd0, sd1⟩ : Lg) := by unfold openT; rw [hfo]
   have S := S.pushBag
   have S : Sat w z ([rest w G, sdA g0 sd0, sdA g1 sd1, lgBox b2 g0 g1 1 0 r1 0] ++ [smapA r1 (([] : List LEnt).map LEnt.e) 0, bag []]) := S.pick [0, 1, 2, 4, 3, 9] (by decide)
   have S := has_shut has_nil S
   have S : Sat w z ([rest w G, sdA g0 sd0, sdA g1 sd1] ++ [lgBox b2 g0 g1 1 0 r1 0, hasA r1 []]) := S
   have S := lg_ofHas S
   have S : Sat w z [rest w G, sdA g0 sd0, sdA g1 sd1, lgA b2 g0 g1 ⟨1, 0, [], 0⟩] := S
   obtain ⟨G9, g9, hin9, hlt9, k9⟩ := S.frameB [3, 1, 2] (by decide) rfl
   refine l_do F rfl rfl (op_fn F (by kernel_rfl) (lcomp_any (x := (⟨⟨1, 0, [], 0⟩, sd0, sd1⟩ : Lg)) N in0 in1 hN hfk g9) ?_)
   rintro e z9 ⟨rfl, g⟩
   have S : Sat w z9 [rest w G, sdA g0 (compT (⟨⟨1, 0, [], 0⟩, sd0, sd1⟩ : Lg)).2.s0, sdA g1 (compT (⟨⟨1, 0, [], 0⟩, sd0, sd1⟩ : Lg)).2.s1, lgA b2 g0 g1 (compT (⟨⟨1, 0, [], 0⟩, sd0, sd1⟩ : Lg)).2.lb] := k9 z9 [lgA b2 g0 g1 (compT (⟨⟨1, 0, [], 0⟩, sd0, sd1⟩ : Lg)).2.lb, sdA g0 (compT (⟨⟨1, 0, [], 0⟩, sd0, sd1⟩ : Lg)).2.s0, sdA g1 (compT (⟨⟨1, 0, [], 0⟩, sd0, sd1⟩ : Lg)).2.s1] rfl g
   clear g g9 k9 hin9 hlt9
   refine ⟨_, rfl, ?_⟩
   intro a F
   refine l_pk 1 (fun L => (11, .int .i64 ((compT (⟨⟨1, 0, [], 0⟩, sd0, sd1⟩ : Lg)).1)) :: L) F fun a F => ?_
   refine l_then ?_
   refine s_reg ?_
   refine l_pk 1 (fun L => (62, .int .i64 ((compT (⟨⟨1, 0, [], 0⟩, sd0, sd1⟩ : Lg)).1)) :: L) F fun a F => ?_
   by_cases ht8 : ((compT (⟨⟨1, 0, [], 0⟩, sd0, sd1⟩ : Lg)).1 : Int) = (0 : Int)
   ·
    refine l_do F rfl rfl (op_pk F (v0 := .bool (((compT (⟨⟨1, 0, [], 0⟩, sd0, sd1⟩ : Lg)).1 : Int) != (0 : Int))) (v := .bool false) (neqF ht8) fun a F => ?_)
    refine l_then ?_
    refine c_f F rfl ?_
    refine wp_skip ?_
    refine then_n ?_
    refine s_reg ?_
    refine l_pk 3 (fun L => (5, .int .i64 0) :: (4, pt b2 0) :: (65, pt b2 0) :: L) F fun a F => ?_
    refine l_then ?_
    refine wp_ret ?_
    exact fin F [.tmp 4, .tmp 5] [pt b2 0, .int .i64 0] rfl ⟨by kernel_rfl, by kernel_rfl, trivial⟩ (.tuple #[pt b2 0, .int .i64 0]) rfl (by rw [hox]; exact .inl ⟨ht8, b2, rfl, (S.join (i := 1) (j := 3) rfl rfl (by decide)).pick [1, 2, 0] (by decide)⟩)
   refine l_do F rfl rfl (op_pk F (v0 := .bool (((compT (⟨⟨1, 0, [], 0⟩, sd0, sd1⟩ : Lg)).1 : Int) != (0 : Int))) (v := .bool true) (neqT ht8) fun a F => ?_)
   refine l_then ?_
   refine c_t F rfl ?_
   refine s_reg ?_
   refine l_pk 3 (fun L => (5, .int .i64 ((compT (⟨⟨1, 0, [], 0⟩, sd0, sd1⟩ : Lg)).1)) :: (4, .pointer none) :: (64, .int .i64 ((compT (⟨⟨1, 0, [], 0⟩, sd0, sd1⟩ : Lg)).1)) :: L) F fun a F => ?_
   refine l_then ?_
   refine wp_ret ?_
   refine then_r (?_)
   exact fin F [.tmp 4, .tmp 5] [.pointer none, .int .i64 ((compT (⟨⟨1, 0, [], 0⟩, sd0, sd1⟩ : Lg)).1)] rfl ⟨by kernel_rfl, by kernel_rfl, trivial⟩ (.tuple #[.pointer none, .int .i64 ((compT (⟨⟨1, 0, [], 0⟩, sd0, sd1⟩ : Lg)).1)]) rfl (by rw [hox]; exact .inr ⟨ht8, rfl, S.pick [1, 2, 0] (by decide)⟩)
 | true =>
  skip
  by_cases ht9 : (0 : Int) < ((li0 : Nat) : Int)
  ·
   refine region_gx (fun D => fun (_ : Unit) => [rest w G, sdA g0 sd0, sdA g1 sd1, smapA r1 [] 0, box b2 70 [pt g0 0, pt g1 0, .int .i64 1, .int .u32 0, .map (some r1), .int .i64 0], hasA rt0 L0, box b3 72 [.int .u32 (li0 : Nat), .bool true, .map (some rt0)]]) (fun (_ : Unit) => [pt b3 1, .bool true, .bool true, pt b3 0, .int .u32 (li0 : Nat), pt b2 0, pt b2 0, pt b2 3, .int .u32 0, .bool true, .bool true]) [(1, [], [4, 8, 9]), (4, [1], [9]), (8, [1], [9]), (9, [1, 4, 8], [])] () rfl (by kernel_rfl) (by kernel_rfl) F S.drew ?_ ?_ ?_ ?_ ?_
   · rintro ⟨⟩; rfl
   · rintro ⟨⟩; kernel_rfl
   ·
    intro D D' x h
    cases x
    rfl
   ·
    refine ⟨?_, ?_⟩
    ·
     refine ⟨_, rfl, rfl, by kernel_rfl, ?_⟩
     rintro D ⟨⟩ a z S F
     refine ⟨by kernel_rfl, ?_⟩
     exact op_ldk (some ⟨b3, 0, none⟩) 1 (.bool true) F rfl (cBox S 6 rfl (j := 1) rfl) (⟨(), rfl, (SameB.refl _ _ rfl), S⟩)
    refine ⟨?_, ?_⟩
    ·
     refine ⟨_, rfl, rfl, by kernel_rfl, ?_⟩
     rintro D ⟨⟩ a z S F
     refine ⟨by kernel_rfl, ?_⟩
     exact op_ldk (some ⟨b3, 0, none⟩) 0 (.int .u32 (li0 : Nat)) F rfl (cBox S 6 rfl (j := 0) rfl) (⟨(), rfl, (SameB.refl _ _ rfl), S⟩)
    refine ⟨?_, ?_⟩
    ·
     refine ⟨_, rfl, rfl, by kernel_rfl, ?_⟩
     rintro D ⟨⟩ a z S F
     refine ⟨by kernel_rfl, ?_⟩
     exact op_ldk (some ⟨b2, 0, none⟩) 3 (.int .u32 0) F rfl (cBox S 4 rfl (j := 3) rfl) (⟨(), rfl, (SameB.refl _ _ rfl), S⟩)
    refine ⟨?_, ?_⟩
    ·
     refine ⟨_, rfl, rfl, by kernel_rfl, ?_⟩
     rintro D ⟨⟩ a z S F
     refine ⟨by kernel_rfl, ?_⟩
     exact op_pk F (v0 := .bool (decide (((li0 : Nat) : Int) > (0 : Int)))) (v := .bool true) (gtrT ht9) ⟨(), rfl, (SameB.refl _ _ rfl), S⟩
    trivial
   rintro ⟨⟩ a z F S
   have F := F.subk (l := [(6, pt b2 0), (7, .int .i64 0), (9, pt b3 0), (21, .agg #[pt g0 0, pt g1 0]), (22, .int .i64 0), (44, .bool true)])
   have S : Sat w z [rest w G, sdA g0 sd0, sdA g1 sd1, smapA r1 [] 0, box b2 70 [pt g0 0, pt g1 0, .int .i64 1, .int .u32 0, .map (some r1), .int .i64 0], hasA rt0 L0, box b3 72 [.int .u32 (li0 : Nat), .bool true, .map (some rt0)]] := S
   refine then_n ?_
   refine c_t F rfl ?_
   refine region_gx (fun D => fun (_ : Unit) => [rest w G, sdA g0 sd0, sdA g1 sd1, smapA r1 [] 0, bif D 16 then box b2 70 [pt g0 0, pt g1 0, .int .i64 0, .int .u32 (li0 : Nat), .map (some rt0), .int .i64 0] else (bif D 13 then box b2 70 [pt g0 0, pt g1 0, .int .i64 0, .int .u32 (li0 : Nat), .map (some r1), .int .i64 0] else (bif D 10 then box b2 70 [pt g0 0, pt g1 0, .int .i64 0, .int .u32 0, .map (some r1), .int .i64 0] else box b2 70 [pt g0 0, pt g1 0, .int .i64 1, .int .u32 0, .map (some r1), .int .i64 0])), hasA rt0 L0, box b3 72 [.int .u32 (li0 : Nat), .bool true, .map (some rt0)]]) (fun (_ : Unit) => [pt b2 0, pt b2 0, pt b2 0, .int .i64 0, pt b3 0, .int .u32 (li0 : Nat), pt b3 2, .map (some rt0), pt b2 0, pt b2 2, undef, pt b2 0, pt b2 3, undef, pt b2 0, pt b2 4, undef]) [(5, [], [13, 16]), (7, [], [16]), (10, [], [13, 16]), (13, [5, 10], [16]), (16, [5, 7, 10, 13], [])] () rfl (by kernel_rfl) (by kernel_rfl) F S.drew ?_ ?_ ?_ ?_ ?_
   · rintro ⟨⟩; rfl
   · rintro ⟨⟩; kernel_rfl
   ·
    intro D D' x h
    cases x
    simp only [h 10 (by decide), h 13 (by decide), h 16 (by decide)]
   ·
    refine ⟨?_, ?_⟩
    ·
     refine ⟨_, rfl, rfl, by kernel_rfl, ?_⟩
     rintro D ⟨⟩ a z S F
     refine ⟨by kernel_rfl, ?_⟩
     exact op_ldk (some ⟨b3, 0, none⟩) 0 (.int .u32 (li0 : Nat)) F rfl (cBox S 6 rfl (j := 0) rfl) (⟨(), rfl, (SameB.refl _ _ rfl), S⟩)
    refine ⟨?_, ?_⟩
    ·
     refine ⟨_, rfl, rfl, by kernel_rfl, ?_⟩
     rintro D ⟨⟩ a z S F
     refine ⟨by kernel_rfl, ?_⟩
     exact op_ldk (some ⟨b3, 0, none⟩) 2 (.map (some rt0)) F rfl (cBox S 6 rfl (j := 2) rfl) (⟨(), rfl, (SameB.refl _ _ rfl), S⟩)
    refine ⟨?_, ?_⟩
    ·
     refine ⟨_, rfl, rfl, by kernel_rfl, ?_⟩
     rintro D ⟨⟩ a z S F
     refine ⟨by kernel_rfl, ?_⟩
     exact op_storeB S 4 _ _ _ b2 2 (.int .i64 0) F rfl rfl (by kernel_rfl) (by kernel_rfl) (by kernel_rfl) (by kernel_rfl) (by kernel_rfl) fun z S => ⟨(), rfl, (SameB.refl _ _ rfl), S⟩
    refine ⟨?_, ?_⟩
    ·
     refine ⟨_, rfl, rfl, by kernel_rfl, ?_⟩
     rintro D ⟨⟩ a z S F
     refine ⟨by kernel_rfl, ?_⟩
     exact op_storeB S 4 _ _ _ b2 3 (.int .u32 (li0 : Nat)) F rfl rfl (by kernel_rfl) (by kernel_rfl) (by kernel_rfl) (by kernel_rfl) (by kernel_rfl) fun z S => ⟨(), rfl, (SameB.refl _ _ rfl), S⟩
    refine ⟨?_, ?_⟩
    ·
     refine ⟨_, rfl, rfl, by kernel_rfl, ?_⟩
     rintro D ⟨⟩ a z S F
     refine ⟨by kernel_rfl, ?_⟩
     exact op_storeB S 4 _ _ _ b2 4 (.map (some rt0)) F rfl rfl (by kernel_rfl) (by kernel_rfl) (by kernel_rfl) (by kernel_rfl) (by kernel_rfl) fun z S => ⟨(), rfl, (SameB.refl _ _ rfl), S⟩
    trivial
   rintro ⟨⟩ a z F S
   have F := F.subk (l := [(6, pt b2 0), (21, .agg #[pt g0 0, pt g1 0]), (22, .int .i64 0)])
   have S : Sat w z [rest w G, sdA g0 sd0, sdA g1 sd1, smapA r1 [] 0, box b2 70 [pt g0 0, pt g1 0, .int .i64 0, .int .u32 (li0 : Nat), .map (some rt0), .int .i64 0], hasA rt0 L0, box b3 72 [.int .u32 (li0 : Nat), .bool true, .map (some rt0)]] := S
   refine inb_n ?_
   refine then_n ?_
   refine wp_region_list ?_
   refine l_pk 2 (fun L => (22, .int .i64 1) :: (59, .int .i64 1) :: L) F fun a F => ?_
   refine l_then ?_
   refine rnd ?_
   refine s_reg ?_
   refine l_pk 1 (fun L => (23, .bool true) :: L) F fun a F => ?_
   refine l_then ?_
   refine wp_seq ?_
   refine c_t F rfl ?_
   refine wp_skip ?_
   refine then_n ?_
   refine wp_seq ?_
   refine wp_block ?_
   refine s_reg ?_
   refine l_pk 4 (fun L => (8, pt g1 0) :: (7, .int .i64 1) :: (25, pt g1 0) :: (24, .int .i64 1) :: L) F fun a F => ?_
   refine l_then ?_
   refine s_reg ?_
   refine l_pk 1 (fun L => (27, pt g1 0) :: L) F fun a F => ?_
   obtain ⟨G9, g9, hin9, hlt9, k9⟩ := S.frameB [2] (by decide) rfl
   refine l_do F rfl rfl (op_fn F (by kernel_rfl) ((by have h9 := lread_up _ G9 g1 sd1 N in1 hN hd1 g9; rw [ht1] at h9; exact h9)) ?_)
   rintro e z9 ⟨rt1, rfl, g⟩
   have S : Sat w z9 [rest w G, sdA g0 sd0, star2 (sdA g1 sd1) (hasA rt1 L1), smapA r1 [] 0, box b2 70 [pt g0 0, pt g1 0, .int .i64 0, .int .u32 (li0 : Nat), .map (some rt0), .int .i64 0], hasA rt0 L0, box b3 72 [.int .u32 (li0 : Nat), .bool true, .map (some rt0)]] := k9 z9 [star2 (sdA g1 sd1) (hasA rt1 L1)] rfl g
   clear g g9 k9 hin9 hlt9
   have S := S.open2 (i := 2) rfl
   have S : Sat w z9 [rest w G, sdA g0 sd0, sdA g1 sd1, smapA r1 [] 0, box b2 70 [pt g0 0, pt g1 0, .int .i64 0, .int .u32 (li0 : Nat), .map (some rt0), .int .i64 0], hasA rt0 L0, box b3 72 [.int .u32 (li0 : Nat), .bool true, .map (some rt0)], hasA rt1 L1] := S
   refine ⟨_, rfl, ?_⟩
   intro a F
   refine l_pk 3 (fun L => (30, .int .i64 0) :: (29, .agg #[.int .u32 (li1 : Nat), .bool se1, .map (some rt1)]) :: (26, .tuple #[.agg #[.int .u32 (li1 : Nat), .bool se1, .map (some rt1)], .int .i64 0]) :: L) F fun a F => ?_
   refine l_do F rfl rfl (op_alloc S _ (.agg #[.int .u32 0, .bool false, .map none]) rfl (by kernel_rfl) fun b10 z S a F => ?_)
   refine l_do F rfl rfl (op_storeB S 8 _ _ _ b10 0 (.agg #[.int .u32 (li1 : Nat), .bool se1, .map (some rt1)]) F rfl rfl (by kernel_rfl) (by kernel_rfl) (by kernel_rfl) (by kernel_rfl) (by kernel_rfl) fun z S a F => ?_)
   refine l_pk 1 (fun L => (10, .int .i64 0) :: L) F fun a F => ?_
   refine l_then ?_
   refine wp_seq ?_
   refine s_reg ?_
   refine l_pk 2 (fun L => (32, .bool false) :: (31, .int .i64 0) :: L) F fun a F => ?_
   refine l_then ?_
   refine c_f F rfl ?_
   refine wp_skip ?_
   refine then_n ?_
   refine wp_seq ?_
   cases se1 with
   | false =>
    skip
    refine region_gx (fun D => fun (_ : Unit) => [rest w G, sdA g0 sd0, sdA g1 sd1, smapA r1 [] 0, box b2 70 [pt g0 0, pt g1 0, .int .i64 0, .int .u32 (li0 : Nat), .map (some rt0), .int .i64 0], hasA rt0 L0, box b3 72 [.int .u32 (li0 : Nat), .bool true, .map (some rt0)], hasA rt1 L1, box b10 72 [.int .u32 (li1 : Nat), .bool false, .map (some rt1)]]) (fun (_ : Unit) => [pt b10 1, .bool false, .bool false, undef, undef, undef, undef, undef, undef, undef, .bool false]) [(1, [], [])] () rfl (by kernel_rfl) (by kernel_rfl) F S.drew ?_ ?_ ?_ ?_ ?_
    · rintro ⟨⟩; rfl
    · rintro ⟨⟩; kernel_rfl
    ·
     intro D D' x h
     cases x
     rfl
    ·
     refine ⟨?_, ?_⟩
     ·
      refine ⟨_, rfl, rfl, by kernel_rfl, ?_⟩
      rintro D ⟨⟩ a z S F
      refine ⟨by kernel_rfl, ?_⟩
      exact op_ldk (some ⟨b10, 0, none⟩) 1 (.bool false) F rfl (cBox S 8 rfl (j := 1) rfl) (⟨(), rfl, (SameB.refl _ _ rfl), S⟩)
     trivial
    rintro ⟨⟩ a z F S
    have F := F.subk (l := [(6, pt b2 0), (7, .int .i64 1), (9, pt b10 0), (21, .agg #[pt g0 0, pt g1 0]), (22, .int .i64 1), (44, .bool false)])
    have S : Sat w z [rest w G, sdA g0 sd0, sdA g1 sd1, smapA r1 [] 0, box b2 70 [pt g0 0, pt g1 0, .int .i64 0, .int .u32 (li0 : Nat), .map (some rt0), .int .i64 0], hasA rt0 L0, box b3 72 [.int .u32 (li0 : Nat), .bool true, .map (some rt0)], hasA rt1 L1, box b10 72 [.int .u32 (li1 : Nat), .bool false, .map (some rt1)]] := S
    refine then_n ?_
    refine c_f F rfl ?_
    refine wp_skip ?_
    refine inb_n ?_
    refine then_n ?_
    refine wp_region_list ?_
    refine l_pk 2 (fun L => (22, .int .i64 2) :: (59, .int .i64 2) :: L) F fun a F => ?_
    refine l_then ?_
    refine rnd ?_
    refine s_reg ?_
    refine l_pk 1 (fun L => (23, .bool false) :: L) F fun a F => ?_
    refine l_then ?_
    refine wp_seq ?_
    refine c_f F rfl ?_
    refine wp_exit ?_
    refine then_x ?_
    refine then_x ?_
    refine inb_x ?_
    refine then_n ?_
    refine wp_seq ?_
    refine s_reg ?_
    refine l_pk 1 (fun L => (60, pt b2 0) :: L) F fun a F => ?_
    have hp0 := pick_yes (lb := lb0) (i := 0) (L := L0) ht9
    have hp1 := pick_un (lb := (⟨0, li0, L0, 0⟩ : Lb)) (i := 1) (life := li1) (L := L1)
    have hfo : foundT sd0 sd1 = ⟨0, li0, L0, 0⟩ := by unfold foundT; rw [ht0, ht1, hp0, hp1]
    have hfk := (found_ok in0 in1).up (m := 900000) (by decide)
    rw [hfo] at hfk
    have hox : openT sd0 sd1 = compT (⟨⟨0, li0, L0, 0⟩, sd0, sd1⟩ : Lg) := by unfold openT; rw [hfo]
    have S : Sat w z ([rest w G, sdA g0 sd0, sdA g1 sd1] ++ [lgBox b2 g0 g1 0 li0 rt0 0, hasA rt0 L0]) := S.pick [0, 1, 2, 4, 5] (by decide)
    have S := lg_ofHas S
    have S : Sat w z [rest w G, sdA g0 sd0, sdA g1 sd1, lgA b2 g0 g1 ⟨0, li0, L0, 0⟩] := S
    obtain ⟨G9, g9, hin9, hlt9, k9⟩ := S.frameB [3, 1, 2] (by decide) rfl
    refine l_do F rfl rfl (op_fn F (by kernel_rfl) (lcomp_any (x := (⟨⟨0, li0, L0, 0⟩, sd0, sd1⟩ : Lg)) N in0 in1 hN hfk g9) ?_)
    rintro e z9 ⟨rfl, g⟩
    have S : Sat w z9 [rest w G, sdA g0 (compT (⟨⟨0, li0, L0, 0⟩, sd0, sd1⟩ : Lg)).2.s0, sdA g1 (compT (⟨⟨0, li0, L0, 0⟩, sd0, sd1⟩ : Lg)).2.s1, lgA b2 g0 g1 (compT (⟨⟨0, li0, L0, 0⟩, sd0, sd1⟩ : Lg)).2.lb] := k9 z9 [lgA b2 g0 g1 (compT (⟨⟨0, li0, L0, 0⟩, sd0, sd1⟩ : Lg)).2.lb, sdA g0 (compT (⟨⟨0, li0, L0, 0⟩, sd0, sd1⟩ : Lg)).2.s0, sdA g1 (compT (⟨⟨0, li0, L0, 0⟩, sd0, sd1⟩ : Lg)).2.s1] rfl g
    clear g g9 k9 hin9 hlt9
    refine ⟨_, rfl, ?_⟩
    intro a F
    refine l_pk 1 (fun L => (11, .int .i64 ((compT (⟨⟨0, li0, L0, 0⟩, sd0, sd1⟩ : Lg)).1)) :: L) F fun a F => ?_
    refine l_then ?_
    refine s_reg ?_
    refine l_pk 1 (fun L => (62, .int .i64 ((compT (⟨⟨0, li0, L0, 0⟩, sd0, sd1⟩ : Lg)).1)) :: L) F fun a F => ?_
    by_cases ht11 : ((compT (⟨⟨0, li0, L0, 0⟩, sd0, sd1⟩ : Lg)).1 : Int) = (0 : Int)
    ·
     refine l_do F rfl rfl (op_pk F (v0 := .bool (((compT (⟨⟨0, li0, L0, 0⟩, sd0, sd1⟩ : Lg)).1 : Int) != (0 : Int))) (v := .bool false) (neqF ht11) fun a F => ?_)
     refine l_then ?_
     refine c_f F rfl ?_
     refine wp_skip ?_
     refine then_n ?_
     refine s_reg ?_
     refine l_pk 3 (fun L => (5, .int .i64 0) :: (4, pt b2 0) :: (65, pt b2 0) :: L) F fun a F => ?_
     refine l_then ?_
     refine wp_ret ?_
     exact fin F [.tmp 4, .tmp 5] [pt b2 0, .int .i64 0] rfl ⟨by kernel_rfl, by kernel_rfl, trivial⟩ (.tuple #[pt b2 0, .int .i64 0]) rfl (by rw [hox]; exact .inl ⟨ht11, b2, rfl, (S.join (i := 1) (j := 3) rfl rfl (by decide)).pick [1, 2, 0] (by decide)⟩)
    refine l_do F rfl rfl (op_pk F (v0 := .bool (((compT (⟨⟨0, li0, L0, 0⟩, sd0, sd1⟩ : Lg)).1 : Int) != (0 : Int))) (v := .bool true) (neqT ht11) fun a F => ?_)
    refine l_then ?_
    refine c_t F rfl ?_
    refine s_reg ?_
    refine l_pk 3 (fun L => (5, .int .i64 ((compT (⟨⟨0, li0, L0, 0⟩, sd0, sd1⟩ : Lg)).1)) :: (4, .pointer none) :: (64, .int .i64 ((compT (⟨⟨0, li0, L0, 0⟩, sd0, sd1⟩ : Lg)).1)) :: L) F fun a F => ?_
    refine l_then ?_
    refine wp_ret ?_
    refine then_r (?_)
    exact fin F [.tmp 4, .tmp 5] [.pointer none, .int .i64 ((compT (⟨⟨0, li0, L0, 0⟩, sd0, sd1⟩ : Lg)).1)] rfl ⟨by kernel_rfl, by kernel_rfl, trivial⟩ (.tuple #[.pointer none, .int .i64 ((compT (⟨⟨0, li0, L0, 0⟩, sd0, sd1⟩ : Lg)).1)]) rfl (by rw [hox]; exact .inr ⟨ht11, rfl, S.pick [1, 2, 0] (by decide)⟩)
   | true =>
    skip
    by_cases ht12 : ((li0 : Nat) : Int) < ((li1 : Nat) : Int)
    ·
     refine region_gx (fun D => fun (_ : Unit) => [rest w G, sdA g0 sd0, sdA g1 sd1, smapA r1 [] 0, box b2 70 [pt g0 0, pt g1 0, .int .i64 0, .int .u32 (li0 : Nat), .map (some rt0), .int .i64 0], hasA rt0 L0, box b3 72 [.int .u32 (li0 : Nat), .bool true, .map (some rt0)], hasA rt1 L1, box b10 72 [.int .u32 (li1 : Nat), .bool true, .map (some rt1)]]) (fun (_ : Unit) => [pt b10 1, .bool true, .bool true, pt b10 0, .int .u32 (li1 : Nat), pt b2 0, pt b2 0, pt b2 3, .int .u32 (li0 : Nat), .bool true, .bool true]) [(1, [], [4, 8, 9]), (4, [1], [9]), (8, [1], [9]), (9, [1, 4, 8], [])] () rfl (by kernel_rfl) (by kernel_rfl) F S.drew ?_ ?_ ?_ ?_ ?_
     · rintro ⟨⟩; rfl
     · rintro ⟨⟩; kernel_rfl
     ·
      intro D D' x h
      cases x
      rfl
     ·
      refine ⟨?_, ?_⟩
      ·
       refine ⟨_, rfl, rfl, by kernel_rfl, ?_⟩
       rintro D ⟨⟩ a z S F
       refine ⟨by kernel_rfl, ?_⟩
       exact op_ldk (some ⟨b10, 0, none⟩) 1 (.bool true) F rfl (cBox S 8 rfl (j := 1) rfl) (⟨(), rfl, (SameB.refl _ _ rfl), S⟩)
      refine ⟨?_, ?_⟩
      ·
       refine ⟨_, rfl, rfl, by kernel_rfl, ?_⟩
       rintro D ⟨⟩ a z S F
       refine ⟨by kernel_rfl, ?_⟩
       exact op_ldk (some ⟨b10, 0, none⟩) 0 (.int .u32 (li1 : Nat)) F rfl (cBox S 8 rfl (j := 0) rfl) (⟨(), rfl, (SameB.refl _ _ rfl), S⟩)
      refine ⟨?_, ?_⟩
      ·
       refine ⟨_, rfl, rfl, by kernel_rfl, ?_⟩
       rintro D ⟨⟩ a z S F
       refine ⟨by kernel_rfl, ?_⟩
       exact op_ldk (some ⟨b2, 0, none⟩) 3 (.int .u32 (li0 : Nat)) F rfl (cBox S 4 rfl (j := 3) rfl) (⟨(), rfl, (SameB.refl _ _ rfl), S⟩)
      refine ⟨?_, ?_⟩
      ·
       refine ⟨_, rfl, rfl, by kernel_rfl, ?_⟩
       rintro D ⟨⟩ a z S F
       refine ⟨by kernel_rfl, ?_⟩
       exact op_pk F (v0 := .bool (decide (((li1 : Nat) : Int) > ((li0 : Nat) : Int)))) (v := .bool true) (gtrT ht12) ⟨(), rfl, (SameB.refl _ _ rfl), S⟩
      trivial
     rintro ⟨⟩ a z F S
     have F := F.subk (l := [(6, pt b2 0), (7, .int .i64 1), (9, pt b10 0), (21, .agg #[pt g0 0, pt g1 0]), (22, .int .i64 1), (44, .bool true)])
     have S : Sat w z [rest w G, sdA g0 sd0, sdA g1 sd1, smapA r1 [] 0, box b2 70 [pt g0 0, pt g1 0, .int .i64 0, .int .u32 (li0 : Nat), .map (some rt0), .int .i64 0], hasA rt0 L0, box b3 72 [.int .u32 (li0 : Nat), .bool true, .map (some rt0)], hasA rt1 L1, box b10 72 [.int .u32 (li1 : Nat), .bool true, .map (some rt1)]] := S
     refine then_n ?_
     refine c_t F rfl ?_
     refine region_gx (fun D => fun (_ : Unit) => [rest w G, sdA g0 sd0, sdA g1 sd1, smapA r1 [] 0, bif D 16 then box b2 70 [pt g0 0, pt g1 0, .int .i64 1, .int .u32 (li1 : Nat), .map (some rt1), .int .i64 0] else (bif D 13 then box b2 70 [pt g0 0, pt g1 0, .int .i64 1, .int .u32 (li1 : Nat), .map (some rt0), .int .i64 0] else (bif D 10 then box b2 70 [pt g0 0, pt g1 0, .int .i64 1, .int .u32 (li0 : Nat), .map (some rt0), .int .i64 0] else box b2 70 [pt g0 0, pt g1 0, .int .i64 0, .int .u32 (li0 : Nat), .map (some rt0), .int .i64 0])), hasA rt0 L0, box b3 72 [.int .u32 (li0 : Nat), .bool true, .map (some rt0)], hasA rt1 L1, box b10 72 [.int .u32 (li1 : Nat), .bool true, .map (some rt1)]]) (fun (_ : Unit) => [pt b2 0, pt b2 0, pt b2 0, .int .i64 1, pt b10 0, .int .u32 (li1 : Nat), pt b10 2, .map (some rt1), pt b2 0, pt b2 2, undef, pt b2 0, pt b2 3, undef, pt b2 0, pt b2 4, undef]) [(5, [], [13, 16]), (7, [], [16]), (10, [], [13, 16]), (13, [5, 10], [16]), (16, [5, 7, 10, 13], [])] () rfl (by kernel_rfl) (by kernel_rfl) F S.drew ?_ ?_ ?_ ?_ ?_
     · rintro ⟨⟩; rfl
     · rintro ⟨⟩; kernel_rfl
     ·
      intro D D' x h
      cases x
      simp only [h 10 (by decide), h 13 (by decide), h 16 (by decide)]
     ·
      refine ⟨?_, ?_⟩
      ·
       refine ⟨_, rfl, rfl, by kernel_rfl, ?_⟩
       rintro D ⟨⟩ a z S F
       refine ⟨by kernel_rfl, ?_⟩
       exact op_ldk (some ⟨b10, 0, none⟩) 0 (.int .u32 (li1 : Nat)) F rfl (cBox S 8 rfl (j := 0) rfl) (⟨(), rfl, (SameB.refl _ _ rfl), S⟩)
      refine ⟨?_, ?_⟩
      ·
       refine ⟨_, rfl, rfl, by kernel_rfl, ?_⟩
       rintro D ⟨⟩ a z S F
       refine ⟨by kernel_rfl, ?_⟩
       exact op_ldk (some ⟨b10, 0, none⟩) 2 (.map (some rt1)) F rfl (cBox S 8 rfl (j := 2) rfl) (⟨(), rfl, (SameB.refl _ _ rfl), S⟩)
      refine ⟨?_, ?_⟩
      ·
       refine ⟨_, rfl, rfl, by kernel_rfl, ?_⟩
       rintro D ⟨⟩ a z S F
       refine ⟨by kernel_rfl, ?_⟩
       exact op_storeB S 4 _ _ _ b2 2 (.int .i64 1) F rfl rfl (by kernel_rfl) (by kernel_rfl) (by kernel_rfl) (by kernel_rfl) (by kernel_rfl) fun z S => ⟨(), rfl, (SameB.refl _ _ rfl), S⟩
      refine ⟨?_, ?_⟩
      ·
       refine ⟨_, rfl, rfl, by kernel_rfl, ?_⟩
       rintro D ⟨⟩ a z S F
       refine ⟨by kernel_rfl, ?_⟩
       exact op_storeB S 4 _ _ _ b2 3 (.int .u32 (li1 : Nat)) F rfl rfl (by kernel_rfl) (by kernel_rfl) (by kernel_rfl) (by kernel_rfl) (by kernel_rfl) fun z S => ⟨(), rfl, (SameB.refl _ _ rfl), S⟩
      refine ⟨?_, ?_⟩
      ·
       refine ⟨_, rfl, rfl, by kernel_rfl, ?_⟩
       rintro D ⟨⟩ a z S F
       refine ⟨by kernel_rfl, ?_⟩
       exact op_storeB S 4 _ _ _ b2 4 (.map (some rt1)) F rfl rfl (by kernel_rfl) (by kernel_rfl) (by kernel_rfl) (by kernel_rfl) (by kernel_rfl) fun z S => ⟨(), rfl, (SameB.refl _ _ rfl), S⟩
      trivial
     rintro ⟨⟩ a z F S
     have F := F.subk (l := [(6, pt b2 0), (21, .agg #[pt g0 0, pt g1 0]), (22, .int .i64 1)])
     have S : Sat w z [rest w G, sdA g0 sd0, sdA g1 sd1, smapA r1 [] 0, box b2 70 [pt g0 0, pt g1 0, .int .i64 1, .int .u32 (li1 : Nat), .map (some rt1), .int .i64 0], hasA rt0 L0, box b3 72 [.int .u32 (li0 : Nat), .bool true, .map (some rt0)], hasA rt1 L1, box b10 72 [.int .u32 (li1 : Nat), .bool true, .map (some rt1)]] := S
     refine inb_n ?_
     refine then_n ?_
     refine wp_region_list ?_
     refine l_pk 2 (fun L => (22, .int .i64 2) :: (59, .int .i64 2) :: L) F fun a F => ?_
     refine l_then ?_
     refine rnd ?_
     refine s_reg ?_
     refine l_pk 1 (fun L => (23, .bool false) :: L) F fun a F => ?_
     refine l_then ?_
     refine wp_seq ?_
     refine c_f F rfl ?_
     refine wp_exit ?_
     refine then_x ?_
     refine then_x ?_
     refine inb_x ?_
     refine then_n ?_
     refine wp_seq ?_
     refine s_reg ?_
     refine l_pk 1 (fun L => (60, pt b2 0) :: L) F fun a F => ?_
     have hp0 := pick_yes (lb := lb0) (i := 0) (L := L0) ht9
     have hp1 := pick_yes (lb := (⟨0, li0, L0, 0⟩ : Lb)) (i := 1) (L := L1) ht12
     have hfo : foundT sd0 sd1 = ⟨1, li1, L1, 0⟩ := by unfold foundT; rw [ht0, ht1, hp0, hp1]
     have hfk := (found_ok in0 in1).up (m := 900000) (by decide)
     rw [hfo] at hfk
     have hox : openT sd0 sd1 = compT (⟨⟨1, li1, L1, 0⟩, sd0, sd1⟩ : Lg) := by unfold openT; rw [hfo]
     have S : Sat w z ([rest w G, sdA g0 sd0, sdA g1 sd1] ++ [lgBox b2 g0 g1 1 li1 rt1 0, hasA rt1 L1]) := S.pick [0, 1, 2, 4, 7] (by decide)
     have S := lg_ofHas S
     have S : Sat w z [rest w G, sdA g0 sd0, sdA g1 sd1, lgA b2 g0 g1 ⟨1, li1, L1, 0⟩] := S
     obtain ⟨G9, g9, hin9, hlt9, k9⟩ := S.frameB [3, 1, 2] (by decide) rfl
     refine l_do F rfl rfl (op_fn F (by kernel_rfl) (lcomp_any (x := (⟨⟨1, li1, L1, 0⟩, sd0, sd1⟩ : Lg)) N in0 in1 hN hfk g9) ?_)
     rintro e z9 ⟨rfl, g⟩
     have S : Sat w z9 [rest w G, sdA g0 (compT (⟨⟨1, li1, L1, 0⟩, sd0, sd1⟩ : Lg)).2.s0, sdA g1 (compT (⟨⟨1, li1, L1, 0⟩, sd0, sd1⟩ : Lg)).2.s1, lgA b2 g0 g1 (compT (⟨⟨1, li1, L1, 0⟩, sd0, sd1⟩ : Lg)).2.lb] := k9 z9 [lgA b2 g0 g1 (compT (⟨⟨1, li1, L1, 0⟩, sd0, sd1⟩ : Lg)).2.lb, sdA g0 (compT (⟨⟨1, li1, L1, 0⟩, sd0, sd1⟩ : Lg)).2.s0, sdA g1 (compT (⟨⟨1, li1, L1, 0⟩, sd0, sd1⟩ : Lg)).2.s1] rfl g
     clear g g9 k9 hin9 hlt9
     refine ⟨_, rfl, ?_⟩
     intro a F
     refine l_pk 1 (fun L => (11, .int .i64 ((compT (⟨⟨1, li1, L1, 0⟩, sd0, sd1⟩ : Lg)).1)) :: L) F fun a F => ?_
     refine l_then ?_
     refine s_reg ?_
     refine l_pk 1 (fun L => (62, .int .i64 ((compT (⟨⟨1, li1, L1, 0⟩, sd0, sd1⟩ : Lg)).1)) :: L) F fun a F => ?_
     by_cases ht13 : ((compT (⟨⟨1, li1, L1, 0⟩, sd0, sd1⟩ : Lg)).1 : Int) = (0 : Int)
     ·
      refine l_do F rfl rfl (op_pk F (v0 := .bool (((compT (⟨⟨1, li1, L1, 0⟩, sd0, sd1⟩ : Lg)).1 : Int) != (0 : Int))) (v := .bool false) (neqF ht13) fun a F => ?_)
      refine l_then ?_
      refine c_f F rfl ?_
      refine wp_skip ?_
      refine then_n ?_
      refine s_reg ?_
      refine l_pk 3 (fun L => (5, .int .i64 0) :: (4, pt b2 0) :: (65, pt b2 0) :: L) F fun a F => ?_
      refine l_then ?_
      refine wp_ret ?_
      exact fin F [.tmp 4, .tmp 5] [pt b2 0, .int .i64 0] rfl ⟨by kernel_rfl, by kernel_rfl, trivial⟩ (.tuple #[pt b2 0, .int .i64 0]) rfl (by rw [hox]; exact .inl ⟨ht13, b2, rfl, (S.join (i := 1) (j := 3) rfl rfl (by decide)).pick [1, 2, 0] (by decide)⟩)
     refine l_do F rfl rfl (op_pk F (v0 := .bool (((compT (⟨⟨1, li1, L1, 0⟩, sd0, sd1⟩ : Lg)).1 : Int) != (0 : Int))) (v := .bool true) (neqT ht13) fun a F => ?_)
     refine l_then ?_
     refine c_t F rfl ?_
     refine s_reg ?_
     refine l_pk 3 (fun L => (5, .int .i64 ((compT (⟨⟨1, li1, L1, 0⟩, sd0, sd1⟩ : Lg)).1)) :: (4, .pointer none) :: (64, .int .i64 ((compT (⟨⟨1, li1, L1, 0⟩, sd0, sd1⟩ : Lg)).1)) :: L) F fun a F => ?_
     refine l_then ?_
     refine wp_ret ?_
     refine then_r (?_)
     exact fin F [.tmp 4, .tmp 5] [.pointer none, .int .i64 ((compT (⟨⟨1, li1, L1, 0⟩, sd0, sd1⟩ : Lg)).1)] rfl ⟨by kernel_rfl, by kernel_rfl, trivial⟩ (.tuple #[.pointer none, .int .i64 ((compT (⟨⟨1, li1, L1, 0⟩, sd0, sd1⟩ : Lg)).1)]) rfl (by rw [hox]; exact .inr ⟨ht13, rfl, S.pick [1, 2, 0] (by decide)⟩)
    refine region_gx (fun D => fun (_ : Unit) => [rest w G, sdA g0 sd0, sdA g1 sd1, smapA r1 [] 0, box b2 70 [pt g0 0, pt g1 0, .int .i64 0, .int .u32 (li0 : Nat), .map (some rt0), .int .i64 0], hasA rt0 L0, box b3 72 [.int .u32 (li0 : Nat), .bool true, .map (some rt0)], hasA rt1 L1, box b10 72 [.int .u32 (li1 : Nat), .bool true, .map (some rt1)]]) (fun (_ : Unit) => [pt b10 1, .bool true, .bool true, pt b10 0, .int .u32 (li1 : Nat), pt b2 0, pt b2 0, pt b2 3, .int .u32 (li0 : Nat), .bool false, .bool false]) [(1, [], [4, 8, 9]), (4, [1], [9]), (8, [1], [9]), (9, [1, 4, 8], [])] () rfl (by kernel_rfl) (by kernel_rfl) F S.drew ?_ ?_ ?_ ?_ ?_
    · rintro ⟨⟩; rfl
    · rintro ⟨⟩; kernel_rfl
    ·
     intro D D' x h
     cases x
     rfl
    ·
     refine ⟨?_, ?_⟩
     ·
      refine ⟨_, rfl, rfl, by kernel_rfl, ?_⟩
      rintro D ⟨⟩ a z S F
      refine ⟨by kernel_rfl, ?_⟩
      exact op_ldk (some ⟨b10, 0, none⟩) 1 (.bool true) F rfl (cBox S 8 rfl (j := 1) rfl) (⟨(), rfl, (SameB.refl _ _ rfl), S⟩)
     refine ⟨?_, ?_⟩
     ·
      refine ⟨_, rfl, rfl, by kernel_rfl, ?_⟩
      rintro D ⟨⟩ a z S F
      refine ⟨by kernel_rfl, ?_⟩
      exact op_ldk (some ⟨b10, 0, none⟩) 0 (.int .u32 (li1 : Nat)) F rfl (cBox S 8 rfl (j := 0) rfl) (⟨(), rfl, (SameB.refl _ _ rfl), S⟩)
     refine ⟨?_, ?_⟩
     ·
      refine ⟨_, rfl, rfl, by kernel_rfl, ?_⟩
      rintro D ⟨⟩ a z S F
      refine ⟨by kernel_rfl, ?_⟩
      exact op_ldk (some ⟨b2, 0, none⟩) 3 (.int .u32 (li0 : Nat)) F rfl (cBox S 4 rfl (j := 3) rfl) (⟨(), rfl, (SameB.refl _ _ rfl), S⟩)
     refine ⟨?_, ?_⟩
     ·
      refine ⟨_, rfl, rfl, by kernel_rfl, ?_⟩
      rintro D ⟨⟩ a z S F
      refine ⟨by kernel_rfl, ?_⟩
      exact op_pk F (v0 := .bool (decide (((li1 : Nat) : Int) > ((li0 : Nat) : Int)))) (v := .bool false) (gtrF ht12) ⟨(), rfl, (SameB.refl _ _ rfl), S⟩
     trivial
    rintro ⟨⟩ a z F S
    have F := F.subk (l := [(6, pt b2 0), (7, .int .i64 1), (9, pt b10 0), (21, .agg #[pt g0 0, pt g1 0]), (22, .int .i64 1), (44, .bool false)])
    have S : Sat w z [rest w G, sdA g0 sd0, sdA g1 sd1, smapA r1 [] 0, box b2 70 [pt g0 0, pt g1 0, .int .i64 0, .int .u32 (li0 : Nat), .map (some rt0), .int .i64 0], hasA rt0 L0, box b3 72 [.int .u32 (li0 : Nat), .bool true, .map (some rt0)], hasA rt1 L1, box b10 72 [.int .u32 (li1 : Nat), .bool true, .map (some rt1)]] := S
    refine then_n ?_
    refine c_f F rfl ?_
    refine wp_skip ?_
    refine inb_n ?_
    refine then_n ?_
    refine wp_region_list ?_
    refine l_pk 2 (fun L => (22, .int .i64 2) :: (59, .int .i64 2) :: L) F fun a F => ?_
    refine l_then ?_
    refine rnd ?_
    refine s_reg ?_
    refine l_pk 1 (fun L => (23, .bool false) :: L) F fun a F => ?_
    refine l_then ?_
    refine wp_seq ?_
    refine c_f F rfl ?_
    refine wp_exit ?_
    refine then_x ?_
    refine then_x ?_
    refine inb_x ?_
    refine then_n ?_
    refine wp_seq ?_
    refine s_reg ?_
    refine l_pk 1 (fun L => (60, pt b2 0) :: L) F fun a F => ?_
    have hp0 := pick_yes (lb := lb0) (i := 0) (L := L0) ht9
    have hp1 := pick_no (lb := (⟨0, li0, L0, 0⟩ : Lb)) (i := 1) (L := L1) ht12
    have hfo : foundT sd0 sd1 = ⟨0, li0, L0, 0⟩ := by unfold foundT; rw [ht0, ht1, hp0, hp1]
    have hfk := (found_ok in0 in1).up (m := 900000) (by decide)
    rw [hfo] at hfk
    have hox : openT sd0 sd1 = compT (⟨⟨0, li0, L0, 0⟩, sd0, sd1⟩ : Lg) := by unfold openT; rw [hfo]
    have S : Sat w z ([rest w G, sdA g0 sd0, sdA g1 sd1] ++ [lgBox b2 g0 g1 0 li0 rt0 0, hasA rt0 L0]) := S.pick [0, 1, 2, 4, 5] (by decide)
    have S := lg_ofHas S
    have S : Sat w z [rest w G, sdA g0 sd0, sdA g1 sd1, lgA b2 g0 g1 ⟨0, li0, L0, 0⟩] := S
    obtain ⟨G9, g9, hin9, hlt9, k9⟩ := S.frameB [3, 1, 2] (by decide) rfl
    refine l_do F rfl rfl (op_fn F (by kernel_rfl) (lcomp_any (x := (⟨⟨0, li0, L0, 0⟩, sd0, sd1⟩ : Lg)) N in0 in1 hN hfk g9) ?_)
    rintro e z9 ⟨rfl, g⟩
    have S : Sat w z9 [rest w G, sdA g0 (compT (⟨⟨0, li0, L0, 0⟩, sd0, sd1⟩ : Lg)).2.s0, sdA g1 (compT (⟨⟨0, li0, L0, 0⟩, sd0, sd1⟩ : Lg)).2.s1, lgA b2 g0 g1 (compT (⟨⟨0, li0, L0, 0⟩, sd0, sd1⟩ : Lg)).2.lb] := k9 z9 [lgA b2 g0 g1 (compT (⟨⟨0, li0, L0, 0⟩, sd0, sd1⟩ : Lg)).2.lb, sdA g0 (compT (⟨⟨0, li0, L0, 0⟩, sd0, sd1⟩ : Lg)).2.s0, sdA g1 (compT (⟨⟨0, li0, L0, 0⟩, sd0, sd1⟩ : Lg)).2.s1] rfl g
    clear g g9 k9 hin9 hlt9
    refine ⟨_, rfl, ?_⟩
    intro a F
    refine l_pk 1 (fun L => (11, .int .i64 ((compT (⟨⟨0, li0, L0, 0⟩, sd0, sd1⟩ : Lg)).1)) :: L) F fun a F => ?_
    refine l_then ?_
    refine s_reg ?_
    refine l_pk 1 (fun L => (62, .int .i64 ((compT (⟨⟨0, li0, L0, 0⟩, sd0, sd1⟩ : Lg)).1)) :: L) F fun a F => ?_
    by_cases ht14 : ((compT (⟨⟨0, li0, L0, 0⟩, sd0, sd1⟩ : Lg)).1 : Int) = (0 : Int)
    ·
     refine l_do F rfl rfl (op_pk F (v0 := .bool (((compT (⟨⟨0, li0, L0, 0⟩, sd0, sd1⟩ : Lg)).1 : Int) != (0 : Int))) (v := .bool false) (neqF ht14) fun a F => ?_)
     refine l_then ?_
     refine c_f F rfl ?_
     refine wp_skip ?_
     refine then_n ?_
     refine s_reg ?_
     refine l_pk 3 (fun L => (5, .int .i64 0) :: (4, pt b2 0) :: (65, pt b2 0) :: L) F fun a F => ?_
     refine l_then ?_
     refine wp_ret ?_
     exact fin F [.tmp 4, .tmp 5] [pt b2 0, .int .i64 0] rfl ⟨by kernel_rfl, by kernel_rfl, trivial⟩ (.tuple #[pt b2 0, .int .i64 0]) rfl (by rw [hox]; exact .inl ⟨ht14, b2, rfl, (S.join (i := 1) (j := 3) rfl rfl (by decide)).pick [1, 2, 0] (by decide)⟩)
    refine l_do F rfl rfl (op_pk F (v0 := .bool (((compT (⟨⟨0, li0, L0, 0⟩, sd0, sd1⟩ : Lg)).1 : Int) != (0 : Int))) (v := .bool true) (neqT ht14) fun a F => ?_)
    refine l_then ?_
    refine c_t F rfl ?_
    refine s_reg ?_
    refine l_pk 3 (fun L => (5, .int .i64 ((compT (⟨⟨0, li0, L0, 0⟩, sd0, sd1⟩ : Lg)).1)) :: (4, .pointer none) :: (64, .int .i64 ((compT (⟨⟨0, li0, L0, 0⟩, sd0, sd1⟩ : Lg)).1)) :: L) F fun a F => ?_
    refine l_then ?_
    refine wp_ret ?_
    refine then_r (?_)
    exact fin F [.tmp 4, .tmp 5] [.pointer none, .int .i64 ((compT (⟨⟨0, li0, L0, 0⟩, sd0, sd1⟩ : Lg)).1)] rfl ⟨by kernel_rfl, by kernel_rfl, trivial⟩ (.tuple #[.pointer none, .int .i64 ((compT (⟨⟨0, li0, L0, 0⟩, sd0, sd1⟩ : Lg)).1)]) rfl (by rw [hox]; exact .inr ⟨ht14, rfl, S.pick [1, 2, 0] (by decide)⟩)
  refine region_gx (fun D => fun (_ : Unit) => [rest w G, sdA g0 sd0, sdA g1 sd1, smapA r1 [] 0, box b2 70 [pt g0 0, pt g1 0, .int .i64 1, .int .u32 0, .map (some r1), .int .i64 0], hasA rt0 L0, box b3 72 [.int .u32 (li0 : Nat), .bool true, .map (some rt0)]]) (fun (_ : Unit) => [pt b3 1, .bool true, .bool true, pt b3 0, .int .u32 (li0 : Nat), pt b2 0, pt b2 0, pt b2 3, .int .u32 0, .bool false, .bool false]) [(1, [], [4, 8, 9]), (4, [1], [9]), (8, [1], [9]), (9, [1, 4, 8], [])] () rfl (by kernel_rfl) (by kernel_rfl) F S.drew ?_ ?_ ?_ ?_ ?_
  · rintro ⟨⟩; rfl
  · rintro ⟨⟩; kernel_rfl
  ·
   intro D D' x h
   cases x
   rfl
  ·
   refine ⟨?_, ?_⟩
   ·
    refine ⟨_, rfl, rfl, by kernel_rfl, ?_⟩
    rintro D ⟨⟩ a z S F
    refine ⟨by kernel_rfl, ?_⟩
    exact op_ldk (some ⟨b3, 0, none⟩) 1 (.bool true) F rfl (cBox S 6 rfl (j := 1) rfl) (⟨(), rfl, (SameB.refl _ _ rfl), S⟩)
   refine ⟨?_, ?_⟩
   ·
    refine ⟨_, rfl, rfl, by kernel_rfl, ?_⟩
    rintro D ⟨⟩ a z S F
    refine ⟨by kernel_rfl, ?_⟩
    exact op_ldk (some ⟨b3, 0, none⟩) 0 (.int .u32 (li0 : Nat)) F rfl (cBox S 6 rfl (j := 0) rfl) (⟨(), rfl, (SameB.refl _ _ rfl), S⟩)
   refine ⟨?_, ?_⟩
   ·
    refine ⟨_, rfl, rfl, by kernel_rfl, ?_⟩
    rintro D ⟨⟩ a z S F
    refine ⟨by kernel_rfl, ?_⟩
    exact op_ldk (some ⟨b2, 0, none⟩) 3 (.int .u32 0) F rfl (cBox S 4 rfl (j := 3) rfl) (⟨(), rfl, (SameB.refl _ _ rfl), S⟩)
   refine ⟨?_, ?_⟩
   ·
    refine ⟨_, rfl, rfl, by kernel_rfl, ?_⟩
    rintro D ⟨⟩ a z S F
    refine ⟨by kernel_rfl, ?_⟩
    exact op_pk F (v0 := .bool (decide (((li0 : Nat) : Int) > (0 : Int)))) (v := .bool false) (gtrF ht9) ⟨(), rfl, (SameB.refl _ _ rfl), S⟩
   trivial
  rintro ⟨⟩ a z F S
  have F := F.subk (l := [(6, pt b2 0), (7, .int .i64 0), (9, pt b3 0), (21, .agg #[pt g0 0, pt g1 0]), (22, .int .i64 0), (44, .bool false)])
  have S : Sat w z [rest w G, sdA g0 sd0, sdA g1 sd1, smapA r1 [] 0, box b2 70 [pt g0 0, pt g1 0, .int .i64 1, .int .u32 0, .map (some r1), .int .i64 0], hasA rt0 L0, box b3 72 [.int .u32 (li0 : Nat), .bool true, .map (some rt0)]] := S
  refine then_n ?_
  refine c_f F rfl ?_
  refine wp_skip ?_
  refine inb_n ?_
  refine then_n ?_
  refine wp_region_list ?_
  refine l_pk 2 (fun L => (22, .int .i64 1) :: (59, .int .i64 1) :: L) F fun a F => ?_
  refine l_then ?_
  refine rnd ?_
  refine s_reg ?_
  refine l_pk 1 (fun L => (23, .bool true) :: L) F fun a F => ?_
  refine l_then ?_
  refine wp_seq ?_
  refine c_t F rfl ?_
  refine wp_skip ?_
  refine then_n ?_
  refine wp_seq ?_
  refine wp_block ?_
  refine s_reg ?_
  refine l_pk 4 (fun L => (8, pt g1 0) :: (7, .int .i64 1) :: (25, pt g1 0) :: (24, .int .i64 1) :: L) F fun a F => ?_
  refine l_then ?_
  refine s_reg ?_
  refine l_pk 1 (fun L => (27, pt g1 0) :: L) F fun a F => ?_
  obtain ⟨G9, g9, hin9, hlt9, k9⟩ := S.frameB [2] (by decide) rfl
  refine l_do F rfl rfl (op_fn F (by kernel_rfl) ((by have h9 := lread_up _ G9 g1 sd1 N in1 hN hd1 g9; rw [ht1] at h9; exact h9)) ?_)
  rintro e z9 ⟨rt1, rfl, g⟩
  have S : Sat w z9 [rest w G, sdA g0 sd0, star2 (sdA g1 sd1) (hasA rt1 L1), smapA r1 [] 0, box b2 70 [pt g0 0, pt g1 0, .int .i64 1, .int .u32 0, .map (some r1), .int .i64 0], hasA rt0 L0, box b3 72 [.int .u32 (li0 : Nat), .bool true, .map (some rt0)]] := k9 z9 [star2 (sdA g1 sd1) (hasA rt1 L1)] rfl g
  clear g g9 k9 hin9 hlt9
  have S := S.open2 (i := 2) rfl
  have S : Sat w z9 [rest w G, sdA g0 sd0, sdA g1 sd1, smapA r1 [] 0, box b2 70 [pt g0 0, pt g1 0, .int .i64 1, .int .u32 0, .map (some r1), .int .i64 0], hasA rt0 L0, box b3 72 [.int .u32 (li0 : Nat), .bool true, .map (some rt0)], hasA rt1 L1] := S
  refine ⟨_, rfl, ?_⟩
  intro a F
  refine l_pk 3 (fun L => (30, .int .i64 0) :: (29, .agg #[.int .u32 (li1 : Nat), .bool se1, .map (some rt1)]) :: (26, .tuple #[.agg #[.int .u32 (li1 : Nat), .bool se1, .map (some rt1)], .int .i64 0]) :: L) F fun a F => ?_
  refine l_do F rfl rfl (op_alloc S _ (.agg #[.int .u32 0, .bool false, .map none]) rfl (by kernel_rfl) fun b15 z S a F => ?_)
  refine l_do F rfl rfl (op_storeB S 8 _ _ _ b15 0 (.agg #[.int .u32 (li1 : Nat), .bool se1, .map (some rt1)]) F rfl rfl (by kernel_rfl) (by kernel_rfl) (by kernel_rfl) (by kernel_rfl) (by kernel_rfl) fun z S a F => ?_)
  refine l_pk 1 (fun L => (10, .int .i64 0) :: L) F fun a F => ?_
  refine l_then ?_
  refine wp_seq ?_
  refine s_reg ?_
  refine l_pk 2 (fun L => (32, .bool false) :: (31, .int .i64 0) :: L) F fun a F => ?_
  refine l_then ?_
  refine c_f F rfl ?_
  refine wp_skip ?_
  refine then_n ?_
  refine wp_seq ?_
  cases se1 with
  | false =>
   skip
   refine region_gx (fun D => fun (_ : Unit) => [rest w G, sdA g0 sd0, sdA g1 sd1, smapA r1 [] 0, box b2 70 [pt g0 0, pt g1 0, .int .i64 1, .int .u32 0, .map (some r1), .int .i64 0], hasA rt0 L0, box b3 72 [.int .u32 (li0 : Nat), .bool true, .map (some rt0)], hasA rt1 L1, box b15 72 [.int .u32 (li1 : Nat), .bool false, .map (some rt1)]]) (fun (_ : Unit) => [pt b15 1, .bool false, .bool false, undef, undef, undef, undef, undef, undef, undef, .bool false]) [(1, [], [])] () rfl (by kernel_rfl) (by kernel_rfl) F S.drew ?_ ?_ ?_ ?_ ?_
   · rintro ⟨⟩; rfl
   · rintro ⟨⟩; kernel_rfl
   ·
    intro D D' x h
    cases x
    rfl
   ·
    refine ⟨?_, ?_⟩
    ·
     refine ⟨_, rfl, rfl, by kernel_rfl, ?_⟩
     rintro D ⟨⟩ a z S F
     refine ⟨by kernel_rfl, ?_⟩
     exact op_ldk (some ⟨b15, 0, none⟩) 1 (.bool false) F rfl (cBox S 8 rfl (j := 1) rfl) (⟨(), rfl, (SameB.refl _ _ rfl), S⟩)
    trivial
   rintro ⟨⟩ a z F S
   have F := F.subk (l := [(6, pt b2 0), (7, .int .i64 1), (9, pt b15 0), (21, .agg #[pt g0 0, pt g1 0]), (22, .int .i64 1), (44, .bool false)])
   have S : Sat w z [rest w G, sdA g0 sd0, sdA g1 sd1, smapA r1 [] 0, box b2 70 [pt g0 0, pt g1 0, .int .i64 1, .int .u32 0, .map (some r1), .int .i64 0], hasA rt0 L0, box b3 72 [.int .u32 (li0 : Nat), .bool true, .map (some rt0)], hasA rt1 L1, box b15 72 [.int .u32 (li1 : Nat), .bool false, .map (some rt1)]] := S
   refine then_n ?_
   refine c_f F rfl ?_
   refine wp_skip ?_
   refine inb_n ?_
   refine then_n ?_
   refine wp_region_list ?_
   refine l_pk 2 (fun L => (22, .int .i64 2) :: (59, .int .i64 2) :: L) F fun a F => ?_
   refine l_then ?_
   refine rnd ?_
   refine s_reg ?_
   refine l_pk 1 (fun L => (23, .bool false) :: L) F fun a F => ?_
   refine l_then ?_
   refine wp_seq ?_
   refine c_f F rfl ?_
   refine wp_exit ?_
   refine then_x ?_
   refine then_x ?_
   refine inb_x ?_
   refine then_n ?_
   refine wp_seq ?_
   refine s_reg ?_
   refine l_pk 1 (fun L => (60, pt b2 0) :: L) F fun a F => ?_
   have hp0 := pick_no (lb := lb0) (i := 0) (L := L0) ht9
   have hp1 := pick_un (lb := lb0) (i := 1) (life := li1) (L := L1)
   have hfo : foundT sd0 sd1 = ⟨1, 0, [], 0⟩ := by unfold foundT; rw [ht0, ht1, hp0, hp1]; rfl
   have hfk := (found_ok in0 in1).up (m := 900000) (by decide)
   rw [hfo] at hfk
   have hox : openT sd0 sd1 = compT (⟨⟨1, 0, [], 0⟩, sd0, sd1⟩ : Lg) := by unfold openT; rw [hfo]
   have S := S.pushBag
   have S : Sat w z ([rest w G, sdA g0 sd0, sdA g1 sd1, lgBox b2 g0 g1 1 0 r1 0] ++ [smapA r1 (([] : List LEnt).map LEnt.e) 0, bag []]) := S.pick [0, 1, 2, 4, 3, 9] (by decide)
   have S := has_shut has_nil S
   have S : Sat w z ([rest w G, sdA g0 sd0, sdA g1 sd1] ++ [lgBox b2 g0 g1 1 0 r1 0, hasA r1 []]) := S
   have S := lg_ofHas S
   have S : Sat w z [rest w G, sdA g0 sd0, sdA g1 sd1, lgA b2 g0 g1 ⟨1, 0, [], 0⟩] := S
   obtain ⟨G9, g9, hin9, hlt9, k9⟩ := S.frameB [3, 1, 2] (by decide) rfl
   refine l_do F rfl rfl (op_fn F (by kernel_rfl) (lcomp_any (x := (⟨⟨1, 0, [], 0⟩, sd0, sd1⟩ : Lg)) N in0 in1 hN hfk g9) ?_)
   rintro e z9 ⟨rfl, g⟩
   have S : Sat w z9 [rest w G, sdA g0 (compT (⟨⟨1, 0, [], 0⟩, sd0, sd1⟩ : Lg)).2.s0, sdA g1 (compT (⟨⟨1, 0, [], 0⟩, sd0, sd1⟩ : Lg)).2.s1, lgA b2 g0 g1 (compT (⟨⟨1, 0, [], 0⟩, sd0, sd1⟩ : Lg)).2.lb] := k9 z9 [lgA b2 g0 g1 (compT (⟨⟨1, 0, [], 0⟩, sd0, sd1⟩ : Lg)).2.lb, sdA g0 (compT (⟨⟨1, 0, [], 0⟩, sd0, sd1⟩ : Lg)).2.s0, sdA g1 (compT (⟨⟨1, 0, [], 0⟩, sd0, sd1⟩ : Lg)).2.s1] rfl g
   clear g g9 k9 hin9 hlt9
   refine ⟨_, rfl, ?_⟩
   intro a F
   refine l_pk 1 (fun L => (11, .int .i64 ((compT (⟨⟨1, 0, [], 0⟩, sd0, sd1⟩ : Lg)).1)) :: L) F fun a F => ?_
   refine l_then ?_
   refine s_reg ?_
   refine l_pk 1 (fun L => (62, .int .i64 ((compT (⟨⟨1, 0, [], 0⟩, sd0, sd1⟩ : Lg)).1)) :: L) F fun a F => ?_
   by_cases ht16 : ((compT (⟨⟨1, 0, [], 0⟩, sd0, sd1⟩ : Lg)).1 : Int) = (0 : Int)
   ·
    refine l_do F rfl rfl (op_pk F (v0 := .bool (((compT (⟨⟨1, 0, [], 0⟩, sd0, sd1⟩ : Lg)).1 : Int) != (0 : Int))) (v := .bool false) (neqF ht16) fun a F => ?_)
    refine l_then ?_
    refine c_f F rfl ?_
    refine wp_skip ?_
    refine then_n ?_
    refine s_reg ?_
    refine l_pk 3 (fun L => (5, .int .i64 0) :: (4, pt b2 0) :: (65, pt b2 0) :: L) F fun a F => ?_
    refine l_then ?_
    refine wp_ret ?_
    exact fin F [.tmp 4, .tmp 5] [pt b2 0, .int .i64 0] rfl ⟨by kernel_rfl, by kernel_rfl, trivial⟩ (.tuple #[pt b2 0, .int .i64 0]) rfl (by rw [hox]; exact .inl ⟨ht16, b2, rfl, (S.join (i := 1) (j := 3) rfl rfl (by decide)).pick [1, 2, 0] (by decide)⟩)
   refine l_do F rfl rfl (op_pk F (v0 := .bool (((compT (⟨⟨1, 0, [], 0⟩, sd0, sd1⟩ : Lg)).1 : Int) != (0 : Int))) (v := .bool true) (neqT ht16) fun a F => ?_)
   refine l_then ?_
   refine c_t F rfl ?_
   refine s_reg ?_
   refine l_pk 3 (fun L => (5, .int .i64 ((compT (⟨⟨1, 0, [], 0⟩, sd0, sd1⟩ : Lg)).1)) :: (4, .pointer none) :: (64, .int .i64 ((compT (⟨⟨1, 0, [], 0⟩, sd0, sd1⟩ : Lg)).1)) :: L) F fun a F => ?_
   refine l_then ?_
   refine wp_ret ?_
   refine then_r (?_)
   exact fin F [.tmp 4, .tmp 5] [.pointer none, .int .i64 ((compT (⟨⟨1, 0, [], 0⟩, sd0, sd1⟩ : Lg)).1)] rfl ⟨by kernel_rfl, by kernel_rfl, trivial⟩ (.tuple #[.pointer none, .int .i64 ((compT (⟨⟨1, 0, [], 0⟩, sd0, sd1⟩ : Lg)).1)]) rfl (by rw [hox]; exact .inr ⟨ht16, rfl, S.pick [1, 2, 0] (by decide)⟩)
  | true =>
   skip
   by_cases ht17 : (0 : Int) < ((li1 : Nat) : Int)
   ·
    refine region_gx (fun D => fun (_ : Unit) => [rest w G, sdA g0 sd0, sdA g1 sd1, smapA r1 [] 0, box b2 70 [pt g0 0, pt g1 0, .int .i64 1, .int .u32 0, .map (some r1), .int .i64 0], hasA rt0 L0, box b3 72 [.int .u32 (li0 : Nat), .bool true, .map (some rt0)], hasA rt1 L1, box b15 72 [.int .u32 (li1 : Nat), .bool true, .map (some rt1)]]) (fun (_ : Unit) => [pt b15 1, .bool true, .bool true, pt b15 0, .int .u32 (li1 : Nat), pt b2 0, pt b2 0, pt b2 3, .int .u32 0, .bool true, .bool true]) [(1, [], [4, 8, 9]), (4, [1], [9]), (8, [1], [9]), (9, [1, 4, 8], [])] () rfl (by kernel_rfl) (by kernel_rfl) F S.drew ?_ ?_ ?_ ?_ ?_
    · rintro ⟨⟩; rfl
    · rintro ⟨⟩; kernel_rfl
    ·
     intro D D' x h
     cases x
     rfl
    ·
     refine ⟨?_, ?_⟩
     ·
      refine ⟨_, rfl, rfl, by kernel_rfl, ?_⟩
      rintro D ⟨⟩ a z S F
      refine ⟨by kernel_rfl, ?_⟩
      exact op_ldk (some ⟨b15, 0, none⟩) 1 (.bool true) F rfl (cBox S 8 rfl (j := 1) rfl) (⟨(), rfl, (SameB.refl _ _ rfl), S⟩)
     refine ⟨?_, ?_⟩
     ·
      refine ⟨_, rfl, rfl, by kernel_rfl, ?_⟩
      rintro D ⟨⟩ a z S F
      refine ⟨by kernel_rfl, ?_⟩
      exact op_ldk (some ⟨b15, 0, none⟩) 0 (.int .u32 (li1 : Nat)) F rfl (cBox S 8 rfl (j := 0) rfl) (⟨(), rfl, (SameB.refl _ _ rfl), S⟩)
     refine ⟨?_, ?_⟩
     ·
      refine ⟨_, rfl, rfl, by kernel_rfl, ?_⟩
      rintro D ⟨⟩ a z S F
      refine ⟨by kernel_rfl, ?_⟩
      exact op_ldk (some ⟨b2, 0, none⟩) 3 (.int .u32 0) F rfl (cBox S 4 rfl (j := 3) rfl) (⟨(), rfl, (SameB.refl _ _ rfl), S⟩)
     refine ⟨?_, ?_⟩
     ·
      refine ⟨_, rfl, rfl, by kernel_rfl, ?_⟩
      rintro D ⟨⟩ a z S F
      refine ⟨by kernel_rfl, ?_⟩
      exact op_pk F (v0 := .bool (decide (((li1 : Nat) : Int) > (0 : Int)))) (v := .bool true) (gtrT ht17) ⟨(), rfl, (SameB.refl _ _ rfl), S⟩
     trivial
    rintro ⟨⟩ a z F S
    have F := F.subk (l := [(6, pt b2 0), (7, .int .i64 1), (9, pt b15 0), (21, .agg #[pt g0 0, pt g1 0]), (22, .int .i64 1), (44, .bool true)])
    have S : Sat w z [rest w G, sdA g0 sd0, sdA g1 sd1, smapA r1 [] 0, box b2 70 [pt g0 0, pt g1 0, .int .i64 1, .int .u32 0, .map (some r1), .int .i64 0], hasA rt0 L0, box b3 72 [.int .u32 (li0 : Nat), .bool true, .map (some rt0)], hasA rt1 L1, box b15 72 [.int .u32 (li1 : Nat), .bool true, .map (some rt1)]] := S
    refine then_n ?_
    refine c_t F rfl ?_
    refine region_gx (fun D => fun (_ : Unit) => [rest w G, sdA g0 sd0, sdA g1 sd1, smapA r1 [] 0, bif D 16 then box b2 70 [pt g0 0, pt g1 0, .int .i64 1, .int .u32 (li1 : Nat), .map (some rt1), .int .i64 0] else (bif D 13 then box b2 70 [pt g0 0, pt g1 0, .int .i64 1, .int .u32 (li1 : Nat), .map (some r1), .int .i64 0] else box b2 70 [pt g0 0, pt g1 0, .int .i64 1, .int .u32 0, .map (some r1), .int .i64 0]), hasA rt0 L0, box b3 72 [.int .u32 (li0 : Nat), .bool true, .map (some rt0)], hasA rt1 L1, box b15 72 [.int .u32 (li1 : Nat), .bool true, .map (some rt1)]]) (fun (_ : Unit) => [pt b2 0, pt b2 0, pt b2 0, .int .i64 1, pt b15 0, .int .u32 (li1 : Nat), pt b15 2, .map (some rt1), pt b2 0, pt b2 2, undef, pt b2 0, pt b2 3, undef, pt b2 0, pt b2 4, undef]) [(5, [], [13, 16]), (7, [], [16]), (10, [], [13, 16]), (13, [5, 10], [16]), (16, [5, 7, 10, 13], [])] () rfl (by kernel_rfl) (by kernel_rfl) F S.drew ?_ ?_ ?_ ?_ ?_
    · rintro ⟨⟩; rfl
    · rintro ⟨⟩; kernel_rfl
    ·
     intro D D' x h
     cases x
     simp only [h 13 (by decide), h 16 (by decide)]
    ·
     refine ⟨?_, ?_⟩
     ·
      refine ⟨_, rfl, rfl, by kernel_rfl, ?_⟩
      rintro D ⟨⟩ a z S F
      refine ⟨by kernel_rfl, ?_⟩
      exact op_ldk (some ⟨b15, 0, none⟩) 0 (.int .u32 (li1 : Nat)) F rfl (cBox S 8 rfl (j := 0) rfl) (⟨(), rfl, (SameB.refl _ _ rfl), S⟩)
     refine ⟨?_, ?_⟩
     ·
      refine ⟨_, rfl, rfl, by kernel_rfl, ?_⟩
      rintro D ⟨⟩ a z S F
      refine ⟨by kernel_rfl, ?_⟩
      exact op_ldk (some ⟨b15, 0, none⟩) 2 (.map (some rt1)) F rfl (cBox S 8 rfl (j := 2) rfl) (⟨(), rfl, (SameB.refl _ _ rfl), S⟩)
     refine ⟨?_, ?_⟩
     ·
      refine ⟨_, rfl, rfl, by kernel_rfl, ?_⟩
      rintro D ⟨⟩ a z S F
      refine ⟨by kernel_rfl, ?_⟩
      exact op_storeB S 4 _ _ _ b2 2 (.int .i64 1) F rfl rfl (by kernel_rfl) (by kernel_rfl) (by kernel_rfl) (by kernel_rfl) (by kernel_rfl) fun z S => ⟨(), rfl, (SameB.refl _ _ rfl), S⟩
     refine ⟨?_, ?_⟩
     ·
      refine ⟨_, rfl, rfl, by kernel_rfl, ?_⟩
      rintro D ⟨⟩ a z S F
      refine ⟨by kernel_rfl, ?_⟩
      exact op_storeB S 4 _ _ _ b2 3 (.int .u32 (li1 : Nat)) F rfl rfl (by kernel_rfl) (by kernel_rfl) (by kernel_rfl) (by kernel_rfl) (by kernel_rfl) fun z S => ⟨(), rfl, (SameB.refl _ _ rfl), S⟩
     refine ⟨?_, ?_⟩
     ·
      refine ⟨_, rfl, rfl, by kernel_rfl, ?_⟩
      rintro D ⟨⟩ a z S F
      refine ⟨by kernel_rfl, ?_⟩
      exact op_storeB S 4 _ _ _ b2 4 (.map (some rt1)) F rfl rfl (by kernel_rfl) (by kernel_rfl) (by kernel_rfl) (by kernel_rfl) (by kernel_rfl) fun z S => ⟨(), rfl, (SameB.refl _ _ rfl), S⟩
     trivial
    rintro ⟨⟩ a z F S
    have F := F.subk (l := [(6, pt b2 0), (21, .agg #[pt g0 0, pt g1 0]), (22, .int .i64 1)])
    have S : Sat w z [rest w G, sdA g0 sd0, sdA g1 sd1, smapA r1 [] 0, box b2 70 [pt g0 0, pt g1 0, .int .i64 1, .int .u32 (li1 : Nat), .map (some rt1), .int .i64 0], hasA rt0 L0, box b3 72 [.int .u32 (li0 : Nat), .bool true, .map (some rt0)], hasA rt1 L1, box b15 72 [.int .u32 (li1 : Nat), .bool true, .map (some rt1)]] := S
    refine inb_n ?_
    refine then_n ?_
    refine wp_region_list ?_
    refine l_pk 2 (fun L => (22, .int .i64 2) :: (59, .int .i64 2) :: L) F fun a F => ?_
    refine l_then ?_
    refine rnd ?_
    refine s_reg ?_
    refine l_pk 1 (fun L => (23, .bool false) :: L) F fun a F => ?_
    refine l_then ?_
    refine wp_seq ?_
    refine c_f F rfl ?_
    refine wp_exit ?_
    refine then_x ?_
    refine then_x ?_
    refine inb_x ?_
    refine then_n ?_
    refine wp_seq ?_
    refine s_reg ?_
    refine l_pk 1 (fun L => (60, pt b2 0) :: L) F fun a F => ?_
    have hp0 := pick_no (lb := lb0) (i := 0) (L := L0) ht9
    have hp1 := pick_yes (lb := lb0) (i := 1) (L := L1) ht17
    have hfo : foundT sd0 sd1 = ⟨1, li1, L1, 0⟩ := by unfold foundT; rw [ht0, ht1, hp0, hp1]
    have hfk := (found_ok in0 in1).up (m := 900000) (by decide)
    rw [hfo] at hfk
    have hox : openT sd0 sd1 = compT (⟨⟨1, li1, L1, 0⟩, sd0, sd1⟩ : Lg) := by unfold openT; rw [hfo]
    have S : Sat w z ([rest w G, sdA g0 sd0, sdA g1 sd1] ++ [lgBox b2 g0 g1 1 li1 rt1 0, hasA rt1 L1]) := S.pick [0, 1, 2, 4, 7] (by decide)
    have S := lg_ofHas S
    have S : Sat w z [rest w G, sdA g0 sd0, sdA g1 sd1, lgA b2 g0 g1 ⟨1, li1, L1, 0⟩] := S
    obtain ⟨G9, g9, hin9, hlt9, k9⟩ := S.frameB [3, 1, 2] (by decide) rfl
    refine l_do F rfl rfl (op_fn F (by kernel_rfl) (lcomp_any (x := (⟨⟨1, li1, L1, 0⟩, sd0, sd1⟩ : Lg)) N in0 in1 hN hfk g9) ?_)
    rintro e z9 ⟨rfl, g⟩
    have S : Sat w z9 [rest w G, sdA g0 (compT (⟨⟨1, li1, L1, 0⟩, sd0, sd1⟩ : Lg)).2.s0, sdA g1 (compT (⟨⟨1, li1, L1, 0⟩, sd0, sd1⟩ : Lg)).2.s1, lgA b2 g0 g1 (compT (⟨⟨1, li1, L1, 0⟩, sd0, sd1⟩ : Lg)).2.lb] := k9 z9 [lgA b2 g0 g1 (compT (⟨⟨1, li1, L1, 0⟩, sd0, sd1⟩ : Lg)).2.lb, sdA g0 (compT (⟨⟨1, li1, L1, 0⟩, sd0, sd1⟩ : Lg)).2.s0, sdA g1 (compT (⟨⟨1, li1, L1, 0⟩, sd0, sd1⟩ : Lg)).2.s1] rfl g
    clear g g9 k9 hin9 hlt9
    refine ⟨_, rfl, ?_⟩
    intro a F
    refine l_pk 1 (fun L => (11, .int .i64 ((compT (⟨⟨1, li1, L1, 0⟩, sd0, sd1⟩ : Lg)).1)) :: L) F fun a F => ?_
    refine l_then ?_
    refine s_reg ?_
    refine l_pk 1 (fun L => (62, .int .i64 ((compT (⟨⟨1, li1, L1, 0⟩, sd0, sd1⟩ : Lg)).1)) :: L) F fun a F => ?_
    by_cases ht18 : ((compT (⟨⟨1, li1, L1, 0⟩, sd0, sd1⟩ : Lg)).1 : Int) = (0 : Int)
    ·
     refine l_do F rfl rfl (op_pk F (v0 := .bool (((compT (⟨⟨1, li1, L1, 0⟩, sd0, sd1⟩ : Lg)).1 : Int) != (0 : Int))) (v := .bool false) (neqF ht18) fun a F => ?_)
     refine l_then ?_
     refine c_f F rfl ?_
     refine wp_skip ?_
     refine then_n ?_
     refine s_reg ?_
     refine l_pk 3 (fun L => (5, .int .i64 0) :: (4, pt b2 0) :: (65, pt b2 0) :: L) F fun a F => ?_
     refine l_then ?_
     refine wp_ret ?_
     exact fin F [.tmp 4, .tmp 5] [pt b2 0, .int .i64 0] rfl ⟨by kernel_rfl, by kernel_rfl, trivial⟩ (.tuple #[pt b2 0, .int .i64 0]) rfl (by rw [hox]; exact .inl ⟨ht18, b2, rfl, (S.join (i := 1) (j := 3) rfl rfl (by decide)).pick [1, 2, 0] (by decide)⟩)
    refine l_do F rfl rfl (op_pk F (v0 := .bool (((compT (⟨⟨1, li1, L1, 0⟩, sd0, sd1⟩ : Lg)).1 : Int) != (0 : Int))) (v := .bool true) (neqT ht18) fun a F => ?_)
    refine l_then ?_
    refine c_t F rfl ?_
    refine s_reg ?_
    refine l_pk 3 (fun L => (5, .int .i64 ((compT (⟨⟨1, li1, L1, 0⟩, sd0, sd1⟩ : Lg)).1)) :: (4, .pointer none) :: (64, .int .i64 ((compT (⟨⟨1, li1, L1, 0⟩, sd0, sd1⟩ : Lg)).1)) :: L) F fun a F => ?_
    refine l_then ?_
    refine wp_ret ?_
    refine then_r (?_)
    exact fin F [.tmp 4, .tmp 5] [.pointer none, .int .i64 ((compT (⟨⟨1, li1, L1, 0⟩, sd0, sd1⟩ : Lg)).1)] rfl ⟨by kernel_rfl, by kernel_rfl, trivial⟩ (.tuple #[.pointer none, .int .i64 ((compT (⟨⟨1, li1, L1, 0⟩, sd0, sd1⟩ : Lg)).1)]) rfl (by rw [hox]; exact .inr ⟨ht18, rfl, S.pick [1, 2, 0] (by decide)⟩)
   refine region_gx (fun D => fun (_ : Unit) => [rest w G, sdA g0 sd0, sdA g1 sd1, smapA r1 [] 0, box b2 70 [pt g0 0, pt g1 0, .int .i64 1, .int .u32 0, .map (some r1), .int .i64 0], hasA rt0 L0, box b3 72 [.int .u32 (li0 : Nat), .bool true, .map (some rt0)], hasA rt1 L1, box b15 72 [.int .u32 (li1 : Nat), .bool true, .map (some rt1)]]) (fun (_ : Unit) => [pt b15 1, .bool true, .bool true, pt b15 0, .int .u32 (li1 : Nat), pt b2 0, pt b2 0, pt b2 3, .int .u32 0, .bool false, .bool false]) [(1, [], [4, 8, 9]), (4, [1], [9]), (8, [1], [9]), (9, [1, 4, 8], [])] () rfl (by kernel_rfl) (by kernel_rfl) F S.drew ?_ ?_ ?_ ?_ ?_
   · rintro ⟨⟩; rfl
   · rintro ⟨⟩; kernel_rfl
   ·
    intro D D' x h
    cases x
    rfl
   ·
    refine ⟨?_, ?_⟩
    ·
     refine ⟨_, rfl, rfl, by kernel_rfl, ?_⟩
     rintro D ⟨⟩ a z S F
     refine ⟨by kernel_rfl, ?_⟩
     exact op_ldk (some ⟨b15, 0, none⟩) 1 (.bool true) F rfl (cBox S 8 rfl (j := 1) rfl) (⟨(), rfl, (SameB.refl _ _ rfl), S⟩)
    refine ⟨?_, ?_⟩
    ·
     refine ⟨_, rfl, rfl, by kernel_rfl, ?_⟩
     rintro D ⟨⟩ a z S F
     refine ⟨by kernel_rfl, ?_⟩
     exact op_ldk (some ⟨b15, 0, none⟩) 0 (.int .u32 (li1 : Nat)) F rfl (cBox S 8 rfl (j := 0) rfl) (⟨(), rfl, (SameB.refl _ _ rfl), S⟩)
    refine ⟨?_, ?_⟩
    ·
     refine ⟨_, rfl, rfl, by kernel_rfl, ?_⟩
     rintro D ⟨⟩ a z S F
     refine ⟨by kernel_rfl, ?_⟩
     exact op_ldk (some ⟨b2, 0, none⟩) 3 (.int .u32 0) F rfl (cBox S 4 rfl (j := 3) rfl) (⟨(), rfl, (SameB.refl _ _ rfl), S⟩)
    refine ⟨?_, ?_⟩
    ·
     refine ⟨_, rfl, rfl, by kernel_rfl, ?_⟩
     rintro D ⟨⟩ a z S F
     refine ⟨by kernel_rfl, ?_⟩
     exact op_pk F (v0 := .bool (decide (((li1 : Nat) : Int) > (0 : Int)))) (v := .bool false) (gtrF ht17) ⟨(), rfl, (SameB.refl _ _ rfl), S⟩
    trivial
   rintro ⟨⟩ a z F S
   have F := F.subk (l := [(6, pt b2 0), (7, .int .i64 1), (9, pt b15 0), (21, .agg #[pt g0 0, pt g1 0]), (22, .int .i64 1), (44, .bool false)])
   have S : Sat w z [rest w G, sdA g0 sd0, sdA g1 sd1, smapA r1 [] 0, box b2 70 [pt g0 0, pt g1 0, .int .i64 1, .int .u32 0, .map (some r1), .int .i64 0], hasA rt0 L0, box b3 72 [.int .u32 (li0 : Nat), .bool true, .map (some rt0)], hasA rt1 L1, box b15 72 [.int .u32 (li1 : Nat), .bool true, .map (some rt1)]] := S
   refine then_n ?_
   refine c_f F rfl ?_
   refine wp_skip ?_
   refine inb_n ?_
   refine then_n ?_
   refine wp_region_list ?_
   refine l_pk 2 (fun L => (22, .int .i64 2) :: (59, .int .i64 2) :: L) F fun a F => ?_
   refine l_then ?_
   refine rnd ?_
   refine s_reg ?_
   refine l_pk 1 (fun L => (23, .bool false) :: L) F fun a F => ?_
   refine l_then ?_
   refine wp_seq ?_
   refine c_f F rfl ?_
   refine wp_exit ?_
   refine then_x ?_
   refine then_x ?_
   refine inb_x ?_
   refine then_n ?_
   refine wp_seq ?_
   refine s_reg ?_
   refine l_pk 1 (fun L => (60, pt b2 0) :: L) F fun a F => ?_
   have hp0 := pick_no (lb := lb0) (i := 0) (L := L0) ht9
   have hp1 := pick_no (lb := lb0) (i := 1) (L := L1) ht17
   have hfo : foundT sd0 sd1 = ⟨1, 0, [], 0⟩ := by unfold foundT; rw [ht0, ht1, hp0, hp1]; rfl
   have hfk := (found_ok in0 in1).up (m := 900000) (by decide)
   rw [hfo] at hfk
   have hox : openT sd0 sd1 = compT (⟨⟨1, 0, [], 0⟩, sd0, sd1⟩ : Lg) := by unfold openT; rw [hfo]
   have S := S.pushBag
   have S : Sat w z ([rest w G, sdA g0 sd0, sdA g1 sd1, lgBox b2 g0 g1 1 0 r1 0] ++ [smapA r1 (([] : List LEnt).map LEnt.e) 0, bag []]) := S.pick [0, 1, 2, 4, 3, 9] (by decide)
   have S := has_shut has_nil S
   have S : Sat w z ([rest w G, sdA g0 sd0, sdA g1 sd1] ++ [lgBox b2 g0 g1 1 0 r1 0, hasA r1 []]) := S
   have S := lg_ofHas S
   have S : Sat w z [rest w G, sdA g0 sd0, sdA g1 sd1, lgA b2 g0 g1 ⟨1, 0, [], 0⟩] := S
   obtain ⟨G9, g9, hin9, hlt9, k9⟩ := S.frameB [3, 1, 2] (by decide) rfl
   refine l_do F rfl rfl (op_fn F (by kernel_rfl) (lcomp_any (x := (⟨⟨1, 0, [], 0⟩, sd0, sd1⟩ : Lg)) N in0 in1 hN hfk g9) ?_)
   rintro e z9 ⟨rfl, g⟩
   have S : Sat w z9 [rest w G, sdA g0 (compT (⟨⟨1, 0, [], 0⟩, sd0, sd1⟩ : Lg)).2.s0, sdA g1 (compT (⟨⟨1, 0, [], 0⟩, sd0, sd1⟩ : Lg)).2.s1, lgA b2 g0 g1 (compT (⟨⟨1, 0, [], 0⟩, sd0, sd1⟩ : Lg)).2.lb] := k9 z9 [lgA b2 g0 g1 (compT (⟨⟨1, 0, [], 0⟩, sd0, sd1⟩ : Lg)).2.lb, sdA g0 (compT (⟨⟨1, 0, [], 0⟩, sd0, sd1⟩ : Lg)).2.s0, sdA g1 (compT (⟨⟨1, 0, [], 0⟩, sd0, sd1⟩ : Lg)).2.s1] rfl g
   clear g g9 k9 hin9 hlt9
   refine ⟨_, rfl, ?_⟩
   intro a F
   refine l_pk 1 (fun L => (11, .int .i64 ((compT (⟨⟨1, 0, [], 0⟩, sd0, sd1⟩ : Lg)).1)) :: L) F fun a F => ?_
   refine l_then ?_
   refine s_reg ?_
   refine l_pk 1 (fun L => (62, .int .i64 ((compT (⟨⟨1, 0, [], 0⟩, sd0, sd1⟩ : Lg)).1)) :: L) F fun a F => ?_
   by_cases ht19 : ((compT (⟨⟨1, 0, [], 0⟩, sd0, sd1⟩ : Lg)).1 : Int) = (0 : Int)
   ·
    refine l_do F rfl rfl (op_pk F (v0 := .bool (((compT (⟨⟨1, 0, [], 0⟩, sd0, sd1⟩ : Lg)).1 : Int) != (0 : Int))) (v := .bool false) (neqF ht19) fun a F => ?_)
    refine l_then ?_
    refine c_f F rfl ?_
    refine wp_skip ?_
    refine then_n ?_
    refine s_reg ?_
    refine l_pk 3 (fun L => (5, .int .i64 0) :: (4, pt b2 0) :: (65, pt b2 0) :: L) F fun a F => ?_
    refine l_then ?_
    refine wp_ret ?_
    exact fin F [.tmp 4, .tmp 5] [pt b2 0, .int .i64 0] rfl ⟨by kernel_rfl, by kernel_rfl, trivial⟩ (.tuple #[pt b2 0, .int .i64 0]) rfl (by rw [hox]; exact .inl ⟨ht19, b2, rfl, (S.join (i := 1) (j := 3) rfl rfl (by decide)).pick [1, 2, 0] (by decide)⟩)
   refine l_do F rfl rfl (op_pk F (v0 := .bool (((compT (⟨⟨1, 0, [], 0⟩, sd0, sd1⟩ : Lg)).1 : Int) != (0 : Int))) (v := .bool true) (neqT ht19) fun a F => ?_)
   refine l_then ?_
   refine c_t F rfl ?_
   refine s_reg ?_
   refine l_pk 3 (fun L => (5, .int .i64 ((compT (⟨⟨1, 0, [], 0⟩, sd0, sd1⟩ : Lg)).1)) :: (4, .pointer none) :: (64, .int .i64 ((compT (⟨⟨1, 0, [], 0⟩, sd0, sd1⟩ : Lg)).1)) :: L) F fun a F => ?_
   refine l_then ?_
   refine wp_ret ?_
   refine then_r (?_)
   exact fin F [.tmp 4, .tmp 5] [.pointer none, .int .i64 ((compT (⟨⟨1, 0, [], 0⟩, sd0, sd1⟩ : Lg)).1)] rfl ⟨by kernel_rfl, by kernel_rfl, trivial⟩ (.tuple #[.pointer none, .int .i64 ((compT (⟨⟨1, 0, [], 0⟩, sd0, sd1⟩ : Lg)).1)]) rfl (by rw [hox]; exact .inr ⟨ht19, rfl, S.pick [1, 2, 0] (by decide)⟩)
end Go.Proofs.Ytidcdfilfccigaa
