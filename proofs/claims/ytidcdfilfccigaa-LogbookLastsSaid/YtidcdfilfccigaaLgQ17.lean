/- What the program's logbook keeps; Open on nil. -/
import Derived.Test.YtidcdfilfccigaaLgF17
import Derived.Test.YtidcdfilfccigaaTellP
namespace Go.Proofs.Ytidcdfilfccigaa
set_option linter.unusedVariables false
set_option linter.unusedSimpArgs false
set_option linter.unnecessarySimpa false
open Go Go.RowKit

section
variable {x : Lg} {n : Int} {s : Sd} {lb : Lb} {k : Nat}
theorem cur_in (h0 : x.s0.In n) (h1 : x.s1.In n) : x.cur.In n := by unfold Lg.cur; split; exact h0; exact h1
theorem oth_in (h0 : x.s0.In n) (h1 : x.s1.In n) : x.oth.In n := by unfold Lg.oth; split; exact h1; exact h0
theorem onCur_in (h0 : x.s0.In n) (h1 : x.s1.In n) (h : s.In n) : (x.onCur s lb).s0.In n ∧ (x.onCur s lb).s1.In n := by unfold Lg.onCur; split; exact ⟨h, h1⟩; exact ⟨h0, h⟩
theorem onOth_in (h0 : x.s0.In n) (h1 : x.s1.In n) (h : s.In n) : (x.onOth s lb).s0.In n ∧ (x.onOth s lb).s1.In n := by unfold Lg.onOth; split; exact ⟨h0, h⟩; exact ⟨h, h1⟩
theorem onCur_lb : (x.onCur s lb).lb = lb := by unfold Lg.onCur; split <;> rfl
theorem onOth_lb : (x.onOth s lb).lb = lb := by unfold Lg.onOth; split <;> rfl
theorem put_in (h0 : x.s0.In n) (h1 : x.s1.In n) (nm v : Bs) : (putT x nm v).2.s0.In (n + 1) ∧ (putT x nm v).2.s1.In (n + 1) := by
  have u0 := h0.mono (m := n + 1) (by omega)
  have u1 := h1.mono (m := n + 1) (by omega)
  unfold putT
  split
  · exact ⟨u0, u1⟩
  · split
    · exact ⟨u0, u1⟩
    · exact onCur_in u0 u1 ((cur_in h0 h1).app _)
theorem drop_in (h0 : x.s0.In n) (h1 : x.s1.In n) (nm : Bs) : (dropT x nm).2.s0.In (n + 1) ∧ (dropT x nm).2.s1.In (n + 1) := by
  have u0 := h0.mono (m := n + 1) (by omega)
  have u1 := h1.mono (m := n + 1) (by omega)
  unfold dropT
  split
  · exact ⟨u0, u1⟩
  · split
    · exact ⟨u0, u1⟩
    · exact onCur_in u0 u1 ((cur_in h0 h1).app _)
theorem sync_in (h0 : x.s0.In n) (h1 : x.s1.In n) : (syncT x).2.s0.In (n + 1) ∧ (syncT x).2.s1.In (n + 1) := by
  have u0 := h0.mono (m := n + 1) (by omega)
  have u1 := h1.mono (m := n + 1) (by omega)
  unfold syncT
  split
  · exact ⟨u0, u1⟩
  · exact onCur_in u0 u1 ((cur_in h0 h1).syn)
theorem comp_in (h0 : x.s0.In n) (h1 : x.s1.In n) : (compT x).2.s0.In (n + 3) ∧ (compT x).2.s1.In (n + 3) := by
  have u0 := h0.mono (m := n + 3) (by omega)
  have u1 := h1.mono (m := n + 3) (by omega)
  have o0 := oth_in h0 h1
  unfold compT
  split
  · exact ⟨u0, u1⟩
  · split
    · exact ⟨u0, u1⟩
    · split
      · exact onOth_in u0 u1 (o0.ers.mono (by omega))
      · split
        · exact onOth_in u0 u1 ((o0.ers.app _).mono (by omega))
        · split
          · exact onOth_in u0 u1 ((o0.ers.app _).syn.mono (by omega))
          · exact onOth_in u0 u1 ((o0.ers.app _).syn.mono (by omega))
theorem open_in {s0 s1 : Sd} (h0 : s0.In n) (h1 : s1.In n) : (openT s0 s1).2.s0.In (n + 3) ∧ (openT s0 s1).2.s1.In (n + 3) := comp_in h0 h1
theorem put_lb (h : LbOk x.lb k) (nm v : Bs) : LbOk (putT x nm v).2.lb (k + 1) := by
  have h1 := h.up (m := k + 1) (by omega)
  unfold putT
  split
  · exact h1
  · split
    · exact h1
    · rename_i h2 h3
      rw [onCur_lb]
      split
      · refine ⟨h.on, h.life, put_rises h.ri _, fun y hy => ?_, fun y hy => ?_, ?_⟩
        · rcases put_mem hy with rfl | hy
          · exact (show nm.length ≤ 255 from by omega)
          · exact h.nm y hy
        · rcases put_mem hy with rfl | hy
          · exact (show v.length ≤ 262144 from by omega)
          · exact h.vl y hy
        · have := put_len x.lb.L (nm, v); have := h.ct; show (putN x.lb.L (nm, v)).length ≤ k + 1; omega
      · exact ⟨h1.on, h1.life, h1.ri, h1.nm, h1.vl, h1.ct⟩
theorem drop_lb (h : LbOk x.lb k) (nm : Bs) : LbOk (dropT x nm).2.lb k := by
  unfold dropT
  split
  · exact h
  · split
    · exact h
    · rw [onCur_lb]
      split
      · exact ⟨h.on, h.life, del_rises h.ri _, fun y hy => h.nm y (del_mem hy), fun y hy => h.vl y (del_mem hy), by have := del_len x.lb.L nm; have := h.ct; show (delN x.lb.L nm).length ≤ k; omega⟩
      · exact ⟨h.on, h.life, h.ri, h.nm, h.vl, h.ct⟩
theorem sync_lb (h : LbOk x.lb k) : LbOk (syncT x).2.lb k := by
  unfold syncT
  split
  · exact h
  · rw [onCur_lb]; exact ⟨h.on, h.life, h.ri, h.nm, h.vl, h.ct⟩
theorem comp_lb (h : LbOk x.lb k) : LbOk (compT x).2.lb k := by
  unfold compT
  split
  · exact h
  · split
    · exact h
    · rename_i h2 h3
      split
      · rw [onOth_lb]; exact ⟨h.on, h.life, h.ri, h.nm, h.vl, h.ct⟩
      · split
        · rw [onOth_lb]; exact ⟨h.on, h.life, h.ri, h.nm, h.vl, h.ct⟩
        · split
          · rw [onOth_lb]; exact ⟨h.on, h.life, h.ri, h.nm, h.vl, h.ct⟩
          · rw [onOth_lb]; exact ⟨by show 1 - x.lb.on ≤ 1; omega, by have := h.life; show x.lb.life + 1 < _; omega, h.ri, h.nm, h.vl, h.ct⟩
theorem open_lb {s0 s1 : Sd} {m : Int} (h0 : s0.In n) (h1 : s1.In m) : LbOk (openT s0 s1).2.lb 262144 := comp_lb (found_ok h0 h1)
end
section
variable {w : World} {G : Nat → Prop} {g0 g1 : Nat} {sd0 sd1 : Sd}
theorem lopen_ok (N : Int) (in0 : sd0.In N) (in1 : sd1.In N) (hN : N ≤ 1000000) (hd0 : sd0.down = false) (hd1 : sd1.down = false) (h : (openT sd0 sd1).1 = 0) (hS : Sat w w [sdA g0 sd0, sdA g1 sd1, rest w G]) :
    Calls Try.prog 8 #[.pointer (some ⟨g0, 0, none⟩), .pointer (some ⟨g1, 0, none⟩)] w fun e w' => ∃ b, e = .returned (.tuple #[.pointer (some ⟨b, 0, none⟩), .int .i64 0]) ∧ Sat w w' [star2 (sdA g0 (openT sd0 sd1).2.s0) (lgA b g0 g1 (openT sd0 sd1).2.lb), sdA g1 (openT sd0 sd1).2.s1, rest w G] := by
  refine (lopen_up w G g0 g1 sd0 sd1 N in0 in1 hN hd0 hd1 hS).mono ?_
  rintro e w' (⟨_, b, he, h2⟩ | ⟨h1, _⟩)
  · exact ⟨b, he, h2⟩
  · exact absurd h h1
theorem lopen_er (N : Int) (in0 : sd0.In N) (in1 : sd1.In N) (hN : N ≤ 1000000) (hd0 : sd0.down = false) (hd1 : sd1.down = false) (h : ¬ (openT sd0 sd1).1 = 0) (hS : Sat w w [sdA g0 sd0, sdA g1 sd1, rest w G]) :
    Calls Try.prog 8 #[.pointer (some ⟨g0, 0, none⟩), .pointer (some ⟨g1, 0, none⟩)] w fun e w' => e = .returned (.tuple #[.pointer none, .int .i64 (openT sd0 sd1).1]) ∧ Sat w w' [sdA g0 (openT sd0 sd1).2.s0, sdA g1 (openT sd0 sd1).2.s1, rest w G] := by
  refine (lopen_up w G g0 g1 sd0 sd1 N in0 in1 hN hd0 hd1 hS).mono ?_
  rintro e w' (⟨h1, _⟩ | ⟨_, he, h2⟩)
  · exact absurd h1 h
  · exact ⟨he, h2⟩
end
theorem sup_nil (w : World) : Calls Try.prog 44 #[.pointer none] w fun e w' => e = .returned (.int .i64 2) ∧ w = w' := (up_nil w).mono fun e w' h => ⟨h.1, h.2.symm⟩
set_option maxRecDepth 100000 in
set_option maxHeartbeats 4000000 in
theorem sread_nil (w : World) : Calls Try.prog 57 #[.pointer none] w fun e w' => e = .returned (.tuple #[.slice none 0 0, .int .i64 2]) ∧ Below w.heap.size w w' := by
 refine enter 20 Try.func57 rfl rfl rfl fun a F => ?_
 have S := Sat.pushRest w
 refine s_reg ?_
 refine l_pure 2 (fun L => (3, .int .i64 0) :: (2, .slice none 0 0) :: L) F (by kernel_rfl) fun a F => ?_
 refine l_then ?_
 refine wp_seq ?_
 refine s_reg ?_
 refine l_pure 1 (fun L => (5, .pointer none) :: L) F (by kernel_rfl) fun a F => ?_
 refine l_do F rfl rfl (op_fn F (by kernel_rfl) (sup_nil _) ?_)
 rintro e z ⟨rfl, hw⟩
 first | subst hw | (have hw := hw.symm; subst hw)
 refine ⟨_, rfl, ?_⟩
 intro a F
 refine l_pure 1 (fun L => (4, .int .i64 2) :: L) F (by kernel_rfl) fun a F => ?_
 refine l_then ?_
 refine s_reg ?_
 refine l_pure 2 (fun L => (8, .bool true) :: (7, .int .i64 2) :: L) F (by kernel_rfl) fun a F => ?_
 refine l_then ?_
 refine c_t F rfl ?_
 refine s_reg ?_
 refine l_pure 3 (fun L => (3, .int .i64 2) :: (2, .slice none 0 0) :: (9, .int .i64 2) :: L) F (by kernel_rfl) fun a F => ?_
 refine l_then ?_
 refine wp_ret ?_
 refine then_r (?_)
 exact fin F [.tmp 2, .tmp 3] [.slice none 0 0, .int .i64 2] rfl ⟨by kernel_rfl, by kernel_rfl, trivial⟩ (.tuple #[.slice none 0 0, .int .i64 2]) rfl ⟨rfl, S.below (i := 0) rfl⟩
set_option maxRecDepth 100000 in
set_option maxHeartbeats 4000000 in
theorem lread_nil (w : World) : Calls Try.prog 31 #[.pointer none] w fun e w' => e = .returned (.tuple #[.agg #[.int .u32 0, .bool false, .map none], .int .i64 2]) ∧ Below w.heap.size w w' := by
 refine enter 69 Try.func31 rfl rfl rfl fun a F => ?_
 have S := Sat.pushRest w
 refine s_reg ?_
 refine l_do F rfl rfl (op_alloc S _ (.agg #[.int .u32 0, .bool false, .map none]) rfl (by kernel_rfl) fun b1 z S a F => ?_)
 refine l_pure 1 (fun L => (3, .int .i64 0) :: L) F (by kernel_rfl) fun a F => ?_
 refine l_then ?_
 refine s_reg ?_
 refine l_pure 1 (fun L => (14, .pointer none) :: L) F (by kernel_rfl) fun a F => ?_
 refine l_do F rfl rfl (op_fn F (by kernel_rfl) (sread_nil _) ?_)
 rintro e z ⟨rfl, hb⟩
 have S := S.grow hb
 refine ⟨_, rfl, ?_⟩
 intro a F
 refine l_pure 5 (fun L => (5, .int .i64 2) :: (4, .slice none 0 0) :: (17, .int .i64 2) :: (16, .slice none 0 0) :: (13, .tuple #[.slice none 0 0, .int .i64 2]) :: L) F (by kernel_rfl) fun a F => ?_
 refine l_then ?_
 refine wp_seq ?_
 refine s_reg ?_
 refine l_pure 2 (fun L => (19, .bool true) :: (18, .int .i64 2) :: L) F (by kernel_rfl) fun a F => ?_
 refine l_then ?_
 refine c_t F rfl ?_
 refine s_reg ?_
 refine l_pure 2 (fun L => (21, .int .i64 2) :: (20, .agg #[.int .u32 0, .bool false, .map none]) :: L) F (by kernel_rfl) fun a F => ?_
 refine l_do F rfl rfl (op_storeB S 1 _ _ _ b1 0 (.agg #[.int .u32 0, .bool false, .map none]) F rfl rfl (by kernel_rfl) (by kernel_rfl) (by kernel_rfl) (by kernel_rfl) (by kernel_rfl) fun z S a F => ?_)
 refine l_pure 1 (fun L => (3, .int .i64 2) :: L) F (by kernel_rfl) fun a F => ?_
 refine l_then ?_
 refine wp_ret ?_
 refine then_r (?_)
 exact fin F [.cell 2 72, .tmp 3] [.agg #[.int .u32 0, .bool false, .map none], .int .i64 2] rfl ⟨⟨_, by kernel_rfl, resK S 1 (cs := [.int .u32 0, .bool false, .map none]) rfl (by kernel_rfl) (by kernel_rfl) (by simp)⟩, by kernel_rfl, trivial⟩ (.tuple #[.agg #[.int .u32 0, .bool false, .map none], .int .i64 2]) rfl ⟨rfl, S.below (i := 0) rfl⟩
set_option maxRecDepth 100000 in
set_option maxHeartbeats 4000000 in
theorem lopen_nil0 (w : World) (g1 : Nat) : Calls Try.prog 8 #[.pointer none, .pointer (some ⟨g1, 0, none⟩)] w fun e w' => e = .returned (.tuple #[.pointer none, .int .i64 2]) ∧ Below w.heap.size w w' := by
 refine enter 66 Try.func8 rfl rfl rfl fun a F => ?_
 have S := Sat.pushRest w
 refine s_reg ?_
 refine l_pure 2 (fun L => (5, .int .i64 0) :: (4, .pointer none) :: L) F (by kernel_rfl) fun a F => ?_
 refine l_then ?_
 refine s_reg ?_
 refine l_pure 3 (fun L => (14, .agg #[.pointer none, .pointer (some ⟨g1, 0, none⟩)]) :: (13, .pointer (some ⟨g1, 0, none⟩)) :: (12, .pointer none) :: L) F (by kernel_rfl) fun a F => ?_
 refine l_do F rfl rfl (op_smakeMap S _ rfl fun r1 z S a F => ?_)
 refine l_pure 1 (fun L => (16, .agg #[.pointer none, .pointer (some ⟨g1, 0, none⟩), .int .i64 1, .int .u32 0, .map (some r1), .int .i64 0]) :: L) F (by kernel_rfl) fun a F => ?_
 refine l_do F rfl rfl (op_box S _ _ (.agg #[.pointer none, .pointer (some ⟨g1, 0, none⟩), .int .i64 1, .int .u32 0, .map (some r1), .int .i64 0]) F rfl (by kernel_rfl) fun b2 z S a F => ?_)
 refine l_pure 1 (fun L => (6, .pointer (some ⟨b2, 0, none⟩)) :: L) F (by kernel_rfl) fun a F => ?_
 refine l_then ?_
 refine wp_seq ?_
 refine s_reg ?_
 refine l_pure 3 (fun L => (20, .pointer (some ⟨b2, 0, none⟩)) :: (19, .pointer (some ⟨b2, 0, none⟩)) :: (18, .pointer (some ⟨b2, 0, none⟩)) :: L) F (by kernel_rfl) fun a F => ?_
 refine l_do F rfl rfl (op_loadK _ _ (some ⟨b2, 0, none⟩) 0 [.pointer none, .pointer (some ⟨g1, 0, none⟩)] F rfl (by kernel_rfl) (by kernel_rfl) (by kernel_rfl) (by simp) (cBoxK S 2 rfl 0 (by kernel_rfl)) (fun a F => ?_))
 refine l_pure 1 (fun L => (22, .int .i64 0) :: L) F (by kernel_rfl) fun a F => ?_
 refine l_then ?_
 refine wp_block ?_
 refine wp_loop_rounds 3 (rnd ?_)
 refine s_reg ?_
 refine l_pure 1 (fun L => (23, .bool true) :: L) F (by kernel_rfl) fun a F => ?_
 refine l_then ?_
 refine wp_seq ?_
 refine c_t F rfl ?_
 refine wp_skip ?_
 refine then_n ?_
 refine wp_seq ?_
 refine wp_block ?_
 refine s_reg ?_
 refine l_pure 4 (fun L => (8, .pointer none) :: (7, .int .i64 0) :: (25, .pointer none) :: (24, .int .i64 0) :: L) F (by kernel_rfl) fun a F => ?_
 refine l_then ?_
 refine s_reg ?_
 refine l_pure 1 (fun L => (27, .pointer none) :: L) F (by kernel_rfl) fun a F => ?_
 refine l_do F rfl rfl (op_fn F (by kernel_rfl) (lread_nil _) ?_)
 rintro e z ⟨rfl, hb⟩
 have S := S.grow hb
 refine ⟨_, rfl, ?_⟩
 intro a F
 refine l_pure 3 (fun L => (30, .int .i64 2) :: (29, .agg #[.int .u32 0, .bool false, .map none]) :: (26, .tuple #[.agg #[.int .u32 0, .bool false, .map none], .int .i64 2]) :: L) F (by kernel_rfl) fun a F => ?_
 refine l_do F rfl rfl (op_alloc S _ (.agg #[.int .u32 0, .bool false, .map none]) rfl (by kernel_rfl) fun b3 z S a F => ?_)
 refine l_do F rfl rfl (op_storeB S 3 _ _ _ b3 0 (.agg #[.int .u32 0, .bool false, .map none]) F rfl rfl (by kernel_rfl) (by kernel_rfl) (by kernel_rfl) (by kernel_rfl) (by kernel_rfl) fun z S a F => ?_)
 refine l_pure 1 (fun L => (10, .int .i64 2) :: L) F (by kernel_rfl) fun a F => ?_
 refine l_then ?_
 refine wp_seq ?_
 refine s_reg ?_
 refine l_pure 2 (fun L => (32, .bool true) :: (31, .int .i64 2) :: L) F (by kernel_rfl) fun a F => ?_
 refine l_then ?_
 refine c_t F rfl ?_
 refine s_reg ?_
 refine l_pure 3 (fun L => (5, .int .i64 2) :: (4, .pointer none) :: (33, .int .i64 2) :: L) F (by kernel_rfl) fun a F => ?_
 refine l_then ?_
 refine wp_ret ?_
 refine then_r (inb_r (then_r (then_r (inb_r (then_r (?_))))))
 exact fin F [.tmp 4, .tmp 5] [.pointer none, .int .i64 2] rfl ⟨by kernel_rfl, by kernel_rfl, trivial⟩ (.tuple #[.pointer none, .int .i64 2]) rfl ⟨rfl, S.below (i := 0) rfl⟩
set_option maxRecDepth 100000 in
set_option maxHeartbeats 4000000 in
theorem lopen_nil1 (w : World) (G : Nat → Prop) (g0 : Nat) (sd0 : Sd) (N : Int) (in0 : sd0.In N) (hN : N ≤ 1000000) (hd0 : sd0.down = false) (hS : Sat w w [sdA g0 sd0, rest w G]) : Calls Try.prog 8 #[.pointer (some ⟨g0, 0, none⟩), .pointer none] w fun e w' => e = .returned (.tuple #[.pointer none, .int .i64 2]) ∧ Sat w w' [sdA g0 sd0, rest w G] := by
 refine enter 66 Try.func8 rfl rfl rfl fun a F => ?_
 have S : Sat w w [rest w G, sdA g0 sd0] := hS.pick [1, 0] (by decide)
 obtain ⟨li0, se0, L0, ht0⟩ : ∃ x y z, tellP sd0.rd = (x, y, z) := ⟨_, _, _, rfl⟩
 refine s_reg ?_
 refine l_pure 2 (fun L => (5, .int .i64 0) :: (4, .pointer none) :: L) F (by kernel_rfl) fun a F => ?_
 refine l_then ?_
 refine s_reg ?_
 refine l_pure 3 (fun L => (14, .agg #[.pointer (some ⟨g0, 0, none⟩), .pointer none]) :: (13, .pointer none) :: (12, .pointer (some ⟨g0, 0, none⟩)) :: L) F (by kernel_rfl) fun a F => ?_
 refine l_do F rfl rfl (op_smakeMap S _ rfl fun r1 z S a F => ?_)
 refine l_pure 1 (fun L => (16, .agg #[.pointer (some ⟨g0, 0, none⟩), .pointer none, .int .i64 1, .int .u32 0, .map (some r1), .int .i64 0]) :: L) F (by kernel_rfl) fun a F => ?_
 refine l_do F rfl rfl (op_box S _ _ (.agg #[.pointer (some ⟨g0, 0, none⟩), .pointer none, .int .i64 1, .int .u32 0, .map (some r1), .int .i64 0]) F rfl (by kernel_rfl) fun b2 z S a F => ?_)
 refine l_pure 1 (fun L => (6, .pointer (some ⟨b2, 0, none⟩)) :: L) F (by kernel_rfl) fun a F => ?_
 refine l_then ?_
 refine wp_seq ?_
 refine s_reg ?_
 refine l_pure 3 (fun L => (20, .pointer (some ⟨b2, 0, none⟩)) :: (19, .pointer (some ⟨b2, 0, none⟩)) :: (18, .pointer (some ⟨b2, 0, none⟩)) :: L) F (by kernel_rfl) fun a F => ?_
 refine l_do F rfl rfl (op_loadK _ _ (some ⟨b2, 0, none⟩) 0 [.pointer (some ⟨g0, 0, none⟩), .pointer none] F rfl (by kernel_rfl) (by kernel_rfl) (by kernel_rfl) (by simp) (cBoxK S 3 rfl 0 (by kernel_rfl)) (fun a F => ?_))
 refine l_pure 1 (fun L => (22, .int .i64 0) :: L) F (by kernel_rfl) fun a F => ?_
 refine l_then ?_
 refine wp_block ?_
 refine wp_loop_rounds 3 (rnd ?_)
 refine s_reg ?_
 refine l_pure 1 (fun L => (23, .bool true) :: L) F (by kernel_rfl) fun a F => ?_
 refine l_then ?_
 refine wp_seq ?_
 refine c_t F rfl ?_
 refine wp_skip ?_
 refine then_n ?_
 refine wp_seq ?_
 refine wp_block ?_
 refine s_reg ?_
 refine l_pure 4 (fun L => (8, .pointer (some ⟨g0, 0, none⟩)) :: (7, .int .i64 0) :: (25, .pointer (some ⟨g0, 0, none⟩)) :: (24, .int .i64 0) :: L) F (by kernel_rfl) fun a F => ?_
 refine l_then ?_
 refine s_reg ?_
 refine l_pure 1 (fun L => (27, .pointer (some ⟨g0, 0, none⟩)) :: L) F (by kernel_rfl) fun a F => ?_
 obtain ⟨G9, g9, hin9, hlt9, k9⟩ := S.frameB [1] (by decide) rfl
 refine l_do F rfl rfl (op_fn F (by kernel_rfl) ((by have h9 := lread_up _ G9 g0 sd0 N in0 hN hd0 g9; rw [ht0] at h9; exact h9)) ?_)
 rintro e z9 ⟨rt0, rfl, g⟩
 have S : Sat w z9 [rest w G, star2 (sdA g0 sd0) (hasA rt0 L0), smapA r1 [] 0, box b2 70 [.pointer (some ⟨g0, 0, none⟩), .pointer none, .int .i64 1, .int .u32 0, .map (some r1), .int .i64 0]] := k9 z9 [star2 (sdA g0 sd0) (hasA rt0 L0)] rfl g
 clear g g9 k9 hin9 hlt9
 have S := S.open2 (i := 1) rfl
 have S : Sat w z9 [rest w G, sdA g0 sd0, smapA r1 [] 0, box b2 70 [.pointer (some ⟨g0, 0, none⟩), .pointer none, .int .i64 1, .int .u32 0, .map (some r1), .int .i64 0], hasA rt0 L0] := S
 refine ⟨_, rfl, ?_⟩
 intro a F
 refine l_pure 3 (fun L => (30, .int .i64 0) :: (29, .agg #[.int .u32 (li0 : Nat), .bool se0, .map (some rt0)]) :: (26, .tuple #[.agg #[.int .u32 (li0 : Nat), .bool se0, .map (some rt0)], .int .i64 0]) :: L) F (by kernel_rfl) fun a F => ?_
 refine l_do F rfl rfl (op_alloc S _ (.agg #[.int .u32 0, .bool false, .map none]) rfl (by kernel_rfl) fun b3 z S a F => ?_)
 refine l_do F rfl rfl (op_storeB S 5 _ _ _ b3 0 (.agg #[.int .u32 (li0 : Nat), .bool se0, .map (some rt0)]) F rfl rfl (by kernel_rfl) (by kernel_rfl) (by kernel_rfl) (by kernel_rfl) (by kernel_rfl) fun z S a F => ?_)
 refine l_pure 1 (fun L => (10, .int .i64 0) :: L) F (by kernel_rfl) fun a F => ?_
 refine l_then ?_
 refine wp_seq ?_
 refine s_reg ?_
 refine l_pure 2 (fun L => (32, .bool false) :: (31, .int .i64 0) :: L) F (by kernel_rfl) fun a F => ?_
 refine l_then ?_
 refine c_f F rfl ?_
 refine wp_skip ?_
 refine then_n ?_
 refine wp_seq ?_
 cases se0 with
 | false =>
  skip
  refine region_gx (fun D => fun (_ : Unit) => [rest w G, sdA g0 sd0, smapA r1 [] 0, box b2 70 [.pointer (some ⟨g0, 0, none⟩), .pointer none, .int .i64 1, .int .u32 0, .map (some r1), .int .i64 0], hasA rt0 L0, box b3 72 [.int .u32 (li0 : Nat), .bool false, .map (some rt0)]]) (fun (_ : Unit) => [.pointer (some ⟨b3, 1, none⟩), .bool false, .bool false, undef, undef, undef, undef, undef, undef, undef, .bool false]) [(1, [], [])] () rfl (by kernel_rfl) (by kernel_rfl) F S.drew ?_ ?_ ?_ ?_ ?_
  · rintro ⟨⟩; rfl
  · rintro ⟨⟩; kernel_rfl
  ·
   intro D D' x h
   cases x
   rfl
  ·
   refine ⟨?_, ?_⟩
   ·
    refine ⟨_, rfl, rfl, by kernel_rfl, ?_⟩
    rintro D ⟨⟩ a z S F
    refine ⟨by kernel_rfl, ?_⟩
    exact op_load _ _ (some ⟨b3, 0, none⟩) 1 (.bool false) F rfl (by kernel_rfl) (by kernel_rfl) (cBox S 5 rfl (j := 1) rfl) (⟨(), rfl, (SameB.refl _ _ rfl), S⟩)
   trivial
  ·
   rintro ⟨⟩ a z F S
   have F := F.sub (l := [(6, .pointer (some ⟨b2, 0, none⟩)), (7, .int .i64 0), (9, .pointer (some ⟨b3, 0, none⟩)), (21, .agg #[.pointer (some ⟨g0, 0, none⟩), .pointer none]), (22, .int .i64 0), (44, .bool false)]) ⟨by kernel_rfl, by kernel_rfl, by kernel_rfl, by kernel_rfl, by kernel_rfl, by kernel_rfl, trivial⟩
   have S : Sat w z [rest w G, sdA g0 sd0, smapA r1 [] 0, box b2 70 [.pointer (some ⟨g0, 0, none⟩), .pointer none, .int .i64 1, .int .u32 0, .map (some r1), .int .i64 0], hasA rt0 L0, box b3 72 [.int .u32 (li0 : Nat), .bool false, .map (some rt0)]] := S
   refine then_n ?_
   refine c_f F rfl ?_
   refine wp_skip ?_
   refine inb_n ?_
   refine then_n ?_
   refine wp_region_list ?_
   refine l_pure 2 (fun L => (22, .int .i64 1) :: (59, .int .i64 1) :: L) F (by kernel_rfl) fun a F => ?_
   refine l_then ?_
   refine rnd ?_
   refine s_reg ?_
   refine l_pure 1 (fun L => (23, .bool true) :: L) F (by kernel_rfl) fun a F => ?_
   refine l_then ?_
   refine wp_seq ?_
   refine c_t F rfl ?_
   refine wp_skip ?_
   refine then_n ?_
   refine wp_seq ?_
   refine wp_block ?_
   refine s_reg ?_
   refine l_pure 4 (fun L => (8, .pointer none) :: (7, .int .i64 1) :: (25, .pointer none) :: (24, .int .i64 1) :: L) F (by kernel_rfl) fun a F => ?_
   refine l_then ?_
   refine s_reg ?_
   refine l_pure 1 (fun L => (27, .pointer none) :: L) F (by kernel_rfl) fun a F => ?_
   refine l_do F rfl rfl (op_fn F (by kernel_rfl) (lread_nil _) ?_)
   rintro e z ⟨rfl, hb⟩
   have S := S.grow hb
   refine ⟨_, rfl, ?_⟩
   intro a F
   refine l_pure 3 (fun L => (30, .int .i64 2) :: (29, .agg #[.int .u32 0, .bool false, .map none]) :: (26, .tuple #[.agg #[.int .u32 0, .bool false, .map none], .int .i64 2]) :: L) F (by kernel_rfl) fun a F => ?_
   refine l_do F rfl rfl (op_alloc S _ (.agg #[.int .u32 0, .bool false, .map none]) rfl (by kernel_rfl) fun b4 z S a F => ?_)
   refine l_do F rfl rfl (op_storeB S 6 _ _ _ b4 0 (.agg #[.int .u32 0, .bool false, .map none]) F rfl rfl (by kernel_rfl) (by kernel_rfl) (by kernel_rfl) (by kernel_rfl) (by kernel_rfl) fun z S a F => ?_)
   refine l_pure 1 (fun L => (10, .int .i64 2) :: L) F (by kernel_rfl) fun a F => ?_
   refine l_then ?_
   refine wp_seq ?_
   refine s_reg ?_
   refine l_pure 2 (fun L => (32, .bool true) :: (31, .int .i64 2) :: L) F (by kernel_rfl) fun a F => ?_
   refine l_then ?_
   refine c_t F rfl ?_
   refine s_reg ?_
   refine l_pure 3 (fun L => (5, .int .i64 2) :: (4, .pointer none) :: (33, .int .i64 2) :: L) F (by kernel_rfl) fun a F => ?_
   refine l_then ?_
   refine wp_ret ?_
   refine then_r (inb_r (then_r (then_r (inb_r (then_r (?_))))))
   exact fin F [.tmp 4, .tmp 5] [.pointer none, .int .i64 2] rfl ⟨by kernel_rfl, by kernel_rfl, trivial⟩ (.tuple #[.pointer none, .int .i64 2]) rfl ⟨rfl, S.pick [1, 0] (by decide)⟩
 | true =>
  skip
  by_cases ht5 : (0 : Int) < ((li0 : Nat) : Int)
  ·
   skip
   refine region_gx (fun D => fun (_ : Unit) => [rest w G, sdA g0 sd0, smapA r1 [] 0, box b2 70 [.pointer (some ⟨g0, 0, none⟩), .pointer none, .int .i64 1, .int .u32 0, .map (some r1), .int .i64 0], hasA rt0 L0, box b3 72 [.int .u32 (li0 : Nat), .bool true, .map (some rt0)]]) (fun (_ : Unit) => [.pointer (some ⟨b3, 1, none⟩), .bool true, .bool true, .pointer (some ⟨b3, 0, none⟩), .int .u32 (li0 : Nat), .pointer (some ⟨b2, 0, none⟩), .pointer (some ⟨b2, 0, none⟩), .pointer (some ⟨b2, 3, none⟩), .int .u32 0, .bool true, .bool true]) [(1, [], [4, 8, 9]), (4, [1], [9]), (8, [1], [9]), (9, [1, 4, 8], [])] () rfl (by kernel_rfl) (by kernel_rfl) F S.drew ?_ ?_ ?_ ?_ ?_
   · rintro ⟨⟩; rfl
   · rintro ⟨⟩; kernel_rfl
   ·
    intro D D' x h
    cases x
    rfl
   ·
    refine ⟨?_, ?_⟩
    ·
     refine ⟨_, rfl, rfl, by kernel_rfl, ?_⟩
     rintro D ⟨⟩ a z S F
     refine ⟨by kernel_rfl, ?_⟩
     exact op_load _ _ (some ⟨b3, 0, none⟩) 1 (.bool true) F rfl (by kernel_rfl) (by kernel_rfl) (cBox S 5 rfl (j := 1) rfl) (⟨(), rfl, (SameB.refl _ _ rfl), S⟩)
    refine ⟨?_, ?_⟩
    ·
     refine ⟨_, rfl, rfl, by kernel_rfl, ?_⟩
     rintro D ⟨⟩ a z S F
     refine ⟨by kernel_rfl, ?_⟩
     exact op_load _ _ (some ⟨b3, 0, none⟩) 0 (.int .u32 (li0 : Nat)) F rfl (by kernel_rfl) (by kernel_rfl) (cBox S 5 rfl (j := 0) rfl) (⟨(), rfl, (SameB.refl _ _ rfl), S⟩)
    refine ⟨?_, ?_⟩
    ·
     refine ⟨_, rfl, rfl, by kernel_rfl, ?_⟩
     rintro D ⟨⟩ a z S F
     refine ⟨by kernel_rfl, ?_⟩
     exact op_load _ _ (some ⟨b2, 0, none⟩) 3 (.int .u32 0) F rfl (by kernel_rfl) (by kernel_rfl) (cBox S 3 rfl (j := 3) rfl) (⟨(), rfl, (SameB.refl _ _ rfl), S⟩)
    refine ⟨?_, ?_⟩
    ·
     refine ⟨_, rfl, rfl, by kernel_rfl, ?_⟩
     rintro D ⟨⟩ a z S F
     refine ⟨by kernel_rfl, ?_⟩
     exact op_pure F (v0 := .bool (decide (((li0 : Nat) : Int) > (0 : Int)))) (v := .bool true) (by kernel_rfl) (gtrT ht5) ⟨(), rfl, (SameB.refl _ _ rfl), S⟩
    trivial
   ·
    rintro ⟨⟩ a z F S
    have F := F.sub (l := [(6, .pointer (some ⟨b2, 0, none⟩)), (7, .int .i64 0), (9, .pointer (some ⟨b3, 0, none⟩)), (21, .agg #[.pointer (some ⟨g0, 0, none⟩), .pointer none]), (22, .int .i64 0), (44, .bool true)]) ⟨by kernel_rfl, by kernel_rfl, by kernel_rfl, by kernel_rfl, by kernel_rfl, by kernel_rfl, trivial⟩
    have S : Sat w z [rest w G, sdA g0 sd0, smapA r1 [] 0, box b2 70 [.pointer (some ⟨g0, 0, none⟩), .pointer none, .int .i64 1, .int .u32 0, .map (some r1), .int .i64 0], hasA rt0 L0, box b3 72 [.int .u32 (li0 : Nat), .bool true, .map (some rt0)]] := S
    refine then_n ?_
    refine c_t F rfl ?_
    refine region_gx (fun D => fun (_ : Unit) => [rest w G, sdA g0 sd0, smapA r1 [] 0, bif D 16 then box b2 70 [.pointer (some ⟨g0, 0, none⟩), .pointer none, .int .i64 0, .int .u32 (li0 : Nat), .map (some rt0), .int .i64 0] else (bif D 13 then box b2 70 [.pointer (some ⟨g0, 0, none⟩), .pointer none, .int .i64 0, .int .u32 (li0 : Nat), .map (some r1), .int .i64 0] else (bif D 10 then box b2 70 [.pointer (some ⟨g0, 0, none⟩), .pointer none, .int .i64 0, .int .u32 0, .map (some r1), .int .i64 0] else box b2 70 [.pointer (some ⟨g0, 0, none⟩), .pointer none, .int .i64 1, .int .u32 0, .map (some r1), .int .i64 0])), hasA rt0 L0, box b3 72 [.int .u32 (li0 : Nat), .bool true, .map (some rt0)]]) (fun (_ : Unit) => [.pointer (some ⟨b2, 0, none⟩), .pointer (some ⟨b2, 0, none⟩), .pointer (some ⟨b2, 0, none⟩), .int .i64 0, .pointer (some ⟨b3, 0, none⟩), .int .u32 (li0 : Nat), .pointer (some ⟨b3, 2, none⟩), .map (some rt0), .pointer (some ⟨b2, 0, none⟩), .pointer (some ⟨b2, 2, none⟩), undef, .pointer (some ⟨b2, 0, none⟩), .pointer (some ⟨b2, 3, none⟩), undef, .pointer (some ⟨b2, 0, none⟩), .pointer (some ⟨b2, 4, none⟩), undef]) [(5, [], [13, 16]), (7, [], [16]), (10, [], [13, 16]), (13, [5, 10], [16]), (16, [5, 7, 10, 13], [])] () rfl (by kernel_rfl) (by kernel_rfl) F S.drew ?_ ?_ ?_ ?_ ?_
    · rintro ⟨⟩; rfl
    · rintro ⟨⟩; kernel_rfl
    ·
     intro D D' x h
     cases x
     simp only [h 10 (by decide), h 13 (by decide), h 16 (by decide)]
    ·
     refine ⟨?_, ?_⟩
     ·
      refine ⟨_, rfl, rfl, by kernel_rfl, ?_⟩
      rintro D ⟨⟩ a z S F
      refine ⟨by kernel_rfl, ?_⟩
      exact op_load _ _ (some ⟨b3, 0, none⟩) 0 (.int .u32 (li0 : Nat)) F rfl (by kernel_rfl) (by kernel_rfl) (cBox S 5 rfl (j := 0) rfl) (⟨(), rfl, (SameB.refl _ _ rfl), S⟩)
     refine ⟨?_, ?_⟩
     ·
      refine ⟨_, rfl, rfl, by kernel_rfl, ?_⟩
      rintro D ⟨⟩ a z S F
      refine ⟨by kernel_rfl, ?_⟩
      exact op_load _ _ (some ⟨b3, 0, none⟩) 2 (.map (some rt0)) F rfl (by kernel_rfl) (by kernel_rfl) (cBox S 5 rfl (j := 2) rfl) (⟨(), rfl, (SameB.refl _ _ rfl), S⟩)
     refine ⟨?_, ?_⟩
     ·
      refine ⟨_, rfl, rfl, by kernel_rfl, ?_⟩
      rintro D ⟨⟩ a z S F
      refine ⟨by kernel_rfl, ?_⟩
      exact op_storeB S 3 _ _ _ b2 2 (.int .i64 0) F rfl rfl (by kernel_rfl) (by kernel_rfl) (by kernel_rfl) (by kernel_rfl) (by kernel_rfl) fun z S => ⟨(), rfl, (SameB.refl _ _ rfl), S⟩
     refine ⟨?_, ?_⟩
     ·
      refine ⟨_, rfl, rfl, by kernel_rfl, ?_⟩
      rintro D ⟨⟩ a z S F
      refine ⟨by kernel_rfl, ?_⟩
      exact op_storeB S 3 _ _ _ b2 3 (.int .u32 (li0 : Nat)) F rfl rfl (by kernel_rfl) (by kernel_rfl) (by kernel_rfl) (by kernel_rfl) (by kernel_rfl) fun z S => ⟨(), rfl, (SameB.refl _ _ rfl), S⟩
     refine ⟨?_, ?_⟩
     ·
      refine ⟨_, rfl, rfl, by kernel_rfl, ?_⟩
      rintro D ⟨⟩ a z S F
      refine ⟨by kernel_rfl, ?_⟩
      exact op_storeB S 3 _ _ _ b2 4 (.map (some rt0)) F rfl rfl (by kernel_rfl) (by kernel_rfl) (by kernel_rfl) (by kernel_rfl) (by kernel_rfl) fun z S => ⟨(), rfl, (SameB.refl _ _ rfl), S⟩
     trivial
    ·
     rintro ⟨⟩ a z F S
     have F := F.sub (l := [(6, .pointer (some ⟨b2, 0, none⟩)), (21, .agg #[.pointer (some ⟨g0, 0, none⟩), .pointer none]), (22, .int .i64 0)]) ⟨by kernel_rfl, by kernel_rfl, by kernel_rfl, trivial⟩
     have S : Sat w z [rest w G, sdA g0 sd0, smapA r1 [] 0, box b2 70 [.pointer (some ⟨g0, 0, none⟩), .pointer none, .int .i64 0, .int .u32 (li0 : Nat), .map (some rt0), .int .i64 0], hasA rt0 L0, box b3 72 [.int .u32 (li0 : Nat), .bool true, .map (some rt0)]] := S
     refine inb_n ?_
     refine then_n ?_
     refine wp_region_list ?_
     refine l_pure 2 (fun L => (22, .int .i64 1) :: (59, .int .i64 1) :: L) F (by kernel_rfl) fun a F => ?_
     refine l_then ?_
     refine rnd ?_
     refine s_reg ?_
     refine l_pure 1 (fun L => (23, .bool true) :: L) F (by kernel_rfl) fun a F => ?_
     refine l_then ?_
     refine wp_seq ?_
     refine c_t F rfl ?_
     refine wp_skip ?_
     refine then_n ?_
     refine wp_seq ?_
     refine wp_block ?_
     refine s_reg ?_
     refine l_pure 4 (fun L => (8, .pointer none) :: (7, .int .i64 1) :: (25, .pointer none) :: (24, .int .i64 1) :: L) F (by kernel_rfl) fun a F => ?_
     refine l_then ?_
     refine s_reg ?_
     refine l_pure 1 (fun L => (27, .pointer none) :: L) F (by kernel_rfl) fun a F => ?_
     refine l_do F rfl rfl (op_fn F (by kernel_rfl) (lread_nil _) ?_)
     rintro e z ⟨rfl, hb⟩
     have S := S.grow hb
     refine ⟨_, rfl, ?_⟩
     intro a F
     refine l_pure 3 (fun L => (30, .int .i64 2) :: (29, .agg #[.int .u32 0, .bool false, .map none]) :: (26, .tuple #[.agg #[.int .u32 0, .bool false, .map none], .int .i64 2]) :: L) F (by kernel_rfl) fun a F => ?_
     refine l_do F rfl rfl (op_alloc S _ (.agg #[.int .u32 0, .bool false, .map none]) rfl (by kernel_rfl) fun b6 z S a F => ?_)
     refine l_do F rfl rfl (op_storeB S 6 _ _ _ b6 0 (.agg #[.int .u32 0, .bool false, .map none]) F rfl rfl (by kernel_rfl) (by kernel_rfl) (by kernel_rfl) (by kernel_rfl) (by kernel_rfl) fun z S a F => ?_)
     refine l_pure 1 (fun L => (10, .int .i64 2) :: L) F (by kernel_rfl) fun a F => ?_
     refine l_then ?_
     refine wp_seq ?_
     refine s_reg ?_
     refine l_pure 2 (fun L => (32, .bool true) :: (31, .int .i64 2) :: L) F (by kernel_rfl) fun a F => ?_
     refine l_then ?_
     refine c_t F rfl ?_
     refine s_reg ?_
     refine l_pure 3 (fun L => (5, .int .i64 2) :: (4, .pointer none) :: (33, .int .i64 2) :: L) F (by kernel_rfl) fun a F => ?_
     refine l_then ?_
     refine wp_ret ?_
     refine then_r (inb_r (then_r (then_r (inb_r (then_r (?_))))))
     exact fin F [.tmp 4, .tmp 5] [.pointer none, .int .i64 2] rfl ⟨by kernel_rfl, by kernel_rfl, trivial⟩ (.tuple #[.pointer none, .int .i64 2]) rfl ⟨rfl, S.pick [1, 0] (by decide)⟩
  ·
   skip
   refine region_gx (fun D => fun (_ : Unit) => [rest w G, sdA g0 sd0, smapA r1 [] 0, box b2 70 [.pointer (some ⟨g0, 0, none⟩), .pointer none, .int .i64 1, .int .u32 0, .map (some r1), .int .i64 0], hasA rt0 L0, box b3 72 [.int .u32 (li0 : Nat), .bool true, .map (some rt0)]]) (fun (_ : Unit) => [.pointer (some ⟨b3, 1, none⟩), .bool true, .bool true, .pointer (some ⟨b3, 0, none⟩), .int .u32 (li0 : Nat), .pointer (some ⟨b2, 0, none⟩), .pointer (some ⟨b2, 0, none⟩), .pointer (some ⟨b2, 3, none⟩), .int .u32 0, .bool false, .bool false]) [(1, [], [4, 8, 9]), (4, [1], [9]), (8, [1], [9]), (9, [1, 4, 8], [])] () rfl (by kernel_rfl) (by kernel_rfl) F S.drew ?_ ?_ ?_ ?_ ?_
   · rintro ⟨⟩; rfl
   · rintro ⟨⟩; kernel_rfl
   ·
    intro D D' x h
    cases x
    rfl
   ·
    refine ⟨?_, ?_⟩
    ·
     refine ⟨_, rfl, rfl, by kernel_rfl, ?_⟩
     rintro D ⟨⟩ a z S F
     refine ⟨by kernel_rfl, ?_⟩
     exact op_load _ _ (some ⟨b3, 0, none⟩) 1 (.bool true) F rfl (by kernel_rfl) (by kernel_rfl) (cBox S 5 rfl (j := 1) rfl) (⟨(), rfl, (SameB.refl _ _ rfl), S⟩)
    refine ⟨?_, ?_⟩
    ·
     refine ⟨_, rfl, rfl, by kernel_rfl, ?_⟩
     rintro D ⟨⟩ a z S F
     refine ⟨by kernel_rfl, ?_⟩
     exact op_load _ _ (some ⟨b3, 0, none⟩) 0 (.int .u32 (li0 : Nat)) F rfl (by kernel_rfl) (by kernel_rfl) (cBox S 5 rfl (j := 0) rfl) (⟨(), rfl, (SameB.refl _ _ rfl), S⟩)
    refine ⟨?_, ?_⟩
    ·
     refine ⟨_, rfl, rfl, by kernel_rfl, ?_⟩
     rintro D ⟨⟩ a z S F
     refine ⟨by kernel_rfl, ?_⟩
     exact op_load _ _ (some ⟨b2, 0, none⟩) 3 (.int .u32 0) F rfl (by kernel_rfl) (by kernel_rfl) (cBox S 3 rfl (j := 3) rfl) (⟨(), rfl, (SameB.refl _ _ rfl), S⟩)
    refine ⟨?_, ?_⟩
    ·
     refine ⟨_, rfl, rfl, by kernel_rfl, ?_⟩
     rintro D ⟨⟩ a z S F
     refine ⟨by kernel_rfl, ?_⟩
     exact op_pure F (v0 := .bool (decide (((li0 : Nat) : Int) > (0 : Int)))) (v := .bool false) (by kernel_rfl) (gtrF ht5) ⟨(), rfl, (SameB.refl _ _ rfl), S⟩
    trivial
   ·
    rintro ⟨⟩ a z F S
    have F := F.sub (l := [(6, .pointer (some ⟨b2, 0, none⟩)), (7, .int .i64 0), (9, .pointer (some ⟨b3, 0, none⟩)), (21, .agg #[.pointer (some ⟨g0, 0, none⟩), .pointer none]), (22, .int .i64 0), (44, .bool false)]) ⟨by kernel_rfl, by kernel_rfl, by kernel_rfl, by kernel_rfl, by kernel_rfl, by kernel_rfl, trivial⟩
    have S : Sat w z [rest w G, sdA g0 sd0, smapA r1 [] 0, box b2 70 [.pointer (some ⟨g0, 0, none⟩), .pointer none, .int .i64 1, .int .u32 0, .map (some r1), .int .i64 0], hasA rt0 L0, box b3 72 [.int .u32 (li0 : Nat), .bool true, .map (some rt0)]] := S
    refine then_n ?_
    refine c_f F rfl ?_
    refine wp_skip ?_
    refine inb_n ?_
    refine then_n ?_
    refine wp_region_list ?_
    refine l_pure 2 (fun L => (22, .int .i64 1) :: (59, .int .i64 1) :: L) F (by kernel_rfl) fun a F => ?_
    refine l_then ?_
    refine rnd ?_
    refine s_reg ?_
    refine l_pure 1 (fun L => (23, .bool true) :: L) F (by kernel_rfl) fun a F => ?_
    refine l_then ?_
    refine wp_seq ?_
    refine c_t F rfl ?_
    refine wp_skip ?_
    refine then_n ?_
    refine wp_seq ?_
    refine wp_block ?_
    refine s_reg ?_
    refine l_pure 4 (fun L => (8, .pointer none) :: (7, .int .i64 1) :: (25, .pointer none) :: (24, .int .i64 1) :: L) F (by kernel_rfl) fun a F => ?_
    refine l_then ?_
    refine s_reg ?_
    refine l_pure 1 (fun L => (27, .pointer none) :: L) F (by kernel_rfl) fun a F => ?_
    refine l_do F rfl rfl (op_fn F (by kernel_rfl) (lread_nil _) ?_)
    rintro e z ⟨rfl, hb⟩
    have S := S.grow hb
    refine ⟨_, rfl, ?_⟩
    intro a F
    refine l_pure 3 (fun L => (30, .int .i64 2) :: (29, .agg #[.int .u32 0, .bool false, .map none]) :: (26, .tuple #[.agg #[.int .u32 0, .bool false, .map none], .int .i64 2]) :: L) F (by kernel_rfl) fun a F => ?_
    refine l_do F rfl rfl (op_alloc S _ (.agg #[.int .u32 0, .bool false, .map none]) rfl (by kernel_rfl) fun b7 z S a F => ?_)
    refine l_do F rfl rfl (op_storeB S 6 _ _ _ b7 0 (.agg #[.int .u32 0, .bool false, .map none]) F rfl rfl (by kernel_rfl) (by kernel_rfl) (by kernel_rfl) (by kernel_rfl) (by kernel_rfl) fun z S a F => ?_)
    refine l_pure 1 (fun L => (10, .int .i64 2) :: L) F (by kernel_rfl) fun a F => ?_
    refine l_then ?_
    refine wp_seq ?_
    refine s_reg ?_
    refine l_pure 2 (fun L => (32, .bool true) :: (31, .int .i64 2) :: L) F (by kernel_rfl) fun a F => ?_
    refine l_then ?_
    refine c_t F rfl ?_
    refine s_reg ?_
    refine l_pure 3 (fun L => (5, .int .i64 2) :: (4, .pointer none) :: (33, .int .i64 2) :: L) F (by kernel_rfl) fun a F => ?_
    refine l_then ?_
    refine wp_ret ?_
    refine then_r (inb_r (then_r (then_r (inb_r (then_r (?_))))))
    exact fin F [.tmp 4, .tmp 5] [.pointer none, .int .i64 2] rfl ⟨by kernel_rfl, by kernel_rfl, trivial⟩ (.tuple #[.pointer none, .int .i64 2]) rfl ⟨rfl, S.pick [1, 0] (by decide)⟩
end Go.Proofs.Ytidcdfilfccigaa
