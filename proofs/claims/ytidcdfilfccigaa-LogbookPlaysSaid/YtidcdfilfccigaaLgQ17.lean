/- What the program's logbook keeps; Open on nil. -/
import Derived.Test.YtidcdfilfccigaaLgF17
import Derived.Test.YtidcdfilfccigaaTellP
namespace Go.Proofs.Ytidcdfilfccigaa
set_option linter.unusedVariables false
set_option linter.unusedSimpArgs false
set_option linter.unnecessarySimpa false
open Go Go.RowKit

section
variable {x : Lg} {n : Int} {s : Sd} {lb : Lb} {k : Nat}
theorem cur_in (h0 : x.s0.In n) (h1 : x.s1.In n) : x.cur.In n := by unfold Lg.cur; split; exact h0; exact h1
theorem oth_in (h0 : x.s0.In n) (h1 : x.s1.In n) : x.oth.In n := by unfold Lg.oth; split; exact h1; exact h0
theorem onCur_in (h0 : x.s0.In n) (h1 : x.s1.In n) (h : s.In n) : (x.onCur s lb).s0.In n ∧ (x.onCur s lb).s1.In n := by unfold Lg.onCur; split; exact ⟨h, h1⟩; exact ⟨h0, h⟩
theorem onOth_in (h0 : x.s0.In n) (h1 : x.s1.In n) (h : s.In n) : (x.onOth s lb).s0.In n ∧ (x.onOth s lb).s1.In n := by unfold Lg.onOth; split; exact ⟨h0, h⟩; exact ⟨h, h1⟩
theorem onCur_lb : (x.onCur s lb).lb = lb := by unfold Lg.onCur; split <;> rfl
theorem onOth_lb : (x.onOth s lb).lb = lb := by unfold Lg.onOth; split <;> rfl
theorem put_in (h0 : x.s0.In n) (h1 : x.s1.In n) (nm v : Bs) : (putT x nm v).2.s0.In (n + 1) ∧ (putT x nm v).2.s1.In (n + 1) := by
  have u0 := h0.mono (m := n + 1) (by omega)
  have u1 := h1.mono (m := n + 1) (by omega)
  unfold putT
  split
  · exact ⟨u0, u1⟩
  · split
    · exact ⟨u0, u1⟩
    · exact onCur_in u0 u1 ((cur_in h0 h1).app _)
theorem drop_in (h0 : x.s0.In n) (h1 : x.s1.In n) (nm : Bs) : (dropT x nm).2.s0.In (n + 1) ∧ (dropT x nm).2.s1.In (n + 1) := by
  have u0 := h0.mono (m := n + 1) (by omega)
  have u1 := h1.mono (m := n + 1) (by omega)
  unfold dropT
  split
  · exact ⟨u0, u1⟩
  · split
    · exact ⟨u0, u1⟩
    · exact onCur_in u0 u1 ((cur_in h0 h1).app _)
theorem sync_in (h0 : x.s0.In n) (h1 : x.s1.In n) : (syncT x).2.s0.In (n + 1) ∧ (syncT x).2.s1.In (n + 1) := by
  have u0 := h0.mono (m := n + 1) (by omega)
  have u1 := h1.mono (m := n + 1) (by omega)
  unfold syncT
  split
  · exact ⟨u0, u1⟩
  · exact onCur_in u0 u1 ((cur_in h0 h1).syn)
theorem comp_in (h0 : x.s0.In n) (h1 : x.s1.In n) : (compT x).2.s0.In (n + 3) ∧ (compT x).2.s1.In (n + 3) := by
  have u0 := h0.mono (m := n + 3) (by omega)
  have u1 := h1.mono (m := n + 3) (by omega)
  have o0 := oth_in h0 h1
  unfold compT
  split
  · exact ⟨u0, u1⟩
  · split
    · exact ⟨u0, u1⟩
    · split
      · exact onOth_in u0 u1 (o0.ers.mono (by omega))
      · split
        · exact onOth_in u0 u1 ((o0.ers.app _).mono (by omega))
        · split
          · exact onOth_in u0 u1 ((o0.ers.app _).syn.mono (by omega))
          · exact onOth_in u0 u1 ((o0.ers.app _).syn.mono (by omega))
theorem open_in {s0 s1 : Sd} (h0 : s0.In n) (h1 : s1.In n) : (openT s0 s1).2.s0.In (n + 3) ∧ (openT s0 s1).2.s1.In (n + 3) := comp_in h0 h1
theorem put_lb (h : LbOk x.lb k) (nm v : Bs) : LbOk (putT x nm v).2.lb (k + 1) := by
  have h1 := h.up (m := k + 1) (by omega)
  unfold putT
  split
  · exact h1
  · split
    · exact h1
    · rename_i h2 h3
      rw [onCur_lb]
      split
      · refine ⟨h.on, h.life, put_rises h.ri _, fun y hy => ?_, fun y hy => ?_, ?_⟩
        · rcases put_mem hy with rfl | hy
          · exact (show nm.length ≤ 255 from by omega)
          · exact h.nm y hy
        · rcases put_mem hy with rfl | hy
          · exact (show v.length ≤ 262144 from by omega)
          · exact h.vl y hy
        · have := put_len x.lb.L (nm, v); have := h.ct; show (putN x.lb.L (nm, v)).length ≤ k + 1; omega
      · exact ⟨h1.on, h1.life, h1.ri, h1.nm, h1.vl, h1.ct⟩
theorem drop_lb (h : LbOk x.lb k) (nm : Bs) : LbOk (dropT x nm).2.lb k := by
  unfold dropT
  split
  · exact h
  · split
    · exact h
    · rw [onCur_lb]
      split
      · exact ⟨h.on, h.life, del_rises h.ri _, fun y hy => h.nm y (del_mem hy), fun y hy => h.vl y (del_mem hy), by have := del_len x.lb.L nm; have := h.ct; show (delN x.lb.L nm).length ≤ k; omega⟩
      · exact ⟨h.on, h.life, h.ri, h.nm, h.vl, h.ct⟩
theorem sync_lb (h : LbOk x.lb k) : LbOk (syncT x).2.lb k := by
  unfold syncT
  split
  · exact h
  · rw [onCur_lb]; exact ⟨h.on, h.life, h.ri, h.nm, h.vl, h.ct⟩
theorem comp_lb (h : LbOk x.lb k) : LbOk (compT x).2.lb k := by
  unfold compT
  split
  · exact h
  · split
    · exact h
    · rename_i h2 h3
      split
      · rw [onOth_lb]; exact ⟨h.on, h.life, h.ri, h.nm, h.vl, h.ct⟩
      · split
        · rw [onOth_lb]; exact ⟨h.on, h.life, h.ri, h.nm, h.vl, h.ct⟩
        · split
          · rw [onOth_lb]; exact ⟨h.on, h.life, h.ri, h.nm, h.vl, h.ct⟩
          · rw [onOth_lb]; exact ⟨by show 1 - x.lb.on ≤ 1; omega, by have := h.life; show x.lb.life + 1 < _; omega, h.ri, h.nm, h.vl, h.ct⟩
theorem open_lb {s0 s1 : Sd} {m : Int} (h0 : s0.In n) (h1 : s1.In m) : LbOk (openT s0 s1).2.lb 262144 := comp_lb (found_ok h0 h1)
end
section
variable {w : World} {G : Nat → Prop} {g0 g1 : Nat} {sd0 sd1 : Sd}
theorem lopen_ok (N : Int) (in0 : sd0.In N) (in1 : sd1.In N) (hN : N ≤ 1000000) (hd0 : sd0.down = false) (hd1 : sd1.down = false) (h : (openT sd0 sd1).1 = 0) (hS : Sat w w [sdA g0 sd0, sdA g1 sd1, rest w G]) :
    Calls Try.prog 8 #[pt g0 0, pt g1 0] w fun e w' => ∃ b, e = .returned (.tuple #[pt b 0, .int .i64 0]) ∧ Sat w w' [star2 (sdA g0 (openT sd0 sd1).2.s0) (lgA b g0 g1 (openT sd0 sd1).2.lb), sdA g1 (openT sd0 sd1).2.s1, rest w G] := by
  refine (lopen_up w G g0 g1 sd0 sd1 N in0 in1 hN hd0 hd1 hS).mono ?_
  rintro e w' (⟨_, b, he, h2⟩ | ⟨h1, _⟩)
  · exact ⟨b, he, h2⟩
  · exact absurd h h1
theorem lopen_er (N : Int) (in0 : sd0.In N) (in1 : sd1.In N) (hN : N ≤ 1000000) (hd0 : sd0.down = false) (hd1 : sd1.down = false) (h : ¬ (openT sd0 sd1).1 = 0) (hS : Sat w w [sdA g0 sd0, sdA g1 sd1, rest w G]) :
    Calls Try.prog 8 #[pt g0 0, pt g1 0] w fun e w' => e = .returned (.tuple #[.pointer none, .int .i64 (openT sd0 sd1).1]) ∧ Sat w w' [sdA g0 (openT sd0 sd1).2.s0, sdA g1 (openT sd0 sd1).2.s1, rest w G] := by
  refine (lopen_up w G g0 g1 sd0 sd1 N in0 in1 hN hd0 hd1 hS).mono ?_
  rintro e w' (⟨h1, _⟩ | ⟨_, he, h2⟩)
  · exact absurd h1 h
  · exact ⟨he, h2⟩
end
end Go.Proofs.Ytidcdfilfccigaa
