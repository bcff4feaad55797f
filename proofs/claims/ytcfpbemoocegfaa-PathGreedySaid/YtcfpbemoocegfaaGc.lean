/- Code, walked: what a program prints walks with. Plain: over any program. -/
import Derived.Test.YtcfpbemoocegfaaGm
import Derived.LoopN
namespace Go.Proofs.Ytcfpbemoocegfaa
set_option linter.unusedVariables false
set_option linter.unusedSimpArgs false
set_option linter.unnecessarySimpa false
open Go Go.RowKit

section
variable {P : Program} {ops : Array Oper} {Q : Exit → Act → World → Prop} {K : Act → World → Prop} {a : Act} {w : World} {x y : Code} {id : Nat} {c : Operand} {n : Nat} {L : List (Nat × Value)}
theorem then_n (h : K a w) : Exit.then K Q .normal a w := h
theorem then_r (h : Q .ret a w) : Exit.then K Q .ret a w := h
theorem then_x (h : Q (.exit id) a w) : Exit.then K Q (.exit id) a w := h
theorem inb_n (h : Q .normal a w) : Exit.inBlock id Q .normal a w := h
theorem inb_r (h : Q .ret a w) : Exit.inBlock id Q .ret a w := h
theorem inb_x (h : Q .normal a w) : Exit.inBlock id Q (.exit id) a w := by
  show if id = id then Q .normal a w else Q (.exit id) a w
  rw [if_pos rfl]; exact h
theorem inb_xo {i : Nat} (hne : Nat.beq i id = false) (h : Q (.exit i) a w) : Exit.inBlock id Q (.exit i) a w := by
  show if i = id then Q .normal a w else Q (.exit i) a w
  rw [if_neg (fun e => by rw [e, Nat.beq_refl] at hne; cases hne)]
  exact h
theorem s_reg (h : wpList P ops (Exit.then (y.wp P Q) Q) ops.toList a w) : (Code.seq (Code.region id ops false) y).wp P Q a w := wp_seq (wp_region_list h)
theorem l_then (h : K a w) : wpList P ops (Exit.then K Q) [] a w := h
theorem c_t (F : Fr a n L) (hc : val? L c = some (.bool true)) (h : x.wp P Q a w) : (Code.cond c x y).wp P Q a w := wp_cond_true (F.val hc) h
theorem c_f (F : Fr a n L) (hc : val? L c = some (.bool false)) (h : y.wp P Q a w) : (Code.cond c x y).wp P Q a w := wp_cond_false (F.val hc) h
/-- What stands behind x is walked once, from M. -/
theorem cut (M : Act → World → Prop) (hx : x.wp P (Exit.then M Q) a w) (hy : ∀ a w, M a w → y.wp P Q a w) : (Code.seq x y).wp P Q a w := by
  refine wp_seq (wp_mono hx ?_)
  intro e a w h
  cases e with
  | normal => exact hy a w h
  | _ => exact h
theorem rnd {c : Code} {n : Nat} (h : c.wp P (Exit.then (Code.rounds P c Q n) Q) a w) : Code.rounds P c Q (n + 1) a w := h
/-- A loop whose rounds are counted down. -/
theorem wp_loop_m {c : Code} (I : Nat → Act → World → Prop) (m : Nat) (h0 : I m a w) (round : ∀ m a w, I m a w → c.wp P (Exit.then (fun a' w' => ∃ m', m' < m ∧ I m' a' w') Q) a w) : (Code.loop c).wp P Q a w := by
  classical
  let J : Act → World → Prop := fun a w => ∃ m, I m a w
  have key : ∀ a w, J a w → ∃ m, I m a w ∧ ∀ m', I m' a w → m ≤ m' := by
    rintro a w ⟨m, hm⟩
    induction m using Nat.strongRecOn with
    | _ m ih =>
      by_cases h : ∃ m', m' < m ∧ I m' a w
      · obtain ⟨m', h1, h2⟩ := h
        exact ih m' h1 h2
      · exact ⟨m, hm, fun m' h' => Nat.le_of_not_lt fun hlt => h ⟨m', hlt, h'⟩⟩
  let μ : Act → World → Nat := fun a w => if h : J a w then (key a w h).choose else 0
  refine wp_loop J μ ⟨m, h0⟩ fun a w hJ => ?_
  have hμ : μ a w = (key a w hJ).choose := by simp only [μ]; rw [dif_pos hJ]
  obtain ⟨h1, _⟩ := (key a w hJ).choose_spec
  refine wp_mono (round _ a w h1) ?_
  intro e a' w' h
  cases e with
  | normal =>
    obtain ⟨m', hlt, hI⟩ := h
    have hJ' : J a' w' := ⟨m', hI⟩
    refine ⟨hJ', ?_⟩
    have hμ' : μ a' w' = (key a' w' hJ').choose := by simp only [μ]; rw [dif_pos hJ']
    rw [hμ, hμ']
    exact Nat.lt_of_le_of_lt ((key a' w' hJ').choose_spec.2 m' hI) hlt
  | _ => exact h
end
end Go.Proofs.Ytcfpbemoocegfaa
