/- A slice without its first element. Plain: over any program. -/
import Derived.Test.YtcfpbemoocegfaaGf
namespace Go.Proofs.Ytcfpbemoocegfaa
set_option linter.unusedVariables false
set_option linter.unusedSimpArgs false
set_option linter.unnecessarySimpa false
open Go Go.RowKit

def cutL (A : Option Addr) (n c k : Nat) : Value := .slice (if c = 1 then A else A.map (·.add (1 * k))) (n - 1) (c - 1)
section
variable {P : Program} {a : Act} {nt : Nat} {L : List (Nat × Value)} {o : Oper} {R : Value → World → Prop} {w : World}
theorem op_sliceL (T e : TypeId) (x y : Operand) (A : Option Addr) (N c k : Nat) (kd : IntKind) (F : Fr a nt L) (ho : o.op = .slice T x (some y) none none) (hT : P.underlying T = some (.slice e)) (hk : sizeT P e = some k) (hx : val? L x = some (.slice A N c)) (hy : val? L y = some (.int kd 1)) (hm : 1 ≤ N) (hR : R (cutL A N c k) w) : OpR P a w o R := by
  refine op_run (v := cutL A N c k) (w' := w) ?_ hR
  unfold sizeT at hk
  cases hi' : P.info? e with
  | none => rw [hi'] at hk; cases hk
  | some i =>
    rw [hi'] at hk
    simp only [Option.map_some, Option.some.injEq] at hk
    unfold execOp
    simp only [ho, Option.map_none, Option.map_some, F.val hx, F.val hy]
    have hmi : (1 : Int) ≤ (N : Int) := by omega
    simp only [Instr.sliceAt, run_underlying hT, Sem.run_bind, Result.andThen_ok, Instr.slice, Instr.sliceBounds, Instr.sliceBound, asIntOf, Sem.run_pure, sizeOf, tinfo hi', if_pos (And.intro (show (0 : Int) ≤ 1 by decide) hmi), Option.isSome_none, hk]
    simp [cutL, hk]
theorem op_indexL (T e : TypeId) (x ix : Operand) (A : Option Addr) (N c m k : Nat) (kd : IntKind) (F : Fr a nt L) (ho : o.op = .indexAddr T x ix) (hT : P.underlying T = some (.slice e)) (hk : sizeT P e = some k) (hx : val? L x = some (cutL A N c k)) (hi : val? L ix = some (.int kd (m : Int)))
    (hm : m + 1 < N) (hc : N ≤ c) (hA : A.isSome = true) (hR : R (ptrA A ((m + 1) * k)) w) : OpR P a w o R := by
  have h1 : ¬ c = 1 := by omega
  unfold cutL at hx
  rw [if_neg h1] at hx
  refine op_index T e x ix _ (N - 1) (c - 1) m k kd F ho hT hk hx hi (by omega) (by cases A <;> simp_all) ?_
  obtain ⟨ad, rfl⟩ := Option.isSome_iff_exists.1 hA
  have : ptrA ((some ad).map (·.add (1 * k))) (m * k) = ptrA (some ad) ((m + 1) * k) := by
    unfold ptrA
    simp only [Option.map_some, add_add]
    rw [show 1 * k + m * k = (m + 1) * k from by rw [Nat.add_mul, Nat.add_comm]]
  rw [this]
  exact hR
end
end Go.Proofs.Ytcfpbemoocegfaa
