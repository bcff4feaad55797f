/- A constant string's bytes: the row is marked. -/
import Derived.Test.YtidcdfilfccigaaLgE17
namespace Go.Proofs.Ytidcdfilfccigaa
set_option linter.unusedVariables false
set_option linter.unusedSimpArgs false
set_option linter.unnecessarySimpa false
open Go Go.RowKit

section
variable {P : Program} {a : Act} {n : Nat} {L : List (Nat × Value)} {o : Oper} {w0 w : World} {R : Value → World → Prop} {l : List Asn}
theorem freeze_at {g k : Nat} {C : Array Value} {T : TypeId} (h : w.heap[g]? = some (.cells C T (0, 0))) : (w.freeze ⟨g, k, none⟩ 1).os = w.os ∧ (w.freeze ⟨g, k, none⟩ 1).tape = w.tape ∧ (w.freeze ⟨g, k, none⟩ 1).output = w.output ∧ (w.freeze ⟨g, k, none⟩ 1).heap.size = w.heap.size ∧ (w.freeze ⟨g, k, none⟩ 1).heap[g]? = some (.cells C T (k, k + 1)) ∧ ∀ q, q ≠ g → (w.freeze ⟨g, k, none⟩ 1).heap[q]? = w.heap[q]? := by
  unfold World.freeze
  rw [if_neg (by decide)]
  refine ⟨rfl, rfl, rfl, by simp, ?_, fun q hq => ?_⟩
  · rw [Array.getElem?_modify, if_pos rfl, h]; rfl
  · simp [Array.getElem?_modify, Ne.symm hq]
theorem op_convMark (S : Sat w0 w l) (i : Nat) (t e : TypeId) (x : Operand) {g c N : Nat} {X : Bs} (F : Fr a n L) (hi : l[i]? = some (row e 1 (.slice (some ⟨g, 0, none⟩) N c) N (X.flatMap yC))) (hN : X.length = N) (hl : Nat.ble N 140737488355328 = true) (ho : o.op = .convert t t x) (ht : P.underlying t = some (.slice e)) (he : P.underlying e = some (.int .u8)) (hx : val? L x = some (.slice (some ⟨g, 0, none⟩) N c))
    (hR : ∀ w', Sat w0 w' (l.set i (rdA (some ⟨g, 0, none⟩) c X)) → R (.slice (some ⟨g, 0, none⟩) N c) w') : OpR P a w o R := by
  subst hN
  obtain ⟨F9, hF, h9⟩ := S.step hi
  obtain ⟨rfl, hr⟩ := hF
  have hcap := own_cap hr
  have hrec := Recs.ofRow hr (Nat.le_of_ble_eq_true hl)
  rcases hr.2 with ⟨h1, _⟩ | ⟨g', cap, C, h1, _, hg, _⟩
  · cases h1
  · injection h1 with h1 _ h3
    injection h1 with h1
    injection h1 with h1
    subst h1
    obtain ⟨f1, f2, f3, f4, f5, f6⟩ := freeze_at (k := C.size) hg
    have hsh : w.shape? g = some (e, C.size) := by unfold World.shape?; rw [hg]
    refine op_run (v := .slice (some ⟨g, 0, none⟩) X.length c) (w' := w.freeze ⟨g, C.size, none⟩ 1) ?_ (hR _ (h9 _ _ (fun k => k = g) ⟨?_, hcap, ?_, ?_⟩ ⟨⟨f1, f2, f3, by rw [f4]; exact Nat.le_refl _, fun k _ hk => f6 k fun e => hk (by rw [e]; rfl)⟩, fun k hk => .inl (by rw [hk]; rfl)⟩))
    · unfold execOp
      simp only [ho, F.val hx]
      simp [convert, run_underlying ht, run_underlying he, markStringish, hsh]
    · refine hrec.mono ?_
      intro ad had j u hj
      cases had
      rw [← hrec.src _ rfl j u hj]
      have e1 : (⟨g, 0, none⟩ : Addr).add j = ⟨g, j, none⟩ := by unfold Addr.add; split <;> simp_all
      rw [e1]
      simp [World.cell?, hg, f5]
    · intro ad had _; cases had; rfl
    · rintro k rfl
      exact (Array.getElem?_eq_some_iff.1 f5).1
end
end Go.Proofs.Ytidcdfilfccigaa
