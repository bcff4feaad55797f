/- append(row, src...), where the row is the call's own and the source is any slice, nil let in: at the operation and at the list. And footprints that move. Plain. -/
import Derived.Maps.AppendAt
import Derived.Laws.AppendOwnNone
import Derived.Test.YtcfpbemoocegfaaChg
namespace Go.Proofs.Ytcfpbemoocegfaa
set_option linter.unusedVariables false
set_option linter.unusedSimpArgs false
set_option linter.unnecessarySimpa false
open Go Go.RowKit

theorem wrap64_id {n : Int} (h0 : -9223372036854775808 ≤ n) (h1 : n ≤ 9223372036854775807) : IntKind.i64.wrap n = n := by
  unfold IntKind.wrap; simp [IntKind.bits, IntKind.signed]; omega

/-- The source's cells. -/
def SrcOf (w : World) (A : Option Addr) (news : List Value) : Prop := ∀ ad, A = some ad → ∀ j u, news[j]? = some u → w.cell? (ad.add j) = some u

section
variable {P : Program} {w : World}
theorem wp_append_row {o : Oper} {a : Act} {K : Act → World → Prop} {Q : Exit → Act → World → Prop} (s x : Operand) (t : TypeId)
    (ho : o.op = .call { callee := .builtin .append, args := #[s, x], argTypes := #[t, t] })
    (base : Nat) (e : TypeId) (z : Value) (size bytes : Nat) (ht : P.underlying t = some (.slice e)) (hinfo : (P.info? e).map (fun i => (i.zero, i.size, i.bytes)) = some (some z, size, bytes)) (hzs : z.cells.size = size) (hsz : 0 < size)
    (v : Value) (n : Nat) (xs : List Value) (hs : a.eval s = v) (hown : w.ownsRow base e size v n xs)
    (A : Option Addr) (m c : Nat) (news : List Value) (hx : a.eval x = .slice A m c) (hA : A = none → m = 0 ∧ c = 0) (hl : news.length = m * size) (hnews : SrcOf w A news) (h1 : ∀ u ∈ news, u.oneCell' = true)
    (h63 : n + m ≤ maxLen) (hbytes : (n + m) * bytes ≤ 140737488355328) (hbase : base ≤ w.heap.size)
    (h : ∀ v' w', w'.ownsRow base e size v' (n + m) (xs ++ news) → w.grownBy w' v.ownBlock → (v'.ownBlock = v.ownBlock ∨ v'.ownBlock = some w.heap.size) → K (a.put o.dst v') w') : o.wp P a w K Q := by
  obtain ⟨i, hi, hz, hsize, hby⟩ := info_parts hinfo
  cases A with
  | none =>
    obtain ⟨rfl, rfl⟩ := hA rfl
    have hn : news = [] := List.eq_nil_of_length_eq_zero (by simpa using hl)
    subst hn
    subst hsize
    have hrun := run_append_owned_none (P := P) (w := w) base t o.type e i i.size ht hi v n xs hown
    unfold Oper.wp
    simp [execOp, ho, resolve, invoke, builtin, hs, hx, hrun, Result.andThen]
    exact h v w (by simpa using hown) (World.grownBy.refl _ _) (.inl rfl)
  | some ad =>
    obtain ⟨v', w', hr, h2, h3, _, h5⟩ := run_append_own_at (P := P) w base t o.type e i z size bytes ht hi hz hsize hby hzs hsz v n xs hown ad m c news hl (hnews ad rfl) h1 h63 hbytes hbase
    unfold Oper.wp execOp
    simp only [ho, resolve, invoke, builtin, Sem.run_bind, Sem.run_pure, Result.andThen_ok, List.map_toArray, List.map_cons, List.map_nil, hs, hx, hr]
    exact h v' w' h2 h3 h5

theorem wpList_append_row {ops : Array Oper} {rest : List Oper} {o : Oper} {a : Act} {Q : Exit → Act → World → Prop} (hgd : o.guard = none) (s x : Operand) (t : TypeId)
    (ho : o.op = .call { callee := .builtin .append, args := #[s, x], argTypes := #[t, t] })
    (base : Nat) (e : TypeId) (z : Value) (size bytes : Nat) (ht : P.underlying t = some (.slice e)) (hinfo : (P.info? e).map (fun i => (i.zero, i.size, i.bytes)) = some (some z, size, bytes)) (hzs : z.cells.size = size) (hsz : 0 < size)
    (v : Value) (n : Nat) (xs : List Value) (hs : a.eval s = v) (hown : w.ownsRow base e size v n xs)
    (A : Option Addr) (m c : Nat) (news : List Value) (hx : a.eval x = .slice A m c) (hA : A = none → m = 0 ∧ c = 0) (hl : news.length = m * size) (hnews : SrcOf w A news) (h1 : ∀ u ∈ news, u.oneCell' = true)
    (h63 : n + m ≤ maxLen) (hbytes : (n + m) * bytes ≤ 140737488355328) (hbase : base ≤ w.heap.size)
    (h : ∀ v' w', w'.ownsRow base e size v' (n + m) (xs ++ news) → w.grownBy w' v.ownBlock → (v'.ownBlock = v.ownBlock ∨ v'.ownBlock = some w.heap.size) → wpList P ops Q rest (a.put o.dst v') w') : wpList P ops Q (o :: rest) a w :=
  wpList_plain hgd fun _ hK => wp_append_row s x t ho base e z size bytes ht hinfo hzs hsz v n xs hs hown A m c news hx hA hl hnews h1 h63 hbytes hbase fun v' w' h2 h3 h4 => hK _ _ (h v' w' h2 h3 h4)
end

/-- A call turned blocks of F, and has the blocks F' now: some of F, and new ones. -/
structure Moves (F F' : Nat → Prop) (w w' : World) : Prop where
  chg : Chg F w w'
  foot : ∀ k, F' k → F k ∨ w.heap.size ≤ k
theorem Moves.refl (F : Nat → Prop) (w : World) : Moves F F w w := ⟨Chg.refl _ _, fun _ h => .inl h⟩
theorem Moves.trans {F F' F'' : Nat → Prop} {w w1 w2 : World} (h : Moves F F' w w1) (h' : Moves F' F'' w1 w2) : Moves F F'' w w2 :=
  ⟨h.chg.trans h'.chg fun k hk hg => by rcases h.foot k hg with h1 | h1; exact h1; omega,
   fun k hk => by
    rcases h'.foot k hk with h1 | h1
    · exact h.foot k h1
    · exact .inr (Nat.le_trans h.chg.size h1)⟩
/-- What stands apart stays apart. -/
theorem Moves.apart {F F' G : Nat → Prop} {w w' : World} (h : Moves F F' w w') (hG : ∀ k, G k → k < w.heap.size ∧ ¬ F k) : ∀ k, G k → k < w'.heap.size ∧ ¬ F' k ∧ w'.heap[k]? = w.heap[k]? := by
  intro k hk
  obtain ⟨h1, h2⟩ := hG k hk
  refine ⟨Nat.lt_of_lt_of_le h1 h.chg.size, fun hf => ?_, h.chg.block k h1 h2⟩
  rcases h.foot k hf with h3 | h3
  · exact h2 h3
  · omega

/-- An effect that runs. -/
theorem eff_run {P : Program} {act : Act} {o : Oper} {w w' : World} {K : Act → World → Prop} {Q : Exit → Act → World → Prop} {u : Value} (h : (execOp act.eval o).run P w = .ok (.value u) w') (hk : K (act.put o.dst u) w') : o.wp P act w K Q := by
  unfold Oper.wp; rw [h]; exact hk
theorem eff_skip {P : Program} {act : Act} {o : Oper} {w w' : World} {K : Act → World → Prop} {Q : Exit → Act → World → Prop} (h : (execOp act.eval o).run P w = .ok .skip w') (hk : K (act.put o.dst undef) w') : o.wp P act w K Q := by
  unfold Oper.wp; rw [h]; exact hk
theorem eff_call {P : Program} {act : Act} {o : Oper} {w : World} {K : Act → World → Prop} {Q : Exit → Act → World → Prop} {f : FuncId} {args : Array Value} (h : (execOp act.eval o).run P w = .ok (.enter f args) w)
    (hc : Calls P f args w fun e w' => ∃ v, e = .returned v ∧ K (act.put o.dst v) w') : o.wp P act w K Q := by
  unfold Oper.wp
  rw [h]
  refine Calls.mono hc ?_
  rintro e w' ⟨v, rfl, hk⟩
  exact hk
end Go.Proofs.Ytcfpbemoocegfaa
