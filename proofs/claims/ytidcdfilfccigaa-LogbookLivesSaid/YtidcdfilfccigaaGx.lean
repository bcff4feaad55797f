/- Frames of which some slots are known, and operations run on them: what a program prints walks with. Plain: over any program. -/
import Derived.Test.YtidcdfilfccigaaRecs
import Derived.Test.YtidcdfilfccigaaFlow
namespace Go.Proofs.Ytidcdfilfccigaa
set_option linter.unusedVariables false
set_option linter.unusedSimpArgs false
set_option linter.unnecessarySimpa false
open Go Go.RowKit

/-- What is known of a frame. -/
def look : List (Nat × Value) → Nat → Option Value
  | [], _ => none
  | (d, v) :: l, s => bif Nat.beq d s then some v else look l s
structure Fr (a : Act) (n : Nat) (L : List (Nat × Value)) : Prop where
  size : a.tmps.size = n
  dfr : a.defers = []
  at_ : ∀ s v, look L s = some v → a.tmps[s]? = some v
def evL (L : List (Nat × Value)) : Operand → Value
  | .tmp s => (look L s).getD undef
  | .const v => v
  | .global g => .pointer (some ⟨g, 0, none⟩)
  | .func f => .func (.func f) #[] #[]
def knows (L : List (Nat × Value)) : Operand → Bool
  | .tmp s => (look L s).isSome
  | _ => true
def noSel : Op → Bool
  | .select _ _ => false
  | _ => true
def knowsO (L : List (Nat × Value)) (o : Oper) : Bool := noSel o.op && o.op.operands.toList.all (knows L)
def putL (d : Option Nat) (v : Value) (L : List (Nat × Value)) : List (Nat × Value) :=
  match d with
  | some d => (d, v) :: L
  | none => L
def fits (d : Option Nat) (n : Nat) : Bool :=
  match d with
  | some d => Nat.blt d n
  | none => true

section
variable {P : Program} {a : Act} {n : Nat} {L : List (Nat × Value)} {o : Oper} {w : World} {v : Value} {ops : Array Oper} {rest : List Oper} {Q : Exit → Act → World → Prop} {K : Act → World → Prop}

theorem look_cons_self (d : Nat) (v : Value) (L : List (Nat × Value)) : look ((d, v) :: L) d = some v := by
  unfold look; rw [Nat.beq_refl]; rfl
theorem look_cons_ne {d s : Nat} (h : d ≠ s) (v : Value) (L : List (Nat × Value)) : look ((d, v) :: L) s = look L s := by
  conv => lhs; unfold look
  have e : Nat.beq d s = false := by
    cases hb : Nat.beq d s with
    | false => rfl
    | true => exact absurd (Nat.eq_of_beq_eq_true hb) h
  rw [e]; rfl
theorem Fr.ev (h : Fr a n L) {x : Operand} (hk : knows L x = true) : a.eval x = evL L x := by
  cases x with
  | tmp s =>
    obtain ⟨u, hu⟩ := Option.isSome_iff_exists.1 hk
    have := h.at_ s u hu
    simp [Act.eval, evL, hu, this]
  | _ => rfl
theorem Fr.exec (h : Fr a n L) (hk : knowsO L o = true) : execOp a.eval o = execOp (evL L) o := by
  unfold knowsO at hk
  rw [Bool.and_eq_true, List.all_eq_true] at hk
  refine execOp_congr o (fun cs b e => ?_) fun x hx => h.ev (hk.2 x (by simpa using hx))
  rw [e] at hk
  simp [noSel] at hk
theorem Fr.put (h : Fr a n L) {d : Option Nat} (v : Value) (hd : fits d n = true) : Fr (a.put d v) n (putL d v L) := by
  cases d with
  | none => exact h
  | some d =>
    have hlt : d < n := by rw [← Nat.blt_eq]; exact hd
    refine ⟨by simp [Act.put, h.size], h.dfr, fun s u hu => ?_⟩
    by_cases hs : d = s
    · subst hs
      rw [show putL (some d) v L = (d, v) :: L from rfl, look_cons_self] at hu
      cases hu
      simp [Act.put, h.size, hlt]
    · rw [show putL (some d) v L = (d, v) :: L from rfl, look_cons_ne hs] at hu
      have := h.at_ s u hu
      simp only [Act.put]
      rw [Array.getElem?_setIfInBounds_ne hs]
      exact this
/-- Less is known. -/
def SubL : List (Nat × Value) → List (Nat × Value) → Prop
  | [], _ => True
  | (s, v) :: l, L => look L s = some v ∧ SubL l L
theorem look_sub : ∀ {l L : List (Nat × Value)}, SubL l L → ∀ s v, look l s = some v → look L s = some v
  | (d, u) :: l, L, h, s, v, hv => by
    by_cases hs : d = s
    · subst hs
      rw [look_cons_self] at hv
      cases hv
      exact h.1
    · rw [look_cons_ne hs] at hv
      exact look_sub h.2 s v hv
theorem Fr.sub (h : Fr a n L) {l : List (Nat × Value)} (hs : SubL l L) : Fr a n l := ⟨h.size, h.dfr, fun s v hv => h.at_ s v (look_sub hs s v hv)⟩

/-- A guard. -/
def wantL (ops : Array Oper) (L : List (Nat × Value)) (o : Oper) : Option Bool :=
  match o.guard with
  | none => some true
  | some (j, want) => match ((ops[j]?).bind (·.dst)).bind (look L) with
    | some (.bool b) => some (b == want)
    | some _ => some false
    | none => none
theorem Fr.want (h : Fr a n L) {b : Bool} (hw : wantL ops L o = some b) : Region.wanted o (yielded ops a.tmps) = b := by
  unfold wantL at hw
  unfold Region.wanted
  cases hg : o.guard with
  | none => rw [hg] at hw; simpa using hw
  | some g =>
    obtain ⟨j, want⟩ := g
    rw [hg] at hw
    simp only at hw ⊢
    unfold yielded
    cases hd : (ops[j]?).bind (·.dst) with
    | none => rw [hd] at hw; simp at hw
    | some d =>
      rw [hd] at hw
      simp only [Option.bind_some] at hw ⊢
      cases hl : look L d with
      | none => rw [hl] at hw; simp at hw
      | some u =>
        rw [hl] at hw
        rw [h.at_ d u hl]
        cases u <;> simp at hw ⊢ <;> exact hw

/-- What an operation yields that looks at no world. -/
def pureOf {α : Type} (P : Program) : Sem α → Option α
  | .pure x => some x
  | .program k => pureOf P (k P)
  | .mark _ k => pureOf P k
  | _ => none
theorem pureOf_run {α : Type} (P : Program) : ∀ (s : Sem α) (x : α), pureOf P s = some x → ∀ w, s.run P w = .ok x w
  | .pure x, y, h, w => by simp [pureOf] at h; subst h; rfl
  | .program k, y, h, w => by unfold pureOf at h; unfold Sem.run; exact pureOf_run P (k P) y h w
  | .mark m k, y, h, w => by unfold pureOf at h; unfold Sem.run; exact pureOf_run P k y h w
  | .load _ _ _, _, h, _ => by simp [pureOf] at h
  | .store _ _ _ _, _, h, _ => by simp [pureOf] at h
  | .new _ _, _, h, _ => by simp [pureOf] at h
  | .shape _ _, _, h, _ => by simp [pureOf] at h
  | .freeze _ _ _, _, h, _ => by simp [pureOf] at h
  | .frozen _ _, _, h, _ => by simp [pureOf] at h
  | .getObj _ _, _, h, _ => by simp [pureOf] at h
  | .setObj _ _ _, _, h, _ => by simp [pureOf] at h
  | .choose _ _, _, h, _ => by simp [pureOf] at h
  | .sys _ _, _, h, _ => by simp [pureOf] at h
  | .halt _, _, h, _ => by simp [pureOf] at h
def valOf : Option Next → Option Value
  | some (.value v) => some v
  | _ => none
def pureV (P : Program) (L : List (Nat × Value)) (o : Oper) : Option Value := bif knowsO L o then valOf (pureOf P (execOp (evL L) o)) else none
theorem pureV_run (h : Fr a n L) (hv : pureV P L o = some v) (w : World) : (execOp a.eval o).run P w = .ok (.value v) w := by
  unfold pureV at hv
  cases hk : knowsO L o with
  | false => rw [hk] at hv; cases hv
  | true =>
    rw [hk] at hv
    rw [h.exec hk]
    simp only [cond_true] at hv
    cases hp : pureOf P (execOp (evL L) o) with
    | none => rw [hp] at hv; cases hv
    | some nx =>
      rw [hp] at hv
      cases nx <;> simp [valOf] at hv
      subst hv
      exact pureOf_run P _ _ hp w
/-- Some operations, one behind the other, that look at no world: what is known behind them. A guard that says no passes its operation over. -/
def pureL (P : Program) (ops : Array Oper) : List Oper → List (Nat × Value) → Nat → Option (List (Nat × Value))
  | [], L, _ => some L
  | o :: os, L, n => match wantL ops L o with
    | some true => match pureV P L o with
      | some v => bif fits o.dst n then pureL P ops os (putL o.dst v L) n else none
      | none => none
    | some false => bif fits o.dst n then pureL P ops os (putL o.dst undef L) n else none
    | none => none

theorem wp_of_run {w' : World} (h : (execOp a.eval o).run P w = .ok (.value v) w') (hk : K (a.put o.dst v) w') : o.wp P a w K Q := by
  unfold Oper.wp; rw [h]; exact hk
theorem wp_of_skip {w' : World} (h : (execOp a.eval o).run P w = .ok .skip w') (hk : K (a.put o.dst undef) w') : o.wp P a w K Q := by
  unfold Oper.wp; rw [h]; exact hk

theorem l_op (F : Fr a n L) (hw : wantL ops L o = some true) (h : o.wp P a w (wpList P ops Q rest) Q) : wpList P ops Q (o :: rest) a w := by
  unfold wpList; rw [if_pos (F.want hw)]; exact .inl h
theorem l_no (F : Fr a n L) (hw : wantL ops L o = some false) (h : wpList P ops Q rest (a.put o.dst undef) w) : wpList P ops Q (o :: rest) a w := by
  unfold wpList; rw [if_neg (by rw [F.want hw]; simp)]; exact h
theorem l_pure' : ∀ (k : Nat) (os : List Oper) {a : Act} {L L' : List (Nat × Value)} (_F : Fr a n L), pureL P ops (os.take k) L n = some L' → (∀ a', Fr a' n L' → wpList P ops Q (os.drop k) a' w) → wpList P ops Q os a w
  | 0, os, a, L, L', F, h, hn => by
    simp [pureL] at h; subst h
    exact hn a F
  | k + 1, [], a, L, L', F, h, hn => by
    simp [pureL] at h; subst h
    exact hn a F
  | k + 1, o :: os, a, L, L', F, h, hn => by
    simp only [List.take_succ_cons, List.drop_succ_cons] at h hn
    unfold pureL at h
    cases hw : wantL ops L o with
    | none => rw [hw] at h; cases h
    | some b =>
      rw [hw] at h
      cases b with
      | true =>
        simp only at h
        cases hv : pureV P L o with
        | none => rw [hv] at h; cases h
        | some v =>
          rw [hv] at h
          simp only at h
          cases hd : fits o.dst n with
          | false => rw [hd] at h; cases h
          | true =>
            rw [hd] at h
            simp only [cond_true] at h
            exact l_op F hw (wp_of_run (pureV_run F hv w) (l_pure' k os (F.put v hd) h hn))
      | false =>
        simp only at h
        cases hd : fits o.dst n with
        | false => rw [hd] at h; cases h
        | true =>
          rw [hd] at h
          simp only [cond_true] at h
          exact l_no F hw (l_pure' k os (F.put undef hd) h hn)
/-- The next k operations look at no world. -/
theorem l_pure (k : Nat) (g : List (Nat × Value) → List (Nat × Value)) {os : List Oper} (F : Fr a n L) (h : pureL P ops (os.take k) L n = some (g L)) (hn : ∀ a', Fr a' n (g L) → wpList P ops Q (os.drop k) a' w) : wpList P ops Q os a w := l_pure' k os F h hn
theorem l_nil (h : Q .normal a w) : wpList P ops Q [] a w := h
/-- An operation whose effect is told apart. -/
theorem l_eff (F : Fr a n L) (hw : wantL ops L o = some true) (hd : fits o.dst n = true) {R : Value → World → Prop} (h : o.wp P a w (fun a' w' => ∃ v, a' = a.put o.dst v ∧ R v w') (fun _ _ _ => False))
    (hn : ∀ v w' a', R v w' → Fr a' n (putL o.dst v L) → wpList P ops Q rest a' w') : wpList P ops Q (o :: rest) a w := by
  refine l_op F hw ?_
  unfold Oper.wp at h ⊢
  have nx : ∀ a' w', (∃ v, a' = a.put o.dst v ∧ R v w') → wpList P ops Q rest a' w' := by
    rintro a' w' ⟨v, rfl, hR⟩
    exact hn v w' _ hR (F.put v hd)
  generalize (execOp a.eval o).run P w = r at h ⊢
  cases r with
  | ok x w' =>
    cases x <;> simp only [Oper.upon] at h ⊢
    case value u => exact nx _ _ h
    case skip => exact nx _ _ h
    case defer d => exact nx _ _ h
    case enter f args =>
      refine Calls.mono h fun e w'' he => ?_
      cases e with
      | returned u => exact nx _ _ he
      | panicked c => exact he.elim
      | outgrown => obtain ⟨_, _, h⟩ := he; exact h.elim
    case row row args => exact Rows.mono h fun u w'' he => nx _ _ he
  | halt x w' =>
    cases x <;> simp only [Oper.upon] at h ⊢
end

/-- A function's beginning. -/
def argsL : Nat → List Value → List (Nat × Value)
  | _, [] => []
  | i, v :: vs => (i, v) :: argsL (i + 1) vs
theorem look_argsL : ∀ (vs : List Value) (i s : Nat) (v : Value), look (argsL i vs) s = some v → i ≤ s ∧ vs[s - i]? = some v
  | u :: vs, i, s, v, h => by
    by_cases hs : i = s
    · subst hs
      rw [argsL, look_cons_self] at h
      cases h
      exact ⟨Nat.le_refl _, by simp⟩
    · rw [argsL, look_cons_ne hs] at h
      obtain ⟨h1, h2⟩ := look_argsL vs (i + 1) s v h
      refine ⟨by omega, ?_⟩
      rw [show s - i = s - (i + 1) + 1 from by omega]
      simpa using h2
theorem enter {P : Program} {f : FuncId} {fn : Func} {c : Code} {args : Array Value} {w : World} {R : Ending → World → Prop} (n : Nat) (hf : P.funcs[f]? = some fn) (hb : fn.body = some c) (hn : fn.ntmps = n) (hle : Nat.ble args.size n = true)
    (h : ∀ a, Fr a n (argsL 0 args.toList) → c.wp P (bodyPost P fn R) a w) : Calls P f args w R := by
  refine calls_of_wp hf hb (h _ ⟨?_, rfl, fun s v hv => ?_⟩)
  · have := Nat.le_of_ble_eq_true hle
    simp; omega
  · obtain ⟨_, h2⟩ := look_argsL _ _ _ _ hv
    simp only [Nat.sub_zero] at h2
    have hlt : s < args.size := by have := (List.getElem?_eq_some_iff.1 h2).1; simpa using this
    show (args ++ Array.replicate (fn.ntmps - args.size) undef)[s]? = some v
    rw [Array.getElem?_append_left hlt]
    simpa using h2

/-- A function's end. -/
def resL (P : Program) (w : World) (L : List (Nat × Value)) : List ResultVar → List Value → Prop
  | [], [] => True
  | .tmp t :: rs, v :: vs => look L t = some v ∧ resL P w L rs vs
  | .cell t T :: rs, v :: vs => (∃ ad, look L t = some (.pointer (some ad)) ∧ (loadVar T ad).run P w = .ok v w) ∧ resL P w L rs vs
  | _, _ => False
def packV (vs : List Value) : Value := match vs with
  | [v] => v
  | vs => .tuple vs.toArray
def rdV (t : Array Value) : ResultVar → Sem Value
  | .tmp s => pure (t.getD s undef)
  | .cell b T => do loadVar T (← asAddr (t.getD b undef))
theorem resL_run {P : Program} {w : World} {a : Act} {n : Nat} {L : List (Nat × Value)} (F : Fr a n L) : ∀ (rs : List ResultVar) (vs : List Value), resL P w L rs vs → (rs.mapM (rdV a.tmps)).run P w = .ok vs w
  | [], [], _ => rfl
  | .tmp t :: rs, v :: vs, h => by
    have h1 : (rdV a.tmps (.tmp t)).run P w = .ok v w := by simp [rdV, F.at_ t v h.1]
    simp only [List.mapM_cons, Sem.run_bind, h1, Result.andThen_ok, resL_run F rs vs h.2, Sem.run_pure]
  | .cell t T :: rs, v :: vs, h => by
    obtain ⟨⟨ad, h1, h2⟩, h3⟩ := h
    have h4 : (rdV a.tmps (.cell t T)).run P w = .ok v w := by simp [rdV, F.at_ t _ h1, asAddr, h2]
    simp only [List.mapM_cons, Sem.run_bind, h4, Result.andThen_ok, resL_run F rs vs h3, Sem.run_pure]
  | [], _ :: _, h => h.elim
  | .tmp _ :: _, [], h => h.elim
  | .cell _ _ :: _, [], h => h.elim
theorem fin_run {P : Program} {w : World} {a : Act} {n : Nat} {L : List (Nat × Value)} {fn : Func} (F : Fr a n L) (rs : List ResultVar) (vs : List Value) (hr : fn.results = rs.toArray) (h : resL P w L rs vs) : (results fn a.tmps).run P w = .ok (packV vs) w := by
  have e : results fn a.tmps = (do let vs ← fn.results.mapM (rdV a.tmps); pure (if h : vs.size = 1 then vs[0] else .tuple vs)) := rfl
  rw [e, hr]
  have h1 := resL_run F rs vs h
  simp only [List.mapM_toArray, Sem.run_bind]
  have h2 : ((Functor.map List.toArray (rs.mapM (rdV a.tmps)) : Sem (Array Value))).run P w = .ok vs.toArray w := by
    rw [← bind_pure_comp]
    simp only [Sem.run_bind, h1]
    rfl
  rw [h2]
  simp only [Result.andThen_ok, Sem.run_pure]
  congr 1
  match vs with
  | [] => rfl
  | [v] => rfl
  | v :: u :: vs => simp [packV]
theorem fin {P : Program} {w : World} {a : Act} {n : Nat} {L : List (Nat × Value)} {fn : Func} {R : Ending → World → Prop} (F : Fr a n L) (rs : List ResultVar) (vs : List Value) (hr : fn.results = rs.toArray) (h : resL P w L rs vs) (v : Value) (hv : packV vs = v) (hR : R (.returned v) w) :
    bodyPost P fn R .ret a w := ⟨F.dfr, v, by rw [← hv]; exact fin_run F rs vs hr h, hR⟩
theorem fin0 {P : Program} {w : World} {a : Act} {n : Nat} {L : List (Nat × Value)} {fn : Func} {R : Ending → World → Prop} (F : Fr a n L) (rs : List ResultVar) (vs : List Value) (hr : fn.results = rs.toArray) (h : resL P w L rs vs) (v : Value) (hv : packV vs = v) (hR : R (.returned v) w) :
    bodyPost P fn R .normal a w := ⟨F.dfr, v, by rw [← hv]; exact fin_run F rs vs hr h, hR⟩
end Go.Proofs.Ytidcdfilfccigaa
