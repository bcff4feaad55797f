/- Operations on memory, under Sat: what a program prints walks with. Plain: over any program. -/
import Derived.Test.YtcfpbemoocegfaaGx
import Derived.ChangeKeysEq
namespace Go.Proofs.Ytcfpbemoocegfaa
set_option linter.unusedVariables false
set_option linter.unusedSimpArgs false
set_option linter.unnecessarySimpa false
open Go Go.RowKit

/-- The pointer j cells behind A. -/
def ptrA (A : Option Addr) (j : Nat) : Value := .pointer (A.map (·.add j))
/-- The cell j cells behind A. -/
def cellA (w : World) (A : Option Addr) (j : Nat) (v : Value) : Prop := ∃ ad, A = some ad ∧ w.cell? (ad.add j) = some v
theorem add_add (a : Addr) (i j : Nat) : (a.add i).add j = a.add (i + j) := by
  unfold Addr.add
  by_cases hi : i = 0
  · subst hi; simp
  · by_cases hj : j = 0
    · subst hj; simp
    · simp [hi, hj, Nat.add_assoc]
theorem add_plain (b j : Nat) : (⟨b, 0, none⟩ : Addr).add j = ⟨b, j, none⟩ := by unfold Addr.add; split <;> simp_all
def isOne (P : Program) (T : TypeId) : Bool := match P.underlying T with
  | some (.struct _) => false
  | some (.array _ _) => false
  | none => false
  | _ => true
def isAggT (P : Program) (T : TypeId) : Bool := match P.underlying T with
  | some (.struct _) => true
  | some (.array _ _) => true
  | _ => false
def sizeT (P : Program) (T : TypeId) : Option Nat := (P.info? T).map (·.size)
def val? (L : List (Nat × Value)) : Operand → Option Value
  | .tmp s => look L s
  | .const v => some v
  | .global g => some (.pointer (some ⟨g, 0, none⟩))
  | .func f => some (.func (.func f) #[] #[])

section
variable {P : Program} {a : Act} {n : Nat} {L : List (Nat × Value)} {o : Oper} {w : World} {v : Value} {R : Value → World → Prop}

theorem Fr.val (h : Fr a n L) {x : Operand} (hk : val? L x = some v) : a.eval x = v := by
  cases x with
  | tmp s => simp only [val?] at hk; simp [Act.eval, h.at_ s v hk]
  | const u => simp only [val?] at hk; cases hk; rfl
  | global g => simp only [val?] at hk; cases hk; rfl
  | func f => simp only [val?] at hk; cases hk; rfl

/-- An operation that does R. -/
def OpR (P : Program) (a : Act) (w : World) (o : Oper) (R : Value → World → Prop) : Prop := o.wp P a w (fun a' w' => ∃ v, a' = a.put o.dst v ∧ R v w') (fun _ _ _ => False)
theorem op_run {w' : World} (h : (execOp a.eval o).run P w = .ok (.value v) w') (hR : R v w') : OpR P a w o R := wp_of_run h ⟨v, rfl, hR⟩
theorem op_skip {w' : World} (h : (execOp a.eval o).run P w = .ok .skip w') (hR : R undef w') : OpR P a w o R := wp_of_skip h ⟨undef, rfl, hR⟩
theorem op_call {f : FuncId} {args : Array Value} {C : Ending → World → Prop} (h : (execOp a.eval o).run P w = .ok (.enter f args) w) (hc : Calls P f args w C) (hR : ∀ e w', C e w' → ∃ v, e = .returned v ∧ R v w') : OpR P a w o R := by
  unfold OpR Oper.wp
  rw [h]
  refine Calls.mono hc ?_
  intro e w' he
  obtain ⟨v, rfl, h⟩ := hR e w' he
  exact ⟨v, rfl, h⟩
theorem OpR.mono {R' : Value → World → Prop} (h : OpR P a w o R) (hr : ∀ v w', R v w' → R' v w') : OpR P a w o R' :=
  Oper.wp_mono (fun _ _ ⟨v, h1, h2⟩ => ⟨v, h1, hr v _ h2⟩) h
/-- The next operation. -/
theorem l_do {ops : Array Oper} {rest : List Oper} {Q : Exit → Act → World → Prop} (F : Fr a n L) (hw : wantL ops L o = some true) (hd : fits o.dst n = true)
    (h : OpR P a w o (fun v w' => ∀ a', Fr a' n (putL o.dst v L) → wpList P ops Q rest a' w')) : wpList P ops Q (o :: rest) a w :=
  l_eff F hw hd (R := fun v w' => ∀ a', Fr a' n (putL o.dst v L) → wpList P ops Q rest a' w') h fun _ _ a' hR hF => hR a' hF

theorem op_pure (F : Fr a n L) {v0 : Value} (hv : pureV P L o = some v0) (he : v0 = v) (hR : R v w) : OpR P a w o R := op_run (pureV_run F hv w) (he ▸ hR)
def entOf : Option Next → Option (FuncId × Array Value)
  | some (.enter f args) => some (f, args)
  | _ => none
def callV (P : Program) (L : List (Nat × Value)) (o : Oper) : Option (FuncId × Array Value) := bif knowsO L o then entOf (pureOf P (execOp (evL L) o)) else none
theorem callV_run (h : Fr a n L) {f : FuncId} {args : Array Value} (hv : callV P L o = some (f, args)) (w : World) : (execOp a.eval o).run P w = .ok (.enter f args) w := by
  unfold callV at hv
  cases hk : knowsO L o with
  | false => rw [hk] at hv; cases hv
  | true =>
    rw [hk] at hv
    rw [h.exec hk]
    simp only [cond_true] at hv
    cases hp : pureOf P (execOp (evL L) o) with
    | none => rw [hp] at hv; cases hv
    | some nx =>
      rw [hp] at hv
      cases nx <;> simp [entOf] at hv
      obtain ⟨rfl, rfl⟩ := hv
      exact pureOf_run P _ _ hp w
theorem op_fn (F : Fr a n L) {f : FuncId} {args : Array Value} (hv : callV P L o = some (f, args)) {C : Ending → World → Prop} (hc : Calls P f args w C) (hR : ∀ e w', C e w' → ∃ v, e = .returned v ∧ R v w') : OpR P a w o R :=
  op_call (callV_run F hv w) hc hR

theorem tinfo {T : TypeId} {i : TypeInfo} (h : P.info? T = some i) {w : World} : (typeInfo T).run P w = .ok i w := run_typeInfo w h
theorem underlying_some {T : TypeId} {d : TypeDesc} (h : P.underlying T = some d) : ∃ i, P.info? T = some i := by
  unfold Program.underlying at h
  cases hi : P.info? T with
  | none => simp [hi] at h
  | some i => exact ⟨i, rfl⟩
theorem run_isAgg {T : TypeId} {b : Bool} (h : (match P.underlying T with | some (.struct _) | some (.array _ _) => some true | some _ => some false | none => none) = some b) (w : World) : (isAgg T).run P w = .ok b w := by
  unfold isAgg
  cases hu : P.underlying T with
  | none => rw [hu] at h; cases h
  | some d =>
    rw [hu] at h
    rw [Sem.run_bind, run_underlying hu w]
    cases d <;> simp at h <;> subst h <;> rfl
theorem run_load1 {T : TypeId} {A : Option Addr} {j : Nat} (hT : isOne P T = true) (hc : cellA w A j v) : ∃ ad, A = some ad ∧ (loadVar T (ad.add j)).run P w = .ok v w := by
  obtain ⟨ad, rfl, hc⟩ := hc
  refine ⟨ad, rfl, ?_⟩
  have h1 : (isAgg T).run P w = .ok false w := by
    refine run_isAgg ?_ w
    unfold isOne at hT
    revert hT
    cases hu : P.underlying T with
    | none => simp
    | some d => cases d <;> simp
  unfold loadVar
  simp only [Sem.run_bind, h1, Result.andThen_ok, Bool.false_eq_true, if_false]
  simp [hc]
theorem run_loadK {T : TypeId} {A : Option Addr} {j : Nat} {cs : List Value} (hT : isAggT P T = true) (hs : sizeT P T = some cs.length) (hne : cs ≠ []) (hc : ∀ i u, cs[i]? = some u → cellA w A (j + i) u) : ∃ ad, A = some ad ∧ (loadVar T (ad.add j)).run P w = .ok (.agg cs.toArray) w := by
  obtain ⟨u, us, rfl⟩ := List.exists_cons_of_ne_nil hne
  obtain ⟨ad, rfl, _⟩ := hc 0 u rfl
  refine ⟨ad, rfl, ?_⟩
  have h1 : (isAgg T).run P w = .ok true w := by
    refine run_isAgg ?_ w
    unfold isAggT at hT
    revert hT
    cases hu : P.underlying T with
    | none => simp
    | some d => cases d <;> simp
  unfold sizeT at hs
  cases hi : P.info? T with
  | none => rw [hi] at hs; cases hs
  | some i =>
    rw [hi] at hs
    simp only [Option.map_some, Option.some.injEq] at hs
    have hl := run_loadCells_list (P := P) w (ad.add j) (u :: us) (fun i x hx => by
      obtain ⟨ad', he, h⟩ := hc i x hx
      cases he
      rw [add_add]; exact h)
    unfold loadVar
    simp only [Sem.run_bind, h1, Result.andThen_ok, if_true]
    simp only [sizeOf, Sem.run_bind, tinfo hi, Result.andThen_ok, Sem.run_pure, hs, hl]
theorem exec_load {T : TypeId} {x : Operand} {ad : Addr} {j : Nat} (ho : o.op = .load T x) (F : Fr a n L) (hx : val? L x = some (ptrA (some ad) j)) (h : (loadVar T (ad.add j)).run P w = .ok v w) : (execOp a.eval o).run P w = .ok (.value v) w := by
  unfold execOp
  simp only [ho, F.val hx]
  simp [ptrA, Instr.loadAt, Instr.sureAddr, h]
/-- A load of one cell. -/
theorem op_load (T : TypeId) (x : Operand) (A : Option Addr) (j : Nat) (v : Value) (F : Fr a n L) (ho : o.op = .load T x) (hx : val? L x = some (ptrA A j)) (hT : isOne P T = true) (hc : cellA w A j v) (hR : R v w) : OpR P a w o R := by
  obtain ⟨ad, rfl, h⟩ := run_load1 hT hc
  exact op_run (exec_load ho F hx h) hR
/-- A load of a struct or an array. -/
theorem op_loadK (T : TypeId) (x : Operand) (A : Option Addr) (j : Nat) (cs : List Value) (F : Fr a n L) (ho : o.op = .load T x) (hx : val? L x = some (ptrA A j)) (hT : isAggT P T = true) (hs : sizeT P T = some cs.length) (hne : cs ≠ []) (hc : ∀ i u, cs[i]? = some u → cellA w A (j + i) u)
    (hR : R (.agg cs.toArray) w) : OpR P a w o R := by
  obtain ⟨ad, rfl, h⟩ := run_loadK hT hs hne hc
  exact op_run (exec_load ho F hx h) hR
/-- Which place a field has. -/
def fieldOff (P : Program) (T : TypeId) (f : Nat) : Option Nat := match P.underlying T with
  | some (.struct fs) => match fs[f]? with
    | some fd => match P.info? fd.type with
      | some i => bif Nat.beq i.size 0 then none else some fd.offset
      | none => none
    | none => none
  | _ => none
theorem op_field (T : TypeId) (x : Operand) (f : Nat) (A : Option Addr) (j off : Nat) (F : Fr a n L) (ho : o.op = .fieldAddr T x f) (hx : val? L x = some (ptrA A j)) (hf : fieldOff P T f = some off) (hA : A.isSome = true) (hR : R (ptrA A (j + off)) w) : OpR P a w o R := by
  obtain ⟨ad, rfl⟩ := Option.isSome_iff_exists.1 hA
  refine op_run (v := ptrA (some ad) (j + off)) (w' := w) ?_ hR
  unfold fieldOff at hf
  cases hu : P.underlying T with
  | none => rw [hu] at hf; cases hf
  | some d =>
    rw [hu] at hf
    cases d <;> simp only at hf <;> try (cases hf; done)
    rename_i fs
    cases hfd : fs[f]? with
    | none => rw [hfd] at hf; cases hf
    | some fd =>
      rw [hfd] at hf
      simp only at hf
      cases hi : P.info? fd.type with
      | none => rw [hi] at hf; cases hf
      | some i =>
        rw [hi] at hf
        simp only at hf
        cases hz : Nat.beq i.size 0 with
        | true => rw [hz] at hf; cases hf
        | false =>
          rw [hz] at hf
          simp only [cond_false, Option.some.injEq] at hf
          have hne : ¬ i.size = 0 := fun e => by rw [e] at hz; cases hz
          unfold execOp
          simp only [ho, F.val hx]
          simp [ptrA, Instr.fieldAt, run_underlying hu, hfd, Instr.sureAddr, fieldPlace, sizeOf, tinfo hi, hne, add_add, hf]
theorem op_index (T e : TypeId) (x ix : Operand) (A : Option Addr) (N c m k : Nat) (kd : IntKind) (F : Fr a n L) (ho : o.op = .indexAddr T x ix) (hT : P.underlying T = some (.slice e)) (hk : sizeT P e = some k) (hx : val? L x = some (.slice A N c)) (hi : val? L ix = some (.int kd (m : Int)))
    (hm : m < N) (hA : A.isSome = true) (hR : R (ptrA A (m * k)) w) : OpR P a w o R := by
  obtain ⟨ad, rfl⟩ := Option.isSome_iff_exists.1 hA
  refine op_run (v := ptrA (some ad) (m * k)) (w' := w) ?_ hR
  unfold sizeT at hk
  cases hi' : P.info? e with
  | none => rw [hi'] at hk; cases hk
  | some i =>
    rw [hi'] at hk
    simp only [Option.map_some, Option.some.injEq] at hk
    unfold execOp
    simp only [ho, F.val hx, F.val hi]
    simp [ptrA, Instr.indexAt, asIntOf, run_underlying hT, hm, sizeOf, tinfo hi', hk]
/-- The address of an element of an array. -/
theorem op_indexArr (T e : TypeId) (x ix : Operand) (A : Option Addr) (j N m k : Nat) (kd : IntKind) (F : Fr a n L) (ho : o.op = .indexAddr T x ix) (hT : P.underlying T = some (.array N e)) (hk : sizeT P e = some k) (hx : val? L x = some (ptrA A j)) (hi : val? L ix = some (.int kd (m : Int)))
    (hm : m < N) (hA : A.isSome = true) (hR : R (ptrA A (j + m * k)) w) : OpR P a w o R := by
  obtain ⟨ad, rfl⟩ := Option.isSome_iff_exists.1 hA
  refine op_run (v := ptrA (some ad) (j + m * k)) (w' := w) ?_ hR
  unfold sizeT at hk
  cases hi' : P.info? e with
  | none => rw [hi'] at hk; cases hk
  | some i =>
    rw [hi'] at hk
    simp only [Option.map_some, Option.some.injEq] at hk
    unfold execOp
    simp only [ho, F.val hx, F.val hi]
    simp [ptrA, Instr.indexAt, asIntOf, run_underlying hT, hm, sizeOf, tinfo hi', hk, Instr.sureAddr, add_add]
end

section
variable {w0 w : World} {l : List Asn}
/-- Cells of things. -/
theorem cBox (S : Sat w0 w l) (i : Nat) {b : Nat} {T : TypeId} {cs : List Value} (hi : l[i]? = some (box b T cs)) {j : Nat} {v : Value} (hj : cs[j]? = some v) : cellA w (some ⟨b, 0, none⟩) j v := by
  refine ⟨_, rfl, ?_⟩
  rw [add_plain]
  simp [World.cell?, S.boxOf hi, hj]
theorem src_cell {A : Option Addr} {xs : List Value} (hs : SrcOf w A xs) (hA : A = none → xs = []) {j : Nat} {v : Value} (hj : xs[j]? = some v) : cellA w A j v := by
  cases A with
  | none => rw [hA rfl] at hj; cases hj
  | some ad => exact ⟨ad, rfl, hs ad rfl j v hj⟩
theorem cRow (S : Sat w0 w l) (i : Nat) {T : TypeId} {k : Nat} {A : Option Addr} {n c : Nat} {xs : List Value} (hi : l[i]? = some (row T k (.slice A n c) n xs)) {j : Nat} {v : Value} (hj : xs[j]? = some v) : cellA w A j v := by
  have h := S.rowOf hi
  refine src_cell (src_row h) (fun e => ?_) hj
  have h1 := (row_none h e).1
  rcases h.2 with ⟨_, h2⟩ | ⟨g, cap, cur, h2, _⟩
  · have := h.1
    exact List.eq_nil_of_length_eq_zero (by rw [h.1, h1]; simp)
  · exact List.eq_nil_of_length_eq_zero (by rw [h.1, h1]; simp)
theorem get_some {α : Type} {X : List α} {m : Nat} {e : α} (hm : X[m]? = some e) : ∃ h : m < X.length, X[m] = e := List.getElem?_eq_some_iff.1 hm
theorem cRec (S : Sat w0 w l) (i : Nat) {α : Type} {T : TypeId} {k : Nat} {f : α → List Value} (hf : ∀ x, (f x).length = k) {A : Option Addr} {n c : Nat} {X : List α} (hi : l[i]? = some (row T k (.slice A n c) n (X.flatMap f))) {m : Nat} (t : Nat) {e : α} (hm : X[m]? = some e) {v : Value} (hj : (f e)[t]? = some v) : cellA w A (m * k + t) v := by
  have ht : t < k := by have := (List.getElem?_eq_some_iff.1 hj).1; rwa [hf] at this
  obtain ⟨hm2, rfl⟩ := get_some hm
  exact cRow S i hi ((recs_at hf hm2 ht).trans hj)
theorem recs_cell {α : Type} {k : Nat} {f : α → List Value} (hf : ∀ x, (f x).length = k) {A : Option Addr} {c : Nat} {X : List α} (h : Recs k f w A c X) {m : Nat} (t : Nat) {e : α} (hm : X[m]? = some e) {v : Value} (hj : (f e)[t]? = some v) : cellA w A (m * k + t) v := by
  have ht : t < k := by have := (List.getElem?_eq_some_iff.1 hj).1; rwa [hf] at this
  obtain ⟨hm2, rfl⟩ := get_some hm
  refine src_cell h.src (fun e => ?_) ((recs_at hf hm2 ht).trans hj)
  have := (h.none_ e).1
  omega
theorem cOld (S : Sat w0 w l) (i : Nat) {α : Type} {k : Nat} {f : α → List Value} (hf : ∀ x, (f x).length = k) {A : Option Addr} {c : Nat} {X : List α} (h : Recs k f w0 A c X) (hi : l[i]? = some (rest w0 (· < w0.heap.size))) {m : Nat} (t : Nat) {e : α} (hm : X[m]? = some e) {v : Value} (hj : (f e)[t]? = some v) : cellA w A (m * k + t) v :=
  recs_cell hf (h.mono (src_rest S hi h.src (src_lt h.src))) t hm hj
theorem get_lt {α : Type} {X : List α} {m : Nat} {e : α} (hm : X[m]? = some e) : m < X.length := (get_some hm).1
theorem recs_some {α : Type} {k : Nat} {f : α → List Value} {A : Option Addr} {c : Nat} {X : List α} (h : Recs k f w A c X) {m : Nat} (hm : m < X.length) : A.isSome = true := by
  cases A with
  | none => have := (h.none_ rfl).1; omega
  | some _ => rfl
theorem row_some (S : Sat w0 w l) (i : Nat) {T : TypeId} {k : Nat} {A : Option Addr} {n c : Nat} {xs : List Value} (hi : l[i]? = some (row T k (.slice A n c) n xs)) {m : Nat} (hm : m < n) : A.isSome = true := by
  cases A with
  | none => have := (row_none (S.rowOf hi) rfl).1; omega
  | some _ => rfl
/-- Cells from j on, replaced. -/
def setAt : List Value → Nat → List Value → List Value
  | cs, _, [] => cs
  | cs, j, v :: vs => setAt (cs.set j v) (j + 1) vs
theorem setAt_len : ∀ (vs cs : List Value) (j : Nat), (setAt cs j vs).length = cs.length
  | [], cs, j => rfl
  | v :: vs, cs, j => by rw [setAt, setAt_len vs]; simp
theorem run_store1 {P : Program} {a : Addr} {u v : Value} (hc : w.cell? a = some u) (hf : w.frozen? a = false) (hv : v.oneCell' = true) : (store a v).run P w = .ok () (w.setCell a v) := by
  rw [run_store P w a v _ hv]; simp [hc, hf]
/-- A store into a box. -/
theorem Sat.storeBox {P : Program} {i b : Nat} {T : TypeId} : ∀ (vs : List Value) (t : Nat) (w : World) (l : List Asn) (cs : List Value) (_ : Sat w0 w l) (_ : l[i]? = some (box b T cs)) (_ : (vs.all (·.oneCell')) = true) (j : Nat) (_ : j + t + vs.length ≤ cs.length),
    ∃ w', (storeCells ⟨b, j, none⟩ vs t).run P w = .ok () w' ∧ Sat w0 w' (l.set i (box b T (setAt cs (j + t) vs)))
  | [], t, w, l, cs, S, hi, _, j, _ => ⟨w, rfl, by rw [setAt, set_self hi]; exact S⟩
  | v :: vs, t, w, l, cs, S, hi, hv, j, hl => by
    simp only [List.all_cons, Bool.and_eq_true] at hv
    simp only [List.length_cons] at hl
    have hh := S.boxOf hi
    have hadd : (⟨b, j, none⟩ : Addr).add t = ⟨b, j + t, none⟩ := by unfold Addr.add; split <;> simp_all
    have hlt : j + t < cs.length := by omega
    have h1 := run_store1 (P := P) (w := w) (a := ⟨b, j + t, none⟩) (u := cs[j + t]) (v := v) (by simp [World.cell?, hh, hlt]) (by simp [World.frozen?, hh]) hv.1
    have S1 := S.set i hi (j + t) v
    have hil : i < l.length := (List.getElem?_eq_some_iff.1 hi).1
    obtain ⟨w', h2, S2⟩ := Sat.storeBox (P := P) vs (t + 1) _ _ (cs.set (j + t) v) S1 (List.getElem?_set_self hil) hv.2 j (by simp; omega)
    refine ⟨w', ?_, ?_⟩
    · unfold storeCells
      simp only [Sem.run_bind, hadd, h1, Result.andThen_ok, h2]
    · rw [List.set_set] at S2
      rw [setAt, Nat.add_assoc]
      exact S2
theorem row_addr (S : Sat w0 w l) {i : Nat} {T : TypeId} {k : Nat} {A : Option Addr} {n c : Nat} {xs : List Value} (hi : l[i]? = some (row T k (.slice A n c) n xs)) {j : Nat} (hj : j < xs.length) :
    ∃ g, A = some ⟨g, 0, none⟩ ∧ w.cell? ⟨g, j, none⟩ = some xs[j] ∧ w.frozen? ⟨g, j, none⟩ = false := by
  have h := S.rowOf hi
  rcases h.2 with ⟨h1, h2⟩ | ⟨g, cap, cur, h1, _, h3, _⟩
  · have h4 := h.1
    subst h2
    simp at h4
    subst h4
    simp at hj
  · injection h1 with h1
    subst h1
    refine ⟨g, rfl, ?_, by simp [World.frozen?, h3]⟩
    have h5 := h.cells (g := g) rfl j _ (List.getElem?_eq_getElem hj)
    rwa [add_plain] at h5
/-- A store into a row. -/
theorem Sat.storeRow {P : Program} {i : Nat} {T : TypeId} {k n c g : Nat} : ∀ (vs : List Value) (t : Nat) (w : World) (l : List Asn) (xs : List Value) (_ : Sat w0 w l) (_ : l[i]? = some (row T k (.slice (some ⟨g, 0, none⟩) n c) n xs)) (_ : (vs.all (·.oneCell')) = true) (j : Nat) (_ : j + t + vs.length ≤ xs.length),
    ∃ w', (storeCells ⟨g, j, none⟩ vs t).run P w = .ok () w' ∧ Sat w0 w' (l.set i (row T k (.slice (some ⟨g, 0, none⟩) n c) n (setAt xs (j + t) vs)))
  | [], t, w, l, xs, S, hi, _, j, _ => ⟨w, rfl, by rw [setAt, set_self hi]; exact S⟩
  | v :: vs, t, w, l, xs, S, hi, hv, j, hl => by
    simp only [List.all_cons, Bool.and_eq_true] at hv
    simp only [List.length_cons] at hl
    have hadd : (⟨g, j, none⟩ : Addr).add t = ⟨g, j + t, none⟩ := by unfold Addr.add; split <;> simp_all
    have hlt : j + t < xs.length := by omega
    obtain ⟨g', he, hc, hf⟩ := row_addr S hi hlt
    cases he
    have h1 := run_store1 (P := P) (w := w) (a := ⟨g, j + t, none⟩) (v := v) hc hf hv.1
    have S1 := S.setRow i hi (j + t) hlt v
    have hil : i < l.length := (List.getElem?_eq_some_iff.1 hi).1
    obtain ⟨w', h2, S2⟩ := Sat.storeRow (P := P) vs (t + 1) _ _ (xs.set (j + t) v) S1 (List.getElem?_set_self hil) hv.2 j (by simp; omega)
    refine ⟨w', ?_, ?_⟩
    · unfold storeCells
      simp only [Sem.run_bind, hadd, h1, Result.andThen_ok, h2]
    · rw [List.set_set] at S2
      rw [setAt, Nat.add_assoc]
      exact S2
theorem setAt_right : ∀ (vs p q : List Value) (j : Nat), setAt (p ++ q) (p.length + j) vs = p ++ setAt q j vs
  | [], p, q, j => rfl
  | v :: vs, p, q, j => by
    rw [setAt, setAt, List.set_append_right _ _ (by omega), Nat.add_sub_cancel_left, Nat.add_assoc]
    exact setAt_right vs p _ _
theorem setAt_left : ∀ (vs p q : List Value), p.length = vs.length → setAt (p ++ q) 0 vs = vs ++ q
  | [], p, q, h => by rw [List.eq_nil_of_length_eq_zero (l := p) (by simpa using h)]; rfl
  | v :: vs, [], q, h => by simp at h
  | v :: vs, u :: p, q, h => by
    rw [setAt, List.cons_append, List.set_cons_zero]
    have h1 := setAt_right vs [v] (p ++ q) 0
    simp only [List.length_singleton, Nat.add_zero, List.singleton_append] at h1
    rw [show 0 + 1 = 1 from rfl, h1, setAt_left vs p q (by simpa using h)]
    rfl
theorem setAt_recs {α : Type} {k : Nat} {f : α → List Value} (hf : ∀ x, (f x).length = k) : ∀ {X : List α} {m : Nat} (_ : m < X.length) (y : α), setAt (X.flatMap f) (m * k) (f y) = (X.set m y).flatMap f
  | x :: X, 0, _, y => by
    rw [Nat.zero_mul, List.flatMap_cons, setAt_left _ _ _ (by rw [hf, hf]), List.set_cons_zero, List.flatMap_cons]
  | x :: X, m + 1, h, y => by
    rw [Nat.succ_mul, Nat.add_comm, List.flatMap_cons, ← hf x, setAt_right, hf x, setAt_recs hf (by simpa using h) y, List.set_cons_succ, List.flatMap_cons]
  | [], _, h, _ => by simp at h
/-- A field of a record. -/
theorem setAt_field {α : Type} {k : Nat} {f : α → List Value} (hf : ∀ x, (f x).length = k) {X : List α} {m : Nat} (hm : m < X.length) {t : Nat} {vs : List Value} (y : α) (hy : setAt (f X[m]) t vs = f y) (ht : t + vs.length ≤ k) : setAt (X.flatMap f) (m * k + t) vs = (X.set m y).flatMap f := by
  have key : ∀ (vs : List Value) (c : List Value) (t j : Nat) (Y : List Value), j + c.length ≤ Y.length → t + vs.length ≤ c.length → (Y.drop j).take c.length = c → setAt Y (j + t) vs = setAt Y j (setAt c t vs) := by
    intro vs
    induction vs with
    | nil =>
      intro c t j Y h1 _ h3
      rw [setAt, setAt]
      have e : Y = Y.take j ++ (c ++ Y.drop (j + c.length)) := by
        conv => lhs; rw [← List.take_append_drop j Y, ← List.take_append_drop c.length (Y.drop j), h3, List.drop_drop]
      have hl : (Y.take j).length = j := by simp; omega
      have h4 := setAt_right c (Y.take j) (c ++ Y.drop (j + c.length)) 0
      rw [hl, Nat.add_zero, setAt_left c c _ rfl, ← e] at h4
      exact h4.symm
    | cons v vs ih =>
      intro c t j Y h1 h2 h3
      simp only [List.length_cons] at h2
      rw [setAt, setAt]
      have h5 := ih (c.set t v) (t + 1) j (Y.set (j + t) v) (by simp; omega) (by simp; omega) (by
        rw [List.length_set]
        have e : Y = Y.take j ++ (c ++ Y.drop (j + c.length)) := by
          conv => lhs; rw [← List.take_append_drop j Y, ← List.take_append_drop c.length (Y.drop j), h3, List.drop_drop]
        have hl : (Y.take j).length = j := by simp; omega
        conv => lhs; rw [e, List.set_append_right _ _ (by omega), hl, Nat.add_sub_cancel_left, List.set_append_left _ _ (by omega)]
        rw [List.drop_append_of_le_length (by omega), List.drop_of_length_le (by omega), List.nil_append, List.take_append_of_le_length (by simp), List.take_of_length_le (by simp)])
      rw [← Nat.add_assoc] at h5
      rw [h5]
      have e : Y = Y.take j ++ (c ++ Y.drop (j + c.length)) := by
        conv => lhs; rw [← List.take_append_drop j Y, ← List.take_append_drop c.length (Y.drop j), h3, List.drop_drop]
      have hl : (Y.take j).length = j := by simp; omega
      generalize hz : setAt (c.set t v) (t + 1) vs = z
      have hzl : z.length = c.length := by rw [← hz, setAt_len]; simp
      have a1 := setAt_right z (Y.take j) (c ++ Y.drop (j + c.length)) 0
      rw [hl, Nat.add_zero, setAt_left z c _ hzl.symm, ← e] at a1
      have e2 : Y.set (j + t) v = Y.take j ++ (c.set t v ++ Y.drop (j + c.length)) := by
        conv => lhs; rw [e, List.set_append_right _ _ (by omega), hl, Nat.add_sub_cancel_left, List.set_append_left _ _ (by omega)]
      have a2 := setAt_right z (Y.take j) (c.set t v ++ Y.drop (j + c.length)) 0
      rw [hl, Nat.add_zero, setAt_left z _ _ (by rw [hzl]; simp), ← e2] at a2
      rw [a1, a2]
  have h1 : (m + 1) * k ≤ X.length * k := Nat.mul_le_mul_right k hm
  rw [Nat.succ_mul] at h1
  rw [key vs (f X[m]) t (m * k) (X.flatMap f) (by rw [hf, recs_len hf]; omega) (by rw [hf]; exact ht) (by
    apply List.ext_getElem?
    intro i
    by_cases hi : i < k
    · rw [hf, List.getElem?_take_of_lt hi, List.getElem?_drop]
      exact recs_at hf hm hi
    · rw [List.getElem?_eq_none (by simp [hf]; omega), List.getElem?_eq_none (by rw [hf]; omega)]), hy, setAt_recs hf hm]
end

section
variable {P : Program} {a : Act} {n : Nat} {L : List (Nat × Value)} {o : Oper} {w0 w : World} {v : Value} {R : Value → World → Prop} {l : List Asn}
theorem run_storeVar {T : TypeId} {ad : Addr} {w' : World} (hs : sizeT P T = some v.cells.toList.length) (h : (storeCells ad v.cells.toList).run P w = .ok () w') : (storeVar T ad v).run P w = .ok () w' := by
  unfold sizeT at hs
  cases hi : P.info? T with
  | none => rw [hi] at hs; cases hs
  | some i =>
    rw [hi] at hs
    simp only [Option.map_some, Option.some.injEq] at hs
    have : v.cells.size = i.size := by rw [hs]; simp
    unfold storeVar
    simp only [sizeOf, Sem.run_bind, tinfo hi, Result.andThen_ok, Sem.run_pure, this, ne_eq, not_true_eq_false, if_false]
    exact h
theorem exec_store {T : TypeId} {x y : Operand} {ad : Addr} {w' : World} (ho : o.op = .store T x y) (F : Fr a n L) (hx : val? L x = some (.pointer (some ad))) (hy : val? L y = some v) (h : (storeVar T ad v).run P w = .ok () w') : (execOp a.eval o).run P w = .ok .skip w' := by
  unfold execOp
  simp only [ho, F.val hx, F.val hy]
  simp [Instr.storeAt, Instr.sureAddr, h]
/-- A store into a box. -/
theorem op_storeB (S : Sat w0 w l) (i : Nat) (T : TypeId) (x y : Operand) (b j : Nat) (v : Value) {Tb : TypeId} {cs : List Value} (F : Fr a n L) (hi : l[i]? = some (box b Tb cs)) (ho : o.op = .store T x y) (hx : val? L x = some (.pointer (some ⟨b, j, none⟩))) (hy : val? L y = some v)
    (hs : sizeT P T = some v.cells.toList.length) (h1 : (v.cells.toList.all (·.oneCell')) = true) (hl : Nat.ble (j + v.cells.toList.length) cs.length = true) (hR : ∀ w', Sat w0 w' (l.set i (box b Tb (setAt cs j v.cells.toList))) → R undef w') : OpR P a w o R := by
  obtain ⟨w', h2, S2⟩ := Sat.storeBox (P := P) v.cells.toList 0 w l cs S hi h1 j (by simpa using Nat.le_of_ble_eq_true hl)
  exact op_skip (exec_store ho F hx hy (run_storeVar hs h2)) (hR w' S2)
/-- A store into a row. -/
theorem op_storeR (S : Sat w0 w l) (i : Nat) (T : TypeId) (x y : Operand) (A : Option Addr) (j : Nat) (v : Value) {Tr : TypeId} {k N c : Nat} {xs : List Value} (F : Fr a n L) (hi : l[i]? = some (row Tr k (.slice A N c) N xs)) (ho : o.op = .store T x y) (hx : val? L x = some (ptrA A j)) (hy : val? L y = some v)
    (hs : sizeT P T = some v.cells.toList.length) (hne : v.cells.toList ≠ []) (h1 : (v.cells.toList.all (·.oneCell')) = true) (hl : j + v.cells.toList.length ≤ xs.length) (hR : ∀ w', Sat w0 w' (l.set i (row Tr k (.slice A N c) N (setAt xs j v.cells.toList))) → R undef w') : OpR P a w o R := by
  have hlt : j < xs.length := by
    have : v.cells.toList.length ≠ 0 := fun e => hne (List.eq_nil_of_length_eq_zero e)
    omega
  obtain ⟨g, rfl, _, _⟩ := row_addr S hi hlt
  obtain ⟨w', h2, S2⟩ := Sat.storeRow (P := P) v.cells.toList 0 w l xs S hi h1 j (by omega)
  have hx' : val? L x = some (.pointer (some ⟨g, j, none⟩)) := by rw [hx, ptrA, Option.map_some, add_plain]
  exact op_skip (exec_store ho F hx' hy (run_storeVar hs h2)) (hR w' S2)
/-- A new thing at an empty place. -/
theorem Sat.fillBox (S : Sat w0 w l) (i : Nat) (hi : l[i]? = some emp) (cs : Array Value) (T : TypeId) : Sat w0 (w.alloc (.cells cs T)) (l.set i (box w.heap.size T cs.toList)) := by
  obtain ⟨F, hF, h1⟩ := S.step hi
  exact h1 _ _ (· = w.heap.size) ⟨rfl, by simpa using heap_alloc_new w (.cells cs T)⟩ ⟨(Chg.refl _ _).alloc _, fun k hk => .inr (by cases hk; exact Nat.le_refl _)⟩
theorem Sat.fillThing {w' : World} {A : Asn} (S : Sat w0 w l) (i : Nat) (hi : l[i]? = some emp) (h : Sat w w' [rest w (· < w.heap.size), A]) : Sat w0 w' (l.set i A) := by
  obtain ⟨F, hF, h1⟩ := S.step hi
  have hb := h.below (i := 0) rfl
  obtain ⟨_, Fs, hl, hs, hd⟩ := h
  match Fs, hl, hs, hd with
  | [G0, G], _, hs, hd =>
    have hG0 := hs 0 _ _ rfl rfl
    refine h1 _ _ G (hs 1 _ _ rfl rfl) ⟨⟨hb.os, hb.tape, hb.output, hb.size, fun k hk _ => hb.block k hk⟩, fun k hk => .inr ?_⟩
    refine Nat.le_of_not_lt fun hlt => ?_
    exact hd 0 1 _ _ k rfl rfl (by omega) (hG0.2 k hlt).2.1 hk
theorem exec_box {T : TypeId} {x : Operand} (ho : o.op = .box T x) (F : Fr a n L) (hx : val? L x = some v) : (execOp a.eval o).run P w = .ok (.value (.pointer (some ⟨w.heap.size, 0, none⟩))) (w.alloc (.cells v.cells T)) := by
  unfold execOp
  simp only [ho, F.val hx]
  rfl
theorem op_box (S : Sat w0 w l) (T : TypeId) (x : Operand) (v : Value) (F : Fr a n L) (ho : o.op = .box T x) (hx : val? L x = some v) (hR : ∀ b w', Sat w0 w' (l ++ [box b T v.cells.toList]) → R (.pointer (some ⟨b, 0, none⟩)) w') : OpR P a w o R :=
  op_run (exec_box ho F hx) (hR _ _ (S.alloc v.cells T))
theorem op_boxF (S : Sat w0 w l) (i : Nat) (hi : l[i]? = some emp) (T : TypeId) (x : Operand) (v : Value) (F : Fr a n L) (ho : o.op = .box T x) (hx : val? L x = some v) (hR : ∀ b w', Sat w0 w' (l.set i (box b T v.cells.toList)) → R (.pointer (some ⟨b, 0, none⟩)) w') : OpR P a w o R :=
  op_run (exec_box ho F hx) (hR _ _ (S.fillBox i hi v.cells T))
def zeroT (P : Program) (T : TypeId) : Option Value := (P.info? T).bind (·.zero)
theorem exec_alloc {T : TypeId} (ho : o.op = .alloc T) (hz : zeroT P T = some v) : (execOp a.eval o).run P w = .ok (.value (.pointer (some ⟨w.heap.size, 0, none⟩))) (w.alloc (.cells v.cells T)) := by
  unfold zeroT at hz
  cases hi : P.info? T with
  | none => rw [hi] at hz; cases hz
  | some i =>
    rw [hi] at hz
    simp only [Option.bind_some] at hz
    unfold execOp
    simp only [ho]
    have h1 : (zeroValue T).run P w = .ok v w := by simp [zeroValue, tinfo hi, hz]
    have h2 : (Instr.alloc T true (.tuple #[])).run P w = .ok (.pointer (some ⟨w.heap.size, 0, none⟩)) (w.alloc (.cells v.cells T)) := by
      unfold Instr.alloc
      simp only [Sem.run_bind, h1, Result.andThen_ok]
      rfl
    simp only [Sem.run_bind, h2, Result.andThen_ok, Sem.run_pure]
theorem op_alloc (S : Sat w0 w l) (T : TypeId) (v : Value) (ho : o.op = .alloc T) (hz : zeroT P T = some v) (hR : ∀ b w', Sat w0 w' (l ++ [box b T v.cells.toList]) → R (.pointer (some ⟨b, 0, none⟩)) w') : OpR P a w o R :=
  op_run (exec_alloc ho hz) (hR _ _ (S.alloc v.cells T))
theorem op_allocF (S : Sat w0 w l) (i : Nat) (hi : l[i]? = some emp) (T : TypeId) (v : Value) (ho : o.op = .alloc T) (hz : zeroT P T = some v) (hR : ∀ b w', Sat w0 w' (l.set i (box b T v.cells.toList)) → R (.pointer (some ⟨b, 0, none⟩)) w') : OpR P a w o R :=
  op_run (exec_alloc ho hz) (hR _ _ (S.fillBox i hi v.cells T))
end
end Go.Proofs.Ytcfpbemoocegfaa
