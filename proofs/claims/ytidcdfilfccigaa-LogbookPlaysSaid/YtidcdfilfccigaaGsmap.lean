/- Maps with keys that are strings, under Sat. Plain: over any program. -/
import Derived.Test.YtidcdfilfccigaaGstr
import Derived.Laws.StructEq
namespace Go.Proofs.Ytidcdfilfccigaa
set_option linter.unusedVariables false
set_option linter.unusedSimpArgs false
set_option linter.unnecessarySimpa false
open Go Go.RowKit

/-- An entry: key, value, stamp. -/
abbrev SEnt := Bs × Value × Nat
def smapE (p : SEnt) : MapEntry := { key := strV p.1, val := p.2.1, born := p.2.2 }
/-- A map that lies in memory. -/
def smapA (r : Nat) (es : List SEnt) (clock : Nat) : Asn where
  sat F w := F = (· = r) ∧ w.heap[r]? = some (.map (es.map smapE).toArray clock)
  facts _ := True
  stay := by rintro F w w' ⟨rfl, h⟩ hk; exact ⟨rfl, (hk r rfl).trans h⟩
  lt := by rintro F w k' ⟨rfl, h⟩ rfl; exact (Array.getElem?_eq_some_iff.1 h).1
  out := fun _ _ _ => trivial
def getS (es : List SEnt) (a : Bs) : Option Value := (es.find? fun p => p.1 == a).map (·.2.1)
/-- An entry turned, or a new one. -/
def putS (es : List SEnt) (a : Bs) (v : Value) (clock : Nat) : List SEnt := match es.findIdx? (fun p => p.1 == a) with
  | some i => es.modify i fun p => (a, v, p.2.2)
  | none => es ++ [(a, v, clock)]
def putSC (es : List SEnt) (a : Bs) (clock : Nat) : Nat := match es.findIdx? (fun p => p.1 == a) with
  | some _ => clock
  | none => clock + 1

section
variable {P : Program} {a : Act} {n : Nat} {L : List (Nat × Value)} {o : Oper} {w0 w : World} {R : Value → World → Prop} {l : List Asn}
theorem Sat.smapOf (S : Sat w0 w l) {i : Nat} {r : Nat} {es : List SEnt} {clock : Nat} (hi : l[i]? = some (smapA r es clock)) : w.heap[r]? = some (.map (es.map smapE).toArray clock) := by
  obtain ⟨F, _, h⟩ := S.get hi
  exact h
theorem str_beq (x y : Bs) : ((ByteArray.mk x.toArray) == (ByteArray.mk y.toArray)) = (x == y) := by rw [beq_toListBytes, str_toList, str_toList]
theorem findNow_str (x : Bs) : ∀ (es : List SEnt) (i : Nat), Instr.findNow .string (strV x) (es.map smapE) i = some ((es.findIdx? fun p => p.1 == x).map fun j => (i + j, (es.getD j ([], undef, 0)).2.1))
  | [], i => rfl
  | p :: es, i => by
    rw [List.map_cons]
    unfold Instr.findNow
    simp only [smapE, strV, Instr.sameNow, str_beq]
    rw [List.findIdx?_cons]
    by_cases h : p.1 = x
    · have h1 : (x == p.1) = true := by simp [h]
      have h2 : (p.1 == x) = true := by simp [h]
      simp [h1, h2]
    · have h1 : (x == p.1) = false := by simp [Ne.symm h]
      have h2 : (p.1 == x) = false := by simp [h]
      rw [h1, h2]
      simp only
      have ih := findNow_str x es (i + 1)
      unfold strV at ih
      rw [ih]
      cases hq : es.findIdx? (fun p => p.1 == x) with
      | none => simp
      | some j => simp; omega
theorem checkKey_str {T : TypeId} {x : Bs} {b : Bool} (hT : P.underlying T = some .string) : (Instr.checkKey b 10000 T (strV x)).run P w = .ok () w := by
  unfold Instr.checkKey
  simp only [Sem.run_bind, run_underlying hT w, Result.andThen_ok]
  rfl
theorem findKey_str {T : TypeId} {x : Bs} {es : List SEnt} (hT : P.underlying T = some .string) : (Instr.findKey T (strV x) (es.map smapE)).run P w = .ok ((es.findIdx? fun p => p.1 == x).map fun j => (j, (es.getD j ([], undef, 0)).2.1)) w := by
  unfold Instr.findKey
  simp only [Sem.run_bind, run_underlying hT w, Result.andThen_ok]
  rw [findNow_str]
  simp
theorem run_sgetObj {r : Nat} {es : Array MapEntry} {c : Nat} (h : w.heap[r]? = some (.map es c)) : (getObj r).run P w = .ok (.map es c) w := by
  unfold getObj Sem.run
  rw [h]
  rfl
theorem getS_idx {es : List SEnt} {x : Bs} : getS es x = (es.findIdx? fun p => p.1 == x).map fun j => (es.getD j ([], undef, 0)).2.1 := by
  unfold getS
  induction es with
  | nil => rfl
  | cons p es ih =>
    rw [List.find?_cons, List.findIdx?_cons]
    cases h : p.1 == x with
    | true => simp
    | false =>
      simp only
      rw [ih]
      cases hq : es.findIdx? (fun p => p.1 == x) with
      | none => rfl
      | some j => simp
theorem run_slookup {T K E : TypeId} {z : Value} {r : Nat} {x : Bs} {es : List SEnt} {clock : Nat} {ok : Bool} (hT : P.underlying T = some (.map K E)) (hK : P.underlying K = some .string) (hz : zeroT P E = some z) (h : w.heap[r]? = some (.map (es.map smapE).toArray clock)) :
    (Instr.lookup T (.map (some r)) (strV x) ok).run P w = .ok (if ok then .tuple #[(getS es x).getD z, .bool (getS es x).isSome] else (getS es x).getD z) w := by
  have hzv : (zeroValue E).run P w = .ok z w := by
    unfold zeroT at hz
    cases hi : P.info? E with
    | none => rw [hi] at hz; cases hz
    | some i => rw [hi] at hz; simp only [Option.bind_some] at hz; simp [zeroValue, tinfo hi, hz]
  unfold Instr.lookup
  simp only [Sem.run_bind, run_underlying hT w, Result.andThen_ok, run_sgetObj h, Sem.run_pure, checkKey_str hK]
  rw [findKey_str hK, getS_idx]
  cases hq : es.findIdx? (fun p => p.1 == x) with
  | none => simp [hzv]
  | some j => simp
theorem op_slookup (S : Sat w0 w l) (i : Nat) (T K E : TypeId) (y ix : Operand) (ok : Bool) (z : Value) (x : Bs) (v : Value) {r : Nat} {es : List SEnt} {clock : Nat} (F : Fr a n L) (hi : l[i]? = some (smapA r es clock)) (ho : o.op = .lookup T y ix ok) (hT : P.underlying T = some (.map K E)) (hK : P.underlying K = some .string) (hz : zeroT P E = some z)
    (hy : val? L y = some (.map (some r))) (hx : val? L ix = some (strV x)) (hv : (if ok then Value.tuple #[(getS es x).getD z, .bool (getS es x).isSome] else (getS es x).getD z) = v) (hR : R v w) : OpR P a w o R := by
  refine op_run (v := v) (w' := w) ?_ hR
  have h := run_slookup (P := P) (x := x) (ok := ok) hT hK hz (S.smapOf hi)
  unfold execOp
  simp only [ho, F.val hy, F.val hx, Sem.run_bind, h, Result.andThen_ok, Sem.run_pure, hv]
theorem Sat.setSmap (S : Sat w0 w l) (i : Nat) {r : Nat} {es es' : List SEnt} {clock clock' : Nat} (hi : l[i]? = some (smapA r es clock)) : Sat w0 { w with heap := w.heap.setIfInBounds r (.map (es'.map smapE).toArray clock') } (l.set i (smapA r es' clock')) := by
  obtain ⟨F, ⟨rfl, h⟩, h1⟩ := S.step hi
  have hlt : r < w.heap.size := (Array.getElem?_eq_some_iff.1 h).1
  refine h1 _ _ (· = r) ⟨rfl, by simp [hlt]⟩ ⟨⟨rfl, rfl, rfl, by simp, fun q hq hn => ?_⟩, fun _ h => .inl h⟩
  have hne : r ≠ q := fun e => hn e.symm
  simp [hne]
theorem run_ssetObj {r : Nat} {es : Array MapEntry} {c : Nat} {ob : Obj} (h : w.heap[r]? = some (.map es c)) : (setObj r ob).run P w = .ok () { w with heap := w.heap.setIfInBounds r ob } := by
  unfold setObj Sem.run
  rw [h]
  rfl
theorem putS_map (es : List SEnt) (x : Bs) (v : Value) (clock : Nat) : (putS es x v clock).map smapE = match es.findIdx? (fun p => p.1 == x) with
    | some i => (es.map smapE).modify i fun e => { e with key := strV x, val := v }
    | none => es.map smapE ++ [{ key := strV x, val := v, born := clock }] := by
  unfold putS
  cases h : es.findIdx? (fun p => p.1 == x) with
  | none => simp [smapE]
  | some i =>
    simp only
    apply List.ext_getElem?
    intro j
    simp only [List.getElem?_map, List.getElem?_modify]
    cases es[j]? with
    | none => simp
    | some p => by_cases hij : i = j <;> simp [hij, smapE]
theorem run_smapUpdate {T K E : TypeId} {r : Nat} {x : Bs} {v : Value} {es : List SEnt} {clock : Nat} (hT : P.underlying T = some (.map K E)) (hK : P.underlying K = some .string) (h : w.heap[r]? = some (.map (es.map smapE).toArray clock)) :
    (Instr.mapUpdate T (.map (some r)) (strV x) v).run P w = .ok () { w with heap := w.heap.setIfInBounds r (.map ((putS es x v clock).map smapE).toArray (putSC es x clock)) } := by
  unfold Instr.mapUpdate
  simp only [Sem.run_bind, run_underlying hT w, Result.andThen_ok, run_sgetObj h, checkKey_str hK]
  rw [findKey_str hK, putS_map]
  unfold putSC
  cases hq : es.findIdx? (fun p => p.1 == x) with
  | none =>
    simp only [Option.map_none, Result.andThen_ok]
    rw [run_ssetObj h]
    simp
  | some j =>
    simp only [Option.map_some, Result.andThen_ok]
    have hj := List.findIdx?_eq_some_iff_getElem.1 hq
    obtain ⟨hjl, hj1, _⟩ := hj
    have hk : (Instr.keyThatStays (((((es.map smapE).toArray)[j]?).map (·.key)).getD (strV x)) (strV x)).run P w = .ok (strV x) w := by
      have he : es[j].1 = x := by simpa using hj1
      have : ((((es.map smapE).toArray)[j]?).map (·.key)).getD (strV x) = strV x := by simp [hjl, smapE, he]
      rw [this]
      unfold Instr.keyThatStays
      have hs : Instr.sameBits 10000 (strV x) (strV x) = true := by unfold Instr.sameBits; simp only [strV, str_beq]; simp
      rw [hs]; rfl
    simp only [Sem.run_bind, hk, Result.andThen_ok]
    rw [run_ssetObj h]
    simp
theorem op_smapUpdate (S : Sat w0 w l) (i : Nat) (T K E : TypeId) (y ix u : Operand) (x : Bs) (v : Value) {r : Nat} {es : List SEnt} {clock : Nat} (F : Fr a n L) (hi : l[i]? = some (smapA r es clock)) (ho : o.op = .mapUpdate T y ix u) (hT : P.underlying T = some (.map K E)) (hK : P.underlying K = some .string)
    (hy : val? L y = some (.map (some r))) (hx : val? L ix = some (strV x)) (hu : val? L u = some v) (hR : ∀ w', Sat w0 w' (l.set i (smapA r (putS es x v clock) (putSC es x clock))) → R undef w') : OpR P a w o R := by
  have h := run_smapUpdate (P := P) (x := x) (v := v) hT hK (S.smapOf hi)
  refine op_skip (w' := _) ?_ (hR _ (S.setSmap (es' := putS es x v clock) (clock' := putSC es x clock) i hi))
  unfold execOp
  simp only [ho, F.val hy, F.val hx, F.val hu, Sem.run_bind, h, Result.andThen_ok, Sem.run_pure]
theorem op_smakeMap (S : Sat w0 w l) (T : TypeId) (ho : o.op = .makeMap T none) (hR : ∀ r w', Sat w0 w' (l ++ [smapA r [] 0]) → R (.map (some r)) w') : OpR P a w o R := by
  refine op_run (v := .map (some w.heap.size)) (w' := w.alloc (.map #[] 0)) ?_ (hR _ _ ?_)
  · unfold execOp
    simp only [ho]
    rfl
  · exact S.push (F := (· = w.heap.size)) ⟨rfl, by simpa using heap_alloc_new w (.map #[] 0)⟩ (fun q hq => by cases hq; exact Nat.le_refl _) ((Below.refl _ _).alloc (Nat.le_refl _) _)
/-- What is left without a key. -/
def delS (es : List SEnt) (x : Bs) : List SEnt := match es.findIdx? (fun p => p.1 == x) with
  | some i => es.eraseIdx i
  | none => es
theorem erase_map {α β : Type} (f : α → β) : ∀ (l : List α) (i : Nat), (l.map f).eraseIdx i = (l.eraseIdx i).map f
  | [], i => by simp
  | x :: l, 0 => by simp
  | x :: l, i + 1 => by simp [erase_map f l i]
theorem op_sdelete (S : Sat w0 w l) (i : Nat) (T T' K E : TypeId) (y ix : Operand) (x : Bs) {r : Nat} {es : List SEnt} {clock : Nat} (F : Fr a n L) (hi : l[i]? = some (smapA r es clock)) (ho : o.op = .call { callee := .builtin .delete, args := #[y, ix], argTypes := #[T, T'] }) (hT : P.underlying T = some (.map K E)) (hK : P.underlying K = some .string)
    (hy : val? L y = some (.map (some r))) (hx : val? L ix = some (strV x)) (hR : ∀ w', Sat w0 w' (l.set i (smapA r (delS es x) clock)) → R (.tuple #[]) w') : OpR P a w o R := by
  have hb := S.smapOf hi
  have h : (Builtin.delete_ #[T, T'] o.type #[.map (some r), strV x]).run P w = .ok (.tuple #[]) { w with heap := w.heap.setIfInBounds r (.map ((delS es x).map smapE).toArray clock) } := by
    unfold Builtin.delete_
    simp only [List.getElem?_toArray, List.getElem?_cons_zero, List.getElem?_cons_succ, Sem.run_bind, run_underlying hT w, Result.andThen_ok, run_sgetObj hb, checkKey_str hK]
    rw [findKey_str hK]
    unfold delS
    cases hq : es.findIdx? (fun p => p.1 == x) with
    | none =>
      simp only [Option.map_none, Result.andThen_ok, Sem.run_bind]
      rw [run_ssetObj hb]
      simp
    | some j =>
      have hjl := (List.findIdx?_eq_some_iff_getElem.1 hq).1
      simp only [Option.map_some, Result.andThen_ok, Sem.run_bind]
      rw [run_ssetObj hb]
      simp [Array.eraseIdxIfInBounds, hjl, erase_map]
  refine op_run (v := .tuple #[]) (w' := _) ?_ (hR _ (S.setSmap (es' := delS es x) (clock' := clock) i hi))
  unfold execOp
  simp only [ho, resolve, invoke, builtin, Sem.run_bind, Sem.run_pure, Result.andThen_ok, List.map_toArray, List.map_cons, List.map_nil, F.val hy, F.val hx, h]
end
end Go.Proofs.Ytidcdfilfccigaa
