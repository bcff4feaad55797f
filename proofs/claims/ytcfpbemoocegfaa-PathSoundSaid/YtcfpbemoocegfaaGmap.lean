/- Maps with integer keys, under Sat. Plain: over any program. -/
import Derived.Test.YtcfpbemoocegfaaGf
namespace Go.Proofs.Ytcfpbemoocegfaa
set_option linter.unusedVariables false
set_option linter.unusedSimpArgs false
set_option linter.unnecessarySimpa false
open Go Go.RowKit

/-- An entry: key, value, stamp. -/
abbrev Ent := Int × Value × Nat
def mapE (k : IntKind) (p : Ent) : MapEntry := { key := .int k p.1, val := p.2.1, born := p.2.2 }
/-- A map that lies in memory. -/
def mapA (r : Nat) (k : IntKind) (es : List Ent) (clock : Nat) : Asn where
  sat F w := F = (· = r) ∧ w.heap[r]? = some (.map (es.map (mapE k)).toArray clock)
  facts _ := True
  stay := by rintro F w w' ⟨rfl, h⟩ hk; exact ⟨rfl, (hk r rfl).trans h⟩
  lt := by rintro F w k' ⟨rfl, h⟩ rfl; exact (Array.getElem?_eq_some_iff.1 h).1
  out := fun _ _ _ => trivial
def getM (es : List Ent) (a : Int) : Option Value := (es.find? fun p => p.1 == a).map (·.2.1)
/-- An entry turned, or a new one. -/
def putM (es : List Ent) (a : Int) (v : Value) (clock : Nat) : List Ent := match es.findIdx? (fun p => p.1 == a) with
  | some i => es.modify i fun p => (a, v, p.2.2)
  | none => es ++ [(a, v, clock)]
def putC (es : List Ent) (a : Int) (clock : Nat) : Nat := match es.findIdx? (fun p => p.1 == a) with
  | some _ => clock
  | none => clock + 1

section
variable {P : Program} {a : Act} {n : Nat} {L : List (Nat × Value)} {o : Oper} {w0 w : World} {R : Value → World → Prop} {l : List Asn}
theorem Sat.mapOf (S : Sat w0 w l) {i : Nat} {r : Nat} {k : IntKind} {es : List Ent} {clock : Nat} (hi : l[i]? = some (mapA r k es clock)) : w.heap[r]? = some (.map (es.map (mapE k)).toArray clock) := by
  obtain ⟨F, _, h⟩ := S.get hi
  exact h
theorem findNow_int {kd : IntKind} (k : IntKind) (x : Int) : ∀ (es : List Ent) (i : Nat), Instr.findNow (.int kd) (.int k x) (es.map (mapE k)) i = some ((es.findIdx? fun p => p.1 == x).map fun j => (i + j, (es.getD j (0, undef, 0)).2.1))
  | [], i => rfl
  | p :: es, i => by
    rw [List.map_cons]
    unfold Instr.findNow
    simp only [mapE, Instr.sameNow, if_true]
    rw [List.findIdx?_cons]
    by_cases h : p.1 = x
    · have h1 : (x == p.1) = true := by simp [h]
      have h2 : (p.1 == x) = true := by simp [h]
      simp [h1, h2]
    · have h1 : (x == p.1) = false := by simp [Ne.symm h]
      have h2 : (p.1 == x) = false := by simp [h]
      rw [h1, h2]
      simp only
      rw [findNow_int k x es (i + 1)]
      cases hq : es.findIdx? (fun p => p.1 == x) with
      | none => simp
      | some j => simp; omega
theorem checkKey_int {T : TypeId} {kd k : IntKind} {x : Int} {b : Bool} (hT : P.underlying T = some (.int kd)) : (Instr.checkKey b 10000 T (.int k x)).run P w = .ok () w := by
  unfold Instr.checkKey
  simp only [Sem.run_bind, run_underlying hT w, Result.andThen_ok]
  rfl
theorem findKey_int {T : TypeId} {kd k : IntKind} {x : Int} {es : List Ent} (hT : P.underlying T = some (.int kd)) : (Instr.findKey T (.int k x) (es.map (mapE k))).run P w = .ok ((es.findIdx? fun p => p.1 == x).map fun j => (j, (es.getD j (0, undef, 0)).2.1)) w := by
  unfold Instr.findKey
  simp only [Sem.run_bind, run_underlying hT w, Result.andThen_ok]
  rw [findNow_int]
  simp
theorem run_getObj {r : Nat} {es : Array MapEntry} {c : Nat} (h : w.heap[r]? = some (.map es c)) : (getObj r).run P w = .ok (.map es c) w := by
  unfold getObj Sem.run
  rw [h]
  rfl
theorem getM_idx {es : List Ent} {x : Int} : getM es x = (es.findIdx? fun p => p.1 == x).map fun j => (es.getD j (0, undef, 0)).2.1 := by
  unfold getM
  induction es with
  | nil => rfl
  | cons p es ih =>
    rw [List.find?_cons, List.findIdx?_cons]
    cases h : p.1 == x with
    | true => simp
    | false =>
      simp only
      rw [ih]
      cases hq : es.findIdx? (fun p => p.1 == x) with
      | none => rfl
      | some j => simp
theorem run_lookup {T K E : TypeId} {kd k : IntKind} {z : Value} {r : Nat} {x : Int} {es : List Ent} {clock : Nat} {ok : Bool} (hT : P.underlying T = some (.map K E)) (hK : P.underlying K = some (.int kd)) (hz : zeroT P E = some z) (h : w.heap[r]? = some (.map (es.map (mapE k)).toArray clock)) :
    (Instr.lookup T (.map (some r)) (.int k x) ok).run P w = .ok (if ok then .tuple #[(getM es x).getD z, .bool (getM es x).isSome] else (getM es x).getD z) w := by
  have hzv : (zeroValue E).run P w = .ok z w := by
    unfold zeroT at hz
    cases hi : P.info? E with
    | none => rw [hi] at hz; cases hz
    | some i => rw [hi] at hz; simp only [Option.bind_some] at hz; simp [zeroValue, tinfo hi, hz]
  unfold Instr.lookup
  simp only [Sem.run_bind, run_underlying hT w, Result.andThen_ok, run_getObj h, Sem.run_pure, checkKey_int hK]
  rw [findKey_int hK, getM_idx]
  cases hq : es.findIdx? (fun p => p.1 == x) with
  | none => simp [hzv]
  | some j => simp
theorem op_lookup (S : Sat w0 w l) (i : Nat) (T K E : TypeId) (y ix : Operand) (ok : Bool) (z : Value) (kd k : IntKind) (x : Int) (v : Value) {r : Nat} {es : List Ent} {clock : Nat} (F : Fr a n L) (hi : l[i]? = some (mapA r k es clock)) (ho : o.op = .lookup T y ix ok) (hT : P.underlying T = some (.map K E)) (hK : P.underlying K = some (.int kd)) (hz : zeroT P E = some z)
    (hy : val? L y = some (.map (some r))) (hx : val? L ix = some (.int k x)) (hv : (if ok then Value.tuple #[(getM es x).getD z, .bool (getM es x).isSome] else (getM es x).getD z) = v) (hR : R v w) : OpR P a w o R := by
  refine op_run (v := v) (w' := w) ?_ hR
  have h := run_lookup (P := P) (x := x) (ok := ok) hT hK hz (S.mapOf hi)
  unfold execOp
  simp only [ho, F.val hy, F.val hx, Sem.run_bind, h, Result.andThen_ok, Sem.run_pure, hv]
theorem Sat.setMap (S : Sat w0 w l) (i : Nat) {r : Nat} {k : IntKind} {es es' : List Ent} {clock clock' : Nat} (hi : l[i]? = some (mapA r k es clock)) : Sat w0 { w with heap := w.heap.setIfInBounds r (.map (es'.map (mapE k)).toArray clock') } (l.set i (mapA r k es' clock')) := by
  obtain ⟨F, ⟨rfl, h⟩, h1⟩ := S.step hi
  have hlt : r < w.heap.size := (Array.getElem?_eq_some_iff.1 h).1
  refine h1 _ _ (· = r) ⟨rfl, by simp [hlt]⟩ ⟨⟨rfl, rfl, rfl, by simp, fun q hq hn => ?_⟩, fun _ h => .inl h⟩
  have hne : r ≠ q := fun e => hn e.symm
  simp [hne]
theorem run_setObj {r : Nat} {es : Array MapEntry} {c : Nat} {ob : Obj} (h : w.heap[r]? = some (.map es c)) : (setObj r ob).run P w = .ok () { w with heap := w.heap.setIfInBounds r ob } := by
  unfold setObj Sem.run
  rw [h]
  rfl
theorem putM_map (k : IntKind) (es : List Ent) (x : Int) (v : Value) (clock : Nat) : (putM es x v clock).map (mapE k) = match es.findIdx? (fun p => p.1 == x) with
    | some i => (es.map (mapE k)).modify i fun e => { e with key := .int k x, val := v }
    | none => es.map (mapE k) ++ [{ key := .int k x, val := v, born := clock }] := by
  unfold putM
  cases h : es.findIdx? (fun p => p.1 == x) with
  | none => simp [mapE]
  | some i =>
    simp only
    apply List.ext_getElem?
    intro j
    simp only [List.getElem?_map, List.getElem?_modify]
    cases es[j]? with
    | none => simp
    | some p => by_cases hij : i = j <;> simp [hij, mapE]
theorem run_mapUpdate {T K E : TypeId} {kd k : IntKind} {r : Nat} {x : Int} {v : Value} {es : List Ent} {clock : Nat} (hT : P.underlying T = some (.map K E)) (hK : P.underlying K = some (.int kd)) (h : w.heap[r]? = some (.map (es.map (mapE k)).toArray clock)) :
    (Instr.mapUpdate T (.map (some r)) (.int k x) v).run P w = .ok () { w with heap := w.heap.setIfInBounds r (.map ((putM es x v clock).map (mapE k)).toArray (putC es x clock)) } := by
  unfold Instr.mapUpdate
  simp only [Sem.run_bind, run_underlying hT w, Result.andThen_ok, run_getObj h, checkKey_int hK]
  rw [findKey_int hK, putM_map]
  unfold putC
  cases hq : es.findIdx? (fun p => p.1 == x) with
  | none =>
    simp only [Option.map_none, Result.andThen_ok]
    rw [run_setObj h]
    simp
  | some j =>
    simp only [Option.map_some, Result.andThen_ok]
    have hj := List.findIdx?_eq_some_iff_getElem.1 hq
    obtain ⟨hjl, hj1, _⟩ := hj
    have hk : (Instr.keyThatStays (((((es.map (mapE k)).toArray)[j]?).map (·.key)).getD (.int k x)) (.int k x)).run P w = .ok (.int k x) w := by
      have he : es[j].1 = x := by simpa using hj1
      have : ((((es.map (mapE k)).toArray)[j]?).map (·.key)).getD (.int k x) = .int k x := by simp [hjl, mapE, he]
      rw [this]
      unfold Instr.keyThatStays
      have hs : Instr.sameBits 10000 (.int k x) (.int k x) = true := by unfold Instr.sameBits; simp
      rw [hs]; rfl
    simp only [Sem.run_bind, hk, Result.andThen_ok]
    rw [run_setObj h]
    simp
theorem op_mapUpdate (S : Sat w0 w l) (i : Nat) (T K E : TypeId) (y ix u : Operand) (kd k : IntKind) (x : Int) (v : Value) {r : Nat} {es : List Ent} {clock : Nat} (F : Fr a n L) (hi : l[i]? = some (mapA r k es clock)) (ho : o.op = .mapUpdate T y ix u) (hT : P.underlying T = some (.map K E)) (hK : P.underlying K = some (.int kd))
    (hy : val? L y = some (.map (some r))) (hx : val? L ix = some (.int k x)) (hu : val? L u = some v) (hR : ∀ w', Sat w0 w' (l.set i (mapA r k (putM es x v clock) (putC es x clock))) → R undef w') : OpR P a w o R := by
  have h := run_mapUpdate (P := P) (x := x) (v := v) hT hK (S.mapOf hi)
  refine op_skip (w' := _) ?_ (hR _ (S.setMap (es' := putM es x v clock) (clock' := putC es x clock) i hi))
  unfold execOp
  simp only [ho, F.val hy, F.val hx, F.val hu, Sem.run_bind, h, Result.andThen_ok, Sem.run_pure]
theorem op_makeMap (S : Sat w0 w l) (T : TypeId) (k : IntKind) (ho : o.op = .makeMap T none) (hR : ∀ r w', Sat w0 w' (l ++ [mapA r k [] 0]) → R (.map (some r)) w') : OpR P a w o R := by
  refine op_run (v := .map (some w.heap.size)) (w' := w.alloc (.map #[] 0)) ?_ (hR _ _ ?_)
  · unfold execOp
    simp only [ho]
    rfl
  · exact S.push (F := (· = w.heap.size)) ⟨rfl, by simpa using heap_alloc_new w (.map #[] 0)⟩ (fun q hq => by cases hq; exact Nat.le_refl _) ((Below.refl _ _).alloc (Nat.le_refl _) _)
theorem op_makeMapF (S : Sat w0 w l) (i : Nat) (hi : l[i]? = some emp) (T : TypeId) (k : IntKind) (ho : o.op = .makeMap T none) (hR : ∀ r w', Sat w0 w' (l.set i (mapA r k [] 0)) → R (.map (some r)) w') : OpR P a w o R := by
  refine op_run (v := .map (some w.heap.size)) (w' := w.alloc (.map #[] 0)) ?_ (hR _ _ ?_)
  · unfold execOp
    simp only [ho]
    rfl
  · obtain ⟨F, hF, h1⟩ := S.step hi
    exact h1 _ _ (· = w.heap.size) ⟨rfl, by simpa using heap_alloc_new w (.map #[] 0)⟩ ⟨(Chg.refl _ _).alloc _, fun q hq => .inr (by cases hq; exact Nat.le_refl _)⟩
end
end Go.Proofs.Ytcfpbemoocegfaa
