/- A range over a map with integer keys, whatever its order. Plain: over any program. -/
import Derived.Test.YtecgpkjigbhneaaGmap
import Derived.Maps.RangeRun
namespace Go.Proofs.Ytecgpkjigbhneaa
set_option linter.unusedVariables false
set_option linter.unusedSimpArgs false
set_option linter.unnecessarySimpa false
open Go Go.RowKit

/-- An iterator over the map at m: it began at the stamp 'since', has seen some. -/
def iterA (r m since : Nat) (seen : List Nat) (last : Nat) : Asn where
  sat F w := F = (· = r) ∧ w.heap[r]? = some (.mapIter (some m) since seen.toArray last)
  facts _ := True
  stay := by rintro F w w' ⟨rfl, h⟩ hk; exact ⟨rfl, (hk r rfl).trans h⟩
  lt := by rintro F w k' ⟨rfl, h⟩ rfl; exact (Array.getElem?_eq_some_iff.1 h).1
  out := fun _ _ _ => trivial
section
variable {P : Program} {a : Act} {n : Nat} {L : List (Nat × Value)} {o : Oper} {w0 w : World} {R : Value → World → Prop} {l : List Asn}
theorem Sat.iterOf (S : Sat w0 w l) {i : Nat} {r m since : Nat} {seen : List Nat} {last : Nat} (hi : l[i]? = some (iterA r m since seen last)) : w.heap[r]? = some (.mapIter (some m) since seen.toArray last) := by
  obtain ⟨F, _, h⟩ := S.get hi
  exact h
theorem Sat.setIter (S : Sat w0 w l) (i : Nat) {r m since : Nat} {seen seen' : List Nat} {last last' : Nat} (hi : l[i]? = some (iterA r m since seen last)) : Sat w0 (Go.ChangeMaps.setBlock w r (.mapIter (some m) since seen'.toArray last')) (l.set i (iterA r m since seen' last')) := by
  obtain ⟨F, ⟨rfl, h⟩, h1⟩ := S.step hi
  have hlt : r < w.heap.size := (Array.getElem?_eq_some_iff.1 h).1
  refine h1 _ _ (· = r) ⟨rfl, by simp [Go.ChangeMaps.setBlock, hlt]⟩ ⟨⟨rfl, rfl, rfl, by simp [Go.ChangeMaps.setBlock], fun q hq hn => ?_⟩, fun _ h => .inl h⟩
  have hne : r ≠ q := fun e => hn e.symm
  simp [Go.ChangeMaps.setBlock, hne]
theorem op_range (S : Sat w0 w l) (i : Nat) (T K E : TypeId) (x : Operand) {m : Nat} {k : IntKind} {es : List Ent} {clock : Nat} (F : Fr a n L) (hi : l[i]? = some (mapA m k es clock)) (ho : o.op = .range T x) (hT : P.underlying T = some (.map K E)) (hx : val? L x = some (.map (some m)))
    (hR : ∀ r w', Sat w0 w' (l ++ [iterA r m clock [] clock]) → R (.pointer (some ⟨r, 0, none⟩)) w') : OpR P a w o R := by
  refine op_run (v := .pointer (some ⟨w.heap.size, 0, none⟩)) (w' := w.alloc (.mapIter (some m) clock #[] clock)) ?_ (hR _ _ ?_)
  · unfold execOp
    simp only [ho, F.val hx]
    unfold Instr.range
    simp only [Sem.run_bind, run_underlying hT w, Result.andThen_ok, run_getObj (S.mapOf hi), Sem.run_pure]
    rfl
  · exact S.push (F := (· = w.heap.size)) ⟨rfl, by simpa using heap_alloc_new w (.mapIter (some m) clock #[] clock)⟩ (fun q hq => by cases hq; exact Nat.le_refl _) ((Below.refl _ _).alloc (Nat.le_refl _) _)
/-- The next entry, or the end. -/
theorem op_next (S : Sat w0 w l) (i j : Nat) (y : Operand) {r m since : Nat} {seen : List Nat} {last : Nat} {k : IntKind} {es : List Ent} {clock : Nat} (F : Fr a n L) (hi : l[i]? = some (iterA r m since seen last)) (hj : l[j]? = some (mapA m k es clock)) (ho : o.op = .next y false) (hy : val? L y = some (.pointer (some ⟨r, 0, none⟩)))
    (hold : ∀ e ∈ es, e.2.2 < since) (hsc : since ≤ last)
    (hend : (∀ e ∈ es, e.2.2 ∈ seen) → R (.tuple #[.bool false]) w)
    (hR : ∀ e ∈ es, e.2.2 ∉ seen → ∀ w', Sat w0 w' (l.set i (iterA r m since (seen ++ [e.2.2]) clock)) → R (.tuple #[.bool true, .int k e.1, e.2.1]) w') : OpR P a w o R := by
  have hmem : ∀ x, x ∈ (leftOf (es.map (mapE k)).toArray seen.toArray).toList ↔ ∃ e ∈ es, e.2.2 ∉ seen ∧ x = mapE k e := by
    intro x
    unfold leftOf
    simp only [Array.toList_filter, List.mem_filter, List.mem_map]
    constructor
    · rintro ⟨⟨e, he, rfl⟩, h⟩
      exact ⟨e, he, by simpa [mapE] using h, rfl⟩
    · rintro ⟨e, he, h, rfl⟩
      exact ⟨⟨e, he, rfl⟩, by simpa [mapE] using h⟩
  have hrun := run_next_at (P := P) w o.type r m since last seen.toArray (es.map (mapE k)).toArray clock (S.iterOf hi) (S.mapOf hj) (fun x hx => by
    simp only [List.mem_map] at hx
    obtain ⟨e, he, rfl⟩ := hx
    exact hold e he) hsc
  rcases hrun with ⟨h0, hr⟩ | ⟨x, hx, w1, hw1, hr⟩
  · refine op_run (v := .tuple #[.bool false]) (w' := w) ?_ (hend fun e he => ?_)
    · unfold execOp
      simp only [ho, F.val hy, Sem.run_bind, hr, Result.andThen_ok, Sem.run_pure]
    · by_cases hq : e.2.2 ∈ seen
      · exact hq
      · have h9 := (hmem (mapE k e)).2 ⟨e, he, hq, rfl⟩
        rw [Array.eq_empty_of_size_eq_zero h0] at h9
        simp at h9
  · obtain ⟨e, he, hq, rfl⟩ := (hmem x).1 hx
    have S1 : Sat w0 w1 l := by
      rcases hw1 with rfl | rfl
      · exact S
      · exact S.drew
    have S2 := S1.setIter (seen' := seen ++ [e.2.2]) (last' := clock) i hi
    have hpush : (seen.toArray.push e.2.2) = (seen ++ [e.2.2]).toArray := by simp
    refine op_run (v := .tuple #[.bool true, .int k e.1, e.2.1]) (w' := _) ?_ (hR e he hq _ S2)
    unfold execOp
    simp only [ho, F.val hy, Sem.run_bind, hr, Result.andThen_ok, Sem.run_pure, mapE, hpush]
theorem op_entry (S : Sat w0 w l) (i j : Nat) (y : Operand) {r m since : Nat} {seen : List Nat} {k : IntKind} {es : List Ent} {clock : Nat} {e : Ent} (F : Fr a n L) (hi : l[i]? = some (iterA r m since (seen ++ [e.2.2]) clock)) (hj : l[j]? = some (mapA m k es clock)) (ho : o.op = .entry y) (hy : val? L y = some (.pointer (some ⟨r, 0, none⟩)))
    (he : e ∈ es) (hn : (es.map (·.2.2)).Nodup) (hR : R (.tuple #[.int k e.1, e.2.1]) w) : OpR P a w o R := by
  have hr := S.iterOf hi
  rw [show (seen ++ [e.2.2]).toArray = seen.toArray.push (mapE k e).born from by simp [mapE]] at hr
  refine op_run (v := .tuple #[.int k e.1, e.2.1]) (w' := w) ?_ hR
  unfold execOp
  simp only [ho, F.val hy, Sem.run_bind, run_entry_at (P := P) w r m since seen.toArray (es.map (mapE k)).toArray clock (mapE k e) hr (S.mapOf hj) (by simp only [List.mem_map]; exact ⟨e, he, rfl⟩) (by simpa [mapE, Function.comp_def] using hn), Result.andThen_ok, Sem.run_pure, mapE]
theorem zero_run {E : TypeId} {z : Value} (hz : zeroT P E = some z) (w : World) : (zeroValue E).run P w = .ok z w := by
  unfold zeroT at hz
  cases hi : P.info? E with
  | none => rw [hi] at hz; cases hz
  | some i => rw [hi] at hz; simp only [Option.bind_some] at hz; simp [zeroValue, tinfo hi, hz]
/-- An entry for a key that isn't there. -/
theorem op_mapEntry (S : Sat w0 w l) (i : Nat) (T K E : TypeId) (y ix : Operand) (z : Value) (kd k : IntKind) (x : Int) {r : Nat} {es : List Ent} {clock : Nat} (F : Fr a n L) (hi : l[i]? = some (mapA r k es clock)) (ho : o.op = .mapEntry T y ix) (hT : P.underlying T = some (.map K E)) (hK : P.underlying K = some (.int kd)) (hz : zeroT P E = some z)
    (hy : val? L y = some (.map (some r))) (hx : val? L ix = some (.int k x)) (hno : getM es x = none) (hR : ∀ w', Sat w0 w' (l.set i (mapA r k (es ++ [((x, z, clock) : Ent)]) (clock + 1))) → R (.tuple #[z, .int .i64 (clock : Nat)]) w') : OpR P a w o R := by
  refine op_run (v := .tuple #[z, .int .i64 (clock : Nat)]) (w' := _) ?_ (hR _ (S.setMap (es' := es ++ [((x, z, clock) : Ent)]) (clock' := clock + 1) i hi))
  have hidx : es.findIdx? (fun p => p.1 == x) = none := by
    rw [getM_idx] at hno
    cases hq : es.findIdx? (fun p => p.1 == x) with
    | none => rfl
    | some j => rw [hq] at hno; cases hno
  unfold execOp
  simp only [ho, F.val hy, F.val hx]
  unfold Instr.mapEntry
  simp only [Sem.run_bind, run_underlying hT w, Result.andThen_ok, run_getObj (S.mapOf hi), checkKey_int hK]
  rw [findKey_int hK, hidx]
  simp only [Option.map_none, Result.andThen_ok, Sem.run_bind, zero_run hz]
  rw [run_setObj (S.mapOf hi)]
  simp [mapE, goInt]
/-- A value for the entry that came last. -/
theorem op_entryStore (S : Sat w0 w l) (i : Nat) (T : TypeId) (y ix u : Operand) (x : Int) (v : Value) (ck : Nat) {z : Value} {r : Nat} {k : IntKind} {es : List Ent} {clock : Nat} (F : Fr a n L) (hi : l[i]? = some (mapA r k (es ++ [((x, z, ck) : Ent)]) clock)) (ho : o.op = .entryStore T y ix u)
    (hy : val? L y = some (.map (some r))) (hx : val? L ix = some (.int .i64 (ck : Nat))) (hu : val? L u = some v) (hst : ∀ e ∈ es, e.2.2 ≠ ck) (hR : ∀ w', Sat w0 w' (l.set i (mapA r k (es ++ [((x, v, ck) : Ent)]) clock)) → R undef w') : OpR P a w o R := by
  refine op_skip (w' := _) ?_ (hR _ (S.setMap (es' := es ++ [((x, v, ck) : Ent)]) (clock' := clock) i hi))
  have hfind : ((es ++ [((x, z, ck) : Ent)]).map (mapE k)).toArray.findIdx? (fun e => (e.born : Int) == (ck : Int)) = some es.length := by
    rw [List.findIdx?_toArray, List.findIdx?_map, List.findIdx?_append]
    have : es.findIdx? ((fun e : MapEntry => ((e.born : Int) == (ck : Int))) ∘ mapE k) = none := by
      rw [List.findIdx?_eq_none_iff]
      intro e he
      have := hst e he
      simp [mapE]; omega
    rw [this]
    simp [mapE]
  have hmod : ((es ++ [((x, z, ck) : Ent)]).map (mapE k)).toArray.modify es.length (fun e => { e with val := v }) = ((es ++ [((x, v, ck) : Ent)]).map (mapE k)).toArray := by
    apply Array.toList_inj.1
    rw [Array.toList_modify]
    simp only [List.map_append, List.map_cons, List.map_nil]
    apply List.ext_getElem?
    intro j
    rw [List.getElem?_modify]
    by_cases hj : es.length = j
    · subst hj
      simp [mapE]
    · have e1 : ∀ q : Option MapEntry, (Functor.map (fun a : MapEntry => if es.length = j then { key := a.key, val := v, born := a.born } else a) q) = q := fun q => by cases q <;> simp [hj]
      rw [e1]
      rcases Nat.lt_or_ge j es.length with h | h
      · rw [List.getElem?_append_left (by simpa using h), List.getElem?_append_left (by simpa using h)]
      · rw [List.getElem?_eq_none (by simp; omega), List.getElem?_eq_none (by simp; omega)]
  unfold execOp
  simp only [ho, F.val hy, F.val hx, F.val hu]
  unfold Instr.entryStore
  simp only [Sem.run_bind, run_getObj (S.mapOf hi), Result.andThen_ok, asInt, asIntOf, Sem.run_pure]
  rw [hfind]
  rw [run_setObj (S.mapOf hi), hmod]
  rfl
/-- All of an array, as a slice. -/
theorem op_sliceArr (T e : TypeId) (x : Operand) (A : Option Addr) (j N k : Nat) (F : Fr a n L) (ho : o.op = .slice T x none none none) (hT : P.underlying T = some (.array N e)) (hk : sizeT P e = some k) (hx : val? L x = some (ptrA A j)) (hN : 0 < N) (hA : A.isSome = true) (hR : R (.slice (A.map (·.add j)) N N) w) : OpR P a w o R := by
  cases A with
  | none => cases hA
  | some ad =>
    refine op_run (v := .slice (some (ad.add j)) N N) (w' := w) ?_ hR
    unfold sizeT at hk
    cases hi' : P.info? e with
    | none => rw [hi'] at hk; cases hk
    | some i =>
      rw [hi'] at hk
      simp only [Option.map_some, Option.some.injEq] at hk
      unfold execOp
      simp only [ho, Option.map_none, F.val hx]
      have h0 : ¬ N = 0 := by omega
      simp only [ptrA, Option.map_some, Instr.sliceAt, run_underlying hT, Sem.run_bind, Result.andThen_ok, Instr.sureAddr, Instr.sliceBounds, Sem.run_pure, sizeOf, tinfo hi', if_neg h0, Nat.zero_mul, Nat.sub_zero]
      simp [add_add]
end
end Go.Proofs.Ytecgpkjigbhneaa
