/- Operations on rows of records, and small laws: what a program prints walks with. Plain: over any program. -/
import Derived.Test.YtjbblgefgjmdaaaGr
import Derived.Laws.MakeOwn
namespace Go.Proofs.Ytjbblgefgjmdaaa
set_option linter.unusedVariables false
set_option linter.unusedSimpArgs false
set_option linter.unnecessarySimpa false
open Go Go.RowKit

-- tests
theorem ltT {x y : Int} (h : x < y) : Value.bool (decide (x < y)) = .bool true := by rw [decide_eq_true h]
theorem ltF {x y : Int} (h : ¬ x < y) : Value.bool (decide (x < y)) = .bool false := by rw [decide_eq_false h]
theorem leT {x y : Int} (h : x ≤ y) : Value.bool (decide (x ≤ y)) = .bool true := by rw [decide_eq_true h]
theorem leF {x y : Int} (h : ¬ x ≤ y) : Value.bool (decide (x ≤ y)) = .bool false := by rw [decide_eq_false h]
theorem lssT {x y : Int} (h : x < y) : Value.bool (decide (x < y)) = .bool true := ltT h
theorem lssF {x y : Int} (h : ¬ x < y) : Value.bool (decide (x < y)) = .bool false := ltF h
theorem leqT {x y : Int} (h : x ≤ y) : Value.bool (decide (x ≤ y)) = .bool true := leT h
theorem leqF {x y : Int} (h : ¬ x ≤ y) : Value.bool (decide (x ≤ y)) = .bool false := leF h
theorem gtrT {x y : Int} (h : y < x) : Value.bool (decide (x > y)) = .bool true := ltT h
theorem gtrF {x y : Int} (h : ¬ y < x) : Value.bool (decide (x > y)) = .bool false := ltF h
theorem geqT {x y : Int} (h : y ≤ x) : Value.bool (decide (x ≥ y)) = .bool true := leT h
theorem geqF {x y : Int} (h : ¬ y ≤ x) : Value.bool (decide (x ≥ y)) = .bool false := leF h
theorem eqlT {x y : Int} (h : x = y) : Value.bool (x == y) = .bool true := by rw [beq_iff_eq.2 h]
theorem eqlF {x y : Int} (h : ¬ x = y) : Value.bool (x == y) = .bool false := by rw [beq_eq_false_iff_ne.2 h]
theorem neqF {x y : Int} (h : x = y) : Value.bool (x != y) = .bool false := by rw [show (x != y) = !(x == y) from rfl, beq_iff_eq.2 h]; rfl
theorem neqT {x y : Int} (h : ¬ x = y) : Value.bool (x != y) = .bool true := by rw [show (x != y) = !(x == y) from rfl, beq_eq_false_iff_ne.2 h]; rfl
-- sums
theorem wr_i64 {n : Int} (h0 : -9223372036854775808 ≤ n) (h1 : n ≤ 9223372036854775807) : Value.int .i64 (IntKind.wrap .i64 n) = .int .i64 n := by rw [wrap64_id h0 h1]
theorem wr_u64 {n : Int} (h0 : 0 ≤ n) (h1 : n < 18446744073709551616) : Value.int .u64 (IntKind.wrap .u64 n) = .int .u64 n := by rw [IntKind.wrap_u64, Int.emod_eq_of_lt h0 h1]
theorem set_at {α : Type} {X : List α} {m : Nat} {e y : α} (h : X[m]? = some e) : (X.set m y)[m]? = some y := by rw [List.getElem?_set_self (get_lt h)]
theorem get_lt' {α : Type} {X : List α} {m n : Nat} {e : α} (h : X[m]? = some e) (hn : X.length = n) : m < n := hn ▸ get_lt h
theorem srcNil {w : World} (xs : List Value) : SrcOf w none xs := fun ad h => by cases h
def iC_i64 (n : Int) : List Value := [.int .i64 n]
def iC_u64 (n : Int) : List Value := [.int .u64 n]
def iC_u8 (n : Int) : List Value := [.int .u8 n]
def bC (b : Bool) : List Value := [.bool b]
theorem iC_len_i64 (n : Int) : (iC_i64 n).length = 1 := rfl
theorem iC_len_u64 (n : Int) : (iC_u64 n).length = 1 := rfl
theorem iC_len_u8 (n : Int) : (iC_u8 n).length = 1 := rfl
theorem bC_len (b : Bool) : (bC b).length = 1 := rfl

section
variable {P : Program} {a : Act} {n : Nat} {L : List (Nat × Value)} {o : Oper} {w0 w : World} {v : Value} {R : Value → World → Prop} {l : List Asn}
theorem drop_at {cs : List Value} {j k : Nat} {xs : List Value} (h : (cs.drop j).take k = xs) {i : Nat} {u : Value} (hi : xs[i]? = some u) : cs[j + i]? = some u := by
  have hik : i < k := by
    have h1 := (List.getElem?_eq_some_iff.1 hi).1
    rw [← h] at h1
    simp at h1; omega
  rw [← h, List.getElem?_take_of_lt hik, List.getElem?_drop] at hi
  exact hi
theorem cBoxK (S : Sat w0 w l) (i : Nat) {b : Nat} {T : TypeId} {cs : List Value} (hi : l[i]? = some (box b T cs)) (j : Nat) {xs : List Value} (h : (cs.drop j).take xs.length = xs) : ∀ t u, xs[t]? = some u → cellA w (some ⟨b, 0, none⟩) (j + t) u :=
  fun t u hu => cBox S i hi (drop_at h hu)
theorem cRecK (S : Sat w0 w l) (i : Nat) {α : Type} {T : TypeId} {k : Nat} {f : α → List Value} (hf : ∀ x, (f x).length = k) {A : Option Addr} {n c : Nat} {X : List α} (hi : l[i]? = some (row T k (.slice A n c) n (X.flatMap f))) {m : Nat} (j : Nat) {e : α} (hm : X[m]? = some e) {xs : List Value} (h : ((f e).drop j).take xs.length = xs) : ∀ t u, xs[t]? = some u → cellA w A (m * k + j + t) u := by
  intro t u hu
  rw [Nat.add_assoc]
  exact cRec S i hf hi (j + t) hm (drop_at h hu)
theorem cRecK0 (S : Sat w0 w l) (i : Nat) {α : Type} {T : TypeId} {k : Nat} {f : α → List Value} (hf : ∀ x, (f x).length = k) {A : Option Addr} {n c : Nat} {X : List α} (hi : l[i]? = some (row T k (.slice A n c) n (X.flatMap f))) {m : Nat} {e : α} (hm : X[m]? = some e) {xs : List Value} (h : ((f e).drop 0).take xs.length = xs) : ∀ t u, xs[t]? = some u → cellA w A (m * k + t) u :=
  fun t u hu => cRecK S i hf hi 0 hm h t u hu
theorem cOldK (S : Sat w0 w l) (i : Nat) {α : Type} {k : Nat} {f : α → List Value} (hf : ∀ x, (f x).length = k) {A : Option Addr} {c : Nat} {X : List α} (hh : Recs k f w0 A c X) (hi : l[i]? = some (rest w0 (· < w0.heap.size))) {m : Nat} (j : Nat) {e : α} (hm : X[m]? = some e) {xs : List Value} (h : ((f e).drop j).take xs.length = xs) : ∀ t u, xs[t]? = some u → cellA w A (m * k + j + t) u := by
  intro t u hu
  rw [Nat.add_assoc]
  exact cOld S i hf hh hi (j + t) hm (drop_at h hu)
theorem cOldK0 (S : Sat w0 w l) (i : Nat) {α : Type} {k : Nat} {f : α → List Value} (hf : ∀ x, (f x).length = k) {A : Option Addr} {c : Nat} {X : List α} (hh : Recs k f w0 A c X) (hi : l[i]? = some (rest w0 (· < w0.heap.size))) {m : Nat} {e : α} (hm : X[m]? = some e) {xs : List Value} (h : ((f e).drop 0).take xs.length = xs) : ∀ t u, xs[t]? = some u → cellA w A (m * k + t) u :=
  fun t u hu => cOldK S i hf hh hi 0 hm h t u hu
theorem resK (S : Sat w0 w l) (i : Nat) {b : Nat} {Tb T : TypeId} {cs : List Value} (hi : l[i]? = some (box b Tb cs)) (hT : isAggT P T = true) (hs : sizeT P T = some cs.length) (hne : cs ≠ []) : (loadVar T ⟨b, 0, none⟩).run P w = .ok (.agg cs.toArray) w := by
  obtain ⟨ad, h1, h2⟩ := run_loadK (P := P) (A := some ⟨b, 0, none⟩) (j := 0) hT hs hne (fun t u hu => by rw [Nat.zero_add]; exact cBox S i hi hu)
  cases h1
  rw [add_plain] at h2
  exact h2
theorem res1 (S : Sat w0 w l) (i : Nat) {b : Nat} {Tb T : TypeId} {cs : List Value} (hi : l[i]? = some (box b Tb cs)) (hT : isOne P T = true) (hj : cs[0]? = some v) : (loadVar T ⟨b, 0, none⟩).run P w = .ok v w := by
  obtain ⟨ad, h1, h2⟩ := run_load1 (P := P) (A := some ⟨b, 0, none⟩) (j := 0) hT (cBox S i hi hj)
  cases h1
  rw [add_plain] at h2
  exact h2

/-- A store into an element of a row of records. -/
theorem op_storeRec {α : Type} (S : Sat w0 w l) (i : Nat) (T : TypeId) (x y : Operand) (A : Option Addr) (m k t : Nat) (v : Value) (y' : α) {Tr : TypeId} {N c : Nat} {f : α → List Value} {X : List α} {e : α} (F : Fr a n L) (hf : ∀ x, (f x).length = k) (hm : X[m]? = some e) (hi : l[i]? = some (row Tr k (.slice A N c) N (X.flatMap f))) (ho : o.op = .store T x y)
    (hx : val? L x = some (ptrA A (m * k + t))) (hy : val? L y = some v) (hs : sizeT P T = some v.cells.toList.length) (h1 : (v.cells.toList.all (·.oneCell')) = true) (hset : setAt (f e) t v.cells.toList = f y') (ht : Nat.ble (t + v.cells.toList.length) k = true) (hne : Nat.blt 0 v.cells.toList.length = true)
    (hR : ∀ w', Sat w0 w' (l.set i (row Tr k (.slice A N c) N ((X.set m y').flatMap f))) → R undef w') : OpR P a w o R := by
  obtain ⟨hm2, rfl⟩ := get_some hm
  have ht := Nat.le_of_ble_eq_true ht
  have hne : 0 < v.cells.toList.length := by rw [← Nat.blt_eq]; exact hne
  have hl := recs_len hf X
  have h2 : (m + 1) * k ≤ X.length * k := Nat.mul_le_mul_right k hm2
  rw [Nat.succ_mul] at h2
  refine op_storeR S i T x y A (m * k + t) v F hi ho hx hy hs (fun e => by rw [e] at hne; simp at hne) h1 (by rw [hl]; omega) ?_
  intro w' S'
  rw [setAt_field hf hm2 y' hset ht] at S'
  exact hR w' S'
theorem oneC_flat {α : Type} {f : α → List Value} (h : ∀ x, ((f x).all (·.oneCell')) = true) (X : List α) : ∀ u ∈ X.flatMap f, u.oneCell' = true := by
  intro u hu
  rw [List.mem_flatMap] at hu
  obtain ⟨x, _, hu⟩ := hu
  exact List.all_eq_true.1 (h x) u hu
/-- append to a row of records. -/
theorem op_append {α : Type} (S : Sat w0 w l) (i : Nat) (s x : Operand) (t e : TypeId) (z : Value) (k bytes : Nat) (X Y : List α) (f : α → List Value) {A : Option Addr} {c : Nat} (B : Option Addr) (cb : Nat) (F : Fr a n L) (hf : ∀ x, (f x).length = k) (h1 : ∀ x, ((f x).all (·.oneCell')) = true)
    (hi : l[i]? = some (row e k (.slice A X.length c) X.length (X.flatMap f))) (ho : o.op = .call { callee := .builtin .append, args := #[s, x], argTypes := #[t, t] })
    (ht : P.underlying t = some (.slice e)) (hinfo : (P.info? e).map (fun i => (i.zero, i.size, i.bytes)) = some (some z, k, bytes)) (hzs : z.cells.size = k) (hk : Nat.blt 0 k = true) (hby : Nat.blt 0 bytes = true) (hs : val? L s = some (.slice A X.length c)) (hx : val? L x = some (.slice B Y.length cb))
    (hB : B = none → Y.length = 0 ∧ cb = 0) (hsrc : SrcOf w B (Y.flatMap f)) (hb : (X.length + Y.length) * bytes ≤ 140737488355328)
    (hR : ∀ A' c' w', Sat w0 w' (l.set i (row e k (.slice A' (X ++ Y).length c') (X ++ Y).length ((X ++ Y).flatMap f))) → R (.slice A' (X ++ Y).length c') w') : OpR P a w o R := by
  have hk : 0 < k := by rw [← Nat.blt_eq]; exact hk
  have hby : 0 < bytes := by rw [← Nat.blt_eq]; exact hby
  have h63 : X.length + Y.length ≤ maxLen := by
    have := Nat.le_mul_of_pos_right (X.length + Y.length) hby
    unfold maxLen; omega
  refine wp_append_sat s x t ho S i e z k bytes ht hinfo hzs hk _ X.length (X.flatMap f) (F.val hs) hi B Y.length cb (Y.flatMap f) (F.val hx) hB (recs_len hf Y) hsrc (oneC_flat h1 Y) h63 hb ?_
  intro A' c' w' S' _ _
  rw [← List.length_append, ← List.flatMap_append] at S'
  rw [← List.length_append]
  exact ⟨_, rfl, hR A' c' w' S'⟩

/-- What is made, and what is answered by where it lies: of a step that makes one thing and reads nothing but the program. -/
def madeV (P : Program) : Sem Value → Option (Obj × (Nat → Option Value))
  | .new o k => some (o, fun r => pureOf P (k r))
  | .program k => madeV P (k P)
  | .mark _ k => madeV P k
  | _ => none
theorem madeV_run (P : Program) (w : World) : ∀ (s : Sem Value) (o : Obj) (g : Nat → Option Value) (v : Value), madeV P s = some (o, g) → g w.heap.size = some v → s.run P w = .ok v (w.alloc o)
  | .new o k, o', g, v, h, hg => by
    simp only [madeV, Option.some.injEq, Prod.mk.injEq] at h
    obtain ⟨rfl, rfl⟩ := h
    unfold Sem.run
    exact pureOf_run P _ v hg _
  | .program k, o, g, v, h, hg => by unfold madeV at h; unfold Sem.run; exact madeV_run P w (k P) o g v h hg
  | .mark m k, o, g, v, h, hg => by unfold madeV at h; unfold Sem.run; exact madeV_run P w k o g v h hg
  | .pure _, _, _, _, h, _ => by simp [madeV] at h
  | .load _ _ _, _, _, _, h, _ => by simp [madeV] at h
  | .store _ _ _ _, _, _, _, h, _ => by simp [madeV] at h
  | .shape _ _, _, _, _, h, _ => by simp [madeV] at h
  | .freeze _ _ _, _, _, _, h, _ => by simp [madeV] at h
  | .frozen _ _, _, _, _, h, _ => by simp [madeV] at h
  | .getObj _ _, _, _, _, h, _ => by simp [madeV] at h
  | .setObj _ _ _, _, _, _, h, _ => by simp [madeV] at h
  | .choose _ _, _, _, _, h, _ => by simp [madeV] at h
  | .sys _ _, _, _, _, h, _ => by simp [madeV] at h
  | .halt _, _, _, _, h, _ => by simp [madeV] at h
/-- A slice of so many elements, by where its row lies. -/
def sliceAt (N : Nat) (r : Nat) : Option Value := some (.slice (some ⟨r, 0, none⟩) N N)
theorem Sat.fillRow (S : Sat w0 w l) (i : Nat) (hi : l[i]? = some emp) (cs : Array Value) (T : TypeId) (k n c : Nat) (hc : cs.size = c * k) (hn : n ≤ c) (hm : c ≤ maxLen) : Sat w0 (w.alloc (.cells cs T)) (l.set i (row T k (.slice (some ⟨w.heap.size, 0, none⟩) n c) n (cs.toList.take (n * k)))) := by
  refine S.fillThing i hi ?_
  have := (Sat.pushRest w).made cs T k n c hc hn hm
  exact this
theorem exec_buildSlice {T : TypeId} {N : Nat} {parts : Array (Nat × Operand)} {e : TypeId} {cs : Array Value} (F : Fr a n L) (ho : o.op = .buildSlice T N parts) (hk : knowsO L o = true) (hc : madeV P (Instr.buildSlice T N (parts.map fun p => (p.1, evL L p.2))) = some (.cells cs e, sliceAt N)) :
    (execOp a.eval o).run P w = .ok (.value (.slice (some ⟨w.heap.size, 0, none⟩) N N)) (w.alloc (.cells cs e)) := by
  rw [F.exec hk]
  have h1 := madeV_run P w _ _ _ _ hc rfl
  unfold execOp
  rw [ho]
  show (Instr.buildSlice T N (parts.map fun p => (p.1, evL L p.2)) >>= fun v => pure (Next.value v)).run P w = _
  rw [Sem.run_bind, h1]
  rfl
theorem op_buildSlice {α : Type} (S : Sat w0 w l) (T : TypeId) (N : Nat) (parts : Array (Nat × Operand)) (e : TypeId) (k : Nat) (f : α → List Value) (X : List α) (F : Fr a n L) (ho : o.op = .buildSlice T N parts) (hk : knowsO L o = true) (hc : madeV P (Instr.buildSlice T N (parts.map fun p => (p.1, evL L p.2))) = some (.cells (X.flatMap f).toArray e, sliceAt N))
    (hl : (X.flatMap f).length = N * k) (hN : N ≤ maxLen) (hR : ∀ b w', Sat w0 w' (l ++ [row e k (.slice (some ⟨b, 0, none⟩) N N) N (X.flatMap f)]) → R (.slice (some ⟨b, 0, none⟩) N N) w') : OpR P a w o R := by
  have h := S.made (X.flatMap f).toArray e k N N (by simpa using hl) (Nat.le_refl _) hN
  simp only [List.take_of_length_le (Nat.le_of_eq hl)] at h
  exact op_run (exec_buildSlice F ho hk hc) (hR _ _ h)
theorem op_buildSliceF {α : Type} (S : Sat w0 w l) (i : Nat) (hi : l[i]? = some emp) (T : TypeId) (N : Nat) (parts : Array (Nat × Operand)) (e : TypeId) (k : Nat) (f : α → List Value) (X : List α) (F : Fr a n L) (ho : o.op = .buildSlice T N parts) (hk : knowsO L o = true) (hc : madeV P (Instr.buildSlice T N (parts.map fun p => (p.1, evL L p.2))) = some (.cells (X.flatMap f).toArray e, sliceAt N))
    (hl : (X.flatMap f).length = N * k) (hN : N ≤ maxLen) (hR : ∀ b w', Sat w0 w' (l.set i (row e k (.slice (some ⟨b, 0, none⟩) N N) N (X.flatMap f))) → R (.slice (some ⟨b, 0, none⟩) N N) w') : OpR P a w o R := by
  have h := S.fillRow i hi (X.flatMap f).toArray e k N N (by simpa using hl) (Nat.le_refl _) hN
  simp only [List.take_of_length_le (Nat.le_of_eq hl)] at h
  exact op_run (exec_buildSlice F ho hk hc) (hR _ _ h)

/-- make. -/
theorem madeCells_flat {α : Type} {f : α → List Value} {k : Nat} (hf : ∀ x, (f x).length = k) (hk : 0 < k) (y : α) (z : Array Value) (hz : z.toList = f y) (m : Nat) : madeCells z (m * k) = ((List.replicate m y).flatMap f).toArray := by
  have hzs : z.size = k := by rw [← Array.length_toList, hz, hf]
  apply Array.ext_getElem?
  intro i
  by_cases hi : i < m * k
  · have hq : i / k < m := Nat.div_lt_of_lt_mul (by rw [Nat.mul_comm]; exact hi)
    have hr : i % k < k := Nat.mod_lt _ hk
    have e : i = i / k * k + i % k := by rw [Nat.mul_comm]; exact (Nat.div_add_mod i k).symm
    have h2 : ((List.replicate m y).flatMap f)[i]? = (f ((List.replicate m y)[i / k]'(by simpa using hq)))[i % k]? := by
      conv => lhs; rw [e]
      exact recs_at hf (L := List.replicate m y) (by simpa using hq) hr
    have h3 : (f y)[i % k]? = some z[i % k] := by rw [← hz]; simp [hzs, hr]
    simp only [List.getElem?_toArray, h2, List.getElem_replicate, h3]
    simp [madeCells, hi, hzs, hr]
  · rw [Array.getElem?_eq_none (by rw [size_madeCells]; omega)]
    rw [List.getElem?_toArray, List.getElem?_eq_none (by rw [recs_len hf]; simp; omega)]
theorem exec_make {T e : TypeId} {x y : Operand} {kl kc : IntKind} {z : Value} {k bytes m : Nat} (F : Fr a n L) (ho : o.op = .makeSlice T x y) (hT : P.underlying T = some (.slice e)) (hinfo : (P.info? e).map (fun i => (i.zero, i.size, i.bytes)) = some (some z, k, bytes)) (hx : val? L x = some (.int kl (m : Int))) (hy : val? L y = some (.int kc (m : Int))) (hb : bytes * m ≤ 140737488355328) (h63 : m ≤ 140737488355328) :
    (execOp a.eval o).run P w = .ok (.value (.slice (some ⟨w.heap.size, 0, none⟩) m m)) (w.alloc (.cells (madeCells z.cells (m * k)) e)) := by
  obtain ⟨i, hi, hz, hs, hby⟩ := info_parts hinfo
  have h := run_make (P := P) w T e i z hT hi hz kl kc (m : Int) (m : Int) (by omega) (by omega) (by rw [hby]; have := Int.ofNat_le.2 hb; rw [Int.natCast_mul] at this; omega) (by omega)
  unfold execOp
  simp only [ho, F.val hx, F.val hy]
  simp only [Sem.run_bind, h, Result.andThen_ok, Sem.run_pure, Int.toNat_natCast, hs]
theorem op_make {α : Type} (S : Sat w0 w l) (T e : TypeId) (x y : Operand) (kl kc : IntKind) (z : Value) (k bytes m : Nat) (u : α) (f : α → List Value) (F : Fr a n L) (hf : ∀ x, (f x).length = k) (ho : o.op = .makeSlice T x y) (hT : P.underlying T = some (.slice e)) (hinfo : (P.info? e).map (fun i => (i.zero, i.size, i.bytes)) = some (some z, k, bytes)) (hk : Nat.blt 0 k = true)
    (hx : val? L x = some (.int kl (m : Int))) (hy : val? L y = some (.int kc (m : Int))) (hz : z.cells.toList = f u) (hb : bytes * m ≤ 140737488355328) (h63 : m ≤ 140737488355328)
    (hR : ∀ b w', Sat w0 w' (l ++ [row e k (.slice (some ⟨b, 0, none⟩) m m) m ((List.replicate m u).flatMap f)]) → R (.slice (some ⟨b, 0, none⟩) m m) w') : OpR P a w o R := by
  have hrun := exec_make (w := w) F ho hT hinfo hx hy hb h63
  have hk : 0 < k := by rw [← Nat.blt_eq]; exact hk
  have hl : ((List.replicate m u).flatMap f).length = m * k := by rw [recs_len hf]; simp
  have h := S.made (madeCells z.cells (m * k)) e k m m (size_madeCells _ _) (Nat.le_refl _) (by unfold maxLen; omega)
  rw [madeCells_flat hf hk u z.cells hz m] at h hrun
  simp only [List.take_of_length_le (Nat.le_of_eq hl)] at h
  exact op_run hrun (hR _ _ h)
theorem op_makeF {α : Type} (S : Sat w0 w l) (i : Nat) (hi : l[i]? = some emp) (T e : TypeId) (x y : Operand) (kl kc : IntKind) (z : Value) (k bytes m : Nat) (u : α) (f : α → List Value) (F : Fr a n L) (hf : ∀ x, (f x).length = k) (ho : o.op = .makeSlice T x y) (hT : P.underlying T = some (.slice e)) (hinfo : (P.info? e).map (fun i => (i.zero, i.size, i.bytes)) = some (some z, k, bytes)) (hk : Nat.blt 0 k = true)
    (hx : val? L x = some (.int kl (m : Int))) (hy : val? L y = some (.int kc (m : Int))) (hz : z.cells.toList = f u) (hb : bytes * m ≤ 140737488355328) (h63 : m ≤ 140737488355328)
    (hR : ∀ b w', Sat w0 w' (l.set i (row e k (.slice (some ⟨b, 0, none⟩) m m) m ((List.replicate m u).flatMap f))) → R (.slice (some ⟨b, 0, none⟩) m m) w') : OpR P a w o R := by
  have hrun := exec_make (w := w) F ho hT hinfo hx hy hb h63
  have hk : 0 < k := by rw [← Nat.blt_eq]; exact hk
  have hl : ((List.replicate m u).flatMap f).length = m * k := by rw [recs_len hf]; simp
  have h := S.fillRow i hi (madeCells z.cells (m * k)) e k m m (size_madeCells _ _) (Nat.le_refl _) (by unfold maxLen; omega)
  rw [madeCells_flat hf hk u z.cells hz m] at h hrun
  simp only [List.take_of_length_le (Nat.le_of_eq hl)] at h
  exact op_run hrun (hR _ _ h)
end
end Go.Proofs.Ytjbblgefgjmdaaa
