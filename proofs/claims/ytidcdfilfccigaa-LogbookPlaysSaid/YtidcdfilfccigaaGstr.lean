/- Strings, bytes, maps with keys that are strings, under Sat. Plain: over any program. -/
import Derived.Test.YtidcdfilfccigaaGf
import Derived.Test.YtidcdfilfccigaaBytes
import Derived.Lib.AppendStr
import Derived.Laws.IdiomStrings
import Derived.Laws.BytesString
import Derived.Sort.KeysCollected
import Derived.Sort.Walk0
import Derived.Laws.Cover1
namespace Go.Proofs.Ytidcdfilfccigaa
set_option linter.unusedVariables false
set_option linter.unusedSimpArgs false
set_option linter.unnecessarySimpa false
open Go Go.RowKit

/-- Bytes: what strings are made of. -/
abbrev Bs := List UInt8
def strV (x : Bs) : Value := .string ⟨x.toArray⟩
/-- A byte's cell. -/
def yC (x : UInt8) : List Value := [.int .u8 (x.toNat : Nat)]
theorem yC_len (x : UInt8) : (yC x).length = 1 := rfl
theorem yC_str (x : Bs) : Go.Lib.strCells ⟨x.toArray⟩ = x.flatMap yC := by
  unfold Go.Lib.strCells
  induction x with
  | nil => rfl
  | cons a x ih => simp only [List.flatMap_cons] at *; rw [← ih]; simp [yC]
theorem str_size (x : Bs) : (ByteArray.mk x.toArray).size = x.length := by simp [ByteArray.size]
theorem str_toList (x : Bs) : (ByteArray.mk x.toArray).toList = x := ByteArray.toList_mk x
section
variable {P : Program} {a : Act} {n : Nat} {L : List (Nat × Value)} {o : Oper} {w0 w : World} {R : Value → World → Prop} {l : List Asn}
theorem op_strlen (T : TypeId) (x : Operand) (X : Bs) (F : Fr a n L) (ho : o.op = .call { callee := .builtin .len, args := #[x], argTypes := #[T] }) (hT : P.underlying T = some .string) (hx : val? L x = some (strV X)) (hR : R (.int .i64 (X.length : Nat)) w) : OpR P a w o R := by
  refine op_run (v := .int .i64 (X.length : Nat)) (w' := w) ?_ hR
  unfold execOp
  simp only [ho, resolve, invoke, builtin, Builtin.len_, Sem.run_bind, Sem.run_pure, Result.andThen_ok, List.map_toArray, List.map_cons, List.map_nil, F.val hx]
  simp [run_underlying hT, strV, str_size, goInt]
theorem appendS_at (t u ty e : TypeId) (q : TypeInfo) (ht : P.underlying t = some (.slice e)) (hu : P.underlying u = some .string) (hi : P.info? e = some q) (hz : q.zero = some (.int .u8 0)) (h1 : q.size = 1) (h2 : q.bytes = 1) (v : Value) (n : Nat) (xs : List Value) (hown : w.ownsRow 0 e 1 v n xs) (s : ByteArray) (hb : n + s.size ≤ 140737488355328) :
    ∃ v' w', (Builtin.append_ #[t, u] ty #[v, .string s]).run P w = .ok v' w' ∧ w'.ownsRow 0 e 1 v' (n + s.size) (xs ++ Go.Lib.strCells s) ∧ w.grownBy w' v.ownBlock ∧ (v'.ownBlock = v.ownBlock ∨ v'.ownBlock = some w.heap.size) := by
  obtain ⟨v', w', hr, h3, h4, h5⟩ := Go.Lib.run_append_own_string (P := P) w 0 t u ty e q ht hu hi hz h1 h2 v n xs hown s (by unfold maxLen; omega) hb (Nat.zero_le _)
  refine ⟨v', w', hr, h3, h4, ?_⟩
  have hxl : xs.length = n := by simpa using hown.1
  rcases hown.2 with ⟨rfl, rfl⟩ | ⟨g, cap, cur, rfl, hbg, hg, hnc, hcm, hcs, htake⟩
  · by_cases hm : s.size = 0
    · rw [h5.2 ⟨rfl, hm⟩]; exact .inl rfl
    · rw [run_append_nil_string (P := P) w t u ty e q (.int .u8 0) ht hu hi hz s (by omega) (by omega) (by rw [h2]; omega)] at hr
      injection hr with e1 e2
      rw [← e1]; exact .inr rfl
  · by_cases hroom : n + s.size ≤ cap
    · have hc9 : cur.size = cap := by simpa using hcs
      rw [Go.Lib.run_append_room_string (P := P) w t u ty e q ht hu hi h1 g n cap cur hg s hroom (by omega)] at hr
      injection hr with e1 e2
      rw [← e1]; exact .inl rfl
    · have holds : ∀ j u, xs[j]? = some u → w.cell? ((⟨g, 0, none⟩ : Addr).add j) = some u := hown.cells (g := g) rfl
      rw [Go.Lib.run_append_grow_string (P := P) w t u ty e q (.int .u8 0) ht hu hi hz ⟨g, 0, none⟩ n cap xs (by rw [h1]; simpa using hxl) holds s (by omega) (by omega) (by rw [h2]; exact growslice_fits (by omega) (by omega))] at hr
      injection hr with e1 e2
      rw [← e1]; exact .inr rfl
theorem op_appendS (S : Sat w0 w l) (i : Nat) (s x : Operand) (t u e : TypeId) (X Y : Bs) {A : Option Addr} {c : Nat} (F : Fr a n L)
    (hi : l[i]? = some (row e 1 (.slice A X.length c) X.length (X.flatMap yC))) (ho : o.op = .call { callee := .builtin .append, args := #[s, x], argTypes := #[t, u] })
    (ht : P.underlying t = some (.slice e)) (hu : P.underlying u = some .string) (hinfo : (P.info? e).map (fun i => (i.zero, i.size, i.bytes)) = some (some (.int .u8 0), 1, 1)) (hs : val? L s = some (.slice A X.length c)) (hx : val? L x = some (strV Y))
    (hb : X.length + Y.length ≤ 140737488355328)
    (hR : ∀ A' c' w', Sat w0 w' (l.set i (row e 1 (.slice A' (X ++ Y).length c') (X ++ Y).length ((X ++ Y).flatMap yC))) → R (.slice A' (X ++ Y).length c') w') : OpR P a w o R := by
  cases hq : P.info? e with
  | none => rw [hq] at hinfo; cases hinfo
  | some q =>
    rw [hq] at hinfo
    simp only [Option.map_some, Option.some.injEq, Prod.mk.injEq] at hinfo
    obtain ⟨hz, h1, h2⟩ := hinfo
    obtain ⟨v', w', hr, h3, h4, h5⟩ := appendS_at (P := P) (w := w) t u o.type e q ht hu hq hz h1 h2 _ _ _ (S.rowOf hi) ⟨Y.toArray⟩ (by rw [str_size]; exact hb)
    rw [str_size] at h3
    have h6 := S.grown i hi h3 h4 h5
    obtain ⟨A', c', rfl, _⟩ := row_slice h3
    rw [yC_str, ← List.flatMap_append, ← List.length_append] at h6
    refine op_run (v := .slice A' (X.length + Y.length) c') (w' := w') ?_ ?_
    · unfold execOp
      simp only [ho, resolve, invoke, builtin, Sem.run_bind, Sem.run_pure, Result.andThen_ok, List.map_toArray, List.map_cons, List.map_nil, F.val hs, F.val hx, strV, hr]
    · rw [← List.length_append]
      exact hR A' c' w' h6
theorem op_seql (T T' : TypeId) (x y : Operand) (X Y : Bs) (v : Bool) (F : Fr a n L) (ho : o.op = .binOp .eql T x y T') (hx : val? L x = some (strV X)) (hy : val? L y = some (strV Y)) (hv : (X == Y) = v) (hR : R (.bool v) w) : OpR P a w o R := by
  subst hv
  refine op_run (v := .bool (X == Y)) (w' := w) ?_ hR
  unfold execOp
  simp [ho, F.val hx, F.val hy, strV, binOp_string_eql, str_toList, eqGuard]
theorem op_sneq (T T' : TypeId) (x y : Operand) (X Y : Bs) (v : Bool) (F : Fr a n L) (ho : o.op = .binOp .neq T x y T') (hx : val? L x = some (strV X)) (hy : val? L y = some (strV Y)) (hv : (!(X == Y)) = v) (hR : R (.bool v) w) : OpR P a w o R := by
  subst hv
  refine op_run (v := .bool !(X == Y)) (w' := w) ?_ hR
  unfold execOp
  simp [ho, F.val hx, F.val hy, strV, binOp_string_neq, str_toList, eqGuard]
theorem op_sgeq (T T' : TypeId) (x y : Operand) (X Y : Bs) (v : Bool) (F : Fr a n L) (ho : o.op = .binOp .geq T x y T') (hx : val? L x = some (strV X)) (hy : val? L y = some (strV Y)) (hv : (decide (Y ≤ X)) = v) (hR : R (.bool v) w) : OpR P a w o R := by
  subst hv
  refine op_run (v := .bool (decide (Y ≤ X))) (w' := w) ?_ hR
  have e : (!Op.bytesLess X Y) = decide (Y ≤ X) := by
    rw [bytesLess_eq]
    by_cases h : Y ≤ X
    · simp [h, List.not_lt.2 h]
    · simp [h, List.not_le.1 h]
  unfold execOp
  simp [ho, F.val hx, F.val hy, strV, binOp_string_geq, str_toList, e, eqGuard]
theorem op_sindex (T : TypeId) (x y : Operand) (X : Bs) (j : Nat) (b : UInt8) (F : Fr a n L) (ho : o.op = .index T x y) (hT : P.underlying T = some .string) (hx : val? L x = some (strV X)) (hy : val? L y = some (.int .i64 (j : Nat))) (hb : X[j]? = some b) (hR : R (.int .u8 (b.toNat : Nat)) w) : OpR P a w o R := by
  refine op_run (v := .int .u8 (b.toNat : Nat)) (w' := w) ?_ hR
  have hj : j < X.length := (List.getElem?_eq_some_iff.1 hb).1
  have hbe := (List.getElem?_eq_some_iff.1 hb).2
  unfold execOp
  have h1 : 0 ≤ ((j : Nat) : Int) ∧ ((j : Nat) : Int) < ((ByteArray.mk X.toArray).size : Nat) := ⟨by omega, by rw [str_size]; omega⟩
  simp only [ho, F.val hx, F.val hy, strV, Sem.run_bind, run_index_string w T _ _ _ hT, dif_pos h1, Result.andThen_ok, Sem.run_pure]
  have e : (ByteArray.mk X.toArray)[((j : Nat) : Int).toNat]'(by have := h1.2; omega) = b := by
    show X.toArray[((j : Nat) : Int).toNat]'_ = b
    simpa using hbe
  rw [e]
/-- A byte slice, from a string. -/
def sbA (b : Nat) (e : TypeId) (X : Bs) (c : Nat) : Asn := blk b (.cells (bytesRow ⟨X.toArray⟩ c) e ((bytesRow ⟨X.toArray⟩ c).size, (bytesRow ⟨X.toArray⟩ c).size + 1))
theorem op_bytes (S : Sat w0 w l) (s t e : TypeId) (x : Operand) (X : Bs) (F : Fr a n L) (ho : o.op = .convert s t x) (hs : P.underlying s = some .string) (ht : P.underlying t = some (.slice e)) (he : P.underlying e = some (.int .u8)) (hx : val? L x = some (strV X))
    (hR : ∀ b c w', Sat w0 w' (l ++ [sbA b e X c]) → R (.slice (some ⟨b, 0, none⟩) X.length c) w') : OpR P a w o R := by
  have h := run_bytes_of_string (P := P) w s t e ⟨X.toArray⟩ hs ht he
  rw [str_size] at h
  refine op_run (v := .slice (some ⟨w.heap.size, 0, none⟩) X.length (grownCap w X.length 0 e)) ?_ (hR w.heap.size _ _ (S.drew.allocBlk _))
  unfold execOp
  simp only [ho, F.val hx, strV, Sem.run_bind, h, Result.andThen_ok, Sem.run_pure]
theorem sat_blk {w0 w : World} {l : List Asn} (h : Sat w0 w l) {i b : Nat} {T : TypeId} {q : Nat × Nat} {C : Array Value} (hi : l[i]? = some (blk b (.cells C T q))) : SrcOf w (some ⟨b, 0, none⟩) C.toList := by
  obtain ⟨F, _, hb⟩ := h.get hi
  intro ad had j u hj
  cases had
  have e : (⟨b, 0, none⟩ : Addr).add j = ⟨b, j, none⟩ := by unfold Addr.add; split <;> simp_all
  rw [e]
  simp [World.cell?, hb] at hj ⊢
  exact hj
theorem Sat.sbOf (S : Sat w0 w l) {i b : Nat} {e : TypeId} {X : Bs} {c : Nat} (hi : l[i]? = some (sbA b e X c)) (hc : X.length ≤ 140737488355328) : Recs 1 yC w (some ⟨b, 0, none⟩) c X := by
  refine ⟨nofun, fun ad had j u hj => ?_, hc⟩
  refine sat_blk S hi ad had j u ?_
  have hjl := (List.getElem?_eq_some_iff.1 hj).1
  rw [← yC_str] at hj hjl
  unfold bytesRow
  rw [Array.toList_append]
  have e1 : (Array.map (fun b : UInt8 => Value.int .u8 b.toNat) (ByteArray.mk X.toArray).data).toList = Go.Lib.strCells ⟨X.toArray⟩ := by simp [Go.Lib.strCells]
  rw [e1, List.getElem?_append_left hjl]
  exact hj
theorem yC_ints (X : Bs) : X.flatMap yC = (X.map fun b => (b.toNat : Int)).map (Value.int .u8) := by
  induction X with
  | nil => rfl
  | cons a X ih => simp only [List.flatMap_cons, List.map_cons, ih]; rfl
/-- A string, from bytes. -/
theorem op_tostr {A : Option Addr} {c : Nat} {X : Bs} (H : Recs 1 yC w A c X) (s e t : TypeId) (x : Operand) (F : Fr a n L) (ho : o.op = .convert s t x) (hs : P.underlying s = some (.slice e)) (he : P.underlying e = some (.int .u8)) (ht : P.underlying t = some .string) (hx : val? L x = some (.slice A X.length c)) (hR : R (strV X) w) : OpR P a w o R := by
  have h : (convert s t (.slice A X.length c)).run P w = .ok (strV X) w := by
    cases A with
    | none =>
      have h0 : X = [] := List.eq_nil_of_length_eq_zero (H.none_ rfl).1
      subst h0
      exact run_convert_bytes_nil w s e hs he _ _ t ht
    | some ad =>
      have hl : (loadCells ad X.length).run P w = .ok ((X.map fun b => (b.toNat : Int)).map (Value.int .u8)).toArray w := by
        have := run_loadCells_list (P := P) w ad (X.flatMap yC) (fun j u hj => H.src ad rfl j u hj)
        rw [yC_ints] at this
        simpa using this
      rw [run_convert_bytes_string w s t e _ _ c hs he ht, run_bytesToString w ad X.length c _ hl, foldl_push_byteCells]
      simp [strV, ByteArray.empty, ByteArray.emptyWithCapacity]
      rfl
  refine op_run (v := strV X) (w' := w) ?_ hR
  unfold execOp
  simp only [ho, F.val hx, Sem.run_bind, h, Result.andThen_ok, Sem.run_pure]
theorem op_tostrN {A : Option Addr} {c N : Nat} {X : Bs} (H : Recs 1 yC w A c X) (hN : X.length = N) (s e t : TypeId) (x : Operand) (F : Fr a n L) (ho : o.op = .convert s t x) (hs : P.underlying s = some (.slice e)) (he : P.underlying e = some (.int .u8)) (ht : P.underlying t = some .string) (hx : val? L x = some (.slice A N c)) (hR : R (strV X) w) : OpR P a w o R := by
  subst hN
  exact op_tostr H s e t x F ho hs he ht hx hR
theorem own_cap {B : Nat} {T : TypeId} {k N c : Nat} {A : Option Addr} {xs : List Value} (h : w.ownsRow B T k (.slice A N c) N xs) : N ≤ c := by
  rcases h.2 with ⟨h1, h2⟩ | ⟨g', cap, cur, h1, h2, h3, h4, h5, h6, h7⟩
  · omega
  · injection h1 with ha hn hc; omega
theorem byte_wrap (m : Nat) : IntKind.wrap .u8 ((m : Nat) : Int) = ((UInt8.ofNat m).toNat : Nat) := by
  have h1 : (UInt8.ofNat m).toNat = m % 256 := by simp
  rw [h1]
  unfold IntKind.wrap
  simp [IntKind.signed, IntKind.bits]
theorem op_shr (T T' : TypeId) (x y : Operand) (k k' : IntKind) (v q : Nat) (F : Fr a n L) (ho : o.op = .binOp .shr T x y T') (hx : val? L x = some (.int k (v : Nat))) (hy : val? L y = some (.int k' (q : Nat))) (hq : Nat.ble q k.bits = true) (hR : R (.int k ((v / 2 ^ q : Nat) : Int)) w) : OpR P a w o R := by
  refine op_run (v := .int k ((v / 2 ^ q : Nat) : Int)) (w' := w) ?_ hR
  have h1 : ¬ ((q : Nat) : Int) < 0 := by omega
  have h2 : min q k.bits = q := Nat.min_eq_left (Nat.le_of_ble_eq_true hq)
  have h3 : ((v : Nat) : Int).fdiv (2 ^ q) = ((v / 2 ^ q : Nat) : Int) := by
    have h9 : ((2 : Int) ^ q) = ((2 ^ q : Nat) : Int) := by rw [Int.natCast_pow]; rfl
    rw [h9, Int.fdiv_eq_ediv_of_nonneg _ (Int.natCast_nonneg _)]
    rfl
  unfold execOp
  simp only [ho, F.val hx, F.val hy]
  simp only [eqGuard, binOp, Op.shift, if_neg h1, Int.toNat_natCast, h2, h3]
  simp
theorem op_same {o o' : Oper} (hd : o.dst = o'.dst) (h : (execOp a.eval o).run P w = (execOp a.eval o').run P w) (h' : OpR P a w o' R) : OpR P a w o R := by
  unfold OpR Oper.wp at *
  have e : ∀ r, Oper.upon P o a (fun a' w' => ∃ v, a' = a.put o.dst v ∧ R v w') (fun _ _ _ => False) r = Oper.upon P o' a (fun a' w' => ∃ v, a' = a.put o'.dst v ∧ R v w') (fun _ _ _ => False) r := fun r => by
    unfold Oper.upon
    rw [hd]
  rw [h, e]
  exact h'
/-- An append of a slice of another type with one element. -/
theorem op_appendU {α : Type} (S : Sat w0 w l) (i : Nat) (s x : Operand) (t u e e' : TypeId) (z : Value) (k bytes : Nat) (X Y : List α) (f : α → List Value) {A : Option Addr} {c : Nat} (B : Option Addr) (cb : Nat) (F : Fr a n L) (hf : ∀ x, (f x).length = k) (h1 : ∀ x, ((f x).all (·.oneCell')) = true)
    (hi : l[i]? = some (row e k (.slice A X.length c) X.length (X.flatMap f))) (ho : o.op = .call { callee := .builtin .append, args := #[s, x], argTypes := #[t, u] })
    (ht : P.underlying t = some (.slice e)) (hu : P.underlying u = some (.slice e')) (hinfo : (P.info? e).map (fun i => (i.zero, i.size, i.bytes)) = some (some z, k, bytes)) (hzs : z.cells.size = k) (hk : Nat.blt 0 k = true) (hby : Nat.blt 0 bytes = true) (hs : val? L s = some (.slice A X.length c)) (hx : val? L x = some (.slice B Y.length cb))
    (hB : B = none → Y.length = 0 ∧ cb = 0) (hsrc : SrcOf w B (Y.flatMap f)) (hb : (X.length + Y.length) * bytes ≤ 140737488355328)
    (hR : ∀ A' c' w', Sat w0 w' (l.set i (row e k (.slice A' (X ++ Y).length c') (X ++ Y).length ((X ++ Y).flatMap f))) → R (.slice A' (X ++ Y).length c') w') : OpR P a w o R := by
  refine op_same (o' := { o with op := .call { callee := .builtin .append, args := #[s, x], argTypes := #[t, t] } }) rfl ?_ (op_append S i s x t e z k bytes X Y f B cb F hf h1 hi rfl ht hinfo hzs hk hby hs hx hB hsrc hb hR)
  obtain ⟨q, hq, _⟩ := info_parts hinfo
  have h2 : (Builtin.append_ #[t, u] o.type #[.slice A X.length c, .slice B Y.length cb]).run P w = (Builtin.append_ #[t, t] o.type #[.slice A X.length c, .slice B Y.length cb]).run P w := by
    unfold Builtin.append_
    simp [run_underlying ht, run_underlying hu, sizeOf, typeInfo, hq]
  unfold execOp
  simp only [ho, resolve, invoke, builtin, Sem.run_bind, Sem.run_pure, Result.andThen_ok, List.map_toArray, List.map_cons, List.map_nil, F.val hs, F.val hx, h2]
/-- Where a part of a slice begins. -/
def subA (A : Option Addr) (c lo k : Nat) : Option Addr := if c = lo then A else A.map (·.add (lo * k))
theorem op_sliceN (T e : TypeId) (x y : Operand) (A : Option Addr) (N c m k : Nat) (kd : IntKind) (F : Fr a n L) (ho : o.op = .slice T x (some y) none none) (hT : P.underlying T = some (.slice e)) (hk : sizeT P e = some k) (hx : val? L x = some (.slice A N c)) (hy : val? L y = some (.int kd (m : Nat))) (hm : m ≤ N) (hR : R (.slice (subA A c m k) (N - m) (c - m)) w) : OpR P a w o R := by
  refine op_run (v := .slice (subA A c m k) (N - m) (c - m)) (w' := w) ?_ hR
  unfold sizeT at hk
  cases hi' : P.info? e with
  | none => rw [hi'] at hk; cases hk
  | some i =>
    rw [hi'] at hk
    simp only [Option.map_some, Option.some.injEq] at hk
    unfold execOp
    simp only [ho, Option.map_none, Option.map_some, F.val hx, F.val hy]
    have hmi : ((m : Nat) : Int) ≤ (N : Int) := by omega
    simp only [Instr.sliceAt, run_underlying hT, Sem.run_bind, Result.andThen_ok, Instr.slice, Instr.sliceBounds, Instr.sliceBound, asIntOf, Sem.run_pure, sizeOf, tinfo hi', if_pos (And.intro (Int.natCast_nonneg m) hmi), Option.isSome_none, hk, Int.toNat_natCast]
    simp [subA, hk]
theorem op_sliceLH (T e : TypeId) (x y y2 : Operand) (A : Option Addr) (N c m q k : Nat) (kd kd2 : IntKind) (F : Fr a n L) (ho : o.op = .slice T x (some y) (some y2) none) (hT : P.underlying T = some (.slice e)) (hk : sizeT P e = some k) (hx : val? L x = some (.slice A N c)) (hy : val? L y = some (.int kd (m : Nat))) (hy2 : val? L y2 = some (.int kd2 (q : Nat))) (hm : m ≤ q) (hq : q ≤ c) (hR : R (.slice (subA A c m k) (q - m) (c - m)) w) : OpR P a w o R := by
  refine op_run (v := .slice (subA A c m k) (q - m) (c - m)) (w' := w) ?_ hR
  unfold sizeT at hk
  cases hi' : P.info? e with
  | none => rw [hi'] at hk; cases hk
  | some i =>
    rw [hi'] at hk
    simp only [Option.map_some, Option.some.injEq] at hk
    unfold execOp
    simp only [ho, Option.map_none, Option.map_some, F.val hx, F.val hy, F.val hy2]
    have hmi : ((m : Nat) : Int) ≤ (q : Int) := by omega
    have hqi : ((q : Nat) : Int) ≤ (c : Int) := by omega
    simp only [Instr.sliceAt, run_underlying hT, Sem.run_bind, Result.andThen_ok, Instr.slice, Instr.sliceBounds, Instr.sliceBound, asIntOf, Sem.run_pure, sizeOf, tinfo hi', if_pos (And.intro (Int.natCast_nonneg m) hmi), if_pos (And.intro (Int.natCast_nonneg q) hqi), Option.isSome_none, hk, Int.toNat_natCast, if_true]
    simp [subA, hk]
theorem Recs.take {A : Option Addr} {c : Nat} {X : Bs} (H : Recs 1 yC w A c X) (q : Nat) : Recs 1 yC w A c (X.take q) := by
  refine ⟨fun h => ⟨by rw [List.length_take, (H.none_ h).1]; simp, (H.none_ h).2⟩, fun ad had j u hj => H.src ad had j u ?_, by rw [List.length_take]; have := H.len; omega⟩
  have e : X.flatMap yC = (X.take q).flatMap yC ++ (X.drop q).flatMap yC := by rw [← List.flatMap_append, List.take_append_drop]
  rw [e, List.getElem?_append_left (List.getElem?_eq_some_iff.1 hj).1]
  exact hj
theorem Recs.drop {A : Option Addr} {c : Nat} {X : Bs} (H : Recs 1 yC w A c X) (m : Nat) (hc : X.length ≤ c) : Recs 1 yC w (subA A c m 1) (c - m) (X.drop m) := by
  have hle : (X.drop m).length ≤ X.length := by rw [List.length_drop]; omega
  refine ⟨fun h => ?_, fun ad had j u hj => ?_, Nat.le_trans hle H.len⟩
  · have hA : A = none := by
      unfold subA at h
      split at h
      · exact h
      · cases A with
        | none => rfl
        | some _ => cases h
    have h0 := H.none_ hA
    exact ⟨by rw [List.length_drop, h0.1]; simp, by rw [h0.2]; simp⟩
  · unfold subA at had
    split at had
    · rename_i hcm
      have h0 : X.drop m = [] := List.drop_eq_nil_of_le (by omega)
      rw [h0] at hj
      cases hj
    · cases A with
      | none => cases had
      | some b =>
        simp only [Option.map_some, Option.some.injEq] at had
        subst had
        rw [add_add, Nat.mul_one]
        refine H.src b rfl (m + j) u ?_
        have e : X.flatMap yC = (X.take m).flatMap yC ++ (X.drop m).flatMap yC := by rw [← List.flatMap_append, List.take_append_drop]
        by_cases hm : m ≤ X.length
        · have hl : ((X.take m).flatMap yC).length = m := by rw [recs_len yC_len, List.length_take]; omega
          rw [e, List.getElem?_append_right (by omega), hl, Nat.add_sub_cancel_left]
          exact hj
        · rw [List.drop_eq_nil_of_le (by omega)] at hj
          cases hj
end
end Go.Proofs.Ytidcdfilfccigaa
