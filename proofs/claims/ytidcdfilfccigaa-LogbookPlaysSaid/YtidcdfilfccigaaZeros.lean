/- append(row, make([]T, m)...), the row the call's own. Plain. (After the library's proofs for append of a slice.) -/
import Derived.Test.YtidcdfilfccigaaMoves
namespace Go.Proofs.Ytidcdfilfccigaa
set_option linter.unusedVariables false
set_option linter.unusedSimpArgs false
set_option linter.unnecessarySimpa false
open Go Go.RowKit

section
variable {P : Program} (w : World)
theorem run_zeros_nil (t ti ty e : TypeId) (i : TypeInfo) (z : Value) (ht : P.underlying t = some (.slice e)) (hti : P.underlying ti = some (.int .i64)) (hi : P.info? e = some i) (hz : i.zero = some z) (hsz : 0 < i.size)
    (m : Nat) (h0 : 0 < m) (h63 : (m : Int) ≤ 9223372036854775807) (h48 : m * i.bytes ≤ 281474976710656) :
    (Builtin.append_ #[t, ti] ty #[.slice none 0 0, .int .i64 m]).run P w =
      .ok (.slice (some ⟨w.heap.size, 0, none⟩) m (grownCap w m 0 e)) (w.drew.alloc (.cells (Builtin.zeroCells z.cells m ++ Builtin.zeroCells z.cells (grownCap w m 0 e - m)) e)) := by
  have hn : m ≠ 0 := by omega
  have hw : IntKind.i64.wrap (m : Int) = m := wrap64_id (by omega) h63
  have h0' : ¬ ((m : Int) < 0) := by omega
  have h63' : ¬ (9223372036854775807 < (m : Int)) := by omega
  have h48' : ¬ (281474976710656 < Builtin.nextslicecap m 0 * i.bytes) := by rw [nextslicecap_zero h0]; omega
  have h48i : ¬ ((281474976710656 : Int) < (m : Int) * (i.bytes : Int)) := by
    have := Int.ofNat_le.2 h48
    rw [Int.natCast_mul] at this
    exact Int.not_lt.2 this
  have hms : ¬ (m * i.size = 0) := Nat.mul_ne_zero (by omega) (by omega)
  simp [Builtin.append_, run_underlying ht, run_underlying hti, sizeOf, typeInfo, zeroValue, hi, hz, Builtin.lenOf, asInt, asIntOf, hw, h0', h48i, hn, hms, h63', h48', Question.forced, run_firstCells_none, newRow, grownCap]

theorem run_zeros_grow (t ti ty e : TypeId) (i : TypeInfo) (z : Value) (ht : P.underlying t = some (.slice e)) (hti : P.underlying ti = some (.int .i64)) (hi : P.info? e = some i) (hz : i.zero = some z) (hsz : 0 < i.size)
    (b : Addr) (sLen sCap : Nat) (olds : List Value) (hlo : olds.length = sLen * i.size) (holds : ∀ j v, olds[j]? = some v → w.cell? (b.add j) = some v)
    (m : Nat) (h0 : 0 < m) (hg : sCap < sLen + m) (h63 : ((sLen + m : Nat) : Int) ≤ 9223372036854775807) (hm48 : m * i.bytes ≤ 281474976710656) (hfit : Builtin.nextslicecap (sLen + m) sCap * i.bytes ≤ 281474976710656) :
    (Builtin.append_ #[t, ti] ty #[.slice (some b) sLen sCap, .int .i64 m]).run P w =
      .ok (.slice (some ⟨w.heap.size, 0, none⟩) (sLen + m) (grownCap w (sLen + m) sCap e))
        (w.drew.alloc (.cells (olds.toArray ++ Builtin.zeroCells z.cells m ++ Builtin.zeroCells z.cells (grownCap w (sLen + m) sCap e - (sLen + m))) e)) := by
  have hn : ¬ (sLen + m ≤ sCap) := by omega
  have hw : IntKind.i64.wrap (m : Int) = m := wrap64_id (by omega) (by omega)
  have h0' : ¬ ((m : Int) < 0) := by omega
  have h63' : ¬ (9223372036854775807 < ((sLen : Int) + (m : Int))) := by omega
  have h48' : ¬ (281474976710656 < Builtin.nextslicecap (sLen + m) sCap * i.bytes) := by omega
  have h48i : ¬ ((281474976710656 : Int) < (m : Int) * (i.bytes : Int)) := by
    have := Int.ofNat_le.2 hm48
    rw [Int.natCast_mul] at this
    exact Int.not_lt.2 this
  have hms : ¬ (m * i.size = 0) := Nat.mul_ne_zero (by omega) (by omega)
  have hfo := run_firstCells_some (P := P) w.drew i.size sLen b sLen sCap olds hlo (by simpa using holds)
  simp [Builtin.append_, run_underlying ht, run_underlying hti, sizeOf, typeInfo, zeroValue, hi, hz, Builtin.lenOf, asInt, asIntOf, hw, h0', h48i, hn, hms, h63', h48', Question.forced, hfo, newRow, grownCap]

theorem run_zeros_room (t ti ty e : TypeId) (i : TypeInfo) (z : Value) (ht : P.underlying t = some (.slice e)) (hti : P.underlying ti = some (.int .i64)) (hi : P.info? e = some i) (hz : i.zero = some z)
    (g sLen sCap : Nat) (cur : Array Value) (hg : w.heap[g]? = some (.cells cur e (0, 0))) (hzs : z.cells.size = i.size) (h1 : ∀ u ∈ (Builtin.zeroCells z.cells 1).toList, u.oneCell' = true)
    (m : Nat) (h63 : (m : Int) ≤ 9223372036854775807) (hm48 : m * i.bytes ≤ 281474976710656) (hz1 : ∀ u ∈ (Builtin.zeroCells z.cells m).toList, u.oneCell' = true)
    (hroom : sLen + m ≤ sCap) (hfit : sLen * i.size + m * i.size ≤ cur.size) :
    (Builtin.append_ #[t, ti] ty #[.slice (some ⟨g, 0, none⟩) sLen sCap, .int .i64 m]).run P w =
      .ok (.slice (some ⟨g, 0, none⟩) (sLen + m) sCap) (w.setRow g (cur.toList.take (sLen * i.size) ++ (Builtin.zeroCells z.cells m).toList ++ cur.toList.drop (sLen * i.size + (Builtin.zeroCells z.cells m).toList.length)).toArray) := by
  have hlen : (Builtin.zeroCells z.cells m).toList.length = m * i.size := by simp [size_zeroCells, hzs]
  have hst := run_storeCells_at P g (sLen * i.size) e (Builtin.zeroCells z.cells m).toList 0 cur w hg (by rw [hlen]; simpa using hfit) hz1
  simp only [Nat.add_zero] at hst
  have hw : IntKind.i64.wrap (m : Int) = m := wrap64_id (by omega) h63
  have h0' : ¬ ((m : Int) < 0) := by omega
  have h48i : ¬ ((281474976710656 : Int) < (m : Int) * (i.bytes : Int)) := by
    have := Int.ofNat_le.2 hm48
    rw [Int.natCast_mul] at this
    exact Int.not_lt.2 this
  by_cases hms : m * i.size = 0
  · have hnil : Builtin.zeroCells z.cells m = #[] := by
      apply Array.eq_empty_of_size_eq_zero
      rw [size_zeroCells, hzs, hms]
    rw [hnil] at hst ⊢
    simp [Builtin.append_, run_underlying ht, run_underlying hti, sizeOf, typeInfo, zeroValue, hi, hz, Builtin.lenOf, asInt, asIntOf, hw, h0', h48i, hms, hroom, Addr.add_lit] at hst ⊢
    rw [hst]; rfl
  · simp [Builtin.append_, run_underlying ht, run_underlying hti, sizeOf, typeInfo, zeroValue, hi, hz, Builtin.lenOf, asInt, asIntOf, hw, h0', h48i, hms, hroom, Addr.add_lit, hst]

theorem run_zeros_own (base : Nat) (t ti ty e : TypeId) (i : TypeInfo) (z : Value) (size bytes : Nat) (ht : P.underlying t = some (.slice e)) (hti : P.underlying ti = some (.int .i64)) (hi : P.info? e = some i) (hz : i.zero = some z)
    (hsize : i.size = size) (hby : i.bytes = bytes) (hzs : z.cells.size = size) (hsz : 0 < size)
    (v : Value) (n : Nat) (xs : List Value) (hown : w.ownsRow base e size v n xs) (m : Nat) (h1 : ∀ u ∈ (Builtin.zeroCells z.cells m).toList, u.oneCell' = true) (h1' : ∀ u ∈ (Builtin.zeroCells z.cells 1).toList, u.oneCell' = true)
    (h63 : n + m ≤ maxLen) (hbytes : (n + m) * bytes ≤ 140737488355328) (hbase : base ≤ w.heap.size) :
    ∃ v' w', (Builtin.append_ #[t, ti] ty #[v, .int .i64 m]).run P w = .ok v' w' ∧ w'.ownsRow base e size v' (n + m) (xs ++ (Builtin.zeroCells z.cells m).toList) ∧ w.grownBy w' v.ownBlock ∧
      (v'.ownBlock = v.ownBlock ∨ v'.ownBlock = some w.heap.size) := by
  subst hsize
  subst hby
  have hsmall : n + m ≤ 9223372036854775807 := by simp only [maxLen] at h63; omega
  have hm48 : m * i.bytes ≤ 281474976710656 := by
    have : m * i.bytes ≤ (n + m) * i.bytes := Nat.mul_le_mul_right _ (by omega)
    omega
  have hl : (Builtin.zeroCells z.cells m).toList.length = m * i.size := by simp [size_zeroCells, hzs]
  have hlen : (xs ++ (Builtin.zeroCells z.cells m).toList).length = (n + m) * i.size := by rw [List.length_append, hown.1, hl, Nat.add_mul]
  have grown : ∀ (old : Nat), old < n + m → ∀ (row : Option Nat),
      (w.drew.alloc (.cells (xs.toArray ++ Builtin.zeroCells z.cells m ++ Builtin.zeroCells z.cells (grownCap w (n + m) old e - (n + m))) e)).ownsRow base e i.size
        (.slice (some ⟨w.heap.size, 0, none⟩) (n + m) (grownCap w (n + m) old e)) (n + m) (xs ++ (Builtin.zeroCells z.cells m).toList) ∧
      w.grownBy (w.drew.alloc (.cells (xs.toArray ++ Builtin.zeroCells z.cells m ++ Builtin.zeroCells z.cells (grownCap w (n + m) old e - (n + m))) e)) row := by
    intro old ho row
    have hge := grownCap_ge w (n + m) old e
    have hcm : grownCap w (n + m) old e ≤ maxLen := grownCap_le_maxLen w (n + m) old e h63
    refine ⟨⟨hlen, .inr ⟨w.heap.size, _, _, rfl, hbase, heap_alloc_new w.drew _, hge, hcm, ?_, ?_⟩⟩, ⟨rfl, rfl, rfl, by simp, fun k hk _ => ?_⟩⟩
    · simp only [Array.size_append, List.size_toArray, size_zeroCells, hzs, hown.1, ← Nat.add_mul]
      congr 1
      omega
    · simp only [Array.toList_append, List.append_assoc]
      rw [← List.append_assoc, ← hlen]
      exact List.take_left
    · exact ((Below.refl _ w.drew).alloc (Nat.le_refl _) _).block k hk
  rcases hown.2 with ⟨rfl, rfl⟩ | ⟨g, cap, cur, rfl, hbg, hg, hnc, hcm, hcs, htake⟩
  · have hx : xs = [] := List.eq_nil_of_length_eq_zero (by simpa using hown.1)
    subst hx
    by_cases hm : m = 0
    · subst hm
      have hn : Builtin.zeroCells z.cells 0 = #[] := by apply Array.eq_empty_of_size_eq_zero; rw [size_zeroCells]; simp
      refine ⟨.slice none 0 0, w, ?_, by rw [hn]; exact World.ownsRow_nil w base e i.size, ⟨rfl, rfl, rfl, Nat.le_refl _, fun _ _ _ => rfl⟩, Or.inl rfl⟩
      have hw : IntKind.i64.wrap 0 = 0 := rfl
      simp [Builtin.append_, run_underlying ht, run_underlying hti, sizeOf, typeInfo, hi, asInt, asIntOf, hw]
    · have hr := run_zeros_nil (P := P) w t ti ty e i z ht hti hi hz hsz m (by omega) (by omega) hm48
      have hgr := grown 0 (by omega) (Value.ownBlock (.slice none 0 0))
      simp only [Nat.zero_add, List.nil_append, Array.empty_append] at hgr ⊢
      exact ⟨_, _, hr, hgr.1, hgr.2, Or.inr rfl⟩
  · by_cases hroom : n + m ≤ cap
    · have hfit : n * i.size + m * i.size ≤ cur.size := by rw [hcs, ← Nat.add_mul]; exact Nat.mul_le_mul_right _ hroom
      have hr := run_zeros_room (P := P) w t ti ty e i z ht hti hi hz g n cap cur hg hzs h1' m (by omega) hm48 h1 hroom hfit
      refine ⟨_, _, hr, ⟨hlen, .inr ⟨g, cap, _, rfl, hbg, setRow_heap w g cur _ e _ hg, hroom, hcm, ?_, ?_⟩⟩, ⟨rfl, rfl, rfl, by simp, fun k _ hk => setRow_other w g k _ (fun e => hk (by simp [Value.ownBlock, e]))⟩, Or.inl rfl⟩
      · rw [hl]
        simp only [List.size_toArray, List.length_append, List.length_take, List.length_drop, Array.length_toList, hl]
        omega
      · rw [htake, ← hlen]
        exact List.take_left
    · have holds : ∀ j u, xs[j]? = some u → w.cell? ((⟨g, 0, none⟩ : Addr).add j) = some u := hown.cells (g := g) rfl
      have hr := run_zeros_grow (P := P) w t ti ty e i z ht hti hi hz hsz ⟨g, 0, none⟩ n cap xs hown.1 holds m (by omega) (by omega) (by omega) hm48 (growslice_fits (by omega) hbytes)
      have hgr := grown cap (by omega) (Value.ownBlock (.slice (some ⟨g, 0, none⟩) n cap))
      exact ⟨_, _, hr, hgr.1, hgr.2, Or.inr rfl⟩

theorem wp_append_zeros {o : Oper} {a : Act} {K : Act → World → Prop} {Q : Exit → Act → World → Prop} (s x : Operand) (t ti : TypeId)
    (ho : o.op = .call { callee := .builtin .append, args := #[s, x], argTypes := #[t, ti] })
    (base : Nat) (e : TypeId) (z : Value) (size bytes : Nat) (ht : P.underlying t = some (.slice e)) (hti : P.underlying ti = some (.int .i64)) (hinfo : (P.info? e).map (fun i => (i.zero, i.size, i.bytes)) = some (some z, size, bytes)) (hzs : z.cells.size = size) (hsz : 0 < size)
    (v : Value) (n : Nat) (xs : List Value) (hs : a.eval s = v) (hown : w.ownsRow base e size v n xs)
    (m : Nat) (hx : a.eval x = .int .i64 m) (h1 : ∀ u ∈ (Builtin.zeroCells z.cells m).toList, u.oneCell' = true) (h1' : ∀ u ∈ (Builtin.zeroCells z.cells 1).toList, u.oneCell' = true)
    (h63 : n + m ≤ maxLen) (hbytes : (n + m) * bytes ≤ 140737488355328) (hbase : base ≤ w.heap.size)
    (h : ∀ v' w', w'.ownsRow base e size v' (n + m) (xs ++ (Builtin.zeroCells z.cells m).toList) → w.grownBy w' v.ownBlock → (v'.ownBlock = v.ownBlock ∨ v'.ownBlock = some w.heap.size) → K (a.put o.dst v') w') : o.wp P a w K Q := by
  obtain ⟨i, hi, hz, hsize, hby⟩ := info_parts hinfo
  obtain ⟨v', w', hr, h2, h3, h5⟩ := run_zeros_own (P := P) w base t ti o.type e i z size bytes ht hti hi hz hsize hby hzs hsz v n xs hown m h1 h1' h63 hbytes hbase
  unfold Oper.wp execOp
  simp only [ho, resolve, invoke, builtin, Sem.run_bind, Sem.run_pure, Result.andThen_ok, List.map_toArray, List.map_cons, List.map_nil, hs, hx, hr]
  exact h v' w' h2 h3 h5
end
end Go.Proofs.Ytidcdfilfccigaa
