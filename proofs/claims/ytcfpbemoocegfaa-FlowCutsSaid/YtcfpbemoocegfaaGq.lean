/- A queue: a row whose beginning is cut off, element by element, and to whose end elements come. Plain: over any program. -/
import Derived.Test.YtcfpbemoocegfaaGf
import Derived.Deep.Upon
namespace Go.Proofs.Ytcfpbemoocegfaa
set_option linter.unusedVariables false
set_option linter.unusedSimpArgs false
set_option linter.unnecessarySimpa false
open Go Go.RowKit

/-- A row that needn't begin at its block's beginning. -/
def qrow (T : TypeId) {α : Type} (k : Nat) (f : α → List Value) (A : Option Addr) (c : Nat) (X : List α) : Asn where
  sat F w := (A = none ∧ c = 0 ∧ X = [] ∧ ∀ b, ¬ F b) ∨ ∃ g off, A = some ⟨g, off, none⟩ ∧ (∀ b, F b ↔ b = g) ∧ g < w.heap.size ∧ X.length ≤ c ∧ c ≤ maxLen ∧ (∀ j u, (X.flatMap f)[j]? = some u → w.cell? ⟨g, off + j, none⟩ = some u) ∧
    ∀ j, j < c * k → (w.cell? ⟨g, off + j, none⟩).isSome = true ∧ w.frozen? ⟨g, off + j, none⟩ = false
  facts _ := True
  stay := by
    rintro F w w' h hk
    rcases h with h | ⟨g, off, h1, h2, h3, h4, h5, h6, h7⟩
    · exact .inl h
    · have hb : w'.heap[g]? = w.heap[g]? := hk g ((h2 g).2 rfl)
      have hlt : g < w'.heap.size := by
        rcases Nat.lt_or_ge g w'.heap.size with h | h
        · exact h
        · rw [Array.getElem?_eq_none h] at hb
          rw [Array.getElem?_eq_getElem h3] at hb; cases hb
      refine .inr ⟨g, off, h1, h2, hlt, h4, h5, fun j u hj => ?_, fun j hj => ?_⟩
      · rw [World.cell?_of_block (a := ⟨g, off + j, none⟩) hb]; exact h6 j u hj
      · rw [World.cell?_of_block (a := ⟨g, off + j, none⟩) hb, World.frozen?_of_block (a := ⟨g, off + j, none⟩) hb]; exact h7 j hj
  lt := by
    rintro F w j h hj
    rcases h with h | ⟨g, off, h1, h2, h3, _⟩
    · exact absurd hj (h.2.2.2 j)
    · rw [(h2 j).1 hj]; exact h3
  out := fun _ _ _ => trivial
section
variable {w0 w : World} {l : List Asn} {α : Type} {k : Nat} {f : α → List Value} {A : Option Addr} {c : Nat} {X : List α} {T : TypeId}
theorem addr_any (b o j : Nat) : (⟨b, o, none⟩ : Addr).add j = ⟨b, o + j, none⟩ := by
  unfold Addr.add; split <;> simp_all
/-- A row is one. -/
theorem Sat.qOfRow (S : Sat w0 w l) (i : Nat) {n : Nat} (hk : ∀ x, (f x).length = k) (hi : l[i]? = some (row T k (.slice A n c) n (X.flatMap f))) (hn : n = X.length) : Sat w0 w (l.set i (qrow T k f A c X)) := S.turn hi fun F hF => by
  obtain ⟨rfl, hr⟩ := hF
  rcases hr.2 with ⟨h1, h2⟩ | ⟨g, cap, cur, h1, h2, h3, h4, h5, h6, h7⟩
  · injection h1 with ha hb hc
    refine ⟨fun _ => False, .inl ⟨ha, hc, List.eq_nil_of_length_eq_zero (by omega), fun _ h => h⟩, fun _ h => h.elim⟩
  · injection h1 with ha hb hc
    subst ha; subst hc
    have hlt : g < w.heap.size := by
      rcases Nat.lt_or_ge g w.heap.size with h | h
      · exact h
      · rw [Array.getElem?_eq_none h] at h3; cases h3
    refine ⟨fun b => (Value.slice (some ⟨g, 0, none⟩) n c).ownBlock = some b, .inr ⟨g, 0, rfl, fun b => by simp [Value.ownBlock, eq_comm], hlt, by omega, h5, fun j u hj => ?_, fun j hj => ?_⟩, fun _ h => h⟩
    · have hjl : j < n * k := by rw [hn, ← recs_len hk]; exact (List.getElem?_eq_some_iff.1 hj).1
      have h8 : (cur.toList.take (n * k))[j]? = some u := by rw [h7]; exact hj
      rw [List.getElem?_take_of_lt hjl] at h8
      simp only [World.cell?, Nat.zero_add, h3]
      simpa using h8
    · have hjs : j < cur.size := by rw [h6]; exact hj
      constructor
      · simp only [World.cell?, Nat.zero_add, h3]
        simp [hjs]
      · simp [World.frozen?, h3]
theorem qrow_recs (S : Sat w0 w l) (i : Nat) (hi : l[i]? = some (qrow T k f A c X)) (hl : X.length ≤ 1000) : Recs k f w A c X := by
  obtain ⟨F, hF⟩ := S.get hi
  rcases hF with ⟨h1, h2, h3, _⟩ | ⟨g, off, h1, _, _, _, _, h6, _⟩
  · subst h3
    exact ⟨fun _ => ⟨rfl, h2⟩, fun ad _ j u hj => by simp at hj, by simp⟩
  · subst h1
    refine ⟨fun e => (by cases e), fun ad had j u hj => ?_, by omega⟩
    cases had
    rw [addr_any]
    exact h6 j u hj
/-- Without its first element. -/
theorem Sat.qTail (S : Sat w0 w l) (i : Nat) (hk : ∀ x, (f x).length = k) {x : α} (hi : l[i]? = some (qrow T k f A c (x :: X))) : Sat w0 w (l.set i (qrow T k f (if c = 1 then A else A.map (·.add (1 * k))) (c - 1) X)) := S.turn hi fun F hF => by
  rcases hF with ⟨_, _, h3, _⟩ | ⟨g, off, h1, h2, h3, h4, h5, h6, h7⟩
  · cases h3
  · subst h1
    simp only [List.length_cons] at h4
    by_cases hc : c = 1
    · subst hc
      obtain rfl : X = [] := List.eq_nil_of_length_eq_zero (by omega)
      rw [if_pos rfl]
      exact ⟨F, .inr ⟨g, off, rfl, h2, h3, by simp, by unfold maxLen; omega, fun j u hj => by simp at hj, fun j hj => by simp at hj⟩, fun _ h => h⟩
    · rw [if_neg hc, Option.map_some, addr_any]
      refine ⟨F, .inr ⟨g, off + 1 * k, rfl, h2, h3, by omega, by omega, fun j u hj => ?_, fun j hj => ?_⟩, fun _ h => h⟩
      · have := h6 (k + j) u (by
          rw [List.flatMap_cons, List.getElem?_append_right (by rw [hk]; omega), hk, Nat.add_sub_cancel_left]; exact hj)
        rw [Nat.one_mul, Nat.add_assoc]; exact this
      · have h8 : k + j < c * k := by
          have : (c - 1) * k + k = c * k := by rw [← Nat.succ_mul]; congr 1; omega
          omega
        rw [Nat.one_mul, Nat.add_assoc]; exact h7 (k + j) h8
theorem chg_setCells {F : Nat → Prop} {g : Nat} (hg : F g) : ∀ (vs : List Value) (o : Nat) (w : World), Chg F w (w.setCells g o vs)
  | [], _, w => Chg.refl _ _
  | v :: vs, o, w => by
    have h1 := (Chg.refl F w).setCell (i := o) (.inl hg) v
    exact h1.trans (chg_setCells hg vs (o + 1) _) fun _ _ h => h
end
section
variable {P : Program} {a : Act} {nt : Nat} {L : List (Nat × Value)} {o : Oper} {w0 w : World} {R : Value → World → Prop} {l : List Asn}
/-- Elements come to the end. -/
theorem op_appendQ {α : Type} (S : Sat w0 w l) (i : Nat) (s x : Operand) (t e : TypeId) (z : Value) (k bytes : Nat) (X Y : List α) (f : α → List Value) {A : Option Addr} {c : Nat} (B : Option Addr) (cb : Nat) (F : Fr a nt L) (hf : ∀ x, (f x).length = k) (h1 : ∀ x, ((f x).all (·.oneCell')) = true)
    (hi : l[i]? = some (qrow e k f A c X)) (ho : o.op = .call { callee := .builtin .append, args := #[s, x], argTypes := #[t, t] })
    (ht : P.underlying t = some (.slice e)) (hinfo : (P.info? e).map (fun i => (i.zero, i.size, i.bytes)) = some (some z, k, bytes)) (hzs : z.cells.size = k) (hk : Nat.blt 0 k = true) (hby : Nat.blt 0 bytes = true) (hs : val? L s = some (.slice A X.length c)) (hx : val? L x = some (.slice B Y.length cb))
    (hB : B = none → Y.length = 0 ∧ cb = 0) (hsrc : SrcOf w B (Y.flatMap f)) (hb : (X.length + Y.length) * bytes ≤ 140737488355328)
    (hR : ∀ A' c' w', Sat w0 w' (l.set i (qrow e k f A' c' (X ++ Y))) → R (.slice A' (X ++ Y).length c') w') : OpR P a w o R := by
  have hk : 0 < k := by rw [← Nat.blt_eq]; exact hk
  have hby : 0 < bytes := by rw [← Nat.blt_eq]; exact hby
  have h63 : X.length + Y.length ≤ maxLen := by
    have := Nat.le_mul_of_pos_right (X.length + Y.length) hby
    unfold maxLen; omega
  obtain ⟨ti, hti, hz, hsize, hbt⟩ := info_parts hinfo
  have hS0 : Src P k t (.slice B Y.length cb) Y.length (Y.flatMap f) w := by
    cases B with
    | none =>
      obtain ⟨hy, _⟩ := hB rfl
      obtain rfl := List.eq_nil_of_length_eq_zero hy
      exact Src.ofNil (P := P) w ht cb
    | some ad => exact Src.ofSlice (P := P) w ht ad Y.length cb (Y.flatMap f) (recs_len hf Y) (hsrc ad rfl) (oneC_flat h1 Y)
  obtain ⟨Fp, hA, hstep⟩ := S.step hi
  have fin : ∀ (A' : Option Addr) (c' : Nat) (w' : World) (F' : Nat → Prop), (qrow e k f A' c' (X ++ Y)).sat F' w' → Moves Fp F' w w' → (Builtin.append_ #[t, t] o.type #[.slice A X.length c, .slice B Y.length cb]).run P w = .ok (.slice A' (X.length + Y.length) c') w' → OpR P a w o R := by
    intro A' c' w' F' h2 h3 hrun
    refine op_run (v := .slice A' (X.length + Y.length) c') (w' := w') ?_ (by rw [← List.length_append]; exact hR A' c' w' (hstep w' _ F' h2 h3))
    unfold execOp
    simp only [ho, resolve, invoke, builtin, Sem.run_bind, Sem.run_pure, Result.andThen_ok, List.map_toArray, List.map_cons, List.map_nil, F.val hs, F.val hx, hrun]
  subst hsize
  have hxl := recs_len hf X
  have hyl := recs_len hf Y
  have grow : ∀ (hold : (Builtin.firstCells ti.size X.length (.slice A X.length c)).run P w.drew = .ok (X.flatMap f).toArray w.drew), c < X.length + Y.length → OpR P a w o R := by
    intro hold hg
    have hrun := run_append_grow_src (P := P) w t t o.type e ti z ht hti hz A X.length c (X.flatMap f) hold (.slice B Y.length cb) Y.length (Y.flatMap f) hS0 hg (by simp only [maxLen] at h63; omega) (growslice_fits hg (by rw [hbt]; exact hb))
    have hge := grownCap_ge w (X.length + Y.length) c e
    have hcm := grownCap_le_maxLen w (X.length + Y.length) c e h63
    have hL : (X.flatMap f ++ Y.flatMap f).length = (X.length + Y.length) * ti.size := by rw [List.length_append, hxl, hyl, Nat.add_mul]
    have hblk : ∀ q, q < w.heap.size → (w.drew.alloc (.cells ((X.flatMap f ++ Y.flatMap f).toArray ++ Builtin.zeroCells z.cells (grownCap w (X.length + Y.length) c e - (X.length + Y.length))) e)).heap[q]? = w.heap[q]? := fun q hq => Below.heap_alloc w.drew _ q hq
    refine fin (some ⟨w.heap.size, 0, none⟩) (grownCap w (X.length + Y.length) c e) (w.drew.alloc (.cells ((X.flatMap f ++ Y.flatMap f).toArray ++ Builtin.zeroCells z.cells (grownCap w (X.length + Y.length) c e - (X.length + Y.length))) e)) (fun b => b = w.heap.size) (.inr ⟨w.heap.size, 0, rfl, fun b => Iff.rfl, by simp, by rw [List.length_append]; exact hge, hcm, fun j u hj => ?_, fun j hj => ?_⟩) ⟨⟨rfl, rfl, rfl, by simp, fun q hq _ => hblk q hq⟩, fun q hq => .inr (by omega)⟩ hrun
    · have e1 : (w.drew.alloc (.cells ((X.flatMap f ++ Y.flatMap f).toArray ++ Builtin.zeroCells z.cells (grownCap w (X.length + Y.length) c e - (X.length + Y.length))) e)).cell? ⟨w.heap.size, j, none⟩ = _ := World.cell?_alloc_new w.drew _ _ j
      rw [Nat.zero_add, e1, Array.getElem?_append_left (by
        simp only [List.size_toArray]
        rw [List.flatMap_append] at hj
        exact (List.getElem?_eq_some_iff.1 hj).1), List.getElem?_toArray, ← List.flatMap_append]
      exact hj
    · have e1 : (w.drew.alloc (.cells ((X.flatMap f ++ Y.flatMap f).toArray ++ Builtin.zeroCells z.cells (grownCap w (X.length + Y.length) c e - (X.length + Y.length))) e)).cell? ⟨w.heap.size, j, none⟩ = _ := World.cell?_alloc_new w.drew _ _ j
      rw [Nat.zero_add]
      refine ⟨?_, World.frozen?_alloc_new w.drew _ _ j⟩
      rw [e1]
      have hsz : ((X.flatMap f ++ Y.flatMap f).toArray ++ Builtin.zeroCells z.cells (grownCap w (X.length + Y.length) c e - (X.length + Y.length))).size = grownCap w (X.length + Y.length) c e * ti.size := by
        rw [Array.size_append, List.size_toArray, hL, size_zeroCells, hzs, ← Nat.add_mul]
        congr 1
        omega
      rw [Array.getElem?_eq_getElem (by rw [hsz]; exact hj)]
      rfl
  rcases hA with ⟨rfl, rfl, rfl, hF⟩ | ⟨g, off, rfl, hF, hlt, hle, hcm, hc6, hc7⟩
  · by_cases hY : Y.length = 0
    · obtain rfl := List.eq_nil_of_length_eq_zero hY
      exact fin none 0 w Fp (.inl ⟨rfl, rfl, rfl, hF⟩) (Moves.refl _ _) (by
        have := run_append_nothing (P := P) w t t o.type e ti ht hti none 0 0 (Nat.le_refl _) (.slice B ([] : List α).length cb) hS0
        exact this)
    · exact grow (run_firstCells_none w.drew ti.size 0 0 0) (by simp; omega)
  · by_cases hroom : X.length + Y.length ≤ c
    · have hspare : ∀ j, j < (Y.flatMap f).length → X.length * ti.size + j < c * ti.size := by
        intro j hj
        rw [hyl] at hj
        have : (X.length + Y.length) * ti.size ≤ c * ti.size := Nat.mul_le_mul_right _ hroom
        rw [Nat.add_mul] at this; omega
      have hsome : ∀ j, j < (Y.flatMap f).length → (w.cell? ⟨g, off + X.length * ti.size + j, none⟩).isSome = true := fun j hj => by
        rw [Nat.add_assoc]; exact (hc7 _ (hspare j hj)).1
      have hrun := run_append_room_src (P := P) w t t o.type e ti ht hti g off X.length c (.slice B Y.length cb) Y.length (Y.flatMap f) hS0 hroom hsome (fun j hj => by rw [Nat.add_assoc]; exact (hc7 _ (hspare j hj)).2)
      have hchg := chg_setCells (F := Fp) ((hF g).2 rfl) (Y.flatMap f) (off + X.length * ti.size) w
      refine fin _ c _ Fp (.inr ⟨g, off, rfl, hF, Nat.lt_of_lt_of_le hlt hchg.size, by rw [List.length_append]; exact hroom, hcm, fun j u hj => ?_, fun j hj => ?_⟩) ⟨hchg, fun _ h => .inl h⟩ hrun
      · rw [List.flatMap_append] at hj
        by_cases hjl : j < (X.flatMap f).length
        · rw [List.getElem?_append_left hjl] at hj
          rw [World.cell?_setCells_out g _ _ _ _ (fun _ _ => Or.inl (by show off + j < off + X.length * ti.size; rw [hxl] at hjl; omega))]
          exact hc6 j u hj
        · rw [List.getElem?_append_right (by omega)] at hj
          obtain ⟨hj2, hj3⟩ := List.getElem?_eq_some_iff.1 hj
          have := World.cell?_setCells_in g (Y.flatMap f) (off + X.length * ti.size) w hsome (j - (X.flatMap f).length) hj2
          rw [hj3] at this
          rw [← this]
          congr 2
          rw [hxl] at hjl ⊢
          omega
      · refine ⟨?_, ?_⟩
        · by_cases hin : X.length * ti.size ≤ j ∧ j < X.length * ti.size + (Y.flatMap f).length
          · have := World.cell?_setCells_in g (Y.flatMap f) (off + X.length * ti.size) w hsome (j - X.length * ti.size) (by omega)
            rw [show off + X.length * ti.size + (j - X.length * ti.size) = off + j from by omega] at this
            rw [this]; rfl
          · rw [World.cell?_setCells_out g _ _ _ _ (fun _ _ => by show off + j < off + X.length * ti.size ∨ off + X.length * ti.size + (Y.flatMap f).length ≤ off + j; omega)]
            exact (hc7 j hj).1
        · rw [World.frozen?_setCells]; exact (hc7 j hj).2
    · exact grow (run_firstCells_some w.drew ti.size X.length ⟨g, off, none⟩ X.length c (X.flatMap f) hxl (fun j u hu => by rw [addr_any]; exact hc6 j u hu)) (by omega)
theorem op_sliceT (v : Value) (T e : TypeId) (x y : Operand) (A : Option Addr) (N c k : Nat) (kd : IntKind) (F : Fr a nt L) (ho : o.op = .slice T x (some y) none none) (hT : P.underlying T = some (.slice e)) (hk : sizeT P e = some k) (hx : val? L x = some (.slice A N c)) (hy : val? L y = some (.int kd 1)) (hm : 1 ≤ N) (hv : cutL A N c k = v) (hR : R v w) : OpR P a w o R :=
  op_sliceL T e x y A N c k kd F ho hT hk hx hy hm (hv ▸ hR)
end
end Go.Proofs.Ytcfpbemoocegfaa
