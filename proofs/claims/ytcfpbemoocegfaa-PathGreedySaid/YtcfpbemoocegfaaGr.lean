/- A region that draws its order: each of its effects told apart, whatever came up before it. Plain: over any program. -/
import Derived.Test.YtcfpbemoocegfaaGc
namespace Go.Proofs.Ytcfpbemoocegfaa
set_option linter.unusedVariables false
set_option linter.unusedSimpArgs false
set_option linter.unnecessarySimpa false
open Go Go.RowKit

def upd (D : Nat → Bool) (i : Nat) : Nat → Bool := fun j => bif Nat.beq j i then true else D j
theorem upd_self (D : Nat → Bool) (i : Nat) : upd D i i = true := by unfold upd; rw [Nat.beq_refl]; rfl
theorem upd_ne (D : Nat → Bool) {i j : Nat} (h : j ≠ i) : upd D i j = D j := by
  unfold upd
  cases hb : Nat.beq j i with
  | false => rfl
  | true => exact absurd (Nat.eq_of_beq_eq_true hb) h

/-- What i waits for. -/
def waitsB (ops : Array Oper) (i j : Nat) : Bool := match ops[i]? with
  | none => false
  | some o => o.after.toList.any fun e => Region.binds .any e && Nat.beq e.on j
/-- Does i wait for j, through others too? -/
def dependsL (ops : Array Oper) (j : Nat) : Nat → List Bool
  | 0 => []
  | i + 1 => dependsL ops j i ++ [Nat.beq i j || (List.range i).any fun k => waitsB ops i k && (dependsL ops j i).getD k false]
/-- The operation of the region that yields a slot. -/
def writerOf (ops : List Oper) (s : Nat) : Option Nat := (ops.findIdx? fun o => match o.dst with | some d => Nat.beq d s | none => false)
/-- What an operation looks at, as it will be when it comes up. -/
def slotL (ops : Array Oper) (V : List Value) (L0 : List (Nat × Value)) (i s : Nat) : List (Nat × Value) := match writerOf ops.toList s with
  | none => match look L0 s with
    | some v => [(s, v)]
    | none => []
  | some j => bif waitsB ops i j then (match V[j]? with
      | some v => [(s, v)]
      | none => []) else bif waitsB ops j i then (match look L0 s with
        | some v => [(s, v)]
        | none => []) else []
def looksO (ops : Array Oper) (o : Oper) : List Nat := (o.op.operands.toList.filterMap fun | .tmp s => some s | _ => none) ++ (match o.guard with
  | some (j, _) => match (ops[j]?).bind (·.dst) with
    | some d => [d]
    | none => []
  | none => [])
def opndL (ops : Array Oper) (V : List Value) (L0 : List (Nat × Value)) (i : Nat) (o : Oper) : List (Nat × Value) := (looksO ops o).flatMap (slotL ops V L0 i)
/-- All that is known at the end. -/
def allL : List Oper → List Value → List (Nat × Value) → List (Nat × Value)
  | o :: os, v :: vs, L => putL o.dst v (allL os vs L)
  | _, _, L => L

/-- The same, where b says so. -/
def SameB : List Bool → List Value → List Value → Prop
  | b :: bs, v :: vs, u :: us => (bif b then True else u = v) ∧ SameB bs vs us
  | [], [], [] => True
  | _, _, _ => False
theorem SameB.refl : ∀ (bs : List Bool) (vs : List Value), bs.length = vs.length → SameB bs vs vs
  | [], [], _ => trivial
  | b :: bs, v :: vs, h => ⟨by cases b <;> simp, SameB.refl bs vs (by simpa using h)⟩
  | [], _ :: _, h => by simp at h
  | _ :: _, [], h => by simp at h
theorem sameB_at : ∀ (bs : List Bool) (vs us : List Value), SameB bs vs us → ∀ k : Nat, bs[k]? = some false → us[k]? = vs[k]?
  | b :: bs, v :: vs, u :: us, h, k, hb => by
    cases k with
    | zero => simp at hb; subst hb; have := h.1; simp at this; simp [this]
    | succ k => simpa using sameB_at bs vs us h.2 k (by simpa using hb)
  | [], [], [], _, k, hb => by simp at hb
  | [], _ :: _, _, h, _, _ => h.elim
  | _ :: _, [], _, h, _, _ => h.elim
  | [], [], _ :: _, h, _, _ => h.elim
  | _ :: _, _ :: _, [], h, _, _ => h.elim

/-- An operation that looks at no world yields its value; or its guard says no. -/
def plainV (P : Program) (ops : Array Oper) (n : Nat) (V : List Value) (L0 : List (Nat × Value)) (i : Nat) (o : Oper) : Option Value := bif fits o.dst n then (match wantL ops (opndL ops V L0 i o) o with
  | some true => pureV P (opndL ops V L0 i o) o
  | some false => some undef
  | none => none) else none
/-- All that look at no world; E are the others. -/
def plainsV (P : Program) (ops : Array Oper) (n : Nat) (E : List Nat) (V : List Value) (L0 : List (Nat × Value)) : List (Option Value) :=
  (List.range ops.size).map fun i => bif E.any (Nat.beq i) then none else match ops[i]? with
    | some o => plainV P ops n V L0 i o
    | none => none
def plainsW (E : List Nat) (m : Nat) (V : List Value) : List (Option Value) := (List.range m).map fun i => bif E.any (Nat.beq i) then none else V[i]?

section
variable {P : Program} {ops : Array Oper} {Q : Exit → Act → World → Prop} {n : Nat} {L0 : List (Nat × Value)} {w0 : World} {X : Type}

/-- What is known of what came up when e comes up: not e, nor those of ns (that wait for e), but those of ds (that e waits for). -/
def kn (e : Nat) (ds ns : List Nat) (D : Nat → Bool) : Nat → Bool := fun j => bif Nat.beq j e then false else bif ns.any (Nat.beq j) then false else bif ds.any (Nat.beq j) then true else D j
def knOk (ops : Array Oper) (e : Nat) (ds ns : List Nat) : Bool := (ds.all fun j => !Nat.beq j e && (dependsL ops j ops.size).getD e false) && ns.all fun j => (dependsL ops e ops.size).getD j false
theorem kn_eq {ops : Array Oper} {e : Nat} {ds ns : List Nat} {D : Nat → Bool} (hk : knOk ops e ds ns = true) (hd : ∀ j, (dependsL ops j ops.size).getD e false = true → j ≠ e → D j = true) (hq : ∀ j, (dependsL ops e ops.size).getD j false = true → D j = true → D e = true) (hn : D e = false) : kn e ds ns D = D := by
  unfold knOk at hk
  rw [Bool.and_eq_true, List.all_eq_true, List.all_eq_true] at hk
  funext j
  unfold kn
  cases h1 : Nat.beq j e with
  | true => rw [Nat.eq_of_beq_eq_true h1, hn]; rfl
  | false =>
    cases h4 : ns.any (Nat.beq j) with
    | true =>
      rw [List.any_eq_true] at h4
      obtain ⟨k, hk1, hk2⟩ := h4
      have h3 := hk.2 k hk1
      rw [← Nat.eq_of_beq_eq_true hk2] at h3
      cases hD : D j with
      | false => rfl
      | true => have := hq j h3 hD; rw [hn] at this; cases this
    | false =>
      cases h2 : ds.any (Nat.beq j) with
      | false => rfl
      | true =>
        rw [List.any_eq_true] at h2
        obtain ⟨k, hk1, hk2⟩ := h2
        have h3 := hk.1 k hk1
        rw [← Nat.eq_of_beq_eq_true hk2, Bool.and_eq_true] at h3
        exact (hd j h3.2 (fun e => by rw [e, Nat.beq_refl] at h1; cases h1)).symm
/-- Each effect, coming up whenever it may. -/
def EffsOk (P : Program) (ops : Array Oper) (n : Nat) (L0 : List (Nat × Value)) (w0 : World) (pl : (Nat → Bool) → X → List Asn) (V : X → List Value) : List (Nat × List Nat × List Nat) → Prop
  | [] => True
  | (e, ds, ns) :: E => (∃ o, ops[e]? = some o ∧ fits o.dst n = true ∧ knOk ops e ds ns = true ∧ ∀ (D : Nat → Bool) (x : X) (a : Act) (w : World), Sat w0 w (pl (kn e ds ns D) x) → Fr a n (opndL ops (V x) L0 e o) →
      wantL ops (opndL ops (V x) L0 e o) o = some true ∧ OpR P a w o (fun v w' => ∃ x', (V x')[e]? = some v ∧ SameB (dependsL ops e ops.size) (V x) (V x') ∧ Sat w0 w' (pl (upd (kn e ds ns D) e) x'))) ∧ EffsOk P ops n L0 w0 pl V E

theorem effsOk_at {pl : (Nat → Bool) → X → List Asn} {V : X → List Value} : ∀ (E : List (Nat × List Nat × List Nat)), EffsOk P ops n L0 w0 pl V E → ∀ e ∈ E.map (·.1), (∃ o, ops[e]? = some o ∧ fits o.dst n = true ∧ ∀ (D : Nat → Bool) (x : X) (a : Act) (w : World), (∀ j, (dependsL ops j ops.size).getD e false = true → j ≠ e → D j = true) → (∀ j, (dependsL ops e ops.size).getD j false = true → D j = true → D e = true) → D e = false → Sat w0 w (pl D x) → Fr a n (opndL ops (V x) L0 e o) →
      wantL ops (opndL ops (V x) L0 e o) o = some true ∧ OpR P a w o (fun v w' => ∃ x', (V x')[e]? = some v ∧ SameB (dependsL ops e ops.size) (V x) (V x') ∧ Sat w0 w' (pl (upd D e) x')))
  | (e', ds, ns) :: E, h, e, he => by
    rw [List.map_cons] at he
    rcases List.mem_cons.1 he with rfl | he
    · obtain ⟨o, h1, h2, h3, h4⟩ := h.1
      refine ⟨o, h1, h2, fun D x a w hd hq hn S F => ?_⟩
      have hk := kn_eq h3 hd hq hn
      have := h4 D x a w (by rw [hk]; exact S) F
      rw [hk] at this
      exact this
    · exact effsOk_at E h.2 e he

theorem dependsL_len (ops : Array Oper) (j : Nat) : ∀ i, (dependsL ops j i).length = i
  | 0 => rfl
  | i + 1 => by simp [dependsL, dependsL_len ops j i]
theorem dependsL_pre (ops : Array Oper) (j : Nat) {k i m : Nat} (h : k < i) (hm : i ≤ m) : (dependsL ops j m).getD k false = (dependsL ops j i).getD k false := by
  induction m with
  | zero => omega
  | succ m ih =>
    by_cases he : i = m + 1
    · rw [he]
    · rw [dependsL, List.getD_eq_getElem?_getD, List.getElem?_append_left (by rw [dependsL_len]; omega), ← List.getD_eq_getElem?_getD]
      exact ih (by omega)
theorem dependsL_at (ops : Array Oper) (j : Nat) {i m : Nat} (h : i < m) : (dependsL ops j m).getD i false = (Nat.beq i j || (List.range i).any fun k => waitsB ops i k && (dependsL ops j i).getD k false) := by
  rw [dependsL_pre ops j (i := i + 1) (by omega) h, dependsL, List.getD_eq_getElem?_getD, List.getElem?_append_right (by rw [dependsL_len]; omega), dependsL_len]
  simp
/-- What is listed has all listed that it waits for. -/
theorem depends_done {L : Array Bool} (hup : upOk ops = true) (hcl : ∀ i k : Nat, L.getD i false = true → waitsB ops i k = true → L.getD k false = true) {j : Nat} : ∀ (i : Nat), i < ops.size → L.getD i false = true → (dependsL ops j ops.size).getD i false = true → L.getD j false = true := by
  intro i
  induction i using Nat.strongRecOn with
  | _ i ih =>
    intro hi hL hd
    rw [dependsL_at ops j hi, Bool.or_eq_true, List.any_eq_true] at hd
    rcases hd with hd | ⟨k, hk, hd⟩
    · rw [← Nat.eq_of_beq_eq_true hd]; exact hL
    · rw [Bool.and_eq_true] at hd
      have hki : k < i := by simpa using hk
      exact ih k hki (by omega) (hcl i k hL hd.1) (by rw [dependsL_pre ops j hki (by omega)]; exact hd.2)

theorem allL_at : ∀ (os : List Oper) (vs : List Value) (L : List (Nat × Value)) (s : Nat) (u : Value), look (allL os vs L) s = some u → (∃ (k : Nat) (o : Oper), os[k]? = some o ∧ o.dst = some s ∧ vs[k]? = some u) ∨ (look L s = some u ∧ ∀ (k : Nat) (o : Oper) (v : Value), os[k]? = some o → vs[k]? = some v → o.dst ≠ some s)
  | o :: os, v :: vs, L, s, u, h => by
    rw [allL] at h
    have key : look (allL os vs L) s = some u → o.dst ≠ some s → (∃ (k : Nat) (o' : Oper), (o :: os)[k]? = some o' ∧ o'.dst = some s ∧ (v :: vs)[k]? = some u) ∨ (look L s = some u ∧ ∀ (k : Nat) (o' : Oper) (v' : Value), (o :: os)[k]? = some o' → (v :: vs)[k]? = some v' → o'.dst ≠ some s) := by
      intro h hne
      rcases allL_at os vs L s u h with ⟨k, o', h1, h2, h3⟩ | ⟨h1, h2⟩
      · exact .inl ⟨k + 1, o', by simpa using h1, h2, by simpa using h3⟩
      · refine .inr ⟨h1, fun k o' v' h3 h4 => ?_⟩
        cases k with
        | zero => simp at h3; subst h3; exact hne
        | succ k => exact h2 k o' v' (by simpa using h3) (by simpa using h4)
    cases hd : o.dst with
    | none => rw [hd] at h; exact key h (by rw [hd]; simp)
    | some d =>
      rw [hd] at h
      by_cases hs : d = s
      · subst hs
        rw [putL, look_cons_self] at h
        cases h
        exact .inl ⟨0, o, by simp, hd, by simp⟩
      · rw [putL, look_cons_ne hs] at h
        exact key h (by rw [hd]; simpa using hs)
  | [], vs, L, s, u, h => by
    refine .inr ⟨?_, fun k o v h1 => by simp at h1⟩
    cases vs <;> exact h
  | _ :: _, [], L, s, u, h => .inr ⟨h, fun k o v h1 h2 => by simp at h2⟩

theorem writer_spec {os : List Oper} {s j : Nat} (h : writerOf os s = some j) : ∃ o, os[j]? = some o ∧ o.dst = some s := by
  unfold writerOf at h
  rw [List.findIdx?_eq_some_iff_getElem] at h
  obtain ⟨hj, h1, _⟩ := h
  refine ⟨os[j], List.getElem?_eq_getElem hj, ?_⟩
  cases hd : os[j].dst with
  | none => rw [hd] at h1; cases h1
  | some d => rw [hd] at h1; rw [Nat.eq_of_beq_eq_true h1]
theorem writer_none {os : List Oper} {s : Nat} (h : writerOf os s = none) {j : Nat} {o : Oper} (hj : os[j]? = some o) : o.dst ≠ some s := by
  unfold writerOf at h
  rw [List.findIdx?_eq_none_iff] at h
  have := h o (List.mem_of_getElem? hj)
  intro e
  rw [e] at this
  simp [Nat.beq_refl] at this

/-- **THE REGION**, in whatever order. -/
theorem region_gx {id : Nat} {a : Act} {w : World} (pl : (Nat → Bool) → X → List Asn) (V : X → List Value) (E : List (Nat × List Nat × List Nat)) (x0 : X) (hm : P.follows .mixedOrders = true)
    (hup : upOk ops = true) (hap : apartOk ops = true) (F : Fr a n L0) (S : Sat w0 w.drew (pl (fun _ => false) x0)) (hlen : ∀ x, (V x).length = ops.size)
    (hp : ∀ x, plainsV P ops n (E.map (·.1)) (V x) L0 = plainsW (E.map (·.1)) ops.size (V x)) (hpl : ∀ D D' x, (∀ e ∈ E.map (·.1), D e = D' e) → pl D x = pl D' x) (hE : EffsOk P ops n L0 w0 pl V E)
    (hend : ∀ x a' w', Fr a' n (allL ops.toList (V x) L0) → Sat w0 w' (pl (fun _ => true) x) → Q .normal a' w') : (Code.region id ops true).wp P Q a w := by
  refine wp_region_any hm ?_
  -- the state when L is listed
  let J : Array Bool → Act → World → Prop := fun L a w => ∃ x, Sat w0 w (pl (fun j => L.getD j true) x) ∧ a.tmps.size = n ∧ a.defers = [] ∧
    (∀ i o v s, ops[i]? = some o → o.dst = some s → (V x)[i]? = some v → L.getD i false = true → a.tmps[s]? = some v) ∧
    (∀ s v, look L0 s = some v → (∀ (i : Nat) (o : Oper), ops[i]? = some o → o.dst = some s → L.getD i true = false) → a.tmps[s]? = some v)
  have apart : ∀ (i j : Nat) (oi oj : Oper) (s : Nat), ops[i]? = some oi → ops[j]? = some oj → oi.dst = some s → oj.dst = some s → i = j := by
    intro i j oi oj s hi hj h1 h2
    simp only [apartOk, List.all_eq_true, List.mem_range] at hap
    have h3 := hap i ((Array.getElem?_eq_some_iff.1 hi).1) j ((Array.getElem?_eq_some_iff.1 hj).1)
    rw [hi, hj] at h3
    simp only [Bool.or_eq_true, beq_iff_eq, bne_iff_ne, ne_eq] at h3
    rcases h3 with h3 | h3 | h3
    · exact h3
    · rw [h1] at h3; cases h3
    · exact absurd (h1.trans h2.symm) h3
  have waits_of : ∀ (i : Nat) (o : Oper) (k : Nat), ops[i]? = some o → waitsB ops i k = true → ∃ e ∈ o.after, Region.binds .any e = true ∧ e.on = k := by
    intro i o k hi h
    unfold waitsB at h
    rw [hi] at h
    simp only [List.any_eq_true, Bool.and_eq_true] at h
    obtain ⟨e, he, h1, h2⟩ := h
    exact ⟨e, by simpa using he, h1, Nat.eq_of_beq_eq_true h2⟩
  have key : ∀ (m : Nat) (L : Array Bool) (a : Act) (w : World), L.size = ops.size → L.toList.count false = m → J L a w → (∀ i k : Nat, L.getD i false = true → waitsB ops i k = true → L.getD k false = true) → wpAny P .any ops Q m L a w := by
    intro m
    induction m with
    | zero =>
      intro L a w hL hc hJ hcl
      have hall : ∀ i, i < ops.size → L.getD i false = true := by
        intro i hi
        rw [List.count_eq_zero] at hc
        have hil : i < L.size := by omega
        rcases hb : L[i] with _ | _
        · exact absurd (by rw [← hb]; exact Array.getElem_mem_toList hil) hc
        · simp [hil, hb]
      refine ⟨?_, ?_⟩
      · apply List.eq_nil_iff_forall_not_mem.2
        intro i hi
        obtain ⟨h0, o, ho, _⟩ := mem_ready.1 hi
        have := hall i (Array.getElem?_eq_some_iff.1 ho).1
        have hil : i < L.size := by rw [hL]; exact (Array.getElem?_eq_some_iff.1 ho).1
        simp [hil] at h0 this
        rw [this] at h0; cases h0
      · obtain ⟨x, h1, h2, h3, h4, h5⟩ := hJ
        refine hend x a w ⟨h2, h3, fun s v hv => ?_⟩ ?_
        · rcases allL_at _ _ _ _ _ hv with ⟨k, o, g1, g2, g3⟩ | ⟨g1, g2⟩
          · have g1' : ops[k]? = some o := by simpa using g1
            exact h4 k o v s g1' g2 g3 (hall k (Array.getElem?_eq_some_iff.1 g1').1)
          · refine h5 s v g1 fun i o hi hd => ?_
            have hil := (Array.getElem?_eq_some_iff.1 hi).1
            exact absurd hd (g2 i o _ (by simpa using hi) (List.getElem?_eq_getElem (by rw [hlen]; exact hil)))
        · have e : (fun j => L.getD j true) = fun _ => true := by
            funext j
            by_cases hj : j < L.size
            · have := hall j (by omega)
              simp [hj] at this ⊢; exact this
            · simp [hj]
          rw [e] at h1
          exact h1
    | succ m ih =>
      intro L a w hL hc hJ hcl
      refine ⟨fun h => absurd (ready_full hup L hL h) (by omega), fun i hi => ?_⟩
      obtain ⟨h0, o, ho, hdep⟩ := mem_ready.1 hi
      have hio : i < ops.size := (Array.getElem?_eq_some_iff.1 ho).1
      have hil : i < L.size := by omega
      have hcs := count_set hil h0
      have hnot : L.getD i false = false := by simp [hil] at h0 ⊢; exact h0
      have hwait : ∀ k, waitsB ops i k = true → L.getD k false = true := by
        intro k hk
        obtain ⟨e, he, h1, rfl⟩ := waits_of i o k ho hk
        exact hdep e he h1
      have hset : ∀ j : Nat, (L.setIfInBounds i true).getD j false = true → j = i ∨ L.getD j false = true := by
        intro j hj
        by_cases hji : j = i
        · exact .inl hji
        · right
          by_cases hjl : j < L.size
          · simp [hjl, Ne.symm hji] at hj ⊢; exact hj
          · simp [hjl] at hj
      have hset' : ∀ j : Nat, L.getD j false = true → (L.setIfInBounds i true).getD j false = true := by
        intro j hj
        by_cases hjl : j < L.size
        · by_cases hji : j = i
          · subst hji; simp [hjl]
          · simp [hjl, Ne.symm hji] at hj ⊢; exact hj
        · simp [hjl] at hj
      have hcl' : ∀ p q : Nat, (L.setIfInBounds i true).getD p false = true → waitsB ops p q = true → (L.setIfInBounds i true).getD q false = true := by
        intro p q h1 h2
        rcases hset p h1 with rfl | h1
        · exact hset' q (hwait q h2)
        · exact hset' q (hcl p q h1 h2)
      obtain ⟨x, hS, hsz, hdf, hdn, hol⟩ := hJ
      have hvl := hlen x
      -- what it looks at
      have hF : Fr a n (opndL ops (V x) L0 i o) := by
        refine ⟨hsz, hdf, fun s v hv => ?_⟩
        have mem : ∀ (M : List (Nat × Value)) (s : Nat) (v : Value), look M s = some v → (s, v) ∈ M := by
          intro M
          induction M with
          | nil => intro s v h; cases h
          | cons p M ihM =>
            obtain ⟨d, u⟩ := p
            intro s v h
            by_cases hs : d = s
            · subst hs; rw [look_cons_self] at h; cases h; simp
            · rw [look_cons_ne hs] at h; exact List.mem_cons_of_mem _ (ihM s v h)
        have hm2 := mem _ _ _ hv
        unfold opndL at hm2
        rw [List.mem_flatMap] at hm2
        obtain ⟨s', _, hm3⟩ := hm2
        unfold slotL at hm3
        cases hwr : writerOf ops.toList s' with
        | none =>
          rw [hwr] at hm3
          simp only at hm3
          cases hlk : look L0 s' with
          | none => rw [hlk] at hm3; cases hm3
          | some u =>
            rw [hlk] at hm3
            simp at hm3
            obtain ⟨rfl, rfl⟩ := hm3
            exact hol s v hlk fun j oj hj hd => absurd hd (writer_none hwr (by simpa using hj))
        | some j =>
          rw [hwr] at hm3
          simp only at hm3
          obtain ⟨oj, hj, hjd⟩ := writer_spec hwr
          have hj' : ops[j]? = some oj := by simpa using hj
          cases h1 : waitsB ops i j with
          | true =>
            rw [h1] at hm3
            simp only [cond_true] at hm3
            cases hvj : (V x)[j]? with
            | none => rw [hvj] at hm3; cases hm3
            | some u =>
              rw [hvj] at hm3
              simp at hm3
              obtain ⟨rfl, rfl⟩ := hm3
              exact hdn j oj v s hj' hjd hvj (hwait j h1)
          | false =>
            rw [h1] at hm3
            simp only [cond_false] at hm3
            cases h2 : waitsB ops j i with
            | false => rw [h2] at hm3; cases hm3
            | true =>
              rw [h2] at hm3
              simp only [cond_true] at hm3
              cases hlk : look L0 s' with
              | none => rw [hlk] at hm3; cases hm3
              | some u =>
                rw [hlk] at hm3
                simp at hm3
                obtain ⟨rfl, rfl⟩ := hm3
                refine hol s v hlk fun k ok hk hd => ?_
                have hkj := apart k j ok oj s hk hj' hd hjd
                subst hkj
                have hkl : k < L.size := by have := (Array.getElem?_eq_some_iff.1 hk).1; omega
                rcases hb : L[k] with _ | _
                · simp [hkl, hb]
                · have := hcl k i (by simp [hkl, hb]) h2
                  rw [hnot] at this; cases this
      -- the next state
      have next : ∀ (x' : X) (v : Value) (w' : World), (V x')[i]? = some v → (∀ k, L.getD k false = true → (V x')[k]? = (V x)[k]?) → fits o.dst n = true → Sat w0 w' (pl (fun j => (L.setIfInBounds i true).getD j true) x') → wpAny P .any ops Q m (L.setIfInBounds i true) (a.put o.dst v) w' := by
        intro x' v w' hv hsame hfit hS'
        refine ih _ _ _ (by simp [hL]) (by omega) ⟨x', hS', ?_, ?_, ?_, ?_⟩ hcl'
        · cases hd : o.dst <;> simp [Act.put, hsz]
        · cases hd : o.dst <;> simp [Act.put, hdf]
        · intro k ok u s hk hd hu hLk
          by_cases hki : k = i
          · subst hki
            rw [ho] at hk
            cases hk
            rw [hv] at hu
            cases hu
            rw [hd] at hfit ⊢
            have hlt : s < n := by rw [← Nat.blt_eq]; exact hfit
            simp [Act.put, hsz, hlt]
          · have hne : o.dst ≠ some s := fun e => hki (apart k i ok o s hk ho hd e)
            rcases hset k hLk with h1 | h1
            · exact absurd h1 hki
            · have h2 := hdn k ok u s hk hd (by rw [← hsame k h1]; exact hu) h1
              cases hdo : o.dst with
              | none => exact h2
              | some d =>
                simp only [Act.put]
                rw [Array.getElem?_setIfInBounds_ne (fun e => hne (by rw [hdo, e]))]
                exact h2
        · intro s u hlk hnd
          have hne : o.dst ≠ some s := fun e => by
            have := hnd i o ho e
            simp [hil] at this
          have h2 := hol s u hlk fun k ok hk hd => by
            have h3 := hnd k ok hk hd
            have hkl : k < L.size := by have := (Array.getElem?_eq_some_iff.1 hk).1; omega
            by_cases hki : k = i
            · subst hki; rw [ho] at hk; cases hk; exact absurd hd hne
            · simp [hkl, Ne.symm hki] at h3 ⊢; exact h3
          cases hdo : o.dst with
          | none => exact h2
          | some d =>
            simp only [Act.put]
            rw [Array.getElem?_setIfInBounds_ne (fun e => hne (by rw [hdo, e]))]
            exact h2
      have hupd : (fun j => (L.setIfInBounds i true).getD j true) = upd (fun j => L.getD j true) i := by
        funext j
        by_cases hji : j = i
        · subst hji; rw [upd_self]; simp [hil]
        · rw [upd_ne _ hji]
          by_cases hjl : j < L.size
          · simp [hjl, Ne.symm hji]
          · simp [hjl]
      unfold wpOp
      rw [ho]
      simp only
      cases hEi : (E.map (·.1)).any (Nat.beq i) with
      | true =>
        -- an effect
        rw [List.any_eq_true] at hEi
        obtain ⟨e, heE, hei⟩ := hEi
        have := Nat.eq_of_beq_eq_true hei
        subst this
        obtain ⟨o', ho', hfit, hstep⟩ := effsOk_at E hE i heE
        obtain rfl : o' = o := by rw [ho] at ho'; exact (Option.some.inj ho').symm
        have hdep2 : ∀ j, (dependsL ops i ops.size).getD j false = true → L.getD j true = true → L.getD i true = true := by
          intro j hj hj2
          have hjl : j < ops.size := by
            refine Nat.lt_of_not_le fun hge => ?_
            rw [List.getD_eq_getElem?_getD, List.getElem?_eq_none (by rw [dependsL_len]; exact hge)] at hj
            cases hj
          have hjs : j < L.size := by omega
          have h3 := depends_done hup hcl j hjl (by simp [hjs] at hj2 ⊢; exact hj2) hj
          rw [hnot] at h3; cases h3
        have hdeps : ∀ j, (dependsL ops j ops.size).getD i false = true → j ≠ i → L.getD j true = true := by
          intro j hj hne
          -- i waits for j: through others
          have hd : (dependsL ops j ops.size).getD i false = true := hj
          rw [dependsL_at ops j hio, Bool.or_eq_true, List.any_eq_true] at hd
          rcases hd with hd | ⟨k, hk, hd⟩
          · exact absurd (Nat.eq_of_beq_eq_true hd).symm hne
          · rw [Bool.and_eq_true] at hd
            have hki : k < i := by simpa using hk
            have h1 := depends_done hup hcl k (by omega) (hwait k hd.1) (by rw [dependsL_pre ops j hki (by omega)]; exact hd.2)
            have hjl : j < L.size := by
              by_cases h : j < L.size
              · exact h
              · simp [h] at h1
            simp [hjl] at h1 ⊢
            exact h1
        obtain ⟨hw, hop⟩ := hstep (fun j => L.getD j true) x a w hdeps hdep2 (by simp [hil] at h0 ⊢; exact h0) hS hF
        · rw [hF.want hw]
          simp only [if_true]
          refine .inl ?_
          unfold OpR Oper.wp at hop
          unfold Oper.wp
          have nx : ∀ a' w', (∃ v, a' = a.put o'.dst v ∧ ∃ x', (V x')[i]? = some v ∧ SameB (dependsL ops i ops.size) (V x) (V x') ∧ Sat w0 w' (pl (upd (fun j => L.getD j true) i) x')) → wpAny P .any ops Q m (L.setIfInBounds i true) a' w' := by
            rintro a' w' ⟨v, rfl, x', g1, g2, g3⟩
            refine next x' v w' g1 (fun k hk => ?_) hfit (by rw [hupd]; exact g3)
            have hkl : k < L.size := by
              by_cases h : k < L.size
              · exact h
              · simp [h] at hk
            refine sameB_at _ _ _ g2 k ?_
            have hdl := dependsL_len ops i ops.size
            rw [List.getElem?_eq_getElem (by omega)]
            cases hb : (dependsL ops i ops.size)[k]'(by omega) with
            | false => rfl
            | true =>
              have := depends_done hup hcl k (by omega) hk (j := i) (by rw [List.getD_eq_getElem?_getD, List.getElem?_eq_getElem (by omega), hb]; rfl)
              rw [hnot] at this; cases this
          generalize (execOp a.eval o').run P w = r at hop ⊢
          cases r with
          | ok y w' =>
            cases y <;> simp only [Oper.upon] at hop ⊢
            case value u => exact nx _ _ hop
            case skip => exact nx _ _ hop
            case defer d => exact nx _ _ hop
            case enter f args =>
              refine Calls.mono hop fun e w'' he => ?_
              cases e with
              | returned u => exact nx _ _ he
              | panicked c => exact he.elim
              | outgrown => obtain ⟨_, _, h⟩ := he; exact h.elim
            case row row args => exact Rows.mono hop fun u w'' he => nx _ _ he
          | halt y w' =>
            cases y <;> simp only [Oper.upon] at hop ⊢
      | false =>
        have hpx := congrArg (fun l => l[i]?) (hp x)
        simp only [plainsV, plainsW, List.getElem?_map] at hpx
        rw [List.getElem?_range hio] at hpx
        simp only [Option.map_some, hEi, cond_false, ho, Option.some.injEq] at hpx
        have hvi : (V x)[i]? = some ((V x)[i]'(by omega)) := List.getElem?_eq_getElem (by omega)
        rw [hvi] at hpx
        have hplsame : pl (fun j => (L.setIfInBounds i true).getD j true) x = pl (fun j => L.getD j true) x := by
          rw [hupd]
          refine hpl _ _ _ fun e he => upd_ne _ fun h => ?_
          rw [List.any_eq_false] at hEi
          exact hEi e he (by rw [h]; exact Nat.beq_refl i)
        unfold plainV at hpx
        cases hfit : fits o.dst n with
        | false => rw [hfit] at hpx; cases hpx
        | true =>
          rw [hfit] at hpx
          simp only [cond_true] at hpx
          cases hw : wantL ops (opndL ops (V x) L0 i o) o with
          | none => rw [hw] at hpx; cases hpx
          | some b =>
            rw [hw] at hpx
            cases b with
            | true =>
              simp only at hpx
              rw [hF.want hw]
              simp only [if_true]
              exact .inl (wp_of_run (pureV_run hF hpx w) (next x _ w hvi (fun _ _ => rfl) hfit (by rw [hplsame]; exact hS)))
            | false =>
              simp only [Option.some.injEq] at hpx
              rw [hF.want hw]
              simp only [Bool.false_eq_true, if_false]
              exact next x undef w (by rw [hvi, hpx]) (fun _ _ => rfl) hfit (by rw [hplsame]; exact hS)
  obtain ⟨hsz, hdf, hat⟩ := F
  refine key ops.size (Array.replicate ops.size false) a w.drew (by simp) (by simp) ⟨x0, ?_, hsz, hdf, ?_, ?_⟩ ?_
  · refine Eq.subst (motive := fun l => Sat w0 w.drew l) (hpl _ _ _ ?_).symm S
    intro e he
    obtain ⟨o, ho, _⟩ := effsOk_at E hE e he
    have := (Array.getElem?_eq_some_iff.1 ho).1
    simp [this]
  · intro i o v s hi _ _ hl
    have := (Array.getElem?_eq_some_iff.1 hi).1
    simp [this] at hl
  · intro s v hl _
    exact hat s v hl
  · intro i k hi
    by_cases h : i < ops.size
    · simp [h] at hi
    · simp [h] at hi
end
end Go.Proofs.Ytcfpbemoocegfaa
