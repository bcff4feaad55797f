/- A region that draws its order, walked once: if each operation, at the frame in which all of them have yielded their values, yields its own value in every world that meets S and leaves such a world, then the region, in whatever order, ends in that frame and in such a world. Plain: over any program. -/
import Derived.OrdersHeld
import Derived.Deep.RegionHeld3
import Derived.WalkKit
namespace Go.Proofs.Ytcfpbemoocegfaa
set_option linter.unusedVariables false
set_option linter.unusedSimpArgs false
set_option linter.unnecessarySimpa false
open Go

/-- The frame with all values laid in. -/
def fillT : List Oper → List Value → Array Value → Array Value
  | o :: os, v :: vs, t => fillT os vs (match o.dst with | some d => t.setIfInBounds d v | none => t)
  | _, _, t => t

/-- An operation yields v, in every world that meets S, and leaves such a world. -/
def OpOk (P : Program) (S : World → Prop) (act : Act) (o : Oper) (v : Value) : Prop :=
  ∀ w, S w → o.wp P act w (fun a' w' => a' = act.put o.dst v ∧ S w') (fun _ _ _ => False)

def OpsOk (P : Program) (ops : Array Oper) (S : World → Prop) (act : Act) : List Oper → List Value → Prop
  | [], _ => True
  | _ :: _, [] => False
  | o :: os, v :: vs => ((Region.wanted o (yielded ops act.tmps) = true ∧ OpOk P S act o v) ∨ (Region.wanted o (yielded ops act.tmps) = false ∧ v = undef)) ∧ OpsOk P ops S act os vs

/-- What an operation looks at, of the region's own temporaries, is yielded by operations that it waits for; and no temporary is yielded twice. -/
def flowOk (ops : Array Oper) : Bool :=
  (List.range ops.size).all fun i => match ops[i]? with
    | none => true
    | some o => (o.looksAt ops).all fun t => (List.range ops.size).all fun j => match ops[j]? with
        | none => true
        | some oj => oj.dst != some t || o.after.any (fun e => Region.binds .any e && e.on == j)
def apartOk (ops : Array Oper) : Bool :=
  (List.range ops.size).all fun i => (List.range ops.size).all fun j => i == j || match ops[i]?, ops[j]? with
    | some oi, some oj => oi.dst == none || oi.dst != oj.dst
    | _, _ => true

section
variable {P : Program} {ops : Array Oper} {Q : Exit → Act → World → Prop} {S : World → Prop}

theorem fillT_size : ∀ (os : List Oper) (vs : List Value) (t : Array Value), (fillT os vs t).size = t.size
  | [], _, t => by simp [fillT]
  | _ :: _, [], t => by simp [fillT]
  | o :: os, v :: vs, t => by
    unfold fillT
    rw [fillT_size os vs]
    cases o.dst <;> simp

theorem fillT_other : ∀ (os : List Oper) (vs : List Value) (t : Array Value) (s : Nat), (∀ o ∈ os, o.dst ≠ some s) → (fillT os vs t)[s]? = t[s]?
  | [], _, t, s, _ => by simp [fillT]
  | _ :: _, [], t, s, _ => by simp [fillT]
  | o :: os, v :: vs, t, s, h => by
    unfold fillT
    rw [fillT_other os vs _ s (fun o' ho => h o' (by simp [ho]))]
    have h0 := h o (by simp)
    cases hd : o.dst with
    | none => simp
    | some d =>
      simp only
      rw [Array.getElem?_setIfInBounds_ne]
      intro e
      exact h0 (by rw [hd, e])

/-- The frame agrees with the last one wherever nobody who is still to come writes. -/
def Agree (ops : Array Oper) (F : Array Value) (L : Array Bool) (t : Array Value) : Prop :=
  t.size = F.size ∧ ∀ s : Nat, (∀ (i : Nat) (o : Oper), ops[i]? = some o → o.dst = some s → L.getD i true = true) → t[s]? = F[s]?

theorem put_same {F t : Array Value} {d : Nat} {u v : Value} (hs : t.size = F.size) (h : F.setIfInBounds d u = F.setIfInBounds d v) : t.setIfInBounds d u = t.setIfInBounds d v := by
  by_cases hd : d < F.size
  · have h1 : (F.setIfInBounds d u)[d]? = (F.setIfInBounds d v)[d]? := by rw [h]
    simp [hd] at h1
    rw [h1]
  · have ht : ¬ d < t.size := by omega
    simp [Array.setIfInBounds, ht]

theorem agree_eval {F t : Array Value} {L : Array Bool} {o : Oper} {i : Nat} (hfl : flowOk ops = true) (hi : ops[i]? = some o)
    (hdep : ∀ e ∈ o.after, Region.binds .any e = true → L.getD e.on false = true) (h : Agree ops F L t) (s : Nat) (hs : s ∈ o.looksAt ops) : t[s]? = F[s]? := by
  refine h.2 s fun j oj hj hd => ?_
  simp only [flowOk, List.all_eq_true, List.mem_range] at hfl
  have hil : i < ops.size := (Array.getElem?_eq_some_iff.1 hi).1
  have hjl : j < ops.size := (Array.getElem?_eq_some_iff.1 hj).1
  have h1 := hfl i hil
  rw [hi] at h1
  simp only [List.all_eq_true, List.mem_range] at h1
  have h2 := h1 s hs j hjl
  rw [hj] at h2
  simp only [hd, bne_self_eq_false, Bool.false_or, Array.any_eq_true] at h2
  obtain ⟨k, hk, h3⟩ := h2
  simp only [Bool.and_eq_true, beq_iff_eq] at h3
  have h4 := hdep _ (Array.getElem_mem hk) h3.1
  rw [h3.2] at h4
  by_cases hjl' : j < L.size
  · simp [hjl'] at h4 ⊢; exact h4
  · simp [hjl'] at h4

theorem agree_step {F t : Array Value} {L : Array Bool} {i : Nat} {o : Oper} {v : Value} (hi : ops[i]? = some o) (hil : i < L.size) (h : Agree ops F L t)
    (hv : ∀ d, o.dst = some d → F.setIfInBounds d v = F) : Agree ops F (L.setIfInBounds i true) (match o.dst with | some d => t.setIfInBounds d v | none => t) := by
  obtain ⟨hsz, hag⟩ := h
  refine ⟨by cases o.dst <;> simp [hsz], fun s hs => ?_⟩
  by_cases hds : o.dst = some s
  · rw [hds]
    have hF := hv s hds
    by_cases hlt : s < t.size
    · have h1 : (F.setIfInBounds s v)[s]? = F[s]? := by rw [hF]
      have hlt' : s < F.size := by omega
      simp [hlt'] at h1
      simp [hlt, hlt', ← h1]
    · have hlt' : ¬ s < F.size := by omega
      simp [hlt, hlt']
  · have e : (match o.dst with | some d => t.setIfInBounds d v | none => t)[s]? = t[s]? := by
      cases hd : o.dst with
      | none => rfl
      | some d =>
        simp only
        rw [Array.getElem?_setIfInBounds_ne]
        intro e
        exact hds (by rw [hd, e])
    rw [e]
    refine hag s fun j oj hj hdj => ?_
    have h1 := hs j oj hj hdj
    by_cases hji : j = i
    · subst hji
      rw [hi] at hj
      cases hj
      exact absurd hdj hds
    · by_cases hjl : j < L.size
      · simp [hjl, Ne.symm hji] at h1 ⊢
        exact h1
      · simp [hjl]

theorem opsOk_at {act : Act} : ∀ (os : List Oper) (vs : List Value), OpsOk P ops S act os vs → ∀ (k : Nat) (o : Oper), os[k]? = some o → ∃ v, vs[k]? = some v ∧
    ((Region.wanted o (yielded ops act.tmps) = true ∧ OpOk P S act o v) ∨ (Region.wanted o (yielded ops act.tmps) = false ∧ v = undef))
  | [], _, _, k, o, hk => by simp at hk
  | _ :: _, [], h, _, _, _ => by simp [OpsOk] at h
  | o' :: os, v' :: vs, h, k, o, hk => by
    cases k with
    | zero => simp at hk; subst hk; exact ⟨v', by simp, h.1⟩
    | succ k =>
      simp only [List.getElem?_cons_succ] at hk ⊢
      exact opsOk_at os vs h.2 k o hk

theorem fillT_at : ∀ (os : List Oper) (vs : List Value) (t : Array Value) (k : Nat) (o : Oper) (v : Value) (d : Nat), os[k]? = some o → vs[k]? = some v → o.dst = some d →
    (∀ (i : Nat) (oi : Oper), os[i]? = some oi → i ≠ k → oi.dst ≠ some d) → d < t.size → (fillT os vs t)[d]? = some v
  | [], _, _, k, _, _, _, h, _, _, _, _ => by simp at h
  | _ :: _, [], _, k, _, _, _, _, h, _, _, _ => by simp at h
  | o' :: os, v' :: vs, t, k, o, v, d, ho, hv, hd, hap, hlt => by
    unfold fillT
    cases k with
    | zero =>
      simp at ho hv
      subst ho; subst hv
      rw [fillT_other os vs _ d, hd]
      · simp [hlt]
      · intro o2 ho2
        obtain ⟨i, hi, rfl⟩ := List.getElem_of_mem ho2
        exact hap (i + 1) _ (by simp [hi]) (by omega)
    | succ k =>
      simp only [List.getElem?_cons_succ] at ho hv
      refine fillT_at os vs _ k o v d ho hv hd (fun i oi hi hne => hap (i + 1) oi (by simpa using hi) (by omega)) ?_
      cases o'.dst <;> simp [hlt]

theorem count_set {L : Array Bool} {i : Nat} (hi : i < L.size) (h : L.getD i true = false) : (L.setIfInBounds i true).toList.count false + 1 = L.toList.count false := by
  obtain ⟨l⟩ := L
  simp at hi
  simp [hi] at h
  simp only [List.setIfInBounds_toArray]
  induction l generalizing i with
  | nil => simp at hi
  | cons b l ih =>
    cases i with
    | zero => simp at h; subst h; simp
    | succ i =>
      simp only [List.set_cons_succ, List.count_cons]
      simp at hi h
      have := ih hi h
      omega

theorem wpAny_flow {F : Array Value} {ds : List Deferred} {vs : List Value} (hns : Region.noSelect ops = true) (hfl : flowOk ops = true) (hap : apartOk ops = true)
    (hF : ∀ (k : Nat) (o : Oper) (v : Value) (d : Nat), ops[k]? = some o → vs[k]? = some v → o.dst = some d → F.setIfInBounds d v = F)
    (hops : OpsOk P ops S ⟨F, ds⟩ ops.toList vs) (hend : ∀ w, S w → Q .normal ⟨F, ds⟩ w) :
    ∀ (n : Nat) (L : Array Bool) (t : Array Value) (w : World), L.size = ops.size → L.toList.count false = n → Agree ops F L t → S w → (Region.ready .any ops L = [] → L.toList.count false = 0) → 
      (∀ L' : Array Bool, L'.size = ops.size → Region.ready .any ops L' = [] → L'.toList.count false = 0) → wpAny P .any ops Q n L ⟨t, ds⟩ w := by
  have full : ∀ (L : Array Bool) (t : Array Value) (w : World), L.size = ops.size → L.toList.count false = 0 → Agree ops F L t → S w → Q .normal ⟨t, ds⟩ w := by
    intro L t w hL hc ha hS
    have e : t = F := by
      apply Array.ext_getElem?
      intro s
      refine ha.2 s fun i o hi _ => ?_
      have hil : i < L.size := by rw [hL]; exact (Array.getElem?_eq_some_iff.1 hi).1
      rw [List.count_eq_zero] at hc
      rcases hb : L[i] with _ | _
      · exact absurd (by rw [← hb]; exact Array.getElem_mem_toList hil) hc
      · simp [hil, hb]
    rw [e]
    exact hend w hS
  intro n
  induction n with
  | zero =>
    intro L t w hL hc ha hS _ _
    refine ⟨?_, full L t w hL hc ha hS⟩
    apply List.eq_nil_iff_forall_not_mem.2
    intro i hi
    obtain ⟨h0, o, ho, _⟩ := mem_ready.1 hi
    have hil : i < L.size := by rw [hL]; exact (Array.getElem?_eq_some_iff.1 ho).1
    have := count_set hil h0
    omega
  | succ n ih =>
    intro L t w hL hc ha hS hr0 hrr
    refine ⟨fun h => absurd (hr0 h) (by omega), fun i hi => ?_⟩
    obtain ⟨h0, o, ho, hdep⟩ := mem_ready.1 hi
    have hil : i < L.size := by rw [hL]; exact (Array.getElem?_eq_some_iff.1 ho).1
    have hcs := count_set hil h0
    obtain ⟨v, hv, hok⟩ := opsOk_at _ _ hops i o (by simpa using ho)
    have hev : ∀ s ∈ o.looksAt ops, t[s]? = F[s]? := fun s hs => agree_eval hfl ho hdep ha s hs
    have hexec : execOp (Act.eval ⟨t, ds⟩) o = execOp (Act.eval ⟨F, ds⟩) o := by
      refine execOp_congr o (fun cs b => Region.noSelect_spec hns i o cs b ho) fun x hx => ?_
      cases x with
      | tmp s =>
        have : t[s]? = F[s]? := hev s (List.mem_append_left _ (List.mem_filterMap.2 ⟨.tmp s, by simpa using hx, rfl⟩))
        simp [Act.eval, this]
      | _ => rfl
    have hwant : Region.wanted o (yielded ops t) = Region.wanted o (yielded ops F) := by
      unfold Region.wanted
      cases hg : o.guard with
      | none => rfl
      | some gw =>
        obtain ⟨g, want⟩ := gw
        have hy : yielded ops t g = yielded ops F g := by
          unfold yielded
          cases ht : (ops[g]?).bind (·.dst) with
          | none => rfl
          | some s =>
            have : t[s]? = F[s]? := hev s (List.mem_append_right _ (by rw [hg]; simp [ht]))
            simp [this]
        simp only [hy]
    have next : ∀ w', S w' → wpAny P .any ops Q n (L.setIfInBounds i true) (Act.put ⟨t, ds⟩ o.dst v) w' := by
      intro w' hS'
      have e : Act.put ⟨t, ds⟩ o.dst v = ⟨match o.dst with | some d => t.setIfInBounds d v | none => t, ds⟩ := by cases o.dst <;> rfl
      rw [e]
      exact ih _ _ _ (by simp [hL]) (by omega) (agree_step ho hil ha (fun d hd => hF i o v d ho hv hd)) hS' (hrr _ (by simp [hL])) hrr
    unfold wpOp
    rw [ho]
    simp only [hwant]
    rcases hok with ⟨hw, hok⟩ | ⟨hw, rfl⟩
    · rw [if_pos hw]
      refine .inl ?_
      have h1 := hok w hS
      unfold Oper.wp at h1 ⊢
      rw [hexec]
      have upd : ∀ u w', (Act.put ⟨F, ds⟩ o.dst u = Act.put ⟨F, ds⟩ o.dst v ∧ S w') → wpAny P .any ops Q n (L.setIfInBounds i true) (Act.put ⟨t, ds⟩ o.dst u) w' := by
        rintro u w' ⟨he, hS'⟩
        have e : Act.put ⟨t, ds⟩ o.dst u = Act.put ⟨t, ds⟩ o.dst v := by
          cases hd : o.dst with
          | none => rfl
          | some d =>
            rw [hd] at he
            have he' : F.setIfInBounds d u = F.setIfInBounds d v := congrArg Act.tmps he
            show (⟨t.setIfInBounds d u, ds⟩ : Act) = ⟨t.setIfInBounds d v, ds⟩
            rw [put_same ha.1 he']
        rw [e]
        exact next w' hS'
      generalize (execOp (Act.eval ⟨F, ds⟩) o).run P w = r at h1 ⊢
      cases r with
      | ok nx w' =>
        cases nx <;> simp only [Oper.upon] at h1 ⊢
        case value u => exact upd u w' h1
        case skip => exact upd undef w' h1
        case defer d =>
          exfalso
          have := congrArg Act.defers h1.1
          cases hd : o.dst <;> rw [hd] at this <;> simp [Act.put] at this
        case enter f args =>
          refine Calls.mono h1 fun e w'' he => ?_
          cases e with
          | returned u => exact upd u w'' he
          | panicked c => exact he.elim
          | outgrown => obtain ⟨_, _, h⟩ := he; exact h.elim
        case row row args => exact Rows.mono h1 fun u w'' he => upd u w'' he
      | halt x w' =>
        cases x <;> simp only [Oper.upon] at h1 ⊢
    · rw [hw]
      simp only [Bool.false_eq_true, if_false]
      exact next w hS

/-- Every operation comes up: none waits for a later one. -/
def upOk (ops : Array Oper) : Bool := (List.range ops.size).all fun i => match ops[i]? with | none => true | some o => o.after.all fun e => !Region.binds .any e || decide (e.on < i)

theorem ready_full (hup : upOk ops = true) (L : Array Bool) (hL : L.size = ops.size) (h : Region.ready .any ops L = []) : L.toList.count false = 0 := by
  rw [List.count_eq_zero]
  intro hm
  -- the least that is not listed may come up
  have hex : ∃ i : Nat, L[i]? = some false := by
    obtain ⟨i, hi, he⟩ := List.getElem_of_mem hm
    exact ⟨i, by simp at hi; simp [hi]; simpa using he⟩
  obtain ⟨i, hi, hmin⟩ : ∃ i : Nat, L[i]? = some false ∧ ∀ j : Nat, j < i → L[j]? ≠ some false := by
    obtain ⟨i, hi⟩ := hex
    induction i using Nat.strongRecOn with
    | _ i ih =>
      by_cases hq : ∃ j, j < i ∧ L[j]? = some false
      · obtain ⟨j, hj, hj'⟩ := hq
        exact ih j hj hj'
      · exact ⟨i, hi, fun j hj hj' => hq ⟨j, hj, hj'⟩⟩
  have hil : i < L.size := (Array.getElem?_eq_some_iff.1 hi).1
  have hio : i < ops.size := by omega
  have hmem : i ∈ Region.ready .any ops L := by
    refine mem_ready.2 ⟨by simp [hil]; simpa [hil] using hi, ops[i], by simp [hio], fun e he hb => ?_⟩
    simp only [upOk, List.all_eq_true, List.mem_range] at hup
    have h1 := hup i hio
    rw [Array.getElem?_eq_getElem hio] at h1
    simp only [Array.all_eq_true_iff_forall_mem] at h1
    have h2 := h1 e he
    simp only [hb, Bool.not_true, Bool.false_or, decide_eq_true_eq] at h2
    have h3 := hmin e.on h2
    have hel : e.on < L.size := by omega
    simp [hel] at h3 ⊢
    exact h3
  rw [h] at hmem
  cases hmem

/-- **THE REGION**, in whatever order. -/
theorem region_flow {id : Nat} {t : Array Value} {ds : List Deferred} {w : World} (S : World → Prop) (vs : List Value) (hm : P.follows .mixedOrders = true)
    (hns : Region.noSelect ops = true) (hfl : flowOk ops = true) (hap : apartOk ops = true) (hup : upOk ops = true) (_hlen : vs.length = ops.size)
    (hS : S w.drew) (hops : OpsOk P ops S ⟨fillT ops.toList vs t, ds⟩ ops.toList vs) (hend : ∀ w, S w → Q .normal ⟨fillT ops.toList vs t, ds⟩ w) :
    (Code.region id ops true).wp P Q ⟨t, ds⟩ w := by
  refine wp_region_any hm ?_
  have hcount : (Array.replicate ops.size false).toList.count false = ops.size := by simp
  have hcore := wpAny_flow (P := P) (Q := Q) (S := S) (F := fillT ops.toList vs t) (ds := ds) (vs := vs) hns hfl hap ?_ hops hend ops.size (Array.replicate ops.size false) t w.drew (by simp) hcount ?_ hS
    (fun h => ready_full hup _ (by simp) h) (fun L' h1 h2 => ready_full hup L' h1 h2)
  · exact hcore
  · intro k o v d hk hv hd
    have hkl : k < ops.size := (Array.getElem?_eq_some_iff.1 hk).1
    apply Array.ext_getElem?
    intro s
    by_cases hsd : s = d
    · subst hsd
      by_cases hlt : s < (fillT ops.toList vs t).size
      · have hat := fillT_at ops.toList vs t k o v s (by simpa using hk) hv hd ?_ (by rw [fillT_size] at hlt; exact hlt)
        · rw [hat]; simp [hlt]
        · intro i oi hi hne
          simp only [apartOk, List.all_eq_true, List.mem_range] at hap
          have hil : i < ops.size := (Array.getElem?_eq_some_iff.1 (by simpa using hi)).1
          have h1 := hap i hil k hkl
          have hi' : ops[i]? = some oi := by simpa using hi
          rw [hi', hk] at h1
          simp only [Bool.or_eq_true, beq_iff_eq, bne_iff_ne, ne_eq] at h1
          intro he
          rcases h1 with h1 | h1 | h1
          · exact hne h1
          · rw [h1] at he; cases he
          · exact h1 (by rw [he, hd])
      · simp [hlt]
    · rw [Array.getElem?_setIfInBounds_ne (fun e => hsd e.symm)]
  · refine ⟨by rw [fillT_size], fun s hs => ?_⟩
    rw [fillT_other]
    intro o ho hd
    obtain ⟨i, hi, rfl⟩ := List.getElem_of_mem ho
    have hi' : i < ops.size := by simpa using hi
    have := hs i _ (by simp [hi']) hd
    simp [hi'] at this

/-- Each operation, coming up when those that it waits for are listed, keeps J. -/
def StepsOk (P : Program) (ops : Array Oper) (J : Array Bool → Act → World → Prop) : Nat → List Oper → Prop
  | _, [] => True
  | i, o :: os => (∀ L a w, J L a w → L.getD i true = false → (∀ e ∈ o.after, Region.binds .any e = true → L.getD e.on false = true) →
      Region.wanted o (yielded ops a.tmps) = true ∧ o.wp P a w (fun a' w' => J (L.setIfInBounds i true) a' w') (fun _ _ _ => False)) ∧ StepsOk P ops J (i + 1) os

theorem stepsOk_at {J : Array Bool → Act → World → Prop} : ∀ (os : List Oper) (b : Nat), StepsOk P ops J b os → ∀ (k : Nat) (o : Oper), os[k]? = some o →
    ∀ L a w, J L a w → L.getD (b + k) true = false → (∀ e ∈ o.after, Region.binds .any e = true → L.getD e.on false = true) →
      Region.wanted o (yielded ops a.tmps) = true ∧ o.wp P a w (fun a' w' => J (L.setIfInBounds (b + k) true) a' w') (fun _ _ _ => False)
  | [], _, _, k, o, hk => by simp at hk
  | o' :: os, b, h, k, o, hk => by
    cases k with
    | zero => simp at hk; subst hk; exact h.1
    | succ k =>
      simp only [List.getElem?_cons_succ] at hk
      have := stepsOk_at os (b + 1) h.2 k o hk
      rw [show b + (k + 1) = b + 1 + k from by omega]
      exact this

/-- **A REGION BY AN INVARIANT** over what has come up. -/
theorem region_inv {id : Nat} {a : Act} {w : World} (J : Array Bool → Act → World → Prop) (hm : P.follows .mixedOrders = true) (hup : upOk ops = true)
    (h0 : J (Array.replicate ops.size false) a w.drew) (hst : StepsOk P ops J 0 ops.toList) (hend : ∀ a w, J (Array.replicate ops.size true) a w → Q .normal a w) :
    (Code.region id ops true).wp P Q a w := by
  refine wp_region_any hm ?_
  have key : ∀ (n : Nat) (L : Array Bool) (a : Act) (w : World), L.size = ops.size → L.toList.count false = n → J L a w → wpAny P .any ops Q n L a w := by
    intro n
    induction n with
    | zero =>
      intro L a w hL hc hJ
      have hall : L = Array.replicate ops.size true := by
        apply Array.ext
        · simp [hL]
        · intro i h1 h2
          rw [List.count_eq_zero] at hc
          rcases hb : L[i] with _ | _
          · exact absurd (by rw [← hb]; exact Array.getElem_mem_toList h1) hc
          · simp
      refine ⟨?_, hend a w (by rw [← hall]; exact hJ)⟩
      apply List.eq_nil_iff_forall_not_mem.2
      intro i hi
      obtain ⟨h0, o, ho, _⟩ := mem_ready.1 hi
      have hil : i < L.size := by rw [hL]; exact (Array.getElem?_eq_some_iff.1 ho).1
      have := count_set hil h0
      omega
    | succ n ih =>
      intro L a w hL hc hJ
      refine ⟨fun h => absurd (ready_full hup L hL h) (by omega), fun i hi => ?_⟩
      obtain ⟨h0, o, ho, hdep⟩ := mem_ready.1 hi
      have hil : i < L.size := by rw [hL]; exact (Array.getElem?_eq_some_iff.1 ho).1
      have hcs := count_set hil h0
      obtain ⟨hw, hwp⟩ := stepsOk_at _ _ hst i o (by simpa using ho) L a w hJ (by simpa using h0) hdep
      unfold wpOp
      rw [ho]
      simp only [hw, if_true]
      refine .inl ?_
      rw [Nat.zero_add] at hwp
      unfold Oper.wp at hwp ⊢
      generalize (execOp a.eval o).run P w = r at hwp ⊢
      have upd : ∀ a' w', J (L.setIfInBounds i true) a' w' → wpAny P .any ops Q n (L.setIfInBounds i true) a' w' := fun a' w' hj => ih _ a' w' (by simp [hL]) (by omega) hj
      cases r with
      | ok nx w' =>
        cases nx <;> simp only [Oper.upon] at hwp ⊢
        case value u => exact upd _ w' hwp
        case skip => exact upd _ w' hwp
        case defer d => exact upd _ w' hwp
        case enter f args =>
          refine Calls.mono hwp fun e w'' he => ?_
          cases e with
          | returned u => exact upd _ w'' he
          | panicked c => exact he.elim
          | outgrown => obtain ⟨_, _, h⟩ := he; exact h.elim
        case row row args => exact Rows.mono hwp fun u w'' he => upd _ w'' he
      | halt x w' =>
        cases x <;> simp only [Oper.upon] at hwp ⊢
  exact key ops.size (Array.replicate ops.size false) a w.drew (by simp) (by simp) h0

/-- An operation that yields in a world that meets S and leaves it. -/
theorem opOk_pure {act : Act} {o : Oper} {v : Value} (h : ∀ w, S w → (execOp act.eval o).run P w = .ok (.value v) w) : OpOk P S act o v := fun w hS => by
  unfold Oper.wp
  rw [h w hS]
  exact ⟨rfl, hS⟩
/-- A call, by its contract. -/
theorem opOk_call {act : Act} {o : Oper} {v : Value} {f : FuncId} {args : Array Value} (h : ∀ w, S w → (execOp act.eval o).run P w = .ok (.enter f args) w)
    (hc : ∀ w, S w → Calls P f args w fun e w' => e = .returned v ∧ S w') : OpOk P S act o v := fun w hS => by
  unfold Oper.wp
  rw [h w hS]
  refine Calls.mono (hc w hS) ?_
  rintro e w' ⟨rfl, hS'⟩
  exact ⟨rfl, hS'⟩
end
end Go.Proofs.Ytcfpbemoocegfaa
