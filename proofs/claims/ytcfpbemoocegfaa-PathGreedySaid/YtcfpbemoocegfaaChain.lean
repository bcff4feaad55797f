/- A region that draws its order and whose makers and writers come one behind the other: walked once. What only reads may come up anywhere between; its value is shown wherever it may come up. Plain: over any program. -/
import Derived.Test.YtcfpbemoocegfaaFlow
namespace Go.Proofs.Ytcfpbemoocegfaa
set_option linter.unusedVariables false
set_option linter.unusedSimpArgs false
set_option linter.unnecessarySimpa false
open Go

/-- The operations that may come up now yield their values. -/
def OpsAt (P : Program) (ops : Array Oper) (S : World → Prop) (act : Act) : List Oper → List Bool → List Value → Prop
  | [], _, _ => True
  | o :: os, true :: bs, v :: vs => ((Region.wanted o (yielded ops act.tmps) = true ∧ OpOk P S act o v) ∨ (Region.wanted o (yielded ops act.tmps) = false ∧ v = undef)) ∧ OpsAt P ops S act os bs vs
  | _ :: os, false :: bs, _ :: vs => OpsAt P ops S act os bs vs
  | _ :: _, [], _ => False
  | _ :: _, true :: _, [] => False
  | _ :: _, false :: _, [] => False

/-- What was known stays. -/
def SameAt : List Bool → List Value → List Value → Prop
  | true :: bs, v :: vs, u :: us => u = v ∧ SameAt bs vs us
  | false :: bs, _ :: vs, _ :: us => SameAt bs vs us
  | _, _, _ => True

def waits (ops : Array Oper) (i j : Nat) : Bool := match ops[i]? with
  | none => false
  | some o => o.after.any fun e => Region.binds .any e && e.on == j
/-- i surely came up, where all of acc did. -/
def dropOk (ops : Array Oper) : List Nat → List Nat → Bool
  | _, [] => true
  | acc, i :: is => acc.any (fun j => waits ops j i) && dropOk ops (i :: acc) is
/-- The head e of the makers that are left: whatever isn't known, but e, waits for something that isn't known; whatever is known and isn't looked at came up. -/
def stageOk (ops : Array Oper) (E : List Nat) (kn mask : List Bool) (done : List Nat) : Bool :=
  kn.length == ops.size && mask.length == ops.size && E.all (fun e => e < ops.size && !kn.getD e true) &&
  (List.range ops.size).all (fun i => kn.getD i true || E.head? == some i || (List.range ops.size).any (fun d => waits ops i d && !kn.getD d true)) &&
  (List.range ops.size).all (fun i => !kn.getD i true || mask.getD i true || done.contains i)
def stepOk (ops : Array Oper) (e : Nat) (kn kn' : List Bool) (drop : List Nat) : Bool :=
  (List.range ops.size).all (fun i => !kn.getD i true || kn'.getD i false) && kn'.getD e false && dropOk ops [e] drop

def Chain (P : Program) (ops : Array Oper) (Q : Exit → Act → World → Prop) (t0 : Array Value) (ds : List Deferred) : List Nat → List Bool → List Bool → List Nat → List Value → (World → Prop) → Prop
  | [], kn, mask, done, vs, S => stageOk ops [] kn mask done = true ∧ vs.length = ops.size ∧ OpsAt P ops S ⟨fillT ops.toList vs t0, ds⟩ ops.toList mask vs ∧ ∀ w, S w → Q .normal ⟨fillT ops.toList vs t0, ds⟩ w
  | e :: E, kn, mask, done, vs, S => stageOk ops (e :: E) kn mask done = true ∧ vs.length = ops.size ∧ OpsAt P ops S ⟨fillT ops.toList vs t0, ds⟩ ops.toList mask vs ∧
      ∃ o, ops[e]? = some o ∧ Region.wanted o (yielded ops (fillT ops.toList vs t0)) = true ∧
        ∀ w, S w → o.wp P ⟨fillT ops.toList vs t0, ds⟩ w (fun a' w' => ∃ v kn' mask' drop vs' S', a' = Act.put ⟨fillT ops.toList vs t0, ds⟩ o.dst v ∧ vs'[e]? = some v ∧ SameAt kn vs vs' ∧ stepOk ops e kn kn' drop = true ∧ S' w' ∧
          Chain P ops Q t0 ds E kn' mask' (drop ++ e :: done) vs' S') (fun _ _ _ => False)

section
variable {P : Program} {ops : Array Oper} {Q : Exit → Act → World → Prop} {t0 : Array Value} {ds : List Deferred}

theorem opsAt_at {S : World → Prop} {act : Act} : ∀ (os : List Oper) (bs : List Bool) (vs : List Value), OpsAt P ops S act os bs vs → ∀ (k : Nat) (o : Oper), os[k]? = some o → bs.getD k false = true → ∃ v, vs[k]? = some v ∧
    ((Region.wanted o (yielded ops act.tmps) = true ∧ OpOk P S act o v) ∨ (Region.wanted o (yielded ops act.tmps) = false ∧ v = undef))
  | [], _, _, _, k, o, hk, _ => by simp at hk
  | o' :: os, true :: bs, v' :: vs, h, k, o, hk, hb => by
    cases k with
    | zero => simp at hk; subst hk; exact ⟨v', by simp, h.1⟩
    | succ k =>
      obtain ⟨v, h1, h2⟩ := opsAt_at os bs vs h.2 k o (by simpa using hk) (by simpa using hb)
      exact ⟨v, by simpa using h1, h2⟩
  | o' :: os, false :: bs, v' :: vs, h, k, o, hk, hb => by
    cases k with
    | zero => simp at hb
    | succ k =>
      obtain ⟨v, h1, h2⟩ := opsAt_at os bs vs h k o (by simpa using hk) (by simpa using hb)
      exact ⟨v, by simpa using h1, h2⟩
  | _ :: _, [], _, h, _, _, _, _ => h.elim
  | _ :: _, true :: _, [], h, _, _, _, _ => h.elim
  | _ :: _, false :: _, [], h, _, _, _, _ => h.elim

theorem sameAt_at : ∀ (bs : List Bool) (vs us : List Value), SameAt bs vs us → ∀ k : Nat, bs.getD k false = true → k < vs.length → k < us.length → us[k]? = vs[k]?
  | [], _, _, _, k, hb, _, _ => by simp at hb
  | true :: bs, v :: vs, u :: us, h, k, hb, h1, h2 => by
    cases k with
    | zero => simp [h.1]
    | succ k => simpa using sameAt_at bs vs us h.2 k (by simpa using hb) (by simpa using h1) (by simpa using h2)
  | false :: bs, v :: vs, u :: us, h, k, hb, h1, h2 => by
    cases k with
    | zero => simp at hb
    | succ k => simpa using sameAt_at bs vs us h k (by simpa using hb) (by simpa using h1) (by simpa using h2)
  | _ :: _, [], _, _, k, _, h1, _ => by simp at h1
  | _ :: _, _ :: _, [], _, k, _, _, h2 => by simp at h2

theorem drop_came {L : Array Bool} (hcl : ∀ i j : Nat, L.getD i false = true → waits ops i j = true → L.getD j false = true) : ∀ (is acc : List Nat), dropOk ops acc is = true → (∀ j ∈ acc, L.getD j false = true) → ∀ i ∈ is, L.getD i false = true
  | [], _, _, _, i, hi => by cases hi
  | i' :: is, acc, h, hacc, i, hi => by
    unfold dropOk at h
    rw [Bool.and_eq_true, List.any_eq_true] at h
    obtain ⟨⟨j, hj, hw⟩, h2⟩ := h
    have h1 : L.getD i' false = true := hcl j i' (hacc j hj) hw
    rcases List.mem_cons.1 hi with rfl | hi
    · exact h1
    · exact drop_came hcl is (i' :: acc) h2 (fun j hj => by rcases List.mem_cons.1 hj with rfl | hj; exact h1; exact hacc j hj) i hi

/-- A slot's value in the frame with all values laid in: its only writer's, or what it was. -/
theorem fill_writer (hap : apartOk ops = true) {vs : List Value} (hl : vs.length = ops.size) {i d : Nat} {o : Oper} (ho : ops[i]? = some o) (hd : o.dst = some d) (hlt : d < t0.size) : (fillT ops.toList vs t0)[d]? = vs[i]? := by
  have hil : i < ops.size := (Array.getElem?_eq_some_iff.1 ho).1
  have hv : vs[i]? = some vs[i] := List.getElem?_eq_getElem (by omega)
  rw [hv]
  refine fillT_at ops.toList vs t0 i o _ d (by simpa using ho) hv hd (fun j oj hj hne he => ?_) hlt
  simp only [apartOk, List.all_eq_true, List.mem_range] at hap
  have hj' : ops[j]? = some oj := by simpa using hj
  have h1 := hap j ((Array.getElem?_eq_some_iff.1 hj').1) i hil
  rw [hj', ho] at h1
  simp only [Bool.or_eq_true, beq_iff_eq, bne_iff_ne, ne_eq] at h1
  rcases h1 with h1 | h1 | h1
  · exact hne h1
  · rw [h1] at he; cases he
  · exact h1 (by rw [he, hd])

theorem fill_put (hap : apartOk ops = true) {vs : List Value} (hl : vs.length = ops.size) {i : Nat} {o : Oper} {v : Value} (ho : ops[i]? = some o) (hv : vs[i]? = some v) : ∀ d, o.dst = some d → (fillT ops.toList vs t0).setIfInBounds d v = fillT ops.toList vs t0 := by
  intro d hd
  apply Array.ext_getElem?
  intro s
  by_cases hsd : s = d
  · subst hsd
    by_cases hlt : s < (fillT ops.toList vs t0).size
    · rw [fill_writer hap hl ho hd (by rw [fillT_size] at hlt; exact hlt), hv]
      simp [hlt]
    · simp [hlt]
  · rw [Array.getElem?_setIfInBounds_ne (fun e => hsd e.symm)]

theorem exec_same {F t : Array Value} {o : Oper} {i : Nat} (hns : Region.noSelect ops = true) (ho : ops[i]? = some o) (hev : ∀ s ∈ o.looksAt ops, t[s]? = F[s]?) :
    execOp (Act.eval ⟨t, ds⟩) o = execOp (Act.eval ⟨F, ds⟩) o ∧ Region.wanted o (yielded ops t) = Region.wanted o (yielded ops F) := by
  constructor
  · refine execOp_congr o (fun cs b => Region.noSelect_spec hns i o cs b ho) fun x hx => ?_
    cases x with
    | tmp s =>
      have : t[s]? = F[s]? := hev s (List.mem_append_left _ (List.mem_filterMap.2 ⟨.tmp s, by simpa using hx, rfl⟩))
      simp [Act.eval, this]
    | _ => rfl
  · unfold Region.wanted
    cases hg : o.guard with
    | none => rfl
    | some gw =>
      obtain ⟨g, want⟩ := gw
      have hy : yielded ops t g = yielded ops F g := by
        unfold yielded
        cases ht : (ops[g]?).bind (·.dst) with
        | none => rfl
        | some s =>
          have : t[s]? = F[s]? := hev s (List.mem_append_right _ (by rw [hg]; simp [ht]))
          simp [this]
      simp only [hy]

/-- A step that leaves 'put v' at the full frame leaves it at the frame that is there. -/
theorem step_same {F t : Array Value} {o : Oper} {w : World} {n : Nat} {L : Array Bool} (hsz : t.size = F.size) (hexec : execOp (Act.eval ⟨t, ds⟩) o = execOp (Act.eval ⟨F, ds⟩) o) {R : Value → World → Prop}
    (h1 : o.wp P ⟨F, ds⟩ w (fun a' w' => ∃ v, a' = Act.put ⟨F, ds⟩ o.dst v ∧ R v w') (fun _ _ _ => False)) (next : ∀ v w', R v w' → wpAny P .any ops Q n L (Act.put ⟨t, ds⟩ o.dst v) w') :
    o.wp P ⟨t, ds⟩ w (fun a' w' => wpAny P .any ops Q n L a' w') Q := by
  unfold Oper.wp at h1 ⊢
  rw [hexec]
  have upd : ∀ u w', (∃ v, Act.put ⟨F, ds⟩ o.dst u = Act.put ⟨F, ds⟩ o.dst v ∧ R v w') → wpAny P .any ops Q n L (Act.put ⟨t, ds⟩ o.dst u) w' := by
    rintro u w' ⟨v, he, hR⟩
    have e : Act.put ⟨t, ds⟩ o.dst u = Act.put ⟨t, ds⟩ o.dst v := by
      cases hd : o.dst with
      | none => rfl
      | some d =>
        rw [hd] at he
        have he' : F.setIfInBounds d u = F.setIfInBounds d v := congrArg Act.tmps he
        show (⟨t.setIfInBounds d u, ds⟩ : Act) = ⟨t.setIfInBounds d v, ds⟩
        rw [put_same hsz he']
    rw [e]
    exact next v w' hR
  generalize (execOp (Act.eval ⟨F, ds⟩) o).run P w = r at h1 ⊢
  cases r with
  | ok nx w' =>
    cases nx <;> simp only [Oper.upon] at h1 ⊢
    case value u => exact upd u w' h1
    case skip => exact upd undef w' h1
    case defer d =>
      exfalso
      obtain ⟨v, h1, _⟩ := h1
      have := congrArg Act.defers h1
      cases hd : o.dst <;> rw [hd] at this <;> simp [Act.put] at this
    case enter f args =>
      refine Calls.mono h1 fun e w'' he => ?_
      cases e with
      | returned u => exact upd u w'' he
      | panicked c => exact he.elim
      | outgrown => obtain ⟨_, _, h⟩ := he; exact h.elim
    case row row args => exact Rows.mono h1 fun u w'' he => upd u w'' he
  | halt x w' =>
    cases x <;> simp only [Oper.upon] at h1 ⊢

theorem stage_facts {E : List Nat} {kn mask : List Bool} {done : List Nat} (h : stageOk ops E kn mask done = true) :
    kn.length = ops.size ∧ (∀ e ∈ E, e < ops.size ∧ kn.getD e true = false) ∧
    (∀ i, i < ops.size → kn.getD i true = true ∨ E.head? = some i ∨ ∃ d, waits ops i d = true ∧ kn.getD d true = false) ∧
    (∀ i, i < ops.size → kn.getD i true = true → mask.getD i true = true ∨ i ∈ done) ∧ mask.length = ops.size := by
  unfold stageOk at h
  simp only [Bool.and_eq_true, beq_iff_eq, List.all_eq_true, List.mem_range, Bool.or_eq_true, List.any_eq_true, Bool.not_eq_true', decide_eq_true_eq, List.contains_iff_mem] at h
  obtain ⟨⟨⟨⟨h1, h2⟩, h3⟩, h4⟩, h5⟩ := h
  refine ⟨h1, h3, fun i hi => ?_, fun i hi hk => ?_, h2⟩
  · rcases h4 i hi with (h | h) | ⟨d, _, h⟩
    · exact .inl h
    · exact .inr (.inl h)
    · exact .inr (.inr ⟨d, h.1, h.2⟩)
  · rcases h5 i hi with (h | h) | h
    · rw [hk] at h; cases h
    · exact .inl h
    · exact .inr h

theorem getD_lt {l : List Bool} {i : Nat} (h : i < l.length) (b c : Bool) : l.getD i b = l.getD i c := by simp [List.getD_eq_getElem?_getD, h]

theorem wpAny_chain (hns : Region.noSelect ops = true) (hfl : flowOk ops = true) (hap : apartOk ops = true) (hup : upOk ops = true) :
    ∀ (n : Nat) (E : List Nat) (kn mask : List Bool) (done : List Nat) (vs : List Value) (S : World → Prop) (L : Array Bool) (t : Array Value) (w : World), L.size = ops.size → L.toList.count false = n →
      Agree ops (fillT ops.toList vs t0) L t → (∀ i : Nat, L.getD i false = true → kn.getD i false = true) → (∀ i ∈ done, L.getD i false = true) →
      (∀ i j : Nat, L.getD i false = true → waits ops i j = true → L.getD j false = true) → S w → Chain P ops Q t0 ds E kn mask done vs S → wpAny P .any ops Q n L ⟨t, ds⟩ w := by
  intro n
  induction n with
  | zero =>
    intro E kn mask done vs S L t w hL hc ha hkn _ _ hS hch
    have hall : ∀ i, i < ops.size → L.getD i false = true := by
      intro i hi
      rw [List.count_eq_zero] at hc
      have hil : i < L.size := by omega
      rcases hb : L[i] with _ | _
      · exact absurd (by rw [← hb]; exact Array.getElem_mem_toList hil) hc
      · simp [hil, hb]
    refine ⟨?_, ?_⟩
    · apply List.eq_nil_iff_forall_not_mem.2
      intro i hi
      obtain ⟨h0, o, ho, _⟩ := mem_ready.1 hi
      have hil : i < L.size := by rw [hL]; exact (Array.getElem?_eq_some_iff.1 ho).1
      have := count_set hil h0
      omega
    · cases E with
      | cons e E =>
        exfalso
        have hst := hch.1
        obtain ⟨h1, h2, _⟩ := stage_facts hst
        obtain ⟨h3, h4⟩ := h2 e (by simp)
        have h5 := hkn e (hall e h3)
        rw [getD_lt (by omega) false true, h4] at h5
        cases h5
      | nil =>
        obtain ⟨_, _, _, hend⟩ := hch
        have e : t = fillT ops.toList vs t0 := by
          apply Array.ext_getElem?
          intro s
          refine ha.2 s fun i o hi _ => ?_
          have hil : i < ops.size := (Array.getElem?_eq_some_iff.1 hi).1
          have := hall i hil
          have hil' : i < L.size := by omega
          simp [hil'] at this ⊢
          exact this
        rw [e]
        exact hend w hS
  | succ n ih =>
    intro E kn mask done vs S L t w hL hc ha hkn hdone hcl hS hch
    refine ⟨fun h => absurd (ready_full hup L hL h) (by omega), fun i hi => ?_⟩
    obtain ⟨h0, o, ho, hdep⟩ := mem_ready.1 hi
    have hio : i < ops.size := (Array.getElem?_eq_some_iff.1 ho).1
    have hil : i < L.size := by omega
    have hcs := count_set hil h0
    have hnot : L.getD i false = false := by simp [hil] at h0 ⊢; exact h0
    have hwait : ∀ d, waits ops i d = true → L.getD d false = true := by
      intro d hd
      unfold waits at hd
      rw [ho] at hd
      simp only [Array.any_eq_true] at hd
      obtain ⟨k, hk, h3⟩ := hd
      simp only [Bool.and_eq_true, beq_iff_eq] at h3
      have := hdep _ (Array.getElem_mem hk) h3.1
      rw [h3.2] at this
      exact this
    have hset : ∀ j : Nat, (L.setIfInBounds i true).getD j false = true → j = i ∨ L.getD j false = true := by
      intro j hj
      by_cases hji : j = i
      · exact .inl hji
      · right
        by_cases hjl : j < L.size
        · simp [hjl, Ne.symm hji] at hj ⊢; exact hj
        · simp [hjl] at hj
    have hset' : ∀ j : Nat, L.getD j false = true → (L.setIfInBounds i true).getD j false = true := by
      intro j hj
      by_cases hjl : j < L.size
      · by_cases hji : j = i
        · subst hji; simp [hjl]
        · simp [hjl, Ne.symm hji] at hj ⊢; exact hj
      · simp [hjl] at hj
    have hseti : (L.setIfInBounds i true).getD i false = true := by simp [hil]
    have hcl' : ∀ a b : Nat, (L.setIfInBounds i true).getD a false = true → waits ops a b = true → (L.setIfInBounds i true).getD b false = true := by
      intro a b h1 h2
      rcases hset a h1 with rfl | h1
      · exact hset' b (hwait b h2)
      · exact hset' b (hcl a b h1 h2)
    have hev : ∀ s ∈ o.looksAt ops, t[s]? = (fillT ops.toList vs t0)[s]? := fun s hs => agree_eval hfl ho hdep ha s hs
    obtain ⟨hexec, hwant⟩ := exec_same (ds := ds) hns ho hev
    have hbase : stageOk ops E kn mask done = true ∧ vs.length = ops.size ∧ OpsAt P ops S ⟨fillT ops.toList vs t0, ds⟩ ops.toList mask vs := by
      cases E with
      | nil => exact ⟨hch.1, hch.2.1, hch.2.2.1⟩
      | cons e E => exact ⟨hch.1, hch.2.1, hch.2.2.1⟩
    obtain ⟨hstage, hvl, hops⟩ := hbase
    obtain ⟨f1, f2, f3, f4, f5⟩ := stage_facts hstage
    unfold wpOp
    rw [ho]
    simp only [hwant]
    rcases f3 i hio with hk | hk | ⟨d, hd, hk⟩
    · -- it only reads
      have hm : mask.getD i false = true := by
        rcases f4 i hio hk with h | h
        · rw [getD_lt (by omega) false true]; exact h
        · rw [hdone i h] at hnot; cases hnot
      obtain ⟨v, hv, hok⟩ := opsAt_at _ _ _ hops i o (by simpa using ho) hm
      have next : ∀ w', S w' → wpAny P .any ops Q n (L.setIfInBounds i true) (Act.put ⟨t, ds⟩ o.dst v) w' := by
        intro w' hS'
        have e : Act.put ⟨t, ds⟩ o.dst v = ⟨match o.dst with | some d => t.setIfInBounds d v | none => t, ds⟩ := by cases o.dst <;> rfl
        rw [e]
        refine ih E kn mask done vs S _ _ _ (by simp [hL]) (by omega) (agree_step ho hil ha (fun d hd => fill_put hap hvl ho hv d hd)) (fun j hj => ?_) (fun j hj => hset' j (hdone j hj)) hcl' hS' hch
        rcases hset j hj with rfl | h
        · rw [getD_lt (by omega) false true]; exact hk
        · exact hkn j h
      rcases hok with ⟨hw, hok⟩ | ⟨hw, rfl⟩
      · rw [if_pos hw]
        refine .inl (step_same (R := fun u w' => u = v ∧ S w') ha.1 hexec ?_ ?_)
        · refine Oper.wp_mono ?_ (hok w hS)
          rintro a' w' ⟨h1, h2⟩
          exact ⟨v, h1, rfl, h2⟩
        · rintro u w' ⟨rfl, hS'⟩
          exact next w' hS'
      · rw [hw]
        simp only [Bool.false_eq_true, if_false]
        exact next w hS
    · -- the next maker
      cases E with
      | nil => cases hk
      | cons e E =>
        obtain rfl : e = i := by simpa using hk
        obtain ⟨_, _, _, o', ho', hw, hwp⟩ := hch
        obtain rfl : o' = o := by rw [ho] at ho'; exact (Option.some.inj ho').symm
        rw [if_pos hw]
        refine .inl (step_same ha.1 hexec (R := fun v w' => ∃ kn' mask' drop vs' S', vs'[e]? = some v ∧ SameAt kn vs vs' ∧ stepOk ops e kn kn' drop = true ∧ S' w' ∧ Chain P ops Q t0 ds E kn' mask' (drop ++ e :: done) vs' S') ?_ ?_)
        · refine Oper.wp_mono ?_ (hwp w hS)
          rintro a' w' ⟨v, kn', mask', drop, vs', S', h1, h2⟩
          exact ⟨v, h1, kn', mask', drop, vs', S', h2⟩
        · rintro v w' ⟨kn', mask', drop, vs', S', hve, hsame, hstep, hS', hch'⟩
          have hvl' : vs'.length = ops.size := by cases E with
            | nil => exact hch'.2.1
            | cons _ _ => exact hch'.2.1
          have hst' : stageOk ops E kn' mask' (drop ++ e :: done) = true := by cases E with
            | nil => exact hch'.1
            | cons _ _ => exact hch'.1
          obtain ⟨g1, _⟩ := stage_facts hst'
          unfold stepOk at hstep
          simp only [Bool.and_eq_true, List.all_eq_true, List.mem_range, Bool.or_eq_true, Bool.not_eq_true'] at hstep
          obtain ⟨⟨k1, k2⟩, k3⟩ := hstep
          have e1 : Act.put ⟨t, ds⟩ o'.dst v = ⟨match o'.dst with | some d => t.setIfInBounds d v | none => t, ds⟩ := by cases o'.dst <;> rfl
          rw [e1]
          have hdrop := drop_came hcl' drop [e] k3 (fun j hj => by simp at hj; subst hj; exact hseti)
          refine ih E kn' mask' (drop ++ e :: done) vs' S' _ _ _ (by simp [hL]) (by omega) ?_ (fun j hj => ?_) (fun j hj => ?_) hcl' hS' hch'
          · -- the frame
            refine ⟨by have := ha.1; cases o'.dst <;> simp [fillT_size] at this ⊢ <;> exact this, fun s hs => ?_⟩
            have hts : t.size = t0.size := by have := ha.1; rw [fillT_size] at this; exact this
            by_cases hwr : ∃ (k : Nat) (ok : Oper), ops[k]? = some ok ∧ ok.dst = some s
            · obtain ⟨k, ok, hko, hkd⟩ := hwr
              have hkl : k < ops.size := (Array.getElem?_eq_some_iff.1 hko).1
              by_cases hlt : s < t0.size
              · rw [fill_writer hap hvl' hko hkd hlt]
                have hLk := hs k ok hko hkd
                by_cases hke : k = e
                · subst hke
                  obtain rfl : ok = o' := by rw [ho] at hko; exact (Option.some.inj hko).symm
                  rw [hve, hkd]
                  simp [hts, hlt]
                · have hLk' : L.getD k false = true := by
                    have hkl' : k < L.size := by omega
                    rcases hset k (by simp [hkl'] at hLk ⊢; exact hLk) with h | h
                    · exact absurd h hke
                    · exact h
                  have hne : o'.dst ≠ some s := by
                    intro hd
                    simp only [apartOk, List.all_eq_true, List.mem_range] at hap
                    have h1 := hap k hkl e hio
                    rw [hko, ho] at h1
                    simp only [Bool.or_eq_true, beq_iff_eq, bne_iff_ne, ne_eq] at h1
                    rcases h1 with h1 | h1 | h1
                    · exact hke h1
                    · rw [h1] at hkd; cases hkd
                    · exact h1 (by rw [hkd, hd])
                  have e2 : (match o'.dst with | some d => t.setIfInBounds d v | none => t)[s]? = t[s]? := by
                    cases hd : o'.dst with
                    | none => rfl
                    | some d =>
                      simp only
                      rw [Array.getElem?_setIfInBounds_ne]
                      intro e3
                      exact hne (by rw [hd, e3])
                  rw [e2]
                  have h4 : t[s]? = (fillT ops.toList vs t0)[s]? := by
                    refine ha.2 s fun j oj hj hdj => ?_
                    by_cases hjk : j = k
                    · subst hjk
                      have hkl' : j < L.size := by omega
                      simp [hkl'] at hLk' ⊢; exact hLk'
                    · exfalso
                      simp only [apartOk, List.all_eq_true, List.mem_range] at hap
                      have h1 := hap j ((Array.getElem?_eq_some_iff.1 hj).1) k hkl
                      rw [hj, hko] at h1
                      simp only [Bool.or_eq_true, beq_iff_eq, bne_iff_ne, ne_eq] at h1
                      rcases h1 with h1 | h1 | h1
                      · exact hjk h1
                      · rw [h1] at hdj; cases hdj
                      · exact h1 (by rw [hdj, hkd])
                  rw [h4, fill_writer hap hvl hko hkd hlt]
                  exact (sameAt_at kn vs vs' hsame k (hkn k hLk') (by omega) (by omega)).symm
              · have h1 : (fillT ops.toList vs' t0)[s]? = none := by rw [Array.getElem?_eq_none]; rw [fillT_size]; omega
                rw [h1]
                rw [Array.getElem?_eq_none]
                cases o'.dst <;> (simp [hts]; try omega)
            · have hno : ∀ ox ∈ ops.toList, ox.dst ≠ some s := by
                intro ox hox hd
                obtain ⟨k, hk', rfl⟩ := List.getElem_of_mem hox
                exact hwr ⟨k, _, by simp at hk' ⊢, hd⟩
              rw [fillT_other _ _ _ _ hno]
              have h4 : t[s]? = (fillT ops.toList vs t0)[s]? := ha.2 s fun j oj hj hdj => absurd ⟨j, oj, hj, hdj⟩ hwr
              rw [fillT_other _ _ _ _ hno] at h4
              rw [← h4]
              cases hd : o'.dst with
              | none => rfl
              | some d =>
                simp only
                rw [Array.getElem?_setIfInBounds_ne]
                intro e3
                exact hwr ⟨e, o', ho, by rw [hd, e3]⟩
          · rcases hset j hj with rfl | h
            · exact k2
            · have hj' := hkn j h
              have hjl : j < ops.size := by
                have := f1
                by_cases hjj : j < kn.length
                · omega
                · simp [List.getD_eq_getElem?_getD, hjj] at hj'
              rcases k1 j hjl with h | h
              · rw [getD_lt (by omega) true false, hj'] at h; cases h
              · exact h
          · simp only [List.mem_append, List.mem_cons] at hj
            rcases hj with hj | rfl | hj
            · exact hdrop j hj
            · exact hseti
            · exact hset' j (hdone j hj)
    · -- it waits for what isn't known
      have h1 := hkn d (hwait d hd)
      by_cases hdl : d < kn.length
      · rw [getD_lt hdl false true, hk] at h1; cases h1
      · simp [List.getD_eq_getElem?_getD, hdl] at h1

/-- **THE REGION**, its makers one behind the other. -/
theorem region_chain {id : Nat} {w : World} (E : List Nat) (kn mask : List Bool) (vs : List Value) (S : World → Prop) (hm : P.follows .mixedOrders = true)
    (hns : Region.noSelect ops = true) (hfl : flowOk ops = true) (hap : apartOk ops = true) (hup : upOk ops = true) (hS : S w.drew) (hch : Chain P ops Q t0 ds E kn mask [] vs S) :
    (Code.region id ops true).wp P Q ⟨t0, ds⟩ w := by
  refine wp_region_any hm ?_
  have hcount : (Array.replicate ops.size false).toList.count false = ops.size := by simp
  refine wpAny_chain hns hfl hap hup ops.size E kn mask [] vs S (Array.replicate ops.size false) t0 w.drew (by simp) hcount ?_ (fun i hi => ?_) (fun i hi => by cases hi) (fun i j hi => ?_) hS hch
  · refine ⟨by rw [fillT_size], fun s hs => ?_⟩
    rw [fillT_other]
    intro o ho hd
    obtain ⟨i, hi, rfl⟩ := List.getElem_of_mem ho
    have hi' : i < ops.size := by simpa using hi
    have := hs i _ (by simp [hi']) hd
    simp [hi'] at this
  · by_cases h : i < ops.size <;> simp [h] at hi
  · intro _
    by_cases h : i < ops.size <;> simp [h] at hi

theorem chain_nil {kn mask : List Bool} {done : List Nat} {vs : List Value} {S : World → Prop} (h1 : stageOk ops [] kn mask done = true) (h2 : vs.length = ops.size) (h3 : OpsAt P ops S ⟨fillT ops.toList vs t0, ds⟩ ops.toList mask vs)
    (h4 : ∀ w, S w → Q .normal ⟨fillT ops.toList vs t0, ds⟩ w) : Chain P ops Q t0 ds [] kn mask done vs S := ⟨h1, h2, h3, h4⟩
theorem chain_cons {e : Nat} {E : List Nat} {kn mask : List Bool} {done : List Nat} {vs : List Value} {S : World → Prop} (o : Oper) (h1 : stageOk ops (e :: E) kn mask done = true) (h2 : vs.length = ops.size) (h0 : ops[e]? = some o)
    (h3 : OpsAt P ops S ⟨fillT ops.toList vs t0, ds⟩ ops.toList mask vs) (h4 : Region.wanted o (yielded ops (fillT ops.toList vs t0)) = true)
    (h5 : ∀ w, S w → o.wp P ⟨fillT ops.toList vs t0, ds⟩ w (fun a' w' => ∃ v kn' mask' drop vs' S', a' = Act.put ⟨fillT ops.toList vs t0, ds⟩ o.dst v ∧ vs'[e]? = some v ∧ SameAt kn vs vs' ∧ stepOk ops e kn kn' drop = true ∧ S' w' ∧
      Chain P ops Q t0 ds E kn' mask' (drop ++ e :: done) vs' S') (fun _ _ _ => False)) : Chain P ops Q t0 ds (e :: E) kn mask done vs S := ⟨h1, h2, h3, o, h0, h4, h5⟩
end
end Go.Proofs.Ytcfpbemoocegfaa
