/- A region that draws its order, some of whose makers may come up one before the other or the other way round: walked once for each such order. Plain: over any program. -/
import Derived.Test.YtjbblgefgjmdaaaChain
namespace Go.Proofs.Ytjbblgefgjmdaaa
set_option linter.unusedVariables false
set_option linter.unusedSimpArgs false
set_option linter.unnecessarySimpa false
open Go

/-- H: the makers that may come up now. -/
def stageT (ops : Array Oper) (E H : List Nat) (kn mask : List Bool) (done : List Nat) : Bool :=
  kn.length == ops.size && mask.length == ops.size && E.all (fun e => e < ops.size && !kn.getD e true) &&
  (List.range ops.size).all (fun i => kn.getD i true || H.contains i || (List.range ops.size).any (fun d => waits ops i d && !kn.getD d true)) &&
  (List.range ops.size).all (fun i => !kn.getD i true || mask.getD i true || done.contains i)
def ChainT (P : Program) (ops : Array Oper) (Q : Exit → Act → World → Prop) (t0 : Array Value) (ds : List Deferred) : Nat → List Nat → List Bool → List Bool → List Nat → List Value → (World → Prop) → Prop
  | 0, E, kn, mask, done, vs, S => E = [] ∧ stageT ops [] [] kn mask done = true ∧ vs.length = ops.size ∧ OpsAt P ops S ⟨fillT ops.toList vs t0, ds⟩ ops.toList mask vs ∧ ∀ w, S w → Q .normal ⟨fillT ops.toList vs t0, ds⟩ w
  | m + 1, E, kn, mask, done, vs, S => E ≠ [] ∧ ∃ H : List Nat, stageT ops E H kn mask done = true ∧ vs.length = ops.size ∧ OpsAt P ops S ⟨fillT ops.toList vs t0, ds⟩ ops.toList mask vs ∧
      ∀ e ∈ H, ∃ o, ops[e]? = some o ∧ Region.wanted o (yielded ops (fillT ops.toList vs t0)) = true ∧
        ∀ w, S w → o.wp P ⟨fillT ops.toList vs t0, ds⟩ w (fun a' w' => ∃ v kn' mask' drop vs' S', a' = Act.put ⟨fillT ops.toList vs t0, ds⟩ o.dst v ∧ vs'[e]? = some v ∧ SameAt kn vs vs' ∧ stepOk ops e kn kn' drop = true ∧ S' w' ∧
          ChainT P ops Q t0 ds m (E.erase e) kn' mask' (drop ++ e :: done) vs' S') (fun _ _ _ => False)

section
variable {P : Program} {ops : Array Oper} {Q : Exit → Act → World → Prop} {t0 : Array Value} {ds : List Deferred}
theorem stageT_facts {E H : List Nat} {kn mask : List Bool} {done : List Nat} (h : stageT ops E H kn mask done = true) :
    kn.length = ops.size ∧ (∀ e ∈ E, e < ops.size ∧ kn.getD e true = false) ∧
    (∀ i, i < ops.size → kn.getD i true = true ∨ i ∈ H ∨ ∃ d, waits ops i d = true ∧ kn.getD d true = false) ∧
    (∀ i, i < ops.size → kn.getD i true = true → mask.getD i true = true ∨ i ∈ done) ∧ mask.length = ops.size := by
  unfold stageT at h
  simp only [Bool.and_eq_true, beq_iff_eq, List.all_eq_true, List.mem_range, Bool.or_eq_true, List.any_eq_true, Bool.not_eq_true', decide_eq_true_eq, List.contains_iff_mem] at h
  obtain ⟨⟨⟨⟨h1, h2⟩, h3⟩, h4⟩, h5⟩ := h
  refine ⟨h1, h3, fun i hi => ?_, fun i hi hk => ?_, h2⟩
  · rcases h4 i hi with (h | h) | ⟨d, _, h⟩
    · exact .inl h
    · exact .inr (.inl h)
    · exact .inr (.inr ⟨d, h.1, h.2⟩)
  · rcases h5 i hi with (h | h) | h
    · rw [hk] at h; cases h
    · exact .inl h
    · exact .inr h

theorem wpAny_chainT (hns : Region.noSelect ops = true) (hfl : flowOk ops = true) (hap : apartOk ops = true) (hup : upOk ops = true) :
    ∀ (n m : Nat) (E : List Nat) (kn mask : List Bool) (done : List Nat) (vs : List Value) (S : World → Prop) (L : Array Bool) (t : Array Value) (w : World), L.size = ops.size → L.toList.count false = n →
      Agree ops (fillT ops.toList vs t0) L t → (∀ i : Nat, L.getD i false = true → kn.getD i false = true) → (∀ i ∈ done, L.getD i false = true) →
      (∀ i j : Nat, L.getD i false = true → waits ops i j = true → L.getD j false = true) → S w → ChainT P ops Q t0 ds m E kn mask done vs S → wpAny P .any ops Q n L ⟨t, ds⟩ w := by
  intro n
  induction n with
  | zero =>
    intro m E kn mask done vs S L t w hL hc ha hkn _ _ hS hch
    have hall : ∀ i, i < ops.size → L.getD i false = true := by
      intro i hi
      rw [List.count_eq_zero] at hc
      have hil : i < L.size := by omega
      rcases hb : L[i] with _ | _
      · exact absurd (by rw [← hb]; exact Array.getElem_mem_toList hil) hc
      · simp [hil, hb]
    refine ⟨?_, ?_⟩
    · apply List.eq_nil_iff_forall_not_mem.2
      intro i hi
      obtain ⟨h0, o, ho, _⟩ := mem_ready.1 hi
      have hil : i < L.size := by rw [hL]; exact (Array.getElem?_eq_some_iff.1 ho).1
      have := count_set hil h0
      omega
    · cases m with
      | succ m =>
        exfalso
        obtain ⟨hne, H, hst, _⟩ := hch
        obtain ⟨h1, h2, _⟩ := stageT_facts hst
        match E, hne with
        | e :: E, _ =>
          obtain ⟨h3, h4⟩ := h2 e (by simp)
          have h5 := hkn e (hall e h3)
          rw [getD_lt (by omega) false true, h4] at h5
          cases h5
      | zero =>
        obtain ⟨rfl, _, _, _, hend⟩ := hch
        have e : t = fillT ops.toList vs t0 := by
          apply Array.ext_getElem?
          intro s
          refine ha.2 s fun i o hi _ => ?_
          have hil : i < ops.size := (Array.getElem?_eq_some_iff.1 hi).1
          have := hall i hil
          have hil' : i < L.size := by omega
          simp [hil'] at this ⊢
          exact this
        rw [e]
        exact hend w hS
  | succ n ih =>
    intro m E kn mask done vs S L t w hL hc ha hkn hdone hcl hS hch
    refine ⟨fun h => absurd (ready_full hup L hL h) (by omega), fun i hi => ?_⟩
    obtain ⟨h0, o, ho, hdep⟩ := mem_ready.1 hi
    have hio : i < ops.size := (Array.getElem?_eq_some_iff.1 ho).1
    have hil : i < L.size := by omega
    have hcs := count_set hil h0
    have hnot : L.getD i false = false := by simp [hil] at h0 ⊢; exact h0
    have hwait : ∀ d, waits ops i d = true → L.getD d false = true := by
      intro d hd
      unfold waits at hd
      rw [ho] at hd
      simp only [Array.any_eq_true] at hd
      obtain ⟨k, hk, h3⟩ := hd
      simp only [Bool.and_eq_true, beq_iff_eq] at h3
      have := hdep _ (Array.getElem_mem hk) h3.1
      rw [h3.2] at this
      exact this
    have hset : ∀ j : Nat, (L.setIfInBounds i true).getD j false = true → j = i ∨ L.getD j false = true := by
      intro j hj
      by_cases hji : j = i
      · exact .inl hji
      · right
        by_cases hjl : j < L.size
        · simp [hjl, Ne.symm hji] at hj ⊢; exact hj
        · simp [hjl] at hj
    have hset' : ∀ j : Nat, L.getD j false = true → (L.setIfInBounds i true).getD j false = true := by
      intro j hj
      by_cases hjl : j < L.size
      · by_cases hji : j = i
        · subst hji; simp [hjl]
        · simp [hjl, Ne.symm hji] at hj ⊢; exact hj
      · simp [hjl] at hj
    have hseti : (L.setIfInBounds i true).getD i false = true := by simp [hil]
    have hcl' : ∀ a b : Nat, (L.setIfInBounds i true).getD a false = true → waits ops a b = true → (L.setIfInBounds i true).getD b false = true := by
      intro a b h1 h2
      rcases hset a h1 with rfl | h1
      · exact hset' b (hwait b h2)
      · exact hset' b (hcl a b h1 h2)
    have hev : ∀ s ∈ o.looksAt ops, t[s]? = (fillT ops.toList vs t0)[s]? := fun s hs => agree_eval hfl ho hdep ha s hs
    obtain ⟨hexec, hwant⟩ := exec_same (ds := ds) hns ho hev
    have hbase : ∃ H, (m = 0 → H = []) ∧ stageT ops E H kn mask done = true ∧ vs.length = ops.size ∧ OpsAt P ops S ⟨fillT ops.toList vs t0, ds⟩ ops.toList mask vs ∧ ∀ k, m = k + 1 → ∀ e ∈ H, ∃ o, ops[e]? = some o ∧ Region.wanted o (yielded ops (fillT ops.toList vs t0)) = true ∧
        ∀ w, S w → o.wp P ⟨fillT ops.toList vs t0, ds⟩ w (fun a' w' => ∃ v kn' mask' drop vs' S', a' = Act.put ⟨fillT ops.toList vs t0, ds⟩ o.dst v ∧ vs'[e]? = some v ∧ SameAt kn vs vs' ∧ stepOk ops e kn kn' drop = true ∧ S' w' ∧
          ChainT P ops Q t0 ds k (E.erase e) kn' mask' (drop ++ e :: done) vs' S') (fun _ _ _ => False) := by
      cases m with
      | zero => exact ⟨[], fun _ => rfl, by rw [hch.1]; exact hch.2.1, hch.2.2.1, hch.2.2.2.1, (fun k h => by cases h)⟩
      | succ m =>
        obtain ⟨_, H, h1, h2, h3, h4⟩ := hch
        exact ⟨H, (fun h => by cases h), h1, h2, h3, (fun k hk => by cases hk; exact h4)⟩
    obtain ⟨H, hH0, hstage, hvl, hops, hmk⟩ := hbase
    obtain ⟨f1, f2, f3, f4, f5⟩ := stageT_facts hstage
    unfold wpOp
    rw [ho]
    simp only [hwant]
    rcases f3 i hio with hk | hk | ⟨d, hd, hk⟩
    · -- it only reads
      have hm : mask.getD i false = true := by
        rcases f4 i hio hk with h | h
        · rw [getD_lt (by omega) false true]; exact h
        · rw [hdone i h] at hnot; cases hnot
      obtain ⟨v, hv, hok⟩ := opsAt_at _ _ _ hops i o (by simpa using ho) hm
      have next : ∀ w', S w' → wpAny P .any ops Q n (L.setIfInBounds i true) (Act.put ⟨t, ds⟩ o.dst v) w' := by
        intro w' hS'
        have e : Act.put ⟨t, ds⟩ o.dst v = ⟨match o.dst with | some d => t.setIfInBounds d v | none => t, ds⟩ := by cases o.dst <;> rfl
        rw [e]
        refine ih m E kn mask done vs S _ _ _ (by simp [hL]) (by omega) (agree_step ho hil ha (fun d hd => fill_put hap hvl ho hv d hd)) (fun j hj => ?_) (fun j hj => hset' j (hdone j hj)) hcl' hS' hch
        rcases hset j hj with rfl | h
        · rw [getD_lt (by omega) false true]; exact hk
        · exact hkn j h
      rcases hok with ⟨hw, hok⟩ | ⟨hw, rfl⟩
      · rw [if_pos hw]
        refine .inl (step_same (R := fun u w' => u = v ∧ S w') ha.1 hexec ?_ ?_)
        · refine Oper.wp_mono ?_ (hok w hS)
          rintro a' w' ⟨h1, h2⟩
          exact ⟨v, h1, rfl, h2⟩
        · rintro u w' ⟨rfl, hS'⟩
          exact next w' hS'
      · rw [hw]
        simp only [Bool.false_eq_true, if_false]
        exact next w hS
    · -- the next maker
      cases m with
      | zero => rw [hH0 rfl] at hk; cases hk
      | succ m =>
        obtain ⟨e, he⟩ : ∃ e, e = i := ⟨_, rfl⟩
        subst he
        obtain ⟨o', ho', hw, hwp⟩ := hmk m rfl e hk
        obtain rfl : o' = o := by rw [ho] at ho'; exact (Option.some.inj ho').symm
        rw [if_pos hw]
        refine .inl (step_same ha.1 hexec (R := fun v w' => ∃ kn' mask' drop vs' S', vs'[e]? = some v ∧ SameAt kn vs vs' ∧ stepOk ops e kn kn' drop = true ∧ S' w' ∧ ChainT P ops Q t0 ds m (E.erase e) kn' mask' (drop ++ e :: done) vs' S') ?_ ?_)
        · refine Oper.wp_mono ?_ (hwp w hS)
          rintro a' w' ⟨v, kn', mask', drop, vs', S', h1, h2⟩
          exact ⟨v, h1, kn', mask', drop, vs', S', h2⟩
        · rintro v w' ⟨kn', mask', drop, vs', S', hve, hsame, hstep, hS', hch'⟩
          have hvl' : vs'.length = ops.size := by cases m with
            | zero => exact hch'.2.2.1
            | succ m => obtain ⟨_, _, _, h, _⟩ := hch'; exact h
          have g1 : kn'.length = ops.size := by cases m with
            | zero => exact (stageT_facts hch'.2.1).1
            | succ m => obtain ⟨_, _, h, _⟩ := hch'; exact (stageT_facts h).1
          unfold stepOk at hstep
          simp only [Bool.and_eq_true, List.all_eq_true, List.mem_range, Bool.or_eq_true, Bool.not_eq_true'] at hstep
          obtain ⟨⟨k1, k2⟩, k3⟩ := hstep
          have e1 : Act.put ⟨t, ds⟩ o'.dst v = ⟨match o'.dst with | some d => t.setIfInBounds d v | none => t, ds⟩ := by cases o'.dst <;> rfl
          rw [e1]
          have hdrop := drop_came hcl' drop [e] k3 (fun j hj => by simp at hj; subst hj; exact hseti)
          refine ih m (E.erase e) kn' mask' (drop ++ e :: done) vs' S' _ _ _ (by simp [hL]) (by omega) ?_ (fun j hj => ?_) (fun j hj => ?_) hcl' hS' hch'
          · -- the frame
            refine ⟨by have := ha.1; cases o'.dst <;> simp [fillT_size] at this ⊢ <;> exact this, fun s hs => ?_⟩
            have hts : t.size = t0.size := by have := ha.1; rw [fillT_size] at this; exact this
            by_cases hwr : ∃ (k : Nat) (ok : Oper), ops[k]? = some ok ∧ ok.dst = some s
            · obtain ⟨k, ok, hko, hkd⟩ := hwr
              have hkl : k < ops.size := (Array.getElem?_eq_some_iff.1 hko).1
              by_cases hlt : s < t0.size
              · rw [fill_writer hap hvl' hko hkd hlt]
                have hLk := hs k ok hko hkd
                by_cases hke : k = e
                · subst hke
                  obtain rfl : ok = o' := by rw [ho] at hko; exact (Option.some.inj hko).symm
                  rw [hve, hkd]
                  simp [hts, hlt]
                · have hLk' : L.getD k false = true := by
                    have hkl' : k < L.size := by omega
                    rcases hset k (by simp [hkl'] at hLk ⊢; exact hLk) with h | h
                    · exact absurd h hke
                    · exact h
                  have hne : o'.dst ≠ some s := by
                    intro hd
                    simp only [apartOk, List.all_eq_true, List.mem_range] at hap
                    have h1 := hap k hkl e hio
                    rw [hko, ho] at h1
                    simp only [Bool.or_eq_true, beq_iff_eq, bne_iff_ne, ne_eq] at h1
                    rcases h1 with h1 | h1 | h1
                    · exact hke h1
                    · rw [h1] at hkd; cases hkd
                    · exact h1 (by rw [hkd, hd])
                  have e2 : (match o'.dst with | some d => t.setIfInBounds d v | none => t)[s]? = t[s]? := by
                    cases hd : o'.dst with
                    | none => rfl
                    | some d =>
                      simp only
                      rw [Array.getElem?_setIfInBounds_ne]
                      intro e3
                      exact hne (by rw [hd, e3])
                  rw [e2]
                  have h4 : t[s]? = (fillT ops.toList vs t0)[s]? := by
                    refine ha.2 s fun j oj hj hdj => ?_
                    by_cases hjk : j = k
                    · subst hjk
                      have hkl' : j < L.size := by omega
                      simp [hkl'] at hLk' ⊢; exact hLk'
                    · exfalso
                      simp only [apartOk, List.all_eq_true, List.mem_range] at hap
                      have h1 := hap j ((Array.getElem?_eq_some_iff.1 hj).1) k hkl
                      rw [hj, hko] at h1
                      simp only [Bool.or_eq_true, beq_iff_eq, bne_iff_ne, ne_eq] at h1
                      rcases h1 with h1 | h1 | h1
                      · exact hjk h1
                      · rw [h1] at hdj; cases hdj
                      · exact h1 (by rw [hdj, hkd])
                  rw [h4, fill_writer hap hvl hko hkd hlt]
                  exact (sameAt_at kn vs vs' hsame k (hkn k hLk') (by omega) (by omega)).symm
              · have h1 : (fillT ops.toList vs' t0)[s]? = none := by rw [Array.getElem?_eq_none]; rw [fillT_size]; omega
                rw [h1]
                rw [Array.getElem?_eq_none]
                cases o'.dst <;> (simp [hts]; try omega)
            · have hno : ∀ ox ∈ ops.toList, ox.dst ≠ some s := by
                intro ox hox hd
                obtain ⟨k, hk', rfl⟩ := List.getElem_of_mem hox
                exact hwr ⟨k, _, by simp at hk' ⊢, hd⟩
              rw [fillT_other _ _ _ _ hno]
              have h4 : t[s]? = (fillT ops.toList vs t0)[s]? := ha.2 s fun j oj hj hdj => absurd ⟨j, oj, hj, hdj⟩ hwr
              rw [fillT_other _ _ _ _ hno] at h4
              rw [← h4]
              cases hd : o'.dst with
              | none => rfl
              | some d =>
                simp only
                rw [Array.getElem?_setIfInBounds_ne]
                intro e3
                exact hwr ⟨e, o', ho, by rw [hd, e3]⟩
          · rcases hset j hj with rfl | h
            · exact k2
            · have hj' := hkn j h
              have hjl : j < ops.size := by
                have := f1
                by_cases hjj : j < kn.length
                · omega
                · simp [List.getD_eq_getElem?_getD, hjj] at hj'
              rcases k1 j hjl with h | h
              · rw [getD_lt (by omega) true false, hj'] at h; cases h
              · exact h
          · simp only [List.mem_append, List.mem_cons] at hj
            rcases hj with hj | rfl | hj
            · exact hdrop j hj
            · exact hseti
            · exact hset' j (hdone j hj)
    · -- it waits for what isn't known
      have h1 := hkn d (hwait d hd)
      by_cases hdl : d < kn.length
      · rw [getD_lt hdl false true, hk] at h1; cases h1
      · simp [List.getD_eq_getElem?_getD, hdl] at h1

/-- **THE REGION**, its makers in whatever order they may come up. -/
theorem region_chainT {id : Nat} {w : World} (m : Nat) (E : List Nat) (kn mask : List Bool) (vs : List Value) (S : World → Prop) (hm : P.follows .mixedOrders = true)
    (hns : Region.noSelect ops = true) (hfl : flowOk ops = true) (hap : apartOk ops = true) (hup : upOk ops = true) (hS : S w.drew) (hch : ChainT P ops Q t0 ds m E kn mask [] vs S) :
    (Code.region id ops true).wp P Q ⟨t0, ds⟩ w := by
  refine wp_region_any hm ?_
  have hcount : (Array.replicate ops.size false).toList.count false = ops.size := by simp
  refine wpAny_chainT hns hfl hap hup ops.size m E kn mask [] vs S (Array.replicate ops.size false) t0 w.drew (by simp) hcount ?_ (fun i hi => ?_) (fun i hi => by cases hi) (fun i j hi => ?_) hS hch
  · refine ⟨by rw [fillT_size], fun s hs => ?_⟩
    rw [fillT_other]
    intro o ho hd
    obtain ⟨i, hi, rfl⟩ := List.getElem_of_mem ho
    have hi' : i < ops.size := by simpa using hi
    have := hs i _ (by simp [hi']) hd
    simp [hi'] at this
  · by_cases h : i < ops.size <;> simp [h] at hi
  · intro _
    by_cases h : i < ops.size <;> simp [h] at hi

theorem chainT_nil {kn mask : List Bool} {done : List Nat} {vs : List Value} {S : World → Prop} {E : List Nat} (h0 : E = []) (h1 : stageT ops [] [] kn mask done = true) (h2 : vs.length = ops.size) (h3 : OpsAt P ops S ⟨fillT ops.toList vs t0, ds⟩ ops.toList mask vs)
    (h4 : ∀ w, S w → Q .normal ⟨fillT ops.toList vs t0, ds⟩ w) : ChainT P ops Q t0 ds 0 E kn mask done vs S := ⟨h0, h1, h2, h3, h4⟩
/-- What a maker does, and what is left then. -/
def MakeT (P : Program) (ops : Array Oper) (Q : Exit → Act → World → Prop) (t0 : Array Value) (ds : List Deferred) (m : Nat) (E : List Nat) (kn : List Bool) (done : List Nat) (vs : List Value) (S : World → Prop) (e : Nat) : Prop := ∃ o, ops[e]? = some o ∧ Region.wanted o (yielded ops (fillT ops.toList vs t0)) = true ∧
        ∀ w, S w → o.wp P ⟨fillT ops.toList vs t0, ds⟩ w (fun a' w' => ∃ v kn' mask' drop vs' S', a' = Act.put ⟨fillT ops.toList vs t0, ds⟩ o.dst v ∧ vs'[e]? = some v ∧ SameAt kn vs vs' ∧ stepOk ops e kn kn' drop = true ∧ S' w' ∧
          ChainT P ops Q t0 ds m (E.erase e) kn' mask' (drop ++ e :: done) vs' S') (fun _ _ _ => False)
theorem chainT_one {m : Nat} {E : List Nat} {kn mask : List Bool} {done : List Nat} {vs : List Value} {S : World → Prop} (e : Nat) (h0 : E ≠ []) (h1 : stageT ops E [e] kn mask done = true) (h2 : vs.length = ops.size)
    (h3 : OpsAt P ops S ⟨fillT ops.toList vs t0, ds⟩ ops.toList mask vs) (h4 : MakeT P ops Q t0 ds m E kn done vs S e) : ChainT P ops Q t0 ds (m + 1) E kn mask done vs S := ⟨h0, [e], h1, h2, h3, fun e' he => by simp at he; subst he; exact h4⟩
theorem chainT_two {m : Nat} {E : List Nat} {kn mask : List Bool} {done : List Nat} {vs : List Value} {S : World → Prop} (e f : Nat) (h0 : E ≠ []) (h1 : stageT ops E [e, f] kn mask done = true) (h2 : vs.length = ops.size)
    (h3 : OpsAt P ops S ⟨fillT ops.toList vs t0, ds⟩ ops.toList mask vs) (h4 : MakeT P ops Q t0 ds m E kn done vs S e) (h5 : MakeT P ops Q t0 ds m E kn done vs S f) : ChainT P ops Q t0 ds (m + 1) E kn mask done vs S := ⟨h0, [e, f], h1, h2, h3, fun e' he => by simp at he; rcases he with rfl | rfl; exact h4; exact h5⟩
theorem makeT {m : Nat} {E : List Nat} {kn : List Bool} {done : List Nat} {vs : List Value} {S : World → Prop} {e : Nat} (o : Oper) (h0 : ops[e]? = some o) (h4 : Region.wanted o (yielded ops (fillT ops.toList vs t0)) = true)
    (h5 : ∀ w, S w → o.wp P ⟨fillT ops.toList vs t0, ds⟩ w (fun a' w' => ∃ v kn' mask' drop vs' S', a' = Act.put ⟨fillT ops.toList vs t0, ds⟩ o.dst v ∧ vs'[e]? = some v ∧ SameAt kn vs vs' ∧ stepOk ops e kn kn' drop = true ∧ S' w' ∧
      ChainT P ops Q t0 ds m (E.erase e) kn' mask' (drop ++ e :: done) vs' S') (fun _ _ _ => False)) : MakeT P ops Q t0 ds m E kn done vs S e := ⟨o, h0, h4, h5⟩
end
end Go.Proofs.Ytjbblgefgjmdaaa
