/- A drawn region whose last operation waits for all others: the others first, in whatever order, then the last one. Plain: over any program. -/
import Derived.Test.YtcfpbemoocegfaaChain
namespace Go.Proofs.Ytcfpbemoocegfaa
set_option linter.unusedVariables false
set_option linter.unusedSimpArgs false
set_option linter.unnecessarySimpa false
open Go

/-- The region's operations, in whatever order. -/
def AnyWp (P : Program) (ops : Array Oper) (Q : Exit → Act → World → Prop) (a : Act) (w : World) : Prop := wpAny P .any ops Q ops.size (Array.replicate ops.size false) a w
theorem region_any {P : Program} {ops : Array Oper} {Q : Exit → Act → World → Prop} {id : Nat} {a : Act} {w : World} (hm : P.follows .mixedOrders = true) (h : AnyWp P ops Q a w.drew) : (Code.region id ops true).wp P Q a w := wp_region_any hm h

inductive Snoc {α : Type} : List α → List α → α → Prop
  | one (a : α) : Snoc [a] [] a
  | cons {l i : List α} {a : α} (b : α) : Snoc l i a → Snoc (b :: l) (b :: i) a
theorem Snoc.eq {α : Type} {l i : List α} {a : α} (h : Snoc l i a) : l = i ++ [a] := by
  induction h with
  | one a => rfl
  | cons b _ ih => rw [ih]; rfl

def endQ (R : Act → World → Prop) : Exit → Act → World → Prop := fun e a w => e = .normal ∧ R a w
def guardOk (ops : List Oper) : Bool := ops.all fun o => match o.guard with | none => true | some (g, _) => decide (g < ops.length)
def waitsOk (n : Nat) (o : Oper) : Bool := o.guard == none && (List.range n).all fun j => o.after.any fun e => Region.binds .any e && e.on == j

section
variable {P : Program} {Q : Exit → Act → World → Prop} {R : Act → World → Prop}
theorem wp_ends {o : Oper} {a : Act} {w : World} {K K' : Act → World → Prop} (h : ∀ a w, K a w → K' a w) (hh : o.wp P a w K (endQ R)) : o.wp P a w K' Q := by
  unfold Oper.wp at *
  generalize (execOp a.eval o).run P w = r at *
  cases r with
  | ok n w' =>
    cases n <;> simp only [Oper.upon] at hh ⊢
    case value u => exact h _ _ hh
    case skip => exact h _ _ hh
    case defer d => exact h _ _ hh
    case enter f args =>
      refine Calls.mono hh fun e w'' he => ?_
      cases e with
      | returned u => exact h _ _ he
      | panicked c => exact nomatch he.1
      | outgrown => obtain ⟨_, _, he, _⟩ := he; exact nomatch he
    case row row args => exact Rows.mono hh fun u w'' he => h _ _ he
  | halt x w' =>
    cases x <;> simp only [Oper.upon] at hh ⊢
    all_goals first | exact nomatch hh.1 | exact hh
theorem not_out : ¬ LetsOut (endQ R) := by rintro ⟨_, _, h, _⟩; exact nomatch h

theorem push_at {α : Type} {A : Array α} {x : α} {i : Nat} (h : i < A.size) : (A.push x)[i]? = A[i]? := by
  simp [Array.getElem?_push, Nat.ne_of_lt h]
theorem wpOp_push {ops : List Oper} {o : Oper} (hg : guardOk ops = true) {i : Nat} (hi : i < ops.length) {K K' : Act → World → Prop} {a : Act} {w : World} (h : ∀ a w, K a w → K' a w)
    (hh : wpOp P ops.toArray (endQ R) i K a w) : wpOp P (ops.toArray.push o) Q i K' a w := by
  unfold wpOp at *
  have hia : i < ops.toArray.size := by simpa using hi
  rw [push_at hia]
  rw [Array.getElem?_eq_getElem hia] at hh ⊢
  simp only at hh ⊢
  have hwant : Region.wanted ops.toArray[i] (yielded (ops.toArray.push o) a.tmps) = Region.wanted ops.toArray[i] (yielded ops.toArray a.tmps) := by
    unfold Region.wanted
    cases hgd : (ops.toArray[i]).guard with
    | none => rfl
    | some p =>
      obtain ⟨g, want⟩ := p
      simp only [guardOk, List.all_eq_true] at hg
      have h1 := hg ops.toArray[i] (by simp)
      rw [hgd] at h1
      simp only [decide_eq_true_eq] at h1
      have : yielded (ops.toArray.push o) a.tmps g = yielded ops.toArray a.tmps g := by
        unfold yielded
        rw [push_at (by simpa using h1)]
      simp only [this]
  rw [hwant]
  split
  · rename_i hw
    rw [if_pos hw] at hh
    rcases hh with hh | ⟨_, hh⟩
    · exact .inl (wp_ends h hh)
    · exact absurd hh not_out
  · rename_i hw
    rw [if_neg hw] at hh
    exact h _ _ hh
theorem wpAny_last {ops : List Oper} {o : Oper} (hup : upOk (ops.toArray.push o) = true) (hup0 : upOk ops.toArray = true) (hw : waitsOk ops.length o = true) (hg : guardOk ops = true) :
    ∀ (n : Nat) (L : Array Bool) (a : Act) (w : World), L.size = ops.length → wpAny P .any ops.toArray (endQ fun a w => o.wp P a w (fun a' w' => Q .normal a' w') Q) n L a w → wpAny P .any (ops.toArray.push o) Q (n + 1) (L.push false) a w := by
  have hw2 := hw
  simp only [waitsOk, Bool.and_eq_true, beq_iff_eq, List.all_eq_true, List.mem_range] at hw2
  obtain ⟨hgd, hwj⟩ := hw2
  have szp : (ops.toArray.push o).size = ops.length + 1 := by simp
  -- the last one may come up only when all are there
  have allOf : ∀ (L : Array Bool), L.size = ops.length → (∀ i, i < ops.length → L.getD i false = true) → L.toList.count false = 0 := by
    intro L hL h
    rw [List.count_eq_zero]
    intro hm
    obtain ⟨i, hi, he⟩ := List.getElem_of_mem hm
    simp only [Array.length_toList] at hi
    have h1 := h i (by omega)
    simp only [Array.getElem_toList] at he
    simp [hi, he] at h1
  have lastReady : ∀ (L : Array Bool), L.size = ops.length → ops.length ∈ Region.ready .any (ops.toArray.push o) (L.push false) → L.toList.count false = 0 := by
    intro L hL hr
    obtain ⟨_, o', ho', hdep⟩ := mem_ready.1 hr
    have e1 : (ops.toArray.push o)[ops.length]? = some o := by simp [Array.getElem?_push]
    rw [e1] at ho'
    cases ho'
    refine allOf L hL fun i hi => ?_
    have h2 := hwj i hi
    simp only [Array.any_eq_true, Bool.and_eq_true, beq_iff_eq] at h2
    obtain ⟨k, hk, h3, h4⟩ := h2
    have h5 := hdep _ (Array.getElem_mem hk) h3
    rw [h4] at h5
    have hil : i < L.size := by omega
    have hil2 : i < (L.push false).size := by simp; omega
    simp only [Array.getD_eq_getD_getElem?, push_at hil] at h5 ⊢
    exact h5
  have full : ∀ (L : Array Bool), L.size = ops.length → L.toList.count false = 0 → Region.ready .any (ops.toArray.push o) (L.push true) = [] := by
    intro L hL hc
    apply List.eq_nil_iff_forall_not_mem.2
    intro i hi
    obtain ⟨h0, o', ho', _⟩ := mem_ready.1 hi
    have hil : i < ops.length + 1 := by have := (Array.getElem?_eq_some_iff.1 ho').1; omega
    rw [List.count_eq_zero] at hc
    by_cases h : i < L.size
    · rw [Array.getD_eq_getD_getElem?, push_at h, Array.getElem?_eq_getElem h] at h0
      simp only [Option.getD_some] at h0
      exact hc (by rw [← h0]; exact Array.getElem_mem_toList h)
    · have hi2 : i = L.size := by omega
      subst hi2
      simp [Array.getElem?_push] at h0
  have none_ : ∀ (L : Array Bool), L.size = ops.length → Region.ready .any (ops.toArray.push o) (L.push false) ≠ [] := by
    intro L hL h
    have := ready_full hup (L.push false) (by simp [hL]) h
    rw [List.count_eq_zero] at this
    exact this (by simp)
  have zeroReady : ∀ (L : Array Bool), L.size = ops.length → L.toList.count false = 0 → Region.ready .any ops.toArray L = [] := by
    intro L hL hc
    apply List.eq_nil_iff_forall_not_mem.2
    intro i hi
    obtain ⟨h0, o', ho', _⟩ := mem_ready.1 hi
    have hil : i < L.size := by have := (Array.getElem?_eq_some_iff.1 ho').1; simp at this; omega
    rw [List.count_eq_zero] at hc
    rw [Array.getD_eq_getD_getElem?, Array.getElem?_eq_getElem hil] at h0
    simp only [Option.getD_some] at h0
    exact hc (by rw [← h0]; exact Array.getElem_mem_toList hil)
  have runLast : ∀ (n : Nat) (L : Array Bool) (a : Act) (w : World), L.size = ops.length → L.toList.count false = 0 → o.wp P a w (fun a' w' => Q .normal a' w') Q → wpOp P (ops.toArray.push o) Q ops.length (wpAny P .any (ops.toArray.push o) Q n ((L.push false).setIfInBounds ops.length true)) a w := by
    intro n L a w hL hc h
    have e1 : (ops.toArray.push o)[ops.length]? = some o := by simp [Array.getElem?_push]
    have e2 : (L.push false).setIfInBounds ops.length true = L.push true := by
      apply Array.ext_getElem?
      intro i
      by_cases hi : i = ops.length
      · subst hi
        rw [Array.getElem?_setIfInBounds_self_of_lt (by simp [hL]), Array.getElem?_push, if_pos hL.symm]
      · rw [Array.getElem?_setIfInBounds_ne (Ne.symm hi)]
        simp only [Array.getElem?_push]
        rw [if_neg (by omega), if_neg (by omega)]
    rw [e2]
    unfold wpOp
    rw [e1]
    simp only
    have hwant : Region.wanted o (yielded (ops.toArray.push o) a.tmps) = true := by unfold Region.wanted; rw [hgd]
    rw [if_pos hwant]
    refine .inl (Oper.wp_mono (fun a' w' hq => ?_) h)
    cases n with
    | zero => exact ⟨full L hL hc, hq⟩
    | succ n => exact ⟨fun _ => hq, fun i hi => by rw [full L hL hc] at hi; cases hi⟩
  intro n
  induction n with
  | zero =>
    intro L a w hL h
    obtain ⟨hr, _, hR⟩ := h
    have hc := ready_full hup0 L (by simpa using hL) hr
    refine ⟨fun h => absurd h (none_ L hL), fun i hi => ?_⟩
    by_cases hil : i < ops.length
    · obtain ⟨h0, _⟩ := mem_ready.1 hi
      rw [List.count_eq_zero] at hc
      have hil' : i < L.size := by omega
      rw [Array.getD_eq_getD_getElem?, push_at hil', Array.getElem?_eq_getElem hil'] at h0
      simp only [Option.getD_some] at h0
      exact absurd (by rw [← h0]; exact Array.getElem_mem_toList hil') hc
    · have hsz : i < ops.length + 1 := by
        obtain ⟨_, o', ho', _⟩ := mem_ready.1 hi
        have := (Array.getElem?_eq_some_iff.1 ho').1; omega
      obtain rfl : i = ops.length := by omega
      exact runLast 0 L a w hL hc hR
  | succ n ih =>
    intro L a w hL h
    obtain ⟨hr, hs⟩ := h
    refine ⟨fun h => absurd h (none_ L hL), fun i hi => ?_⟩
    by_cases hil : i < ops.length
    · obtain ⟨h0, o', ho', hdep⟩ := mem_ready.1 hi
      have hil' : i < L.size := by omega
      have hio : i < ops.toArray.size := by simpa using hil
      rw [push_at hio] at ho'
      rw [Array.getD_eq_getD_getElem?, push_at hil', ← Array.getD_eq_getD_getElem?] at h0
      have hup1 := hup0
      simp only [upOk, List.all_eq_true, List.mem_range] at hup1
      have hu := hup1 i hio
      rw [ho'] at hu
      simp only [Array.all_eq_true_iff_forall_mem] at hu
      have hmem : i ∈ Region.ready .any ops.toArray L := by
        refine mem_ready.2 ⟨h0, o', ho', fun e he hb => ?_⟩
        have h1 := hdep e he hb
        have h2 := hu e he
        simp only [hb, Bool.not_true, Bool.false_or, decide_eq_true_eq] at h2
        have hel : e.on < L.size := by omega
        rw [Array.getD_eq_getD_getElem?, push_at hel, ← Array.getD_eq_getD_getElem?] at h1
        exact h1
      have e2 : (L.push false).setIfInBounds i true = (L.setIfInBounds i true).push false := by
        apply Array.ext_getElem?
        intro j
        by_cases hj : j = i
        · subst hj
          rw [Array.getElem?_setIfInBounds_self_of_lt (by simp; omega), push_at (by simp; omega), Array.getElem?_setIfInBounds_self_of_lt hil']
        · rw [Array.getElem?_setIfInBounds_ne (Ne.symm hj)]
          simp only [Array.getElem?_push, Array.size_setIfInBounds]
          rw [Array.getElem?_setIfInBounds_ne (Ne.symm hj)]
      rw [e2]
      exact wpOp_push hg hil (fun a' w' h' => ih _ a' w' (by simp [hL]) h') (hs i hmem)
    · have hsz : i < ops.length + 1 := by
        obtain ⟨_, o', ho', _⟩ := mem_ready.1 hi
        have := (Array.getElem?_eq_some_iff.1 ho').1; omega
      obtain rfl : i = ops.length := by omega
      have hc := lastReady L hL hi
      exact runLast (n + 1) L a w hL hc (hr (zeroReady L hL hc)).2
/-- **The last one last.** -/
theorem any_last {all init : List Oper} {o : Oper} {a : Act} {w : World} (hs : Snoc all init o) (h : upOk all.toArray = true ∧ upOk init.toArray = true ∧ waitsOk init.length o = true ∧ guardOk init = true)
    (hR : AnyWp P init.toArray (endQ fun a w => o.wp P a w (fun a' w' => Q .normal a' w') Q) a w) : AnyWp P all.toArray Q a w := by
  obtain ⟨h1, h2, h3, h4⟩ := h
  have e := hs.eq
  have e1 : all.toArray = init.toArray.push o := by rw [e]; simp
  unfold AnyWp at *
  rw [e1] at h1 ⊢
  have hx := wpAny_last (P := P) (Q := Q) h1 h2 h3 h4 init.toArray.size (Array.replicate init.toArray.size false) a w (by simp) hR
  have e2 : (Array.replicate init.toArray.size false).push false = Array.replicate (init.toArray.push o).size false := by
    apply Array.ext
    · simp
    · intro i h1 h2; simp [Array.getElem_push]
  rw [e2] at hx
  have e3 : (init.toArray.push o).size = init.toArray.size + 1 := by simp
  rw [e3] at hx ⊢
  exact hx
def initO (o : Oper) : List Oper → List Oper
  | [] => []
  | b :: l => o :: initO b l
def lastO (o : Oper) : List Oper → Oper
  | [] => o
  | b :: l => lastO b l
theorem snocO : ∀ (o : Oper) (l : List Oper), Snoc (o :: l) (initO o l) (lastO o l)
  | o, [] => Snoc.one o
  | o, b :: l => Snoc.cons o (snocO b l)
theorem any_lastO {o : Oper} {l : List Oper} {a : Act} {w : World} (h : upOk (o :: l).toArray = true ∧ upOk (initO o l).toArray = true ∧ waitsOk (initO o l).length (lastO o l) = true ∧ guardOk (initO o l) = true)
    (hR : AnyWp P (initO o l).toArray (endQ fun a w => (lastO o l).wp P a w (fun a' w' => Q .normal a' w') Q) a w) : AnyWp P (o :: l).toArray Q a w := any_last (snocO o l) h hR
theorem last_pure {o : Oper} {a : Act} {w : World} {v : Value} (h : (execOp a.eval o).run P w = .ok (.value v) w) (k : Q .normal (a.put o.dst v) w) : o.wp P a w (fun a' w' => Q .normal a' w') Q := by
  unfold Oper.wp
  rw [h]
  exact k
variable {ops : Array Oper} {t0 : Array Value} {ds : List Deferred}
theorem any_chain {w : World} (E : List Nat) (kn mask : List Bool) (vs : List Value) (S : World → Prop)
    (hns : Region.noSelect ops = true) (hfl : flowOk ops = true) (hap : apartOk ops = true) (hup : upOk ops = true) (hS : S w) (hch : Chain P ops Q t0 ds E kn mask [] vs S) :
    AnyWp P ops Q ⟨t0, ds⟩ w := by
  have hcount : (Array.replicate ops.size false).toList.count false = ops.size := by simp
  refine wpAny_chain hns hfl hap hup ops.size E kn mask [] vs S (Array.replicate ops.size false) t0 w (by simp) hcount ?_ (fun i hi => ?_) (fun i hi => by cases hi) (fun i j hi => ?_) hS hch
  · refine ⟨by rw [fillT_size], fun s hs => ?_⟩
    rw [fillT_other]
    intro o ho hd
    obtain ⟨i, hi, rfl⟩ := List.getElem_of_mem ho
    have hi' : i < ops.size := by simpa using hi
    have := hs i _ (by simp [hi']) hd
    simp [hi'] at this
  · by_cases h : i < ops.size <;> simp [h] at hi
  · intro _
    by_cases h : i < ops.size <;> simp [h] at hi
end
end Go.Proofs.Ytcfpbemoocegfaa
