/- Flows and cuts: what goes, and what holds it back: plain. -/
import Derived.Test.YtcfpbemoocegfaaPush
namespace Go.Proofs.Ytcfpbemoocegfaa
set_option linter.unusedVariables false
set_option linter.unusedSimpArgs false
set_option linter.unnecessarySimpa false
open Go Go.RowKit

/-- So much goes from one node to another one. -/
structure FlowAt (x y : Wb) (fr to : Nat) (n : Int) : Prop where
  res : ResOf x y
  nn : 0 ≤ n
  cut : ∀ T : Int → Bool, cutP y T = cutP x T - n * (bI (T (fr : Int)) - bI (T (to : Int)))
  out : ∀ v : Int, outs y v = outs x v + ((if (to : Int) = v then n else 0) - (if (fr : Int) = v then n else 0))
theorem flow_start {x : Wb} (ok : x.Ok) (fr to : Nat) : FlowAt x x fr to 0 := ⟨ResOf.refl ok, Int.le_refl _, fun T => by rw [Int.zero_mul, Int.sub_zero], fun v => by simp⟩
theorem flow_push {x y y' : Wb} {fr to : Nat} {n k most : Int} (h : FlowAt x y fr to n) (hsum : ∀ e ∈ x.edges, e.c0 + e.c1 < 18446744073709551616) (hp : PushOk x y fr to most k y') (hk : 0 < k) : FlowAt x y' fr to (n + k) ∧ k ≤ most := by
  rcases hp with ⟨h0, _⟩ | ⟨_, hle, L, rfl, hL1, hL2, hL3⟩
  · omega
  · obtain ⟨p1, p2, p3⟩ := pushL_all (x := x) (by omega : (0 : Int) ≤ k) hsum L y (to : Int) h.res hL1 hL2 hL3
    refine ⟨⟨p1, by have := h.nn; omega, fun T => ?_, fun v => ?_⟩, hle⟩
    · rw [p2 T, h.cut T, Int.add_mul, Int.sub_sub]
    · rw [p3 v, h.out v]
      split <;> split <;> omega
theorem flow_zero {x y y' : Wb} {fr to : Nat} {k most : Int} (hp : PushOk x y fr to most k y') (hk : ¬ 0 < k) : k = 0 ∧ y' = y ∧ ∃ by_, RchOk x y fr by_ ∧ come by_ (to : Int) = false := by
  rcases hp with h | ⟨h, _⟩
  · exact h
  · exact absurd h hk
theorem push_nn {x y y' : Wb} {fr to : Nat} {k most : Int} (hp : PushOk x y fr to most k y') : 0 ≤ k := by
  rcases hp with h | ⟨h, _⟩ <;> omega
/-- A set on one side of a cut. -/
def Parts (T : Int → Bool) (fr to : Nat) : Prop := T (fr : Int) = true ∧ T (to : Int) = false
theorem flow_cut {x y : Wb} {fr to : Nat} {n : Int} (h : FlowAt x y fr to n) {T : Int → Bool} (hT : Parts T fr to) : cutP y T = cutP x T - n := by
  rw [h.cut T, hT.1, hT.2]
  unfold bI
  rw [if_pos rfl, if_neg (by decide)]; omega
theorem flow_bound {x y : Wb} {fr to : Nat} {n : Int} (h : FlowAt x y fr to n) {T : Int → Bool} (hT : Parts T fr to) : n ≤ cutP x T := by
  have h1 := flow_cut h hT
  have h2 := cutP_nn h.res.ok T
  omega
theorem flow_holds {x y : Wb} (ok : x.Ok) {fr to : Nat} (hne : fr ≠ to) {n : Int} (h : FlowAt x y fr to n) : n ≤ holds x := by
  have hT : Parts (fun v => decide (v = (fr : Int))) fr to := ⟨by simp, by simp; omega⟩
  have := flow_bound h hT
  have := cutP_le ok (fun v => decide (v = (fr : Int)))
  omega
/-- Where nothing leads on, what was come to holds the flow back. -/
theorem flow_end {x y : Wb} {fr to : Nat} {n : Int} (h : FlowAt x y fr to n) {by_ : List Int} (hr : RchOk x y fr by_) (hto : come by_ (to : Int) = false) : Parts (come by_) fr to ∧ n = cutP x (come by_) := by
  have hT : Parts (come by_) fr to := ⟨hr.from_, hto⟩
  refine ⟨hT, ?_⟩
  have h1 := flow_cut h hT
  have h2 : cutP y (come by_) = 0 := totE_zero _ _ fun e he => by
    obtain ⟨i, hi, hie⟩ := List.getElem_of_mem he
    have hi' : y.edges[i]? = some e := by rw [List.getElem?_eq_getElem hi, hie]
    have hok := h.res.ok.e e he
    have k0 := hok.c0.1; have k1 := hok.c1.1
    have c0 : come by_ e.a = true → 0 < e.c0 → come by_ e.b = true := fun ha hc => hr.closed hi' (s := 0) (by omega) ha hc
    have c1 : come by_ e.b = true → 0 < e.c1 → come by_ e.a = true := fun ha hc => hr.closed hi' (s := 1) (by omega) ha hc
    show e.cut (come by_) = 0
    unfold Edg.cut
    split
    · rename_i hq
      rcases Int.lt_or_le 0 e.c0 with hc | hc
      · rw [c0 hq.1 hc] at hq; exact absurd hq.2 (by decide)
      · omega
    · split
      · rename_i hq
        rcases Int.lt_or_le 0 e.c1 with hc | hc
        · rw [c1 hq.1 hc] at hq; exact absurd hq.2 (by decide)
        · omega
      · rfl
  omega
/-- What was come to is within each set that holds back no more. -/
theorem come_sub {x y : Wb} {fr to : Nat} {n : Int} (h : FlowAt x y fr to n) {by_ : List Int} (hr : RchOk x y fr by_) {T : Int → Bool} (hT : Parts T fr to) (hn : cutP x T = n) : ∀ v : Nat, come by_ (v : Int) = true → T (v : Int) = true := by
  have h1 := flow_cut h hT
  have h0 : cutP y T = 0 := by omega
  have hz : ∀ e ∈ y.edges, e.cut T = 0 := by
    have key : ∀ l : List Edg, (∀ e ∈ l, 0 ≤ e.cut T) → totE (fun e => e.cut T) l = 0 → ∀ e ∈ l, e.cut T = 0 := by
      intro l
      induction l with
      | nil => intro _ _ e he; simp at he
      | cons a l ih =>
        intro hp hs e he
        have ha := hp a (by simp)
        have hl := totE_nn (fun e => e.cut T) l fun e he => hp e (by simp [he])
        simp only [totE] at hs
        rcases List.mem_cons.1 he with rfl | he
        · omega
        · exact ih (fun e he => hp e (by simp [he])) (by omega) e he
    refine key y.edges (fun e he => ?_) h0
    have hok := h.res.ok.e e he
    have k0 := hok.c0.1; have k1 := hok.c1.1
    unfold Edg.cut
    split
    · exact k0
    · split
      · exact k1
      · exact Int.le_refl _
  obtain ⟨Q, hb, _⟩ := hr.bfs
  have key : ∀ (j v : Nat), Q[j]? = some v → T (v : Int) = true := by
    intro j
    induction j using Nat.strongRecOn with
    | _ j ih =>
      intro v hv
      by_cases hj : j = 0
      · subst hj
        have : v = fr := by have := hv.symm.trans hb.hd; injection this
        subst this; exact hT.1
      · obtain ⟨i, s, u, ju, f, q1, q2, q3, q4, q5, q6, q7, q8⟩ := hb.par j v hv hj
        have hu := ih ju q8 u q7
        have hc := hz f (List.mem_of_getElem? q2)
        rw [← q4] at hu
        rw [← q5]
        unfold Edg.cut at hc
        match s, q3 with
        | 0, _ =>
          have hu : T f.a = true := hu
          have q6 : 0 < f.c0 := q6
          show T f.b = true
          cases hb' : T f.b with
          | true => rfl
          | false => rw [if_pos ⟨hu, hb'⟩] at hc; omega
        | 1, _ =>
          have hu : T f.b = true := hu
          have q6 : 0 < f.c1 := q6
          show T f.a = true
          cases hb' : T f.a with
          | true => rfl
          | false =>
            rw [if_neg (fun q => by rw [hb'] at q; exact absurd q.1 (by decide)), if_pos ⟨hu, hb'⟩] at hc; omega
  intro v hv
  have hm := (hb.mem v).2 (come_iff.1 hv)
  obtain ⟨j, hj, hjv⟩ := List.getElem_of_mem hm
  exact key j v (by rw [List.getElem?_eq_getElem hj, hjv])
/-- May a flow be asked for? -/
def frightP (x : Wb) (from_ to : Int) : Int := if chkP x ≠ 0 then chkP x else if from_ < 0 ∨ (x.spots.length : Int) ≤ from_ ∨ to < 0 ∨ (x.spots.length : Int) ≤ to ∨ from_ = to then 1 else (allP x).2
theorem fright_chk {x : Wb} {from_ to : Int} (h : chkP x ≠ 0) : frightP x from_ to = chkP x := if_pos h
theorem fright_arg {x : Wb} {from_ to : Int} (hc : chkP x = 0) (h : from_ < 0 ∨ (x.spots.length : Int) ≤ from_ ∨ to < 0 ∨ (x.spots.length : Int) ≤ to ∨ from_ = to) : frightP x from_ to = 1 := by
  unfold frightP; rw [if_neg (by omega), if_pos h]
theorem fright_all {x : Wb} {from_ to : Int} (hc : chkP x = 0) (h : ¬ (from_ < 0 ∨ (x.spots.length : Int) ≤ from_ ∨ to < 0 ∨ (x.spots.length : Int) ≤ to ∨ from_ = to)) : frightP x from_ to = (allP x).2 := by
  unfold frightP; rw [if_neg (by omega), if_neg h]
theorem fright_zero {x : Wb} (ok : x.Ok) {from_ to : Int} (h : frightP x from_ to = 0) : chkP x = 0 ∧ (∃ fr t : Nat, from_ = (fr : Int) ∧ to = (t : Int) ∧ fr < x.spots.length ∧ t < x.spots.length ∧ fr ≠ t) ∧ (allP x).2 = 0 ∧ holds x < 18446744073709551616 ∧ ∀ e ∈ x.edges, e.c0 + e.c1 < 18446744073709551616 := by
  by_cases hc : chkP x = 0
  · by_cases hb : from_ < 0 ∨ (x.spots.length : Int) ≤ from_ ∨ to < 0 ∨ (x.spots.length : Int) ≤ to ∨ from_ = to
    · rw [fright_arg hc hb] at h; cases h
    · rw [fright_all hc hb] at h
      have h2 := (all_holds ok h).2
      refine ⟨hc, ⟨from_.toNat, to.toNat, by omega, by omega, by omega, by omega, by omega⟩, h, h2, fun e he => ?_⟩
      obtain ⟨i, hi, hie⟩ := List.getElem_of_mem he
      have h3 := totE_one (fun e => e.c0 + e.c1) x.edges i e (fun e he => by have h := ok.e e he; have := h.c0.1; have := h.c1.1; show (0 : Int) ≤ e.c0 + e.c1; omega) (by rw [List.getElem?_eq_getElem hi, hie])
      have h4 : e.c0 + e.c1 ≤ holds x := h3
      omega
  · rw [fright_chk hc] at h; exact absurd h hc
end Go.Proofs.Ytcfpbemoocegfaa
