/- Sets of nodes as bits; the least cut, set by set; what a flow's pipes come to: plain. -/
import Derived.Test.YtcfpbemoocegfaaMost
import Derived.Test.YtcfpbemoocegfaaCut27
namespace Go.Proofs.Ytcfpbemoocegfaa
set_option linter.unusedVariables false
set_option linter.unusedSimpArgs false
set_option linter.unnecessarySimpa false
open Go Go.RowKit

/-- A set of nodes, as bits. -/
def setT (s : Nat) (v : Int) : Bool := decide (0 ≤ v) && s.testBit v.toNat
theorem setT_nat (s v : Nat) : setT s (v : Int) = s.testBit v := by unfold setT; simp
def setOf (T : Int → Bool) : Nat → Nat
  | 0 => 0
  | n + 1 => if T (n : Int) = true then 2 ^ n + setOf T n else setOf T n
theorem setOf_lt (T : Int → Bool) : ∀ n, setOf T n < 2 ^ n
  | 0 => by simp [setOf]
  | n + 1 => by
    have h := setOf_lt T n
    unfold setOf
    rw [Nat.pow_succ]
    split <;> omega
theorem setOf_bit (T : Int → Bool) : ∀ (n i : Nat), (setOf T n).testBit i = (decide (i < n) && T (i : Int))
  | 0, i => by simp [setOf]
  | n + 1, i => by
    have h := setOf_bit T n i
    rcases Nat.lt_trichotomy i n with hi | hi | hi
    · unfold setOf
      split
      · rw [Nat.testBit_two_pow_add_gt hi, h]; simp [hi, Nat.lt_succ_of_lt hi]
      · rw [h]; simp [hi, Nat.lt_succ_of_lt hi]
    · subst hi
      unfold setOf
      split
      · rename_i hT
        rw [Nat.testBit_two_pow_add_eq, h, hT]; simp
      · rename_i hT
        rw [h]; simp [hT]
    · have hlt : setOf T (n + 1) < 2 ^ i := Nat.lt_of_lt_of_le (setOf_lt T (n + 1)) (Nat.pow_le_pow_right (by omega) hi)
      rw [Nat.testBit_lt_two_pow hlt]
      simp; omega
theorem bit_div (s n : Nat) : (((s / 2 ^ n : Nat) : Int) % 2 = 1) ↔ s.testBit n = true := by
  rw [Nat.testBit_eq_decide_div_mod_eq, decide_eq_true_iff]
  omega
theorem half_pow (s i : Nat) : ((s / 2 ^ i : Nat) : Int) / 2 = ((s / 2 ^ (i + 1) : Nat) : Int) := by
  rw [Nat.pow_succ, ← Nat.div_div_eq_div_mul]; omega
theorem half_le (s i : Nat) : s / 2 ^ i ≤ s := Nat.div_le_self _ _
/-- How many of the first nodes are in a set. -/
def cntS (s : Nat) : Nat → Nat
  | 0 => 0
  | k + 1 => cntS s k + (if s.testBit k = true then 1 else 0)
theorem cntS_le (s : Nat) : ∀ k, cntS s k ≤ k
  | 0 => Nat.le_refl _
  | k + 1 => by
    have h := cntS_le s k
    unfold cntS; split <;> omega
theorem cntS_sub {s t : Nat} : ∀ {k : Nat}, (∀ i, i < k → s.testBit i = true → t.testBit i = true) → cntS s k ≤ cntS t k ∧ (cntS t k ≤ cntS s k → ∀ i, i < k → t.testBit i = s.testBit i)
  | 0, _ => ⟨Nat.le_refl _, fun _ i hi => absurd hi (Nat.not_lt_zero i)⟩
  | k + 1, h => by
    obtain ⟨h1, h2⟩ := cntS_sub (s := s) (t := t) (k := k) fun i hi => h i (by omega)
    have h3 := h k (by omega)
    unfold cntS
    cases hs : s.testBit k with
    | true =>
      rw [h3 hs]
      refine ⟨by simp; omega, fun hle i hi => ?_⟩
      simp at hle
      by_cases hik : i = k
      · subst hik; rw [hs, h3 hs]
      · exact h2 (by omega) i (by omega)
    | false =>
      cases ht : t.testBit k with
      | true => exact ⟨by simp; omega, fun hle => by simp at hle; omega⟩
      | false =>
        refine ⟨by simp; omega, fun hle i hi => ?_⟩
        simp at hle
        by_cases hik : i = k
        · subst hik; rw [hs, ht]
        · exact h2 (by omega) i (by omega)
/-- A cut looks at nodes alone. -/
theorem cutP_congr {x : Wb} (hc : chkP x = 0) {T T' : Int → Bool} (h : ∀ v : Nat, v < x.spots.length → T (v : Int) = T' (v : Int)) : cutP x T = cutP x T' := by
  obtain ⟨_, _, z3⟩ := chk_zero hc
  have key : ∀ l : List Edg, (∀ e ∈ l, ¬ badE x.spots.length e) → totE (fun e => e.cut T) l = totE (fun e => e.cut T') l := by
    intro l
    induction l with
    | nil => intro _; rfl
    | cons e l ih =>
      intro hl
      have he := hl e (by simp)
      unfold badE at he
      have ha := h e.a.toNat (by omega)
      have hb := h e.b.toNat (by omega)
      rw [show ((e.a.toNat : Nat) : Int) = e.a from by omega] at ha
      rw [show ((e.b.toNat : Nat) : Int) = e.b from by omega] at hb
      simp only [totE]
      rw [ih fun f hf => hl f (by simp [hf])]
      unfold Edg.cut
      rw [ha, hb]
  exact key x.edges z3
theorem cut_setOf {x : Wb} (hc : chkP x = 0) (T : Int → Bool) : cutP x (setT (setOf T x.spots.length)) = cutP x T := cutP_congr hc fun v hv => by rw [setT_nat, setOf_bit]; simp [hv]
/-- A set that parts two nodes. -/
def Valid (s fr t : Nat) : Prop := s.testBit fr = true ∧ s.testBit t = false
theorem Valid.parts {s fr t : Nat} (h : Valid s fr t) : Parts (setT s) fr t := ⟨by rw [setT_nat]; exact h.1, by rw [setT_nat]; exact h.2⟩
theorem valid_of {T : Int → Bool} {fr t n : Nat} (h : Parts T fr t) (hf : fr < n) (ht : t < n) : Valid (setOf T n) fr t := ⟨by rw [setOf_bit]; simp [hf, h.1], by rw [setOf_bit]; simp [ht, h.2]⟩
/-- The least cut of the first sets. -/
def MostS (x : Wb) (fr t set : Nat) (best : Int) (nodes many : Nat) : Prop :=
  (best = 18446744073709551615 ∧ nodes = 0 ∧ many = 99 ∧ ∀ s, s < set → ¬ Valid s fr t) ∨
  (nodes < set ∧ Valid nodes fr t ∧ best = cutP x (setT nodes) ∧ many = cntS nodes x.spots.length ∧ ∀ s, s < set → Valid s fr t → best < cutP x (setT s) ∨ (best = cutP x (setT s) ∧ many ≤ cntS s x.spots.length))
theorem mostS_start (x : Wb) (fr t : Nat) : MostS x fr t 0 18446744073709551615 0 99 := .inl ⟨rfl, rfl, rfl, fun s hs => absurd hs (Nat.not_lt_zero s)⟩
theorem mostS_skip {x : Wb} {fr t set : Nat} {best : Int} {nodes many : Nat} (h : MostS x fr t set best nodes many) (hv : ¬ Valid set fr t) : MostS x fr t (set + 1) best nodes many := by
  rcases h with ⟨h1, h2, h3, h4⟩ | ⟨h1, h2, h3, h4, h5⟩
  · refine .inl ⟨h1, h2, h3, fun s hs => ?_⟩
    by_cases hq : s = set
    · subst hq; exact hv
    · exact h4 s (by omega)
  · refine .inr ⟨by omega, h2, h3, h4, fun s hs hvs => ?_⟩
    by_cases hq : s = set
    · subst hq; exact absurd hvs hv
    · exact h5 s (by omega) hvs
theorem mostS_take {x : Wb} {fr t set : Nat} {best : Int} {nodes many : Nat} (h : MostS x fr t set best nodes many) (hv : Valid set fr t) (hb : cutP x (setT set) < best ∨ (cutP x (setT set) = best ∧ cntS set x.spots.length < many)) : MostS x fr t (set + 1) (cutP x (setT set)) set (cntS set x.spots.length) := by
  refine .inr ⟨by omega, hv, rfl, rfl, fun s hs hvs => ?_⟩
  by_cases hq : s = set
  · subst hq; exact .inr ⟨rfl, Nat.le_refl _⟩
  · rcases h with ⟨_, _, _, h4⟩ | ⟨h1, h2, h3, h4, h5⟩
    · exact absurd hvs (h4 s (by omega))
    · rcases h5 s (by omega) hvs with h6 | ⟨h6, h7⟩
      · rcases hb with hb | ⟨hb, _⟩ <;> exact .inl (by omega)
      · rcases hb with hb | ⟨hb, hb2⟩
        · exact .inl (by omega)
        · exact .inr ⟨by omega, by omega⟩
theorem mostS_keep {x : Wb} {fr t set : Nat} {best : Int} {nodes many : Nat} (h : MostS x fr t set best nodes many) (hlt : cutP x (setT set) < 18446744073709551616) (hn : x.spots.length ≤ 20) (hb : ¬ (cutP x (setT set) < best ∨ (cutP x (setT set) = best ∧ cntS set x.spots.length < many))) : MostS x fr t (set + 1) best nodes many := by
  have hcn := cntS_le set x.spots.length
  rcases h with ⟨h1, h2, h3, h4⟩ | ⟨h1, h2, h3, h4, h5⟩
  · exact absurd (show cutP x (setT set) < best ∨ (cutP x (setT set) = best ∧ cntS set x.spots.length < many) from by
      subst h1; subst h3; omega) hb
  · refine .inr ⟨by omega, h2, h3, h4, fun s hs hvs => ?_⟩
    by_cases hq : s = set
    · subst hq
      by_cases h6 : best < cutP x (setT s)
      · exact .inl h6
      · exact .inr ⟨by omega, by omega⟩
    · exact h5 s (by omega) hvs
/-- Behind all sets. -/
theorem mostS_end {x : Wb} (hc : chkP x = 0) {fr t : Nat} (hf : fr < x.spots.length) (ht : t < x.spots.length) (hne : fr ≠ t) {best : Int} {nodes many : Nat} (h : MostS x fr t (2 ^ x.spots.length) best nodes many) : nodes < 2 ^ x.spots.length ∧ Valid nodes fr t ∧ best = cutP x (setT nodes) ∧ many = cntS nodes x.spots.length ∧ ∀ T, Parts T fr t → best < cutP x T ∨ (best = cutP x T ∧ many ≤ cntS (setOf T x.spots.length) x.spots.length) := by
  rcases h with ⟨_, _, _, h4⟩ | ⟨h1, h2, h3, h4, h5⟩
  · have hT : Parts (fun v => decide (v = (fr : Int))) fr t := ⟨by simp, by simp; omega⟩
    exact absurd (valid_of hT hf ht) (h4 _ (setOf_lt _ _))
  · refine ⟨h1, h2, h3, h4, fun T hT => ?_⟩
    have h6 := h5 _ (setOf_lt T x.spots.length) (valid_of hT hf ht)
    rw [cut_setOf hc] at h6
    exact h6
/-- How much goes is the least cut, or what was asked for. -/
theorem flow_least {x y : Wb} (hc : chkP x = 0) {fr t : Nat} (hf : fr < x.spots.length) (ht : t < x.spots.length) (hne : fr ≠ t) {best n limit : Int} {nodes many : Nat} (h : MostS x fr t (2 ^ x.spots.length) best nodes many) (hy : FlowAt x y fr t n) (hl : n ≤ limit) (hend : n = limit ∨ ∃ by_, RchOk x y fr by_ ∧ come by_ (t : Int) = false) : n ≤ best ∧ n ≤ limit ∧ (n = best ∨ n = limit) := by
  obtain ⟨_, h2, h3, _, h5⟩ := mostS_end hc hf ht hne h
  have hb := flow_bound hy h2.parts
  refine ⟨by omega, hl, ?_⟩
  rcases hend with hend | ⟨by_, hr, hto⟩
  · exact .inr hend
  · obtain ⟨hT, hn⟩ := flow_end hy hr hto
    rcases h5 _ hT with h6 | ⟨h6, _⟩
    · omega
    · exact .inl (by omega)
/-- The narrowest place is the least cut's least set. -/
theorem cut_least {x y : Wb} (hc : chkP x = 0) {fr t : Nat} (hf : fr < x.spots.length) (ht : t < x.spots.length) (hne : fr ≠ t) {best n : Int} {nodes many : Nat} (h : MostS x fr t (2 ^ x.spots.length) best nodes many) (hy : FlowAt x y fr t n) {by_ : List Int} (hr : RchOk x y fr by_) (hto : come by_ (t : Int) = false) : ∀ v : Nat, v < x.spots.length → nodes.testBit v = come by_ (v : Int) := by
  obtain ⟨_, h2, h3, h4, h5⟩ := mostS_end hc hf ht hne h
  have hb := flow_bound hy h2.parts
  obtain ⟨hT, hn⟩ := flow_end hy hr hto
  rcases h5 _ hT with h6 | ⟨h6, h7⟩
  · omega
  · have hsub := come_sub hy hr h2.parts (by omega)
    have h8 : ∀ i, i < x.spots.length → (setOf (come by_) x.spots.length).testBit i = true → nodes.testBit i = true := fun i hi hq => by
      rw [setOf_bit] at hq
      have := hsub i (by simpa [hi] using hq)
      rwa [setT_nat] at this
    intro v hv
    have h9 := (cntS_sub h8).2 (by omega) v hv
    rw [h9, setOf_bit]; simp [hv]
/-- Where the pipes lead. -/
def pdest (x : Wb) (p : Pip) : Int := if (edgeAt x p.i).a = p.n then (edgeAt x p.i).b else (edgeAt x p.i).a
def netP (x : Wb) (v : Int) : List Pip → Int
  | [] => 0
  | p :: L => ((if pdest x p = v then p.am else 0) - (if p.n = v then p.am else 0)) + netP x v L
theorem netP_app (x : Wb) (v : Int) : ∀ (L M : List Pip), netP x v (L ++ M) = netP x v L + netP x v M
  | [], M => by simp [netP]
  | p :: L, M => by simp only [List.cons_append, netP, netP_app x v L M]; omega
/-- A pipe that may be: a channel's end sends no more than it can. -/
def PipOk (x : Wb) (p : Pip) : Prop := ∃ (k : Nat) (e : Edg), p.i = (k : Int) ∧ x.edges[k]? = some e ∧ 0 < p.am ∧ ((p.n = e.a ∧ p.am ≤ e.c0) ∨ (p.n = e.b ∧ e.a ≠ e.b ∧ p.am ≤ e.c1))
theorem pipe1_ok {x : Wb} {k : Nat} {e f : Edg} (he : x.edges[k]? = some e) (hok : e.Ok) (hfo : f.Ok) (hne : e.a ≠ e.b) : ∀ p ∈ pipe1 k e f, PipOk x p ∧ p.i = (k : Int) := by
  intro p hp
  have k1 := hfo.c0.1; have k2 := hfo.c1.1
  unfold pipe1 at hp
  rw [List.mem_append] at hp
  rcases hp with hp | hp
  · split at hp
    · simp at hp; subst hp
      exact ⟨⟨k, e, rfl, he, by dsimp only; omega, .inl ⟨rfl, by dsimp only; omega⟩⟩, rfl⟩
    · simp at hp
  · split at hp
    · simp at hp; subst hp
      exact ⟨⟨k, e, rfl, he, by dsimp only; omega, .inr ⟨rfl, hne, by dsimp only; omega⟩⟩, rfl⟩
    · simp at hp
theorem pipe1_one (k : Nat) {e f : Edg} (hs : f.c0 + f.c1 = e.c0 + e.c1) : (pipe1 k e f).length ≤ 1 := by
  unfold pipe1
  rw [List.length_append]
  split <;> split <;> simp <;> omega
theorem pipe1_net {x : Wb} {k : Nat} {e f : Edg} (he : x.edges[k]? = some e) (hne : e.a ≠ e.b) (ha : f.a = e.a) (hb : f.b = e.b) (hs : f.c0 + f.c1 = e.c0 + e.c1) (v : Int) : netP x v (pipe1 k e f) = f.out v - e.out v := by
  have h0 : edgeAt x (k : Int) = e := edge_of he
  unfold pipe1 Edg.out
  rw [netP_app, ha, hb]
  split <;> split <;> simp only [netP, pdest, h0, if_pos trivial, if_true, if_neg hne] <;> (repeat' split) <;> omega
/-- The web's and the flow's channels, side by side, from a place on. -/
structure SideBy (x : Wb) (i : Nat) (l m : List Edg) : Prop where
  len : l.length = m.length
  at_ : ∀ (k : Nat) (e f : Edg), l[k]? = some e → m[k]? = some f → x.edges[i + k]? = some e ∧ e.Ok ∧ f.Ok ∧ e.a ≠ e.b ∧ f.a = e.a ∧ f.b = e.b ∧ f.c0 + f.c1 = e.c0 + e.c1
theorem SideBy.tail {x : Wb} {i : Nat} {e f : Edg} {l m : List Edg} (h : SideBy x i (e :: l) (f :: m)) : SideBy x (i + 1) l m := ⟨by have := h.len; simpa using this, fun k e' f' h1 h2 => by
  have h3 := h.at_ (k + 1) e' f' (by simpa using h1) (by simpa using h2)
  rw [show i + 1 + k = i + (k + 1) from by omega]; exact h3⟩
theorem pipesF_ok {x : Wb} : ∀ {l m : List Edg} {i : Nat}, SideBy x i l m → (∀ p ∈ pipesF i l m, PipOk x p ∧ (i : Int) ≤ p.i) ∧ (pipesF i l m).Pairwise (fun p q => p.i < q.i) ∧ ∀ v, netP x v (pipesF i l m) = totE (fun e => e.out v) m - totE (fun e => e.out v) l
  | [], [], i, _ => ⟨fun p hp => by simp [pipesF] at hp, by simp [pipesF], fun v => by simp [pipesF, netP, totE]⟩
  | e :: l, f :: m, i, h => by
    obtain ⟨i1, i2, i3⟩ := pipesF_ok h.tail
    obtain ⟨e1, e2, e3, e4, e5, e6, e7⟩ := h.at_ 0 e f rfl rfl
    rw [Nat.add_zero] at e1
    have hp1 := pipe1_ok e1 e2 e3 e4
    have hl1 := pipe1_one i e7
    unfold pipesF
    refine ⟨fun p hp => ?_, ?_, fun v => ?_⟩
    · rw [List.mem_append] at hp
      rcases hp with hp | hp
      · obtain ⟨h1, h2⟩ := hp1 p hp; exact ⟨h1, by omega⟩
      · obtain ⟨h1, h2⟩ := i1 p hp; exact ⟨h1, by omega⟩
    · rw [List.pairwise_append]
      refine ⟨?_, i2, fun p hp q hq => ?_⟩
      · match hq : pipe1 i e f, hl1 with
        | [], _ => exact List.Pairwise.nil
        | [p], _ => exact List.pairwise_singleton _ _
        | p :: q :: r, hl => simp at hl
      · obtain ⟨_, h2⟩ := hp1 p hp; obtain ⟨_, h4⟩ := i1 q hq; omega
    · rw [netP_app, pipe1_net e1 e4 e5 e6 e7, i3 v]; simp only [totE]; omega
  | [], _ :: _, _, h => by have := h.len; simp at this
  | _ :: _, [], _, h => by have := h.len; simp at this
theorem pipesTo_all {x : Wb} (y : Wb) : pipesTo x y x.edges.length = pipesF 0 x.edges (y.edges.take x.edges.length) := by unfold pipesTo; rw [List.take_length]
/-- What a flow's pipes come to. -/
theorem pipes_goes {x y : Wb} (ok : x.Ok) (hc : chkP x = 0) {fr t : Nat} {n : Int} (h : FlowAt x y fr t n) : (∀ p ∈ pipesTo x y x.edges.length, PipOk x p) ∧ (pipesTo x y x.edges.length).Pairwise (fun p q => p.i < q.i) ∧ ∀ v, netP x v (pipesTo x y x.edges.length) = (if (t : Int) = v then n else 0) - (if (fr : Int) = v then n else 0) := by
  have hlen := h.res.len
  have hs : SideBy x 0 x.edges y.edges := ⟨hlen.symm, fun k e f h1 h2 => by
    obtain ⟨e1, e2, e3⟩ := h.res.at_ k e f h1 h2
    have hne := ends_ne hc (ResOf.refl ok) h1
    exact ⟨by rw [Nat.zero_add]; exact h1, ok.e e (List.mem_of_getElem? h1), h.res.ok.e f (List.mem_of_getElem? h2), hne, e1, e2, e3⟩⟩
  rw [pipesTo_all, ← hlen, List.take_length]
  obtain ⟨i1, i2, i3⟩ := pipesF_ok hs
  refine ⟨fun p hp => (i1 p hp).1, i2, fun v => ?_⟩
  rw [i3 v]
  have := h.out v
  unfold outs at this
  omega
/-- What comes to each node, bit by bit. -/
def moreL (x : Wb) (L : List Pip) : List Int := (List.range x.spots.length).map fun (v : Nat) => netP x (v : Int) L % 18446744073709551616
theorem moreL_len (x : Wb) (L : List Pip) : (moreL x L).length = x.spots.length := by simp [moreL]
theorem moreL_at {x : Wb} {L : List Pip} {v : Nat} (hv : v < x.spots.length) : (moreL x L)[v]? = some (netP x (v : Int) L % 18446744073709551616) := by
  unfold moreL; simp [hv]
theorem moreL_nil (x : Wb) : moreL x [] = List.replicate x.spots.length 0 := by
  apply List.ext_getElem?
  intro i
  by_cases hi : i < x.spots.length
  · rw [moreL_at hi]; simp [netP, hi]
  · rw [List.getElem?_eq_none (by rw [moreL_len]; omega), List.getElem?_eq_none (by simp; omega)]
/-- A pipe more. -/
theorem moreL_snoc {x : Wb} {L : List Pip} {p : Pip} {u q : Nat} (hu : p.n = (u : Int)) (hq : pdest x p = (q : Int)) (hne : u ≠ q) (hul : u < x.spots.length) (hql : q < x.spots.length) :
    ((moreL x L).set u ((netP x (u : Int) L % 18446744073709551616 - p.am) % 18446744073709551616)).set q ((netP x (q : Int) L % 18446744073709551616 + p.am) % 18446744073709551616) = moreL x (L ++ [p]) := by
  apply List.ext_getElem?
  intro i
  by_cases hi : i < x.spots.length
  · rw [moreL_at hi, netP_app]
    simp only [netP, hu, hq]
    by_cases h1 : q = i
    · subst h1
      rw [List.getElem?_set_self (by simp [moreL_len]; omega)]
      rw [if_pos rfl, if_neg (by omega)]
      congr 1; omega
    · rw [List.getElem?_set_ne h1]
      by_cases h2 : u = i
      · subst h2
        rw [List.getElem?_set_self (by rw [moreL_len]; omega)]
        rw [if_neg (by omega), if_pos rfl]
        congr 1; omega
      · rw [List.getElem?_set_ne h2, moreL_at hi, if_neg (by omega), if_neg (by omega)]
        congr 1; omega
  · rw [List.getElem?_eq_none (by simp [moreL_len]; omega), List.getElem?_eq_none (by rw [moreL_len]; omega)]
end Go.Proofs.Ytcfpbemoocegfaa
