/- Walk over the law FlowGrows. -/
import Derived.Test.YtcfpbemoocegfaaGoes27
import Derived.Test.YtcfpbemoocegfaaReach07
namespace Go.Proofs.Ytcfpbemoocegfaa
set_option linter.unusedVariables false
set_option linter.unusedSimpArgs false
set_option linter.unnecessarySimpa false
open Go Go.RowKit

theorem grows_le {x : Wb} {from_ to lo hi a b : Int} {P Q : List Pip} (h1 : MostOk x from_ to lo a P) (h2 : MostOk x from_ to hi b Q) (hr : frightP x from_ to = 0) (hl : lo ≤ hi) : a ≤ b ∧ a ≤ lo := by
  obtain ⟨fr, t, y, e1, e2, f1, _, l1, n1⟩ := most_got h1 hr
  obtain ⟨fr', t', y', e3, e4, f2, _, l2, n2⟩ := most_got h2 hr
  obtain rfl : fr = fr' := by omega
  obtain rfl : t = t' := by omega
  refine ⟨?_, l1⟩
  rcases n2 with n2 | ⟨by_, hb, hto⟩
  · omega
  · obtain ⟨hT, hq⟩ := flow_end f2 hb hto
    have := flow_bound f1 hT
    omega
theorem grows_both {x : Wb} {from_ to lo hi a b : Int} {P Q : List Pip} (h1 : MostOk x from_ to lo a P) (h2 : MostOk x from_ to hi b Q) (hl : lo ≤ hi) (h0 : 0 ≤ lo) : a ≤ b ∧ a ≤ lo := by
  by_cases hr : frightP x from_ to = 0
  · exact grows_le h1 h2 hr hl
  · have k1 := (most_err h1 hr).1
    have k2 := (most_err h2 hr).1
    omega
/-- A step, by its channel. -/
theorem step_of {x : Wb} {a : Int} {s : Stp} (h : s ∈ stepsP x a) : ∃ (k : Nat) (e : Edg), x.edges[k]? = some e ∧ ((e.a = a ∧ s.to = e.b ∧ s.can = e.c0) ∨ (e.a ≠ a ∧ e.b = a ∧ s.to = e.a ∧ s.can = e.c1)) := by
  unfold stepsP at h
  split at h
  · obtain ⟨k, hk, _, h2⟩ := stepsF_mem h
    refine ⟨k, _, List.getElem?_eq_getElem hk, ?_⟩
    unfold stpOf at h2
    split at h2
    · rename_i h3
      simp at h2; subst h2
      exact .inl ⟨h3, rfl, rfl⟩
    · rename_i h3
      split at h2
      · rename_i h4
        simp at h2; subst h2
        exact .inr ⟨h3, h4, rfl, rfl⟩
      · cases h2
  · cases h
theorem step_mk {x : Wb} (hc : chkP x = 0) {k : Nat} {e : Edg} (he : x.edges[k]? = some e) {s : Nat} (hs : s < 2) : ∃ t, t ∈ stepsP x (e.endp (s : Int)) ∧ t.to = e.endp ((1 - s : Nat) : Int) ∧ t.can = e.can (s : Int) := by
  obtain ⟨hk, hek⟩ := List.getElem?_eq_some_iff.1 he
  have hab : e.a ≠ e.b := by
    obtain ⟨_, _, z3⟩ := chk_zero hc
    have hb := z3 e (List.mem_of_getElem? he)
    unfold badE at hb
    intro h; exact hb (by simp [h])
  have key : ∀ (l : List Edg) (i k : Nat) (n : Int) (t : Stp), l[k]? = some e → t ∈ stpOf (i + k) e n → t ∈ stepsF n i l := by
    intro l
    induction l with
    | nil => intro i k n t h; simp at h
    | cons a l ih =>
      intro i k n t h ht
      unfold stepsF
      rw [List.mem_append]
      match k with
      | 0 => simp at h; subst h; exact .inl ht
      | k + 1 => exact .inr (ih (i + 1) k n t (by simpa using h) (by rw [show i + 1 + k = i + (k + 1) from by omega]; exact ht))
  unfold stepsP
  rw [if_pos hc]
  match s, hs with
  | 0, _ => exact ⟨⟨(k : Int), e.b, e.c0, e.b0, e.r0⟩, key x.edges 0 k _ _ he (by rw [Nat.zero_add]; unfold stpOf; rw [if_pos (show e.a = e.endp ((0 : Nat) : Int) from rfl)]; simp), rfl, rfl⟩
  | 1, _ => exact ⟨⟨(k : Int), e.a, e.c1, e.b1, e.r1⟩, key x.edges 0 k _ _ he (by rw [Nat.zero_add]; unfold stpOf; rw [if_neg (show ¬ e.a = e.endp ((1 : Nat) : Int) from hab), if_pos (show e.b = e.endp ((1 : Nat) : Int) from rfl)]; simp), rfl, rfl⟩
theorem cut_none {x : Wb} (T : Int → Bool) (h : ∀ (k : Nat) (e : Edg) (s : Nat), x.edges[k]? = some e → s < 2 → T (e.endp (s : Int)) = true → T (e.endp ((1 - s : Nat) : Int)) = false → e.can (s : Int) = 0) : cutP x T = 0 := totE_zero _ _ fun e he => by
  obtain ⟨k, hk, hke⟩ := List.getElem_of_mem he
  have hek : x.edges[k]? = some e := by rw [List.getElem?_eq_getElem hk, hke]
  show e.cut T = 0
  unfold Edg.cut
  split
  · rename_i hq; exact h k e 0 hek (by omega) hq.1 hq.2
  · split
    · rename_i hq; exact h k e 1 hek (by omega) hq.1 hq.2
    · rfl
theorem cut_each {x : Wb} (ok : x.Ok) {T : Int → Bool} (h : cutP x T = 0) : ∀ e ∈ x.edges, e.cut T = 0 := by
  have key : ∀ l : List Edg, (∀ e ∈ l, e.Ok) → totE (fun e => e.cut T) l = 0 → ∀ e ∈ l, e.cut T = 0 := by
    intro l
    induction l with
    | nil => intro _ _ e he; simp at he
    | cons a l ih =>
      intro hp hs e he
      have nn : ∀ b ∈ a :: l, 0 ≤ b.cut T := fun b hb => by
        have hk := hp b hb; have k0 := hk.c0.1; have k1 := hk.c1.1
        unfold Edg.cut
        split
        · exact k0
        · split
          · exact k1
          · exact Int.le_refl _
      have ha := nn a (by simp)
      have hl := totE_nn (fun e => e.cut T) l fun e he => nn e (by simp [he])
      simp only [totE] at hs
      rcases List.mem_cons.1 he with rfl | he
      · omega
      · exact ih (fun e he => hp e (by simp [he])) (by omega) e he
  exact key x.edges ok.e h
/-- Nothing goes to where nothing leads. -/
theorem grows_zero {x y : Wb} (ok : x.Ok) (hc : chkP x = 0) {fr t : Nat} (hf : fr < x.spots.length) {n : Int} (hy : FlowAt x y fr t n) (ht : (t : Int) ∉ reachP x (fr : Int) 1) : n = 0 := by
  have hin : inWeb x (fr : Int) := ⟨hc, by omega, by omega⟩
  have hT : Parts (fun v => decide (v ∈ reachP x (fr : Int) 1)) fr t := ⟨decide_eq_true ((reach_mem hin).2 .refl), decide_eq_false ht⟩
  have h0 : cutP x (fun v => decide (v ∈ reachP x (fr : Int) 1)) = 0 := cut_none _ fun k e s he hs h1 h2 => by
    obtain ⟨q, q1, q2, q3⟩ := step_mk hc he hs
    have hok : 0 ≤ e.can (s : Int) := by
      have h9 := ok.e e (List.mem_of_getElem? he)
      unfold Edg.can
      split
      · exact h9.c0.1
      · exact h9.c1.1
    have h1 := of_decide_eq_true h1
    have h2 := of_decide_eq_false h2
    rcases Int.lt_or_le 0 (e.can (s : Int)) with h3 | h3
    · exact absurd ((reach_mem hin).2 (by rw [← q2]; exact .step ((reach_mem hin).1 h1) q1 (by omega))) h2
    · omega
  have h1 := flow_bound hy hT
  have := hy.nn
  omega
/-- Something goes to where a way leads. -/
theorem grows_pos {x : Wb} (ok : x.Ok) (hc : chkP x = 0) {fr t : Nat} (hf : fr < x.spots.length) {T : Int → Bool} (hT : Parts T fr t) (ht : (t : Int) ∈ reachP x (fr : Int) 1) : 0 < cutP x T := by
  have hin : inWeb x (fr : Int) := ⟨hc, by omega, by omega⟩
  have hnn := cutP_nn ok T
  rcases Int.lt_or_le 0 (cutP x T) with h | h
  · exact h
  · exfalso
    have hz := cut_each ok (T := T) (by omega)
    have key : ∀ b, Rch x 1 (fr : Int) b → T b = true := by
      intro b hb
      induction hb with
      | refl => exact hT.1
      | step h1 h2 h3 ih =>
        obtain ⟨k, e, he, hs⟩ := step_of h2
        have hq := hz e (List.mem_of_getElem? he)
        unfold Edg.cut at hq
        rcases hs with ⟨s1, s2, s3⟩ | ⟨s0, s1, s2, s3⟩
        · rw [s2]
          subst s1
          cases hb' : T e.b with
          | true => rfl
          | false => rw [if_pos ⟨ih, hb'⟩] at hq; omega
        · rw [s2]
          subst s1
          cases hb' : T e.a with
          | true => rfl
          | false => rw [if_neg (fun q => by rw [hb'] at q; exact absurd q.1 (by decide)), if_pos ⟨ih, hb'⟩] at hq; omega
    have := key _ ((reach_mem hin).1 ht)
    rw [hT.2] at this; cases this
theorem grows_more {x : Wb} (ok : x.Ok) {from_ to hi b : Int} {Q : List Pip} (h2 : MostOk x from_ to hi b Q) (hr : frightP x from_ to = 0) (h0 : 0 ≤ hi) : b ≤ (allP x).1 ∧ (to ∉ reachP x from_ 1 → b = 0) ∧ (to ∈ reachP x from_ 1 → hi = 0 ∨ 0 < b) := by
  obtain ⟨fr, t, y, e1, e2, f1, _, l1, n1⟩ := most_got h2 hr
  obtain ⟨hc, ⟨fr', t', e3, e4, hf, ht, hne⟩, hal, hho, hsum⟩ := fright_zero ok hr
  obtain rfl : fr = fr' := by omega
  obtain rfl : t = t' := by omega
  subst e1 e2
  refine ⟨by rw [(all_holds ok hal).1]; exact flow_holds ok hne f1, fun h => grows_zero ok hc hf f1 h, fun h => ?_⟩
  rcases n1 with n1 | ⟨by_, hb, hto⟩
  · omega
  · obtain ⟨hT, hq⟩ := flow_end f1 hb hto
    have := grows_pos ok hc hf hT h
    omega

set_option maxRecDepth 100000 in
set_option maxHeartbeats 4000000 in
theorem fgrows_law (w : World) (As : Option Addr) (cs : Nat) (Ae : Option Addr) (ce : Nat) (x : Wb) (h : WebAt w As cs Ae ce x) (ok : x.Ok) (from_ to limit more : Int) (hl1 : U64 limit) (hl2 : U64 more) : Calls Try.prog 10 #[.agg #[.slice As x.spots.length cs, .slice Ae x.edges.length ce], .int .i64 from_, .int .i64 to, .int .u64 limit, .int .u64 more] w fun e w' => e = .returned (.bool true) ∧ Below w.heap.size w w' := by
 refine enter 124 Try.func10 rfl rfl rfl fun a F => ?_
 have hlu := hl1
 have hmu := hl2
 unfold U64 at hlu hmu
 have S := Sat.pushRest w
 refine s_reg ?_
 refine l_do F rfl rfl (op_box S _ _ (.agg #[.slice As x.spots.length cs, .slice Ae x.edges.length ce]) F rfl (by kernel_rfl) fun b1 z S a F => ?_)
 refine l_pure 1 (fun L => (10, .bool false) :: L) F (by kernel_rfl) fun a F => ?_
 refine l_then ?_
 refine wp_seq ?_
 refine s_reg ?_
 refine l_do F rfl rfl (op_loadK _ _ (some ⟨b1, 0, none⟩) 0 [.slice As x.spots.length cs, .slice Ae x.edges.length ce] F rfl (by kernel_rfl) (by kernel_rfl) (by kernel_rfl) (by simp) (cBoxK S 1 rfl 0 (by kernel_rfl)) (fun a F => ?_))
 cases hb2 : (lightP x) with
 | false =>
  refine l_do F rfl rfl (op_fn F (by kernel_rfl) (light_any _ As cs Ae ce x) ?_)
  rintro e z ⟨rfl, hb⟩
  have S := S.grow hb
  refine ⟨_, rfl, ?_⟩
  rw [hb2]
  intro a F
  refine l_pure 1 (fun L => (25, .bool true) :: L) F (by kernel_rfl) fun a F => ?_
  refine l_then ?_
  refine c_t F rfl ?_
  refine s_reg ?_
  refine l_do F rfl rfl (op_fn F (by kernel_rfl) (awake27_any _) ?_)
  rintro e z ⟨rfl, hb⟩
  have S := S.grow hb
  refine ⟨_, rfl, ?_⟩
  intro a F
  refine l_pure 1 (fun L => (10, .bool true) :: L) F (by kernel_rfl) fun a F => ?_
  refine l_then ?_
  refine wp_ret ?_
  refine then_r (?_)
  exact fin F [.tmp 10] [.bool true] rfl ⟨by kernel_rfl, trivial⟩ (.bool true) rfl ⟨rfl, S.below (i := 0) rfl⟩
 | true =>
  obtain ⟨l1, l2, l3, l4⟩ := light_small hb2
  refine l_do F rfl rfl (op_fn F (by kernel_rfl) (light_any _ As cs Ae ce x) ?_)
  rintro e z ⟨rfl, hb⟩
  have S := S.grow hb
  refine ⟨_, rfl, ?_⟩
  rw [hb2]
  intro a F
  refine l_pure 1 (fun L => (25, .bool false) :: L) F (by kernel_rfl) fun a F => ?_
  refine l_then ?_
  refine c_f F rfl ?_
  refine wp_skip ?_
  refine then_n ?_
  refine s_reg ?_
  refine l_do F rfl rfl (op_loadK _ _ (some ⟨b1, 0, none⟩) 0 [.slice As x.spots.length cs, .slice Ae x.edges.length ce] F rfl (by kernel_rfl) (by kernel_rfl) (by kernel_rfl) (by simp) (cBoxK S 1 rfl 0 (by kernel_rfl)) (fun a F => ?_))
  refine l_do F rfl rfl (op_fn F (by kernel_rfl) (to_any _ As cs Ae ce x (h.move S rfl) ok ⟨l1, l2⟩) ?_)
  rintro e z ⟨A3, c4, A5, c6, rfl, g⟩
  have S := S.pushThings g
  refine ⟨_, rfl, ?_⟩
  intro a F
  refine l_do F rfl rfl (op_alloc S _ (.agg #[.slice none 0 0, .slice none 0 0]) rfl (by kernel_rfl) fun b7 z S a F => ?_)
  refine l_do F rfl rfl (op_storeB S 4 _ _ _ b7 0 (.agg #[.slice A3 x.spots.length c4, .slice A5 x.edges.length c6]) F rfl rfl (by kernel_rfl) (by kernel_rfl) (by kernel_rfl) (by kernel_rfl) (by kernel_rfl) fun z S a F => ?_)
  refine l_then ?_
  refine s_reg ?_
  refine l_do F rfl rfl (op_loadK _ _ (some ⟨b7, 0, none⟩) 0 [.slice A3 x.spots.length c4, .slice A5 x.edges.length c6] F rfl (by kernel_rfl) (by kernel_rfl) (by kernel_rfl) (by simp) (cBoxK S 4 rfl 0 (by kernel_rfl)) (fun a F => ?_))
  refine l_pure 4 (fun L => (34, .int .u64 more) :: (33, .int .u64 limit) :: (32, .int .i64 to) :: (31, .int .i64 from_) :: L) F (by kernel_rfl) fun a F => ?_
  by_cases ht8 : (limit : Int) ≤ (more : Int)
  ·
   skip
   refine l_do F rfl rfl (op_pure F (v0 := .int .u64 (if (more : Int) < (limit : Int) then (more : Int) else (limit : Int))) (v := .int .u64 limit) (by kernel_rfl) (minT ht8) fun a F => ?_)
   refine l_do F rfl rfl (op_fn F (by kernel_rfl) (most_any _ A3 c4 A5 c6 x (WebAt.ofNew (x := x) (w := w) S (i := 2) (j := 3) rfl rfl ⟨l1, l2⟩) ok (by omega) from_ to limit hl1) ?_)
   rintro e z ⟨na, Aa, ca, Pa, rfl, hma, g⟩
   have S := S.pushThings g
   refine ⟨_, rfl, ?_⟩
   intro a F
   refine l_pure 7 (fun L => (14, .int .i64 (frightP x from_ to)) :: (13, .slice Aa Pa.length ca) :: (12, .int .u64 na) :: (39, .int .i64 (frightP x from_ to)) :: (38, .slice Aa Pa.length ca) :: (37, .int .u64 na) :: (29, .tuple #[.int .u64 na, .slice Aa Pa.length ca, .int .i64 (frightP x from_ to)]) :: L) F (by kernel_rfl) fun a F => ?_
   refine l_then ?_
   refine s_reg ?_
   refine l_do F rfl rfl (op_loadK _ _ (some ⟨b7, 0, none⟩) 0 [.slice A3 x.spots.length c4, .slice A5 x.edges.length c6] F rfl (by kernel_rfl) (by kernel_rfl) (by kernel_rfl) (by simp) (cBoxK S 4 rfl 0 (by kernel_rfl)) (fun a F => ?_))
   refine l_pure 4 (fun L => (45, .int .u64 more) :: (44, .int .u64 limit) :: (43, .int .i64 to) :: (42, .int .i64 from_) :: L) F (by kernel_rfl) fun a F => ?_
   refine l_do F rfl rfl (op_pure F (v0 := .int .u64 (if (limit : Int) < (more : Int) then (more : Int) else (limit : Int))) (v := .int .u64 more) (by kernel_rfl) (maxT ht8) fun a F => ?_)
   refine l_do F rfl rfl (op_fn F (by kernel_rfl) (most_any _ A3 c4 A5 c6 x (WebAt.ofNew (x := x) (w := w) S (i := 2) (j := 3) rfl rfl ⟨l1, l2⟩) ok (by omega) from_ to more hl2) ?_)
   rintro e z ⟨nb, Ab, cb, Pb, rfl, hmb, g⟩
   have S := S.pushThings g
   obtain ⟨hg1, hg2⟩ := grows_both hma hmb (by omega) (by omega)
   refine ⟨_, rfl, ?_⟩
   intro a F
   refine l_pure 7 (fun L => (17, .int .i64 (frightP x from_ to)) :: (16, .slice Ab Pb.length cb) :: (15, .int .u64 nb) :: (50, .int .i64 (frightP x from_ to)) :: (49, .slice Ab Pb.length cb) :: (48, .int .u64 nb) :: (40, .tuple #[.int .u64 nb, .slice Ab Pb.length cb, .int .i64 (frightP x from_ to)]) :: L) F (by kernel_rfl) fun a F => ?_
   refine l_then ?_
   refine wp_seq ?_
   refine s_reg ?_
   refine l_pure 2 (fun L => (52, .int .i64 (frightP x from_ to)) :: (51, .int .i64 (frightP x from_ to)) :: L) F (by kernel_rfl) fun a F => ?_
   refine l_do F rfl rfl (op_pure F (v0 := .bool ((frightP x from_ to : Int) != (frightP x from_ to : Int))) (v := .bool false) (by kernel_rfl) (neqF rfl) fun a F => ?_)
   refine l_pure 3 (fun L => (56, .int .u64 nb) :: (55, .int .u64 na) :: (54, .bool false) :: L) F (by kernel_rfl) fun a F => ?_
   refine l_do F rfl rfl (op_pure F (v0 := .bool (decide ((na : Int) > (nb : Int)))) (v := .bool false) (by kernel_rfl) (gtrF (by omega)) fun a F => ?_)
   refine l_pure 5 (fun L => (62, .int .u64 more) :: (61, .int .u64 limit) :: (60, .int .u64 na) :: (59, .bool false) :: (58, .bool false) :: L) F (by kernel_rfl) fun a F => ?_
   refine l_do F rfl rfl (op_pure F (v0 := .int .u64 (if (more : Int) < (limit : Int) then (more : Int) else (limit : Int))) (v := .int .u64 limit) (by kernel_rfl) (minT ht8) fun a F => ?_)
   refine l_do F rfl rfl (op_pure F (v0 := .bool (decide ((na : Int) > (limit : Int)))) (v := .bool false) (by kernel_rfl) (gtrF (by omega)) fun a F => ?_)
   refine l_pure 1 (fun L => (65, .bool false) :: L) F (by kernel_rfl) fun a F => ?_
   refine l_then ?_
   refine c_f F rfl ?_
   refine wp_skip ?_
   refine then_n ?_
   refine wp_seq ?_
   refine s_reg ?_
   refine l_pure 1 (fun L => (66, .int .i64 (frightP x from_ to)) :: L) F (by kernel_rfl) fun a F => ?_
   by_cases ht9 : (frightP x from_ to : Int) = (0 : Int)
   ·
    skip
    have hr := ht9
    obtain ⟨hg3, hg4, hg5⟩ := grows_more ok hmb hr (by omega)
    refine l_do F rfl rfl (op_pure F (v0 := .bool ((frightP x from_ to : Int) != (0 : Int))) (v := .bool false) (by kernel_rfl) (neqF ht9) fun a F => ?_)
    refine l_then ?_
    refine c_f F rfl ?_
    refine wp_skip ?_
    refine then_n ?_
    refine s_reg ?_
    refine l_do F rfl rfl (op_loadK _ _ (some ⟨b7, 0, none⟩) 0 [.slice A3 x.spots.length c4, .slice A5 x.edges.length c6] F rfl (by kernel_rfl) (by kernel_rfl) (by kernel_rfl) (by simp) (cBoxK S 4 rfl 0 (by kernel_rfl)) (fun a F => ?_))
    refine l_do F rfl rfl (op_fn F (by kernel_rfl) (all_any _ A3 c4 A5 c6 x (WebAt.ofNew (x := x) (w := w) S (i := 2) (j := 3) rfl rfl ⟨l1, l2⟩) ok (by omega)) ?_)
    rintro e z ⟨rfl, hb⟩
    have S := S.grow hb
    refine ⟨_, rfl, ?_⟩
    intro a F
    refine l_pure 5 (fun L => (19, .int .i64 ((allP x).2)) :: (18, .int .u64 ((allP x).1)) :: (81, .int .i64 ((allP x).2)) :: (80, .int .u64 ((allP x).1)) :: (77, .tuple #[.int .u64 ((allP x).1), .int .i64 ((allP x).2)]) :: L) F (by kernel_rfl) fun a F => ?_
    refine l_then ?_
    refine s_reg ?_
    refine l_pure 1 (fun L => (20, .bool false) :: L) F (by kernel_rfl) fun a F => ?_
    refine l_then ?_
    refine wp_seq ?_
    refine s_reg ?_
    refine l_do F rfl rfl (op_loadK _ _ (some ⟨b7, 0, none⟩) 0 [.slice A3 x.spots.length c4, .slice A5 x.edges.length c6] F rfl (by kernel_rfl) (by kernel_rfl) (by kernel_rfl) (by simp) (cBoxK S 4 rfl 0 (by kernel_rfl)) (fun a F => ?_))
    refine l_pure 1 (fun L => (83, .int .i64 from_) :: L) F (by kernel_rfl) fun a F => ?_
    refine l_do F rfl rfl (op_fn F (by kernel_rfl) (reach_any _ A3 c4 A5 c6 x (WebAt.ofNew (x := x) (w := w) S (i := 2) (j := 3) rfl rfl ⟨l1, l2⟩) ok from_ 1) ?_)
    rintro e z ⟨A10, c11, rfl, g⟩
    have S := S.pushThings g
    have hrl := reach_len x from_ 1
    refine ⟨_, rfl, ?_⟩
    intro a F
    refine l_pure 2 (fun L => (86, .int .i64 0) :: (85, .int .i64 ((reachP x from_ 1).length : Nat)) :: L) F (by kernel_rfl) fun a F => ?_
    refine l_then ?_
    refine wp_block ?_
    refine wp_loop_m (fun m a z => ∃ (k : Nat) (rb : Bool), m = (reachP x from_ 1).length - k ∧ (k ≤ (reachP x from_ 1).length) ∧ (rb = true ↔ to ∈ (reachP x from_ 1).take k) ∧ Fr a 124 [(2, .int .i64 to), (3, .int .u64 limit), (4, .int .u64 more), (15, .int .u64 nb), (18, .int .u64 ((allP x).1)), (20, .bool rb), (84, .slice A10 ((reachP x from_ 1).length) c11), (85, .int .i64 ((reachP x from_ 1).length : Nat)), (86, .int .i64 (k : Nat))] ∧ Sat w z [rest w (· < w.heap.size), box b1 25 [.slice As x.spots.length cs, .slice Ae x.edges.length ce], row 107 2 (.slice A3 x.spots.length c4) x.spots.length (x.spots.flatMap spC), row 62 8 (.slice A5 x.edges.length c6) x.edges.length (x.edges.flatMap edC), box b7 32 [.slice A3 x.spots.length c4, .slice A5 x.edges.length c6], row 145 3 (.slice Aa Pa.length ca) Pa.length (Pa.flatMap pipC), row 145 3 (.slice Ab Pb.length cb) Pb.length (Pb.flatMap pipC), row 3 1 (.slice A10 ((reachP x from_ 1).length) c11) ((reachP x from_ 1).length) ((reachP x from_ 1).flatMap iC_i64)]) _ ⟨0, false, rfl, Nat.zero_le _, (by simp), F.sub ⟨by kernel_rfl, by kernel_rfl, by kernel_rfl, by kernel_rfl, by kernel_rfl, by kernel_rfl, by kernel_rfl, by kernel_rfl, by kernel_rfl, trivial⟩, S⟩ ?_
    rintro m a z ⟨k, rb, hm, hf12, hf13, F, S⟩
    have hrb := hf13
    refine s_reg ?_
    by_cases ht14 : ((k : Nat) : Int) < (((reachP x from_ 1).length : Nat) : Int)
    ·
     skip
     obtain ⟨rk, hrk⟩ : ∃ rk, (reachP x from_ 1)[k]? = some rk := ⟨_, List.getElem?_eq_getElem (by omega)⟩
     refine l_do F rfl rfl (op_pure F (v0 := .bool (decide (((k : Nat) : Int) < (((reachP x from_ 1).length : Nat) : Int)))) (v := .bool true) (by kernel_rfl) (lssT ht14) fun a F => ?_)
     refine l_then ?_
     refine wp_seq ?_
     refine c_t F rfl ?_
     refine wp_skip ?_
     refine then_n ?_
     refine wp_seq ?_
     refine wp_block ?_
     refine s_reg ?_
     refine l_do F rfl rfl (op_index _ 3 _ _ A10 ((reachP x from_ 1).length) c11 k 1 .i64 F rfl (by kernel_rfl) (by kernel_rfl) (by kernel_rfl) (by kernel_rfl) (get_lt hrk) (row_some S 7 rfl (m := k) (get_lt hrk)) (fun a F => ?_))
     refine l_do F rfl rfl (op_load _ _ A10 (k * 1) (.int .i64 rk) F rfl (by kernel_rfl) (by kernel_rfl) (cRec S 7 iC_len_i64 rfl 0 hrk rfl) (fun a F => ?_))
     refine l_pure 1 (fun L => (22, .int .i64 rk) :: L) F (by kernel_rfl) fun a F => ?_
     refine l_then ?_
     refine wp_region_list ?_
     refine l_pure 2 (fun L => (91, .bool rb) :: (90, .bool rb) :: L) F (by kernel_rfl) fun a F => ?_
     cases rb with
     | false =>
      skip
      refine l_pure 2 (fun L => (93, .int .i64 to) :: (92, .int .i64 rk) :: L) F (by kernel_rfl) fun a F => ?_
      by_cases ht15 : (rk : Int) = (to : Int)
      ·
       skip
       refine l_do F rfl rfl (op_pure F (v0 := .bool ((rk : Int) == (to : Int))) (v := .bool true) (by kernel_rfl) (eqlT ht15) fun a F => ?_)
       refine l_pure 2 (fun L => (20, .bool true) :: (95, .bool true) :: L) F (by kernel_rfl) fun a F => ?_
       refine l_nil (inb_n ?_)
       refine then_n ?_
       refine wp_region_list ?_
       refine l_do F rfl rfl (op_pure F (v0 := .int .i64 (IntKind.wrap .i64 ((k : Nat) + 1))) (v := .int .i64 (k + 1 : Nat)) (by kernel_rfl) (wrn_i64 (by omega) (by omega) (by omega)) fun a F => ?_)
       refine l_pure 1 (fun L => (86, .int .i64 (k + 1 : Nat)) :: L) F (by kernel_rfl) fun a F => ?_
       refine l_then ?_
       exact ⟨_, (by omega), k + 1, true, rfl, (by omega), (by rw [List.take_add_one, hrk]; simp [ht15]), F.sub ⟨by kernel_rfl, by kernel_rfl, by kernel_rfl, by kernel_rfl, by kernel_rfl, by kernel_rfl, by kernel_rfl, by kernel_rfl, by kernel_rfl, trivial⟩, S⟩
      ·
       skip
       refine l_do F rfl rfl (op_pure F (v0 := .bool ((rk : Int) == (to : Int))) (v := .bool false) (by kernel_rfl) (eqlF ht15) fun a F => ?_)
       refine l_pure 2 (fun L => (20, .bool false) :: (95, .bool false) :: L) F (by kernel_rfl) fun a F => ?_
       refine l_nil (inb_n ?_)
       refine then_n ?_
       refine wp_region_list ?_
       refine l_do F rfl rfl (op_pure F (v0 := .int .i64 (IntKind.wrap .i64 ((k : Nat) + 1))) (v := .int .i64 (k + 1 : Nat)) (by kernel_rfl) (wrn_i64 (by omega) (by omega) (by omega)) fun a F => ?_)
       refine l_pure 1 (fun L => (86, .int .i64 (k + 1 : Nat)) :: L) F (by kernel_rfl) fun a F => ?_
       refine l_then ?_
       exact ⟨_, (by omega), k + 1, false, rfl, (by omega), (by rw [List.take_add_one, hrk]; simp only [List.mem_append, Option.toList_some, List.mem_singleton, Ne.symm ht15, or_false]; exact hrb), F.sub ⟨by kernel_rfl, by kernel_rfl, by kernel_rfl, by kernel_rfl, by kernel_rfl, by kernel_rfl, by kernel_rfl, by kernel_rfl, by kernel_rfl, trivial⟩, S⟩
     | true =>
      skip
      refine l_pure 5 (fun L => (20, .bool true) :: (95, .bool true) :: (94, undef) :: (93, undef) :: (92, undef) :: L) F (by kernel_rfl) fun a F => ?_
      refine l_nil (inb_n ?_)
      refine then_n ?_
      refine wp_region_list ?_
      refine l_do F rfl rfl (op_pure F (v0 := .int .i64 (IntKind.wrap .i64 ((k : Nat) + 1))) (v := .int .i64 (k + 1 : Nat)) (by kernel_rfl) (wrn_i64 (by omega) (by omega) (by omega)) fun a F => ?_)
      refine l_pure 1 (fun L => (86, .int .i64 (k + 1 : Nat)) :: L) F (by kernel_rfl) fun a F => ?_
      refine l_then ?_
      exact ⟨_, (by omega), k + 1, true, rfl, (by omega), (by rw [List.take_add_one, hrk]; simp [hrb.1 rfl]), F.sub ⟨by kernel_rfl, by kernel_rfl, by kernel_rfl, by kernel_rfl, by kernel_rfl, by kernel_rfl, by kernel_rfl, by kernel_rfl, by kernel_rfl, trivial⟩, S⟩
    ·
     skip
     have hk : k = (reachP x from_ 1).length := by omega
     rw [hk, List.take_length] at hrb
     refine l_do F rfl rfl (op_pure F (v0 := .bool (decide (((k : Nat) : Int) < (((reachP x from_ 1).length : Nat) : Int)))) (v := .bool false) (by kernel_rfl) (lssF ht14) fun a F => ?_)
     refine l_then ?_
     refine wp_seq ?_
     refine c_f F rfl ?_
     refine wp_exit ?_
     refine then_x ?_
     refine then_x ?_
     refine inb_x ?_
     refine then_n ?_
     refine s_reg ?_
     refine l_do F rfl rfl (op_fn F (by kernel_rfl) (awake27_any _) ?_)
     rintro e z ⟨rfl, hb⟩
     have S := S.grow hb
     refine ⟨_, rfl, ?_⟩
     intro a F
     refine l_pure 3 (fun L => (100, .int .u64 ((allP x).1)) :: (99, .int .u64 nb) :: (98, .bool true) :: L) F (by kernel_rfl) fun a F => ?_
     refine l_do F rfl rfl (op_pure F (v0 := .bool (decide ((nb : Int) ≤ ((allP x).1 : Int)))) (v := .bool true) (by kernel_rfl) (leqT (by omega)) fun a F => ?_)
     refine l_pure 4 (fun L => (105, .bool rb) :: (104, .bool rb) :: (103, .bool true) :: (102, .bool true) :: L) F (by kernel_rfl) fun a F => ?_
     cases rb with
     | false =>
      skip
      have hg4 := hg4 fun h9 => by cases hrb.2 h9
      refine l_pure 1 (fun L => (106, .int .u64 nb) :: L) F (by kernel_rfl) fun a F => ?_
      refine l_do F rfl rfl (op_pure F (v0 := .bool ((nb : Int) == (0 : Int))) (v := .bool true) (by kernel_rfl) (eqlT hg4) fun a F => ?_)
      refine l_pure 17 (fun L => (10, .bool true) :: (123, .bool true) :: (122, .bool true) :: (121, undef) :: (120, undef) :: (119, .bool true) :: (118, .bool true) :: (117, undef) :: (116, undef) :: (115, undef) :: (114, undef) :: (113, .bool true) :: (112, .bool true) :: (111, .bool false) :: (110, .bool true) :: (109, .bool true) :: (108, .bool true) :: L) F (by kernel_rfl) fun a F => ?_
      refine l_then ?_
      refine wp_ret ?_
      exact fin F [.tmp 10] [.bool true] rfl ⟨by kernel_rfl, trivial⟩ (.bool true) rfl ⟨rfl, S.below (i := 0) rfl⟩
     | true =>
      skip
      have hg5 := hg5 (hrb.1 rfl)
      refine l_pure 10 (fun L => (115, .int .u64 more) :: (114, .int .u64 limit) :: (113, .bool false) :: (112, .bool false) :: (111, .bool true) :: (110, .bool true) :: (109, .bool true) :: (108, .bool true) :: (107, undef) :: (106, undef) :: L) F (by kernel_rfl) fun a F => ?_
      refine l_do F rfl rfl (op_pure F (v0 := .int .u64 (if (limit : Int) < (more : Int) then (more : Int) else (limit : Int))) (v := .int .u64 more) (by kernel_rfl) (maxT ht8) fun a F => ?_)
      by_cases ht16 : (more : Int) = (0 : Int)
      ·
       skip
       refine l_do F rfl rfl (op_pure F (v0 := .bool ((more : Int) == (0 : Int))) (v := .bool true) (by kernel_rfl) (eqlT ht16) fun a F => ?_)
       refine l_pure 7 (fun L => (10, .bool true) :: (123, .bool true) :: (122, .bool true) :: (121, undef) :: (120, undef) :: (119, .bool true) :: (118, .bool true) :: L) F (by kernel_rfl) fun a F => ?_
       refine l_then ?_
       refine wp_ret ?_
       exact fin F [.tmp 10] [.bool true] rfl ⟨by kernel_rfl, trivial⟩ (.bool true) rfl ⟨rfl, S.below (i := 0) rfl⟩
      ·
       skip
       refine l_do F rfl rfl (op_pure F (v0 := .bool ((more : Int) == (0 : Int))) (v := .bool false) (by kernel_rfl) (eqlF ht16) fun a F => ?_)
       refine l_pure 3 (fun L => (120, .int .u64 nb) :: (119, .bool false) :: (118, .bool false) :: L) F (by kernel_rfl) fun a F => ?_
       refine l_do F rfl rfl (op_pure F (v0 := .bool (decide ((nb : Int) > (0 : Int)))) (v := .bool true) (by kernel_rfl) (gtrT (by omega)) fun a F => ?_)
       refine l_pure 3 (fun L => (10, .bool true) :: (123, .bool true) :: (122, .bool true) :: L) F (by kernel_rfl) fun a F => ?_
       refine l_then ?_
       refine wp_ret ?_
       exact fin F [.tmp 10] [.bool true] rfl ⟨by kernel_rfl, trivial⟩ (.bool true) rfl ⟨rfl, S.below (i := 0) rfl⟩
   ·
    skip
    obtain ⟨hn0, _⟩ := most_err hma ht9
    obtain ⟨hn1, _⟩ := most_err hmb ht9
    refine l_do F rfl rfl (op_pure F (v0 := .bool ((frightP x from_ to : Int) != (0 : Int))) (v := .bool true) (by kernel_rfl) (neqT ht9) fun a F => ?_)
    refine l_then ?_
    refine c_t F rfl ?_
    refine s_reg ?_
    refine l_do F rfl rfl (op_fn F (by kernel_rfl) (awake27_any _) ?_)
    rintro e z ⟨rfl, hb⟩
    have S := S.grow hb
    refine ⟨_, rfl, ?_⟩
    intro a F
    refine l_pure 2 (fun L => (70, .int .u64 na) :: (69, .bool true) :: L) F (by kernel_rfl) fun a F => ?_
    refine l_do F rfl rfl (op_pure F (v0 := .bool ((na : Int) == (0 : Int))) (v := .bool true) (by kernel_rfl) (eqlT hn0) fun a F => ?_)
    refine l_pure 3 (fun L => (74, .int .u64 nb) :: (73, .bool true) :: (72, .bool true) :: L) F (by kernel_rfl) fun a F => ?_
    refine l_do F rfl rfl (op_pure F (v0 := .bool ((nb : Int) == (0 : Int))) (v := .bool true) (by kernel_rfl) (eqlT hn1) fun a F => ?_)
    refine l_pure 2 (fun L => (10, .bool true) :: (76, .bool true) :: L) F (by kernel_rfl) fun a F => ?_
    refine l_then ?_
    refine wp_ret ?_
    refine then_r (?_)
    exact fin F [.tmp 10] [.bool true] rfl ⟨by kernel_rfl, trivial⟩ (.bool true) rfl ⟨rfl, S.below (i := 0) rfl⟩
  ·
   skip
   refine l_do F rfl rfl (op_pure F (v0 := .int .u64 (if (more : Int) < (limit : Int) then (more : Int) else (limit : Int))) (v := .int .u64 more) (by kernel_rfl) (minF ht8) fun a F => ?_)
   refine l_do F rfl rfl (op_fn F (by kernel_rfl) (most_any _ A3 c4 A5 c6 x (WebAt.ofNew (x := x) (w := w) S (i := 2) (j := 3) rfl rfl ⟨l1, l2⟩) ok (by omega) from_ to more hl2) ?_)
   rintro e z ⟨na, Aa, ca, Pa, rfl, hma, g⟩
   have S := S.pushThings g
   refine ⟨_, rfl, ?_⟩
   intro a F
   refine l_pure 7 (fun L => (14, .int .i64 (frightP x from_ to)) :: (13, .slice Aa Pa.length ca) :: (12, .int .u64 na) :: (39, .int .i64 (frightP x from_ to)) :: (38, .slice Aa Pa.length ca) :: (37, .int .u64 na) :: (29, .tuple #[.int .u64 na, .slice Aa Pa.length ca, .int .i64 (frightP x from_ to)]) :: L) F (by kernel_rfl) fun a F => ?_
   refine l_then ?_
   refine s_reg ?_
   refine l_do F rfl rfl (op_loadK _ _ (some ⟨b7, 0, none⟩) 0 [.slice A3 x.spots.length c4, .slice A5 x.edges.length c6] F rfl (by kernel_rfl) (by kernel_rfl) (by kernel_rfl) (by simp) (cBoxK S 4 rfl 0 (by kernel_rfl)) (fun a F => ?_))
   refine l_pure 4 (fun L => (45, .int .u64 more) :: (44, .int .u64 limit) :: (43, .int .i64 to) :: (42, .int .i64 from_) :: L) F (by kernel_rfl) fun a F => ?_
   refine l_do F rfl rfl (op_pure F (v0 := .int .u64 (if (limit : Int) < (more : Int) then (more : Int) else (limit : Int))) (v := .int .u64 limit) (by kernel_rfl) (maxF ht8) fun a F => ?_)
   refine l_do F rfl rfl (op_fn F (by kernel_rfl) (most_any _ A3 c4 A5 c6 x (WebAt.ofNew (x := x) (w := w) S (i := 2) (j := 3) rfl rfl ⟨l1, l2⟩) ok (by omega) from_ to limit hl1) ?_)
   rintro e z ⟨nb, Ab, cb, Pb, rfl, hmb, g⟩
   have S := S.pushThings g
   obtain ⟨hg1, hg2⟩ := grows_both hma hmb (by omega) (by omega)
   refine ⟨_, rfl, ?_⟩
   intro a F
   refine l_pure 7 (fun L => (17, .int .i64 (frightP x from_ to)) :: (16, .slice Ab Pb.length cb) :: (15, .int .u64 nb) :: (50, .int .i64 (frightP x from_ to)) :: (49, .slice Ab Pb.length cb) :: (48, .int .u64 nb) :: (40, .tuple #[.int .u64 nb, .slice Ab Pb.length cb, .int .i64 (frightP x from_ to)]) :: L) F (by kernel_rfl) fun a F => ?_
   refine l_then ?_
   refine wp_seq ?_
   refine s_reg ?_
   refine l_pure 2 (fun L => (52, .int .i64 (frightP x from_ to)) :: (51, .int .i64 (frightP x from_ to)) :: L) F (by kernel_rfl) fun a F => ?_
   refine l_do F rfl rfl (op_pure F (v0 := .bool ((frightP x from_ to : Int) != (frightP x from_ to : Int))) (v := .bool false) (by kernel_rfl) (neqF rfl) fun a F => ?_)
   refine l_pure 3 (fun L => (56, .int .u64 nb) :: (55, .int .u64 na) :: (54, .bool false) :: L) F (by kernel_rfl) fun a F => ?_
   refine l_do F rfl rfl (op_pure F (v0 := .bool (decide ((na : Int) > (nb : Int)))) (v := .bool false) (by kernel_rfl) (gtrF (by omega)) fun a F => ?_)
   refine l_pure 5 (fun L => (62, .int .u64 more) :: (61, .int .u64 limit) :: (60, .int .u64 na) :: (59, .bool false) :: (58, .bool false) :: L) F (by kernel_rfl) fun a F => ?_
   refine l_do F rfl rfl (op_pure F (v0 := .int .u64 (if (more : Int) < (limit : Int) then (more : Int) else (limit : Int))) (v := .int .u64 more) (by kernel_rfl) (minF ht8) fun a F => ?_)
   refine l_do F rfl rfl (op_pure F (v0 := .bool (decide ((na : Int) > (more : Int)))) (v := .bool false) (by kernel_rfl) (gtrF (by omega)) fun a F => ?_)
   refine l_pure 1 (fun L => (65, .bool false) :: L) F (by kernel_rfl) fun a F => ?_
   refine l_then ?_
   refine c_f F rfl ?_
   refine wp_skip ?_
   refine then_n ?_
   refine wp_seq ?_
   refine s_reg ?_
   refine l_pure 1 (fun L => (66, .int .i64 (frightP x from_ to)) :: L) F (by kernel_rfl) fun a F => ?_
   by_cases ht17 : (frightP x from_ to : Int) = (0 : Int)
   ·
    skip
    have hr := ht17
    obtain ⟨hg3, hg4, hg5⟩ := grows_more ok hmb hr (by omega)
    refine l_do F rfl rfl (op_pure F (v0 := .bool ((frightP x from_ to : Int) != (0 : Int))) (v := .bool false) (by kernel_rfl) (neqF ht17) fun a F => ?_)
    refine l_then ?_
    refine c_f F rfl ?_
    refine wp_skip ?_
    refine then_n ?_
    refine s_reg ?_
    refine l_do F rfl rfl (op_loadK _ _ (some ⟨b7, 0, none⟩) 0 [.slice A3 x.spots.length c4, .slice A5 x.edges.length c6] F rfl (by kernel_rfl) (by kernel_rfl) (by kernel_rfl) (by simp) (cBoxK S 4 rfl 0 (by kernel_rfl)) (fun a F => ?_))
    refine l_do F rfl rfl (op_fn F (by kernel_rfl) (all_any _ A3 c4 A5 c6 x (WebAt.ofNew (x := x) (w := w) S (i := 2) (j := 3) rfl rfl ⟨l1, l2⟩) ok (by omega)) ?_)
    rintro e z ⟨rfl, hb⟩
    have S := S.grow hb
    refine ⟨_, rfl, ?_⟩
    intro a F
    refine l_pure 5 (fun L => (19, .int .i64 ((allP x).2)) :: (18, .int .u64 ((allP x).1)) :: (81, .int .i64 ((allP x).2)) :: (80, .int .u64 ((allP x).1)) :: (77, .tuple #[.int .u64 ((allP x).1), .int .i64 ((allP x).2)]) :: L) F (by kernel_rfl) fun a F => ?_
    refine l_then ?_
    refine s_reg ?_
    refine l_pure 1 (fun L => (20, .bool false) :: L) F (by kernel_rfl) fun a F => ?_
    refine l_then ?_
    refine wp_seq ?_
    refine s_reg ?_
    refine l_do F rfl rfl (op_loadK _ _ (some ⟨b7, 0, none⟩) 0 [.slice A3 x.spots.length c4, .slice A5 x.edges.length c6] F rfl (by kernel_rfl) (by kernel_rfl) (by kernel_rfl) (by simp) (cBoxK S 4 rfl 0 (by kernel_rfl)) (fun a F => ?_))
    refine l_pure 1 (fun L => (83, .int .i64 from_) :: L) F (by kernel_rfl) fun a F => ?_
    refine l_do F rfl rfl (op_fn F (by kernel_rfl) (reach_any _ A3 c4 A5 c6 x (WebAt.ofNew (x := x) (w := w) S (i := 2) (j := 3) rfl rfl ⟨l1, l2⟩) ok from_ 1) ?_)
    rintro e z ⟨A18, c19, rfl, g⟩
    have S := S.pushThings g
    have hrl := reach_len x from_ 1
    refine ⟨_, rfl, ?_⟩
    intro a F
    refine l_pure 2 (fun L => (86, .int .i64 0) :: (85, .int .i64 ((reachP x from_ 1).length : Nat)) :: L) F (by kernel_rfl) fun a F => ?_
    refine l_then ?_
    refine wp_block ?_
    refine wp_loop_m (fun m a z => ∃ (k : Nat) (rb : Bool), m = (reachP x from_ 1).length - k ∧ (k ≤ (reachP x from_ 1).length) ∧ (rb = true ↔ to ∈ (reachP x from_ 1).take k) ∧ Fr a 124 [(2, .int .i64 to), (3, .int .u64 limit), (4, .int .u64 more), (15, .int .u64 nb), (18, .int .u64 ((allP x).1)), (20, .bool rb), (84, .slice A18 ((reachP x from_ 1).length) c19), (85, .int .i64 ((reachP x from_ 1).length : Nat)), (86, .int .i64 (k : Nat))] ∧ Sat w z [rest w (· < w.heap.size), box b1 25 [.slice As x.spots.length cs, .slice Ae x.edges.length ce], row 107 2 (.slice A3 x.spots.length c4) x.spots.length (x.spots.flatMap spC), row 62 8 (.slice A5 x.edges.length c6) x.edges.length (x.edges.flatMap edC), box b7 32 [.slice A3 x.spots.length c4, .slice A5 x.edges.length c6], row 145 3 (.slice Aa Pa.length ca) Pa.length (Pa.flatMap pipC), row 145 3 (.slice Ab Pb.length cb) Pb.length (Pb.flatMap pipC), row 3 1 (.slice A18 ((reachP x from_ 1).length) c19) ((reachP x from_ 1).length) ((reachP x from_ 1).flatMap iC_i64)]) _ ⟨0, false, rfl, Nat.zero_le _, (by simp), F.sub ⟨by kernel_rfl, by kernel_rfl, by kernel_rfl, by kernel_rfl, by kernel_rfl, by kernel_rfl, by kernel_rfl, by kernel_rfl, by kernel_rfl, trivial⟩, S⟩ ?_
    rintro m a z ⟨k, rb, hm, hf20, hf21, F, S⟩
    have hrb := hf21
    refine s_reg ?_
    by_cases ht22 : ((k : Nat) : Int) < (((reachP x from_ 1).length : Nat) : Int)
    ·
     skip
     obtain ⟨rk, hrk⟩ : ∃ rk, (reachP x from_ 1)[k]? = some rk := ⟨_, List.getElem?_eq_getElem (by omega)⟩
     refine l_do F rfl rfl (op_pure F (v0 := .bool (decide (((k : Nat) : Int) < (((reachP x from_ 1).length : Nat) : Int)))) (v := .bool true) (by kernel_rfl) (lssT ht22) fun a F => ?_)
     refine l_then ?_
     refine wp_seq ?_
     refine c_t F rfl ?_
     refine wp_skip ?_
     refine then_n ?_
     refine wp_seq ?_
     refine wp_block ?_
     refine s_reg ?_
     refine l_do F rfl rfl (op_index _ 3 _ _ A18 ((reachP x from_ 1).length) c19 k 1 .i64 F rfl (by kernel_rfl) (by kernel_rfl) (by kernel_rfl) (by kernel_rfl) (get_lt hrk) (row_some S 7 rfl (m := k) (get_lt hrk)) (fun a F => ?_))
     refine l_do F rfl rfl (op_load _ _ A18 (k * 1) (.int .i64 rk) F rfl (by kernel_rfl) (by kernel_rfl) (cRec S 7 iC_len_i64 rfl 0 hrk rfl) (fun a F => ?_))
     refine l_pure 1 (fun L => (22, .int .i64 rk) :: L) F (by kernel_rfl) fun a F => ?_
     refine l_then ?_
     refine wp_region_list ?_
     refine l_pure 2 (fun L => (91, .bool rb) :: (90, .bool rb) :: L) F (by kernel_rfl) fun a F => ?_
     cases rb with
     | false =>
      skip
      refine l_pure 2 (fun L => (93, .int .i64 to) :: (92, .int .i64 rk) :: L) F (by kernel_rfl) fun a F => ?_
      by_cases ht23 : (rk : Int) = (to : Int)
      ·
       skip
       refine l_do F rfl rfl (op_pure F (v0 := .bool ((rk : Int) == (to : Int))) (v := .bool true) (by kernel_rfl) (eqlT ht23) fun a F => ?_)
       refine l_pure 2 (fun L => (20, .bool true) :: (95, .bool true) :: L) F (by kernel_rfl) fun a F => ?_
       refine l_nil (inb_n ?_)
       refine then_n ?_
       refine wp_region_list ?_
       refine l_do F rfl rfl (op_pure F (v0 := .int .i64 (IntKind.wrap .i64 ((k : Nat) + 1))) (v := .int .i64 (k + 1 : Nat)) (by kernel_rfl) (wrn_i64 (by omega) (by omega) (by omega)) fun a F => ?_)
       refine l_pure 1 (fun L => (86, .int .i64 (k + 1 : Nat)) :: L) F (by kernel_rfl) fun a F => ?_
       refine l_then ?_
       exact ⟨_, (by omega), k + 1, true, rfl, (by omega), (by rw [List.take_add_one, hrk]; simp [ht23]), F.sub ⟨by kernel_rfl, by kernel_rfl, by kernel_rfl, by kernel_rfl, by kernel_rfl, by kernel_rfl, by kernel_rfl, by kernel_rfl, by kernel_rfl, trivial⟩, S⟩
      ·
       skip
       refine l_do F rfl rfl (op_pure F (v0 := .bool ((rk : Int) == (to : Int))) (v := .bool false) (by kernel_rfl) (eqlF ht23) fun a F => ?_)
       refine l_pure 2 (fun L => (20, .bool false) :: (95, .bool false) :: L) F (by kernel_rfl) fun a F => ?_
       refine l_nil (inb_n ?_)
       refine then_n ?_
       refine wp_region_list ?_
       refine l_do F rfl rfl (op_pure F (v0 := .int .i64 (IntKind.wrap .i64 ((k : Nat) + 1))) (v := .int .i64 (k + 1 : Nat)) (by kernel_rfl) (wrn_i64 (by omega) (by omega) (by omega)) fun a F => ?_)
       refine l_pure 1 (fun L => (86, .int .i64 (k + 1 : Nat)) :: L) F (by kernel_rfl) fun a F => ?_
       refine l_then ?_
       exact ⟨_, (by omega), k + 1, false, rfl, (by omega), (by rw [List.take_add_one, hrk]; simp only [List.mem_append, Option.toList_some, List.mem_singleton, Ne.symm ht23, or_false]; exact hrb), F.sub ⟨by kernel_rfl, by kernel_rfl, by kernel_rfl, by kernel_rfl, by kernel_rfl, by kernel_rfl, by kernel_rfl, by kernel_rfl, by kernel_rfl, trivial⟩, S⟩
     | true =>
      skip
      refine l_pure 5 (fun L => (20, .bool true) :: (95, .bool true) :: (94, undef) :: (93, undef) :: (92, undef) :: L) F (by kernel_rfl) fun a F => ?_
      refine l_nil (inb_n ?_)
      refine then_n ?_
      refine wp_region_list ?_
      refine l_do F rfl rfl (op_pure F (v0 := .int .i64 (IntKind.wrap .i64 ((k : Nat) + 1))) (v := .int .i64 (k + 1 : Nat)) (by kernel_rfl) (wrn_i64 (by omega) (by omega) (by omega)) fun a F => ?_)
      refine l_pure 1 (fun L => (86, .int .i64 (k + 1 : Nat)) :: L) F (by kernel_rfl) fun a F => ?_
      refine l_then ?_
      exact ⟨_, (by omega), k + 1, true, rfl, (by omega), (by rw [List.take_add_one, hrk]; simp [hrb.1 rfl]), F.sub ⟨by kernel_rfl, by kernel_rfl, by kernel_rfl, by kernel_rfl, by kernel_rfl, by kernel_rfl, by kernel_rfl, by kernel_rfl, by kernel_rfl, trivial⟩, S⟩
    ·
     skip
     have hk : k = (reachP x from_ 1).length := by omega
     rw [hk, List.take_length] at hrb
     refine l_do F rfl rfl (op_pure F (v0 := .bool (decide (((k : Nat) : Int) < (((reachP x from_ 1).length : Nat) : Int)))) (v := .bool false) (by kernel_rfl) (lssF ht22) fun a F => ?_)
     refine l_then ?_
     refine wp_seq ?_
     refine c_f F rfl ?_
     refine wp_exit ?_
     refine then_x ?_
     refine then_x ?_
     refine inb_x ?_
     refine then_n ?_
     refine s_reg ?_
     refine l_do F rfl rfl (op_fn F (by kernel_rfl) (awake27_any _) ?_)
     rintro e z ⟨rfl, hb⟩
     have S := S.grow hb
     refine ⟨_, rfl, ?_⟩
     intro a F
     refine l_pure 3 (fun L => (100, .int .u64 ((allP x).1)) :: (99, .int .u64 nb) :: (98, .bool true) :: L) F (by kernel_rfl) fun a F => ?_
     refine l_do F rfl rfl (op_pure F (v0 := .bool (decide ((nb : Int) ≤ ((allP x).1 : Int)))) (v := .bool true) (by kernel_rfl) (leqT (by omega)) fun a F => ?_)
     refine l_pure 4 (fun L => (105, .bool rb) :: (104, .bool rb) :: (103, .bool true) :: (102, .bool true) :: L) F (by kernel_rfl) fun a F => ?_
     cases rb with
     | false =>
      skip
      have hg4 := hg4 fun h9 => by cases hrb.2 h9
      refine l_pure 1 (fun L => (106, .int .u64 nb) :: L) F (by kernel_rfl) fun a F => ?_
      refine l_do F rfl rfl (op_pure F (v0 := .bool ((nb : Int) == (0 : Int))) (v := .bool true) (by kernel_rfl) (eqlT hg4) fun a F => ?_)
      refine l_pure 17 (fun L => (10, .bool true) :: (123, .bool true) :: (122, .bool true) :: (121, undef) :: (120, undef) :: (119, .bool true) :: (118, .bool true) :: (117, undef) :: (116, undef) :: (115, undef) :: (114, undef) :: (113, .bool true) :: (112, .bool true) :: (111, .bool false) :: (110, .bool true) :: (109, .bool true) :: (108, .bool true) :: L) F (by kernel_rfl) fun a F => ?_
      refine l_then ?_
      refine wp_ret ?_
      exact fin F [.tmp 10] [.bool true] rfl ⟨by kernel_rfl, trivial⟩ (.bool true) rfl ⟨rfl, S.below (i := 0) rfl⟩
     | true =>
      skip
      have hg5 := hg5 (hrb.1 rfl)
      refine l_pure 10 (fun L => (115, .int .u64 more) :: (114, .int .u64 limit) :: (113, .bool false) :: (112, .bool false) :: (111, .bool true) :: (110, .bool true) :: (109, .bool true) :: (108, .bool true) :: (107, undef) :: (106, undef) :: L) F (by kernel_rfl) fun a F => ?_
      refine l_do F rfl rfl (op_pure F (v0 := .int .u64 (if (limit : Int) < (more : Int) then (more : Int) else (limit : Int))) (v := .int .u64 limit) (by kernel_rfl) (maxF ht8) fun a F => ?_)
      by_cases ht24 : (limit : Int) = (0 : Int)
      ·
       skip
       refine l_do F rfl rfl (op_pure F (v0 := .bool ((limit : Int) == (0 : Int))) (v := .bool true) (by kernel_rfl) (eqlT ht24) fun a F => ?_)
       refine l_pure 7 (fun L => (10, .bool true) :: (123, .bool true) :: (122, .bool true) :: (121, undef) :: (120, undef) :: (119, .bool true) :: (118, .bool true) :: L) F (by kernel_rfl) fun a F => ?_
       refine l_then ?_
       refine wp_ret ?_
       exact fin F [.tmp 10] [.bool true] rfl ⟨by kernel_rfl, trivial⟩ (.bool true) rfl ⟨rfl, S.below (i := 0) rfl⟩
      ·
       skip
       refine l_do F rfl rfl (op_pure F (v0 := .bool ((limit : Int) == (0 : Int))) (v := .bool false) (by kernel_rfl) (eqlF ht24) fun a F => ?_)
       refine l_pure 3 (fun L => (120, .int .u64 nb) :: (119, .bool false) :: (118, .bool false) :: L) F (by kernel_rfl) fun a F => ?_
       refine l_do F rfl rfl (op_pure F (v0 := .bool (decide ((nb : Int) > (0 : Int)))) (v := .bool true) (by kernel_rfl) (gtrT (by omega)) fun a F => ?_)
       refine l_pure 3 (fun L => (10, .bool true) :: (123, .bool true) :: (122, .bool true) :: L) F (by kernel_rfl) fun a F => ?_
       refine l_then ?_
       refine wp_ret ?_
       exact fin F [.tmp 10] [.bool true] rfl ⟨by kernel_rfl, trivial⟩ (.bool true) rfl ⟨rfl, S.below (i := 0) rfl⟩
   ·
    skip
    obtain ⟨hn0, _⟩ := most_err hma ht17
    obtain ⟨hn1, _⟩ := most_err hmb ht17
    refine l_do F rfl rfl (op_pure F (v0 := .bool ((frightP x from_ to : Int) != (0 : Int))) (v := .bool true) (by kernel_rfl) (neqT ht17) fun a F => ?_)
    refine l_then ?_
    refine c_t F rfl ?_
    refine s_reg ?_
    refine l_do F rfl rfl (op_fn F (by kernel_rfl) (awake27_any _) ?_)
    rintro e z ⟨rfl, hb⟩
    have S := S.grow hb
    refine ⟨_, rfl, ?_⟩
    intro a F
    refine l_pure 2 (fun L => (70, .int .u64 na) :: (69, .bool true) :: L) F (by kernel_rfl) fun a F => ?_
    refine l_do F rfl rfl (op_pure F (v0 := .bool ((na : Int) == (0 : Int))) (v := .bool true) (by kernel_rfl) (eqlT hn0) fun a F => ?_)
    refine l_pure 3 (fun L => (74, .int .u64 nb) :: (73, .bool true) :: (72, .bool true) :: L) F (by kernel_rfl) fun a F => ?_
    refine l_do F rfl rfl (op_pure F (v0 := .bool ((nb : Int) == (0 : Int))) (v := .bool true) (by kernel_rfl) (eqlT hn1) fun a F => ?_)
    refine l_pure 2 (fun L => (10, .bool true) :: (76, .bool true) :: L) F (by kernel_rfl) fun a F => ?_
    refine l_then ?_
    refine wp_ret ?_
    refine then_r (?_)
    exact fin F [.tmp 10] [.bool true] rfl ⟨by kernel_rfl, trivial⟩ (.bool true) rfl ⟨rfl, S.below (i := 0) rfl⟩
end Go.Proofs.Ytcfpbemoocegfaa
