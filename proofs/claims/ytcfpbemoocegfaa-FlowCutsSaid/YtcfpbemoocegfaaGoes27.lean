/- Walk over the law's example: two ways; and over the test of a flow. -/
import Derived.Test.YtcfpbemoocegfaaFlowR
import Derived.Test.YtcfpbemoocegfaaWebTo
import Derived.Test.YtcfpbemoocegfaaReadWeb
namespace Go.Proofs.Ytcfpbemoocegfaa
set_option linter.unusedVariables false
set_option linter.unusedSimpArgs false
set_option linter.unnecessarySimpa false
open Go Go.RowKit

def x27 : Wb := ⟨[(0, 0), (0, 0), (0, 0), (0, 0)], [⟨0, 1, 2, 0, 0, 0, 0, 0⟩, ⟨3, 1, 0, 9, 0, 0, 0, 0⟩, ⟨0, 2, 9, 0, 0, 0, 0, 0⟩, ⟨2, 3, 5, 0, 0, 0, 0, 0⟩]⟩
theorem x27_ok : x27.Ok := by
  refine ⟨?_, ?_⟩
  · intro e he
    simp [x27] at he
    rcases he with rfl | rfl | rfl | rfl <;> exact ⟨⟨by decide, by decide⟩, ⟨by decide, by decide⟩, ⟨by decide, by decide⟩, ⟨by decide, by decide⟩, ⟨by decide, by decide⟩, ⟨by decide, by decide⟩, ⟨by decide, by decide⟩, ⟨by decide, by decide⟩⟩
  · intro s hs
    simp [x27] at hs
    subst hs; exact ⟨⟨by decide, by decide⟩, ⟨by decide, by decide⟩⟩
theorem fr27 : frightP x27 0 3 = 0 := by kernel_rfl
theorem cut27 (T : Int → Bool) (h0 : T 0 = true) (h3 : T 3 = false) : 7 ≤ cutP x27 T := by
  unfold cutP x27
  simp only [totE, Edg.cut, h0, h3]
  cases T 1 <;> cases T 2 <;> decide
theorem awake27_num {n : Int} {P : List Pip} (h : MostOk x27 0 3 100 n P) : n = 7 ∧ P.length = 4 := by
  rcases h with ⟨h, _⟩ | ⟨_, fr, t, y, hf, ht, hy, hP, hl, hend⟩
  · exact absurd fr27 h
  · obtain rfl : fr = 0 := by omega
    obtain rfl : t = 3 := by omega
    have hn7 : n ≤ 7 := flow_bound hy (T := fun v => decide (v = 0 ∨ v = 2)) ⟨by decide, by decide⟩
    have hn : n = 7 := by
      rcases hend with hend | ⟨by_, hr, hto⟩
      · omega
      · obtain ⟨hT, hq⟩ := flow_end hy hr hto
        have := cut27 (come by_) hT.1 hT.2
        omega
    subst hn
    refine ⟨rfl, ?_⟩
    have hlen : y.edges.length = 4 := hy.res.len
    have hA := hy.res.at_
    have hO := hy.out
    have hK := hy.res.ok.e
    obtain ⟨S, E⟩ := y
    match E, hlen with
    | [f0, f1, f2, f3], _ =>
      obtain ⟨a0, b0, s0⟩ := hA 0 _ f0 rfl rfl
      obtain ⟨a1, b1, s1⟩ := hA 1 _ f1 rfl rfl
      obtain ⟨a2, b2, s2⟩ := hA 2 _ f2 rfl rfl
      obtain ⟨a3, b3, s3⟩ := hA 3 _ f3 rfl rfl
      have k0 := hK f0 (by simp); have k1 := hK f1 (by simp); have k2 := hK f2 (by simp); have k3 := hK f3 (by simp)
      have p0 := k0.c0.1; have p0' := k0.c1.1; have p1 := k1.c0.1; have p1' := k1.c1.1; have p2 := k2.c0.1; have p2' := k2.c1.1; have p3 := k3.c0.1; have p3' := k3.c1.1
      have o0 := hO 0; have o1 := hO 1; have o2 := hO 2; have o3 := hO 3
      simp [outs, totE, x27, Edg.out, a0, b0, a1, b1, a2, b2, a3, b3] at o0 o1 o2 o3
      simp only at s0 s1 s2 s3
      subst hP
      unfold pipesTo
      show (pipesF 0 [_, _, _, _] [f0, f1, f2, f3]).length = 4
      simp only [pipesF, pipe1]
      rw [if_pos (by omega), if_neg (by omega), if_neg (by omega), if_pos (by omega), if_pos (by omega), if_neg (by omega), if_pos (by omega), if_neg (by omega)]
      rfl
theorem most_err {x : Wb} {from_ to limit n : Int} {P : List Pip} (h : MostOk x from_ to limit n P) (hr : ¬ frightP x from_ to = 0) : n = 0 ∧ P = [] := by
  rcases h with ⟨_, h⟩ | ⟨h, _⟩
  · exact h
  · exact absurd h hr
theorem most_got {x : Wb} {from_ to limit n : Int} {P : List Pip} (h : MostOk x from_ to limit n P) (hr : frightP x from_ to = 0) : ∃ (fr t : Nat) (y : Wb), from_ = (fr : Int) ∧ to = (t : Int) ∧ FlowAt x y fr t n ∧ P = pipesTo x y x.edges.length ∧ n ≤ limit ∧ (n = limit ∨ ∃ by_, RchOk x y fr by_ ∧ come by_ (t : Int) = false) := by
  rcases h with ⟨h, _⟩ | ⟨_, h⟩
  · exact absurd hr h
  · exact h
/-- A pipe, told out. -/
theorem pip_at {x : Wb} (hc : chkP x = 0) {P : List Pip} (hok : ∀ p ∈ P, PipOk x p) {j : Nat} (hj : j < P.length) : ∃ (i u q : Nat) (am d0 d1 e0 e1 e2 e3 : Int), P[j]? = some ⟨(i : Int), (u : Int), am⟩ ∧ 0 < am ∧ u ≠ q ∧ u < x.spots.length ∧ q < x.spots.length ∧ i < x.edges.length ∧
    ((x.edges[i]? = some ⟨(u : Int), (q : Int), d0, d1, e0, e1, e2, e3⟩ ∧ am ≤ d0) ∨ (x.edges[i]? = some ⟨(q : Int), (u : Int), d0, d1, e0, e1, e2, e3⟩ ∧ am ≤ d1)) := by
  obtain ⟨k, e, h1, h2, h3, h4⟩ := hok _ (List.getElem_mem hj)
  obtain ⟨_, _, z3⟩ := chk_zero hc
  have hb := z3 e (List.mem_of_getElem? h2)
  unfold badE at hb
  have hk := (List.getElem?_eq_some_iff.1 h2).1
  have hP : P[j]? = some P[j] := List.getElem?_eq_getElem hj
  generalize P[j] = p at h1 h3 h4 hP
  obtain ⟨pi, pn, pam⟩ := p
  dsimp only at h1 h3 h4
  obtain ⟨a, b, c0, c1, b0, r0, b1, r1⟩ := e
  dsimp only at h4 hb
  subst h1
  rcases h4 with ⟨rfl, h5⟩ | ⟨rfl, _, h5⟩
  · refine ⟨k, pn.toNat, b.toNat, pam, c0, c1, b0, r0, b1, r1, ?_, h3, by omega, by omega, by omega, hk, .inl ⟨?_, h5⟩⟩
    · rw [hP, Int.toNat_of_nonneg (by omega)]
    · rw [h2, Int.toNat_of_nonneg (by omega), Int.toNat_of_nonneg (by omega)]
  · refine ⟨k, pn.toNat, a.toNat, pam, c0, c1, b0, r0, b1, r1, ?_, h3, by omega, by omega, by omega, hk, .inr ⟨?_, h5⟩⟩
    · rw [hP, Int.toNat_of_nonneg (by omega)]
    · rw [h2, Int.toNat_of_nonneg (by omega), Int.toNat_of_nonneg (by omega)]
theorem dest_a {x : Wb} {i u q : Nat} {am d0 d1 e0 e1 e2 e3 : Int} (h : x.edges[i]? = some ⟨(u : Int), (q : Int), d0, d1, e0, e1, e2, e3⟩) : pdest x ⟨(i : Int), (u : Int), am⟩ = (q : Int) := by
  unfold pdest
  rw [show edgeAt x (i : Int) = _ from edge_of h]
  exact if_pos rfl
theorem dest_b {x : Wb} {i u q : Nat} {am d0 d1 e0 e1 e2 e3 : Int} (hne : u ≠ q) (h : x.edges[i]? = some ⟨(q : Int), (u : Int), d0, d1, e0, e1, e2, e3⟩) : pdest x ⟨(i : Int), (u : Int), am⟩ = (q : Int) := by
  unfold pdest
  rw [show edgeAt x (i : Int) = _ from edge_of h]
  exact if_neg (by show ¬ (q : Int) = (u : Int); omega)
theorem sorted_at {P : List Pip} (h : P.Pairwise (fun p q => p.i < q.i)) {j q : Nat} {p r : Pip} (hp : P[j]? = some p) (hr : P[q]? = some r) (hj : j < q) : p.i < r.i := by
  obtain ⟨h1, h2⟩ := List.getElem?_eq_some_iff.1 hp
  obtain ⟨h3, h4⟩ := List.getElem?_eq_some_iff.1 hr
  subst h2 h4
  exact List.pairwise_iff_getElem.1 h j q h1 h3 hj
theorem wrapU (z : Int) : Value.int .u64 (IntKind.wrap .u64 z) = Value.int .u64 (z % 18446744073709551616) := rfl

set_option maxRecDepth 100000 in
set_option maxHeartbeats 4000000 in
theorem awake27_any (w : World) : Calls Try.prog 34 #[] w fun e w' => e = .returned (.bool true) ∧ Below w.heap.size w w' := by
 refine enter 38 Try.func34 rfl rfl rfl fun a F => ?_
 have S := Sat.pushRest w
 refine s_reg ?_
 refine l_pure 1 (fun L => (0, .bool false) :: L) F (by kernel_rfl) fun a F => ?_
 refine l_then ?_
 refine s_reg ?_
 refine l_do F rfl rfl (op_make S _ 106 _ _ .i64 .i64 (.agg #[.int .i64 0, .int .i64 0]) 2 16 4 ((0, 0) : Int × Int) spC F spC_len rfl (by kernel_rfl) (by kernel_rfl) rfl (by kernel_rfl) (by kernel_rfl) (by kernel_rfl) (by omega) (by omega) fun b1 z S a F => ?_)
 refine l_pure 12 (fun L => (17, .agg #[.int .i64 2, .int .i64 3, .int .u64 5, .int .u64 0, .int .u64 0, .int .u64 0, .int .u64 0, .int .u64 0]) :: (16, .agg #[.int .u64 5, .int .u64 0]) :: (15, .agg #[.int .i64 2, .int .i64 3]) :: (14, .agg #[.int .i64 0, .int .i64 2, .int .u64 9, .int .u64 0, .int .u64 0, .int .u64 0, .int .u64 0, .int .u64 0]) :: (13, .agg #[.int .u64 9, .int .u64 0]) :: (12, .agg #[.int .i64 0, .int .i64 2]) :: (11, .agg #[.int .i64 3, .int .i64 1, .int .u64 0, .int .u64 9, .int .u64 0, .int .u64 0, .int .u64 0, .int .u64 0]) :: (10, .agg #[.int .u64 0, .int .u64 9]) :: (9, .agg #[.int .i64 3, .int .i64 1]) :: (8, .agg #[.int .i64 0, .int .i64 1, .int .u64 2, .int .u64 0, .int .u64 0, .int .u64 0, .int .u64 0, .int .u64 0]) :: (7, .agg #[.int .u64 2, .int .u64 0]) :: (6, .agg #[.int .i64 0, .int .i64 1]) :: L) F (by kernel_rfl) fun a F => ?_
 refine l_do F rfl rfl (op_buildSlice S _ 4 _ 104 8 edC ([(⟨0, 1, 2, 0, 0, 0, 0, 0⟩ : Edg), (⟨3, 1, 0, 9, 0, 0, 0, 0⟩ : Edg), (⟨0, 2, 9, 0, 0, 0, 0, 0⟩ : Edg), (⟨2, 3, 5, 0, 0, 0, 0, 0⟩ : Edg)] : List Edg) F rfl (by kernel_rfl) (by kernel_rfl) (by kernel_rfl) (by unfold maxLen; omega) fun b2 z S a F => ?_)
 refine l_pure 1 (fun L => (19, .agg #[.slice (some ⟨b1, 0, none⟩) 4 4, .slice (some ⟨b2, 0, none⟩) 4 4]) :: L) F (by kernel_rfl) fun a F => ?_
 refine l_do F rfl rfl (op_alloc S _ (.agg #[.slice none 0 0, .slice none 0 0]) rfl (by kernel_rfl) fun b3 z S a F => ?_)
 refine l_do F rfl rfl (op_storeB S 3 _ _ _ b3 0 (.agg #[.slice (some ⟨b1, 0, none⟩) 4 4, .slice (some ⟨b2, 0, none⟩) 4 4]) F rfl rfl (by kernel_rfl) (by kernel_rfl) (by kernel_rfl) (by kernel_rfl) (by kernel_rfl) fun z S a F => ?_)
 refine l_then ?_
 refine s_reg ?_
 refine l_do F rfl rfl (op_loadK _ _ (some ⟨b3, 0, none⟩) 0 [.slice (some ⟨b1, 0, none⟩) 4 4, .slice (some ⟨b2, 0, none⟩) 4 4] F rfl (by kernel_rfl) (by kernel_rfl) (by kernel_rfl) (by simp) (cBoxK S 3 rfl 0 (by kernel_rfl)) (fun a F => ?_))
 have S : Sat w z [rest w (· < w.heap.size), row 106 2 (.slice (some ⟨b1, 0, none⟩) x27.spots.length 4) x27.spots.length (x27.spots.flatMap spC), row 104 8 (.slice (some ⟨b2, 0, none⟩) x27.edges.length 4) x27.edges.length (x27.edges.flatMap edC), box b3 25 [.slice (some ⟨b1, 0, none⟩) 4 4, .slice (some ⟨b2, 0, none⟩) 4 4]] := S
 refine l_do F rfl rfl (op_fn F (by kernel_rfl) (to_any _ (some ⟨b1, 0, none⟩) 4 (some ⟨b2, 0, none⟩) 4 x27 (WebAt.ofNew (x := x27) (w := w) S (i := 1) (j := 2) rfl rfl ⟨by decide, by decide⟩) x27_ok ⟨by decide, by decide⟩) ?_)
 rintro e z ⟨A4, c5, A6, c7, rfl, g⟩
 have S := S.pushThings g
 refine ⟨_, rfl, ?_⟩
 intro a F
 refine l_do F rfl rfl (op_fn F (by kernel_rfl) (most_any _ A4 c5 A6 c7 x27 (WebAt.ofNew (x := x27) (w := w) S (i := 4) (j := 5) rfl rfl ⟨by decide, by decide⟩) x27_ok (by decide) 0 3 100 ⟨by decide, by decide⟩) ?_)
 rintro e z ⟨n9, Ap, cp, P9, rfl, hmost, g⟩
 have S := S.pushThings g
 obtain ⟨hn7, hP4⟩ := awake27_num hmost
 refine ⟨_, rfl, ?_⟩
 intro a F
 refine l_pure 7 (fun L => (4, .int .i64 (frightP x27 0 3)) :: (3, .slice Ap P9.length cp) :: (2, .int .u64 n9) :: (26, .int .i64 (frightP x27 0 3)) :: (25, .slice Ap P9.length cp) :: (24, .int .u64 n9) :: (20, .tuple #[.int .u64 n9, .slice Ap P9.length cp, .int .i64 (frightP x27 0 3)]) :: L) F (by kernel_rfl) fun a F => ?_
 refine l_then ?_
 refine s_reg ?_
 refine l_pure 1 (fun L => (27, .int .i64 (frightP x27 0 3)) :: L) F (by kernel_rfl) fun a F => ?_
 refine l_do F rfl rfl (op_pure F (v0 := .bool ((frightP x27 0 3 : Int) == (0 : Int))) (v := .bool true) (by kernel_rfl) (eqlT fr27) fun a F => ?_)
 refine l_pure 2 (fun L => (30, .int .u64 n9) :: (29, .bool true) :: L) F (by kernel_rfl) fun a F => ?_
 refine l_do F rfl rfl (op_pure F (v0 := .bool ((n9 : Int) == (7 : Int))) (v := .bool true) (by kernel_rfl) (eqlT hn7) fun a F => ?_)
 refine l_pure 4 (fun L => (35, .int .i64 (P9.length : Nat)) :: (34, .slice Ap P9.length cp) :: (33, .bool true) :: (32, .bool true) :: L) F (by kernel_rfl) fun a F => ?_
 refine l_do F rfl rfl (op_pure F (v0 := .bool (((P9.length : Nat) : Int) == (4 : Int))) (v := .bool true) (by kernel_rfl) (eqlT (by omega)) fun a F => ?_)
 refine l_pure 2 (fun L => (0, .bool true) :: (37, .bool true) :: L) F (by kernel_rfl) fun a F => ?_
 refine l_then ?_
 refine wp_ret ?_
 exact fin F [.tmp 0] [.bool true] rfl ⟨by kernel_rfl, trivial⟩ (.bool true) rfl ⟨rfl, S.below (i := 0) rfl⟩
set_option maxRecDepth 100000 in
set_option maxHeartbeats 4000000 in
theorem goes_any (w : World) (As : Option Addr) (cs : Nat) (Ae : Option Addr) (ce : Nat) (x : Wb) (h : WebAt w As cs Ae ce x) (ok : x.Ok) (hc : chkP x = 0) (Ap : Option Addr) (cp : Nat) (P : List Pip) (hP : Recs 3 pipC w Ap cp P) (hpl : P.length ≤ 1000) (hok : ∀ p ∈ P, PipOk x p) (hsort : P.Pairwise (fun p q => p.i < q.i)) (fr t : Nat) (n : Int) (hne : fr ≠ t) (hn0 : 0 ≤ n) (hn1 : n < 18446744073709551616) (hnet : ∀ v : Int, netP x v P = (if (t : Int) = v then n else 0) - (if (fr : Int) = v then n else 0)) : Calls Try.prog 38 #[.agg #[.slice As x.spots.length cs, .slice Ae x.edges.length ce], .slice Ap P.length cp, .int .i64 (fr : Nat), .int .i64 (t : Nat), .int .u64 n] w fun e w' => e = .returned (.bool true) ∧ Below w.heap.size w w' := by
 refine enter 119 Try.func38 rfl rfl rfl fun a F => ?_
 obtain ⟨z1, z2, _⟩ := chk_zero hc
 have S := Sat.pushRest w
 refine s_reg ?_
 refine l_do F rfl rfl (op_box S _ _ (.agg #[.slice As x.spots.length cs, .slice Ae x.edges.length ce]) F rfl (by kernel_rfl) fun b1 z S a F => ?_)
 refine l_pure 1 (fun L => (10, .bool false) :: L) F (by kernel_rfl) fun a F => ?_
 refine l_then ?_
 refine s_reg ?_
 refine l_pure 1 (fun L => (11, .int .i64 (-1)) :: L) F (by kernel_rfl) fun a F => ?_
 refine l_then ?_
 refine s_reg ?_
 refine l_pure 1 (fun L => (20, .pointer (some ⟨b1, 0, none⟩)) :: L) F (by kernel_rfl) fun a F => ?_
 refine l_do F rfl rfl (op_load _ _ (some ⟨b1, 0, none⟩) 0 (.slice As x.spots.length cs) F rfl (by kernel_rfl) (by kernel_rfl) (cBox S 1 rfl (j := 0) rfl) (fun a F => ?_))
 refine l_pure 1 (fun L => (22, .int .i64 (x.spots.length : Nat)) :: L) F (by kernel_rfl) fun a F => ?_
 refine l_do F rfl rfl (op_make S _ 26 _ _ .i64 .i64 (.int .u64 0) 1 8 x.spots.length 0 iC_u64 F iC_len_u64 rfl (by kernel_rfl) (by kernel_rfl) rfl (by kernel_rfl) (by kernel_rfl) (by kernel_rfl) (by omega) (by omega) fun b2 z S a F => ?_)
 refine l_pure 1 (fun L => (12, .slice (some ⟨b2, 0, none⟩) x.spots.length x.spots.length) :: L) F (by kernel_rfl) fun a F => ?_
 refine l_then ?_
 refine wp_seq ?_
 refine s_reg ?_
 refine l_pure 3 (fun L => (26, .int .i64 0) :: (25, .int .i64 (P.length : Nat)) :: (24, .slice Ap P.length cp) :: L) F (by kernel_rfl) fun a F => ?_
 refine l_then ?_
 refine wp_block ?_
 have S : Sat w z [rest w (· < w.heap.size), box b1 25 [.slice As x.spots.length cs, .slice Ae x.edges.length ce], row 26 1 (.slice (some ⟨b2, 0, none⟩) x.spots.length x.spots.length) x.spots.length ((moreL x (P.take 0)).flatMap iC_u64)] := by rw [show List.take 0 P = [] from rfl, moreL_nil]; exact S
 refine wp_loop_m (fun m a z => ∃ (j : Nat) (lastv : Int), m = P.length - j ∧ (j ≤ P.length) ∧ (∀ (q : Nat) (p : Pip), j ≤ q → P[q]? = some p → lastv < p.i) ∧ Fr a 119 [(2, .int .i64 (fr : Nat)), (3, .int .i64 (t : Nat)), (4, .int .u64 n), (5, .pointer (some ⟨b1, 0, none⟩)), (11, .int .i64 lastv), (12, .slice (some ⟨b2, 0, none⟩) x.spots.length x.spots.length), (24, .slice Ap P.length cp), (25, .int .i64 (P.length : Nat)), (26, .int .i64 (j : Nat))] ∧ Sat w z [rest w (· < w.heap.size), box b1 25 [.slice As x.spots.length cs, .slice Ae x.edges.length ce], row 26 1 (.slice (some ⟨b2, 0, none⟩) x.spots.length x.spots.length) x.spots.length ((moreL x (P.take j)).flatMap iC_u64)]) _ ⟨0, -1, rfl, Nat.zero_le _, (fun q p _ hp => by obtain ⟨k9, _, h9, _⟩ := hok p (List.mem_of_getElem? hp); omega), F.sub ⟨by kernel_rfl, by kernel_rfl, by kernel_rfl, by kernel_rfl, by kernel_rfl, by kernel_rfl, by kernel_rfl, by kernel_rfl, by kernel_rfl, trivial⟩, S⟩ ?_
 rintro m a z ⟨j, lastv, hm, hf3, hf4, F, S⟩
 have hlast := hf4
 refine s_reg ?_
 by_cases ht5 : ((j : Nat) : Int) < ((P.length : Nat) : Int)
 ·
  skip
  obtain ⟨i, u, q, am, d0, d1, e0, e1, e2, e3, hp, ham, huq, hul, hql, hil, hcase⟩ := pip_at hc hok (j := j) (by omega)
  have hls := hlast j _ (Nat.le_refl _) hp
  dsimp only at hls
  refine l_do F rfl rfl (op_pure F (v0 := .bool (decide (((j : Nat) : Int) < ((P.length : Nat) : Int)))) (v := .bool true) (by kernel_rfl) (lssT ht5) fun a F => ?_)
  refine l_then ?_
  refine wp_seq ?_
  refine c_t F rfl ?_
  refine wp_skip ?_
  refine then_n ?_
  refine wp_seq ?_
  refine wp_block ?_
  refine s_reg ?_
  refine l_do F rfl rfl (op_index _ 145 _ _ Ap P.length cp j 3 .i64 F rfl (by kernel_rfl) (by kernel_rfl) (by kernel_rfl) (by kernel_rfl) (get_lt hp) (recs_some hP (m := j) (get_lt hp)) (fun a F => ?_))
  refine l_do F rfl rfl (op_loadK _ _ Ap (j * 3) [.int .i64 (i : Nat), .int .i64 (u : Nat), .int .u64 am] F rfl (by kernel_rfl) (by kernel_rfl) (by kernel_rfl) (by simp) (cOldK0 S 0 pipC_len hP rfl hp (by kernel_rfl)) (fun a F => ?_))
  refine l_do F rfl rfl (op_alloc S _ (.agg #[.int .i64 0, .int .i64 0, .int .u64 0]) rfl (by kernel_rfl) fun b6 z S a F => ?_)
  refine l_do F rfl rfl (op_storeB S 3 _ _ _ b6 0 (.agg #[.int .i64 (i : Nat), .int .i64 (u : Nat), .int .u64 am]) F rfl rfl (by kernel_rfl) (by kernel_rfl) (by kernel_rfl) (by kernel_rfl) (by kernel_rfl) fun z S a F => ?_)
  refine l_then ?_
  refine wp_seq ?_
  refine s_reg ?_
  refine l_pure 1 (fun L => (30, .pointer (some ⟨b6, 0, none⟩)) :: L) F (by kernel_rfl) fun a F => ?_
  refine l_do F rfl rfl (op_load _ _ (some ⟨b6, 0, none⟩) 0 (.int .i64 (i : Nat)) F rfl (by kernel_rfl) (by kernel_rfl) (cBox S 3 rfl (j := 0) rfl) (fun a F => ?_))
  refine l_pure 1 (fun L => (32, .int .i64 lastv) :: L) F (by kernel_rfl) fun a F => ?_
  refine l_do F rfl rfl (op_pure F (v0 := .bool (decide (((i : Nat) : Int) ≤ (lastv : Int)))) (v := .bool false) (by kernel_rfl) (leqF (by omega)) fun a F => ?_)
  refine l_pure 2 (fun L => (35, .pointer (some ⟨b6, 0, none⟩)) :: (34, .bool false) :: L) F (by kernel_rfl) fun a F => ?_
  refine l_do F rfl rfl (op_load _ _ (some ⟨b6, 0, none⟩) 0 (.int .i64 (i : Nat)) F rfl (by kernel_rfl) (by kernel_rfl) (cBox S 3 rfl (j := 0) rfl) (fun a F => ?_))
  refine l_pure 1 (fun L => (37, .pointer (some ⟨b1, 1, none⟩)) :: L) F (by kernel_rfl) fun a F => ?_
  refine l_do F rfl rfl (op_load _ _ (some ⟨b1, 0, none⟩) 1 (.slice Ae x.edges.length ce) F rfl (by kernel_rfl) (by kernel_rfl) (cBox S 1 rfl (j := 1) rfl) (fun a F => ?_))
  refine l_pure 1 (fun L => (39, .int .i64 (x.edges.length : Nat)) :: L) F (by kernel_rfl) fun a F => ?_
  refine l_do F rfl rfl (op_pure F (v0 := .bool (decide (((i : Nat) : Int) ≥ ((x.edges.length : Nat) : Int)))) (v := .bool false) (by kernel_rfl) (geqF (by omega)) fun a F => ?_)
  refine l_pure 3 (fun L => (43, .pointer (some ⟨b6, 2, none⟩)) :: (42, .bool false) :: (41, .bool false) :: L) F (by kernel_rfl) fun a F => ?_
  refine l_do F rfl rfl (op_load _ _ (some ⟨b6, 0, none⟩) 2 (.int .u64 am) F rfl (by kernel_rfl) (by kernel_rfl) (cBox S 3 rfl (j := 2) rfl) (fun a F => ?_))
  refine l_do F rfl rfl (op_pure F (v0 := .bool ((am : Int) == (0 : Int))) (v := .bool false) (by kernel_rfl) (eqlF (by omega)) fun a F => ?_)
  refine l_pure 1 (fun L => (46, .bool false) :: L) F (by kernel_rfl) fun a F => ?_
  refine l_then ?_
  refine c_f F rfl ?_
  refine wp_skip ?_
  refine then_n ?_
  refine s_reg ?_
  refine l_pure 1 (fun L => (47, .pointer (some ⟨b6, 0, none⟩)) :: L) F (by kernel_rfl) fun a F => ?_
  refine l_do F rfl rfl (op_load _ _ (some ⟨b6, 0, none⟩) 0 (.int .i64 (i : Nat)) F rfl (by kernel_rfl) (by kernel_rfl) (cBox S 3 rfl (j := 0) rfl) (fun a F => ?_))
  refine l_pure 1 (fun L => (11, .int .i64 (i : Nat)) :: L) F (by kernel_rfl) fun a F => ?_
  refine l_then ?_
  refine s_reg ?_
  refine l_pure 1 (fun L => (49, .pointer (some ⟨b1, 1, none⟩)) :: L) F (by kernel_rfl) fun a F => ?_
  refine l_do F rfl rfl (op_load _ _ (some ⟨b1, 0, none⟩) 1 (.slice Ae x.edges.length ce) F rfl (by kernel_rfl) (by kernel_rfl) (cBox S 1 rfl (j := 1) rfl) (fun a F => ?_))
  refine l_pure 1 (fun L => (51, .pointer (some ⟨b6, 0, none⟩)) :: L) F (by kernel_rfl) fun a F => ?_
  refine l_do F rfl rfl (op_load _ _ (some ⟨b6, 0, none⟩) 0 (.int .i64 (i : Nat)) F rfl (by kernel_rfl) (by kernel_rfl) (cBox S 3 rfl (j := 0) rfl) (fun a F => ?_))
  refine l_do F rfl rfl (op_index _ 104 _ _ Ae x.edges.length ce i 8 .i64 F rfl (by kernel_rfl) (by kernel_rfl) (by kernel_rfl) (by kernel_rfl) (by omega) (recs_some h.e (m := i) (by omega)) (fun a F => ?_))
  rcases hcase with ⟨hed, hle⟩ | ⟨hed, hle⟩
  ·
   skip
   have hds := dest_a (am := am) hed
   refine l_do F rfl rfl (op_loadK _ _ Ae (i * 8) [.int .i64 (u : Nat), .int .i64 (q : Nat), .int .u64 d0, .int .u64 d1, .int .u64 e0, .int .u64 e1, .int .u64 e2, .int .u64 e3] F rfl (by kernel_rfl) (by kernel_rfl) (by kernel_rfl) (by simp) (cOldK0 S 0 edC_len h.e rfl hed (by kernel_rfl)) (fun a F => ?_))
   refine l_do F rfl rfl (op_alloc S _ (.agg #[.int .i64 0, .int .i64 0, .int .u64 0, .int .u64 0, .int .u64 0, .int .u64 0, .int .u64 0, .int .u64 0]) rfl (by kernel_rfl) fun b7 z S a F => ?_)
   refine l_do F rfl rfl (op_storeB S 4 _ _ _ b7 0 (.agg #[.int .i64 (u : Nat), .int .i64 (q : Nat), .int .u64 d0, .int .u64 d1, .int .u64 e0, .int .u64 e1, .int .u64 e2, .int .u64 e3]) F rfl rfl (by kernel_rfl) (by kernel_rfl) (by kernel_rfl) (by kernel_rfl) (by kernel_rfl) fun z S a F => ?_)
   refine l_then ?_
   refine s_reg ?_
   refine l_pure 1 (fun L => (16, .int .i64 0) :: L) F (by kernel_rfl) fun a F => ?_
   refine l_then ?_
   refine wp_seq ?_
   refine s_reg ?_
   refine l_pure 2 (fun L => (56, .pointer (some ⟨b7, 0, none⟩)) :: (55, .pointer (some ⟨b7, 0, none⟩)) :: L) F (by kernel_rfl) fun a F => ?_
   refine l_do F rfl rfl (op_load _ _ (some ⟨b7, 0, none⟩) 0 (.int .i64 (u : Nat)) F rfl (by kernel_rfl) (by kernel_rfl) (cBox S 4 rfl (j := 0) rfl) (fun a F => ?_))
   refine l_pure 1 (fun L => (58, .pointer (some ⟨b6, 1, none⟩)) :: L) F (by kernel_rfl) fun a F => ?_
   refine l_do F rfl rfl (op_load _ _ (some ⟨b6, 0, none⟩) 1 (.int .i64 (u : Nat)) F rfl (by kernel_rfl) (by kernel_rfl) (cBox S 3 rfl (j := 1) rfl) (fun a F => ?_))
   refine l_do F rfl rfl (op_pure F (v0 := .bool (((u : Nat) : Int) != ((u : Nat) : Int))) (v := .bool false) (by kernel_rfl) (neqF rfl) fun a F => ?_)
   refine l_then ?_
   refine c_f F rfl ?_
   refine wp_skip ?_
   refine then_n ?_
   refine wp_seq ?_
   refine wp_seq ?_
   refine region_gx (fun D => fun (_ : Unit) => [rest w (· < w.heap.size), box b1 25 [.slice As x.spots.length cs, .slice Ae x.edges.length ce], row 26 1 (.slice (some ⟨b2, 0, none⟩) x.spots.length x.spots.length) x.spots.length ((moreL x (P.take j)).flatMap iC_u64), box b6 145 [.int .i64 (i : Nat), .int .i64 (u : Nat), .int .u64 am], box b7 104 [.int .i64 (u : Nat), .int .i64 (q : Nat), .int .u64 d0, .int .u64 d1, .int .u64 e0, .int .u64 e1, .int .u64 e2, .int .u64 e3]]) (fun (_ : Unit) => [.int .i64 0, .pointer (some ⟨b7, 0, none⟩), .pointer (some ⟨b7, 0, none⟩), .int .i64 (u : Nat), .pointer (some ⟨b6, 1, none⟩), .int .i64 (u : Nat), .bool false, .bool false, .pointer (some ⟨b6, 2, none⟩), .int .u64 am, .int .i64 0, .pointer (some ⟨b7, 2, none⟩), .pointer (some ⟨b7, 2, none⟩), .int .u64 d0, .bool false, .bool false]) [(3, [], [6, 9, 13, 14]), (5, [], [6, 9, 13, 14]), (6, [3, 5], [9, 13, 14]), (9, [3, 5, 6], [14]), (13, [3, 5, 6], [14]), (14, [3, 5, 6, 9, 13], [])] () rfl (by kernel_rfl) (by kernel_rfl) F S.drew ?_ ?_ ?_ ?_ ?_
   · rintro ⟨⟩; rfl
   · rintro ⟨⟩; kernel_rfl
   ·
    intro D D' x h
    cases x
    rfl
   ·
    refine ⟨?_, ?_⟩
    ·
     refine ⟨_, rfl, rfl, by kernel_rfl, ?_⟩
     rintro D ⟨⟩ a z S F
     refine ⟨by kernel_rfl, ?_⟩
     exact op_load _ _ (some ⟨b7, 0, none⟩) 0 (.int .i64 (u : Nat)) F rfl (by kernel_rfl) (by kernel_rfl) (cBox S 4 rfl (j := 0) rfl) (⟨(), rfl, (SameB.refl _ _ rfl), S⟩)
    refine ⟨?_, ?_⟩
    ·
     refine ⟨_, rfl, rfl, by kernel_rfl, ?_⟩
     rintro D ⟨⟩ a z S F
     refine ⟨by kernel_rfl, ?_⟩
     exact op_load _ _ (some ⟨b6, 0, none⟩) 1 (.int .i64 (u : Nat)) F rfl (by kernel_rfl) (by kernel_rfl) (cBox S 3 rfl (j := 1) rfl) (⟨(), rfl, (SameB.refl _ _ rfl), S⟩)
    refine ⟨?_, ?_⟩
    ·
     refine ⟨_, rfl, rfl, by kernel_rfl, ?_⟩
     rintro D ⟨⟩ a z S F
     refine ⟨by kernel_rfl, ?_⟩
     exact op_pure F (v0 := .bool (((u : Nat) : Int) != ((u : Nat) : Int))) (v := .bool false) (by kernel_rfl) (neqF rfl) ⟨(), rfl, (SameB.refl _ _ rfl), S⟩
    refine ⟨?_, ?_⟩
    ·
     refine ⟨_, rfl, rfl, by kernel_rfl, ?_⟩
     rintro D ⟨⟩ a z S F
     refine ⟨by kernel_rfl, ?_⟩
     exact op_load _ _ (some ⟨b6, 0, none⟩) 2 (.int .u64 am) F rfl (by kernel_rfl) (by kernel_rfl) (cBox S 3 rfl (j := 2) rfl) (⟨(), rfl, (SameB.refl _ _ rfl), S⟩)
    refine ⟨?_, ?_⟩
    ·
     refine ⟨_, rfl, rfl, by kernel_rfl, ?_⟩
     rintro D ⟨⟩ a z S F
     refine ⟨by kernel_rfl, ?_⟩
     exact op_load _ _ (some ⟨b7, 0, none⟩) 2 (.int .u64 d0) F rfl (by kernel_rfl) (by kernel_rfl) (cBox S 4 rfl (j := 2) rfl) (⟨(), rfl, (SameB.refl _ _ rfl), S⟩)
    refine ⟨?_, ?_⟩
    ·
     refine ⟨_, rfl, rfl, by kernel_rfl, ?_⟩
     rintro D ⟨⟩ a z S F
     refine ⟨by kernel_rfl, ?_⟩
     exact op_pure F (v0 := .bool (decide ((am : Int) > (d0 : Int)))) (v := .bool false) (by kernel_rfl) (gtrF (Int.not_lt.2 hle)) ⟨(), rfl, (SameB.refl _ _ rfl), S⟩
    trivial
   ·
    rintro ⟨⟩ a z F S
    have F := F.sub (l := [(2, .int .i64 (fr : Nat)), (3, .int .i64 (t : Nat)), (4, .int .u64 n), (5, .pointer (some ⟨b1, 0, none⟩)), (11, .int .i64 (i : Nat)), (12, .slice (some ⟨b2, 0, none⟩) x.spots.length x.spots.length), (14, .pointer (some ⟨b6, 0, none⟩)), (15, .pointer (some ⟨b7, 0, none⟩)), (16, .int .i64 0), (24, .slice Ap P.length cp), (25, .int .i64 (P.length : Nat)), (26, .int .i64 (j : Nat)), (76, .bool false)]) ⟨by kernel_rfl, by kernel_rfl, by kernel_rfl, by kernel_rfl, by kernel_rfl, by kernel_rfl, by kernel_rfl, by kernel_rfl, by kernel_rfl, by kernel_rfl, by kernel_rfl, by kernel_rfl, by kernel_rfl, trivial⟩
    have S : Sat w z [rest w (· < w.heap.size), box b1 25 [.slice As x.spots.length cs, .slice Ae x.edges.length ce], row 26 1 (.slice (some ⟨b2, 0, none⟩) x.spots.length x.spots.length) x.spots.length ((moreL x (P.take j)).flatMap iC_u64), box b6 145 [.int .i64 (i : Nat), .int .i64 (u : Nat), .int .u64 am], box b7 104 [.int .i64 (u : Nat), .int .i64 (q : Nat), .int .u64 d0, .int .u64 d1, .int .u64 e0, .int .u64 e1, .int .u64 e2, .int .u64 e3]] := S
    refine then_n ?_
    refine c_f F rfl ?_
    refine wp_skip ?_
    refine then_n ?_
    refine wp_seq ?_
    refine region_gx (fun D => fun (_ : Unit) => [rest w (· < w.heap.size), box b1 25 [.slice As x.spots.length cs, .slice Ae x.edges.length ce], bif D 9 then row 26 1 (.slice (some ⟨b2, 0, none⟩) x.spots.length x.spots.length) x.spots.length (((moreL x (P.take j)).set u (((netP x (u : Nat) (P.take j) % 18446744073709551616) - am) % 18446744073709551616)).flatMap iC_u64) else row 26 1 (.slice (some ⟨b2, 0, none⟩) x.spots.length x.spots.length) x.spots.length ((moreL x (P.take j)).flatMap iC_u64), box b6 145 [.int .i64 (i : Nat), .int .i64 (u : Nat), .int .u64 am], box b7 104 [.int .i64 (u : Nat), .int .i64 (q : Nat), .int .u64 d0, .int .u64 d1, .int .u64 e0, .int .u64 e1, .int .u64 e2, .int .u64 e3]]) (fun (_ : Unit) => [.slice (some ⟨b2, 0, none⟩) x.spots.length x.spots.length, .pointer (some ⟨b6, 1, none⟩), .int .i64 (u : Nat), ptrA (some ⟨b2, 0, none⟩) (u * 1), .int .u64 (netP x (u : Nat) (P.take j) % 18446744073709551616), .pointer (some ⟨b6, 2, none⟩), .int .u64 am, .int .u64 (((netP x (u : Nat) (P.take j) % 18446744073709551616) - am) % 18446744073709551616), ptrA (some ⟨b2, 0, none⟩) (u * 1), undef]) [(2, [], [3, 4, 7, 8, 9]), (3, [2], [4, 7, 8, 9]), (4, [2, 3], [7, 8, 9]), (6, [], [7, 8, 9]), (7, [2, 3, 4, 6], [8, 9]), (8, [2, 3, 4, 6, 7], [9]), (9, [2, 3, 4, 6, 7, 8], [])] () rfl (by kernel_rfl) (by kernel_rfl) F S.drew ?_ ?_ ?_ ?_ ?_
    · rintro ⟨⟩; rfl
    · rintro ⟨⟩; kernel_rfl
    ·
     intro D D' x h
     cases x
     simp only [h 9 (by decide)]
    ·
     refine ⟨?_, ?_⟩
     ·
      refine ⟨_, rfl, rfl, by kernel_rfl, ?_⟩
      rintro D ⟨⟩ a z S F
      refine ⟨by kernel_rfl, ?_⟩
      exact op_load _ _ (some ⟨b6, 0, none⟩) 1 (.int .i64 (u : Nat)) F rfl (by kernel_rfl) (by kernel_rfl) (cBox S 3 rfl (j := 1) rfl) (⟨(), rfl, (SameB.refl _ _ rfl), S⟩)
     refine ⟨?_, ?_⟩
     ·
      refine ⟨_, rfl, rfl, by kernel_rfl, ?_⟩
      rintro D ⟨⟩ a z S F
      refine ⟨by kernel_rfl, ?_⟩
      exact op_index _ 26 _ _ (some ⟨b2, 0, none⟩) x.spots.length x.spots.length u 1 .i64 F rfl (by kernel_rfl) (by kernel_rfl) (by kernel_rfl) (by kernel_rfl) (by have h9 := get_lt (moreL_at (x := x) (L := P.take j) (v := u) (by omega)); (try simp only [List.length_set] at h9); omega) rfl (⟨(), rfl, (SameB.refl _ _ rfl), S⟩)
     refine ⟨?_, ?_⟩
     ·
      refine ⟨_, rfl, rfl, by kernel_rfl, ?_⟩
      rintro D ⟨⟩ a z S F
      refine ⟨by kernel_rfl, ?_⟩
      exact op_load _ _ (some ⟨b2, 0, none⟩) (u * 1) (.int .u64 (netP x (u : Nat) (P.take j) % 18446744073709551616)) F rfl (by kernel_rfl) (by kernel_rfl) (cRec S 2 iC_len_u64 rfl 0 (moreL_at (x := x) (L := P.take j) (v := u) (by omega)) rfl) (⟨(), rfl, (SameB.refl _ _ rfl), S⟩)
     refine ⟨?_, ?_⟩
     ·
      refine ⟨_, rfl, rfl, by kernel_rfl, ?_⟩
      rintro D ⟨⟩ a z S F
      refine ⟨by kernel_rfl, ?_⟩
      exact op_load _ _ (some ⟨b6, 0, none⟩) 2 (.int .u64 am) F rfl (by kernel_rfl) (by kernel_rfl) (cBox S 3 rfl (j := 2) rfl) (⟨(), rfl, (SameB.refl _ _ rfl), S⟩)
     refine ⟨?_, ?_⟩
     ·
      refine ⟨_, rfl, rfl, by kernel_rfl, ?_⟩
      rintro D ⟨⟩ a z S F
      refine ⟨by kernel_rfl, ?_⟩
      exact op_pure F (v0 := .int .u64 (IntKind.wrap .u64 ((netP x (u : Nat) (P.take j) % 18446744073709551616) - am))) (v := .int .u64 (((netP x (u : Nat) (P.take j) % 18446744073709551616) - am) % 18446744073709551616)) (by kernel_rfl) (wrapU _) ⟨(), rfl, (SameB.refl _ _ rfl), S⟩
     refine ⟨?_, ?_⟩
     ·
      refine ⟨_, rfl, rfl, by kernel_rfl, ?_⟩
      rintro D ⟨⟩ a z S F
      refine ⟨by kernel_rfl, ?_⟩
      exact op_index _ 26 _ _ (some ⟨b2, 0, none⟩) x.spots.length x.spots.length u 1 .i64 F rfl (by kernel_rfl) (by kernel_rfl) (by kernel_rfl) (by kernel_rfl) (by have h9 := get_lt (moreL_at (x := x) (L := P.take j) (v := u) (by omega)); (try simp only [List.length_set] at h9); omega) rfl (⟨(), rfl, (SameB.refl _ _ rfl), S⟩)
     refine ⟨?_, ?_⟩
     ·
      refine ⟨_, rfl, rfl, by kernel_rfl, ?_⟩
      rintro D ⟨⟩ a z S F
      refine ⟨by kernel_rfl, ?_⟩
      exact op_storeRec S 2 _ _ _ (some ⟨b2, 0, none⟩) u 1 0 (.int .u64 (((netP x (u : Nat) (P.take j) % 18446744073709551616) - am) % 18446744073709551616)) (((netP x (u : Nat) (P.take j) % 18446744073709551616) - am) % 18446744073709551616) F iC_len_u64 (moreL_at (x := x) (L := P.take j) (v := u) (by omega)) rfl rfl (by kernel_rfl) (by kernel_rfl) (by kernel_rfl) (by kernel_rfl) (by kernel_rfl) (by kernel_rfl) (by kernel_rfl) fun z S => ⟨(), rfl, (SameB.refl _ _ rfl), S⟩
     trivial
    ·
     rintro ⟨⟩ a z F S
     have F := F.sub (l := [(2, .int .i64 (fr : Nat)), (3, .int .i64 (t : Nat)), (4, .int .u64 n), (5, .pointer (some ⟨b1, 0, none⟩)), (11, .int .i64 (i : Nat)), (12, .slice (some ⟨b2, 0, none⟩) x.spots.length x.spots.length), (14, .pointer (some ⟨b6, 0, none⟩)), (15, .pointer (some ⟨b7, 0, none⟩)), (16, .int .i64 0), (24, .slice Ap P.length cp), (25, .int .i64 (P.length : Nat)), (26, .int .i64 (j : Nat))]) ⟨by kernel_rfl, by kernel_rfl, by kernel_rfl, by kernel_rfl, by kernel_rfl, by kernel_rfl, by kernel_rfl, by kernel_rfl, by kernel_rfl, by kernel_rfl, by kernel_rfl, by kernel_rfl, trivial⟩
     have S : Sat w z [rest w (· < w.heap.size), box b1 25 [.slice As x.spots.length cs, .slice Ae x.edges.length ce], row 26 1 (.slice (some ⟨b2, 0, none⟩) x.spots.length x.spots.length) x.spots.length (((moreL x (P.take j)).set u (((netP x (u : Nat) (P.take j) % 18446744073709551616) - am) % 18446744073709551616)).flatMap iC_u64), box b6 145 [.int .i64 (i : Nat), .int .i64 (u : Nat), .int .u64 am], box b7 104 [.int .i64 (u : Nat), .int .i64 (q : Nat), .int .u64 d0, .int .u64 d1, .int .u64 e0, .int .u64 e1, .int .u64 e2, .int .u64 e3]] := S
     refine then_n ?_
     refine region_gx (fun D => fun (_ : Unit) => [rest w (· < w.heap.size), box b1 25 [.slice As x.spots.length cs, .slice Ae x.edges.length ce], bif D 12 then row 26 1 (.slice (some ⟨b2, 0, none⟩) x.spots.length x.spots.length) x.spots.length ((((moreL x (P.take j)).set u (((netP x (u : Nat) (P.take j) % 18446744073709551616) - am) % 18446744073709551616)).set q (((netP x (q : Nat) (P.take j) % 18446744073709551616) + am) % 18446744073709551616)).flatMap iC_u64) else row 26 1 (.slice (some ⟨b2, 0, none⟩) x.spots.length x.spots.length) x.spots.length (((moreL x (P.take j)).set u (((netP x (u : Nat) (P.take j) % 18446744073709551616) - am) % 18446744073709551616)).flatMap iC_u64), box b6 145 [.int .i64 (i : Nat), .int .i64 (u : Nat), .int .u64 am], box b7 104 [.int .i64 (u : Nat), .int .i64 (q : Nat), .int .u64 d0, .int .u64 d1, .int .u64 e0, .int .u64 e1, .int .u64 e2, .int .u64 e3]]) (fun (_ : Unit) => [.slice (some ⟨b2, 0, none⟩) x.spots.length x.spots.length, .int .i64 0, .int .i64 1, .pointer (some ⟨b7, 0, none⟩), .pointer (some ⟨b7, 1, none⟩), .int .i64 (q : Nat), ptrA (some ⟨b2, 0, none⟩) (q * 1), .int .u64 (netP x (q : Nat) (P.take j) % 18446744073709551616), .pointer (some ⟨b6, 2, none⟩), .int .u64 am, .int .u64 (((netP x (q : Nat) (P.take j) % 18446744073709551616) + am) % 18446744073709551616), ptrA (some ⟨b2, 0, none⟩) (q * 1), undef]) [(5, [], [6, 7, 10, 11, 12]), (6, [5], [7, 10, 11, 12]), (7, [5, 6], [10, 11, 12]), (9, [], [10, 11, 12]), (10, [5, 6, 7, 9], [11, 12]), (11, [5, 6, 7, 9, 10], [12]), (12, [5, 6, 7, 9, 10, 11], [])] () rfl (by kernel_rfl) (by kernel_rfl) F S.drew ?_ ?_ ?_ ?_ ?_
     · rintro ⟨⟩; rfl
     · rintro ⟨⟩; kernel_rfl
     ·
      intro D D' x h
      cases x
      simp only [h 12 (by decide)]
     ·
      refine ⟨?_, ?_⟩
      ·
       refine ⟨_, rfl, rfl, by kernel_rfl, ?_⟩
       rintro D ⟨⟩ a z S F
       refine ⟨by kernel_rfl, ?_⟩
       exact op_load _ _ (some ⟨b7, 0, none⟩) 1 (.int .i64 (q : Nat)) F rfl (by kernel_rfl) (by kernel_rfl) (cBox S 4 rfl (j := 1) rfl) (⟨(), rfl, (SameB.refl _ _ rfl), S⟩)
      refine ⟨?_, ?_⟩
      ·
       refine ⟨_, rfl, rfl, by kernel_rfl, ?_⟩
       rintro D ⟨⟩ a z S F
       refine ⟨by kernel_rfl, ?_⟩
       exact op_index _ 26 _ _ (some ⟨b2, 0, none⟩) x.spots.length x.spots.length q 1 .i64 F rfl (by kernel_rfl) (by kernel_rfl) (by kernel_rfl) (by kernel_rfl) (by have h9 := get_lt (set_ne_at (m := u) (y := (((netP x (u : Nat) (P.take j) % 18446744073709551616) - am) % 18446744073709551616)) (moreL_at (x := x) (L := P.take j) (v := q) (by omega)) (by omega)); (try simp only [List.length_set] at h9); omega) rfl (⟨(), rfl, (SameB.refl _ _ rfl), S⟩)
      refine ⟨?_, ?_⟩
      ·
       refine ⟨_, rfl, rfl, by kernel_rfl, ?_⟩
       rintro D ⟨⟩ a z S F
       refine ⟨by kernel_rfl, ?_⟩
       exact op_load _ _ (some ⟨b2, 0, none⟩) (q * 1) (.int .u64 (netP x (q : Nat) (P.take j) % 18446744073709551616)) F rfl (by kernel_rfl) (by kernel_rfl) (cRec S 2 iC_len_u64 rfl 0 (set_ne_at (m := u) (y := (((netP x (u : Nat) (P.take j) % 18446744073709551616) - am) % 18446744073709551616)) (moreL_at (x := x) (L := P.take j) (v := q) (by omega)) (by omega)) rfl) (⟨(), rfl, (SameB.refl _ _ rfl), S⟩)
      refine ⟨?_, ?_⟩
      ·
       refine ⟨_, rfl, rfl, by kernel_rfl, ?_⟩
       rintro D ⟨⟩ a z S F
       refine ⟨by kernel_rfl, ?_⟩
       exact op_load _ _ (some ⟨b6, 0, none⟩) 2 (.int .u64 am) F rfl (by kernel_rfl) (by kernel_rfl) (cBox S 3 rfl (j := 2) rfl) (⟨(), rfl, (SameB.refl _ _ rfl), S⟩)
      refine ⟨?_, ?_⟩
      ·
       refine ⟨_, rfl, rfl, by kernel_rfl, ?_⟩
       rintro D ⟨⟩ a z S F
       refine ⟨by kernel_rfl, ?_⟩
       exact op_pure F (v0 := .int .u64 (IntKind.wrap .u64 ((netP x (q : Nat) (P.take j) % 18446744073709551616) + am))) (v := .int .u64 (((netP x (q : Nat) (P.take j) % 18446744073709551616) + am) % 18446744073709551616)) (by kernel_rfl) (wrapU _) ⟨(), rfl, (SameB.refl _ _ rfl), S⟩
      refine ⟨?_, ?_⟩
      ·
       refine ⟨_, rfl, rfl, by kernel_rfl, ?_⟩
       rintro D ⟨⟩ a z S F
       refine ⟨by kernel_rfl, ?_⟩
       exact op_index _ 26 _ _ (some ⟨b2, 0, none⟩) x.spots.length x.spots.length q 1 .i64 F rfl (by kernel_rfl) (by kernel_rfl) (by kernel_rfl) (by kernel_rfl) (by have h9 := get_lt (set_ne_at (m := u) (y := (((netP x (u : Nat) (P.take j) % 18446744073709551616) - am) % 18446744073709551616)) (moreL_at (x := x) (L := P.take j) (v := q) (by omega)) (by omega)); (try simp only [List.length_set] at h9); omega) rfl (⟨(), rfl, (SameB.refl _ _ rfl), S⟩)
      refine ⟨?_, ?_⟩
      ·
       refine ⟨_, rfl, rfl, by kernel_rfl, ?_⟩
       rintro D ⟨⟩ a z S F
       refine ⟨by kernel_rfl, ?_⟩
       exact op_storeRec S 2 _ _ _ (some ⟨b2, 0, none⟩) q 1 0 (.int .u64 (((netP x (q : Nat) (P.take j) % 18446744073709551616) + am) % 18446744073709551616)) (((netP x (q : Nat) (P.take j) % 18446744073709551616) + am) % 18446744073709551616) F iC_len_u64 (set_ne_at (m := u) (y := (((netP x (u : Nat) (P.take j) % 18446744073709551616) - am) % 18446744073709551616)) (moreL_at (x := x) (L := P.take j) (v := q) (by omega)) (by omega)) rfl rfl (by kernel_rfl) (by kernel_rfl) (by kernel_rfl) (by kernel_rfl) (by kernel_rfl) (by kernel_rfl) (by kernel_rfl) fun z S => ⟨(), rfl, (SameB.refl _ _ rfl), S⟩
      trivial
     ·
      rintro ⟨⟩ a z F S
      have F := F.sub (l := [(2, .int .i64 (fr : Nat)), (3, .int .i64 (t : Nat)), (4, .int .u64 n), (5, .pointer (some ⟨b1, 0, none⟩)), (11, .int .i64 (i : Nat)), (12, .slice (some ⟨b2, 0, none⟩) x.spots.length x.spots.length), (24, .slice Ap P.length cp), (25, .int .i64 (P.length : Nat)), (26, .int .i64 (j : Nat))]) ⟨by kernel_rfl, by kernel_rfl, by kernel_rfl, by kernel_rfl, by kernel_rfl, by kernel_rfl, by kernel_rfl, by kernel_rfl, by kernel_rfl, trivial⟩
      have S : Sat w z [rest w (· < w.heap.size), box b1 25 [.slice As x.spots.length cs, .slice Ae x.edges.length ce], row 26 1 (.slice (some ⟨b2, 0, none⟩) x.spots.length x.spots.length) x.spots.length ((((moreL x (P.take j)).set u (((netP x (u : Nat) (P.take j) % 18446744073709551616) - am) % 18446744073709551616)).set q (((netP x (q : Nat) (P.take j) % 18446744073709551616) + am) % 18446744073709551616)).flatMap iC_u64), box b6 145 [.int .i64 (i : Nat), .int .i64 (u : Nat), .int .u64 am], box b7 104 [.int .i64 (u : Nat), .int .i64 (q : Nat), .int .u64 d0, .int .u64 d1, .int .u64 e0, .int .u64 e1, .int .u64 e2, .int .u64 e3]] := S
      refine inb_n ?_
      refine then_n ?_
      refine wp_region_list ?_
      refine l_do F rfl rfl (op_pure F (v0 := .int .i64 (IntKind.wrap .i64 ((j : Nat) + 1))) (v := .int .i64 (j + 1 : Nat)) (by kernel_rfl) (wrn_i64 (by omega) (by omega) (by omega)) fun a F => ?_)
      refine l_pure 1 (fun L => (26, .int .i64 (j + 1 : Nat)) :: L) F (by kernel_rfl) fun a F => ?_
      refine l_then ?_
      have hsn : (((moreL x (P.take j)).set u (((netP x (u : Nat) (P.take j) % 18446744073709551616) - am) % 18446744073709551616)).set q (((netP x (q : Nat) (P.take j) % 18446744073709551616) + am) % 18446744073709551616)) = moreL x (P.take (j + 1)) := by rw [List.take_add_one, hp]; exact moreL_snoc rfl hds huq hul hql
      rw [hsn] at S
      exact ⟨_, (by omega), j + 1, (i : Nat), rfl, (by omega), (fun q9 p9 hq9 hp9 => sorted_at hsort hp hp9 (by omega)), F.sub ⟨by kernel_rfl, by kernel_rfl, by kernel_rfl, by kernel_rfl, by kernel_rfl, by kernel_rfl, by kernel_rfl, by kernel_rfl, by kernel_rfl, trivial⟩, (S.pick [0, 1, 2] (by decide))⟩
  ·
   skip
   have hds := dest_b (am := am) huq hed
   refine l_do F rfl rfl (op_loadK _ _ Ae (i * 8) [.int .i64 (q : Nat), .int .i64 (u : Nat), .int .u64 d0, .int .u64 d1, .int .u64 e0, .int .u64 e1, .int .u64 e2, .int .u64 e3] F rfl (by kernel_rfl) (by kernel_rfl) (by kernel_rfl) (by simp) (cOldK0 S 0 edC_len h.e rfl hed (by kernel_rfl)) (fun a F => ?_))
   refine l_do F rfl rfl (op_alloc S _ (.agg #[.int .i64 0, .int .i64 0, .int .u64 0, .int .u64 0, .int .u64 0, .int .u64 0, .int .u64 0, .int .u64 0]) rfl (by kernel_rfl) fun b8 z S a F => ?_)
   refine l_do F rfl rfl (op_storeB S 4 _ _ _ b8 0 (.agg #[.int .i64 (q : Nat), .int .i64 (u : Nat), .int .u64 d0, .int .u64 d1, .int .u64 e0, .int .u64 e1, .int .u64 e2, .int .u64 e3]) F rfl rfl (by kernel_rfl) (by kernel_rfl) (by kernel_rfl) (by kernel_rfl) (by kernel_rfl) fun z S a F => ?_)
   refine l_then ?_
   refine s_reg ?_
   refine l_pure 1 (fun L => (16, .int .i64 0) :: L) F (by kernel_rfl) fun a F => ?_
   refine l_then ?_
   refine wp_seq ?_
   refine s_reg ?_
   refine l_pure 2 (fun L => (56, .pointer (some ⟨b8, 0, none⟩)) :: (55, .pointer (some ⟨b8, 0, none⟩)) :: L) F (by kernel_rfl) fun a F => ?_
   refine l_do F rfl rfl (op_load _ _ (some ⟨b8, 0, none⟩) 0 (.int .i64 (q : Nat)) F rfl (by kernel_rfl) (by kernel_rfl) (cBox S 4 rfl (j := 0) rfl) (fun a F => ?_))
   refine l_pure 1 (fun L => (58, .pointer (some ⟨b6, 1, none⟩)) :: L) F (by kernel_rfl) fun a F => ?_
   refine l_do F rfl rfl (op_load _ _ (some ⟨b6, 0, none⟩) 1 (.int .i64 (u : Nat)) F rfl (by kernel_rfl) (by kernel_rfl) (cBox S 3 rfl (j := 1) rfl) (fun a F => ?_))
   refine l_do F rfl rfl (op_pure F (v0 := .bool (((q : Nat) : Int) != ((u : Nat) : Int))) (v := .bool true) (by kernel_rfl) (neqT (by omega)) fun a F => ?_)
   refine l_then ?_
   refine c_t F rfl ?_
   refine wp_region_list ?_
   refine l_pure 1 (fun L => (16, .int .i64 1) :: L) F (by kernel_rfl) fun a F => ?_
   refine l_then ?_
   refine wp_seq ?_
   refine wp_seq ?_
   refine region_gx (fun D => fun (_ : Unit) => [rest w (· < w.heap.size), box b1 25 [.slice As x.spots.length cs, .slice Ae x.edges.length ce], row 26 1 (.slice (some ⟨b2, 0, none⟩) x.spots.length x.spots.length) x.spots.length ((moreL x (P.take j)).flatMap iC_u64), box b6 145 [.int .i64 (i : Nat), .int .i64 (u : Nat), .int .u64 am], box b8 104 [.int .i64 (q : Nat), .int .i64 (u : Nat), .int .u64 d0, .int .u64 d1, .int .u64 e0, .int .u64 e1, .int .u64 e2, .int .u64 e3]]) (fun (_ : Unit) => [.int .i64 1, .pointer (some ⟨b8, 0, none⟩), .pointer (some ⟨b8, 1, none⟩), .int .i64 (u : Nat), .pointer (some ⟨b6, 1, none⟩), .int .i64 (u : Nat), .bool false, .bool false, .pointer (some ⟨b6, 2, none⟩), .int .u64 am, .int .i64 1, .pointer (some ⟨b8, 2, none⟩), .pointer (some ⟨b8, 3, none⟩), .int .u64 d1, .bool false, .bool false]) [(3, [], [6, 9, 13, 14]), (5, [], [6, 9, 13, 14]), (6, [3, 5], [9, 13, 14]), (9, [3, 5, 6], [14]), (13, [3, 5, 6], [14]), (14, [3, 5, 6, 9, 13], [])] () rfl (by kernel_rfl) (by kernel_rfl) F S.drew ?_ ?_ ?_ ?_ ?_
   · rintro ⟨⟩; rfl
   · rintro ⟨⟩; kernel_rfl
   ·
    intro D D' x h
    cases x
    rfl
   ·
    refine ⟨?_, ?_⟩
    ·
     refine ⟨_, rfl, rfl, by kernel_rfl, ?_⟩
     rintro D ⟨⟩ a z S F
     refine ⟨by kernel_rfl, ?_⟩
     exact op_load _ _ (some ⟨b8, 0, none⟩) 1 (.int .i64 (u : Nat)) F rfl (by kernel_rfl) (by kernel_rfl) (cBox S 4 rfl (j := 1) rfl) (⟨(), rfl, (SameB.refl _ _ rfl), S⟩)
    refine ⟨?_, ?_⟩
    ·
     refine ⟨_, rfl, rfl, by kernel_rfl, ?_⟩
     rintro D ⟨⟩ a z S F
     refine ⟨by kernel_rfl, ?_⟩
     exact op_load _ _ (some ⟨b6, 0, none⟩) 1 (.int .i64 (u : Nat)) F rfl (by kernel_rfl) (by kernel_rfl) (cBox S 3 rfl (j := 1) rfl) (⟨(), rfl, (SameB.refl _ _ rfl), S⟩)
    refine ⟨?_, ?_⟩
    ·
     refine ⟨_, rfl, rfl, by kernel_rfl, ?_⟩
     rintro D ⟨⟩ a z S F
     refine ⟨by kernel_rfl, ?_⟩
     exact op_pure F (v0 := .bool (((u : Nat) : Int) != ((u : Nat) : Int))) (v := .bool false) (by kernel_rfl) (neqF rfl) ⟨(), rfl, (SameB.refl _ _ rfl), S⟩
    refine ⟨?_, ?_⟩
    ·
     refine ⟨_, rfl, rfl, by kernel_rfl, ?_⟩
     rintro D ⟨⟩ a z S F
     refine ⟨by kernel_rfl, ?_⟩
     exact op_load _ _ (some ⟨b6, 0, none⟩) 2 (.int .u64 am) F rfl (by kernel_rfl) (by kernel_rfl) (cBox S 3 rfl (j := 2) rfl) (⟨(), rfl, (SameB.refl _ _ rfl), S⟩)
    refine ⟨?_, ?_⟩
    ·
     refine ⟨_, rfl, rfl, by kernel_rfl, ?_⟩
     rintro D ⟨⟩ a z S F
     refine ⟨by kernel_rfl, ?_⟩
     exact op_load _ _ (some ⟨b8, 0, none⟩) 3 (.int .u64 d1) F rfl (by kernel_rfl) (by kernel_rfl) (cBox S 4 rfl (j := 3) rfl) (⟨(), rfl, (SameB.refl _ _ rfl), S⟩)
    refine ⟨?_, ?_⟩
    ·
     refine ⟨_, rfl, rfl, by kernel_rfl, ?_⟩
     rintro D ⟨⟩ a z S F
     refine ⟨by kernel_rfl, ?_⟩
     exact op_pure F (v0 := .bool (decide ((am : Int) > (d1 : Int)))) (v := .bool false) (by kernel_rfl) (gtrF (Int.not_lt.2 hle)) ⟨(), rfl, (SameB.refl _ _ rfl), S⟩
    trivial
   ·
    rintro ⟨⟩ a z F S
    have F := F.sub (l := [(2, .int .i64 (fr : Nat)), (3, .int .i64 (t : Nat)), (4, .int .u64 n), (5, .pointer (some ⟨b1, 0, none⟩)), (11, .int .i64 (i : Nat)), (12, .slice (some ⟨b2, 0, none⟩) x.spots.length x.spots.length), (14, .pointer (some ⟨b6, 0, none⟩)), (15, .pointer (some ⟨b8, 0, none⟩)), (16, .int .i64 1), (24, .slice Ap P.length cp), (25, .int .i64 (P.length : Nat)), (26, .int .i64 (j : Nat)), (76, .bool false)]) ⟨by kernel_rfl, by kernel_rfl, by kernel_rfl, by kernel_rfl, by kernel_rfl, by kernel_rfl, by kernel_rfl, by kernel_rfl, by kernel_rfl, by kernel_rfl, by kernel_rfl, by kernel_rfl, by kernel_rfl, trivial⟩
    have S : Sat w z [rest w (· < w.heap.size), box b1 25 [.slice As x.spots.length cs, .slice Ae x.edges.length ce], row 26 1 (.slice (some ⟨b2, 0, none⟩) x.spots.length x.spots.length) x.spots.length ((moreL x (P.take j)).flatMap iC_u64), box b6 145 [.int .i64 (i : Nat), .int .i64 (u : Nat), .int .u64 am], box b8 104 [.int .i64 (q : Nat), .int .i64 (u : Nat), .int .u64 d0, .int .u64 d1, .int .u64 e0, .int .u64 e1, .int .u64 e2, .int .u64 e3]] := S
    refine then_n ?_
    refine c_f F rfl ?_
    refine wp_skip ?_
    refine then_n ?_
    refine wp_seq ?_
    refine region_gx (fun D => fun (_ : Unit) => [rest w (· < w.heap.size), box b1 25 [.slice As x.spots.length cs, .slice Ae x.edges.length ce], bif D 9 then row 26 1 (.slice (some ⟨b2, 0, none⟩) x.spots.length x.spots.length) x.spots.length (((moreL x (P.take j)).set u (((netP x (u : Nat) (P.take j) % 18446744073709551616) - am) % 18446744073709551616)).flatMap iC_u64) else row 26 1 (.slice (some ⟨b2, 0, none⟩) x.spots.length x.spots.length) x.spots.length ((moreL x (P.take j)).flatMap iC_u64), box b6 145 [.int .i64 (i : Nat), .int .i64 (u : Nat), .int .u64 am], box b8 104 [.int .i64 (q : Nat), .int .i64 (u : Nat), .int .u64 d0, .int .u64 d1, .int .u64 e0, .int .u64 e1, .int .u64 e2, .int .u64 e3]]) (fun (_ : Unit) => [.slice (some ⟨b2, 0, none⟩) x.spots.length x.spots.length, .pointer (some ⟨b6, 1, none⟩), .int .i64 (u : Nat), ptrA (some ⟨b2, 0, none⟩) (u * 1), .int .u64 (netP x (u : Nat) (P.take j) % 18446744073709551616), .pointer (some ⟨b6, 2, none⟩), .int .u64 am, .int .u64 (((netP x (u : Nat) (P.take j) % 18446744073709551616) - am) % 18446744073709551616), ptrA (some ⟨b2, 0, none⟩) (u * 1), undef]) [(2, [], [3, 4, 7, 8, 9]), (3, [2], [4, 7, 8, 9]), (4, [2, 3], [7, 8, 9]), (6, [], [7, 8, 9]), (7, [2, 3, 4, 6], [8, 9]), (8, [2, 3, 4, 6, 7], [9]), (9, [2, 3, 4, 6, 7, 8], [])] () rfl (by kernel_rfl) (by kernel_rfl) F S.drew ?_ ?_ ?_ ?_ ?_
    · rintro ⟨⟩; rfl
    · rintro ⟨⟩; kernel_rfl
    ·
     intro D D' x h
     cases x
     simp only [h 9 (by decide)]
    ·
     refine ⟨?_, ?_⟩
     ·
      refine ⟨_, rfl, rfl, by kernel_rfl, ?_⟩
      rintro D ⟨⟩ a z S F
      refine ⟨by kernel_rfl, ?_⟩
      exact op_load _ _ (some ⟨b6, 0, none⟩) 1 (.int .i64 (u : Nat)) F rfl (by kernel_rfl) (by kernel_rfl) (cBox S 3 rfl (j := 1) rfl) (⟨(), rfl, (SameB.refl _ _ rfl), S⟩)
     refine ⟨?_, ?_⟩
     ·
      refine ⟨_, rfl, rfl, by kernel_rfl, ?_⟩
      rintro D ⟨⟩ a z S F
      refine ⟨by kernel_rfl, ?_⟩
      exact op_index _ 26 _ _ (some ⟨b2, 0, none⟩) x.spots.length x.spots.length u 1 .i64 F rfl (by kernel_rfl) (by kernel_rfl) (by kernel_rfl) (by kernel_rfl) (by have h9 := get_lt (moreL_at (x := x) (L := P.take j) (v := u) (by omega)); (try simp only [List.length_set] at h9); omega) rfl (⟨(), rfl, (SameB.refl _ _ rfl), S⟩)
     refine ⟨?_, ?_⟩
     ·
      refine ⟨_, rfl, rfl, by kernel_rfl, ?_⟩
      rintro D ⟨⟩ a z S F
      refine ⟨by kernel_rfl, ?_⟩
      exact op_load _ _ (some ⟨b2, 0, none⟩) (u * 1) (.int .u64 (netP x (u : Nat) (P.take j) % 18446744073709551616)) F rfl (by kernel_rfl) (by kernel_rfl) (cRec S 2 iC_len_u64 rfl 0 (moreL_at (x := x) (L := P.take j) (v := u) (by omega)) rfl) (⟨(), rfl, (SameB.refl _ _ rfl), S⟩)
     refine ⟨?_, ?_⟩
     ·
      refine ⟨_, rfl, rfl, by kernel_rfl, ?_⟩
      rintro D ⟨⟩ a z S F
      refine ⟨by kernel_rfl, ?_⟩
      exact op_load _ _ (some ⟨b6, 0, none⟩) 2 (.int .u64 am) F rfl (by kernel_rfl) (by kernel_rfl) (cBox S 3 rfl (j := 2) rfl) (⟨(), rfl, (SameB.refl _ _ rfl), S⟩)
     refine ⟨?_, ?_⟩
     ·
      refine ⟨_, rfl, rfl, by kernel_rfl, ?_⟩
      rintro D ⟨⟩ a z S F
      refine ⟨by kernel_rfl, ?_⟩
      exact op_pure F (v0 := .int .u64 (IntKind.wrap .u64 ((netP x (u : Nat) (P.take j) % 18446744073709551616) - am))) (v := .int .u64 (((netP x (u : Nat) (P.take j) % 18446744073709551616) - am) % 18446744073709551616)) (by kernel_rfl) (wrapU _) ⟨(), rfl, (SameB.refl _ _ rfl), S⟩
     refine ⟨?_, ?_⟩
     ·
      refine ⟨_, rfl, rfl, by kernel_rfl, ?_⟩
      rintro D ⟨⟩ a z S F
      refine ⟨by kernel_rfl, ?_⟩
      exact op_index _ 26 _ _ (some ⟨b2, 0, none⟩) x.spots.length x.spots.length u 1 .i64 F rfl (by kernel_rfl) (by kernel_rfl) (by kernel_rfl) (by kernel_rfl) (by have h9 := get_lt (moreL_at (x := x) (L := P.take j) (v := u) (by omega)); (try simp only [List.length_set] at h9); omega) rfl (⟨(), rfl, (SameB.refl _ _ rfl), S⟩)
     refine ⟨?_, ?_⟩
     ·
      refine ⟨_, rfl, rfl, by kernel_rfl, ?_⟩
      rintro D ⟨⟩ a z S F
      refine ⟨by kernel_rfl, ?_⟩
      exact op_storeRec S 2 _ _ _ (some ⟨b2, 0, none⟩) u 1 0 (.int .u64 (((netP x (u : Nat) (P.take j) % 18446744073709551616) - am) % 18446744073709551616)) (((netP x (u : Nat) (P.take j) % 18446744073709551616) - am) % 18446744073709551616) F iC_len_u64 (moreL_at (x := x) (L := P.take j) (v := u) (by omega)) rfl rfl (by kernel_rfl) (by kernel_rfl) (by kernel_rfl) (by kernel_rfl) (by kernel_rfl) (by kernel_rfl) (by kernel_rfl) fun z S => ⟨(), rfl, (SameB.refl _ _ rfl), S⟩
     trivial
    ·
     rintro ⟨⟩ a z F S
     have F := F.sub (l := [(2, .int .i64 (fr : Nat)), (3, .int .i64 (t : Nat)), (4, .int .u64 n), (5, .pointer (some ⟨b1, 0, none⟩)), (11, .int .i64 (i : Nat)), (12, .slice (some ⟨b2, 0, none⟩) x.spots.length x.spots.length), (14, .pointer (some ⟨b6, 0, none⟩)), (15, .pointer (some ⟨b8, 0, none⟩)), (16, .int .i64 1), (24, .slice Ap P.length cp), (25, .int .i64 (P.length : Nat)), (26, .int .i64 (j : Nat))]) ⟨by kernel_rfl, by kernel_rfl, by kernel_rfl, by kernel_rfl, by kernel_rfl, by kernel_rfl, by kernel_rfl, by kernel_rfl, by kernel_rfl, by kernel_rfl, by kernel_rfl, by kernel_rfl, trivial⟩
     have S : Sat w z [rest w (· < w.heap.size), box b1 25 [.slice As x.spots.length cs, .slice Ae x.edges.length ce], row 26 1 (.slice (some ⟨b2, 0, none⟩) x.spots.length x.spots.length) x.spots.length (((moreL x (P.take j)).set u (((netP x (u : Nat) (P.take j) % 18446744073709551616) - am) % 18446744073709551616)).flatMap iC_u64), box b6 145 [.int .i64 (i : Nat), .int .i64 (u : Nat), .int .u64 am], box b8 104 [.int .i64 (q : Nat), .int .i64 (u : Nat), .int .u64 d0, .int .u64 d1, .int .u64 e0, .int .u64 e1, .int .u64 e2, .int .u64 e3]] := S
     refine then_n ?_
     refine region_gx (fun D => fun (_ : Unit) => [rest w (· < w.heap.size), box b1 25 [.slice As x.spots.length cs, .slice Ae x.edges.length ce], bif D 12 then row 26 1 (.slice (some ⟨b2, 0, none⟩) x.spots.length x.spots.length) x.spots.length ((((moreL x (P.take j)).set u (((netP x (u : Nat) (P.take j) % 18446744073709551616) - am) % 18446744073709551616)).set q (((netP x (q : Nat) (P.take j) % 18446744073709551616) + am) % 18446744073709551616)).flatMap iC_u64) else row 26 1 (.slice (some ⟨b2, 0, none⟩) x.spots.length x.spots.length) x.spots.length (((moreL x (P.take j)).set u (((netP x (u : Nat) (P.take j) % 18446744073709551616) - am) % 18446744073709551616)).flatMap iC_u64), box b6 145 [.int .i64 (i : Nat), .int .i64 (u : Nat), .int .u64 am], box b8 104 [.int .i64 (q : Nat), .int .i64 (u : Nat), .int .u64 d0, .int .u64 d1, .int .u64 e0, .int .u64 e1, .int .u64 e2, .int .u64 e3]]) (fun (_ : Unit) => [.slice (some ⟨b2, 0, none⟩) x.spots.length x.spots.length, .int .i64 1, .int .i64 0, .pointer (some ⟨b8, 0, none⟩), .pointer (some ⟨b8, 0, none⟩), .int .i64 (q : Nat), ptrA (some ⟨b2, 0, none⟩) (q * 1), .int .u64 (netP x (q : Nat) (P.take j) % 18446744073709551616), .pointer (some ⟨b6, 2, none⟩), .int .u64 am, .int .u64 (((netP x (q : Nat) (P.take j) % 18446744073709551616) + am) % 18446744073709551616), ptrA (some ⟨b2, 0, none⟩) (q * 1), undef]) [(5, [], [6, 7, 10, 11, 12]), (6, [5], [7, 10, 11, 12]), (7, [5, 6], [10, 11, 12]), (9, [], [10, 11, 12]), (10, [5, 6, 7, 9], [11, 12]), (11, [5, 6, 7, 9, 10], [12]), (12, [5, 6, 7, 9, 10, 11], [])] () rfl (by kernel_rfl) (by kernel_rfl) F S.drew ?_ ?_ ?_ ?_ ?_
     · rintro ⟨⟩; rfl
     · rintro ⟨⟩; kernel_rfl
     ·
      intro D D' x h
      cases x
      simp only [h 12 (by decide)]
     ·
      refine ⟨?_, ?_⟩
      ·
       refine ⟨_, rfl, rfl, by kernel_rfl, ?_⟩
       rintro D ⟨⟩ a z S F
       refine ⟨by kernel_rfl, ?_⟩
       exact op_load _ _ (some ⟨b8, 0, none⟩) 0 (.int .i64 (q : Nat)) F rfl (by kernel_rfl) (by kernel_rfl) (cBox S 4 rfl (j := 0) rfl) (⟨(), rfl, (SameB.refl _ _ rfl), S⟩)
      refine ⟨?_, ?_⟩
      ·
       refine ⟨_, rfl, rfl, by kernel_rfl, ?_⟩
       rintro D ⟨⟩ a z S F
       refine ⟨by kernel_rfl, ?_⟩
       exact op_index _ 26 _ _ (some ⟨b2, 0, none⟩) x.spots.length x.spots.length q 1 .i64 F rfl (by kernel_rfl) (by kernel_rfl) (by kernel_rfl) (by kernel_rfl) (by have h9 := get_lt (set_ne_at (m := u) (y := (((netP x (u : Nat) (P.take j) % 18446744073709551616) - am) % 18446744073709551616)) (moreL_at (x := x) (L := P.take j) (v := q) (by omega)) (by omega)); (try simp only [List.length_set] at h9); omega) rfl (⟨(), rfl, (SameB.refl _ _ rfl), S⟩)
      refine ⟨?_, ?_⟩
      ·
       refine ⟨_, rfl, rfl, by kernel_rfl, ?_⟩
       rintro D ⟨⟩ a z S F
       refine ⟨by kernel_rfl, ?_⟩
       exact op_load _ _ (some ⟨b2, 0, none⟩) (q * 1) (.int .u64 (netP x (q : Nat) (P.take j) % 18446744073709551616)) F rfl (by kernel_rfl) (by kernel_rfl) (cRec S 2 iC_len_u64 rfl 0 (set_ne_at (m := u) (y := (((netP x (u : Nat) (P.take j) % 18446744073709551616) - am) % 18446744073709551616)) (moreL_at (x := x) (L := P.take j) (v := q) (by omega)) (by omega)) rfl) (⟨(), rfl, (SameB.refl _ _ rfl), S⟩)
      refine ⟨?_, ?_⟩
      ·
       refine ⟨_, rfl, rfl, by kernel_rfl, ?_⟩
       rintro D ⟨⟩ a z S F
       refine ⟨by kernel_rfl, ?_⟩
       exact op_load _ _ (some ⟨b6, 0, none⟩) 2 (.int .u64 am) F rfl (by kernel_rfl) (by kernel_rfl) (cBox S 3 rfl (j := 2) rfl) (⟨(), rfl, (SameB.refl _ _ rfl), S⟩)
      refine ⟨?_, ?_⟩
      ·
       refine ⟨_, rfl, rfl, by kernel_rfl, ?_⟩
       rintro D ⟨⟩ a z S F
       refine ⟨by kernel_rfl, ?_⟩
       exact op_pure F (v0 := .int .u64 (IntKind.wrap .u64 ((netP x (q : Nat) (P.take j) % 18446744073709551616) + am))) (v := .int .u64 (((netP x (q : Nat) (P.take j) % 18446744073709551616) + am) % 18446744073709551616)) (by kernel_rfl) (wrapU _) ⟨(), rfl, (SameB.refl _ _ rfl), S⟩
      refine ⟨?_, ?_⟩
      ·
       refine ⟨_, rfl, rfl, by kernel_rfl, ?_⟩
       rintro D ⟨⟩ a z S F
       refine ⟨by kernel_rfl, ?_⟩
       exact op_index _ 26 _ _ (some ⟨b2, 0, none⟩) x.spots.length x.spots.length q 1 .i64 F rfl (by kernel_rfl) (by kernel_rfl) (by kernel_rfl) (by kernel_rfl) (by have h9 := get_lt (set_ne_at (m := u) (y := (((netP x (u : Nat) (P.take j) % 18446744073709551616) - am) % 18446744073709551616)) (moreL_at (x := x) (L := P.take j) (v := q) (by omega)) (by omega)); (try simp only [List.length_set] at h9); omega) rfl (⟨(), rfl, (SameB.refl _ _ rfl), S⟩)
      refine ⟨?_, ?_⟩
      ·
       refine ⟨_, rfl, rfl, by kernel_rfl, ?_⟩
       rintro D ⟨⟩ a z S F
       refine ⟨by kernel_rfl, ?_⟩
       exact op_storeRec S 2 _ _ _ (some ⟨b2, 0, none⟩) q 1 0 (.int .u64 (((netP x (q : Nat) (P.take j) % 18446744073709551616) + am) % 18446744073709551616)) (((netP x (q : Nat) (P.take j) % 18446744073709551616) + am) % 18446744073709551616) F iC_len_u64 (set_ne_at (m := u) (y := (((netP x (u : Nat) (P.take j) % 18446744073709551616) - am) % 18446744073709551616)) (moreL_at (x := x) (L := P.take j) (v := q) (by omega)) (by omega)) rfl rfl (by kernel_rfl) (by kernel_rfl) (by kernel_rfl) (by kernel_rfl) (by kernel_rfl) (by kernel_rfl) (by kernel_rfl) fun z S => ⟨(), rfl, (SameB.refl _ _ rfl), S⟩
      trivial
     ·
      rintro ⟨⟩ a z F S
      have F := F.sub (l := [(2, .int .i64 (fr : Nat)), (3, .int .i64 (t : Nat)), (4, .int .u64 n), (5, .pointer (some ⟨b1, 0, none⟩)), (11, .int .i64 (i : Nat)), (12, .slice (some ⟨b2, 0, none⟩) x.spots.length x.spots.length), (24, .slice Ap P.length cp), (25, .int .i64 (P.length : Nat)), (26, .int .i64 (j : Nat))]) ⟨by kernel_rfl, by kernel_rfl, by kernel_rfl, by kernel_rfl, by kernel_rfl, by kernel_rfl, by kernel_rfl, by kernel_rfl, by kernel_rfl, trivial⟩
      have S : Sat w z [rest w (· < w.heap.size), box b1 25 [.slice As x.spots.length cs, .slice Ae x.edges.length ce], row 26 1 (.slice (some ⟨b2, 0, none⟩) x.spots.length x.spots.length) x.spots.length ((((moreL x (P.take j)).set u (((netP x (u : Nat) (P.take j) % 18446744073709551616) - am) % 18446744073709551616)).set q (((netP x (q : Nat) (P.take j) % 18446744073709551616) + am) % 18446744073709551616)).flatMap iC_u64), box b6 145 [.int .i64 (i : Nat), .int .i64 (u : Nat), .int .u64 am], box b8 104 [.int .i64 (q : Nat), .int .i64 (u : Nat), .int .u64 d0, .int .u64 d1, .int .u64 e0, .int .u64 e1, .int .u64 e2, .int .u64 e3]] := S
      refine inb_n ?_
      refine then_n ?_
      refine wp_region_list ?_
      refine l_do F rfl rfl (op_pure F (v0 := .int .i64 (IntKind.wrap .i64 ((j : Nat) + 1))) (v := .int .i64 (j + 1 : Nat)) (by kernel_rfl) (wrn_i64 (by omega) (by omega) (by omega)) fun a F => ?_)
      refine l_pure 1 (fun L => (26, .int .i64 (j + 1 : Nat)) :: L) F (by kernel_rfl) fun a F => ?_
      refine l_then ?_
      have hsn : (((moreL x (P.take j)).set u (((netP x (u : Nat) (P.take j) % 18446744073709551616) - am) % 18446744073709551616)).set q (((netP x (q : Nat) (P.take j) % 18446744073709551616) + am) % 18446744073709551616)) = moreL x (P.take (j + 1)) := by rw [List.take_add_one, hp]; exact moreL_snoc rfl hds huq hul hql
      rw [hsn] at S
      exact ⟨_, (by omega), j + 1, (i : Nat), rfl, (by omega), (fun q9 p9 hq9 hp9 => sorted_at hsort hp hp9 (by omega)), F.sub ⟨by kernel_rfl, by kernel_rfl, by kernel_rfl, by kernel_rfl, by kernel_rfl, by kernel_rfl, by kernel_rfl, by kernel_rfl, by kernel_rfl, trivial⟩, (S.pick [0, 1, 2] (by decide))⟩
 ·
  skip
  have hj : j = P.length := by omega
  rw [hj, List.take_length] at S
  refine l_do F rfl rfl (op_pure F (v0 := .bool (decide (((j : Nat) : Int) < ((P.length : Nat) : Int)))) (v := .bool false) (by kernel_rfl) (lssF ht5) fun a F => ?_)
  refine l_then ?_
  refine wp_seq ?_
  refine c_f F rfl ?_
  refine wp_exit ?_
  refine then_x ?_
  refine then_x ?_
  refine inb_x ?_
  refine then_n ?_
  refine wp_seq ?_
  refine s_reg ?_
  refine l_pure 3 (fun L => (101, .int .i64 0) :: (100, .int .i64 (x.spots.length : Nat)) :: (99, .slice (some ⟨b2, 0, none⟩) x.spots.length x.spots.length) :: L) F (by kernel_rfl) fun a F => ?_
  refine l_then ?_
  refine wp_block ?_
  refine wp_loop_m (fun m a z => ∃ (k : Nat), m = x.spots.length - k ∧ (k ≤ x.spots.length) ∧ Fr a 119 [(2, .int .i64 (fr : Nat)), (3, .int .i64 (t : Nat)), (4, .int .u64 n), (99, .slice (some ⟨b2, 0, none⟩) x.spots.length x.spots.length), (100, .int .i64 (x.spots.length : Nat)), (101, .int .i64 (k : Nat))] ∧ Sat w z [rest w (· < w.heap.size), box b1 25 [.slice As x.spots.length cs, .slice Ae x.edges.length ce], row 26 1 (.slice (some ⟨b2, 0, none⟩) x.spots.length x.spots.length) x.spots.length ((moreL x P).flatMap iC_u64)]) _ ⟨0, rfl, Nat.zero_le _, F.sub ⟨by kernel_rfl, by kernel_rfl, by kernel_rfl, by kernel_rfl, by kernel_rfl, by kernel_rfl, trivial⟩, S⟩ ?_
  rintro m a z ⟨k, hm, hf9, F, S⟩
  refine s_reg ?_
  by_cases ht10 : ((k : Nat) : Int) < ((x.spots.length : Nat) : Int)
  ·
   skip
   have hnk := hnet (k : Nat)
   refine l_do F rfl rfl (op_pure F (v0 := .bool (decide (((k : Nat) : Int) < ((x.spots.length : Nat) : Int)))) (v := .bool true) (by kernel_rfl) (lssT ht10) fun a F => ?_)
   refine l_then ?_
   refine wp_seq ?_
   refine c_t F rfl ?_
   refine wp_skip ?_
   refine then_n ?_
   refine wp_seq ?_
   refine wp_block ?_
   refine s_reg ?_
   refine l_pure 1 (fun L => (103, .int .i64 (k : Nat)) :: L) F (by kernel_rfl) fun a F => ?_
   refine l_do F rfl rfl (op_index _ 26 _ _ (some ⟨b2, 0, none⟩) x.spots.length x.spots.length k 1 .i64 F rfl (by kernel_rfl) (by kernel_rfl) (by kernel_rfl) (by kernel_rfl) (by omega) rfl (fun a F => ?_))
   refine l_do F rfl rfl (op_load _ _ (some ⟨b2, 0, none⟩) (k * 1) (.int .u64 (netP x (k : Nat) P % 18446744073709551616)) F rfl (by kernel_rfl) (by kernel_rfl) (cRec S 2 iC_len_u64 rfl 0 (moreL_at (x := x) (L := P) (v := k) (by omega)) rfl) (fun a F => ?_))
   refine l_pure 2 (fun L => (18, .int .u64 (netP x (k : Nat) P % 18446744073709551616)) :: (17, .int .i64 (k : Nat)) :: L) F (by kernel_rfl) fun a F => ?_
   refine l_then ?_
   refine s_reg ?_
   refine l_pure 1 (fun L => (19, .int .u64 0) :: L) F (by kernel_rfl) fun a F => ?_
   refine l_then ?_
   refine wp_seq ?_
   refine s_reg ?_
   refine l_pure 2 (fun L => (107, .int .i64 (fr : Nat)) :: (106, .int .i64 (k : Nat)) :: L) F (by kernel_rfl) fun a F => ?_
   by_cases ht11 : ((k : Nat) : Int) = ((fr : Nat) : Int)
   ·
    skip
    refine l_do F rfl rfl (op_pure F (v0 := .bool (((k : Nat) : Int) == ((fr : Nat) : Int))) (v := .bool true) (by kernel_rfl) (eqlT ht11) fun a F => ?_)
    refine l_then ?_
    refine c_t F rfl ?_
    refine wp_region_list ?_
    refine l_pure 1 (fun L => (109, .int .u64 n) :: L) F (by kernel_rfl) fun a F => ?_
    refine l_do F rfl rfl (op_pure F (v0 := .int .u64 (IntKind.wrap .u64 (0 - n))) (v := .int .u64 ((0 - n) % 18446744073709551616)) (by kernel_rfl) (wrapU _) fun a F => ?_)
    refine l_pure 1 (fun L => (19, .int .u64 ((0 - n) % 18446744073709551616)) :: L) F (by kernel_rfl) fun a F => ?_
    refine l_then ?_
    refine wp_seq ?_
    refine s_reg ?_
    refine l_pure 2 (fun L => (112, .int .i64 (t : Nat)) :: (111, .int .i64 (k : Nat)) :: L) F (by kernel_rfl) fun a F => ?_
    refine l_do F rfl rfl (op_pure F (v0 := .bool (((k : Nat) : Int) == ((t : Nat) : Int))) (v := .bool false) (by kernel_rfl) (eqlF (by omega)) fun a F => ?_)
    refine l_then ?_
    refine c_f F rfl ?_
    refine wp_skip ?_
    refine then_n ?_
    refine s_reg ?_
    refine l_pure 2 (fun L => (116, .int .u64 ((0 - n) % 18446744073709551616)) :: (115, .int .u64 (netP x (k : Nat) P % 18446744073709551616)) :: L) F (by kernel_rfl) fun a F => ?_
    refine l_do F rfl rfl (op_pure F (v0 := .bool (((netP x (k : Nat) P % 18446744073709551616) : Int) != ((0 - n) % 18446744073709551616 : Int))) (v := .bool false) (by kernel_rfl) (neqF (by rw [hnk]; (repeat' split) <;> omega)) fun a F => ?_)
    refine l_then ?_
    refine c_f F rfl ?_
    refine wp_skip ?_
    refine inb_n ?_
    refine then_n ?_
    refine wp_region_list ?_
    refine l_do F rfl rfl (op_pure F (v0 := .int .i64 (IntKind.wrap .i64 ((k : Nat) + 1))) (v := .int .i64 (k + 1 : Nat)) (by kernel_rfl) (wrn_i64 (by omega) (by omega) (by omega)) fun a F => ?_)
    refine l_pure 1 (fun L => (101, .int .i64 (k + 1 : Nat)) :: L) F (by kernel_rfl) fun a F => ?_
    refine l_then ?_
    exact ⟨_, (by omega), k + 1, rfl, (by omega), F.sub ⟨by kernel_rfl, by kernel_rfl, by kernel_rfl, by kernel_rfl, by kernel_rfl, by kernel_rfl, trivial⟩, S⟩
   ·
    skip
    refine l_do F rfl rfl (op_pure F (v0 := .bool (((k : Nat) : Int) == ((fr : Nat) : Int))) (v := .bool false) (by kernel_rfl) (eqlF ht11) fun a F => ?_)
    refine l_then ?_
    refine c_f F rfl ?_
    refine wp_skip ?_
    refine then_n ?_
    refine wp_seq ?_
    refine s_reg ?_
    refine l_pure 2 (fun L => (112, .int .i64 (t : Nat)) :: (111, .int .i64 (k : Nat)) :: L) F (by kernel_rfl) fun a F => ?_
    by_cases ht12 : ((k : Nat) : Int) = ((t : Nat) : Int)
    ·
     skip
     refine l_do F rfl rfl (op_pure F (v0 := .bool (((k : Nat) : Int) == ((t : Nat) : Int))) (v := .bool true) (by kernel_rfl) (eqlT ht12) fun a F => ?_)
     refine l_then ?_
     refine c_t F rfl ?_
     refine wp_region_list ?_
     refine l_pure 2 (fun L => (19, .int .u64 n) :: (114, .int .u64 n) :: L) F (by kernel_rfl) fun a F => ?_
     refine l_then ?_
     refine s_reg ?_
     refine l_pure 2 (fun L => (116, .int .u64 n) :: (115, .int .u64 (netP x (k : Nat) P % 18446744073709551616)) :: L) F (by kernel_rfl) fun a F => ?_
     refine l_do F rfl rfl (op_pure F (v0 := .bool (((netP x (k : Nat) P % 18446744073709551616) : Int) != (n : Int))) (v := .bool false) (by kernel_rfl) (neqF (by rw [hnk]; (repeat' split) <;> omega)) fun a F => ?_)
     refine l_then ?_
     refine c_f F rfl ?_
     refine wp_skip ?_
     refine inb_n ?_
     refine then_n ?_
     refine wp_region_list ?_
     refine l_do F rfl rfl (op_pure F (v0 := .int .i64 (IntKind.wrap .i64 ((k : Nat) + 1))) (v := .int .i64 (k + 1 : Nat)) (by kernel_rfl) (wrn_i64 (by omega) (by omega) (by omega)) fun a F => ?_)
     refine l_pure 1 (fun L => (101, .int .i64 (k + 1 : Nat)) :: L) F (by kernel_rfl) fun a F => ?_
     refine l_then ?_
     exact ⟨_, (by omega), k + 1, rfl, (by omega), F.sub ⟨by kernel_rfl, by kernel_rfl, by kernel_rfl, by kernel_rfl, by kernel_rfl, by kernel_rfl, trivial⟩, S⟩
    ·
     skip
     refine l_do F rfl rfl (op_pure F (v0 := .bool (((k : Nat) : Int) == ((t : Nat) : Int))) (v := .bool false) (by kernel_rfl) (eqlF ht12) fun a F => ?_)
     refine l_then ?_
     refine c_f F rfl ?_
     refine wp_skip ?_
     refine then_n ?_
     refine s_reg ?_
     refine l_pure 2 (fun L => (116, .int .u64 0) :: (115, .int .u64 (netP x (k : Nat) P % 18446744073709551616)) :: L) F (by kernel_rfl) fun a F => ?_
     refine l_do F rfl rfl (op_pure F (v0 := .bool (((netP x (k : Nat) P % 18446744073709551616) : Int) != (0 : Int))) (v := .bool false) (by kernel_rfl) (neqF (by rw [hnk]; (repeat' split) <;> omega)) fun a F => ?_)
     refine l_then ?_
     refine c_f F rfl ?_
     refine wp_skip ?_
     refine inb_n ?_
     refine then_n ?_
     refine wp_region_list ?_
     refine l_do F rfl rfl (op_pure F (v0 := .int .i64 (IntKind.wrap .i64 ((k : Nat) + 1))) (v := .int .i64 (k + 1 : Nat)) (by kernel_rfl) (wrn_i64 (by omega) (by omega) (by omega)) fun a F => ?_)
     refine l_pure 1 (fun L => (101, .int .i64 (k + 1 : Nat)) :: L) F (by kernel_rfl) fun a F => ?_
     refine l_then ?_
     exact ⟨_, (by omega), k + 1, rfl, (by omega), F.sub ⟨by kernel_rfl, by kernel_rfl, by kernel_rfl, by kernel_rfl, by kernel_rfl, by kernel_rfl, trivial⟩, S⟩
  ·
   skip
   refine l_do F rfl rfl (op_pure F (v0 := .bool (decide (((k : Nat) : Int) < ((x.spots.length : Nat) : Int)))) (v := .bool false) (by kernel_rfl) (lssF ht10) fun a F => ?_)
   refine l_then ?_
   refine wp_seq ?_
   refine c_f F rfl ?_
   refine wp_exit ?_
   refine then_x ?_
   refine then_x ?_
   refine inb_x ?_
   refine then_n ?_
   refine s_reg ?_
   refine l_pure 1 (fun L => (10, .bool true) :: L) F (by kernel_rfl) fun a F => ?_
   refine l_then ?_
   refine wp_ret ?_
   exact fin F [.tmp 10] [.bool true] rfl ⟨by kernel_rfl, trivial⟩ (.bool true) rfl ⟨rfl, S.below (i := 0) rfl⟩
end Go.Proofs.Ytcfpbemoocegfaa
