/- Walks over routes: the way that always goes nearer. -/
import Derived.Test.YtcfpbemoocegfaaBest
import Derived.Test.YtcfpbemoocegfaaGreedyP
import Derived.Test.YtcfpbemoocegfaaNear07
import Derived.Test.YtcfpbemoocegfaaGf
namespace Go.Proofs.Ytcfpbemoocegfaa
set_option linter.unusedVariables false
set_option linter.unusedSimpArgs false
set_option linter.unnecessarySimpa false
open Go Go.RowKit

theorem ix_eq {L : List Stp} {p : Stp → Bool} {i : Nat} {s : Stp} (hs : L[i]? = some s) (hp : p s = true) (h : ∀ (q : Nat) (t : Stp), q < i → L[q]? = some t → p t = false) : L.findIdx p = i := by
  obtain ⟨hi, he⟩ := List.getElem?_eq_some_iff.1 hs
  rw [List.findIdx_eq hi]
  refine ⟨by rw [he]; exact hp, fun j hj => ?_⟩
  exact h j _ hj (List.getElem?_eq_getElem (by omega))
theorem ix_none {L : List Stp} {p : Stp → Bool} (h : ∀ (q : Nat) (t : Stp), L[q]? = some t → p t = false) : ¬ L.findIdx p < L.length := fun hlt => by
  have h1 := List.findIdx_getElem (p := p) (w := hlt)
  rw [h _ _ (List.getElem?_eq_getElem hlt)] at h1
  cases h1
set_option maxRecDepth 100000 in
set_option maxHeartbeats 4000000 in
theorem isto_any (w : World) (G : Nat → Prop) (bn ba : Nat) (nx am : Int) (sq : Stp) (hS : Sat w w [box bn 3 [.int .i64 nx], box ba 26 [.int .u64 am], rest w G]) : Calls Try.prog 71 #[.agg #[.int .i64 sq.edge, .int .i64 sq.to, .int .u64 sq.can, .int .u64 sq.base, .int .u64 sq.rate], .pointer (some ⟨bn, 0, none⟩), .pointer (some ⟨ba, 0, none⟩)] w fun e w' => e = .returned (.bool (isTo nx am sq)) ∧ Sat w w' [box bn 3 [.int .i64 nx], box ba 26 [.int .u64 am], rest w G] := by
  refine enter 15 Try.func71 rfl rfl rfl fun a F => ?_
  have S : Sat w w [rest w G, box bn 3 [.int .i64 nx], box ba 26 [.int .u64 am]] := hS.pick [2, 0, 1] (by decide)
  refine s_reg ?_
  refine l_do F rfl rfl (op_box S _ _ (.agg #[.int .i64 sq.edge, .int .i64 sq.to, .int .u64 sq.can, .int .u64 sq.base, .int .u64 sq.rate]) F rfl (by kernel_rfl) fun b1 z S a F => ?_)
  refine l_pure 1 (fun L => (4, .bool false) :: L) F (by kernel_rfl) fun a F => ?_
  refine l_then ?_
  refine s_reg ?_
  refine l_pure 1 (fun L => (5, .pointer (some ⟨b1, 1, none⟩)) :: L) F (by kernel_rfl) fun a F => ?_
  refine l_do F rfl rfl (op_load _ _ (some ⟨b1, 0, none⟩) 1 (.int .i64 sq.to) F rfl (by kernel_rfl) (by kernel_rfl) (cBox S 3 rfl (j := 1) rfl) (fun a F => ?_))
  refine l_do F rfl rfl (op_load _ _ (some ⟨bn, 0, none⟩) 0 (.int .i64 nx) F rfl (by kernel_rfl) (by kernel_rfl) (cBox S 1 rfl (j := 0) rfl) (fun a F => ?_))
  by_cases ht2 : (sq.to : Int) = (nx : Int)
  · skip
    refine l_do F rfl rfl (op_pure F (v0 := .bool ((sq.to : Int) == (nx : Int))) (v := .bool true) (by kernel_rfl) (eqlT ht2) fun a F => ?_)
    refine l_pure 2 (fun L => (10, .pointer (some ⟨b1, 2, none⟩)) :: (9, .bool true) :: L) F (by kernel_rfl) fun a F => ?_
    refine l_do F rfl rfl (op_load _ _ (some ⟨b1, 0, none⟩) 2 (.int .u64 sq.can) F rfl (by kernel_rfl) (by kernel_rfl) (cBox S 3 rfl (j := 2) rfl) (fun a F => ?_))
    refine l_do F rfl rfl (op_load _ _ (some ⟨ba, 0, none⟩) 0 (.int .u64 am) F rfl (by kernel_rfl) (by kernel_rfl) (cBox S 2 rfl (j := 0) rfl) (fun a F => ?_))
    by_cases ht3 : (am : Int) ≤ (sq.can : Int)
    · skip
      refine l_do F rfl rfl (op_pure F (v0 := .bool (decide ((sq.can : Int) ≥ (am : Int)))) (v := .bool true) (by kernel_rfl) (geqT ht3) fun a F => ?_)
      refine l_pure 2 (fun L => (4, .bool true) :: (14, .bool true) :: L) F (by kernel_rfl) fun a F => ?_
      refine l_then ?_
      refine wp_ret ?_
      exact fin F [.tmp 4] [.bool true] rfl ⟨by kernel_rfl, trivial⟩ (.bool true) rfl ⟨by unfold isTo; rw [decide_eq_true (by omega)], S.pick [1, 2, 0] (by decide)⟩
    · skip
      refine l_do F rfl rfl (op_pure F (v0 := .bool (decide ((sq.can : Int) ≥ (am : Int)))) (v := .bool false) (by kernel_rfl) (geqF ht3) fun a F => ?_)
      refine l_pure 2 (fun L => (4, .bool false) :: (14, .bool false) :: L) F (by kernel_rfl) fun a F => ?_
      refine l_then ?_
      refine wp_ret ?_
      exact fin F [.tmp 4] [.bool false] rfl ⟨by kernel_rfl, trivial⟩ (.bool false) rfl ⟨by unfold isTo; rw [decide_eq_false (by omega)], S.pick [1, 2, 0] (by decide)⟩
  · skip
    refine l_do F rfl rfl (op_pure F (v0 := .bool ((sq.to : Int) == (nx : Int))) (v := .bool false) (by kernel_rfl) (eqlF ht2) fun a F => ?_)
    refine l_pure 7 (fun L => (4, .bool false) :: (14, .bool false) :: (13, undef) :: (12, undef) :: (11, undef) :: (10, undef) :: (9, .bool false) :: L) F (by kernel_rfl) fun a F => ?_
    refine l_then ?_
    refine wp_ret ?_
    exact fin F [.tmp 4] [.bool false] rfl ⟨by kernel_rfl, trivial⟩ (.bool false) rfl ⟨by unfold isTo; rw [decide_eq_false (by omega)], S.pick [1, 2, 0] (by decide)⟩
set_option maxRecDepth 100000 in
set_option maxHeartbeats 4000000 in
theorem indexf_any (w : World) (G : Nat → Prop) (bn ba : Nat) (nx am : Int) (A : Option Addr) (c : Nat) (X : List Stp) (hX : Recs 5 stC w A c X) (gX : InG G A (X.flatMap stC)) (hl : X.length ≤ 1000) (hex : X.findIdx (isTo nx am) < X.length) (hS : Sat w w [box bn 3 [.int .i64 nx], box ba 26 [.int .u64 am], rest w G]) : Calls Try.prog 69 #[.slice A X.length c, .func (.func 71) #[] #[.pointer (some ⟨bn, 0, none⟩), .pointer (some ⟨ba, 0, none⟩)]] w fun e w' => e = .returned (.int .i64 (X.findIdx (isTo nx am) : Nat)) ∧ Sat w w' [box bn 3 [.int .i64 nx], box ba 26 [.int .u64 am], rest w G] := by
  refine enter 19 Try.func69 rfl rfl rfl fun a F => ?_
  have S : Sat w w [rest w G, box bn 3 [.int .i64 nx], box ba 26 [.int .u64 am]] := hS.pick [2, 0, 1] (by decide)
  refine s_reg ?_
  refine l_pure 1 (fun L => (4, .int .i64 0) :: L) F (by kernel_rfl) fun a F => ?_
  refine l_then ?_
  refine wp_seq ?_
  refine s_reg ?_
  refine l_pure 3 (fun L => (8, .int .i64 0) :: (7, .int .i64 (X.length : Nat)) :: (6, .slice A X.length c) :: L) F (by kernel_rfl) fun a F => ?_
  refine l_then ?_
  refine wp_block ?_
  refine wp_loop_m (fun m a z => ∃ (i : Nat), m = X.length - i ∧ (i ≤ X.length) ∧ (∀ (q : Nat) (t : Stp), q < i → X[q]? = some t → isTo nx am t = false) ∧ Fr a 19 [(0, .slice A X.length c), (1, .func (.func 71) #[] #[.pointer (some ⟨bn, 0, none⟩), .pointer (some ⟨ba, 0, none⟩)]), (7, .int .i64 (X.length : Nat)), (8, .int .i64 (i : Nat))] ∧ Sat w z [rest w G, box bn 3 [.int .i64 nx], box ba 26 [.int .u64 am]]) _ ⟨0, rfl, Nat.zero_le _, (fun q t hq => absurd hq (Nat.not_lt_zero q)), F.sub ⟨by kernel_rfl, by kernel_rfl, by kernel_rfl, by kernel_rfl, trivial⟩, S⟩ ?_
  rintro m a z ⟨i, hm, hf1, hf2, F, S⟩
  have hall := hf2
  refine s_reg ?_
  by_cases ht3 : ((i : Nat) : Int) < ((X.length : Nat) : Int)
  · skip
    obtain ⟨s0, hs⟩ : ∃ s0, X[i]? = some s0 := ⟨_, List.getElem?_eq_getElem (by omega)⟩
    refine l_do F rfl rfl (op_pure F (v0 := .bool (decide (((i : Nat) : Int) < ((X.length : Nat) : Int)))) (v := .bool true) (by kernel_rfl) (lssT ht3) fun a F => ?_)
    refine l_then ?_
    refine wp_seq ?_
    refine c_t F rfl ?_
    refine wp_skip ?_
    refine then_n ?_
    refine wp_seq ?_
    refine wp_block ?_
    refine s_reg ?_
    refine l_pure 2 (fun L => (5, .int .i64 (i : Nat)) :: (10, .int .i64 (i : Nat)) :: L) F (by kernel_rfl) fun a F => ?_
    refine l_then ?_
    refine s_reg ?_
    refine l_pure 3 (fun L => (13, .int .i64 (i : Nat)) :: (12, .slice A X.length c) :: (11, .func (.func 71) #[] #[.pointer (some ⟨bn, 0, none⟩), .pointer (some ⟨ba, 0, none⟩)]) :: L) F (by kernel_rfl) fun a F => ?_
    refine l_do F rfl rfl (op_index _ 133 _ _ A X.length c i 5 .i64 F rfl (by kernel_rfl) (by kernel_rfl) (by kernel_rfl) (by kernel_rfl) (get_lt hs) (recs_some hX (m := i) (get_lt hs)) (fun a F => ?_))
    refine l_do F rfl rfl (op_loadK _ _ A (i * 5) [.int .i64 s0.edge, .int .i64 s0.to, .int .u64 s0.can, .int .u64 s0.base, .int .u64 s0.rate] F rfl (by kernel_rfl) (by kernel_rfl) (by kernel_rfl) (by simp) (cReadK0 stC_len (hX.mono (src_rest S (i := 0) rfl hX.src gX)) hs (by kernel_rfl)) (fun a F => ?_))
    cases hb4 : (isTo nx am s0) with
    | false =>
      obtain ⟨G9, g9, hin9, hlt9, k9⟩ := S.frameB [1, 2] (by decide) rfl
      refine l_do F rfl rfl (op_fn F (by kernel_rfl) (isto_any _ G9 bn ba nx am s0 g9) ?_)
      rintro e z9 ⟨rfl, g⟩
      have S : Sat w z9 [rest w G, box bn 3 [.int .i64 nx], box ba 26 [.int .u64 am]] := k9 z9 [box bn 3 [.int .i64 nx], box ba 26 [.int .u64 am]] rfl g
      clear g g9 k9 hin9 hlt9
      refine ⟨_, rfl, ?_⟩
      rw [hb4]
      intro a F
      refine l_then ?_
      refine c_f F rfl ?_
      refine wp_skip ?_
      refine inb_n ?_
      refine then_n ?_
      refine wp_region_list ?_
      refine l_do F rfl rfl (op_pure F (v0 := .int .i64 (IntKind.wrap .i64 ((i : Nat) + 1))) (v := .int .i64 (i + 1 : Nat)) (by kernel_rfl) (wrn_i64 (by omega) (by omega) (by omega)) fun a F => ?_)
      refine l_pure 1 (fun L => (8, .int .i64 (i + 1 : Nat)) :: L) F (by kernel_rfl) fun a F => ?_
      refine l_then ?_
      exact ⟨_, (by omega), i + 1, rfl, (by omega), (fun q t hq ht => by
        by_cases hqi : q = i
        · subst hqi; rw [hs] at ht; cases ht; exact hb4
        · exact hall q t (by omega) ht), F.sub ⟨by kernel_rfl, by kernel_rfl, by kernel_rfl, by kernel_rfl, trivial⟩, S⟩
    | true =>
      obtain ⟨G9, g9, hin9, hlt9, k9⟩ := S.frameB [1, 2] (by decide) rfl
      refine l_do F rfl rfl (op_fn F (by kernel_rfl) (isto_any _ G9 bn ba nx am s0 g9) ?_)
      rintro e z9 ⟨rfl, g⟩
      have S : Sat w z9 [rest w G, box bn 3 [.int .i64 nx], box ba 26 [.int .u64 am]] := k9 z9 [box bn 3 [.int .i64 nx], box ba 26 [.int .u64 am]] rfl g
      clear g g9 k9 hin9 hlt9
      refine ⟨_, rfl, ?_⟩
      rw [hb4]
      intro a F
      refine l_then ?_
      refine c_t F rfl ?_
      refine s_reg ?_
      refine l_pure 2 (fun L => (4, .int .i64 (i : Nat)) :: (17, .int .i64 (i : Nat)) :: L) F (by kernel_rfl) fun a F => ?_
      refine l_then ?_
      refine wp_ret ?_
      refine inb_r (then_r (then_r (inb_r (then_r (?_)))))
      exact fin F [.tmp 4] [.int .i64 (i : Nat)] rfl ⟨by kernel_rfl, trivial⟩ (.int .i64 (i : Nat)) rfl ⟨by rw [ix_eq hs hb4 hall], S.pick [1, 2, 0] (by decide)⟩
  · skip
    refine l_do F rfl rfl (op_pure F (v0 := .bool (decide (((i : Nat) : Int) < ((X.length : Nat) : Int)))) (v := .bool false) (by kernel_rfl) (lssF ht3) fun a F => ?_)
    refine l_then ?_
    refine wp_seq ?_
    refine c_f F rfl ?_
    refine wp_exit ?_
    refine then_x ?_
    refine then_x ?_
    refine inb_x ?_
    refine then_n ?_
    refine s_reg ?_
    refine l_pure 1 (fun L => (4, .int .i64 (-1)) :: L) F (by kernel_rfl) fun a F => ?_
    refine l_then ?_
    refine wp_ret ?_
    exact fin F [.tmp 4] [.int .i64 (-1)] rfl ⟨by kernel_rfl, trivial⟩ (.int .i64 (-1)) rfl (absurd hex (ix_none fun q t ht => hall q t (by have := get_lt ht; omega) ht))
theorem near_at {x : Wb} {n am nv : Int} {t : Int × Int} (hnv : nearP x n t am = nv) (w : World) (As : Option Addr) (cs : Nat) (Ae : Option Addr) (ce : Nat) (h : WebAt w As cs Ae ce x) (ok : x.Ok) : Calls Try.prog 67 #[.agg #[.slice As x.spots.length cs, .slice Ae x.edges.length ce], .int .i64 n, .agg #[.int .i64 t.1, .int .i64 t.2], .int .u64 am] w fun e w' => e = .returned (.int .i64 nv) ∧ Below w.heap.size w w' := hnv ▸ neighbour_any w As cs Ae ce x h ok n t am
theorem indexf_at {X : List Stp} {nx am : Int} {iv : Nat} (hiv : X.findIdx (isTo nx am) = iv) (w : World) (G : Nat → Prop) (bn ba : Nat) (A : Option Addr) (c : Nat) (hX : Recs 5 stC w A c X) (gX : InG G A (X.flatMap stC)) (hl : X.length ≤ 1000) (hex : X.findIdx (isTo nx am) < X.length) (hS : Sat w w [box bn 3 [.int .i64 nx], box ba 26 [.int .u64 am], rest w G]) : Calls Try.prog 69 #[.slice A X.length c, .func (.func 71) #[] #[.pointer (some ⟨bn, 0, none⟩), .pointer (some ⟨ba, 0, none⟩)]] w fun e w' => e = .returned (.int .i64 (iv : Nat)) ∧ Sat w w' [box bn 3 [.int .i64 nx], box ba 26 [.int .u64 am], rest w G] := hiv ▸ indexf_any w G bn ba nx am A c X hX gX hl hex hS
set_option maxRecDepth 100000 in
set_option maxHeartbeats 4000000 in
theorem pgreedy_any (w : World) (As : Option Addr) (cs : Nat) (Ae : Option Addr) (ce : Nat) (x : Wb) (h : WebAt w As cs Ae ce x) (ok : x.Ok) (from_ to am : Int) (hua : U64 am) (hs1 : x.spots.length ≤ 1000) : Calls Try.prog 32 #[.agg #[.slice As x.spots.length cs, .slice Ae x.edges.length ce], .int .i64 from_, .int .i64 to, .int .u64 am] w fun e w' => ∃ m : RtM, e = .returned (.tuple #[.agg #[.slice m.A1 m.r.nodes.length m.c1, .slice m.A2 m.r.edges.length m.c2, .slice m.A3 m.r.amts.length m.c3], .int .i64 (greedyP x from_ to am).2]) ∧ m.r = (greedyP x from_ to am).1 ∧ Sat w w' [rest w (· < w.heap.size), bag ([m].flatMap rtRows)] := by
  refine enter 102 Try.func32 rfl rfl rfl fun a F => ?_
  have S := Sat.pushRest w
  refine s_reg ?_
  refine l_do F rfl rfl (op_box S _ _ (.agg #[.slice As x.spots.length cs, .slice Ae x.edges.length ce]) F rfl (by kernel_rfl) fun b1 z S a F => ?_)
  refine l_do F rfl rfl (op_box S _ _ (.int .u64 am) F rfl (by kernel_rfl) fun b2 z S a F => ?_)
  refine l_do F rfl rfl (op_alloc S _ (.agg #[.slice none 0 0, .slice none 0 0, .slice none 0 0]) rfl (by kernel_rfl) fun b3 z S a F => ?_)
  refine l_pure 1 (fun L => (9, .int .i64 0) :: L) F (by kernel_rfl) fun a F => ?_
  refine l_then ?_
  refine wp_seq ?_
  refine s_reg ?_
  refine l_do F rfl rfl (op_loadK _ _ (some ⟨b1, 0, none⟩) 0 [.slice As x.spots.length cs, .slice Ae x.edges.length ce] F rfl (by kernel_rfl) (by kernel_rfl) (by kernel_rfl) (by simp) (cBoxK S 1 rfl 0 (by kernel_rfl)) (fun a F => ?_))
  refine l_pure 2 (fun L => (21, .int .i64 to) :: (20, .int .i64 from_) :: L) F (by kernel_rfl) fun a F => ?_
  refine l_do F rfl rfl (op_load _ _ (some ⟨b2, 0, none⟩) 0 (.int .u64 am) F rfl (by kernel_rfl) (by kernel_rfl) (cBox S 2 rfl (j := 0) rfl) (fun a F => ?_))
  refine l_do F rfl rfl (op_fn F (by kernel_rfl) (right_any _ As cs Ae ce x (h.move S rfl) ok from_ to am hs1) ?_)
  rintro e z ⟨rfl, hb⟩
  have S := S.grow hb
  refine ⟨_, rfl, ?_⟩
  intro a F
  refine l_pure 1 (fun L => (10, .int .i64 (rightP x from_ to am)) :: L) F (by kernel_rfl) fun a F => ?_
  refine l_then ?_
  refine s_reg ?_
  refine l_pure 1 (fun L => (24, .int .i64 (rightP x from_ to am)) :: L) F (by kernel_rfl) fun a F => ?_
  by_cases ht4 : (rightP x from_ to am : Int) = (0 : Int)
  · skip
    have hr := ht4
    obtain ⟨hc9, hb9⟩ := right_zero hr
    obtain ⟨fr, rfl⟩ : ∃ fr : Nat, from_ = fr := ⟨from_.toNat, by omega⟩
    obtain ⟨tq, rfl⟩ : ∃ tq : Nat, to = tq := ⟨to.toNat, by omega⟩
    obtain ⟨gq, hgq⟩ : ∃ gq, x.spots[tq]? = some gq := ⟨_, List.getElem?_eq_getElem (by omega)⟩
    have hgoal : goalP x (tq : Nat) = gq := by unfold goalP; rw [Int.toNat_natCast, List.getD_eq_getElem?_getD, hgq]; rfl
    refine l_do F rfl rfl (op_pure F (v0 := .bool ((rightP x (fr : Nat) (tq : Nat) am : Int) != (0 : Int))) (v := .bool false) (by kernel_rfl) (neqF hr) fun a F => ?_)
    refine l_then ?_
    refine c_f F rfl ?_
    refine wp_skip ?_
    refine then_n ?_
    refine s_reg ?_
    refine l_pure 1 (fun L => (28, .int .i64 (fr : Nat)) :: L) F (by kernel_rfl) fun a F => ?_
    refine l_do F rfl rfl (op_buildSlice S _ 1 _ 3 1 iC_i64 ([(fr : Nat)] : List Int) F rfl (by kernel_rfl) (by kernel_rfl) (by kernel_rfl) (by unfold maxLen; omega) fun b5 z S a F => ?_)
    refine l_do F rfl rfl (op_buildSlice S _ 0 _ 3 1 iC_i64 ([] : List Int) F rfl (by kernel_rfl) (by kernel_rfl) (by kernel_rfl) (by unfold maxLen; omega) fun b6 z S a F => ?_)
    refine l_pure 2 (fun L => (12, .slice (some ⟨b6, 0, none⟩) 0 0) :: (11, .slice (some ⟨b5, 0, none⟩) 1 1) :: L) F (by kernel_rfl) fun a F => ?_
    refine l_then ?_
    refine s_reg ?_
    refine l_pure 1 (fun L => (31, .pointer (some ⟨b1, 0, none⟩)) :: L) F (by kernel_rfl) fun a F => ?_
    refine l_do F rfl rfl (op_load _ _ (some ⟨b1, 0, none⟩) 0 (.slice As x.spots.length cs) F rfl (by kernel_rfl) (by kernel_rfl) (cBox S 1 rfl (j := 0) rfl) (fun a F => ?_))
    refine l_pure 1 (fun L => (33, .int .i64 (tq : Nat)) :: L) F (by kernel_rfl) fun a F => ?_
    refine l_do F rfl rfl (op_index _ 107 _ _ As x.spots.length cs tq 2 .i64 F rfl (by kernel_rfl) (by kernel_rfl) (by kernel_rfl) (by kernel_rfl) (get_lt hgq) (recs_some h.s (m := tq) (get_lt hgq)) (fun a F => ?_))
    refine l_do F rfl rfl (op_loadK _ _ As (tq * 2) [.int .i64 gq.1, .int .i64 gq.2] F rfl (by kernel_rfl) (by kernel_rfl) (by kernel_rfl) (by simp) (cOldK0 S 0 spC_len h.s rfl hgq (by kernel_rfl)) (fun a F => ?_))
    refine l_do F rfl rfl (op_alloc S _ (.agg #[.int .i64 0, .int .i64 0]) rfl (by kernel_rfl) fun b7 z S a F => ?_)
    refine l_do F rfl rfl (op_storeB S 6 _ _ _ b7 0 (.agg #[.int .i64 gq.1, .int .i64 gq.2]) F rfl rfl (by kernel_rfl) (by kernel_rfl) (by kernel_rfl) (by kernel_rfl) (by kernel_rfl) fun z S a F => ?_)
    refine l_then ?_
    refine wp_seq ?_
    refine s_reg ?_
    refine l_pure 2 (fun L => (14, .int .i64 (fr : Nat)) :: (36, .int .i64 (fr : Nat)) :: L) F (by kernel_rfl) fun a F => ?_
    refine l_then ?_
    refine wp_block ?_
    refine wp_loop_m (fun m a z => ∃ (f : Nat) (N : List Int) (E : List Int) (An : Option Addr) (cn : Nat) (Am : Option Addr) (cm : Nat) (q : Nat), m = f ∧ (WayOk x N E) ∧ (E.length + f = 7) ∧ (goP x (tq : Nat) am (f + 1) N E = goP x (tq : Nat) am 8 [(fr : Nat)] []) ∧ (N.getLastD 0 = (q : Nat)) ∧ (q < x.spots.length) ∧ Fr a 102 [(2, .int .i64 (tq : Nat)), (4, .pointer (some ⟨b1, 0, none⟩)), (7, .pointer (some ⟨b2, 0, none⟩)), (8, .pointer (some ⟨b3, 0, none⟩)), (11, .slice An N.length cn), (12, .slice Am E.length cm), (13, .pointer (some ⟨b7, 0, none⟩)), (14, .int .i64 (q : Nat))] ∧ Sat w z [rest w (· < w.heap.size), box b1 32 [.slice As x.spots.length cs, .slice Ae x.edges.length ce], box b2 26 [.int .u64 am], box b3 47 [.slice none 0 0, .slice none 0 0, .slice none 0 0], row 3 1 (.slice An N.length cn) N.length (N.flatMap iC_i64), row 3 1 (.slice Am E.length cm) E.length (E.flatMap iC_i64), box b7 107 [.int .i64 gq.1, .int .i64 gq.2]]) _ ⟨7, [(fr : Nat)], ([] : List Int), (some ⟨b5, 0, none⟩), 1, (some ⟨b6, 0, none⟩), 0, fr, rfl, (way_one x _), rfl, rfl, rfl, (by omega), F.sub ⟨by kernel_rfl, by kernel_rfl, by kernel_rfl, by kernel_rfl, by kernel_rfl, by kernel_rfl, by kernel_rfl, by kernel_rfl, trivial⟩, S⟩ ?_
    rintro m a z ⟨f, N, E, An, cn, Am, cm, q, hm, hf8, hf9, hf10, hf11, hf12, F, S⟩
    have hw := hf8
    have hEf := hf9
    have hgo := hf10
    have hql := hf11
    have hqb := hf12
    have hwl := hw.len
    refine wp_seq ?_
    refine s_reg ?_
    refine l_pure 2 (fun L => (38, .int .i64 (tq : Nat)) :: (37, .int .i64 (q : Nat)) :: L) F (by kernel_rfl) fun a F => ?_
    by_cases ht13 : ((q : Nat) : Int) = ((tq : Nat) : Int)
    · skip
      have hqt := ht13
      refine l_do F rfl rfl (op_pure F (v0 := .bool (((q : Nat) : Int) != ((tq : Nat) : Int))) (v := .bool false) (by kernel_rfl) (neqF ht13) fun a F => ?_)
      refine l_then ?_
      refine c_f F rfl ?_
      refine wp_exit ?_
      refine then_x ?_
      refine then_x ?_
      refine inb_x ?_
      refine then_n ?_
      refine s_reg ?_
      refine l_do F rfl rfl (op_loadK _ _ (some ⟨b1, 0, none⟩) 0 [.slice As x.spots.length cs, .slice Ae x.edges.length ce] F rfl (by kernel_rfl) (by kernel_rfl) (by kernel_rfl) (by simp) (cBoxK S 1 rfl 0 (by kernel_rfl)) (fun a F => ?_))
      refine l_pure 2 (fun L => (93, .slice Am E.length cm) :: (92, .slice An N.length cn) :: L) F (by kernel_rfl) fun a F => ?_
      refine l_do F rfl rfl (op_load _ _ (some ⟨b2, 0, none⟩) 0 (.int .u64 am) F rfl (by kernel_rfl) (by kernel_rfl) (cBox S 2 rfl (j := 0) rfl) (fun a F => ?_))
      rcases fill_cases x N E am with hf | ⟨r, hf⟩
      · skip
        have hgr : greedyP x (fr : Nat) (tq : Nat) am = (noRt, 27) := by
          unfold greedyP
          rw [if_neg (by simp [hr]), ← hgo, go_there (by rw [hql]; exact hqt)]
          simp only [hf]
        refine l_do F rfl rfl (op_fn F (by kernel_rfl) (fill_not _ As cs Ae ce x (h.move S rfl) ok An cn N (Recs.ofRow (S.rowOf (i := 4) rfl) (by omega)) Am cm E (Recs.ofRow (S.rowOf (i := 5) rfl) (by omega)) am hua hw (by omega) hf) ?_)
        rintro e z ⟨rfl, hb⟩
        have S := S.grow hb
        refine ⟨_, rfl, ?_⟩
        intro a F
        refine l_pure 3 (fun L => (97, .bool false) :: (96, .agg #[.slice none 0 0, .slice none 0 0, .slice none 0 0]) :: (90, .tuple #[.agg #[.slice none 0 0, .slice none 0 0, .slice none 0 0], .bool false]) :: L) F (by kernel_rfl) fun a F => ?_
        refine l_do F rfl rfl (op_alloc S _ (.agg #[.slice none 0 0, .slice none 0 0, .slice none 0 0]) rfl (by kernel_rfl) fun b14 z S a F => ?_)
        refine l_do F rfl rfl (op_storeB S 7 _ _ _ b14 0 (.agg #[.slice none 0 0, .slice none 0 0, .slice none 0 0]) F rfl rfl (by kernel_rfl) (by kernel_rfl) (by kernel_rfl) (by kernel_rfl) (by kernel_rfl) fun z S a F => ?_)
        refine l_pure 1 (fun L => (18, .bool false) :: L) F (by kernel_rfl) fun a F => ?_
        refine l_then ?_
        refine wp_seq ?_
        refine s_reg ?_
        refine l_pure 2 (fun L => (99, .bool true) :: (98, .bool false) :: L) F (by kernel_rfl) fun a F => ?_
        refine l_then ?_
        refine c_t F rfl ?_
        refine s_reg ?_
        refine l_pure 1 (fun L => (100, .agg #[.slice none 0 0, .slice none 0 0, .slice none 0 0]) :: L) F (by kernel_rfl) fun a F => ?_
        refine l_do F rfl rfl (op_storeB S 3 _ _ _ b3 0 (.agg #[.slice none 0 0, .slice none 0 0, .slice none 0 0]) F rfl rfl (by kernel_rfl) (by kernel_rfl) (by kernel_rfl) (by kernel_rfl) (by kernel_rfl) fun z S a F => ?_)
        refine l_pure 1 (fun L => (9, .int .i64 27) :: L) F (by kernel_rfl) fun a F => ?_
        refine l_then ?_
        refine wp_ret ?_
        refine then_r (?_)
        have S := ((((S.nilRow 3 1).nilRow 3 1).nilRow 26 1).pushBag)
        have S := bag_add (R := []) noM S 11 8 9 10 rfl rfl rfl rfl (by decide) (by decide) (by decide) (by decide) (by decide) (by decide)
        exact fin F [.cell 8 47, .tmp 9] [.agg #[.slice none 0 0, .slice none 0 0, .slice none 0 0], .int .i64 27] rfl ⟨⟨_, by kernel_rfl, resK S 3 (cs := [.slice none 0 0, .slice none 0 0, .slice none 0 0]) rfl (by kernel_rfl) (by kernel_rfl) (by simp)⟩, by kernel_rfl, trivial⟩ (.tuple #[.agg #[.slice none 0 0, .slice none 0 0, .slice none 0 0], .int .i64 27]) rfl ⟨noM, by rw [hgr]; rfl, by rw [hgr]; rfl, S.pick [0, 11] (by decide)⟩
      · skip
        have hgr : greedyP x (fr : Nat) (tq : Nat) am = (r, 0) := by
          unfold greedyP
          rw [if_neg (by simp [hr]), ← hgo, go_there (by rw [hql]; exact hqt)]
          simp only [hf]
        refine l_do F rfl rfl (op_fn F (by kernel_rfl) (fill_got _ As cs Ae ce x (h.move S rfl) ok An cn N (Recs.ofRow (S.rowOf (i := 4) rfl) (by omega)) Am cm E (Recs.ofRow (S.rowOf (i := 5) rfl) (by omega)) am hua hw (by omega) hf) ?_)
        rintro e z ⟨R1, e1, R2, e2, R3, e3, rfl, g⟩
        have S := S.pushThings g
        refine ⟨_, rfl, ?_⟩
        intro a F
        refine l_pure 3 (fun L => (97, .bool true) :: (96, .agg #[.slice R1 r.nodes.length e1, .slice R2 r.edges.length e2, .slice R3 r.amts.length e3]) :: (90, .tuple #[.agg #[.slice R1 r.nodes.length e1, .slice R2 r.edges.length e2, .slice R3 r.amts.length e3], .bool true]) :: L) F (by kernel_rfl) fun a F => ?_
        refine l_do F rfl rfl (op_alloc S _ (.agg #[.slice none 0 0, .slice none 0 0, .slice none 0 0]) rfl (by kernel_rfl) fun b15 z S a F => ?_)
        refine l_do F rfl rfl (op_storeB S 10 _ _ _ b15 0 (.agg #[.slice R1 r.nodes.length e1, .slice R2 r.edges.length e2, .slice R3 r.amts.length e3]) F rfl rfl (by kernel_rfl) (by kernel_rfl) (by kernel_rfl) (by kernel_rfl) (by kernel_rfl) fun z S a F => ?_)
        refine l_pure 1 (fun L => (18, .bool true) :: L) F (by kernel_rfl) fun a F => ?_
        refine l_then ?_
        refine wp_seq ?_
        refine s_reg ?_
        refine l_pure 2 (fun L => (99, .bool false) :: (98, .bool true) :: L) F (by kernel_rfl) fun a F => ?_
        refine l_then ?_
        refine c_f F rfl ?_
        refine wp_skip ?_
        refine then_n ?_
        refine s_reg ?_
        refine l_do F rfl rfl (op_loadK _ _ (some ⟨b15, 0, none⟩) 0 [.slice R1 r.nodes.length e1, .slice R2 r.edges.length e2, .slice R3 r.amts.length e3] F rfl (by kernel_rfl) (by kernel_rfl) (by kernel_rfl) (by simp) (cBoxK S 10 rfl 0 (by kernel_rfl)) (fun a F => ?_))
        refine l_do F rfl rfl (op_storeB S 3 _ _ _ b3 0 (.agg #[.slice R1 r.nodes.length e1, .slice R2 r.edges.length e2, .slice R3 r.amts.length e3]) F rfl rfl (by kernel_rfl) (by kernel_rfl) (by kernel_rfl) (by kernel_rfl) (by kernel_rfl) fun z S a F => ?_)
        refine l_pure 1 (fun L => (9, .int .i64 0) :: L) F (by kernel_rfl) fun a F => ?_
        refine l_then ?_
        refine wp_ret ?_
        have S := S.pushBag
        have S := bag_add (R := []) (⟨R1, e1, R2, e2, R3, e3, r⟩ : RtM) S 11 7 8 9 rfl rfl rfl rfl (by decide) (by decide) (by decide) (by decide) (by decide) (by decide)
        exact fin F [.cell 8 47, .tmp 9] [.agg #[.slice R1 r.nodes.length e1, .slice R2 r.edges.length e2, .slice R3 r.amts.length e3], .int .i64 0] rfl ⟨⟨_, by kernel_rfl, resK S 3 (cs := [.slice R1 r.nodes.length e1, .slice R2 r.edges.length e2, .slice R3 r.amts.length e3]) rfl (by kernel_rfl) (by kernel_rfl) (by simp)⟩, by kernel_rfl, trivial⟩ (.tuple #[.agg #[.slice R1 r.nodes.length e1, .slice R2 r.edges.length e2, .slice R3 r.amts.length e3], .int .i64 0]) rfl ⟨⟨R1, e1, R2, e2, R3, e3, r⟩, by rw [hgr], by rw [hgr], S.pick [0, 11] (by decide)⟩
    · skip
      have hqt := ht13
      refine l_do F rfl rfl (op_pure F (v0 := .bool (((q : Nat) : Int) != ((tq : Nat) : Int))) (v := .bool true) (by kernel_rfl) (neqT ht13) fun a F => ?_)
      refine l_then ?_
      refine c_t F rfl ?_
      refine wp_skip ?_
      refine then_n ?_
      refine wp_block ?_
      refine s_reg ?_
      refine l_do F rfl rfl (op_loadK _ _ (some ⟨b1, 0, none⟩) 0 [.slice As x.spots.length cs, .slice Ae x.edges.length ce] F rfl (by kernel_rfl) (by kernel_rfl) (by kernel_rfl) (by simp) (cBoxK S 1 rfl 0 (by kernel_rfl)) (fun a F => ?_))
      refine l_pure 1 (fun L => (41, .int .i64 (q : Nat)) :: L) F (by kernel_rfl) fun a F => ?_
      refine l_do F rfl rfl (op_loadK _ _ (some ⟨b7, 0, none⟩) 0 [.int .i64 gq.1, .int .i64 gq.2] F rfl (by kernel_rfl) (by kernel_rfl) (by kernel_rfl) (by simp) (cBoxK S 6 rfl 0 (by kernel_rfl)) (fun a F => ?_))
      refine l_do F rfl rfl (op_load _ _ (some ⟨b2, 0, none⟩) 0 (.int .u64 am) F rfl (by kernel_rfl) (by kernel_rfl) (cBox S 2 rfl (j := 0) rfl) (fun a F => ?_))
      obtain ⟨nv, hnv⟩ : ∃ nv : Int, nearP x (q : Nat) gq am = nv := ⟨_, rfl⟩
      refine l_do F rfl rfl (op_fn F (by kernel_rfl) (near_at (t := gq) hnv _ As cs Ae ce (h.move S rfl) ok) ?_)
      rintro e z ⟨rfl, hb⟩
      have S := S.grow hb
      refine ⟨_, rfl, ?_⟩
      intro a F
      refine l_do F rfl rfl (op_alloc S _ (.int .i64 0) rfl (by kernel_rfl) fun b16 z S a F => ?_)
      refine l_do F rfl rfl (op_storeB S 7 _ _ _ b16 0 (.int .i64 nv) F rfl rfl (by kernel_rfl) (by kernel_rfl) (by kernel_rfl) (by kernel_rfl) (by kernel_rfl) fun z S a F => ?_)
      refine l_then ?_
      refine wp_seq ?_
      refine wp_seq ?_
      by_cases ht17 : (nv : Int) < (0 : Int)
      · skip
        have hstk : stuckP x (tq : Nat) am N E := .inl (by rw [hql, hgoal, hnv]; exact ht17)
        refine region_gx (fun D => fun (_ : Unit) => [rest w (· < w.heap.size), box b1 32 [.slice As x.spots.length cs, .slice Ae x.edges.length ce], box b2 26 [.int .u64 am], box b3 47 [.slice none 0 0, .slice none 0 0, .slice none 0 0], row 3 1 (.slice An N.length cn) N.length (N.flatMap iC_i64), row 3 1 (.slice Am E.length cm) E.length (E.flatMap iC_i64), box b7 107 [.int .i64 gq.1, .int .i64 gq.2], box b16 3 [.int .i64 nv]]) (fun (_ : Unit) => [.int .i64 nv, .bool true, .bool true, undef, undef, undef, .bool true, .bool true, undef, undef, undef, undef, undef, undef, undef, undef, undef, undef, undef, undef, undef, undef, undef, .bool true]) [(0, [], [1]), (1, [0], [])] () rfl (by kernel_rfl) (by kernel_rfl) F S.drew ?_ ?_ ?_ ?_ ?_
        · rintro ⟨⟩; rfl
        · rintro ⟨⟩; kernel_rfl
        · intro D D' x h
          cases x
          rfl
        · refine ⟨?_, ?_⟩
          · refine ⟨_, rfl, rfl, by kernel_rfl, ?_⟩
            rintro D ⟨⟩ a z S F
            refine ⟨by kernel_rfl, ?_⟩
            exact op_load _ _ (some ⟨b16, 0, none⟩) 0 (.int .i64 nv) F rfl (by kernel_rfl) (by kernel_rfl) (cBox S 7 rfl (j := 0) rfl) (⟨(), rfl, (SameB.refl _ _ rfl), S⟩)
          refine ⟨?_, ?_⟩
          · refine ⟨_, rfl, rfl, by kernel_rfl, ?_⟩
            rintro D ⟨⟩ a z S F
            refine ⟨by kernel_rfl, ?_⟩
            exact op_pure F (v0 := .bool (decide ((nv : Int) < (0 : Int)))) (v := .bool true) (by kernel_rfl) (lssT ht17) ⟨(), rfl, (SameB.refl _ _ rfl), S⟩
          trivial
        · rintro ⟨⟩ a z F S
          have F := F.sub (l := [(2, .int .i64 (tq : Nat)), (4, .pointer (some ⟨b1, 0, none⟩)), (7, .pointer (some ⟨b2, 0, none⟩)), (8, .pointer (some ⟨b3, 0, none⟩)), (11, .slice An N.length cn), (12, .slice Am E.length cm), (13, .pointer (some ⟨b7, 0, none⟩)), (14, .int .i64 (q : Nat)), (15, .pointer (some ⟨b16, 0, none⟩)), (68, .bool true)]) ⟨by kernel_rfl, by kernel_rfl, by kernel_rfl, by kernel_rfl, by kernel_rfl, by kernel_rfl, by kernel_rfl, by kernel_rfl, by kernel_rfl, by kernel_rfl, trivial⟩
          have S : Sat w z [rest w (· < w.heap.size), box b1 32 [.slice As x.spots.length cs, .slice Ae x.edges.length ce], box b2 26 [.int .u64 am], box b3 47 [.slice none 0 0, .slice none 0 0, .slice none 0 0], row 3 1 (.slice An N.length cn) N.length (N.flatMap iC_i64), row 3 1 (.slice Am E.length cm) E.length (E.flatMap iC_i64), box b7 107 [.int .i64 gq.1, .int .i64 gq.2], box b16 3 [.int .i64 nv]] := S
          refine then_n ?_
          refine c_t F rfl ?_
          refine s_reg ?_
          refine l_pure 1 (fun L => (69, .agg #[.slice none 0 0, .slice none 0 0, .slice none 0 0]) :: L) F (by kernel_rfl) fun a F => ?_
          refine l_do F rfl rfl (op_storeB S 3 _ _ _ b3 0 (.agg #[.slice none 0 0, .slice none 0 0, .slice none 0 0]) F rfl rfl (by kernel_rfl) (by kernel_rfl) (by kernel_rfl) (by kernel_rfl) (by kernel_rfl) fun z S a F => ?_)
          refine l_pure 1 (fun L => (9, .int .i64 27) :: L) F (by kernel_rfl) fun a F => ?_
          refine l_then ?_
          refine wp_ret ?_
          refine then_r (inb_r (then_r (inb_r (then_r (?_)))))
          have hgr : greedyP x (fr : Nat) (tq : Nat) am = (noRt, 27) := by
            unfold greedyP
            rw [if_neg (by simp [hr]), ← hgo, go_stuck (by rw [hql]; exact hqt) hstk]
          have S := ((((S.nilRow 3 1).nilRow 3 1).nilRow 26 1).pushBag)
          have S := bag_add (R := []) noM S 11 8 9 10 rfl rfl rfl rfl (by decide) (by decide) (by decide) (by decide) (by decide) (by decide)
          exact fin F [.cell 8 47, .tmp 9] [.agg #[.slice none 0 0, .slice none 0 0, .slice none 0 0], .int .i64 27] rfl ⟨⟨_, by kernel_rfl, resK S 3 (cs := [.slice none 0 0, .slice none 0 0, .slice none 0 0]) rfl (by kernel_rfl) (by kernel_rfl) (by simp)⟩, by kernel_rfl, trivial⟩ (.tuple #[.agg #[.slice none 0 0, .slice none 0 0, .slice none 0 0], .int .i64 27]) rfl ⟨noM, by rw [hgr]; rfl, by rw [hgr]; rfl, S.pick [0, 11] (by decide)⟩
      · skip
        obtain ⟨nx, rfl⟩ : ∃ nx : Nat, nv = nx := ⟨nv.toNat, by omega⟩
        have hst := near_step (x := x) (n := (q : Nat)) (am := am) (t := gq) (by rw [hnv]; omega)
        rw [hnv] at hst
        have hnb : nx < x.spots.length := by
          obtain ⟨s9, hs9, h91, h92⟩ := hst
          have := step_to hs9
          omega
        obtain ⟨pn, hpn⟩ : ∃ pn, x.spots[nx]? = some pn := ⟨_, List.getElem?_eq_getElem (by omega)⟩
        obtain ⟨pq, hpq⟩ : ∃ pq, x.spots[q]? = some pq := ⟨_, List.getElem?_eq_getElem (by omega)⟩
        have hgn : goalP x (nx : Nat) = pn := by unfold goalP; rw [Int.toNat_natCast, List.getD_eq_getElem?_getD, hpn]; rfl
        have hgp : goalP x (q : Nat) = pq := by unfold goalP; rw [Int.toNat_natCast, List.getD_eq_getElem?_getD, hpq]; rfl
        by_cases ht18 : (7 : Int) ≤ ((E.length : Nat) : Int)
        · skip
          have hstk : stuckP x (tq : Nat) am N E := .inr (.inl (by omega))
          refine region_gx (fun D => fun (_ : Unit) => [rest w (· < w.heap.size), box b1 32 [.slice As x.spots.length cs, .slice Ae x.edges.length ce], box b2 26 [.int .u64 am], box b3 47 [.slice none 0 0, .slice none 0 0, .slice none 0 0], row 3 1 (.slice An N.length cn) N.length (N.flatMap iC_i64), row 3 1 (.slice Am E.length cm) E.length (E.flatMap iC_i64), box b7 107 [.int .i64 gq.1, .int .i64 gq.2], box b16 3 [.int .i64 (nx : Nat)]]) (fun (_ : Unit) => [.int .i64 (nx : Nat), .bool false, .bool false, .slice Am E.length cm, .int .i64 (E.length : Nat), .bool true, .bool true, .bool true, undef, undef, undef, undef, undef, undef, undef, undef, undef, undef, undef, undef, undef, undef, undef, .bool true]) [(0, [], [1, 5]), (1, [0], [5]), (5, [0, 1], [])] () rfl (by kernel_rfl) (by kernel_rfl) F S.drew ?_ ?_ ?_ ?_ ?_
          · rintro ⟨⟩; rfl
          · rintro ⟨⟩; kernel_rfl
          · intro D D' x h
            cases x
            rfl
          · refine ⟨?_, ?_⟩
            · refine ⟨_, rfl, rfl, by kernel_rfl, ?_⟩
              rintro D ⟨⟩ a z S F
              refine ⟨by kernel_rfl, ?_⟩
              exact op_load _ _ (some ⟨b16, 0, none⟩) 0 (.int .i64 (nx : Nat)) F rfl (by kernel_rfl) (by kernel_rfl) (cBox S 7 rfl (j := 0) rfl) (⟨(), rfl, (SameB.refl _ _ rfl), S⟩)
            refine ⟨?_, ?_⟩
            · refine ⟨_, rfl, rfl, by kernel_rfl, ?_⟩
              rintro D ⟨⟩ a z S F
              refine ⟨by kernel_rfl, ?_⟩
              exact op_pure F (v0 := .bool (decide (((nx : Nat) : Int) < (0 : Int)))) (v := .bool false) (by kernel_rfl) (lssF (by omega)) ⟨(), rfl, (SameB.refl _ _ rfl), S⟩
            refine ⟨?_, ?_⟩
            · refine ⟨_, rfl, rfl, by kernel_rfl, ?_⟩
              rintro D ⟨⟩ a z S F
              refine ⟨by kernel_rfl, ?_⟩
              exact op_pure F (v0 := .bool (decide (((E.length : Nat) : Int) ≥ (7 : Int)))) (v := .bool true) (by kernel_rfl) (geqT ht18) ⟨(), rfl, (SameB.refl _ _ rfl), S⟩
            trivial
          · rintro ⟨⟩ a z F S
            have F := F.sub (l := [(2, .int .i64 (tq : Nat)), (4, .pointer (some ⟨b1, 0, none⟩)), (7, .pointer (some ⟨b2, 0, none⟩)), (8, .pointer (some ⟨b3, 0, none⟩)), (11, .slice An N.length cn), (12, .slice Am E.length cm), (13, .pointer (some ⟨b7, 0, none⟩)), (14, .int .i64 (q : Nat)), (15, .pointer (some ⟨b16, 0, none⟩)), (68, .bool true)]) ⟨by kernel_rfl, by kernel_rfl, by kernel_rfl, by kernel_rfl, by kernel_rfl, by kernel_rfl, by kernel_rfl, by kernel_rfl, by kernel_rfl, by kernel_rfl, trivial⟩
            have S : Sat w z [rest w (· < w.heap.size), box b1 32 [.slice As x.spots.length cs, .slice Ae x.edges.length ce], box b2 26 [.int .u64 am], box b3 47 [.slice none 0 0, .slice none 0 0, .slice none 0 0], row 3 1 (.slice An N.length cn) N.length (N.flatMap iC_i64), row 3 1 (.slice Am E.length cm) E.length (E.flatMap iC_i64), box b7 107 [.int .i64 gq.1, .int .i64 gq.2], box b16 3 [.int .i64 (nx : Nat)]] := S
            refine then_n ?_
            refine c_t F rfl ?_
            refine s_reg ?_
            refine l_pure 1 (fun L => (69, .agg #[.slice none 0 0, .slice none 0 0, .slice none 0 0]) :: L) F (by kernel_rfl) fun a F => ?_
            refine l_do F rfl rfl (op_storeB S 3 _ _ _ b3 0 (.agg #[.slice none 0 0, .slice none 0 0, .slice none 0 0]) F rfl rfl (by kernel_rfl) (by kernel_rfl) (by kernel_rfl) (by kernel_rfl) (by kernel_rfl) fun z S a F => ?_)
            refine l_pure 1 (fun L => (9, .int .i64 27) :: L) F (by kernel_rfl) fun a F => ?_
            refine l_then ?_
            refine wp_ret ?_
            refine then_r (inb_r (then_r (inb_r (then_r (?_)))))
            have hgr : greedyP x (fr : Nat) (tq : Nat) am = (noRt, 27) := by
              unfold greedyP
              rw [if_neg (by simp [hr]), ← hgo, go_stuck (by rw [hql]; exact hqt) hstk]
            have S := ((((S.nilRow 3 1).nilRow 3 1).nilRow 26 1).pushBag)
            have S := bag_add (R := []) noM S 11 8 9 10 rfl rfl rfl rfl (by decide) (by decide) (by decide) (by decide) (by decide) (by decide)
            exact fin F [.cell 8 47, .tmp 9] [.agg #[.slice none 0 0, .slice none 0 0, .slice none 0 0], .int .i64 27] rfl ⟨⟨_, by kernel_rfl, resK S 3 (cs := [.slice none 0 0, .slice none 0 0, .slice none 0 0]) rfl (by kernel_rfl) (by kernel_rfl) (by simp)⟩, by kernel_rfl, trivial⟩ (.tuple #[.agg #[.slice none 0 0, .slice none 0 0, .slice none 0 0], .int .i64 27]) rfl ⟨noM, by rw [hgr]; rfl, by rw [hgr]; rfl, S.pick [0, 11] (by decide)⟩
        · skip
          by_cases ht19 : (farI pq.1 pq.2 gq.1 gq.2 : Int) ≤ (farI pn.1 pn.2 gq.1 gq.2 : Int)
          · skip
            have hstk : stuckP x (tq : Nat) am N E := .inr (.inr (by unfold farTo; rw [hql, hgoal, hnv, hgn, hgp]; exact ht19))
            refine region_gx (fun D => fun (_ : Unit) => [rest w (· < w.heap.size), box b1 32 [.slice As x.spots.length cs, .slice Ae x.edges.length ce], box b2 26 [.int .u64 am], box b3 47 [.slice none 0 0, .slice none 0 0, .slice none 0 0], row 3 1 (.slice An N.length cn) N.length (N.flatMap iC_i64), row 3 1 (.slice Am E.length cm) E.length (E.flatMap iC_i64), box b7 107 [.int .i64 gq.1, .int .i64 gq.2], box b16 3 [.int .i64 (nx : Nat)]]) (fun (_ : Unit) => [.int .i64 (nx : Nat), .bool false, .bool false, .slice Am E.length cm, .int .i64 (E.length : Nat), .bool false, .bool false, .bool false, .pointer (some ⟨b1, 0, none⟩), .slice As x.spots.length cs, .int .i64 (nx : Nat), ptrA As (nx * 2), .agg #[.int .i64 pn.1, .int .i64 pn.2], .agg #[.int .i64 gq.1, .int .i64 gq.2], .int .i64 (farI pn.1 pn.2 gq.1 gq.2), .pointer (some ⟨b1, 0, none⟩), .slice As x.spots.length cs, .int .i64 (q : Nat), ptrA As (q * 2), .agg #[.int .i64 pq.1, .int .i64 pq.2], .agg #[.int .i64 gq.1, .int .i64 gq.2], .int .i64 (farI pq.1 pq.2 gq.1 gq.2), .bool true, .bool true]) [(0, [], [1, 5, 9, 10, 11, 12, 13, 14, 16, 18, 19, 20, 21, 22]), (1, [0], [5, 9, 10, 11, 12, 13, 14, 16, 18, 19, 20, 21, 22]), (5, [0, 1], [9, 10, 11, 12, 13, 14, 16, 18, 19, 20, 21, 22]), (9, [0, 1, 5], [11, 12, 14, 21, 22]), (10, [0, 1, 5], [11, 12, 14, 21, 22]), (11, [0, 1, 5, 9, 10], [12, 14, 21, 22]), (12, [0, 1, 5, 9, 10, 11], [14, 21, 22]), (13, [0, 1, 5], [14, 21, 22]), (14, [0, 1, 5, 9, 10, 11, 12, 13], [21, 22]), (16, [0, 1, 5], [18, 19, 21, 22]), (18, [0, 1, 5, 16], [19, 21, 22]), (19, [0, 1, 5, 16, 18], [21, 22]), (20, [0, 1, 5], [21, 22]), (21, [0, 1, 5, 9, 10, 11, 12, 13, 14, 16, 18, 19, 20], [22]), (22, [0, 1, 5, 9, 10, 11, 12, 13, 14, 16, 18, 19, 20, 21], [])] () rfl (by kernel_rfl) (by kernel_rfl) F S.drew ?_ ?_ ?_ ?_ ?_
            · rintro ⟨⟩; rfl
            · rintro ⟨⟩; kernel_rfl
            · intro D D' x h
              cases x
              rfl
            · refine ⟨?_, ?_⟩
              · refine ⟨_, rfl, rfl, by kernel_rfl, ?_⟩
                rintro D ⟨⟩ a z S F
                refine ⟨by kernel_rfl, ?_⟩
                exact op_load _ _ (some ⟨b16, 0, none⟩) 0 (.int .i64 (nx : Nat)) F rfl (by kernel_rfl) (by kernel_rfl) (cBox S 7 rfl (j := 0) rfl) (⟨(), rfl, (SameB.refl _ _ rfl), S⟩)
              refine ⟨?_, ?_⟩
              · refine ⟨_, rfl, rfl, by kernel_rfl, ?_⟩
                rintro D ⟨⟩ a z S F
                refine ⟨by kernel_rfl, ?_⟩
                exact op_pure F (v0 := .bool (decide (((nx : Nat) : Int) < (0 : Int)))) (v := .bool false) (by kernel_rfl) (lssF (by omega)) ⟨(), rfl, (SameB.refl _ _ rfl), S⟩
              refine ⟨?_, ?_⟩
              · refine ⟨_, rfl, rfl, by kernel_rfl, ?_⟩
                rintro D ⟨⟩ a z S F
                refine ⟨by kernel_rfl, ?_⟩
                exact op_pure F (v0 := .bool (decide (((E.length : Nat) : Int) ≥ (7 : Int)))) (v := .bool false) (by kernel_rfl) (geqF ht18) ⟨(), rfl, (SameB.refl _ _ rfl), S⟩
              refine ⟨?_, ?_⟩
              · refine ⟨_, rfl, rfl, by kernel_rfl, ?_⟩
                rintro D ⟨⟩ a z S F
                refine ⟨by kernel_rfl, ?_⟩
                exact op_load _ _ (some ⟨b1, 0, none⟩) 0 (.slice As x.spots.length cs) F rfl (by kernel_rfl) (by kernel_rfl) (cBox S 1 rfl (j := 0) rfl) (⟨(), rfl, (SameB.refl _ _ rfl), S⟩)
              refine ⟨?_, ?_⟩
              · refine ⟨_, rfl, rfl, by kernel_rfl, ?_⟩
                rintro D ⟨⟩ a z S F
                refine ⟨by kernel_rfl, ?_⟩
                exact op_load _ _ (some ⟨b16, 0, none⟩) 0 (.int .i64 (nx : Nat)) F rfl (by kernel_rfl) (by kernel_rfl) (cBox S 7 rfl (j := 0) rfl) (⟨(), rfl, (SameB.refl _ _ rfl), S⟩)
              refine ⟨?_, ?_⟩
              · refine ⟨_, rfl, rfl, by kernel_rfl, ?_⟩
                rintro D ⟨⟩ a z S F
                refine ⟨by kernel_rfl, ?_⟩
                exact op_index _ 107 _ _ As x.spots.length cs nx 2 .i64 F rfl (by kernel_rfl) (by kernel_rfl) (by kernel_rfl) (by kernel_rfl) (get_lt hpn) (recs_some h.s (m := nx) (get_lt hpn)) (⟨(), rfl, (SameB.refl _ _ rfl), S⟩)
              refine ⟨?_, ?_⟩
              · refine ⟨_, rfl, rfl, by kernel_rfl, ?_⟩
                rintro D ⟨⟩ a z S F
                refine ⟨by kernel_rfl, ?_⟩
                exact op_loadK _ _ As (nx * 2) [.int .i64 pn.1, .int .i64 pn.2] F rfl (by kernel_rfl) (by kernel_rfl) (by kernel_rfl) (by simp) (cOldK0 S 0 spC_len h.s rfl hpn (by kernel_rfl)) (⟨(), rfl, (SameB.refl _ _ rfl), S⟩)
              refine ⟨?_, ?_⟩
              · refine ⟨_, rfl, rfl, by kernel_rfl, ?_⟩
                rintro D ⟨⟩ a z S F
                refine ⟨by kernel_rfl, ?_⟩
                exact op_loadK _ _ (some ⟨b7, 0, none⟩) 0 [.int .i64 gq.1, .int .i64 gq.2] F rfl (by kernel_rfl) (by kernel_rfl) (by kernel_rfl) (by simp) (cBoxK S 6 rfl 0 (by kernel_rfl)) (⟨(), rfl, (SameB.refl _ _ rfl), S⟩)
              refine ⟨?_, ?_⟩
              · refine ⟨_, rfl, rfl, by kernel_rfl, ?_⟩
                rintro D ⟨⟩ a z S F
                refine ⟨by kernel_rfl, ?_⟩
                refine op_fn F (by kernel_rfl) (far_any pn.1 pn.2 gq.1 gq.2 _) ?_
                rintro e z ⟨rfl, hb⟩
                have S := S.grow hb
                exact ⟨_, rfl, (), rfl, (SameB.refl _ _ rfl), S⟩
              refine ⟨?_, ?_⟩
              · refine ⟨_, rfl, rfl, by kernel_rfl, ?_⟩
                rintro D ⟨⟩ a z S F
                refine ⟨by kernel_rfl, ?_⟩
                exact op_load _ _ (some ⟨b1, 0, none⟩) 0 (.slice As x.spots.length cs) F rfl (by kernel_rfl) (by kernel_rfl) (cBox S 1 rfl (j := 0) rfl) (⟨(), rfl, (SameB.refl _ _ rfl), S⟩)
              refine ⟨?_, ?_⟩
              · refine ⟨_, rfl, rfl, by kernel_rfl, ?_⟩
                rintro D ⟨⟩ a z S F
                refine ⟨by kernel_rfl, ?_⟩
                exact op_index _ 107 _ _ As x.spots.length cs q 2 .i64 F rfl (by kernel_rfl) (by kernel_rfl) (by kernel_rfl) (by kernel_rfl) (get_lt hpq) (recs_some h.s (m := q) (get_lt hpq)) (⟨(), rfl, (SameB.refl _ _ rfl), S⟩)
              refine ⟨?_, ?_⟩
              · refine ⟨_, rfl, rfl, by kernel_rfl, ?_⟩
                rintro D ⟨⟩ a z S F
                refine ⟨by kernel_rfl, ?_⟩
                exact op_loadK _ _ As (q * 2) [.int .i64 pq.1, .int .i64 pq.2] F rfl (by kernel_rfl) (by kernel_rfl) (by kernel_rfl) (by simp) (cOldK0 S 0 spC_len h.s rfl hpq (by kernel_rfl)) (⟨(), rfl, (SameB.refl _ _ rfl), S⟩)
              refine ⟨?_, ?_⟩
              · refine ⟨_, rfl, rfl, by kernel_rfl, ?_⟩
                rintro D ⟨⟩ a z S F
                refine ⟨by kernel_rfl, ?_⟩
                exact op_loadK _ _ (some ⟨b7, 0, none⟩) 0 [.int .i64 gq.1, .int .i64 gq.2] F rfl (by kernel_rfl) (by kernel_rfl) (by kernel_rfl) (by simp) (cBoxK S 6 rfl 0 (by kernel_rfl)) (⟨(), rfl, (SameB.refl _ _ rfl), S⟩)
              refine ⟨?_, ?_⟩
              · refine ⟨_, rfl, rfl, by kernel_rfl, ?_⟩
                rintro D ⟨⟩ a z S F
                refine ⟨by kernel_rfl, ?_⟩
                refine op_fn F (by kernel_rfl) (far_any pq.1 pq.2 gq.1 gq.2 _) ?_
                rintro e z ⟨rfl, hb⟩
                have S := S.grow hb
                exact ⟨_, rfl, (), rfl, (SameB.refl _ _ rfl), S⟩
              refine ⟨?_, ?_⟩
              · refine ⟨_, rfl, rfl, by kernel_rfl, ?_⟩
                rintro D ⟨⟩ a z S F
                refine ⟨by kernel_rfl, ?_⟩
                exact op_pure F (v0 := .bool (decide ((farI pn.1 pn.2 gq.1 gq.2 : Int) ≥ (farI pq.1 pq.2 gq.1 gq.2 : Int)))) (v := .bool true) (by kernel_rfl) (geqT ht19) ⟨(), rfl, (SameB.refl _ _ rfl), S⟩
              trivial
            · rintro ⟨⟩ a z F S
              have F := F.sub (l := [(2, .int .i64 (tq : Nat)), (4, .pointer (some ⟨b1, 0, none⟩)), (7, .pointer (some ⟨b2, 0, none⟩)), (8, .pointer (some ⟨b3, 0, none⟩)), (11, .slice An N.length cn), (12, .slice Am E.length cm), (13, .pointer (some ⟨b7, 0, none⟩)), (14, .int .i64 (q : Nat)), (15, .pointer (some ⟨b16, 0, none⟩)), (68, .bool true)]) ⟨by kernel_rfl, by kernel_rfl, by kernel_rfl, by kernel_rfl, by kernel_rfl, by kernel_rfl, by kernel_rfl, by kernel_rfl, by kernel_rfl, by kernel_rfl, trivial⟩
              have S : Sat w z [rest w (· < w.heap.size), box b1 32 [.slice As x.spots.length cs, .slice Ae x.edges.length ce], box b2 26 [.int .u64 am], box b3 47 [.slice none 0 0, .slice none 0 0, .slice none 0 0], row 3 1 (.slice An N.length cn) N.length (N.flatMap iC_i64), row 3 1 (.slice Am E.length cm) E.length (E.flatMap iC_i64), box b7 107 [.int .i64 gq.1, .int .i64 gq.2], box b16 3 [.int .i64 (nx : Nat)]] := S
              refine then_n ?_
              refine c_t F rfl ?_
              refine s_reg ?_
              refine l_pure 1 (fun L => (69, .agg #[.slice none 0 0, .slice none 0 0, .slice none 0 0]) :: L) F (by kernel_rfl) fun a F => ?_
              refine l_do F rfl rfl (op_storeB S 3 _ _ _ b3 0 (.agg #[.slice none 0 0, .slice none 0 0, .slice none 0 0]) F rfl rfl (by kernel_rfl) (by kernel_rfl) (by kernel_rfl) (by kernel_rfl) (by kernel_rfl) fun z S a F => ?_)
              refine l_pure 1 (fun L => (9, .int .i64 27) :: L) F (by kernel_rfl) fun a F => ?_
              refine l_then ?_
              refine wp_ret ?_
              refine then_r (inb_r (then_r (inb_r (then_r (?_)))))
              have hgr : greedyP x (fr : Nat) (tq : Nat) am = (noRt, 27) := by
                unfold greedyP
                rw [if_neg (by simp [hr]), ← hgo, go_stuck (by rw [hql]; exact hqt) hstk]
              have S := ((((S.nilRow 3 1).nilRow 3 1).nilRow 26 1).pushBag)
              have S := bag_add (R := []) noM S 11 8 9 10 rfl rfl rfl rfl (by decide) (by decide) (by decide) (by decide) (by decide) (by decide)
              exact fin F [.cell 8 47, .tmp 9] [.agg #[.slice none 0 0, .slice none 0 0, .slice none 0 0], .int .i64 27] rfl ⟨⟨_, by kernel_rfl, resK S 3 (cs := [.slice none 0 0, .slice none 0 0, .slice none 0 0]) rfl (by kernel_rfl) (by kernel_rfl) (by simp)⟩, by kernel_rfl, trivial⟩ (.tuple #[.agg #[.slice none 0 0, .slice none 0 0, .slice none 0 0], .int .i64 27]) rfl ⟨noM, by rw [hgr]; rfl, by rw [hgr]; rfl, S.pick [0, 11] (by decide)⟩
          · skip
            have hns : ¬ stuckP x (tq : Nat) am N E := by
              unfold stuckP farTo
              rw [hql, hgoal, hnv, hgn, hgp]
              omega
            obtain ⟨s1, hs1, hto1, hcan1, hed1⟩ := ix_at (ix_lt hst)
            obtain ⟨iv, hiv⟩ : ∃ iv : Nat, ixTo x (q : Nat) (nx : Nat) am = iv := ⟨_, rfl⟩
            rw [hiv] at hs1
            have hfew := steps_few x (q : Nat)
            refine region_gx (fun D => fun (_ : Unit) => [rest w (· < w.heap.size), box b1 32 [.slice As x.spots.length cs, .slice Ae x.edges.length ce], box b2 26 [.int .u64 am], box b3 47 [.slice none 0 0, .slice none 0 0, .slice none 0 0], row 3 1 (.slice An N.length cn) N.length (N.flatMap iC_i64), row 3 1 (.slice Am E.length cm) E.length (E.flatMap iC_i64), box b7 107 [.int .i64 gq.1, .int .i64 gq.2], box b16 3 [.int .i64 (nx : Nat)]]) (fun (_ : Unit) => [.int .i64 (nx : Nat), .bool false, .bool false, .slice Am E.length cm, .int .i64 (E.length : Nat), .bool false, .bool false, .bool false, .pointer (some ⟨b1, 0, none⟩), .slice As x.spots.length cs, .int .i64 (nx : Nat), ptrA As (nx * 2), .agg #[.int .i64 pn.1, .int .i64 pn.2], .agg #[.int .i64 gq.1, .int .i64 gq.2], .int .i64 (farI pn.1 pn.2 gq.1 gq.2), .pointer (some ⟨b1, 0, none⟩), .slice As x.spots.length cs, .int .i64 (q : Nat), ptrA As (q * 2), .agg #[.int .i64 pq.1, .int .i64 pq.2], .agg #[.int .i64 gq.1, .int .i64 gq.2], .int .i64 (farI pq.1 pq.2 gq.1 gq.2), .bool false, .bool false]) [(0, [], [1, 5, 9, 10, 11, 12, 13, 14, 16, 18, 19, 20, 21, 22]), (1, [0], [5, 9, 10, 11, 12, 13, 14, 16, 18, 19, 20, 21, 22]), (5, [0, 1], [9, 10, 11, 12, 13, 14, 16, 18, 19, 20, 21, 22]), (9, [0, 1, 5], [11, 12, 14, 21, 22]), (10, [0, 1, 5], [11, 12, 14, 21, 22]), (11, [0, 1, 5, 9, 10], [12, 14, 21, 22]), (12, [0, 1, 5, 9, 10, 11], [14, 21, 22]), (13, [0, 1, 5], [14, 21, 22]), (14, [0, 1, 5, 9, 10, 11, 12, 13], [21, 22]), (16, [0, 1, 5], [18, 19, 21, 22]), (18, [0, 1, 5, 16], [19, 21, 22]), (19, [0, 1, 5, 16, 18], [21, 22]), (20, [0, 1, 5], [21, 22]), (21, [0, 1, 5, 9, 10, 11, 12, 13, 14, 16, 18, 19, 20], [22]), (22, [0, 1, 5, 9, 10, 11, 12, 13, 14, 16, 18, 19, 20, 21], [])] () rfl (by kernel_rfl) (by kernel_rfl) F S.drew ?_ ?_ ?_ ?_ ?_
            · rintro ⟨⟩; rfl
            · rintro ⟨⟩; kernel_rfl
            · intro D D' x h
              cases x
              rfl
            · refine ⟨?_, ?_⟩
              · refine ⟨_, rfl, rfl, by kernel_rfl, ?_⟩
                rintro D ⟨⟩ a z S F
                refine ⟨by kernel_rfl, ?_⟩
                exact op_load _ _ (some ⟨b16, 0, none⟩) 0 (.int .i64 (nx : Nat)) F rfl (by kernel_rfl) (by kernel_rfl) (cBox S 7 rfl (j := 0) rfl) (⟨(), rfl, (SameB.refl _ _ rfl), S⟩)
              refine ⟨?_, ?_⟩
              · refine ⟨_, rfl, rfl, by kernel_rfl, ?_⟩
                rintro D ⟨⟩ a z S F
                refine ⟨by kernel_rfl, ?_⟩
                exact op_pure F (v0 := .bool (decide (((nx : Nat) : Int) < (0 : Int)))) (v := .bool false) (by kernel_rfl) (lssF (by omega)) ⟨(), rfl, (SameB.refl _ _ rfl), S⟩
              refine ⟨?_, ?_⟩
              · refine ⟨_, rfl, rfl, by kernel_rfl, ?_⟩
                rintro D ⟨⟩ a z S F
                refine ⟨by kernel_rfl, ?_⟩
                exact op_pure F (v0 := .bool (decide (((E.length : Nat) : Int) ≥ (7 : Int)))) (v := .bool false) (by kernel_rfl) (geqF ht18) ⟨(), rfl, (SameB.refl _ _ rfl), S⟩
              refine ⟨?_, ?_⟩
              · refine ⟨_, rfl, rfl, by kernel_rfl, ?_⟩
                rintro D ⟨⟩ a z S F
                refine ⟨by kernel_rfl, ?_⟩
                exact op_load _ _ (some ⟨b1, 0, none⟩) 0 (.slice As x.spots.length cs) F rfl (by kernel_rfl) (by kernel_rfl) (cBox S 1 rfl (j := 0) rfl) (⟨(), rfl, (SameB.refl _ _ rfl), S⟩)
              refine ⟨?_, ?_⟩
              · refine ⟨_, rfl, rfl, by kernel_rfl, ?_⟩
                rintro D ⟨⟩ a z S F
                refine ⟨by kernel_rfl, ?_⟩
                exact op_load _ _ (some ⟨b16, 0, none⟩) 0 (.int .i64 (nx : Nat)) F rfl (by kernel_rfl) (by kernel_rfl) (cBox S 7 rfl (j := 0) rfl) (⟨(), rfl, (SameB.refl _ _ rfl), S⟩)
              refine ⟨?_, ?_⟩
              · refine ⟨_, rfl, rfl, by kernel_rfl, ?_⟩
                rintro D ⟨⟩ a z S F
                refine ⟨by kernel_rfl, ?_⟩
                exact op_index _ 107 _ _ As x.spots.length cs nx 2 .i64 F rfl (by kernel_rfl) (by kernel_rfl) (by kernel_rfl) (by kernel_rfl) (get_lt hpn) (recs_some h.s (m := nx) (get_lt hpn)) (⟨(), rfl, (SameB.refl _ _ rfl), S⟩)
              refine ⟨?_, ?_⟩
              · refine ⟨_, rfl, rfl, by kernel_rfl, ?_⟩
                rintro D ⟨⟩ a z S F
                refine ⟨by kernel_rfl, ?_⟩
                exact op_loadK _ _ As (nx * 2) [.int .i64 pn.1, .int .i64 pn.2] F rfl (by kernel_rfl) (by kernel_rfl) (by kernel_rfl) (by simp) (cOldK0 S 0 spC_len h.s rfl hpn (by kernel_rfl)) (⟨(), rfl, (SameB.refl _ _ rfl), S⟩)
              refine ⟨?_, ?_⟩
              · refine ⟨_, rfl, rfl, by kernel_rfl, ?_⟩
                rintro D ⟨⟩ a z S F
                refine ⟨by kernel_rfl, ?_⟩
                exact op_loadK _ _ (some ⟨b7, 0, none⟩) 0 [.int .i64 gq.1, .int .i64 gq.2] F rfl (by kernel_rfl) (by kernel_rfl) (by kernel_rfl) (by simp) (cBoxK S 6 rfl 0 (by kernel_rfl)) (⟨(), rfl, (SameB.refl _ _ rfl), S⟩)
              refine ⟨?_, ?_⟩
              · refine ⟨_, rfl, rfl, by kernel_rfl, ?_⟩
                rintro D ⟨⟩ a z S F
                refine ⟨by kernel_rfl, ?_⟩
                refine op_fn F (by kernel_rfl) (far_any pn.1 pn.2 gq.1 gq.2 _) ?_
                rintro e z ⟨rfl, hb⟩
                have S := S.grow hb
                exact ⟨_, rfl, (), rfl, (SameB.refl _ _ rfl), S⟩
              refine ⟨?_, ?_⟩
              · refine ⟨_, rfl, rfl, by kernel_rfl, ?_⟩
                rintro D ⟨⟩ a z S F
                refine ⟨by kernel_rfl, ?_⟩
                exact op_load _ _ (some ⟨b1, 0, none⟩) 0 (.slice As x.spots.length cs) F rfl (by kernel_rfl) (by kernel_rfl) (cBox S 1 rfl (j := 0) rfl) (⟨(), rfl, (SameB.refl _ _ rfl), S⟩)
              refine ⟨?_, ?_⟩
              · refine ⟨_, rfl, rfl, by kernel_rfl, ?_⟩
                rintro D ⟨⟩ a z S F
                refine ⟨by kernel_rfl, ?_⟩
                exact op_index _ 107 _ _ As x.spots.length cs q 2 .i64 F rfl (by kernel_rfl) (by kernel_rfl) (by kernel_rfl) (by kernel_rfl) (get_lt hpq) (recs_some h.s (m := q) (get_lt hpq)) (⟨(), rfl, (SameB.refl _ _ rfl), S⟩)
              refine ⟨?_, ?_⟩
              · refine ⟨_, rfl, rfl, by kernel_rfl, ?_⟩
                rintro D ⟨⟩ a z S F
                refine ⟨by kernel_rfl, ?_⟩
                exact op_loadK _ _ As (q * 2) [.int .i64 pq.1, .int .i64 pq.2] F rfl (by kernel_rfl) (by kernel_rfl) (by kernel_rfl) (by simp) (cOldK0 S 0 spC_len h.s rfl hpq (by kernel_rfl)) (⟨(), rfl, (SameB.refl _ _ rfl), S⟩)
              refine ⟨?_, ?_⟩
              · refine ⟨_, rfl, rfl, by kernel_rfl, ?_⟩
                rintro D ⟨⟩ a z S F
                refine ⟨by kernel_rfl, ?_⟩
                exact op_loadK _ _ (some ⟨b7, 0, none⟩) 0 [.int .i64 gq.1, .int .i64 gq.2] F rfl (by kernel_rfl) (by kernel_rfl) (by kernel_rfl) (by simp) (cBoxK S 6 rfl 0 (by kernel_rfl)) (⟨(), rfl, (SameB.refl _ _ rfl), S⟩)
              refine ⟨?_, ?_⟩
              · refine ⟨_, rfl, rfl, by kernel_rfl, ?_⟩
                rintro D ⟨⟩ a z S F
                refine ⟨by kernel_rfl, ?_⟩
                refine op_fn F (by kernel_rfl) (far_any pq.1 pq.2 gq.1 gq.2 _) ?_
                rintro e z ⟨rfl, hb⟩
                have S := S.grow hb
                exact ⟨_, rfl, (), rfl, (SameB.refl _ _ rfl), S⟩
              refine ⟨?_, ?_⟩
              · refine ⟨_, rfl, rfl, by kernel_rfl, ?_⟩
                rintro D ⟨⟩ a z S F
                refine ⟨by kernel_rfl, ?_⟩
                exact op_pure F (v0 := .bool (decide ((farI pn.1 pn.2 gq.1 gq.2 : Int) ≥ (farI pq.1 pq.2 gq.1 gq.2 : Int)))) (v := .bool false) (by kernel_rfl) (geqF ht19) ⟨(), rfl, (SameB.refl _ _ rfl), S⟩
              trivial
            · rintro ⟨⟩ a z F S
              have F := F.sub (l := [(2, .int .i64 (tq : Nat)), (4, .pointer (some ⟨b1, 0, none⟩)), (7, .pointer (some ⟨b2, 0, none⟩)), (8, .pointer (some ⟨b3, 0, none⟩)), (11, .slice An N.length cn), (12, .slice Am E.length cm), (13, .pointer (some ⟨b7, 0, none⟩)), (14, .int .i64 (q : Nat)), (15, .pointer (some ⟨b16, 0, none⟩)), (68, .bool false)]) ⟨by kernel_rfl, by kernel_rfl, by kernel_rfl, by kernel_rfl, by kernel_rfl, by kernel_rfl, by kernel_rfl, by kernel_rfl, by kernel_rfl, by kernel_rfl, trivial⟩
              have S : Sat w z [rest w (· < w.heap.size), box b1 32 [.slice As x.spots.length cs, .slice Ae x.edges.length ce], box b2 26 [.int .u64 am], box b3 47 [.slice none 0 0, .slice none 0 0, .slice none 0 0], row 3 1 (.slice An N.length cn) N.length (N.flatMap iC_i64), row 3 1 (.slice Am E.length cm) E.length (E.flatMap iC_i64), box b7 107 [.int .i64 gq.1, .int .i64 gq.2], box b16 3 [.int .i64 (nx : Nat)]] := S
              refine then_n ?_
              refine c_f F rfl ?_
              refine wp_skip ?_
              refine then_n ?_
              refine s_reg ?_
              refine l_do F rfl rfl (op_loadK _ _ (some ⟨b1, 0, none⟩) 0 [.slice As x.spots.length cs, .slice Ae x.edges.length ce] F rfl (by kernel_rfl) (by kernel_rfl) (by kernel_rfl) (by simp) (cBoxK S 1 rfl 0 (by kernel_rfl)) (fun a F => ?_))
              refine l_pure 1 (fun L => (71, .int .i64 (q : Nat)) :: L) F (by kernel_rfl) fun a F => ?_
              refine l_do F rfl rfl (op_fn F (by kernel_rfl) (steps_any _ As cs Ae ce x (h.move S rfl) ok (q : Nat)) ?_)
              rintro e z ⟨A20, c21, rfl, g⟩
              have S := S.pushThings g
              refine ⟨_, rfl, ?_⟩
              intro a F
              refine l_pure 1 (fun L => (73, .func (.func 71) #[] #[.pointer (some ⟨b16, 0, none⟩), .pointer (some ⟨b2, 0, none⟩)]) :: L) F (by kernel_rfl) fun a F => ?_
              obtain ⟨G9, g9, hin9, hlt9, k9⟩ := S.frameB [7, 2] (by decide) rfl
              refine l_do F rfl rfl (op_fn F (by kernel_rfl) (indexf_at (X := (stepsP x (q : Nat))) (nx := (nx : Nat)) (am := am) hiv _ G9 b16 b2 A20 c21 (Recs.ofRow (S.rowOf (i := 8) rfl) (by omega)) (InG.row S hin9 8 (by decide) rfl) (by omega) (ix_lt hst) g9) ?_)
              rintro e z9 ⟨rfl, g⟩
              have S : Sat w z9 [rest w (· < w.heap.size), box b1 32 [.slice As x.spots.length cs, .slice Ae x.edges.length ce], box b2 26 [.int .u64 am], box b3 47 [.slice none 0 0, .slice none 0 0, .slice none 0 0], row 3 1 (.slice An N.length cn) N.length (N.flatMap iC_i64), row 3 1 (.slice Am E.length cm) E.length (E.flatMap iC_i64), box b7 107 [.int .i64 gq.1, .int .i64 gq.2], box b16 3 [.int .i64 (nx : Nat)], row 133 5 (.slice A20 ((stepsP x (q : Nat)).length) c21) ((stepsP x (q : Nat)).length) ((stepsP x (q : Nat)).flatMap stC)] := k9 z9 [box b16 3 [.int .i64 (nx : Nat)], box b2 26 [.int .u64 am]] rfl g
              clear g g9 k9 hin9 hlt9
              refine ⟨_, rfl, ?_⟩
              intro a F
              refine l_pure 1 (fun L => (16, .int .i64 (iv : Nat)) :: L) F (by kernel_rfl) fun a F => ?_
              refine l_then ?_
              refine wp_seq ?_
              have S := S.pushEmp.pushEmp.pushEmp
              refine region_gx (fun D => fun ((b22, A23, c24, A25, c26, b27, A28, c29) : Nat × Option Addr × Nat × Option Addr × Nat × Nat × Option Addr × Nat) => [rest w (· < w.heap.size), box b1 32 [.slice As x.spots.length cs, .slice Ae x.edges.length ce], box b2 26 [.int .u64 am], box b3 47 [.slice none 0 0, .slice none 0 0, .slice none 0 0], bif D 3 then row 3 1 (.slice A23 ((N ++ ([(nx : Nat)] : List Int)).length) c24) ((N ++ ([(nx : Nat)] : List Int)).length) ((N ++ ([(nx : Nat)] : List Int)).flatMap iC_i64) else row 3 1 (.slice An N.length cn) N.length (N.flatMap iC_i64), bif D 13 then row 3 1 (.slice A28 ((E ++ ([s1.edge] : List Int)).length) c29) ((E ++ ([s1.edge] : List Int)).length) ((E ++ ([s1.edge] : List Int)).flatMap iC_i64) else row 3 1 (.slice Am E.length cm) E.length (E.flatMap iC_i64), box b7 107 [.int .i64 gq.1, .int .i64 gq.2], box b16 3 [.int .i64 (nx : Nat)], row 133 5 (.slice A20 ((stepsP x (q : Nat)).length) c21) ((stepsP x (q : Nat)).length) ((stepsP x (q : Nat)).flatMap stC), bif D 2 then row 3 1 (.slice (some ⟨b22, 0, none⟩) 1 1) 1 (([(nx : Nat)] : List Int).flatMap iC_i64) else emp, bif D 7 then row 133 5 (.slice A25 ((stepsP x (q : Nat)).length) c26) ((stepsP x (q : Nat)).length) ((stepsP x (q : Nat)).flatMap stC) else emp, bif D 12 then row 3 1 (.slice (some ⟨b27, 0, none⟩) 1 1) 1 (([s1.edge] : List Int).flatMap iC_i64) else emp]) (fun ((b22, A23, c24, A25, c26, b27, A28, c29) : Nat × Option Addr × Nat × Option Addr × Nat × Nat × Option Addr × Nat) => [.slice An N.length cn, .int .i64 (nx : Nat), .slice (some ⟨b22, 0, none⟩) 1 1, .slice A23 ((N ++ ([(nx : Nat)] : List Int)).length) c24, .slice Am E.length cm, .agg #[.slice As x.spots.length cs, .slice Ae x.edges.length ce], .int .i64 (q : Nat), .slice A25 ((stepsP x (q : Nat)).length) c26, .int .i64 (iv : Nat), ptrA A25 (iv * 5), ptrA A25 (iv * 5), .int .i64 s1.edge, .slice (some ⟨b27, 0, none⟩) 1 1, .slice A28 ((E ++ ([s1.edge] : List Int)).length) c29, .slice A23 ((N ++ ([(nx : Nat)] : List Int)).length) c24, .slice A28 ((E ++ ([s1.edge] : List Int)).length) c29]) [(1, [], [2, 3, 7, 9, 10, 11, 12, 13]), (2, [1], [3, 7, 9, 10, 11, 12, 13]), (3, [1, 2], [7, 9, 10, 11, 12, 13]), (5, [], [7, 9, 10, 11, 12, 13]), (7, [1, 2, 3, 5], [9, 10, 11, 12, 13]), (9, [1, 2, 3, 5, 7], [10, 11, 12, 13]), (10, [1, 2, 3, 5, 7, 9], [11, 12, 13]), (11, [1, 2, 3, 5, 7, 9, 10], [12, 13]), (12, [1, 2, 3, 5, 7, 9, 10, 11], [13]), (13, [1, 2, 3, 5, 7, 9, 10, 11, 12], [])] (0, none, 0, none, 0, 0, none, 0) rfl (by kernel_rfl) (by kernel_rfl) F S.drew ?_ ?_ ?_ ?_ ?_
              · rintro ⟨b22, A23, c24, A25, c26, b27, A28, c29⟩; rfl
              · rintro ⟨b22, A23, c24, A25, c26, b27, A28, c29⟩; kernel_rfl
              · intro D D' x h
                obtain ⟨b22, A23, c24, A25, c26, b27, A28, c29⟩ := x
                simp only [h 2 (by decide), h 3 (by decide), h 7 (by decide), h 12 (by decide), h 13 (by decide)]
              · refine ⟨?_, ?_⟩
                · refine ⟨_, rfl, rfl, by kernel_rfl, ?_⟩
                  rintro D ⟨b22, A23, c24, A25, c26, b27, A28, c29⟩ a z S F
                  refine ⟨by kernel_rfl, ?_⟩
                  exact op_load _ _ (some ⟨b16, 0, none⟩) 0 (.int .i64 (nx : Nat)) F rfl (by kernel_rfl) (by kernel_rfl) (cBox S 7 rfl (j := 0) rfl) (⟨(b22, A23, c24, A25, c26, b27, A28, c29), rfl, (SameB.refl _ _ rfl), S⟩)
                refine ⟨?_, ?_⟩
                · refine ⟨_, rfl, rfl, by kernel_rfl, ?_⟩
                  rintro D ⟨b22, A23, c24, A25, c26, b27, A28, c29⟩ a z S F
                  refine ⟨by kernel_rfl, ?_⟩
                  exact op_buildSliceF S 9 rfl _ 1 _ 3 1 iC_i64 ([(nx : Nat)] : List Int) F rfl (by kernel_rfl) (by kernel_rfl) (by kernel_rfl) (by unfold maxLen; omega) fun y30 z S => ⟨(y30, A23, c24, A25, c26, b27, A28, c29), rfl, ⟨rfl, rfl, trivial, trivial, rfl, rfl, rfl, trivial, rfl, trivial, trivial, trivial, trivial, trivial, trivial, trivial, trivial⟩, S⟩
                refine ⟨?_, ?_⟩
                · refine ⟨_, rfl, rfl, by kernel_rfl, ?_⟩
                  rintro D ⟨b22, A23, c24, A25, c26, b27, A28, c29⟩ a z S F
                  refine ⟨by kernel_rfl, ?_⟩
                  exact op_append S 4 _ _ _ 3 (.int .i64 0) 1 8 N ([(nx : Nat)] : List Int) iC_i64 (some ⟨b22, 0, none⟩) 1 F iC_len_i64 (fun _ => rfl) rfl rfl (by kernel_rfl) (by kernel_rfl) rfl rfl rfl (by kernel_rfl) (by kernel_rfl) (row_none (S.rowOf (i := 9) rfl)) (src_row (S.rowOf (i := 9) rfl)) (by first | omega | (simp; omega)) fun y31 y32 z S => ⟨(b22, y31, y32, A25, c26, b27, A28, c29), rfl, ⟨rfl, rfl, rfl, trivial, rfl, rfl, rfl, trivial, rfl, trivial, trivial, trivial, trivial, trivial, trivial, trivial, trivial⟩, S⟩
                refine ⟨?_, ?_⟩
                · refine ⟨_, rfl, rfl, by kernel_rfl, ?_⟩
                  rintro D ⟨b22, A23, c24, A25, c26, b27, A28, c29⟩ a z S F
                  refine ⟨by kernel_rfl, ?_⟩
                  exact op_loadK _ _ (some ⟨b1, 0, none⟩) 0 [.slice As x.spots.length cs, .slice Ae x.edges.length ce] F rfl (by kernel_rfl) (by kernel_rfl) (by kernel_rfl) (by simp) (cBoxK S 1 rfl 0 (by kernel_rfl)) (⟨(b22, A23, c24, A25, c26, b27, A28, c29), rfl, (SameB.refl _ _ rfl), S⟩)
                refine ⟨?_, ?_⟩
                · refine ⟨_, rfl, rfl, by kernel_rfl, ?_⟩
                  rintro D ⟨b22, A23, c24, A25, c26, b27, A28, c29⟩ a z S F
                  refine ⟨by kernel_rfl, ?_⟩
                  refine op_fn F (by kernel_rfl) (steps_any _ As cs Ae ce x (h.move S rfl) ok (q : Nat)) ?_
                  rintro e z ⟨y33, y34, rfl, g⟩
                  have S := S.fillThing 10 rfl g
                  exact ⟨_, rfl, (b22, A23, c24, y33, y34, b27, A28, c29), rfl, ⟨rfl, rfl, rfl, rfl, rfl, rfl, rfl, trivial, rfl, trivial, trivial, trivial, trivial, trivial, trivial, trivial, trivial⟩, S⟩
                refine ⟨?_, ?_⟩
                · refine ⟨_, rfl, rfl, by kernel_rfl, ?_⟩
                  rintro D ⟨b22, A23, c24, A25, c26, b27, A28, c29⟩ a z S F
                  refine ⟨by kernel_rfl, ?_⟩
                  exact op_index _ 133 _ _ A25 ((stepsP x (q : Nat)).length) c26 iv 5 .i64 F rfl (by kernel_rfl) (by kernel_rfl) (by kernel_rfl) (by kernel_rfl) (get_lt hs1) (row_some S 10 rfl (m := iv) (get_lt hs1)) (⟨(b22, A23, c24, A25, c26, b27, A28, c29), rfl, (SameB.refl _ _ rfl), S⟩)
                refine ⟨?_, ?_⟩
                · refine ⟨_, rfl, rfl, by kernel_rfl, ?_⟩
                  rintro D ⟨b22, A23, c24, A25, c26, b27, A28, c29⟩ a z S F
                  refine ⟨by kernel_rfl, ?_⟩
                  exact op_field _ _ _ A25 (iv * 5) 0 F rfl (by kernel_rfl) (by kernel_rfl) (row_some S 10 rfl (m := iv) (get_lt hs1)) (⟨(b22, A23, c24, A25, c26, b27, A28, c29), rfl, (SameB.refl _ _ rfl), S⟩)
                refine ⟨?_, ?_⟩
                · refine ⟨_, rfl, rfl, by kernel_rfl, ?_⟩
                  rintro D ⟨b22, A23, c24, A25, c26, b27, A28, c29⟩ a z S F
                  refine ⟨by kernel_rfl, ?_⟩
                  exact op_load _ _ A25 (iv * 5) (.int .i64 s1.edge) F rfl (by kernel_rfl) (by kernel_rfl) (cRec S 10 stC_len rfl 0 hs1 rfl) (⟨(b22, A23, c24, A25, c26, b27, A28, c29), rfl, (SameB.refl _ _ rfl), S⟩)
                refine ⟨?_, ?_⟩
                · refine ⟨_, rfl, rfl, by kernel_rfl, ?_⟩
                  rintro D ⟨b22, A23, c24, A25, c26, b27, A28, c29⟩ a z S F
                  refine ⟨by kernel_rfl, ?_⟩
                  exact op_buildSliceF S 11 rfl _ 1 _ 3 1 iC_i64 ([s1.edge] : List Int) F rfl (by kernel_rfl) (by kernel_rfl) (by kernel_rfl) (by unfold maxLen; omega) fun y37 z S => ⟨(b22, A23, c24, A25, c26, y37, A28, c29), rfl, ⟨rfl, rfl, rfl, rfl, rfl, rfl, rfl, rfl, rfl, rfl, rfl, rfl, trivial, trivial, trivial, trivial, trivial⟩, S⟩
                refine ⟨?_, ?_⟩
                · refine ⟨_, rfl, rfl, by kernel_rfl, ?_⟩
                  rintro D ⟨b22, A23, c24, A25, c26, b27, A28, c29⟩ a z S F
                  refine ⟨by kernel_rfl, ?_⟩
                  exact op_append S 5 _ _ _ 3 (.int .i64 0) 1 8 E ([s1.edge] : List Int) iC_i64 (some ⟨b27, 0, none⟩) 1 F iC_len_i64 (fun _ => rfl) rfl rfl (by kernel_rfl) (by kernel_rfl) rfl rfl rfl (by kernel_rfl) (by kernel_rfl) (row_none (S.rowOf (i := 11) rfl)) (src_row (S.rowOf (i := 11) rfl)) (by first | omega | (simp; omega)) fun y38 y39 z S => ⟨(b22, A23, c24, A25, c26, b27, y38, y39), rfl, ⟨rfl, rfl, rfl, rfl, rfl, rfl, rfl, rfl, rfl, rfl, rfl, rfl, rfl, trivial, trivial, trivial, trivial⟩, S⟩
                trivial
              · rintro ⟨b22, A23, c24, A25, c26, b27, A28, c29⟩ a z F S
                have F := F.sub (l := [(2, .int .i64 (tq : Nat)), (4, .pointer (some ⟨b1, 0, none⟩)), (7, .pointer (some ⟨b2, 0, none⟩)), (8, .pointer (some ⟨b3, 0, none⟩)), (11, .slice A23 ((N ++ ([(nx : Nat)] : List Int)).length) c24), (12, .slice A28 ((E ++ ([s1.edge] : List Int)).length) c29), (13, .pointer (some ⟨b7, 0, none⟩)), (14, .int .i64 (q : Nat)), (15, .pointer (some ⟨b16, 0, none⟩))]) ⟨by kernel_rfl, by kernel_rfl, by kernel_rfl, by kernel_rfl, by kernel_rfl, by kernel_rfl, by kernel_rfl, by kernel_rfl, by kernel_rfl, trivial⟩
                have S : Sat w z [rest w (· < w.heap.size), box b1 32 [.slice As x.spots.length cs, .slice Ae x.edges.length ce], box b2 26 [.int .u64 am], box b3 47 [.slice none 0 0, .slice none 0 0, .slice none 0 0], row 3 1 (.slice A23 ((N ++ ([(nx : Nat)] : List Int)).length) c24) ((N ++ ([(nx : Nat)] : List Int)).length) ((N ++ ([(nx : Nat)] : List Int)).flatMap iC_i64), row 3 1 (.slice A28 ((E ++ ([s1.edge] : List Int)).length) c29) ((E ++ ([s1.edge] : List Int)).length) ((E ++ ([s1.edge] : List Int)).flatMap iC_i64), box b7 107 [.int .i64 gq.1, .int .i64 gq.2], box b16 3 [.int .i64 (nx : Nat)], row 133 5 (.slice A20 ((stepsP x (q : Nat)).length) c21) ((stepsP x (q : Nat)).length) ((stepsP x (q : Nat)).flatMap stC), row 3 1 (.slice (some ⟨b22, 0, none⟩) 1 1) 1 (([(nx : Nat)] : List Int).flatMap iC_i64), row 133 5 (.slice A25 ((stepsP x (q : Nat)).length) c26) ((stepsP x (q : Nat)).length) ((stepsP x (q : Nat)).flatMap stC), row 3 1 (.slice (some ⟨b27, 0, none⟩) 1 1) 1 (([s1.edge] : List Int).flatMap iC_i64)] := S
                refine then_n ?_
                refine wp_region_list ?_
                refine l_do F rfl rfl (op_load _ _ (some ⟨b16, 0, none⟩) 0 (.int .i64 (nx : Nat)) F rfl (by kernel_rfl) (by kernel_rfl) (cBox S 7 rfl (j := 0) rfl) (fun a F => ?_))
                refine l_pure 1 (fun L => (14, .int .i64 (nx : Nat)) :: L) F (by kernel_rfl) fun a F => ?_
                refine l_nil (inb_n ?_)
                refine then_n ?_
                exact ⟨_, (by omega), f - 1, (N ++ ([(nx : Nat)] : List Int)), (E ++ ([s1.edge] : List Int)), A23, c24, A28, c29, nx, rfl, (by have h9 := way_next hw (nx := (nx : Nat)) (am := am) (by rw [hql]; exact hst); rw [hql, hed1] at h9; exact h9), (by simp; omega), (by rw [← hgo, show f + 1 = (f - 1 + 1) + 1 from by omega, go_on (by rw [hql]; exact hqt) hns, hql, hgoal, hnv, hed1]), (last_snoc _ _ _), hnb, F.sub ⟨by kernel_rfl, by kernel_rfl, by kernel_rfl, by kernel_rfl, by kernel_rfl, by kernel_rfl, by kernel_rfl, by kernel_rfl, trivial⟩, (S.pick [0, 1, 2, 3, 4, 5, 6] (by decide))⟩
  · skip
    have hr := ht4
    have hgr : greedyP x from_ to am = (noRt, rightP x from_ to am) := if_pos hr
    refine l_do F rfl rfl (op_pure F (v0 := .bool ((rightP x from_ to am : Int) != (0 : Int))) (v := .bool true) (by kernel_rfl) (neqT ht4) fun a F => ?_)
    refine l_then ?_
    refine c_t F rfl ?_
    refine s_reg ?_
    refine l_pure 2 (fun L => (27, .int .i64 (rightP x from_ to am)) :: (26, .agg #[.slice none 0 0, .slice none 0 0, .slice none 0 0]) :: L) F (by kernel_rfl) fun a F => ?_
    refine l_do F rfl rfl (op_storeB S 3 _ _ _ b3 0 (.agg #[.slice none 0 0, .slice none 0 0, .slice none 0 0]) F rfl rfl (by kernel_rfl) (by kernel_rfl) (by kernel_rfl) (by kernel_rfl) (by kernel_rfl) fun z S a F => ?_)
    refine l_pure 1 (fun L => (9, .int .i64 (rightP x from_ to am)) :: L) F (by kernel_rfl) fun a F => ?_
    refine l_then ?_
    refine wp_ret ?_
    refine then_r (?_)
    have S := ((((S.nilRow 3 1).nilRow 3 1).nilRow 26 1).pushBag)
    have S := bag_add (R := []) noM S 7 4 5 6 rfl rfl rfl rfl (by decide) (by decide) (by decide) (by decide) (by decide) (by decide)
    exact fin F [.cell 8 47, .tmp 9] [.agg #[.slice none 0 0, .slice none 0 0, .slice none 0 0], .int .i64 (rightP x from_ to am)] rfl ⟨⟨_, by kernel_rfl, resK S 3 (cs := [.slice none 0 0, .slice none 0 0, .slice none 0 0]) rfl (by kernel_rfl) (by kernel_rfl) (by simp)⟩, by kernel_rfl, trivial⟩ (.tuple #[.agg #[.slice none 0 0, .slice none 0 0, .slice none 0 0], .int .i64 (rightP x from_ to am)]) rfl ⟨noM, by rw [hgr]; rfl, by rw [hgr]; rfl, S.pick [0, 7] (by decide)⟩
end Go.Proofs.Ytcfpbemoocegfaa
