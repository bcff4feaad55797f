/- A route is paid: the web behind it; the law PathGoes. -/
import Derived.Test.YtcfpbemoocegfaaSent8
namespace Go.Proofs.Ytcfpbemoocegfaa
set_option linter.unusedVariables false
set_option linter.unusedSimpArgs false
set_option linter.unnecessarySimpa false
open Go Go.RowKit

/-- The web behind a route, or why there is none. -/
def lensP (E N A : List Int) : Prop := E.length = A.length ∧ N.length = E.length + 1
instance (E N A : List Int) : Decidable (lensP E N A) := by unfold lensP; infer_instance
def goX (x : Wb) (E N A : List Int) : Wb × Int := if lensP E N A then goR x E N A else (noWeb, 1)
theorem goX_bad {x : Wb} {E N A : List Int} {y : Wb} {er : Int} (hg : goX x E N A = (y, er)) (h : ¬ lensP E N A) : y = noWeb ∧ er = 1 := by
  unfold goX at hg; rw [if_neg h] at hg; cases hg; exact ⟨rfl, rfl⟩
theorem goX_in {x : Wb} {E N A : List Int} {y : Wb} {er : Int} (hg : goX x E N A = (y, er)) (h : lensP E N A) : goR x E N A = (y, er) := by
  unfold goX at hg; rwa [if_pos h] at hg
theorem goX_chk {x : Wb} {E N A : List Int} {y : Wb} {er : Int} (hg : goX x E N A = (y, er)) (h : lensP E N A) (hc : chkP x ≠ 0) : y = noWeb ∧ er = chkP x := by
  have h1 := goX_in hg h; rw [goR_bad hc] at h1; cases h1; exact ⟨rfl, rfl⟩
theorem goL_err {y : Wb} {er : Int} (he : er ≠ 0) : ∀ (L : List (Int × Int × Int)) (x : Wb), goL x L = (y, er) → y = noWeb
  | [], x, hg => by cases hg; exact absurd rfl he
  | t :: L, x, hg => by
    unfold goL at hg
    split at hg
    · exact goL_err he L _ hg
    · cases hg; rfl
theorem goX_err {x : Wb} {E N A : List Int} {y : Wb} {er : Int} (hg : goX x E N A = (y, er)) (he : er ≠ 0) : y = noWeb := by
  unfold goX at hg
  split at hg
  · unfold goR at hg
    split at hg
    · exact goL_err he _ _ hg
    · cases hg; rfl
  · cases hg; rfl
theorem goX_fit {x : Wb} (ok : x.Ok) {E N A : List Int} (hA : ∀ a ∈ A, U64 a) {y : Wb} {er : Int} (hg : goX x E N A = (y, er)) : y.Ok ∧ y.spots.length ≤ x.spots.length ∧ y.edges.length ≤ x.edges.length := by
  unfold goX at hg
  split at hg
  · have h := goR_fit ok (E := E) (N := N) hA
    rw [hg] at h; exact h
  · cases hg; exact ⟨noWeb_ok8, Nat.zero_le _, Nat.zero_le _⟩
theorem goX_cases {x : Wb} {E N A : List Int} {y : Wb} {er : Int} (hg : goX x E N A = (y, er)) : (¬ lensP E N A ∧ y = noWeb ∧ er = 1) ∨ (lensP E N A ∧ chkP x = 0 ∧ E.length = 0 ∧ er = 0 ∧ y = x) ∨ (lensP E N A ∧ ¬ (E.length = 0 ∧ er = 0)) := by
  by_cases h : lensP E N A
  · by_cases h0 : E.length = 0 ∧ er = 0
    · have h1 := goX_in hg h
      by_cases hc : chkP x = 0
      · rw [goR_nil hc h0.1] at h1
        injection h1 with h1 h2
        exact .inr (.inl ⟨h, hc, h0.1, h0.2, h1.symm⟩)
      · have h2 := goX_chk hg h hc
        exact absurd (h2.2.symm.trans h0.2) hc
    · exact .inr (.inr ⟨h, h0⟩)
  · obtain ⟨h1, h2⟩ := goX_bad hg h
    exact .inl ⟨h, h1, h2⟩
theorem goL_end {x y z : Wb} {E N A : List Int} {i : Nat} {er : Int} (h : goL y ((trips E N A).drop i) = goR x E N A) (hi : E.length ≤ i) (hg : goR x E N A = (z, er)) : y = z ∧ 0 = er := by
  rw [trips_end hi, hg] at h
  injection h with h1 h2
  exact ⟨h1, h2⟩
theorem goL_step {x y z : Wb} {E N A : List Int} {i : Nat} {e n a er : Int} (h : goL y ((trips E N A).drop i) = goR x E N A) (h1 : E[i]? = some e) (h2 : N[i]? = some n) (h3 : A[i]? = some a) (hs : sentP y e n a = (z, er)) : (er = 0 → goL z ((trips E N A).drop (i + 1)) = goR x E N A) ∧ (er ≠ 0 → goR x E N A = (noWeb, er)) := by
  rw [trips_at h1 h2 h3] at h
  refine ⟨fun h0 => ?_, fun h0 => ?_⟩
  · rw [goL_on hs h0] at h; exact h
  · rw [goL_off hs h0] at h; exact h.symm
theorem sent_ok9 {x y : Wb} (ok : x.Ok) {e n a er : Int} (hn : U64 a) (h : sentP x e n a = (y, er)) : y.Ok ∧ y.spots.length ≤ x.spots.length ∧ y.edges.length ≤ x.edges.length := by
  have h1 := sent_ok8 ok (edge := e) (node := n) hn
  rw [h] at h1; exact h1
theorem sent_spots {x y : Wb} {e n a er : Int} (h : sentP x e n a = (y, er)) (h0 : er = 0) : y.spots = x.spots := by
  unfold sentP at h
  repeat' split at h
  all_goals (obtain ⟨h1, h2⟩ := Prod.mk.inj h; subst h1; first | omega | rfl)
theorem recs_nil9 {α : Type} {k : Nat} {f : α → List Value} (w : World) : Recs k f w none 0 ([] : List α) := ⟨fun _ => ⟨rfl, rfl⟩, srcNil _, by simp⟩
set_option maxRecDepth 100000 in
set_option maxHeartbeats 4000000 in
theorem goes_at (w : World) (As : Option Addr) (cs : Nat) (Ae : Option Addr) (ce : Nat) (x : Wb) (h : WebAt w As cs Ae ce x) (ok : x.Ok) (An : Option Addr) (cn : Nat) (N : List Int) (hN : Recs 1 iC_i64 w An cn N) (Aed : Option Addr) (ced : Nat) (E : List Int) (hE : Recs 1 iC_i64 w Aed ced E) (Aa : Option Addr) (ca : Nat) (A : List Int) (hA : Recs 1 iC_u64 w Aa ca A) (hAu : ∀ a ∈ A, U64 a) (hl1 : x.spots.length ≤ 1000) (hl2 : x.edges.length ≤ 1000) {yr : Wb} {er : Int} (hg : goX x E N A = (yr, er)) : Calls Try.prog 26 #[.agg #[.slice An N.length cn, .slice Aed E.length ced, .slice Aa A.length ca], .agg #[.slice As x.spots.length cs, .slice Ae x.edges.length ce]] w fun e w' => ∃ A1 c1 A2 c2, e = .returned (.tuple #[.agg #[.slice A1 yr.spots.length c1, .slice A2 yr.edges.length c2], .int .i64 er]) ∧ (((lensP E N A ∧ E.length = 0 ∧ er = 0) ∧ A1 = As ∧ c1 = cs ∧ A2 = Ae ∧ c2 = ce ∧ Sat w w' [rest w (· < w.heap.size)]) ∨ (¬ (lensP E N A ∧ E.length = 0 ∧ er = 0) ∧ Sat w w' [rest w (· < w.heap.size), row 107 2 (.slice A1 yr.spots.length c1) yr.spots.length (yr.spots.flatMap spC), row 62 8 (.slice A2 yr.edges.length c2) yr.edges.length (yr.edges.flatMap edC)])) := by
 refine enter 64 Try.func26 rfl rfl rfl fun a F => ?_
 have hN9 := hN.len
 have hE9 := hE.len
 have hA9 := hA.len
 have S := Sat.pushRest w
 refine s_reg ?_
 refine l_do F rfl rfl (op_box S _ _ (.agg #[.slice An N.length cn, .slice Aed E.length ced, .slice Aa A.length ca]) F rfl (by kernel_rfl) fun b1 z S a F => ?_)
 refine l_do F rfl rfl (op_box S _ _ (.agg #[.slice As x.spots.length cs, .slice Ae x.edges.length ce]) F rfl (by kernel_rfl) fun b2 z S a F => ?_)
 refine l_do F rfl rfl (op_alloc S _ (.agg #[.slice none 0 0, .slice none 0 0]) rfl (by kernel_rfl) fun b3 z S a F => ?_)
 refine l_pure 1 (fun L => (5, .int .i64 0) :: L) F (by kernel_rfl) fun a F => ?_
 refine l_then ?_
 refine wp_seq ?_
 refine s_reg ?_
 refine l_pure 1 (fun L => (10, .pointer (some ⟨b1, 1, none⟩)) :: L) F (by kernel_rfl) fun a F => ?_
 refine l_do F rfl rfl (op_load _ _ (some ⟨b1, 0, none⟩) 1 (.slice Aed E.length ced) F rfl (by kernel_rfl) (by kernel_rfl) (cBox S 1 rfl (j := 1) rfl) (fun a F => ?_))
 refine l_pure 2 (fun L => (13, .pointer (some ⟨b1, 2, none⟩)) :: (12, .int .i64 (E.length : Nat)) :: L) F (by kernel_rfl) fun a F => ?_
 refine l_do F rfl rfl (op_load _ _ (some ⟨b1, 0, none⟩) 2 (.slice Aa A.length ca) F rfl (by kernel_rfl) (by kernel_rfl) (cBox S 1 rfl (j := 2) rfl) (fun a F => ?_))
 refine l_pure 1 (fun L => (15, .int .i64 (A.length : Nat)) :: L) F (by kernel_rfl) fun a F => ?_
 by_cases ht4 : ((E.length : Nat) : Int) = ((A.length : Nat) : Int)
 ·
  skip
  have hlA := ht4
  refine l_do F rfl rfl (op_pure F (v0 := .bool (((E.length : Nat) : Int) != ((A.length : Nat) : Int))) (v := .bool false) (by kernel_rfl) (neqF ht4) fun a F => ?_)
  refine l_pure 2 (fun L => (18, .pointer (some ⟨b1, 0, none⟩)) :: (17, .bool false) :: L) F (by kernel_rfl) fun a F => ?_
  refine l_do F rfl rfl (op_load _ _ (some ⟨b1, 0, none⟩) 0 (.slice An N.length cn) F rfl (by kernel_rfl) (by kernel_rfl) (cBox S 1 rfl (j := 0) rfl) (fun a F => ?_))
  refine l_pure 2 (fun L => (21, .pointer (some ⟨b1, 1, none⟩)) :: (20, .int .i64 (N.length : Nat)) :: L) F (by kernel_rfl) fun a F => ?_
  refine l_do F rfl rfl (op_load _ _ (some ⟨b1, 0, none⟩) 1 (.slice Aed E.length ced) F rfl (by kernel_rfl) (by kernel_rfl) (cBox S 1 rfl (j := 1) rfl) (fun a F => ?_))
  refine l_pure 1 (fun L => (23, .int .i64 (E.length : Nat)) :: L) F (by kernel_rfl) fun a F => ?_
  refine l_do F rfl rfl (op_pure F (v0 := .int .i64 (IntKind.wrap .i64 ((E.length : Nat) + 1))) (v := .int .i64 (E.length + 1 : Nat)) (by kernel_rfl) (wrn_i64 (by omega) (by omega) (by omega)) fun a F => ?_)
  by_cases ht5 : ((N.length : Nat) : Int) = ((E.length + 1 : Nat) : Int)
  ·
   skip
   have hlN := ht5
   have hlens : lensP E N A := ⟨by omega, by omega⟩
   refine l_do F rfl rfl (op_pure F (v0 := .bool (((N.length : Nat) : Int) != ((E.length + 1 : Nat) : Int))) (v := .bool false) (by kernel_rfl) (neqF ht5) fun a F => ?_)
   refine l_pure 1 (fun L => (26, .bool false) :: L) F (by kernel_rfl) fun a F => ?_
   refine l_then ?_
   refine c_f F rfl ?_
   refine wp_skip ?_
   refine then_n ?_
   refine wp_seq ?_
   refine s_reg ?_
   refine l_do F rfl rfl (op_loadK _ _ (some ⟨b2, 0, none⟩) 0 [.slice As x.spots.length cs, .slice Ae x.edges.length ce] F rfl (by kernel_rfl) (by kernel_rfl) (by kernel_rfl) (by simp) (cBoxK S 2 rfl 0 (by kernel_rfl)) (fun a F => ?_))
   refine l_do F rfl rfl (op_fn F (by kernel_rfl) (check_any _ As cs Ae ce x (h.move S rfl) ok) ?_)
   rintro e z ⟨rfl, hb⟩
   have S := S.grow hb
   refine ⟨_, rfl, ?_⟩
   intro a F
   refine l_pure 1 (fun L => (6, .int .i64 (chkP x)) :: L) F (by kernel_rfl) fun a F => ?_
   refine l_then ?_
   refine s_reg ?_
   refine l_pure 1 (fun L => (30, .int .i64 (chkP x)) :: L) F (by kernel_rfl) fun a F => ?_
   by_cases ht6 : (chkP x : Int) = (0 : Int)
   ·
    skip
    have hc := ht6
    refine l_do F rfl rfl (op_pure F (v0 := .bool ((chkP x : Int) != (0 : Int))) (v := .bool false) (by kernel_rfl) (neqF ht6) fun a F => ?_)
    refine l_then ?_
    refine c_f F rfl ?_
    refine wp_skip ?_
    refine then_n ?_
    refine wp_seq ?_
    refine s_reg ?_
    refine l_pure 1 (fun L => (34, .pointer (some ⟨b1, 1, none⟩)) :: L) F (by kernel_rfl) fun a F => ?_
    refine l_do F rfl rfl (op_load _ _ (some ⟨b1, 0, none⟩) 1 (.slice Aed E.length ced) F rfl (by kernel_rfl) (by kernel_rfl) (cBox S 1 rfl (j := 1) rfl) (fun a F => ?_))
    refine l_pure 2 (fun L => (37, .int .i64 0) :: (36, .int .i64 (E.length : Nat)) :: L) F (by kernel_rfl) fun a F => ?_
    refine l_then ?_
    refine wp_block ?_
    refine wp_loop_m (fun m a z => ∃ (i : Nat) (y : Wb) (B1 : Option Addr) (d1 : Nat) (B2 : Option Addr) (d2 : Nat), m = E.length - i ∧ (i ≤ E.length) ∧ (goL y ((trips E N A).drop i) = goR x E N A) ∧ y.Ok ∧ (y.spots.length ≤ 1000) ∧ (y.edges.length ≤ 1000) ∧ (i = 0 → As = B1 ∧ cs = d1 ∧ Ae = B2 ∧ ce = d2) ∧ Fr a 64 [(2, .pointer (some ⟨b1, 0, none⟩)), (3, .pointer (some ⟨b2, 0, none⟩)), (4, .pointer (some ⟨b3, 0, none⟩)), (35, .slice Aed E.length ced), (36, .int .i64 (E.length : Nat)), (37, .int .i64 (i : Nat))] ∧ Sat w z [rest w (· < w.heap.size), box b1 47 [.slice An N.length cn, .slice Aed E.length ced, .slice Aa A.length ca], box b2 32 [.slice B1 y.spots.length d1, .slice B2 y.edges.length d2], box b3 32 [.slice none 0 0, .slice none 0 0], rowI i w 107 2 spC B1 d1 y.spots, rowI i w 62 8 edC B2 d2 y.edges]) _ ⟨0, x, As, cs, Ae, ce, rfl, Nat.zero_le _, goR_ok hc, ok, hl1, hl2, (fun _ => ⟨rfl, rfl, rfl, rfl⟩), F.sub ⟨by kernel_rfl, by kernel_rfl, by kernel_rfl, by kernel_rfl, by kernel_rfl, by kernel_rfl, trivial⟩, ((S.pushI 107 h.s).pushI 62 h.e)⟩ ?_
    rintro m a z ⟨i, y, B1, d1, B2, d2, hm, hf7, hf8, hf9, hf10, hf11, hf12, F, S⟩
    have hgo := hf8
    have oky := hf9
    have hy1 := hf10
    have hy2 := hf11
    have hz := hf12
    refine s_reg ?_
    by_cases ht13 : ((i : Nat) : Int) < ((E.length : Nat) : Int)
    ·
     skip
     obtain ⟨eg, heg⟩ : ∃ eg, E[i]? = some eg := ⟨_, List.getElem?_eq_getElem (by omega)⟩
     obtain ⟨nd, hnd⟩ : ∃ nd, N[i]? = some nd := ⟨_, List.getElem?_eq_getElem (by omega)⟩
     obtain ⟨am, ham⟩ : ∃ am, A[i]? = some am := ⟨_, List.getElem?_eq_getElem (by omega)⟩
     have hua := hAu am (List.mem_of_getElem? ham)
     obtain ⟨y2, er2, hs2⟩ : ∃ y2 er2, sentP y eg nd am = (y2, er2) := ⟨_, _, rfl⟩
     obtain ⟨hst0, hst1⟩ := goL_step hgo heg hnd ham hs2
     obtain ⟨oky2, hy3, hy4⟩ := sent_ok9 oky hua hs2
     refine l_do F rfl rfl (op_pure F (v0 := .bool (decide (((i : Nat) : Int) < ((E.length : Nat) : Int)))) (v := .bool true) (by kernel_rfl) (lssT ht13) fun a F => ?_)
     refine l_then ?_
     refine wp_seq ?_
     refine c_t F rfl ?_
     refine wp_skip ?_
     refine then_n ?_
     refine wp_seq ?_
     refine wp_block ?_
     refine s_reg ?_
     refine l_pure 1 (fun L => (39, .int .i64 (i : Nat)) :: L) F (by kernel_rfl) fun a F => ?_
     refine l_do F rfl rfl (op_index _ 3 _ _ Aed E.length ced i 1 .i64 F rfl (by kernel_rfl) (by kernel_rfl) (by kernel_rfl) (by kernel_rfl) (get_lt heg) (recs_some hE (m := i) (get_lt heg)) (fun a F => ?_))
     refine l_do F rfl rfl (op_load _ _ Aed (i * 1) (.int .i64 eg) F rfl (by kernel_rfl) (by kernel_rfl) (cOld S 0 iC_len_i64 hE rfl 0 heg rfl) (fun a F => ?_))
     refine l_pure 2 (fun L => (8, .int .i64 eg) :: (7, .int .i64 (i : Nat)) :: L) F (by kernel_rfl) fun a F => ?_
     refine l_then ?_
     refine s_reg ?_
     refine l_pure 1 (fun L => (9, .int .i64 0) :: L) F (by kernel_rfl) fun a F => ?_
     refine l_then ?_
     refine wp_seq ?_
     have S := S.pushEmp.pushEmp
     refine region_gx (fun D => fun ((A14, c15, A16, c17) : Option Addr × Nat × Option Addr × Nat) => [rest w (· < w.heap.size), box b1 47 [.slice An N.length cn, .slice Aed E.length ced, .slice Aa A.length ca], bif D 16 then box b2 32 [.slice A14 y2.spots.length c15, .slice A16 y2.edges.length c17] else box b2 32 [.slice B1 y.spots.length d1, .slice B2 y.edges.length d2], box b3 32 [.slice none 0 0, .slice none 0 0], rowI i w 107 2 spC B1 d1 y.spots, rowI i w 62 8 edC B2 d2 y.edges, bif D 12 then row 107 2 (.slice A14 y2.spots.length c15) y2.spots.length (y2.spots.flatMap spC) else emp, bif D 12 then row 62 8 (.slice A16 y2.edges.length c17) y2.edges.length (y2.edges.flatMap edC) else emp]) (fun ((A14, c15, A16, c17) : Option Addr × Nat × Option Addr × Nat) => [.agg #[.slice B1 y.spots.length d1, .slice B2 y.edges.length d2], .int .i64 eg, .pointer (some ⟨b1, 0, none⟩), .slice An N.length cn, .int .i64 (i : Nat), ptrA An (i * 1), .int .i64 nd, .pointer (some ⟨b1, 2, none⟩), .slice Aa A.length ca, .int .i64 (i : Nat), ptrA Aa (i * 1), .int .u64 am, .tuple #[.agg #[.slice A14 y2.spots.length c15, .slice A16 y2.edges.length c17], .int .i64 er2], .tuple #[.agg #[.slice A14 y2.spots.length c15, .slice A16 y2.edges.length c17], .int .i64 er2], .agg #[.slice A14 y2.spots.length c15, .slice A16 y2.edges.length c17], .int .i64 er2, undef, .int .i64 er2]) [(0, [], [12, 16]), (3, [], [5, 6, 12, 16]), (5, [3], [6, 12, 16]), (6, [3, 5], [12, 16]), (8, [], [10, 11, 12, 16]), (10, [8], [11, 12, 16]), (11, [8, 10], [12, 16]), (12, [0, 3, 5, 6, 8, 10, 11], [16]), (16, [0, 3, 5, 6, 8, 10, 11, 12], [])] (none, 0, none, 0) rfl (by kernel_rfl) (by kernel_rfl) F S.drew ?_ ?_ ?_ ?_ ?_
     · rintro ⟨A14, c15, A16, c17⟩; rfl
     · rintro ⟨A14, c15, A16, c17⟩; kernel_rfl
     ·
      intro D D' x h
      obtain ⟨A14, c15, A16, c17⟩ := x
      simp only [h 12 (by decide), h 16 (by decide)]
     ·
      refine ⟨?_, ?_⟩
      ·
       refine ⟨_, rfl, rfl, by kernel_rfl, ?_⟩
       rintro D ⟨A14, c15, A16, c17⟩ a z S F
       refine ⟨by kernel_rfl, ?_⟩
       exact op_loadK _ _ (some ⟨b2, 0, none⟩) 0 [.slice B1 y.spots.length d1, .slice B2 y.edges.length d2] F rfl (by kernel_rfl) (by kernel_rfl) (by kernel_rfl) (by simp) (cBoxK S 2 rfl 0 (by kernel_rfl)) (⟨(A14, c15, A16, c17), rfl, (SameB.refl _ _ rfl), S⟩)
      refine ⟨?_, ?_⟩
      ·
       refine ⟨_, rfl, rfl, by kernel_rfl, ?_⟩
       rintro D ⟨A14, c15, A16, c17⟩ a z S F
       refine ⟨by kernel_rfl, ?_⟩
       exact op_load _ _ (some ⟨b1, 0, none⟩) 0 (.slice An N.length cn) F rfl (by kernel_rfl) (by kernel_rfl) (cBox S 1 rfl (j := 0) rfl) (⟨(A14, c15, A16, c17), rfl, (SameB.refl _ _ rfl), S⟩)
      refine ⟨?_, ?_⟩
      ·
       refine ⟨_, rfl, rfl, by kernel_rfl, ?_⟩
       rintro D ⟨A14, c15, A16, c17⟩ a z S F
       refine ⟨by kernel_rfl, ?_⟩
       exact op_index _ 3 _ _ An N.length cn i 1 .i64 F rfl (by kernel_rfl) (by kernel_rfl) (by kernel_rfl) (by kernel_rfl) (get_lt hnd) (recs_some hN (m := i) (get_lt hnd)) (⟨(A14, c15, A16, c17), rfl, (SameB.refl _ _ rfl), S⟩)
      refine ⟨?_, ?_⟩
      ·
       refine ⟨_, rfl, rfl, by kernel_rfl, ?_⟩
       rintro D ⟨A14, c15, A16, c17⟩ a z S F
       refine ⟨by kernel_rfl, ?_⟩
       exact op_load _ _ An (i * 1) (.int .i64 nd) F rfl (by kernel_rfl) (by kernel_rfl) (cOld S 0 iC_len_i64 hN rfl 0 hnd rfl) (⟨(A14, c15, A16, c17), rfl, (SameB.refl _ _ rfl), S⟩)
      refine ⟨?_, ?_⟩
      ·
       refine ⟨_, rfl, rfl, by kernel_rfl, ?_⟩
       rintro D ⟨A14, c15, A16, c17⟩ a z S F
       refine ⟨by kernel_rfl, ?_⟩
       exact op_load _ _ (some ⟨b1, 0, none⟩) 2 (.slice Aa A.length ca) F rfl (by kernel_rfl) (by kernel_rfl) (cBox S 1 rfl (j := 2) rfl) (⟨(A14, c15, A16, c17), rfl, (SameB.refl _ _ rfl), S⟩)
      refine ⟨?_, ?_⟩
      ·
       refine ⟨_, rfl, rfl, by kernel_rfl, ?_⟩
       rintro D ⟨A14, c15, A16, c17⟩ a z S F
       refine ⟨by kernel_rfl, ?_⟩
       exact op_index _ 26 _ _ Aa A.length ca i 1 .i64 F rfl (by kernel_rfl) (by kernel_rfl) (by kernel_rfl) (by kernel_rfl) (get_lt ham) (recs_some hA (m := i) (get_lt ham)) (⟨(A14, c15, A16, c17), rfl, (SameB.refl _ _ rfl), S⟩)
      refine ⟨?_, ?_⟩
      ·
       refine ⟨_, rfl, rfl, by kernel_rfl, ?_⟩
       rintro D ⟨A14, c15, A16, c17⟩ a z S F
       refine ⟨by kernel_rfl, ?_⟩
       exact op_load _ _ Aa (i * 1) (.int .u64 am) F rfl (by kernel_rfl) (by kernel_rfl) (cOld S 0 iC_len_u64 hA rfl 0 ham rfl) (⟨(A14, c15, A16, c17), rfl, (SameB.refl _ _ rfl), S⟩)
      refine ⟨?_, ?_⟩
      ·
       refine ⟨_, rfl, rfl, by kernel_rfl, ?_⟩
       rintro D ⟨A14, c15, A16, c17⟩ a z S F
       refine ⟨by kernel_rfl, ?_⟩
       refine op_fn F (by kernel_rfl) (psent_at _ B1 d1 B2 d2 y ⟨(rowI_recs S 0 4 rfl rfl hy1), (rowI_recs S 0 5 rfl rfl hy2)⟩ oky eg nd am hua hy1 hy2 hs2) ?_
       rintro e z ⟨y18, y19, y20, y21, rfl, g⟩
       have S := S.fillThing2 6 7 rfl rfl (by decide) g
       exact ⟨_, rfl, (y18, y19, y20, y21), rfl, ⟨rfl, rfl, rfl, rfl, rfl, rfl, rfl, rfl, rfl, rfl, rfl, rfl, trivial, trivial, trivial, trivial, trivial, trivial, trivial⟩, S⟩
      refine ⟨?_, ?_⟩
      ·
       refine ⟨_, rfl, rfl, by kernel_rfl, ?_⟩
       rintro D ⟨A14, c15, A16, c17⟩ a z S F
       refine ⟨by kernel_rfl, ?_⟩
       exact op_storeB S 2 _ _ _ b2 0 (.agg #[.slice A14 y2.spots.length c15, .slice A16 y2.edges.length c17]) F rfl rfl (by kernel_rfl) (by kernel_rfl) (by kernel_rfl) (by kernel_rfl) (by kernel_rfl) fun z S => ⟨(A14, c15, A16, c17), rfl, (SameB.refl _ _ rfl), S⟩
      trivial
     ·
      rintro ⟨A14, c15, A16, c17⟩ a z F S
      have F := F.sub (l := [(2, .pointer (some ⟨b1, 0, none⟩)), (3, .pointer (some ⟨b2, 0, none⟩)), (4, .pointer (some ⟨b3, 0, none⟩)), (9, .int .i64 er2), (35, .slice Aed E.length ced), (36, .int .i64 (E.length : Nat)), (37, .int .i64 (i : Nat))]) ⟨by kernel_rfl, by kernel_rfl, by kernel_rfl, by kernel_rfl, by kernel_rfl, by kernel_rfl, by kernel_rfl, trivial⟩
      have S : Sat w z [rest w (· < w.heap.size), box b1 47 [.slice An N.length cn, .slice Aed E.length ced, .slice Aa A.length ca], box b2 32 [.slice A14 y2.spots.length c15, .slice A16 y2.edges.length c17], box b3 32 [.slice none 0 0, .slice none 0 0], rowI i w 107 2 spC B1 d1 y.spots, rowI i w 62 8 edC B2 d2 y.edges, row 107 2 (.slice A14 y2.spots.length c15) y2.spots.length (y2.spots.flatMap spC), row 62 8 (.slice A16 y2.edges.length c17) y2.edges.length (y2.edges.flatMap edC)] := S
      refine then_n ?_
      refine s_reg ?_
      refine l_pure 1 (fun L => (58, .int .i64 er2) :: L) F (by kernel_rfl) fun a F => ?_
      by_cases ht26 : (er2 : Int) = (0 : Int)
      ·
       skip
       have he2 := ht26
       have hgo2 := hst0 he2
       refine l_do F rfl rfl (op_pure F (v0 := .bool ((er2 : Int) != (0 : Int))) (v := .bool false) (by kernel_rfl) (neqF ht26) fun a F => ?_)
       refine l_then ?_
       refine c_f F rfl ?_
       refine wp_skip ?_
       refine inb_n ?_
       refine then_n ?_
       refine wp_region_list ?_
       refine l_do F rfl rfl (op_pure F (v0 := .int .i64 (IntKind.wrap .i64 ((i : Nat) + 1))) (v := .int .i64 (i + 1 : Nat)) (by kernel_rfl) (wrn_i64 (by omega) (by omega) (by omega)) fun a F => ?_)
       refine l_pure 1 (fun L => (37, .int .i64 (i + 1 : Nat)) :: L) F (by kernel_rfl) fun a F => ?_
       refine l_then ?_
       have S := (S.toI i 6 rfl).toI i 7 rfl
       have S : Sat w z [rest w (· < w.heap.size), box b1 47 [.slice An N.length cn, .slice Aed E.length ced, .slice Aa A.length ca], box b2 32 [.slice A14 y2.spots.length c15, .slice A16 y2.edges.length c17], box b3 32 [.slice none 0 0, .slice none 0 0], rowI i w 107 2 spC B1 d1 y.spots, rowI i w 62 8 edC B2 d2 y.edges, rowI (i + 1) w 107 2 spC A14 c15 y2.spots, rowI (i + 1) w 62 8 edC A16 c17 y2.edges] := S
       exact ⟨_, (by omega), i + 1, y2, A14, c15, A16, c17, rfl, (by omega), hgo2, oky2, (by omega), (by omega), (fun h9 => absurd h9 (Nat.succ_ne_zero i)), F.sub ⟨by kernel_rfl, by kernel_rfl, by kernel_rfl, by kernel_rfl, by kernel_rfl, by kernel_rfl, trivial⟩, (S.pick [0, 1, 2, 3, 6, 7] (by decide))⟩
      ·
       skip
       have he2 := ht26
       have h9 := hst1 he2
       rw [goX_in hg hlens] at h9
       obtain ⟨rfl, rfl⟩ := Prod.mk.inj h9.symm
       refine l_do F rfl rfl (op_pure F (v0 := .bool ((er2 : Int) != (0 : Int))) (v := .bool true) (by kernel_rfl) (neqT ht26) fun a F => ?_)
       refine l_then ?_
       refine c_t F rfl ?_
       refine s_reg ?_
       refine l_pure 2 (fun L => (61, .int .i64 er2) :: (60, .agg #[.slice none 0 0, .slice none 0 0]) :: L) F (by kernel_rfl) fun a F => ?_
       refine l_do F rfl rfl (op_storeB S 3 _ _ _ b3 0 (.agg #[.slice none 0 0, .slice none 0 0]) F rfl rfl (by kernel_rfl) (by kernel_rfl) (by kernel_rfl) (by kernel_rfl) (by kernel_rfl) fun z S a F => ?_)
       refine l_pure 1 (fun L => (5, .int .i64 er2) :: L) F (by kernel_rfl) fun a F => ?_
       refine l_then ?_
       refine wp_ret ?_
       refine inb_r (then_r (then_r (inb_r (then_r (?_)))))
       exact fin F [.cell 4 32, .tmp 5] [.agg #[.slice none 0 0, .slice none 0 0], .int .i64 er2] rfl ⟨⟨_, by kernel_rfl, resK S 3 (cs := [.slice none 0 0, .slice none 0 0]) rfl (by kernel_rfl) (by kernel_rfl) (by simp)⟩, by kernel_rfl, trivial⟩ (.tuple #[.agg #[.slice none 0 0, .slice none 0 0], .int .i64 er2]) rfl ⟨none, 0, none, 0, rfl, .inr ⟨(fun h9 => he2 h9.2.2), ((S.nilRow 107 2).nilRow 62 8).pick [0, 8, 9] (by decide)⟩⟩
    ·
     skip
     obtain ⟨rfl, rfl⟩ := goL_end hgo (by omega) (goX_in hg hlens)
     refine l_do F rfl rfl (op_pure F (v0 := .bool (decide (((i : Nat) : Int) < ((E.length : Nat) : Int)))) (v := .bool false) (by kernel_rfl) (lssF ht13) fun a F => ?_)
     refine l_then ?_
     refine wp_seq ?_
     refine c_f F rfl ?_
     refine wp_exit ?_
     refine then_x ?_
     refine then_x ?_
     refine inb_x ?_
     refine then_n ?_
     refine s_reg ?_
     refine l_do F rfl rfl (op_loadK _ _ (some ⟨b2, 0, none⟩) 0 [.slice B1 y.spots.length d1, .slice B2 y.edges.length d2] F rfl (by kernel_rfl) (by kernel_rfl) (by kernel_rfl) (by simp) (cBoxK S 2 rfl 0 (by kernel_rfl)) (fun a F => ?_))
     refine l_do F rfl rfl (op_storeB S 3 _ _ _ b3 0 (.agg #[.slice B1 y.spots.length d1, .slice B2 y.edges.length d2]) F rfl rfl (by kernel_rfl) (by kernel_rfl) (by kernel_rfl) (by kernel_rfl) (by kernel_rfl) fun z S a F => ?_)
     refine l_pure 1 (fun L => (5, .int .i64 0) :: L) F (by kernel_rfl) fun a F => ?_
     refine l_then ?_
     refine wp_ret ?_
     have hi9 : i = E.length := by omega
     exact fin F [.cell 4 32, .tmp 5] [.agg #[.slice B1 y.spots.length d1, .slice B2 y.edges.length d2], .int .i64 0] rfl ⟨⟨_, by kernel_rfl, resK S 3 (cs := [.slice B1 y.spots.length d1, .slice B2 y.edges.length d2]) rfl (by kernel_rfl) (by kernel_rfl) (by simp)⟩, by kernel_rfl, trivial⟩ (.tuple #[.agg #[.slice B1 y.spots.length d1, .slice B2 y.edges.length d2], .int .i64 0]) rfl (by
       rcases Nat.eq_zero_or_pos i with h0 | h0
       · obtain ⟨rfl, rfl, rfl, rfl⟩ := hz h0
         exact ⟨_, _, _, _, rfl, .inl ⟨⟨hlens, by omega, rfl⟩, rfl, rfl, rfl, rfl, S.pick [0] (by decide)⟩⟩
       · exact ⟨_, _, _, _, rfl, .inr ⟨fun h9 => absurd h9.2.1 (by omega), ((S.ofI h0 4 rfl).ofI h0 5 rfl).pick [0, 4, 5] (by decide)⟩⟩)
   ·
    skip
    have hc := ht6
    obtain ⟨rfl, rfl⟩ := goX_chk hg hlens hc
    refine l_do F rfl rfl (op_pure F (v0 := .bool ((chkP x : Int) != (0 : Int))) (v := .bool true) (by kernel_rfl) (neqT ht6) fun a F => ?_)
    refine l_then ?_
    refine c_t F rfl ?_
    refine s_reg ?_
    refine l_pure 2 (fun L => (33, .int .i64 (chkP x)) :: (32, .agg #[.slice none 0 0, .slice none 0 0]) :: L) F (by kernel_rfl) fun a F => ?_
    refine l_do F rfl rfl (op_storeB S 3 _ _ _ b3 0 (.agg #[.slice none 0 0, .slice none 0 0]) F rfl rfl (by kernel_rfl) (by kernel_rfl) (by kernel_rfl) (by kernel_rfl) (by kernel_rfl) fun z S a F => ?_)
    refine l_pure 1 (fun L => (5, .int .i64 (chkP x)) :: L) F (by kernel_rfl) fun a F => ?_
    refine l_then ?_
    refine wp_ret ?_
    refine then_r (?_)
    exact fin F [.cell 4 32, .tmp 5] [.agg #[.slice none 0 0, .slice none 0 0], .int .i64 (chkP x)] rfl ⟨⟨_, by kernel_rfl, resK S 3 (cs := [.slice none 0 0, .slice none 0 0]) rfl (by kernel_rfl) (by kernel_rfl) (by simp)⟩, by kernel_rfl, trivial⟩ (.tuple #[.agg #[.slice none 0 0, .slice none 0 0], .int .i64 (chkP x)]) rfl ⟨none, 0, none, 0, rfl, .inr ⟨(fun h9 => hc h9.2.2), ((S.nilRow 107 2).nilRow 62 8).pick [0, 4, 5] (by decide)⟩⟩
  ·
   skip
   have hlN := ht5
   obtain ⟨rfl, rfl⟩ := goX_bad hg (fun h9 => ht5 (by have := h9.2; omega))
   have hlens : ¬ lensP E N A := fun h9 => ht5 (by have := h9.2; omega)
   refine l_do F rfl rfl (op_pure F (v0 := .bool (((N.length : Nat) : Int) != ((E.length + 1 : Nat) : Int))) (v := .bool true) (by kernel_rfl) (neqT ht5) fun a F => ?_)
   refine l_pure 1 (fun L => (26, .bool true) :: L) F (by kernel_rfl) fun a F => ?_
   refine l_then ?_
   refine c_t F rfl ?_
   refine s_reg ?_
   refine l_pure 1 (fun L => (27, .agg #[.slice none 0 0, .slice none 0 0]) :: L) F (by kernel_rfl) fun a F => ?_
   refine l_do F rfl rfl (op_storeB S 3 _ _ _ b3 0 (.agg #[.slice none 0 0, .slice none 0 0]) F rfl rfl (by kernel_rfl) (by kernel_rfl) (by kernel_rfl) (by kernel_rfl) (by kernel_rfl) fun z S a F => ?_)
   refine l_pure 1 (fun L => (5, .int .i64 1) :: L) F (by kernel_rfl) fun a F => ?_
   refine l_then ?_
   refine wp_ret ?_
   refine then_r (?_)
   exact fin F [.cell 4 32, .tmp 5] [.agg #[.slice none 0 0, .slice none 0 0], .int .i64 1] rfl ⟨⟨_, by kernel_rfl, resK S 3 (cs := [.slice none 0 0, .slice none 0 0]) rfl (by kernel_rfl) (by kernel_rfl) (by simp)⟩, by kernel_rfl, trivial⟩ (.tuple #[.agg #[.slice none 0 0, .slice none 0 0], .int .i64 1]) rfl ⟨none, 0, none, 0, rfl, .inr ⟨(fun h9 => absurd h9.1 hlens), ((S.nilRow 107 2).nilRow 62 8).pick [0, 4, 5] (by decide)⟩⟩
 ·
  skip
  have hlA := ht4
  obtain ⟨rfl, rfl⟩ := goX_bad hg (fun h9 => ht4 (by have := h9.1; omega))
  have hlens : ¬ lensP E N A := fun h9 => ht4 (by have := h9.1; omega)
  refine l_do F rfl rfl (op_pure F (v0 := .bool (((E.length : Nat) : Int) != ((A.length : Nat) : Int))) (v := .bool true) (by kernel_rfl) (neqT ht4) fun a F => ?_)
  refine l_pure 10 (fun L => (26, .bool true) :: (25, undef) :: (24, undef) :: (23, undef) :: (22, undef) :: (21, undef) :: (20, undef) :: (19, undef) :: (18, undef) :: (17, .bool true) :: L) F (by kernel_rfl) fun a F => ?_
  refine l_then ?_
  refine c_t F rfl ?_
  refine s_reg ?_
  refine l_pure 1 (fun L => (27, .agg #[.slice none 0 0, .slice none 0 0]) :: L) F (by kernel_rfl) fun a F => ?_
  refine l_do F rfl rfl (op_storeB S 3 _ _ _ b3 0 (.agg #[.slice none 0 0, .slice none 0 0]) F rfl rfl (by kernel_rfl) (by kernel_rfl) (by kernel_rfl) (by kernel_rfl) (by kernel_rfl) fun z S a F => ?_)
  refine l_pure 1 (fun L => (5, .int .i64 1) :: L) F (by kernel_rfl) fun a F => ?_
  refine l_then ?_
  refine wp_ret ?_
  refine then_r (?_)
  exact fin F [.cell 4 32, .tmp 5] [.agg #[.slice none 0 0, .slice none 0 0], .int .i64 1] rfl ⟨⟨_, by kernel_rfl, resK S 3 (cs := [.slice none 0 0, .slice none 0 0]) rfl (by kernel_rfl) (by kernel_rfl) (by simp)⟩, by kernel_rfl, trivial⟩ (.tuple #[.agg #[.slice none 0 0, .slice none 0 0], .int .i64 1]) rfl ⟨none, 0, none, 0, rfl, .inr ⟨(fun h9 => absurd h9.1 hlens), ((S.nilRow 107 2).nilRow 62 8).pick [0, 4, 5] (by decide)⟩⟩
theorem goes_nil (w : World) (As : Option Addr) (cs : Nat) (Ae : Option Addr) (ce : Nat) (x : Wb) (h : WebAt w As cs Ae ce x) (ok : x.Ok) (An : Option Addr) (cn : Nat) (N : List Int) (hN : Recs 1 iC_i64 w An cn N) (Aed : Option Addr) (ced : Nat) (E : List Int) (hE : Recs 1 iC_i64 w Aed ced E) (Aa : Option Addr) (ca : Nat) (A : List Int) (hA : Recs 1 iC_u64 w Aa ca A) (hAu : ∀ a ∈ A, U64 a) (hl1 : x.spots.length ≤ 1000) (hl2 : x.edges.length ≤ 1000) {yr : Wb} {er : Int} (hg : goX x E N A = (yr, er)) (hz : lensP E N A ∧ E.length = 0 ∧ er = 0) : Calls Try.prog 26 #[.agg #[.slice An N.length cn, .slice Aed E.length ced, .slice Aa A.length ca], .agg #[.slice As x.spots.length cs, .slice Ae x.edges.length ce]] w fun e w' => e = .returned (.tuple #[.agg #[.slice As yr.spots.length cs, .slice Ae yr.edges.length ce], .int .i64 er]) ∧ Below w.heap.size w w' := (goes_at w As cs Ae ce x h ok An cn N hN Aed ced E hE Aa ca A hA hAu hl1 hl2 hg).mono fun e w' => by
  rintro ⟨A1, c1, A2, c2, rfl, ⟨_, rfl, rfl, rfl, rfl, S⟩ | ⟨h9, _⟩⟩
  · exact ⟨rfl, S.below (i := 0) rfl⟩
  · exact absurd hz h9
theorem goes_new (w : World) (As : Option Addr) (cs : Nat) (Ae : Option Addr) (ce : Nat) (x : Wb) (h : WebAt w As cs Ae ce x) (ok : x.Ok) (An : Option Addr) (cn : Nat) (N : List Int) (hN : Recs 1 iC_i64 w An cn N) (Aed : Option Addr) (ced : Nat) (E : List Int) (hE : Recs 1 iC_i64 w Aed ced E) (Aa : Option Addr) (ca : Nat) (A : List Int) (hA : Recs 1 iC_u64 w Aa ca A) (hAu : ∀ a ∈ A, U64 a) (hl1 : x.spots.length ≤ 1000) (hl2 : x.edges.length ≤ 1000) {yr : Wb} {er : Int} (hg : goX x E N A = (yr, er)) (hz : ¬ (lensP E N A ∧ E.length = 0 ∧ er = 0)) : Calls Try.prog 26 #[.agg #[.slice An N.length cn, .slice Aed E.length ced, .slice Aa A.length ca], .agg #[.slice As x.spots.length cs, .slice Ae x.edges.length ce]] w fun e w' => ∃ A1 c1 A2 c2, e = .returned (.tuple #[.agg #[.slice A1 yr.spots.length c1, .slice A2 yr.edges.length c2], .int .i64 er]) ∧ Sat w w' [rest w (· < w.heap.size), row 107 2 (.slice A1 yr.spots.length c1) yr.spots.length (yr.spots.flatMap spC), row 62 8 (.slice A2 yr.edges.length c2) yr.edges.length (yr.edges.flatMap edC)] := (goes_at w As cs Ae ce x h ok An cn N hN Aed ced E hE Aa ca A hA hAu hl1 hl2 hg).mono fun e w' => by
  rintro ⟨A1, c1, A2, c2, rfl, ⟨h9, _⟩ | ⟨_, S⟩⟩
  · exact absurd h9 hz
  · exact ⟨A1, c1, A2, c2, rfl, S⟩
end Go.Proofs.Ytcfpbemoocegfaa
